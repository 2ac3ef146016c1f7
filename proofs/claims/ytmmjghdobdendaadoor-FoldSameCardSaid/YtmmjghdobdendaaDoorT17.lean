/- Lemmas and walks on the way to the seat's laws; each theorem says its own conditions. -/
import Derived.Test.YtmmjghdobdendaaDoorT16
import Derived.Deep.DeepCutAuto
set_option linter.unusedSimpArgs false
set_option linter.unusedVariables false
set_option linter.unusedSimpArgs false
set_option linter.unusedVariables false
set_option maxRecDepth 100000
namespace Go.Proofs.YtmmjghdobdendaaDoor
open Go.RowKit Go.Mem Go.Reg Oct Bit Go.Txt Go.Shelf Go.LawLift
theorem head1_cases (c : Nat) : (240 ≤ c ∧ (head1 c).1 = c - 240 ∧ (head1 c).2 = 3) ∨ (224 ≤ c ∧ c < 240 ∧ (head1 c).1 = c - 224 ∧ (head1 c).2 = 2) ∨ (192 ≤ c ∧ c < 224 ∧ (head1 c).1 = c - 192 ∧ (head1 c).2 = 1) ∨ (c < 192 ∧ (head1 c).1 = c ∧ (head1 c).2 = 0) := by
  unfold head1
  by_cases h1 : 240 ≤ c
  · rw [if_pos h1]; exact .inl ⟨h1, rfl, rfl⟩
  · rw [if_neg h1]
    by_cases h2 : 224 ≤ c
    · rw [if_pos h2]; exact .inr (.inl ⟨h2, by omega, rfl, rfl⟩)
    · rw [if_neg h2]
      by_cases h3 : 192 ≤ c
      · rw [if_pos h3]; exact .inr (.inr (.inl ⟨h3, by omega, rfl, rfl⟩))
      · rw [if_neg h3]; exact .inr (.inr (.inr ⟨by omega, rfl, rfl⟩))
set_option maxHeartbeats 4000000 in
theorem rwide_any (l : List UInt8) (v : Value) (hl : l.length ≤ 100000) (w : World) (hb : Bs w v l) :
    Calls Tryd.prog 50 #[v] w (OutW w (wideO l) (right12 l)) := by
  obtain ⟨i0, hi, hz0, hz1, hz2⟩ := info_parts info_i64
  obtain ⟨A, c, rfl, hlc, hcm, hA, hcell⟩ := id hb.open
  have hM := fun x => rmay_any 12 x
  have H := Hp.start w
  have C : True := trivial
  go_enter Tryd.func50, Tryd.ntmps50
  (repeat' ((fail_if_success (with_reducible show bodyPost _ _ _ _ _ _)); first | ((with_reducible refine Hp.abs_alloc H ?_); intro b' w' H' hb'; (try simp only [hb']); clear hb'; ((try simp only [z0, z1, z2] at H'); clear C H; have H := H'; clear H'; have C := Hp.facts H; simp only [Facts, factsL, and_true, true_and, z0, z1, z2] at C)) | ((with_reducible show wpList _ _ _ _ _ (World.setCell _ _ _)); (with_reducible apply Hp.abs_gen H); (first | ((repeat (with_reducible apply Hp.set' 0)); (with_reducible exact H); (repeat rfl); intro w' H') | ((repeat (with_reducible apply Hp.set' 1)); (with_reducible exact H); (repeat rfl); intro w' H') | ((repeat (with_reducible apply Hp.set' 2)); (with_reducible exact H); (repeat rfl); intro w' H') | ((repeat (with_reducible apply Hp.set' 3)); (with_reducible exact H); (repeat rfl); intro w' H') | ((repeat (with_reducible apply Hp.set' 4)); (with_reducible exact H); (repeat rfl); intro w' H') | ((repeat (with_reducible apply Hp.set' 5)); (with_reducible exact H); (repeat rfl); intro w' H') | ((repeat (with_reducible apply Hp.set' 6)); (with_reducible exact H); (repeat rfl); intro w' H') | ((repeat (with_reducible apply Hp.set' 7)); (with_reducible exact H); (repeat rfl); intro w' H')); ((try simp only [z0, z1, z2] at H'); clear C H; have H := H'; clear H'; have C := Hp.facts H; simp only [Facts, factsL, and_true, true_and, z0, z1, z2] at C)) | go_values | go_skip | go_guarded | go_step | go_upon | go_back | (simp only [Int.not_lt, Int.not_le] at *; go_simp) | (go_values <;> (try go_simp)) | (go_ite <;> go_prune <;> (try go_simp)) | (split <;> (first | (rename_i hx; exact (hx _ rfl).elim) | go_prune))))
  go_loopw [4, 5, 6, 7, 8, 9] (fun lv ix _ _ _ _ wr => ∃ (i : Nat) (pre : List Int), i ≤ l.length + 3 ∧ pre.length ≤ i ∧ ix = .int .i64 i ∧ Kp (Come l i pre) ∧ Hp w [.row 3 1 lv pre.length (zvs pre)] wr) (fun _ ix _ _ _ _ _ => l.length + 3 - (intOf ix).toNat)
  case atStart => exact ⟨0, [], by omega, Nat.le_refl _, rfl, Kp.mk (Come.zero l), Hp.nilRow H _ _⟩
  case round =>
    clear H C
    obtain ⟨i, pre, hi1, hi2, rfl, hc, H⟩ := hrel
    obtain ⟨A4, c4, rfl⟩ := Go.LawLift.own_form (ownsOf H 0 rfl)
    have C := Hp.facts H
    simp only [Facts, factsL, and_true, true_and, z0, z1, z2] at C
    by_cases hlt : i < l.length
    · obtain ⟨b, o, rfl, hgl, hcl⟩ := hcell i hlt
      have hbyte := hcl i hlt
      have u1 := l[i].toNat_lt
      have hne : (l.drop i).length = l.length - i := List.length_drop
      have hw : wid1 (l.drop i) = (head1 l[i].toNat).2 + 1 := by
        unfold wid1
        rw [List.getD_eq_getElem?_getD, List.getElem?_drop, show i + 0 = i from rfl, List.getElem?_eq_getElem hlt]
        rfl
      have hla : loose1 (l.drop i) = acc (l.drop i) (head1 l[i].toNat).1 (head1 l[i].toNat).2 := by
        rw [loose1_acc, List.getD_eq_getElem?_getD, List.getElem?_drop, show i + 0 = i from rfl, List.getElem?_eq_getElem hlt]
        rfl
      have hh := head1_le l[i].toNat u1
      have hst := Kp.mk (fun h => hc.out.stop hlt h)
      have hnx := Kp.mk (fun h => hc.out.next hlt h)
      have hac := acc_le (l.drop i) (head1 l[i].toNat).1 (head1 l[i].toNat).2 hh.1 hh.2
      have hd : (240 ≤ l[i].toNat ∧ (head1 l[i].toNat).1 = l[i].toNat - 240 ∧ (head1 l[i].toNat).2 = 3) ∨ (224 ≤ l[i].toNat ∧ l[i].toNat < 240 ∧ (head1 l[i].toNat).1 = l[i].toNat - 224 ∧ (head1 l[i].toNat).2 = 2) ∨ (192 ≤ l[i].toNat ∧ l[i].toNat < 224 ∧ (head1 l[i].toNat).1 = l[i].toNat - 192 ∧ (head1 l[i].toNat).2 = 1) ∨ (l[i].toNat < 192 ∧ (head1 l[i].toNat).1 = l[i].toNat ∧ (head1 l[i].toNat).2 = 0) := head1_cases _
      generalize hdm : (head1 l[i].toNat).1 = m0 at *
      generalize hdk : (head1 l[i].toNat).2 = more at *
      clear hdm hdk
      have hd := Kp.mk hd
      generalize l[i].toNat = x at *
      replace hcl := Kp.mk hcl
      replace hcell := Kp.mk hcell
      go_upto_if 22 with fail
      go_cut [7, 8] (fun sn sm wx => sn = .int .i64 m0 ∧ sm = .int .i64 more ∧ wx = wr)
      case first =>
        rcases hd.out with ⟨h1, rfl, rfl⟩ | ⟨h1, h2, rfl, rfl⟩ | ⟨h1, h2, rfl, rfl⟩ | ⟨h1, rfl, rfl⟩
        all_goals (
          clear hd hst hnx hla hw hac
          go_wp2_with fail
          go_meet
          exact ⟨by go_num, rfl, rfl⟩)
      case rest =>
        obtain ⟨rfl, rfl, rfl⟩ := hcut
        have hacc := Kp.mk (fun j (hj : j ≤ 3) => acc_le (l.drop i) m0 j hh.1 hj)
        have hsucc := Kp.mk (fun j (h : i + (j + 1) < l.length) => acc_succ (l.drop i) m0 j (by omega))
        have hend := Kp.mk (fun j (h : l.length ≤ i + (j + 1)) (h2 : j ≤ more) => acc_end (l.drop i) m0 j more (by omega) h2)
        clear hd
        (repeat' ((fail_if_success (with_reducible show bodyPost _ _ _ _ _ _)); first | ((with_reducible refine Hp.abs_alloc H ?_); intro b' w' H' hb'; (try simp only [hb']); clear hb'; ((try simp only [z0, z1, z2] at H'); clear C H; have H := H'; clear H'; have C := Hp.facts H; simp only [Facts, factsL, and_true, true_and, z0, z1, z2] at C)) | ((with_reducible show wpList _ _ _ _ _ (World.setCell _ _ _)); (with_reducible apply Hp.abs_gen H); (first | ((repeat (with_reducible apply Hp.set' 0)); (with_reducible exact H); (repeat rfl); intro w' H') | ((repeat (with_reducible apply Hp.set' 1)); (with_reducible exact H); (repeat rfl); intro w' H') | ((repeat (with_reducible apply Hp.set' 2)); (with_reducible exact H); (repeat rfl); intro w' H') | ((repeat (with_reducible apply Hp.set' 3)); (with_reducible exact H); (repeat rfl); intro w' H') | ((repeat (with_reducible apply Hp.set' 4)); (with_reducible exact H); (repeat rfl); intro w' H') | ((repeat (with_reducible apply Hp.set' 5)); (with_reducible exact H); (repeat rfl); intro w' H') | ((repeat (with_reducible apply Hp.set' 6)); (with_reducible exact H); (repeat rfl); intro w' H') | ((repeat (with_reducible apply Hp.set' 7)); (with_reducible exact H); (repeat rfl); intro w' H')); ((try simp only [z0, z1, z2] at H'); clear C H; have H := H'; clear H'; have C := Hp.facts H; simp only [Facts, factsL, and_true, true_and, z0, z1, z2] at C)) | go_values | go_skip | go_guarded | go_step | go_upon | go_back | (simp only [Int.not_lt, Int.not_le] at *; go_simp) | (go_values <;> (try go_simp)) | (go_ite <;> go_prune <;> (try go_simp)) | (split <;> (first | (rename_i hx; exact (hx _ rfl).elim) | go_prune))))
        go_loopw [7, 9] (fun sn sk wy => ∃ j : Nat, j ≤ more ∧ i + j < l.length ∧ sk = .int .i64 ((j : Int) + 1) ∧ sn = .int .i64 (acc (l.drop i) m0 j) ∧ wy = wc) (fun _ sk _ => more + 1 - (intOf sk).toNat)
        case atStart => exact ⟨0, Nat.zero_le _, hlt, rfl, rfl, rfl⟩
        case round =>
          obtain ⟨j, hj1, hj2, rfl, rfl, rfl⟩ := hrel
          have ga := hacc.out j (by omega)
          by_cases h1 : j + 1 ≤ more
          · by_cases h2 : i + (j + 1) < l.length
            · have hs := Kp.mk (hsucc.out j h2)
              have hb2 := hcl.out (i + (j + 1)) h2
              have e3 : (l.drop i)[j + 1]'(by omega) = l[i + (j + 1)] := by simp
              rw [e3] at hs
              have u3 := l[i + (j + 1)].toNat_lt
              clear e3
              generalize l[i + (j + 1)].toNat = y at *
              generalize hq : acc (l.drop i) m0 j = q at *
              clear hq
              (repeat' ((fail_if_success (with_reducible show bodyPost _ _ _ _ _ _)); first | ((with_reducible refine Hp.abs_alloc H ?_); intro b' w' H' hb'; (try simp only [hb']); clear hb'; ((try simp only [z0, z1, z2] at H'); clear C H; have H := H'; clear H'; have C := Hp.facts H; simp only [Facts, factsL, and_true, true_and, z0, z1, z2] at C)) | ((with_reducible show wpList _ _ _ _ _ (World.setCell _ _ _)); (with_reducible apply Hp.abs_gen H); (first | ((repeat (with_reducible apply Hp.set' 0)); (with_reducible exact H); (repeat rfl); intro w' H') | ((repeat (with_reducible apply Hp.set' 1)); (with_reducible exact H); (repeat rfl); intro w' H') | ((repeat (with_reducible apply Hp.set' 2)); (with_reducible exact H); (repeat rfl); intro w' H') | ((repeat (with_reducible apply Hp.set' 3)); (with_reducible exact H); (repeat rfl); intro w' H') | ((repeat (with_reducible apply Hp.set' 4)); (with_reducible exact H); (repeat rfl); intro w' H') | ((repeat (with_reducible apply Hp.set' 5)); (with_reducible exact H); (repeat rfl); intro w' H') | ((repeat (with_reducible apply Hp.set' 6)); (with_reducible exact H); (repeat rfl); intro w' H') | ((repeat (with_reducible apply Hp.set' 7)); (with_reducible exact H); (repeat rfl); intro w' H')); ((try simp only [z0, z1, z2] at H'); clear C H; have H := H'; clear H'; have C := Hp.facts H; simp only [Facts, factsL, and_true, true_and, z0, z1, z2] at C)) | go_values | go_skip | go_guarded | go_step | go_upon | go_back | (simp only [Int.not_lt, Int.not_le] at *; go_simp) | (go_values <;> (try go_simp)) | (go_ite <;> go_prune <;> (try go_simp)) | (split <;> (first | (rename_i hx; exact (hx _ rfl).elim) | go_prune))))
              refine ⟨⟨j + 1, h1, h2, rfl, ?_, trivial⟩, by simp [intOf]; omega⟩
              rw [hs.out]
              rfl
            · have he := hend.out j (by omega) (by omega)
              have hla2 := hla.trans he
              have hst2 := hst
              have hnx2 := hnx
              rw [hla2] at hst2 hnx2
              rw [hw] at hnx2
              replace hst2 := hst2.out
              replace hnx2 := hnx2.out
              clear he hla hla2 hst hnx hacc hsucc hend hac hw
              generalize acc (l.drop i) m0 j = q at *
              by_cases hbig : 1114111 < q
              · have h := Kp.mk (loose_none (hst2 hbig))
                clear hst2 hnx2
                (repeat' ((fail_if_success (with_reducible show bodyPost _ _ _ _ _ _)); first | ((with_reducible refine Hp.abs_alloc H ?_); intro b' w' H' hb'; (try simp only [hb']); clear hb'; ((try simp only [z0, z1, z2] at H'); clear C H; have H := H'; clear H'; have C := Hp.facts H; simp only [Facts, factsL, and_true, true_and, z0, z1, z2] at C)) | ((with_reducible show wpList _ _ _ _ _ (World.setCell _ _ _)); (with_reducible apply Hp.abs_gen H); (first | ((repeat (with_reducible apply Hp.set' 0)); (with_reducible exact H); (repeat rfl); intro w' H') | ((repeat (with_reducible apply Hp.set' 1)); (with_reducible exact H); (repeat rfl); intro w' H') | ((repeat (with_reducible apply Hp.set' 2)); (with_reducible exact H); (repeat rfl); intro w' H') | ((repeat (with_reducible apply Hp.set' 3)); (with_reducible exact H); (repeat rfl); intro w' H') | ((repeat (with_reducible apply Hp.set' 4)); (with_reducible exact H); (repeat rfl); intro w' H') | ((repeat (with_reducible apply Hp.set' 5)); (with_reducible exact H); (repeat rfl); intro w' H') | ((repeat (with_reducible apply Hp.set' 6)); (with_reducible exact H); (repeat rfl); intro w' H') | ((repeat (with_reducible apply Hp.set' 7)); (with_reducible exact H); (repeat rfl); intro w' H')); ((try simp only [z0, z1, z2] at H'); clear C H; have H := H'; clear H'; have C := Hp.facts H; simp only [Facts, factsL, and_true, true_and, z0, z1, z2] at C)) | go_values | go_skip | go_guarded | go_step | go_upon | go_back | (simp only [Int.not_lt, Int.not_le] at *; go_simp) | (go_values <;> (try go_simp)) | (go_ite <;> go_prune <;> (try go_simp)) | (split <;> (first | (rename_i hx; exact (hx _ rfl).elim) | go_prune))))
                go_ret2
                rw [h.out, wide_no h.out]
                exact OutW.none rfl H.low
              · have hn := Kp.mk (hnx2 hbig)
                clear hst2 hnx2
                (repeat' ((fail_if_success (with_reducible show bodyPost _ _ _ _ _ _)); first | ((with_reducible refine Hp.abs_alloc H ?_); intro b' w' H' hb'; (try simp only [hb']); clear hb'; ((try simp only [z0, z1, z2] at H'); clear C H; have H := H'; clear H'; have C := Hp.facts H; simp only [Facts, factsL, and_true, true_and, z0, z1, z2] at C)) | ((with_reducible show wpList _ _ _ _ _ (World.setCell _ _ _)); (with_reducible apply Hp.abs_gen H); (first | ((repeat (with_reducible apply Hp.set' 0)); (with_reducible exact H); (repeat rfl); intro w' H') | ((repeat (with_reducible apply Hp.set' 1)); (with_reducible exact H); (repeat rfl); intro w' H') | ((repeat (with_reducible apply Hp.set' 2)); (with_reducible exact H); (repeat rfl); intro w' H') | ((repeat (with_reducible apply Hp.set' 3)); (with_reducible exact H); (repeat rfl); intro w' H') | ((repeat (with_reducible apply Hp.set' 4)); (with_reducible exact H); (repeat rfl); intro w' H') | ((repeat (with_reducible apply Hp.set' 5)); (with_reducible exact H); (repeat rfl); intro w' H') | ((repeat (with_reducible apply Hp.set' 6)); (with_reducible exact H); (repeat rfl); intro w' H') | ((repeat (with_reducible apply Hp.set' 7)); (with_reducible exact H); (repeat rfl); intro w' H')); ((try simp only [z0, z1, z2] at H'); clear C H; have H := H'; clear H'; have C := Hp.facts H; simp only [Facts, factsL, and_true, true_and, z0, z1, z2] at C)) | (at_builtin; (refine wpList_append_hp H 1 rfl _ _ _ rfl Tryd.underlying22 hi hz0 hz1 hz2 rfl (by decide) rfl rfl rfl (news := [_]) rfl (fun h => by cases h) (fun _ => ⟨_, rfl, blk_news (H.get 0 rfl)⟩) (by simp [Value.oneCell']) (by unfold maxLen; omega) (by omega) ?_); intro v' w' H'; ((try simp only [z0, z1, z2] at H'); clear C H; have H := H'; clear H'; have C := Hp.facts H; simp only [Facts, factsL, and_true, true_and, z0, z1, z2] at C)) | go_values | go_skip | go_guarded | go_step | go_upon | go_back | (simp only [Int.not_lt, Int.not_le] at *; go_simp) | (go_values <;> (try go_simp)) | (go_ite <;> go_prune <;> (try go_simp)) | (split <;> (first | (rename_i hx; exact (hx _ rfl).elim) | go_prune))))
                refine ⟨⟨i + (more + 1), pre ++ [(q : Int)], by omega, by rw [List.length_append, List.length_singleton]; omega, by go_num, hn, ?_⟩, by simp [intOf]; omega⟩
                rw [List.length_append, ← zvs_snoc]
                exact H.tail
          · obtain rfl : j = more := by omega
            have he : acc (l.drop i) m0 j = acc (l.drop i) m0 j := rfl
            have hla2 := hla.trans he
            have hst2 := hst
            have hnx2 := hnx
            rw [hla2] at hst2 hnx2
            rw [hw] at hnx2
            replace hst2 := hst2.out
            replace hnx2 := hnx2.out
            clear he hla hla2 hst hnx hacc hsucc hend hac hw
            generalize acc (l.drop i) m0 j = q at *
            by_cases hbig : 1114111 < q
            · have h := Kp.mk (loose_none (hst2 hbig))
              clear hst2 hnx2
              (repeat' ((fail_if_success (with_reducible show bodyPost _ _ _ _ _ _)); first | ((with_reducible refine Hp.abs_alloc H ?_); intro b' w' H' hb'; (try simp only [hb']); clear hb'; ((try simp only [z0, z1, z2] at H'); clear C H; have H := H'; clear H'; have C := Hp.facts H; simp only [Facts, factsL, and_true, true_and, z0, z1, z2] at C)) | ((with_reducible show wpList _ _ _ _ _ (World.setCell _ _ _)); (with_reducible apply Hp.abs_gen H); (first | ((repeat (with_reducible apply Hp.set' 0)); (with_reducible exact H); (repeat rfl); intro w' H') | ((repeat (with_reducible apply Hp.set' 1)); (with_reducible exact H); (repeat rfl); intro w' H') | ((repeat (with_reducible apply Hp.set' 2)); (with_reducible exact H); (repeat rfl); intro w' H') | ((repeat (with_reducible apply Hp.set' 3)); (with_reducible exact H); (repeat rfl); intro w' H') | ((repeat (with_reducible apply Hp.set' 4)); (with_reducible exact H); (repeat rfl); intro w' H') | ((repeat (with_reducible apply Hp.set' 5)); (with_reducible exact H); (repeat rfl); intro w' H') | ((repeat (with_reducible apply Hp.set' 6)); (with_reducible exact H); (repeat rfl); intro w' H') | ((repeat (with_reducible apply Hp.set' 7)); (with_reducible exact H); (repeat rfl); intro w' H')); ((try simp only [z0, z1, z2] at H'); clear C H; have H := H'; clear H'; have C := Hp.facts H; simp only [Facts, factsL, and_true, true_and, z0, z1, z2] at C)) | go_values | go_skip | go_guarded | go_step | go_upon | go_back | (simp only [Int.not_lt, Int.not_le] at *; go_simp) | (go_values <;> (try go_simp)) | (go_ite <;> go_prune <;> (try go_simp)) | (split <;> (first | (rename_i hx; exact (hx _ rfl).elim) | go_prune))))
              go_ret2
              rw [h.out, wide_no h.out]
              exact OutW.none rfl H.low
            · have hn := Kp.mk (hnx2 hbig)
              clear hst2 hnx2
              (repeat' ((fail_if_success (with_reducible show bodyPost _ _ _ _ _ _)); first | ((with_reducible refine Hp.abs_alloc H ?_); intro b' w' H' hb'; (try simp only [hb']); clear hb'; ((try simp only [z0, z1, z2] at H'); clear C H; have H := H'; clear H'; have C := Hp.facts H; simp only [Facts, factsL, and_true, true_and, z0, z1, z2] at C)) | ((with_reducible show wpList _ _ _ _ _ (World.setCell _ _ _)); (with_reducible apply Hp.abs_gen H); (first | ((repeat (with_reducible apply Hp.set' 0)); (with_reducible exact H); (repeat rfl); intro w' H') | ((repeat (with_reducible apply Hp.set' 1)); (with_reducible exact H); (repeat rfl); intro w' H') | ((repeat (with_reducible apply Hp.set' 2)); (with_reducible exact H); (repeat rfl); intro w' H') | ((repeat (with_reducible apply Hp.set' 3)); (with_reducible exact H); (repeat rfl); intro w' H') | ((repeat (with_reducible apply Hp.set' 4)); (with_reducible exact H); (repeat rfl); intro w' H') | ((repeat (with_reducible apply Hp.set' 5)); (with_reducible exact H); (repeat rfl); intro w' H') | ((repeat (with_reducible apply Hp.set' 6)); (with_reducible exact H); (repeat rfl); intro w' H') | ((repeat (with_reducible apply Hp.set' 7)); (with_reducible exact H); (repeat rfl); intro w' H')); ((try simp only [z0, z1, z2] at H'); clear C H; have H := H'; clear H'; have C := Hp.facts H; simp only [Facts, factsL, and_true, true_and, z0, z1, z2] at C)) | (at_builtin; (refine wpList_append_hp H 1 rfl _ _ _ rfl Tryd.underlying22 hi hz0 hz1 hz2 rfl (by decide) rfl rfl rfl (news := [_]) rfl (fun h => by cases h) (fun _ => ⟨_, rfl, blk_news (H.get 0 rfl)⟩) (by simp [Value.oneCell']) (by unfold maxLen; omega) (by omega) ?_); intro v' w' H'; ((try simp only [z0, z1, z2] at H'); clear C H; have H := H'; clear H'; have C := Hp.facts H; simp only [Facts, factsL, and_true, true_and, z0, z1, z2] at C)) | go_values | go_skip | go_guarded | go_step | go_upon | go_back | (simp only [Int.not_lt, Int.not_le] at *; go_simp) | (go_values <;> (try go_simp)) | (go_ite <;> go_prune <;> (try go_simp)) | (split <;> (first | (rename_i hx; exact (hx _ rfl).elim) | go_prune))))
              refine ⟨⟨i + (j + 1), by omega, pre ++ [(q : Int)], by rw [List.length_append, List.length_singleton]; omega, by go_num, hn, ?_⟩, by simp [intOf]; omega⟩
              rw [List.length_append, ← zvs_snoc]
              exact H.tail
    · have hlo := hc.out.done (by omega)
      have hbad := Kp.mk (fun h => loose_bad hlo h)
      have hnee := Kp.mk (fun h => loose_ne hlo h)
      have hgood := Kp.mk (fun h h2 => loose_eq hlo h h2)
      clear hc hcell hlo
      (repeat' ((fail_if_success (with_reducible show bodyPost _ _ _ _ _ _)); first | ((with_reducible refine Hp.abs_alloc H ?_); intro b' w' H' hb'; (try simp only [hb']); clear hb'; ((try simp only [z0, z1, z2] at H'); clear C H; have H := H'; clear H'; have C := Hp.facts H; simp only [Facts, factsL, and_true, true_and, z0, z1, z2] at C)) | ((with_reducible show wpList _ _ _ _ _ (World.setCell _ _ _)); (with_reducible apply Hp.abs_gen H); (first | ((repeat (with_reducible apply Hp.set' 0)); (with_reducible exact H); (repeat rfl); intro w' H') | ((repeat (with_reducible apply Hp.set' 1)); (with_reducible exact H); (repeat rfl); intro w' H') | ((repeat (with_reducible apply Hp.set' 2)); (with_reducible exact H); (repeat rfl); intro w' H') | ((repeat (with_reducible apply Hp.set' 3)); (with_reducible exact H); (repeat rfl); intro w' H') | ((repeat (with_reducible apply Hp.set' 4)); (with_reducible exact H); (repeat rfl); intro w' H') | ((repeat (with_reducible apply Hp.set' 5)); (with_reducible exact H); (repeat rfl); intro w' H') | ((repeat (with_reducible apply Hp.set' 6)); (with_reducible exact H); (repeat rfl); intro w' H') | ((repeat (with_reducible apply Hp.set' 7)); (with_reducible exact H); (repeat rfl); intro w' H')); ((try simp only [z0, z1, z2] at H'); clear C H; have H := H'; clear H'; have C := Hp.facts H; simp only [Facts, factsL, and_true, true_and, z0, z1, z2] at C)) | go_values | go_skip | go_guarded | go_step | go_upon | go_back | (simp only [Int.not_lt, Int.not_le] at *; go_simp) | (go_values <;> (try go_simp)) | (go_ite <;> go_prune <;> (try go_simp)) | (split <;> (first | (rename_i hx; exact (hx _ rfl).elim) | go_prune))))
      go_loopw [10] (fun ix wy => ∃ j : Nat, j ≤ pre.length ∧ ix = .int .i64 j ∧ Kp ((pre.take j).all (may 12) = true) ∧ Hp w [.row 3 1 (.slice A4 pre.length c4) pre.length (zvs pre)] wy) (fun ix _ => pre.length - (intOf ix).toNat)
      case atStart => exact ⟨0, Nat.zero_le _, rfl, Kp.mk rfl, H⟩
      case round =>
        clear H C
        obtain ⟨j, hj, rfl, ha, H⟩ := hrel
        have C := Hp.facts H
        simp only [Facts, factsL, and_true, true_and, z0, z1, z2] at C
        by_cases hjl : j < pre.length
        · obtain ⟨b, o, rfl, hgl, hc⟩ := Zs.at (xs := pre) (Hp.row H 0 rfl) j hjl
          have hM1 := hM pre[j]
          cases hm : may 12 pre[j] with
          | false =>
            have hr := Kp.mk (hbad.out (all_at_no hjl hm))
            rw [hm] at hM1
            clear hm hbad hnee hgood ha
            generalize pre[j] = x at *
            (repeat' ((fail_if_success (with_reducible show bodyPost _ _ _ _ _ _)); first | ((with_reducible refine Hp.abs_alloc H ?_); intro b' w' H' hb'; (try simp only [hb']); clear hb'; ((try simp only [z0, z1, z2] at H'); clear C H; have H := H'; clear H'; have C := Hp.facts H; simp only [Facts, factsL, and_true, true_and, z0, z1, z2] at C)) | ((with_reducible show wpList _ _ _ _ _ (World.setCell _ _ _)); (with_reducible apply Hp.abs_gen H); (first | ((repeat (with_reducible apply Hp.set' 0)); (with_reducible exact H); (repeat rfl); intro w' H') | ((repeat (with_reducible apply Hp.set' 1)); (with_reducible exact H); (repeat rfl); intro w' H') | ((repeat (with_reducible apply Hp.set' 2)); (with_reducible exact H); (repeat rfl); intro w' H') | ((repeat (with_reducible apply Hp.set' 3)); (with_reducible exact H); (repeat rfl); intro w' H') | ((repeat (with_reducible apply Hp.set' 4)); (with_reducible exact H); (repeat rfl); intro w' H') | ((repeat (with_reducible apply Hp.set' 5)); (with_reducible exact H); (repeat rfl); intro w' H') | ((repeat (with_reducible apply Hp.set' 6)); (with_reducible exact H); (repeat rfl); intro w' H') | ((repeat (with_reducible apply Hp.set' 7)); (with_reducible exact H); (repeat rfl); intro w' H')); ((try simp only [z0, z1, z2] at H'); clear C H; have H := H'; clear H'; have C := Hp.facts H; simp only [Facts, factsL, and_true, true_and, z0, z1, z2] at C)) | (go_at_call 51; refine (hM1 _).mono ?_; rintro e' w' ⟨rfl, hb'⟩; (have H' := Hp.step H hb'; clear hb'; ((try simp only [z0, z1, z2] at H'); clear C H; have H := H'; clear H'; have C := Hp.facts H; simp only [Facts, factsL, and_true, true_and, z0, z1, z2] at C))) | go_values | go_skip | go_guarded | go_step | go_upon | go_back | (simp only [Int.not_lt, Int.not_le] at *; go_simp) | (go_values <;> (try go_simp)) | (go_ite <;> go_prune <;> (try go_simp)) | (split <;> (first | (rename_i hx; exact (hx _ rfl).elim) | go_prune))))
            go_ret2
            rw [hr.out, wide_no hr.out]
            exact OutW.none rfl H.low
          | true =>
            have ha2 := Kp.mk (all_take_succ hjl ha.out hm)
            rw [hm] at hM1
            clear hm hbad hnee hgood ha
            generalize pre[j] = x at *
            (repeat' ((fail_if_success (with_reducible show bodyPost _ _ _ _ _ _)); first | ((with_reducible refine Hp.abs_alloc H ?_); intro b' w' H' hb'; (try simp only [hb']); clear hb'; ((try simp only [z0, z1, z2] at H'); clear C H; have H := H'; clear H'; have C := Hp.facts H; simp only [Facts, factsL, and_true, true_and, z0, z1, z2] at C)) | ((with_reducible show wpList _ _ _ _ _ (World.setCell _ _ _)); (with_reducible apply Hp.abs_gen H); (first | ((repeat (with_reducible apply Hp.set' 0)); (with_reducible exact H); (repeat rfl); intro w' H') | ((repeat (with_reducible apply Hp.set' 1)); (with_reducible exact H); (repeat rfl); intro w' H') | ((repeat (with_reducible apply Hp.set' 2)); (with_reducible exact H); (repeat rfl); intro w' H') | ((repeat (with_reducible apply Hp.set' 3)); (with_reducible exact H); (repeat rfl); intro w' H') | ((repeat (with_reducible apply Hp.set' 4)); (with_reducible exact H); (repeat rfl); intro w' H') | ((repeat (with_reducible apply Hp.set' 5)); (with_reducible exact H); (repeat rfl); intro w' H') | ((repeat (with_reducible apply Hp.set' 6)); (with_reducible exact H); (repeat rfl); intro w' H') | ((repeat (with_reducible apply Hp.set' 7)); (with_reducible exact H); (repeat rfl); intro w' H')); ((try simp only [z0, z1, z2] at H'); clear C H; have H := H'; clear H'; have C := Hp.facts H; simp only [Facts, factsL, and_true, true_and, z0, z1, z2] at C)) | (go_at_call 51; refine (hM1 _).mono ?_; rintro e' w' ⟨rfl, hb'⟩; (have H' := Hp.step H hb'; clear hb'; ((try simp only [z0, z1, z2] at H'); clear C H; have H := H'; clear H'; have C := Hp.facts H; simp only [Facts, factsL, and_true, true_and, z0, z1, z2] at C))) | go_values | go_skip | go_guarded | go_step | go_upon | go_back | (simp only [Int.not_lt, Int.not_le] at *; go_simp) | (go_values <;> (try go_simp)) | (go_ite <;> go_prune <;> (try go_simp)) | (split <;> (first | (rename_i hx; exact (hx _ rfl).elim) | go_prune))))
            exact ⟨⟨j + 1, by omega, by go_num, ha2, H⟩, by simp [intOf]; omega⟩
        · have ha' : pre.all (may 12) = true := by
            have := ha.out
            rwa [List.take_of_length_le (by omega)] at this
          have hO := fun w v hb => rutf8_any pre v ha' (by omega) w hb
          replace hgood := Kp.mk (hgood.out ha')
          clear hbad ha ha' hM
          (repeat' ((fail_if_success (with_reducible show bodyPost _ _ _ _ _ _)); first | ((with_reducible refine Hp.abs_alloc H ?_); intro b' w' H' hb'; (try simp only [hb']); clear hb'; ((try simp only [z0, z1, z2] at H'); clear C H; have H := H'; clear H'; have C := Hp.facts H; simp only [Facts, factsL, and_true, true_and, z0, z1, z2] at C)) | ((with_reducible show wpList _ _ _ _ _ (World.setCell _ _ _)); (with_reducible apply Hp.abs_gen H); (first | ((repeat (with_reducible apply Hp.set' 0)); (with_reducible exact H); (repeat rfl); intro w' H') | ((repeat (with_reducible apply Hp.set' 1)); (with_reducible exact H); (repeat rfl); intro w' H') | ((repeat (with_reducible apply Hp.set' 2)); (with_reducible exact H); (repeat rfl); intro w' H') | ((repeat (with_reducible apply Hp.set' 3)); (with_reducible exact H); (repeat rfl); intro w' H') | ((repeat (with_reducible apply Hp.set' 4)); (with_reducible exact H); (repeat rfl); intro w' H') | ((repeat (with_reducible apply Hp.set' 5)); (with_reducible exact H); (repeat rfl); intro w' H') | ((repeat (with_reducible apply Hp.set' 6)); (with_reducible exact H); (repeat rfl); intro w' H') | ((repeat (with_reducible apply Hp.set' 7)); (with_reducible exact H); (repeat rfl); intro w' H')); ((try simp only [z0, z1, z2] at H'); clear C H; have H := H'; clear H'; have C := Hp.facts H; simp only [Facts, factsL, and_true, true_and, z0, z1, z2] at C)) | go_values | go_skip | go_guarded | go_step | go_upon | go_back | (simp only [Int.not_lt, Int.not_le] at *; go_simp) | (go_values <;> (try go_simp)) | (go_ite <;> go_prune <;> (try go_simp)) | (split <;> (first | (rename_i hx; exact (hx _ rfl).elim) | go_prune))))
          by_cases heq : enc pre = l
          · have hg := Kp.mk (hgood.out heq)
            clear hgood hnee
            subst heq
            try simp (disch := omega) only [decide_eq_true, decide_eq_false]
            obtain ⟨wR25, rfl⟩ := Hp.nameW H
            apply region_n (frm wR25.heap.size (fun _ => Hp _ _)) (frm_ok ?hfs_1) frm_sz [] [.light 0 0, .light 0 0, .light 0 0, .light 0 0, .light 0 0, .light 0 0] [false, true, false, false, false, false] 6 86 [] [some 79, some 80, some 81, some 82, some 83, some 84] [[], [0], [1], [], [3], [2, 4]] [Eq1 _, RowJ wR25.heap.size _ _ _, Eq1 (.string ⟨(enc pre).toArray⟩), Eq1 _, Eq1 (.string ⟨(enc pre).toArray⟩), Eq1 (.bool false)] ?hq1_1 ?hq2_1 ?hq3_1 ?hq4_1 ?hq5_1 ?hq6_1 _ ?hA_1 ?hst_1 ?h0_1 ?hsteps_1 ?hend_1
            case hq1_1 => kernel_rfl
            case hq2_1 => kernel_rfl
            case hq3_1 => kernel_rfl
            case hq5_1 => kernel_rfl
            case hq4_1 => rfl
            case hq6_1 => rfl
            case hA_1 => intro vs; simp only [fillD, Nat.reduceAdd, Act.put, List.setIfInBounds_toArray, List.set_cons_zero, List.set_cons_succ]; rfl
            case h0_1 => exact H.drew
            case hfs_1 => exact fun _ _ _ hb h => Hp.step h hb
            case hsteps_1 =>
              refine ⟨?_, ?_, ?_, ?_, ?_, ?_, trivial⟩
              · intro p vs w' K hJ hp1 hp2 hS hR hK
                rw [if_pos (by rfl)]
                go_step
                exact hK.out _ _ (Below.refl _ _) Eq1.mk Fresh.no
              · intro p vs w' K hJ hp1 hp2 hS hR hK
                simp only [DepJ, List.getD_cons_zero, List.getD_cons_succ] at hJ
                obtain ⟨j0, -⟩ := hJ
                have j0 := Eq1.out j0
                simp only [j0] at hK ⊢
                rw [if_pos (by rfl)]
                have C := Hp.facts hS
                simp only [Facts, factsL, and_true, true_and, z0, z1, z2] at C
                have hsz := hR.1
                go_step
                refine (hO _ _ (Hp.row hS 0 rfl)).mono ?_
                rintro e' w'' ⟨⟨v', rfl, ho⟩, hb⟩
                exact hK.out _ _ hb (RowJ.mk hR.1 ho) (Fresh.row ho)
              · intro p vs w' K hJ hp1 hp2 hS hR hK
                simp only [DepJ, List.getD_cons_zero, List.getD_cons_succ] at hJ
                obtain ⟨j1, -⟩ := hJ
                have jo1 := j1
                obtain ⟨A1, c1, j1⟩ := Go.LawLift.own_form jo1
                rw [j1] at jo1
                simp only [j1] at hK ⊢
                rw [if_pos (by rfl)]
                refine wp_string _ _ _ rfl Tryd.underlying23 Tryd.underlying5 Tryd.underlying9 rfl jo1.bs ?_
                exact hK.out _ _ (Below.refl _ _) Eq1.mk Fresh.no
              · intro p vs w' K hJ hp1 hp2 hS hR hK
                rw [if_pos (by rfl)]
                go_step
                exact hK.out _ _ (Below.refl _ _) Eq1.mk Fresh.no
              · intro p vs w' K hJ hp1 hp2 hS hR hK
                simp only [DepJ, List.getD_cons_zero, List.getD_cons_succ] at hJ
                obtain ⟨j3, -⟩ := hJ
                have j3 := Eq1.out j3
                simp only [j3] at hK ⊢
                rw [if_pos (by rfl)]
                replace hS : Hp _ _ _ := hS
                refine wp_string _ _ _ rfl Tryd.underlying23 Tryd.underlying5 Tryd.underlying9 rfl (Hp.bs hS hb) ?_
                exact hK.out _ _ (Below.refl _ _) Eq1.mk Fresh.no
              · intro p vs w' K hJ hp1 hp2 hS hR hK
                simp only [DepJ, List.getD_cons_zero, List.getD_cons_succ] at hJ
                obtain ⟨j2, j4, -⟩ := hJ
                have j2 := Eq1.out j2
                have j4 := Eq1.out j4
                simp only [j2, j4] at hK ⊢
                rw [if_pos (by rfl)]
                go_step
                exact hK.out _ _ (Below.refl _ _) (Eq1.of (by simp)) Fresh.no
            case hst_1 => refine ⟨fun _ _ _ _ h => h, fun _ _ _ hs h => RowJ.stay hs h, fun _ _ _ _ h => h, fun _ _ _ _ h => h, fun _ _ _ _ h => h, fun _ _ _ _ h => h, trivial⟩
            intro vs w' hJ hD hS hR
            simp only [AllJ, Nat.reduceAdd] at hJ
            obtain ⟨v0, v1, v2, v3, v4, v5, -⟩ := hJ
            clear C
            replace v0 := Eq1.out v0
            replace v2 := Eq1.out v2
            replace v3 := Eq1.out v3
            replace v4 := Eq1.out v4
            replace v5 := Eq1.out v5
            obtain ⟨A1, c1, e1⟩ := Go.LawLift.own_form v1
            replace v1 := (show World.ownsRow _ _ _ _ _ _ _ from v1)
            rw [e1] at v1
            simp only [v0, v2, v3, v4, v5, e1, List.drop_succ_cons, List.drop_zero]
            refine wpList_nil' ?_
            replace hS : Hp _ _ _ := hS
            have H' := Hp.adopts hS H.low.size (fun k hk => Hp.lows H k hk) [.row _ 1 (.slice A1 _ c1) _ _] (by intro x hx; simp only [List.mem_cons, List.not_mem_nil, or_false] at hx; subst hx; exact v1) (nodup1 _)
            simp only [List.cons_append, List.nil_append] at H'
            clear hD hR hS v0 v1 v2 v3 v4 v5
            clear e1
            clear vs H
            have H := H'; clear H'; have C := Hp.facts H; simp only [Facts, factsL, and_true, true_and, z0, z1, z2] at C
            (repeat' ((fail_if_success (with_reducible show bodyPost _ _ _ _ _ _)); first | ((with_reducible refine Hp.abs_alloc H ?_); intro b' w' H' hb'; (try simp only [hb']); clear hb'; ((try simp only [z0, z1, z2] at H'); clear C H; have H := H'; clear H'; have C := Hp.facts H; simp only [Facts, factsL, and_true, true_and, z0, z1, z2] at C)) | ((with_reducible show wpList _ _ _ _ _ (World.setCell _ _ _)); (with_reducible apply Hp.abs_gen H); (first | ((repeat (with_reducible apply Hp.set' 0)); (with_reducible exact H); (repeat rfl); intro w' H') | ((repeat (with_reducible apply Hp.set' 1)); (with_reducible exact H); (repeat rfl); intro w' H') | ((repeat (with_reducible apply Hp.set' 2)); (with_reducible exact H); (repeat rfl); intro w' H') | ((repeat (with_reducible apply Hp.set' 3)); (with_reducible exact H); (repeat rfl); intro w' H') | ((repeat (with_reducible apply Hp.set' 4)); (with_reducible exact H); (repeat rfl); intro w' H') | ((repeat (with_reducible apply Hp.set' 5)); (with_reducible exact H); (repeat rfl); intro w' H') | ((repeat (with_reducible apply Hp.set' 6)); (with_reducible exact H); (repeat rfl); intro w' H') | ((repeat (with_reducible apply Hp.set' 7)); (with_reducible exact H); (repeat rfl); intro w' H')); ((try simp only [z0, z1, z2] at H'); clear C H; have H := H'; clear H'; have C := Hp.facts H; simp only [Facts, factsL, and_true, true_and, z0, z1, z2] at C)) | go_values | go_skip | go_guarded | go_step | go_upon | go_back | (simp only [Int.not_lt, Int.not_le] at *; go_simp) | (go_values <;> (try go_simp)) | (go_ite <;> go_prune <;> (try go_simp)) | (split <;> (first | (rename_i hx; exact (hx _ rfl).elim) | go_prune))))
            go_ret2
            rw [hg.out.1, hg.out.2]
            exact ⟨⟨_, rfl, ownsOf H 1 rfl⟩, H.low⟩
          · have hr := Kp.mk (hnee.out heq)
            clear hgood hnee
            try simp (disch := omega) only [decide_eq_true, decide_eq_false]
            obtain ⟨wR25, rfl⟩ := Hp.nameW H
            apply region_n (frm wR25.heap.size (fun _ => Hp _ _)) (frm_ok ?hfs_2) frm_sz [] [.light 0 0, .light 0 0, .light 0 0, .light 0 0, .light 0 0, .light 0 0] [false, true, false, false, false, false] 6 86 [] [some 79, some 80, some 81, some 82, some 83, some 84] [[], [0], [1], [], [3], [2, 4]] [Eq1 _, RowJ wR25.heap.size _ _ _, Eq1 (.string ⟨(enc pre).toArray⟩), Eq1 _, Eq1 (.string ⟨l.toArray⟩), Eq1 (.bool true)] ?hq1_2 ?hq2_2 ?hq3_2 ?hq4_2 ?hq5_2 ?hq6_2 _ ?hA_2 ?hst_2 ?h0_2 ?hsteps_2 ?hend_2
            case hq1_2 => kernel_rfl
            case hq2_2 => kernel_rfl
            case hq3_2 => kernel_rfl
            case hq5_2 => kernel_rfl
            case hq4_2 => rfl
            case hq6_2 => rfl
            case hA_2 => intro vs; simp only [fillD, Nat.reduceAdd, Act.put, List.setIfInBounds_toArray, List.set_cons_zero, List.set_cons_succ]; rfl
            case h0_2 => exact H.drew
            case hfs_2 => exact fun _ _ _ hb h => Hp.step h hb
            case hsteps_2 =>
              refine ⟨?_, ?_, ?_, ?_, ?_, ?_, trivial⟩
              · intro p vs w' K hJ hp1 hp2 hS hR hK
                rw [if_pos (by rfl)]
                go_step
                exact hK.out _ _ (Below.refl _ _) Eq1.mk Fresh.no
              · intro p vs w' K hJ hp1 hp2 hS hR hK
                simp only [DepJ, List.getD_cons_zero, List.getD_cons_succ] at hJ
                obtain ⟨j0, -⟩ := hJ
                have j0 := Eq1.out j0
                simp only [j0] at hK ⊢
                rw [if_pos (by rfl)]
                have C := Hp.facts hS
                simp only [Facts, factsL, and_true, true_and, z0, z1, z2] at C
                have hsz := hR.1
                go_step
                refine (hO _ _ (Hp.row hS 0 rfl)).mono ?_
                rintro e' w'' ⟨⟨v', rfl, ho⟩, hb⟩
                exact hK.out _ _ hb (RowJ.mk hR.1 ho) (Fresh.row ho)
              · intro p vs w' K hJ hp1 hp2 hS hR hK
                simp only [DepJ, List.getD_cons_zero, List.getD_cons_succ] at hJ
                obtain ⟨j1, -⟩ := hJ
                have jo1 := j1
                obtain ⟨A1, c1, j1⟩ := Go.LawLift.own_form jo1
                rw [j1] at jo1
                simp only [j1] at hK ⊢
                rw [if_pos (by rfl)]
                refine wp_string _ _ _ rfl Tryd.underlying23 Tryd.underlying5 Tryd.underlying9 rfl jo1.bs ?_
                exact hK.out _ _ (Below.refl _ _) Eq1.mk Fresh.no
              · intro p vs w' K hJ hp1 hp2 hS hR hK
                rw [if_pos (by rfl)]
                go_step
                exact hK.out _ _ (Below.refl _ _) Eq1.mk Fresh.no
              · intro p vs w' K hJ hp1 hp2 hS hR hK
                simp only [DepJ, List.getD_cons_zero, List.getD_cons_succ] at hJ
                obtain ⟨j3, -⟩ := hJ
                have j3 := Eq1.out j3
                simp only [j3] at hK ⊢
                rw [if_pos (by rfl)]
                replace hS : Hp _ _ _ := hS
                refine wp_string _ _ _ rfl Tryd.underlying23 Tryd.underlying5 Tryd.underlying9 rfl (Hp.bs hS hb) ?_
                exact hK.out _ _ (Below.refl _ _) Eq1.mk Fresh.no
              · intro p vs w' K hJ hp1 hp2 hS hR hK
                simp only [DepJ, List.getD_cons_zero, List.getD_cons_succ] at hJ
                obtain ⟨j2, j4, -⟩ := hJ
                have j2 := Eq1.out j2
                have j4 := Eq1.out j4
                simp only [j2, j4] at hK ⊢
                rw [if_pos (by rfl)]
                go_step
                exact hK.out _ _ (Below.refl _ _) (Eq1.of (by simp [heq])) Fresh.no
            case hst_2 => refine ⟨fun _ _ _ _ h => h, fun _ _ _ hs h => RowJ.stay hs h, fun _ _ _ _ h => h, fun _ _ _ _ h => h, fun _ _ _ _ h => h, fun _ _ _ _ h => h, trivial⟩
            intro vs w' hJ hD hS hR
            simp only [AllJ, Nat.reduceAdd] at hJ
            obtain ⟨v0, v1, v2, v3, v4, v5, -⟩ := hJ
            clear C
            replace v0 := Eq1.out v0
            replace v2 := Eq1.out v2
            replace v3 := Eq1.out v3
            replace v4 := Eq1.out v4
            replace v5 := Eq1.out v5
            obtain ⟨A1, c1, e1⟩ := Go.LawLift.own_form v1
            replace v1 := (show World.ownsRow _ _ _ _ _ _ _ from v1)
            rw [e1] at v1
            simp only [v0, v2, v3, v4, v5, e1, List.drop_succ_cons, List.drop_zero]
            refine wpList_nil' ?_
            replace hS : Hp _ _ _ := hS
            have H' := Hp.adopts hS H.low.size (fun k hk => Hp.lows H k hk) [.row _ 1 (.slice A1 _ c1) _ _] (by intro x hx; simp only [List.mem_cons, List.not_mem_nil, or_false] at hx; subst hx; exact v1) (nodup1 _)
            simp only [List.cons_append, List.nil_append] at H'
            clear hD hR hS v0 v1 v2 v3 v4 v5
            clear e1
            clear vs H
            have H := H'; clear H'; have C := Hp.facts H; simp only [Facts, factsL, and_true, true_and, z0, z1, z2] at C
            (repeat' ((fail_if_success (with_reducible show bodyPost _ _ _ _ _ _)); first | ((with_reducible refine Hp.abs_alloc H ?_); intro b' w' H' hb'; (try simp only [hb']); clear hb'; ((try simp only [z0, z1, z2] at H'); clear C H; have H := H'; clear H'; have C := Hp.facts H; simp only [Facts, factsL, and_true, true_and, z0, z1, z2] at C)) | ((with_reducible show wpList _ _ _ _ _ (World.setCell _ _ _)); (with_reducible apply Hp.abs_gen H); (first | ((repeat (with_reducible apply Hp.set' 0)); (with_reducible exact H); (repeat rfl); intro w' H') | ((repeat (with_reducible apply Hp.set' 1)); (with_reducible exact H); (repeat rfl); intro w' H') | ((repeat (with_reducible apply Hp.set' 2)); (with_reducible exact H); (repeat rfl); intro w' H') | ((repeat (with_reducible apply Hp.set' 3)); (with_reducible exact H); (repeat rfl); intro w' H') | ((repeat (with_reducible apply Hp.set' 4)); (with_reducible exact H); (repeat rfl); intro w' H') | ((repeat (with_reducible apply Hp.set' 5)); (with_reducible exact H); (repeat rfl); intro w' H') | ((repeat (with_reducible apply Hp.set' 6)); (with_reducible exact H); (repeat rfl); intro w' H') | ((repeat (with_reducible apply Hp.set' 7)); (with_reducible exact H); (repeat rfl); intro w' H')); ((try simp only [z0, z1, z2] at H'); clear C H; have H := H'; clear H'; have C := Hp.facts H; simp only [Facts, factsL, and_true, true_and, z0, z1, z2] at C)) | go_values | go_skip | go_guarded | go_step | go_upon | go_back | (simp only [Int.not_lt, Int.not_le] at *; go_simp) | (go_values <;> (try go_simp)) | (go_ite <;> go_prune <;> (try go_simp)) | (split <;> (first | (rename_i hx; exact (hx _ rfl).elim) | go_prune))))
            go_ret2
            rw [hr.out, wide_no hr.out]
            exact OutW.none rfl H.low
end Go.Proofs.YtmmjghdobdendaaDoor

