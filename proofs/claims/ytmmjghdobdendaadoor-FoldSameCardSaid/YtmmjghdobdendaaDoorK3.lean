/- Lemmas and walks on the way to the seat's laws; each theorem says its own conditions. -/
import Derived.Test.YtmmjghdobdendaaDoorK2
set_option linter.unusedSimpArgs false
set_option linter.unusedVariables false
set_option linter.unusedSimpArgs false
set_option linter.unusedVariables false
set_option maxRecDepth 100000
namespace Go.Proofs.YtmmjghdobdendaaDoor
open Go.RowKit Go.Mem Go.Reg Oct Bit Go.Txt Go.Shelf Go.LawLift Go.Fold
theorem krblank_any (n : Int) (w : World) : Calls Tryd.prog 37 #[.int .i64 n] w fun e w' => e = .returned (.bool (blankI n)) ∧ Below w.heap.size w w' := by
  have H := Hp.start w
  have C : True := trivial
  by_cases h : n = 32 ∨ n = 9 ∨ n = 10 ∨ n = 11 ∨ n = 12 ∨ n = 13
  · rcases h with rfl | rfl | rfl | rfl | rfl | rfl
    all_goals (
      go_enter Tryd.func37, Tryd.ntmps37
      (repeat' ((fail_if_success (with_reducible show bodyPost _ _ _ _ _ _)); first | ((with_reducible refine Hp.abs_alloc H ?_); intro b' w' H' hb'; (try simp only [hb']); clear hb'; ((try simp only [z0, z1, z2] at H'); clear C H; have H := H'; clear H'; have C := Hp.facts H; simp only [Facts, factsL, and_true, true_and, z0, z1, z2] at C)) | ((with_reducible show wpList _ _ _ _ _ (World.setCell _ _ _)); (with_reducible apply Hp.abs_gen H); (first | ((repeat (with_reducible apply Hp.set' 0)); (with_reducible exact H); (repeat rfl); intro w' H') | ((repeat (with_reducible apply Hp.set' 1)); (with_reducible exact H); (repeat rfl); intro w' H') | ((repeat (with_reducible apply Hp.set' 2)); (with_reducible exact H); (repeat rfl); intro w' H') | ((repeat (with_reducible apply Hp.set' 3)); (with_reducible exact H); (repeat rfl); intro w' H') | ((repeat (with_reducible apply Hp.set' 4)); (with_reducible exact H); (repeat rfl); intro w' H') | ((repeat (with_reducible apply Hp.set' 5)); (with_reducible exact H); (repeat rfl); intro w' H') | ((repeat (with_reducible apply Hp.set' 6)); (with_reducible exact H); (repeat rfl); intro w' H') | ((repeat (with_reducible apply Hp.set' 7)); (with_reducible exact H); (repeat rfl); intro w' H')); ((try simp only [z0, z1, z2] at H'); clear C H; have H := H'; clear H'; have C := Hp.facts H; simp only [Facts, factsL, and_true, true_and, z0, z1, z2] at C)) | go_values | go_skip | go_guarded | go_step | go_upon | go_back | (simp only [Int.not_lt, Int.not_le] at *; go_simp) | (go_values <;> (try go_simp)) | (go_ite <;> go_prune <;> (try go_simp)) | (split <;> (first | (rename_i hx; exact (hx _ rfl).elim) | go_prune))))
      go_ret
      exact ⟨rfl, H.low⟩)
  · rw [(blank_no n).2 (by omega)]
    have e1 : (n == 32) = false := by simp; omega
    have e2 : (n == 9) = false := by simp; omega
    have e3 : (n == 10) = false := by simp; omega
    have e4 : (n == 11) = false := by simp; omega
    have e5 : (n == 12) = false := by simp; omega
    have e6 : (n == 13) = false := by simp; omega
    clear h
    go_enter Tryd.func37, Tryd.ntmps37
    (repeat' ((fail_if_success (with_reducible show bodyPost _ _ _ _ _ _)); first | ((with_reducible refine Hp.abs_alloc H ?_); intro b' w' H' hb'; (try simp only [hb']); clear hb'; ((try simp only [z0, z1, z2] at H'); clear C H; have H := H'; clear H'; have C := Hp.facts H; simp only [Facts, factsL, and_true, true_and, z0, z1, z2] at C)) | ((with_reducible show wpList _ _ _ _ _ (World.setCell _ _ _)); (with_reducible apply Hp.abs_gen H); (first | ((repeat (with_reducible apply Hp.set' 0)); (with_reducible exact H); (repeat rfl); intro w' H') | ((repeat (with_reducible apply Hp.set' 1)); (with_reducible exact H); (repeat rfl); intro w' H') | ((repeat (with_reducible apply Hp.set' 2)); (with_reducible exact H); (repeat rfl); intro w' H') | ((repeat (with_reducible apply Hp.set' 3)); (with_reducible exact H); (repeat rfl); intro w' H') | ((repeat (with_reducible apply Hp.set' 4)); (with_reducible exact H); (repeat rfl); intro w' H') | ((repeat (with_reducible apply Hp.set' 5)); (with_reducible exact H); (repeat rfl); intro w' H') | ((repeat (with_reducible apply Hp.set' 6)); (with_reducible exact H); (repeat rfl); intro w' H') | ((repeat (with_reducible apply Hp.set' 7)); (with_reducible exact H); (repeat rfl); intro w' H')); ((try simp only [z0, z1, z2] at H'); clear C H; have H := H'; clear H'; have C := Hp.facts H; simp only [Facts, factsL, and_true, true_and, z0, z1, z2] at C)) | go_values | go_skip | go_guarded | go_step | go_upon | go_back | (simp only [Int.not_lt, Int.not_le] at *; go_simp) | (go_values <;> (try go_simp)) | (go_ite <;> go_prune <;> (try go_simp)) | (split <;> (first | (rename_i hx; exact (hx _ rfl).elim) | go_prune))))
    go_ret
    exact ⟨rfl, H.low⟩
theorem mem_take_at {l : List Int} {i : Nat} {p : Int → Bool} (h : ∀ k, (hk : k < l.length) → k < i → p l[k] = true) : ∀ n ∈ l.take i, p n = true := by
  intro n hn
  obtain ⟨k, hk, rfl⟩ := List.mem_iff_getElem.1 hn
  simp at hk
  rw [List.getElem_take]
  exact h k (by omega) (by omega)
theorem mem_drop_at {l : List Int} {i : Nat} {p : Int → Bool} (h : ∀ k, (hk : k < l.length) → i ≤ k → p l[k] = true) : ∀ n ∈ l.drop i, p n = true := by
  intro n hn
  obtain ⟨k, hk, rfl⟩ := List.mem_iff_getElem.1 hn
  simp at hk
  rw [List.getElem_drop]
  exact h (i + k) (by omega) (by omega)
set_option maxHeartbeats 400000 in
theorem rfsigns_any (l : List Int) (v : Value) (hl : l.length ≤ 100000) (w : World) (hb : Zs w v l) :
    Calls Tryd.prog 17 #[v] w fun e w' => (∃ v', e = .returned v' ∧ w'.ownsRow w.heap.size 3 1 v' (foldI l).length (zvs (foldI l))) ∧ Below w.heap.size w w' := by
  obtain ⟨i0, hi, hz0, hz1, hz2⟩ := info_parts info_i64
  obtain ⟨A, c, rfl, hlc, hcm, hA, hcell⟩ := id hb.openK
  have hB := krblank_any
  have H := Hp.start w
  have C : True := trivial
  go_enter Tryd.func17, Tryd.ntmps17
  (repeat' ((fail_if_success (with_reducible show bodyPost _ _ _ _ _ _)); first | ((with_reducible refine Hp.abs_alloc H ?_); intro b' w' H' hb'; (try simp only [hb']); clear hb'; ((try simp only [z0, z1, z2] at H'); clear C H; have H := H'; clear H'; have C := Hp.facts H; simp only [Facts, factsL, and_true, true_and, z0, z1, z2] at C)) | ((with_reducible show wpList _ _ _ _ _ (World.setCell _ _ _)); (with_reducible apply Hp.abs_gen H); (first | ((repeat (with_reducible apply Hp.set' 0)); (with_reducible exact H); (repeat rfl); intro w' H') | ((repeat (with_reducible apply Hp.set' 1)); (with_reducible exact H); (repeat rfl); intro w' H') | ((repeat (with_reducible apply Hp.set' 2)); (with_reducible exact H); (repeat rfl); intro w' H') | ((repeat (with_reducible apply Hp.set' 3)); (with_reducible exact H); (repeat rfl); intro w' H') | ((repeat (with_reducible apply Hp.set' 4)); (with_reducible exact H); (repeat rfl); intro w' H') | ((repeat (with_reducible apply Hp.set' 5)); (with_reducible exact H); (repeat rfl); intro w' H') | ((repeat (with_reducible apply Hp.set' 6)); (with_reducible exact H); (repeat rfl); intro w' H') | ((repeat (with_reducible apply Hp.set' 7)); (with_reducible exact H); (repeat rfl); intro w' H')); ((try simp only [z0, z1, z2] at H'); clear C H; have H := H'; clear H'; have C := Hp.facts H; simp only [Facts, factsL, and_true, true_and, z0, z1, z2] at C)) | go_values | go_skip | go_guarded | go_step | go_upon | go_back | (simp only [Int.not_lt, Int.not_le] at *; go_simp) | (go_values <;> (try go_simp)) | (go_ite <;> go_prune <;> (try go_simp)) | (split <;> (first | (rename_i hx; exact (hx _ rfl).elim) | go_prune))))
  go_loopw [3] (fun fr wr => ∃ i : Nat, i ≤ l.length ∧ fr = .int .i64 i ∧ Kp (∀ k, (hk : k < l.length) → k < i → blankI l[k] = true) ∧ Hp w [] wr) (fun fr _ => l.length - (intOf fr).toNat)
  case atStart => exact ⟨0, Nat.zero_le _, rfl, ⟨fun k hk h => by omega⟩, H⟩
  case round =>
    clear H C
    obtain ⟨i, hi1, rfl, hF, H⟩ := hrel
    have C := Hp.facts H
    simp only [Facts, factsL, and_true, true_and, z0, z1, z2] at C
    by_cases hgo : ∃ hlt : i < l.length, blankI l[i] = true
    · obtain ⟨hlt, hbl⟩ := hgo
      obtain ⟨b, o, rfl, hgl, hcl⟩ := hcell i hlt
      have hb0 := hcl i hlt
      have hBx := fun w => hB l[i] w
      rw [hbl] at hBx
      have gbl := Kp.mk hbl
      clear hbl hcl hcell
      generalize l[i] = x at hBx hb0
      (repeat' ((fail_if_success (with_reducible show bodyPost _ _ _ _ _ _)); first | ((with_reducible refine Hp.abs_alloc H ?_); intro b' w' H' hb'; (try simp only [hb']); clear hb'; ((try simp only [z0, z1, z2] at H'); clear C H; have H := H'; clear H'; have C := Hp.facts H; simp only [Facts, factsL, and_true, true_and, z0, z1, z2] at C)) | ((with_reducible show wpList _ _ _ _ _ (World.setCell _ _ _)); (with_reducible apply Hp.abs_gen H); (first | ((repeat (with_reducible apply Hp.set' 0)); (with_reducible exact H); (repeat rfl); intro w' H') | ((repeat (with_reducible apply Hp.set' 1)); (with_reducible exact H); (repeat rfl); intro w' H') | ((repeat (with_reducible apply Hp.set' 2)); (with_reducible exact H); (repeat rfl); intro w' H') | ((repeat (with_reducible apply Hp.set' 3)); (with_reducible exact H); (repeat rfl); intro w' H') | ((repeat (with_reducible apply Hp.set' 4)); (with_reducible exact H); (repeat rfl); intro w' H') | ((repeat (with_reducible apply Hp.set' 5)); (with_reducible exact H); (repeat rfl); intro w' H') | ((repeat (with_reducible apply Hp.set' 6)); (with_reducible exact H); (repeat rfl); intro w' H') | ((repeat (with_reducible apply Hp.set' 7)); (with_reducible exact H); (repeat rfl); intro w' H')); ((try simp only [z0, z1, z2] at H'); clear C H; have H := H'; clear H'; have C := Hp.facts H; simp only [Facts, factsL, and_true, true_and, z0, z1, z2] at C)) | (go_at_call 37; refine (hBx _).mono ?_; rintro e' w' ⟨rfl, hb'⟩; (have H' := Hp.step H hb'; clear hb'; ((try simp only [z0, z1, z2] at H'); clear C H; have H := H'; clear H'; have C := Hp.facts H; simp only [Facts, factsL, and_true, true_and, z0, z1, z2] at C))) | go_values | go_skip | go_guarded | go_step | go_upon | go_back | (simp only [Int.not_lt, Int.not_le] at *; go_simp) | (go_values <;> (try go_simp)) | (go_ite <;> go_prune <;> (try go_simp)) | (split <;> (first | (rename_i hx; exact (hx _ rfl).elim) | go_prune))))
      refine ⟨⟨i + 1, by omega, by go_num, ⟨fun k hk h => ?_⟩, H⟩, by simp [intOf]; omega⟩
      by_cases hki : k = i
      · subst hki; exact gbl.out
      · exact hF.out k hk (by omega)
    · have hN : Kp (∀ hlt : i < l.length, blankI l[i] = false) := ⟨fun hlt => by cases hq : blankI l[i] with | false => rfl | true => exact absurd ⟨hlt, hq⟩ hgo⟩
      clear hgo
      have hexit : True := trivial
      by_cases hlt : i < l.length
      · obtain ⟨b, o, rfl, hgl, hcl⟩ := hcell i hlt
        have hb0 := hcl i hlt
        have hBx := fun w => hB l[i] w
        rw [hN.out hlt] at hBx
        have gcell := Kp.mk hcell
        clear hcl hcell
        generalize l[i] = x at hBx hb0
        (repeat' ((fail_if_success (with_reducible show bodyPost _ _ _ _ _ _)); first | ((with_reducible refine Hp.abs_alloc H ?_); intro b' w' H' hb'; (try simp only [hb']); clear hb'; ((try simp only [z0, z1, z2] at H'); clear C H; have H := H'; clear H'; have C := Hp.facts H; simp only [Facts, factsL, and_true, true_and, z0, z1, z2] at C)) | ((with_reducible show wpList _ _ _ _ _ (World.setCell _ _ _)); (with_reducible apply Hp.abs_gen H); (first | ((repeat (with_reducible apply Hp.set' 0)); (with_reducible exact H); (repeat rfl); intro w' H') | ((repeat (with_reducible apply Hp.set' 1)); (with_reducible exact H); (repeat rfl); intro w' H') | ((repeat (with_reducible apply Hp.set' 2)); (with_reducible exact H); (repeat rfl); intro w' H') | ((repeat (with_reducible apply Hp.set' 3)); (with_reducible exact H); (repeat rfl); intro w' H') | ((repeat (with_reducible apply Hp.set' 4)); (with_reducible exact H); (repeat rfl); intro w' H') | ((repeat (with_reducible apply Hp.set' 5)); (with_reducible exact H); (repeat rfl); intro w' H') | ((repeat (with_reducible apply Hp.set' 6)); (with_reducible exact H); (repeat rfl); intro w' H') | ((repeat (with_reducible apply Hp.set' 7)); (with_reducible exact H); (repeat rfl); intro w' H')); ((try simp only [z0, z1, z2] at H'); clear C H; have H := H'; clear H'; have C := Hp.facts H; simp only [Facts, factsL, and_true, true_and, z0, z1, z2] at C)) | (go_at_call 37; refine (hBx _).mono ?_; rintro e' w' ⟨rfl, hb'⟩; (have H' := Hp.step H hb'; clear hb'; ((try simp only [z0, z1, z2] at H'); clear C H; have H := H'; clear H'; have C := Hp.facts H; simp only [Facts, factsL, and_true, true_and, z0, z1, z2] at C))) | go_values | go_skip | go_guarded | go_step | go_upon | go_back | (simp only [Int.not_lt, Int.not_le] at *; go_simp) | (go_values <;> (try go_simp)) | (go_ite <;> go_prune <;> (try go_simp)) | (split <;> (first | (rename_i hx; exact (hx _ rfl).elim) | go_prune))))
        go_loopw [4] (fun tv wr => ∃ j : Nat, i < j ∧ j ≤ l.length ∧ tv = .int .i64 j ∧ Kp (∀ k, (hk : k < l.length) → j ≤ k → blankI l[k] = true) ∧ Hp w [] wr) (fun tv _ => (intOf tv).toNat)
        case atStart => exact ⟨l.length, hlt, Nat.le_refl _, rfl, ⟨fun k hk h => by omega⟩, H⟩
        case round =>
          clear H C
          obtain ⟨j, hij, hj, rfl, hT, H⟩ := hrel
          have C := Hp.facts H
          simp only [Facts, factsL, and_true, true_and, z0, z1, z2] at C
          obtain ⟨j, rfl⟩ : ∃ j', j = j' + 1 := ⟨j - 1, by omega⟩
          have hjl : j < l.length := by omega
          clear hb0 hBx
          obtain ⟨b2, o2, e2, hgl2, hcl⟩ := gcell.out j hjl
          injection e2 with e2
          injection e2 with e2 e3
          subst e2 e3
          have hb0 := hcl j hjl
          have hBx := fun w => hB l[j] w
          clear hcl
          have hj2 : ¬ (((j : Int) + 1) < (i : Int)) := by omega
          cases hbl : blankI l[j] with
          | true =>
            rw [hbl] at hBx
            have hne : j ≠ i := fun e => by subst e; rw [hN.out hlt] at hbl; cases hbl
            have gbl := Kp.mk hbl
            clear hbl
            generalize l[j] = y at hBx hb0
            (repeat' ((fail_if_success (with_reducible show bodyPost _ _ _ _ _ _)); first | ((with_reducible refine Hp.abs_alloc H ?_); intro b' w' H' hb'; (try simp only [hb']); clear hb'; ((try simp only [z0, z1, z2] at H'); clear C H; have H := H'; clear H'; have C := Hp.facts H; simp only [Facts, factsL, and_true, true_and, z0, z1, z2] at C)) | ((with_reducible show wpList _ _ _ _ _ (World.setCell _ _ _)); (with_reducible apply Hp.abs_gen H); (first | ((repeat (with_reducible apply Hp.set' 0)); (with_reducible exact H); (repeat rfl); intro w' H') | ((repeat (with_reducible apply Hp.set' 1)); (with_reducible exact H); (repeat rfl); intro w' H') | ((repeat (with_reducible apply Hp.set' 2)); (with_reducible exact H); (repeat rfl); intro w' H') | ((repeat (with_reducible apply Hp.set' 3)); (with_reducible exact H); (repeat rfl); intro w' H') | ((repeat (with_reducible apply Hp.set' 4)); (with_reducible exact H); (repeat rfl); intro w' H') | ((repeat (with_reducible apply Hp.set' 5)); (with_reducible exact H); (repeat rfl); intro w' H') | ((repeat (with_reducible apply Hp.set' 6)); (with_reducible exact H); (repeat rfl); intro w' H') | ((repeat (with_reducible apply Hp.set' 7)); (with_reducible exact H); (repeat rfl); intro w' H')); ((try simp only [z0, z1, z2] at H'); clear C H; have H := H'; clear H'; have C := Hp.facts H; simp only [Facts, factsL, and_true, true_and, z0, z1, z2] at C)) | (go_at_call 37; refine (hBx _).mono ?_; rintro e' w' ⟨rfl, hb'⟩; (have H' := Hp.step H hb'; clear hb'; ((try simp only [z0, z1, z2] at H'); clear C H; have H := H'; clear H'; have C := Hp.facts H; simp only [Facts, factsL, and_true, true_and, z0, z1, z2] at C))) | go_values | go_skip | go_guarded | go_step | go_upon | go_back | (simp only [Int.not_lt, Int.not_le] at *; go_simp) | (go_values <;> (try go_simp)) | (go_ite <;> go_prune <;> (try go_simp)) | (split <;> (first | (rename_i hx; exact (hx _ rfl).elim) | go_prune))))
            refine ⟨⟨j, by omega, by omega, by go_num, ⟨fun k hk h => ?_⟩, H⟩, by first | (simp [intOf]; done) | (simp [intOf]; omega)⟩
            by_cases hki : k = j
            · subst hki; exact gbl.out
            · exact hT.out k hk (by omega)
          | false =>
            rw [hbl] at hBx
            have gbl := Kp.mk hbl
            clear hbl
            generalize l[j] = y at hBx hb0
            (repeat' ((fail_if_success (with_reducible show bodyPost _ _ _ _ _ _)); first | ((with_reducible refine Hp.abs_alloc H ?_); intro b' w' H' hb'; (try simp only [hb']); clear hb'; ((try simp only [z0, z1, z2] at H'); clear C H; have H := H'; clear H'; have C := Hp.facts H; simp only [Facts, factsL, and_true, true_and, z0, z1, z2] at C)) | ((with_reducible show wpList _ _ _ _ _ (World.setCell _ _ _)); (with_reducible apply Hp.abs_gen H); (first | ((repeat (with_reducible apply Hp.set' 0)); (with_reducible exact H); (repeat rfl); intro w' H') | ((repeat (with_reducible apply Hp.set' 1)); (with_reducible exact H); (repeat rfl); intro w' H') | ((repeat (with_reducible apply Hp.set' 2)); (with_reducible exact H); (repeat rfl); intro w' H') | ((repeat (with_reducible apply Hp.set' 3)); (with_reducible exact H); (repeat rfl); intro w' H') | ((repeat (with_reducible apply Hp.set' 4)); (with_reducible exact H); (repeat rfl); intro w' H') | ((repeat (with_reducible apply Hp.set' 5)); (with_reducible exact H); (repeat rfl); intro w' H') | ((repeat (with_reducible apply Hp.set' 6)); (with_reducible exact H); (repeat rfl); intro w' H') | ((repeat (with_reducible apply Hp.set' 7)); (with_reducible exact H); (repeat rfl); intro w' H')); ((try simp only [z0, z1, z2] at H'); clear C H; have H := H'; clear H'; have C := Hp.facts H; simp only [Facts, factsL, and_true, true_and, z0, z1, z2] at C)) | (go_at_call 37; refine (hBx _).mono ?_; rintro e' w' ⟨rfl, hb'⟩; (have H' := Hp.step H hb'; clear hb'; ((try simp only [z0, z1, z2] at H'); clear C H; have H := H'; clear H'; have C := Hp.facts H; simp only [Facts, factsL, and_true, true_and, z0, z1, z2] at C))) | go_values | go_skip | go_guarded | go_step | go_upon | go_back | (simp only [Int.not_lt, Int.not_le] at *; go_simp) | (go_values <;> (try go_simp)) | (go_ite <;> go_prune <;> (try go_simp)) | (split <;> (first | (rename_i hx; exact (hx _ rfl).elim) | go_prune))))
            have hout0 : outR (accF (l.take i)) = [] := by
              rw [accF_blanks _ (mem_take_at hF.out)]; rfl
            have H := H.nilRow 3 1
            clear hb0 hBx
            go_loopw [5, 6, 7] (fun out ix _ wr => ∃ q : Nat, i ≤ q ∧ q ≤ j + 1 ∧ ix = .int .i64 q ∧ Hp w [.row 3 1 out (outR (accF (l.take q))).length (zvs (outR (accF (l.take q))))] wr) (fun _ ix _ _ => l.length - (intOf ix).toNat)
            case atStart => exact ⟨i, Nat.le_refl _, by omega, rfl, by rw [hout0]; exact H⟩
            case round =>
              clear H C
              obtain ⟨q, hq1, hq2, rfl, H⟩ := hrel
              by_cases hqj : q < j + 1
              · have hql : q < l.length := by omega
                obtain ⟨A4, c4, rfl⟩ := Go.LawLift.own_form (ownsOf H 0 rfl)
                have C := Hp.facts H
                simp only [Facts, factsL, and_true, true_and, z0, z1, z2] at C
                obtain ⟨b2, o2, e2, hgl2, hcl⟩ := gcell.out q hql
                injection e2 with e2
                injection e2 with e2 e3
                subst e2 e3
                have hb0 := hcl q hql
                have hlen : (outR (accF (l.take q))).length ≤ 1000000 := by
                  have := len_le (l.take q)
                  rw [List.length_take] at this
                  unfold outR
                  rw [List.length_append]
                  split <;> simp <;> omega
                have hBx := fun w => hB l[q] w
                cases hbl : blankI l[q] with
                | false =>
                  rw [hbl] at hBx
                  have gput := Kp.mk (out_put l q hql hbl)
                  clear hcl hbl hout0
                  have gsm0 : ∃ u, smallI l[q] = u := ⟨_, rfl⟩
                  by_cases h1 : 65 ≤ l[q]
                  · by_cases h2 : l[q] ≤ 90
                    · have gsm := Kp.mk (show smallI l[q] = l[q] + 32 from if_pos ⟨h1, h2⟩)
                      obtain ⟨s2, h2⟩ : ∃ s2, outR (accF (l.take (q + 1))) = s2 := ⟨_, rfl⟩
                      rw [h2] at gput
                      have g2 := Kp.mk h2
                      clear h2
                      generalize outR (accF (l.take q)) = s1 at *
                      generalize l[q] = y at *
                      (repeat' ((fail_if_success (with_reducible show bodyPost _ _ _ _ _ _)); first | ((with_reducible refine Hp.abs_alloc H ?_); intro b' w' H' hb'; (try simp only [hb']); clear hb'; ((try simp only [z0, z1, z2] at H'); clear C H; have H := H'; clear H'; have C := Hp.facts H; simp only [Facts, factsL, and_true, true_and, z0, z1, z2] at C)) | ((with_reducible show wpList _ _ _ _ _ (World.setCell _ _ _)); (with_reducible apply Hp.abs_gen H); (first | ((repeat (with_reducible apply Hp.set' 0)); (with_reducible exact H); (repeat rfl); intro w' H') | ((repeat (with_reducible apply Hp.set' 1)); (with_reducible exact H); (repeat rfl); intro w' H') | ((repeat (with_reducible apply Hp.set' 2)); (with_reducible exact H); (repeat rfl); intro w' H') | ((repeat (with_reducible apply Hp.set' 3)); (with_reducible exact H); (repeat rfl); intro w' H') | ((repeat (with_reducible apply Hp.set' 4)); (with_reducible exact H); (repeat rfl); intro w' H') | ((repeat (with_reducible apply Hp.set' 5)); (with_reducible exact H); (repeat rfl); intro w' H') | ((repeat (with_reducible apply Hp.set' 6)); (with_reducible exact H); (repeat rfl); intro w' H') | ((repeat (with_reducible apply Hp.set' 7)); (with_reducible exact H); (repeat rfl); intro w' H')); ((try simp only [z0, z1, z2] at H'); clear C H; have H := H'; clear H'; have C := Hp.facts H; simp only [Facts, factsL, and_true, true_and, z0, z1, z2] at C)) | (go_at_call 37; refine (hBx _).mono ?_; rintro e' w' ⟨rfl, hb'⟩; (have H' := Hp.step H hb'; clear hb'; ((try simp only [z0, z1, z2] at H'); clear C H; have H := H'; clear H'; have C := Hp.facts H; simp only [Facts, factsL, and_true, true_and, z0, z1, z2] at C))) | (at_builtin; (refine wpList_append_hp H 1 rfl _ _ _ rfl Tryd.underlying22 hi hz0 hz1 hz2 rfl (by decide) rfl rfl rfl (news := [_]) rfl (fun h => by cases h) (fun _ => ⟨_, rfl, blk_news (H.get 0 rfl)⟩) (by simp [Value.oneCell']) (by unfold maxLen; omega) (by omega) ?_); intro v' w' H'; ((try simp only [z0, z1, z2] at H'); clear C H; have H := H'; clear H'; have C := Hp.facts H; simp only [Facts, factsL, and_true, true_and, z0, z1, z2] at C)) | go_values | go_skip | go_guarded | go_step | go_upon | go_back | (simp only [Int.not_lt, Int.not_le] at *; go_simp) | (go_values <;> (try go_simp)) | (go_ite <;> go_prune <;> (try go_simp)) | (split <;> (first | (rename_i hx; exact (hx _ rfl).elim) | go_prune))))
                      refine ⟨⟨q + 1, by omega, by omega, by go_num, ?_⟩, by simp [intOf]; omega⟩
                      rw [g2.out, gput.out, gsm.out]
                      simp only [List.length_append, List.length_singleton, ← zvs_snoc]
                      exact H.tail
                    · have gsm := Kp.mk (show smallI l[q] = l[q] from if_neg (by omega))
                      obtain ⟨s2, h2⟩ : ∃ s2, outR (accF (l.take (q + 1))) = s2 := ⟨_, rfl⟩
                      rw [h2] at gput
                      have g2 := Kp.mk h2
                      clear h2
                      generalize outR (accF (l.take q)) = s1 at *
                      generalize l[q] = y at *
                      (repeat' ((fail_if_success (with_reducible show bodyPost _ _ _ _ _ _)); first | ((with_reducible refine Hp.abs_alloc H ?_); intro b' w' H' hb'; (try simp only [hb']); clear hb'; ((try simp only [z0, z1, z2] at H'); clear C H; have H := H'; clear H'; have C := Hp.facts H; simp only [Facts, factsL, and_true, true_and, z0, z1, z2] at C)) | ((with_reducible show wpList _ _ _ _ _ (World.setCell _ _ _)); (with_reducible apply Hp.abs_gen H); (first | ((repeat (with_reducible apply Hp.set' 0)); (with_reducible exact H); (repeat rfl); intro w' H') | ((repeat (with_reducible apply Hp.set' 1)); (with_reducible exact H); (repeat rfl); intro w' H') | ((repeat (with_reducible apply Hp.set' 2)); (with_reducible exact H); (repeat rfl); intro w' H') | ((repeat (with_reducible apply Hp.set' 3)); (with_reducible exact H); (repeat rfl); intro w' H') | ((repeat (with_reducible apply Hp.set' 4)); (with_reducible exact H); (repeat rfl); intro w' H') | ((repeat (with_reducible apply Hp.set' 5)); (with_reducible exact H); (repeat rfl); intro w' H') | ((repeat (with_reducible apply Hp.set' 6)); (with_reducible exact H); (repeat rfl); intro w' H') | ((repeat (with_reducible apply Hp.set' 7)); (with_reducible exact H); (repeat rfl); intro w' H')); ((try simp only [z0, z1, z2] at H'); clear C H; have H := H'; clear H'; have C := Hp.facts H; simp only [Facts, factsL, and_true, true_and, z0, z1, z2] at C)) | (go_at_call 37; refine (hBx _).mono ?_; rintro e' w' ⟨rfl, hb'⟩; (have H' := Hp.step H hb'; clear hb'; ((try simp only [z0, z1, z2] at H'); clear C H; have H := H'; clear H'; have C := Hp.facts H; simp only [Facts, factsL, and_true, true_and, z0, z1, z2] at C))) | (at_builtin; (refine wpList_append_hp H 1 rfl _ _ _ rfl Tryd.underlying22 hi hz0 hz1 hz2 rfl (by decide) rfl rfl rfl (news := [_]) rfl (fun h => by cases h) (fun _ => ⟨_, rfl, blk_news (H.get 0 rfl)⟩) (by simp [Value.oneCell']) (by unfold maxLen; omega) (by omega) ?_); intro v' w' H'; ((try simp only [z0, z1, z2] at H'); clear C H; have H := H'; clear H'; have C := Hp.facts H; simp only [Facts, factsL, and_true, true_and, z0, z1, z2] at C)) | go_values | go_skip | go_guarded | go_step | go_upon | go_back | (simp only [Int.not_lt, Int.not_le] at *; go_simp) | (go_values <;> (try go_simp)) | (go_ite <;> go_prune <;> (try go_simp)) | (split <;> (first | (rename_i hx; exact (hx _ rfl).elim) | go_prune))))
                      refine ⟨⟨q + 1, by omega, by omega, by go_num, ?_⟩, by simp [intOf]; omega⟩
                      rw [g2.out, gput.out, gsm.out]
                      simp only [List.length_append, List.length_singleton, ← zvs_snoc]
                      exact H.tail
                  · have gsm := Kp.mk (show smallI l[q] = l[q] from if_neg (by omega))
                    obtain ⟨s2, h2⟩ : ∃ s2, outR (accF (l.take (q + 1))) = s2 := ⟨_, rfl⟩
                    rw [h2] at gput
                    have g2 := Kp.mk h2
                    clear h2
                    generalize outR (accF (l.take q)) = s1 at *
                    generalize l[q] = y at *
                    (repeat' ((fail_if_success (with_reducible show bodyPost _ _ _ _ _ _)); first | ((with_reducible refine Hp.abs_alloc H ?_); intro b' w' H' hb'; (try simp only [hb']); clear hb'; ((try simp only [z0, z1, z2] at H'); clear C H; have H := H'; clear H'; have C := Hp.facts H; simp only [Facts, factsL, and_true, true_and, z0, z1, z2] at C)) | ((with_reducible show wpList _ _ _ _ _ (World.setCell _ _ _)); (with_reducible apply Hp.abs_gen H); (first | ((repeat (with_reducible apply Hp.set' 0)); (with_reducible exact H); (repeat rfl); intro w' H') | ((repeat (with_reducible apply Hp.set' 1)); (with_reducible exact H); (repeat rfl); intro w' H') | ((repeat (with_reducible apply Hp.set' 2)); (with_reducible exact H); (repeat rfl); intro w' H') | ((repeat (with_reducible apply Hp.set' 3)); (with_reducible exact H); (repeat rfl); intro w' H') | ((repeat (with_reducible apply Hp.set' 4)); (with_reducible exact H); (repeat rfl); intro w' H') | ((repeat (with_reducible apply Hp.set' 5)); (with_reducible exact H); (repeat rfl); intro w' H') | ((repeat (with_reducible apply Hp.set' 6)); (with_reducible exact H); (repeat rfl); intro w' H') | ((repeat (with_reducible apply Hp.set' 7)); (with_reducible exact H); (repeat rfl); intro w' H')); ((try simp only [z0, z1, z2] at H'); clear C H; have H := H'; clear H'; have C := Hp.facts H; simp only [Facts, factsL, and_true, true_and, z0, z1, z2] at C)) | (go_at_call 37; refine (hBx _).mono ?_; rintro e' w' ⟨rfl, hb'⟩; (have H' := Hp.step H hb'; clear hb'; ((try simp only [z0, z1, z2] at H'); clear C H; have H := H'; clear H'; have C := Hp.facts H; simp only [Facts, factsL, and_true, true_and, z0, z1, z2] at C))) | (at_builtin; (refine wpList_append_hp H 1 rfl _ _ _ rfl Tryd.underlying22 hi hz0 hz1 hz2 rfl (by decide) rfl rfl rfl (news := [_]) rfl (fun h => by cases h) (fun _ => ⟨_, rfl, blk_news (H.get 0 rfl)⟩) (by simp [Value.oneCell']) (by unfold maxLen; omega) (by omega) ?_); intro v' w' H'; ((try simp only [z0, z1, z2] at H'); clear C H; have H := H'; clear H'; have C := Hp.facts H; simp only [Facts, factsL, and_true, true_and, z0, z1, z2] at C)) | go_values | go_skip | go_guarded | go_step | go_upon | go_back | (simp only [Int.not_lt, Int.not_le] at *; go_simp) | (go_values <;> (try go_simp)) | (go_ite <;> go_prune <;> (try go_simp)) | (split <;> (first | (rename_i hx; exact (hx _ rfl).elim) | go_prune))))
                    refine ⟨⟨q + 1, by omega, by omega, by go_num, ?_⟩, by simp [intOf]; omega⟩
                    rw [g2.out, gput.out, gsm.out]
                    simp only [List.length_append, List.length_singleton, ← zvs_snoc]
                    exact H.tail
                | true =>
                  rw [hbl] at hBx
                  have hqi : q ≠ i := fun e => by subst e; rw [hN.out hlt] at hbl; cases hbl
                  obtain ⟨p, rfl⟩ : ∃ p, q = p + 1 := ⟨q - 1, by omega⟩
                  have hpl : p < l.length := by omega
                  have hb1 := hcl p hpl
                  have hBy := fun w => hB l[p] w
                  clear hout0 hcl
                  cases hbp : blankI l[p] with
                  | false =>
                    rw [hbp] at hBy
                    have gput := Kp.mk (out_first l p hql hbp hbl)
                    clear hbp hbl
                    obtain ⟨s2, h2⟩ : ∃ s2, outR (accF (l.take (p + 1 + 1))) = s2 := ⟨_, rfl⟩
                    rw [show p + 2 = p + 1 + 1 from rfl, h2] at gput
                    have g2 := Kp.mk h2
                    clear h2
                    generalize outR (accF (l.take (p + 1))) = s1 at *
                    generalize l[p + 1] = y at hb0 hBx
                    generalize l[p] = y1 at hb1 hBy
                    (repeat' ((fail_if_success (with_reducible show bodyPost _ _ _ _ _ _)); first | ((with_reducible refine Hp.abs_alloc H ?_); intro b' w' H' hb'; (try simp only [hb']); clear hb'; ((try simp only [z0, z1, z2] at H'); clear C H; have H := H'; clear H'; have C := Hp.facts H; simp only [Facts, factsL, and_true, true_and, z0, z1, z2] at C)) | ((with_reducible show wpList _ _ _ _ _ (World.setCell _ _ _)); (with_reducible apply Hp.abs_gen H); (first | ((repeat (with_reducible apply Hp.set' 0)); (with_reducible exact H); (repeat rfl); intro w' H') | ((repeat (with_reducible apply Hp.set' 1)); (with_reducible exact H); (repeat rfl); intro w' H') | ((repeat (with_reducible apply Hp.set' 2)); (with_reducible exact H); (repeat rfl); intro w' H') | ((repeat (with_reducible apply Hp.set' 3)); (with_reducible exact H); (repeat rfl); intro w' H') | ((repeat (with_reducible apply Hp.set' 4)); (with_reducible exact H); (repeat rfl); intro w' H') | ((repeat (with_reducible apply Hp.set' 5)); (with_reducible exact H); (repeat rfl); intro w' H') | ((repeat (with_reducible apply Hp.set' 6)); (with_reducible exact H); (repeat rfl); intro w' H') | ((repeat (with_reducible apply Hp.set' 7)); (with_reducible exact H); (repeat rfl); intro w' H')); ((try simp only [z0, z1, z2] at H'); clear C H; have H := H'; clear H'; have C := Hp.facts H; simp only [Facts, factsL, and_true, true_and, z0, z1, z2] at C)) | go_values | go_skip | go_guarded | go_step | go_upon | go_back | (simp only [Int.not_lt, Int.not_le] at *; go_simp) | (go_values <;> (try go_simp)) | (go_ite <;> go_prune <;> (try go_simp)) | (split <;> (first | (rename_i hx; exact (hx _ rfl).elim) | go_prune))))
                    refine (hBx _).mono ?_
                    (rintro e' w' ⟨rfl, hb'⟩; (have H' := Hp.step H hb'; clear hb'; ((try simp only [z0, z1, z2] at H'); clear C H; have H := H'; clear H'; have C := Hp.facts H; simp only [Facts, factsL, and_true, true_and, z0, z1, z2] at C)))
                    (repeat' ((fail_if_success (with_reducible show bodyPost _ _ _ _ _ _)); first | ((with_reducible refine Hp.abs_alloc H ?_); intro b' w' H' hb'; (try simp only [hb']); clear hb'; ((try simp only [z0, z1, z2] at H'); clear C H; have H := H'; clear H'; have C := Hp.facts H; simp only [Facts, factsL, and_true, true_and, z0, z1, z2] at C)) | ((with_reducible show wpList _ _ _ _ _ (World.setCell _ _ _)); (with_reducible apply Hp.abs_gen H); (first | ((repeat (with_reducible apply Hp.set' 0)); (with_reducible exact H); (repeat rfl); intro w' H') | ((repeat (with_reducible apply Hp.set' 1)); (with_reducible exact H); (repeat rfl); intro w' H') | ((repeat (with_reducible apply Hp.set' 2)); (with_reducible exact H); (repeat rfl); intro w' H') | ((repeat (with_reducible apply Hp.set' 3)); (with_reducible exact H); (repeat rfl); intro w' H') | ((repeat (with_reducible apply Hp.set' 4)); (with_reducible exact H); (repeat rfl); intro w' H') | ((repeat (with_reducible apply Hp.set' 5)); (with_reducible exact H); (repeat rfl); intro w' H') | ((repeat (with_reducible apply Hp.set' 6)); (with_reducible exact H); (repeat rfl); intro w' H') | ((repeat (with_reducible apply Hp.set' 7)); (with_reducible exact H); (repeat rfl); intro w' H')); ((try simp only [z0, z1, z2] at H'); clear C H; have H := H'; clear H'; have C := Hp.facts H; simp only [Facts, factsL, and_true, true_and, z0, z1, z2] at C)) | go_values | go_skip | go_guarded | go_step | go_upon | go_back | (simp only [Int.not_lt, Int.not_le] at *; go_simp) | (go_values <;> (try go_simp)) | (go_ite <;> go_prune <;> (try go_simp)) | (split <;> (first | (rename_i hx; exact (hx _ rfl).elim) | go_prune))))
                    refine (hBy _).mono ?_
                    (rintro e' w' ⟨rfl, hb'⟩; (have H' := Hp.step H hb'; clear hb'; ((try simp only [z0, z1, z2] at H'); clear C H; have H := H'; clear H'; have C := Hp.facts H; simp only [Facts, factsL, and_true, true_and, z0, z1, z2] at C)))
                    (repeat' ((fail_if_success (with_reducible show bodyPost _ _ _ _ _ _)); first | ((with_reducible refine Hp.abs_alloc H ?_); intro b' w' H' hb'; (try simp only [hb']); clear hb'; ((try simp only [z0, z1, z2] at H'); clear C H; have H := H'; clear H'; have C := Hp.facts H; simp only [Facts, factsL, and_true, true_and, z0, z1, z2] at C)) | ((with_reducible show wpList _ _ _ _ _ (World.setCell _ _ _)); (with_reducible apply Hp.abs_gen H); (first | ((repeat (with_reducible apply Hp.set' 0)); (with_reducible exact H); (repeat rfl); intro w' H') | ((repeat (with_reducible apply Hp.set' 1)); (with_reducible exact H); (repeat rfl); intro w' H') | ((repeat (with_reducible apply Hp.set' 2)); (with_reducible exact H); (repeat rfl); intro w' H') | ((repeat (with_reducible apply Hp.set' 3)); (with_reducible exact H); (repeat rfl); intro w' H') | ((repeat (with_reducible apply Hp.set' 4)); (with_reducible exact H); (repeat rfl); intro w' H') | ((repeat (with_reducible apply Hp.set' 5)); (with_reducible exact H); (repeat rfl); intro w' H') | ((repeat (with_reducible apply Hp.set' 6)); (with_reducible exact H); (repeat rfl); intro w' H') | ((repeat (with_reducible apply Hp.set' 7)); (with_reducible exact H); (repeat rfl); intro w' H')); ((try simp only [z0, z1, z2] at H'); clear C H; have H := H'; clear H'; have C := Hp.facts H; simp only [Facts, factsL, and_true, true_and, z0, z1, z2] at C)) | (at_builtin; (refine wpList_append_hp H 1 rfl _ _ _ rfl Tryd.underlying22 hi hz0 hz1 hz2 rfl (by decide) rfl rfl rfl (news := [_]) rfl (fun h => by cases h) (fun _ => ⟨_, rfl, blk_news (H.get 0 rfl)⟩) (by simp [Value.oneCell']) (by unfold maxLen; omega) (by omega) ?_); intro v' w' H'; ((try simp only [z0, z1, z2] at H'); clear C H; have H := H'; clear H'; have C := Hp.facts H; simp only [Facts, factsL, and_true, true_and, z0, z1, z2] at C)) | go_values | go_skip | go_guarded | go_step | go_upon | go_back | (simp only [Int.not_lt, Int.not_le] at *; go_simp) | (go_values <;> (try go_simp)) | (go_ite <;> go_prune <;> (try go_simp)) | (split <;> (first | (rename_i hx; exact (hx _ rfl).elim) | go_prune))))
                    refine ⟨⟨p + 1 + 1, by omega, by omega, by go_num, ?_⟩, by simp [intOf]; omega⟩
                    rw [g2.out, gput.out]
                    simp only [List.length_append, List.length_singleton, ← zvs_snoc]
                    exact H.tail
                  | true =>
                    rw [hbp] at hBy
                    have gput := Kp.mk (out_more l p hql hbp hbl)
                    clear hbp hbl
                    obtain ⟨s2, h2⟩ : ∃ s2, outR (accF (l.take (p + 1 + 1))) = s2 := ⟨_, rfl⟩
                    rw [show p + 2 = p + 1 + 1 from rfl, h2] at gput
                    have g2 := Kp.mk h2
                    clear h2
                    generalize outR (accF (l.take (p + 1))) = s1 at *
                    generalize l[p + 1] = y at hb0 hBx
                    generalize l[p] = y1 at hb1 hBy
                    (repeat' ((fail_if_success (with_reducible show bodyPost _ _ _ _ _ _)); first | ((with_reducible refine Hp.abs_alloc H ?_); intro b' w' H' hb'; (try simp only [hb']); clear hb'; ((try simp only [z0, z1, z2] at H'); clear C H; have H := H'; clear H'; have C := Hp.facts H; simp only [Facts, factsL, and_true, true_and, z0, z1, z2] at C)) | ((with_reducible show wpList _ _ _ _ _ (World.setCell _ _ _)); (with_reducible apply Hp.abs_gen H); (first | ((repeat (with_reducible apply Hp.set' 0)); (with_reducible exact H); (repeat rfl); intro w' H') | ((repeat (with_reducible apply Hp.set' 1)); (with_reducible exact H); (repeat rfl); intro w' H') | ((repeat (with_reducible apply Hp.set' 2)); (with_reducible exact H); (repeat rfl); intro w' H') | ((repeat (with_reducible apply Hp.set' 3)); (with_reducible exact H); (repeat rfl); intro w' H') | ((repeat (with_reducible apply Hp.set' 4)); (with_reducible exact H); (repeat rfl); intro w' H') | ((repeat (with_reducible apply Hp.set' 5)); (with_reducible exact H); (repeat rfl); intro w' H') | ((repeat (with_reducible apply Hp.set' 6)); (with_reducible exact H); (repeat rfl); intro w' H') | ((repeat (with_reducible apply Hp.set' 7)); (with_reducible exact H); (repeat rfl); intro w' H')); ((try simp only [z0, z1, z2] at H'); clear C H; have H := H'; clear H'; have C := Hp.facts H; simp only [Facts, factsL, and_true, true_and, z0, z1, z2] at C)) | go_values | go_skip | go_guarded | go_step | go_upon | go_back | (simp only [Int.not_lt, Int.not_le] at *; go_simp) | (go_values <;> (try go_simp)) | (go_ite <;> go_prune <;> (try go_simp)) | (split <;> (first | (rename_i hx; exact (hx _ rfl).elim) | go_prune))))
                    refine (hBx _).mono ?_
                    (rintro e' w' ⟨rfl, hb'⟩; (have H' := Hp.step H hb'; clear hb'; ((try simp only [z0, z1, z2] at H'); clear C H; have H := H'; clear H'; have C := Hp.facts H; simp only [Facts, factsL, and_true, true_and, z0, z1, z2] at C)))
                    (repeat' ((fail_if_success (with_reducible show bodyPost _ _ _ _ _ _)); first | ((with_reducible refine Hp.abs_alloc H ?_); intro b' w' H' hb'; (try simp only [hb']); clear hb'; ((try simp only [z0, z1, z2] at H'); clear C H; have H := H'; clear H'; have C := Hp.facts H; simp only [Facts, factsL, and_true, true_and, z0, z1, z2] at C)) | ((with_reducible show wpList _ _ _ _ _ (World.setCell _ _ _)); (with_reducible apply Hp.abs_gen H); (first | ((repeat (with_reducible apply Hp.set' 0)); (with_reducible exact H); (repeat rfl); intro w' H') | ((repeat (with_reducible apply Hp.set' 1)); (with_reducible exact H); (repeat rfl); intro w' H') | ((repeat (with_reducible apply Hp.set' 2)); (with_reducible exact H); (repeat rfl); intro w' H') | ((repeat (with_reducible apply Hp.set' 3)); (with_reducible exact H); (repeat rfl); intro w' H') | ((repeat (with_reducible apply Hp.set' 4)); (with_reducible exact H); (repeat rfl); intro w' H') | ((repeat (with_reducible apply Hp.set' 5)); (with_reducible exact H); (repeat rfl); intro w' H') | ((repeat (with_reducible apply Hp.set' 6)); (with_reducible exact H); (repeat rfl); intro w' H') | ((repeat (with_reducible apply Hp.set' 7)); (with_reducible exact H); (repeat rfl); intro w' H')); ((try simp only [z0, z1, z2] at H'); clear C H; have H := H'; clear H'; have C := Hp.facts H; simp only [Facts, factsL, and_true, true_and, z0, z1, z2] at C)) | go_values | go_skip | go_guarded | go_step | go_upon | go_back | (simp only [Int.not_lt, Int.not_le] at *; go_simp) | (go_values <;> (try go_simp)) | (go_ite <;> go_prune <;> (try go_simp)) | (split <;> (first | (rename_i hx; exact (hx _ rfl).elim) | go_prune))))
                    refine (hBy _).mono ?_
                    (rintro e' w' ⟨rfl, hb'⟩; (have H' := Hp.step H hb'; clear hb'; ((try simp only [z0, z1, z2] at H'); clear C H; have H := H'; clear H'; have C := Hp.facts H; simp only [Facts, factsL, and_true, true_and, z0, z1, z2] at C)))
                    (repeat' ((fail_if_success (with_reducible show bodyPost _ _ _ _ _ _)); first | ((with_reducible refine Hp.abs_alloc H ?_); intro b' w' H' hb'; (try simp only [hb']); clear hb'; ((try simp only [z0, z1, z2] at H'); clear C H; have H := H'; clear H'; have C := Hp.facts H; simp only [Facts, factsL, and_true, true_and, z0, z1, z2] at C)) | ((with_reducible show wpList _ _ _ _ _ (World.setCell _ _ _)); (with_reducible apply Hp.abs_gen H); (first | ((repeat (with_reducible apply Hp.set' 0)); (with_reducible exact H); (repeat rfl); intro w' H') | ((repeat (with_reducible apply Hp.set' 1)); (with_reducible exact H); (repeat rfl); intro w' H') | ((repeat (with_reducible apply Hp.set' 2)); (with_reducible exact H); (repeat rfl); intro w' H') | ((repeat (with_reducible apply Hp.set' 3)); (with_reducible exact H); (repeat rfl); intro w' H') | ((repeat (with_reducible apply Hp.set' 4)); (with_reducible exact H); (repeat rfl); intro w' H') | ((repeat (with_reducible apply Hp.set' 5)); (with_reducible exact H); (repeat rfl); intro w' H') | ((repeat (with_reducible apply Hp.set' 6)); (with_reducible exact H); (repeat rfl); intro w' H') | ((repeat (with_reducible apply Hp.set' 7)); (with_reducible exact H); (repeat rfl); intro w' H')); ((try simp only [z0, z1, z2] at H'); clear C H; have H := H'; clear H'; have C := Hp.facts H; simp only [Facts, factsL, and_true, true_and, z0, z1, z2] at C)) | go_values | go_skip | go_guarded | go_step | go_upon | go_back | (simp only [Int.not_lt, Int.not_le] at *; go_simp) | (go_values <;> (try go_simp)) | (go_ite <;> go_prune <;> (try go_simp)) | (split <;> (first | (rename_i hx; exact (hx _ rfl).elim) | go_prune))))
                    refine ⟨⟨p + 1 + 1, by omega, by omega, by go_num, ?_⟩, by simp [intOf]; omega⟩
                    rw [g2.out, gput.out]
                    exact H
              · obtain rfl : q = j + 1 := by omega
                rw [out_done l j hjl gbl.out, ← fold_end l (j + 1) (mem_drop_at hT.out)] at H
                clear hout0
                obtain ⟨A4, c4, rfl⟩ := Go.LawLift.own_form (ownsOf H 0 rfl)
                have C := Hp.facts H
                simp only [Facts, factsL, and_true, true_and, z0, z1, z2] at C
                (repeat' ((fail_if_success (with_reducible show bodyPost _ _ _ _ _ _)); first | ((with_reducible refine Hp.abs_alloc H ?_); intro b' w' H' hb'; (try simp only [hb']); clear hb'; ((try simp only [z0, z1, z2] at H'); clear C H; have H := H'; clear H'; have C := Hp.facts H; simp only [Facts, factsL, and_true, true_and, z0, z1, z2] at C)) | ((with_reducible show wpList _ _ _ _ _ (World.setCell _ _ _)); (with_reducible apply Hp.abs_gen H); (first | ((repeat (with_reducible apply Hp.set' 0)); (with_reducible exact H); (repeat rfl); intro w' H') | ((repeat (with_reducible apply Hp.set' 1)); (with_reducible exact H); (repeat rfl); intro w' H') | ((repeat (with_reducible apply Hp.set' 2)); (with_reducible exact H); (repeat rfl); intro w' H') | ((repeat (with_reducible apply Hp.set' 3)); (with_reducible exact H); (repeat rfl); intro w' H') | ((repeat (with_reducible apply Hp.set' 4)); (with_reducible exact H); (repeat rfl); intro w' H') | ((repeat (with_reducible apply Hp.set' 5)); (with_reducible exact H); (repeat rfl); intro w' H') | ((repeat (with_reducible apply Hp.set' 6)); (with_reducible exact H); (repeat rfl); intro w' H') | ((repeat (with_reducible apply Hp.set' 7)); (with_reducible exact H); (repeat rfl); intro w' H')); ((try simp only [z0, z1, z2] at H'); clear C H; have H := H'; clear H'; have C := Hp.facts H; simp only [Facts, factsL, and_true, true_and, z0, z1, z2] at C)) | go_values | go_skip | go_guarded | go_step | go_upon | go_back | (simp only [Int.not_lt, Int.not_le] at *; go_simp) | (go_values <;> (try go_simp)) | (go_ite <;> go_prune <;> (try go_simp)) | (split <;> (first | (rename_i hx; exact (hx _ rfl).elim) | go_prune))))
                go_ret
                exact ⟨⟨_, rfl, ownsOf H 0 rfl⟩, H.low⟩
      · obtain rfl : i = l.length := by omega
        have hall : foldI l = [] := by
          unfold foldI
          rw [accF_blanks l (fun n hn => by obtain ⟨k, hk, rfl⟩ := List.mem_iff_getElem.1 hn; exact hF.out k hk hk)]
        have hall := Kp.mk hall
        clear hcell
        (repeat' ((fail_if_success (with_reducible show bodyPost _ _ _ _ _ _)); first | ((with_reducible refine Hp.abs_alloc H ?_); intro b' w' H' hb'; (try simp only [hb']); clear hb'; ((try simp only [z0, z1, z2] at H'); clear C H; have H := H'; clear H'; have C := Hp.facts H; simp only [Facts, factsL, and_true, true_and, z0, z1, z2] at C)) | ((with_reducible show wpList _ _ _ _ _ (World.setCell _ _ _)); (with_reducible apply Hp.abs_gen H); (first | ((repeat (with_reducible apply Hp.set' 0)); (with_reducible exact H); (repeat rfl); intro w' H') | ((repeat (with_reducible apply Hp.set' 1)); (with_reducible exact H); (repeat rfl); intro w' H') | ((repeat (with_reducible apply Hp.set' 2)); (with_reducible exact H); (repeat rfl); intro w' H') | ((repeat (with_reducible apply Hp.set' 3)); (with_reducible exact H); (repeat rfl); intro w' H') | ((repeat (with_reducible apply Hp.set' 4)); (with_reducible exact H); (repeat rfl); intro w' H') | ((repeat (with_reducible apply Hp.set' 5)); (with_reducible exact H); (repeat rfl); intro w' H') | ((repeat (with_reducible apply Hp.set' 6)); (with_reducible exact H); (repeat rfl); intro w' H') | ((repeat (with_reducible apply Hp.set' 7)); (with_reducible exact H); (repeat rfl); intro w' H')); ((try simp only [z0, z1, z2] at H'); clear C H; have H := H'; clear H'; have C := Hp.facts H; simp only [Facts, factsL, and_true, true_and, z0, z1, z2] at C)) | go_values | go_skip | go_guarded | go_step | go_upon | go_back | (simp only [Int.not_lt, Int.not_le] at *; go_simp) | (go_values <;> (try go_simp)) | (go_ite <;> go_prune <;> (try go_simp)) | (split <;> (first | (rename_i hx; exact (hx _ rfl).elim) | go_prune))))
        go_loopw [4] (fun tv wr => tv = .int .i64 (l.length : Nat) ∧ Hp w [] wr) (fun tv _ => 0)
        case atStart => exact ⟨rfl, H⟩
        case round =>
          clear H C
          obtain ⟨rfl, H⟩ := hrel
          have C := Hp.facts H
          simp only [Facts, factsL, and_true, true_and, z0, z1, z2] at C
          (repeat' ((fail_if_success (with_reducible show bodyPost _ _ _ _ _ _)); first | ((with_reducible refine Hp.abs_alloc H ?_); intro b' w' H' hb'; (try simp only [hb']); clear hb'; ((try simp only [z0, z1, z2] at H'); clear C H; have H := H'; clear H'; have C := Hp.facts H; simp only [Facts, factsL, and_true, true_and, z0, z1, z2] at C)) | ((with_reducible show wpList _ _ _ _ _ (World.setCell _ _ _)); (with_reducible apply Hp.abs_gen H); (first | ((repeat (with_reducible apply Hp.set' 0)); (with_reducible exact H); (repeat rfl); intro w' H') | ((repeat (with_reducible apply Hp.set' 1)); (with_reducible exact H); (repeat rfl); intro w' H') | ((repeat (with_reducible apply Hp.set' 2)); (with_reducible exact H); (repeat rfl); intro w' H') | ((repeat (with_reducible apply Hp.set' 3)); (with_reducible exact H); (repeat rfl); intro w' H') | ((repeat (with_reducible apply Hp.set' 4)); (with_reducible exact H); (repeat rfl); intro w' H') | ((repeat (with_reducible apply Hp.set' 5)); (with_reducible exact H); (repeat rfl); intro w' H') | ((repeat (with_reducible apply Hp.set' 6)); (with_reducible exact H); (repeat rfl); intro w' H') | ((repeat (with_reducible apply Hp.set' 7)); (with_reducible exact H); (repeat rfl); intro w' H')); ((try simp only [z0, z1, z2] at H'); clear C H; have H := H'; clear H'; have C := Hp.facts H; simp only [Facts, factsL, and_true, true_and, z0, z1, z2] at C)) | go_values | go_skip | go_guarded | go_step | go_upon | go_back | (simp only [Int.not_lt, Int.not_le] at *; go_simp) | (go_values <;> (try go_simp)) | (go_ite <;> go_prune <;> (try go_simp)) | (split <;> (first | (rename_i hx; exact (hx _ rfl).elim) | go_prune))))
          go_loopw [5, 6, 7] (fun out ix _ wr => ix = .int .i64 (l.length : Nat) ∧ out = .slice none 0 0 ∧ Hp w [] wr) (fun tv _ _ _ => 0)
          case atStart => exact ⟨rfl, rfl, H⟩
          case round =>
            clear H C
            obtain ⟨rfl, rfl, H⟩ := hrel
            have C := Hp.facts H
            simp only [Facts, factsL, and_true, true_and, z0, z1, z2] at C
            (repeat' ((fail_if_success (with_reducible show bodyPost _ _ _ _ _ _)); first | ((with_reducible refine Hp.abs_alloc H ?_); intro b' w' H' hb'; (try simp only [hb']); clear hb'; ((try simp only [z0, z1, z2] at H'); clear C H; have H := H'; clear H'; have C := Hp.facts H; simp only [Facts, factsL, and_true, true_and, z0, z1, z2] at C)) | ((with_reducible show wpList _ _ _ _ _ (World.setCell _ _ _)); (with_reducible apply Hp.abs_gen H); (first | ((repeat (with_reducible apply Hp.set' 0)); (with_reducible exact H); (repeat rfl); intro w' H') | ((repeat (with_reducible apply Hp.set' 1)); (with_reducible exact H); (repeat rfl); intro w' H') | ((repeat (with_reducible apply Hp.set' 2)); (with_reducible exact H); (repeat rfl); intro w' H') | ((repeat (with_reducible apply Hp.set' 3)); (with_reducible exact H); (repeat rfl); intro w' H') | ((repeat (with_reducible apply Hp.set' 4)); (with_reducible exact H); (repeat rfl); intro w' H') | ((repeat (with_reducible apply Hp.set' 5)); (with_reducible exact H); (repeat rfl); intro w' H') | ((repeat (with_reducible apply Hp.set' 6)); (with_reducible exact H); (repeat rfl); intro w' H') | ((repeat (with_reducible apply Hp.set' 7)); (with_reducible exact H); (repeat rfl); intro w' H')); ((try simp only [z0, z1, z2] at H'); clear C H; have H := H'; clear H'; have C := Hp.facts H; simp only [Facts, factsL, and_true, true_and, z0, z1, z2] at C)) | go_values | go_skip | go_guarded | go_step | go_upon | go_back | (simp only [Int.not_lt, Int.not_le] at *; go_simp) | (go_values <;> (try go_simp)) | (go_ite <;> go_prune <;> (try go_simp)) | (split <;> (first | (rename_i hx; exact (hx _ rfl).elim) | go_prune))))
            go_ret
            rw [hall.out]
            exact ⟨⟨_, rfl, World.ownsRow_nil _ _ _ _⟩, H.low⟩
end Go.Proofs.YtmmjghdobdendaaDoor

