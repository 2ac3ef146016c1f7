/- Lemmas and walks on the way to the seat's laws; each theorem says its own conditions. -/
import Derived.Test.YtmmjghdobdendaaDoorT17
import Derived.Test.YtmmjghdobdendaaDoorB3
set_option linter.unusedSimpArgs false
set_option linter.unusedVariables false
set_option linter.unusedSimpArgs false
set_option linter.unusedVariables false
set_option maxRecDepth 100000
namespace Go.Proofs.YtmmjghdobdendaaDoor
open Go.RowKit Go.Mem Go.Reg Oct Bit Go.Txt Go.Shelf Go.LawLift
theorem sgP_odd : ∀ (n : Nat) (l : List UInt8), l.length ≤ n → l.length % 2 = 1 → (sgP l).all (may 30) = false
  | 0, l, h, h2 => by omega
  | n + 1, l, h, h2 => by
    match l, h, h2 with
    | [x], _, _ => rfl
    | x :: y :: r, h, h2 =>
      simp only [List.length_cons] at h h2
      rw [sgP, List.all_cons, sgP_odd n r (by omega) (by omega), Bool.and_false]
theorem sgP_len : ∀ (n : Nat) (l : List UInt8), l.length ≤ n → l.length % 2 = 0 → (sgP l).length * 2 = l.length
  | 0, l, h, h2 => by
    obtain rfl : l = [] := List.eq_nil_of_length_eq_zero (by omega)
    rfl
  | n + 1, l, h, h2 => by
    match l, h, h2 with
    | [], _, _ => rfl
    | x :: y :: r, h, h2 =>
      simp only [List.length_cons] at h h2 ⊢
      rw [sgP, List.length_cons]
      have := sgP_len n r (by omega) (by omega)
      omega
/-- How far the pairs have come. -/
def Pair (l : List UInt8) (i : Nat) (pre : List Int) : Prop := sgP l = pre ++ sgP (l.drop i) ∧ pre.length ≤ i
theorem Pair.next {l : List UInt8} {i : Nat} {pre : List Int} (h : Pair l i pre) (hi : i + 1 < l.length) : Pair l (i + 2) (pre ++ [256 * (l[i].toNat : Int) + (l[i + 1].toNat : Int)]) := by
  have e : l.drop i = l[i] :: l[i + 1] :: l.drop (i + 2) := by rw [List.drop_eq_getElem_cons (by omega), List.drop_eq_getElem_cons (by omega)]
  refine ⟨?_, by rw [List.length_append, List.length_singleton]; have := h.2; omega⟩
  rw [h.1, e, sgP, List.append_assoc]
  rw [Int.mul_comm]
  rfl
theorem sgS_snoc (l : List UInt8) (i : Nat) (h : i < l.length) : sgS (l.take (i + 1)) = sgS (l.take i) ++ [(l[i].toNat : Int)] := by
  unfold sgS
  rw [List.take_add_one, List.getElem?_eq_getElem h, Option.toList_some, List.map_append]
  rfl
set_option maxHeartbeats 8000000 in
theorem rsigns_any (k : Int) (l : List UInt8) (v : Value) (hl : l.length ≤ 100000) (w : World) (hb : Bs w v l) :
    Calls Tryd.prog 31 #[.agg #[.int .i64 k, v]] w (OutW w (sgOf k l) (rightT k l)) := by
  obtain ⟨i0, hi, hz0, hz1, hz2⟩ := info_parts info_i64
  have hK := rkind_any k
  have hM := rmay_any k
  have hlen := sg_len k l
  have hW := fun w hb => rwide_any l v hl w hb
  obtain ⟨A, c, rfl, hlc, hcm, hA, hcell⟩ := id hb.open
  have H := Hp.start w
  have C : True := trivial
  cases hk : knownK k with
  | false =>
    have hr := right_un (l := l) hk
    rw [hk] at hK
    rw [hr, (sgOf_no hr).1]
    clear hk hr
    go_enter Tryd.func31, Tryd.ntmps31
    (repeat' ((fail_if_success (with_reducible show bodyPost _ _ _ _ _ _)); first | ((with_reducible refine Hp.abs_alloc H ?_); intro b' w' H' hb'; (try simp only [hb']); clear hb'; ((try simp only [z0, z1, z2] at H'); clear C H; have H := H'; clear H'; have C := Hp.facts H; simp only [Facts, factsL, and_true, true_and, z0, z1, z2] at C)) | ((with_reducible show wpList _ _ _ _ _ (World.setCell _ _ _)); (with_reducible apply Hp.abs_gen H); (first | ((repeat (with_reducible apply Hp.set' 0)); (with_reducible exact H); (repeat rfl); intro w' H') | ((repeat (with_reducible apply Hp.set' 1)); (with_reducible exact H); (repeat rfl); intro w' H') | ((repeat (with_reducible apply Hp.set' 2)); (with_reducible exact H); (repeat rfl); intro w' H') | ((repeat (with_reducible apply Hp.set' 3)); (with_reducible exact H); (repeat rfl); intro w' H') | ((repeat (with_reducible apply Hp.set' 4)); (with_reducible exact H); (repeat rfl); intro w' H') | ((repeat (with_reducible apply Hp.set' 5)); (with_reducible exact H); (repeat rfl); intro w' H') | ((repeat (with_reducible apply Hp.set' 6)); (with_reducible exact H); (repeat rfl); intro w' H') | ((repeat (with_reducible apply Hp.set' 7)); (with_reducible exact H); (repeat rfl); intro w' H')); ((try simp only [z0, z1, z2] at H'); clear C H; have H := H'; clear H'; have C := Hp.facts H; simp only [Facts, factsL, and_true, true_and, z0, z1, z2] at C)) | (go_at_call 49; refine (hK _).mono ?_; rintro e' w' ⟨rfl, hb'⟩; (have H' := Hp.step H hb'; clear hb'; ((try simp only [z0, z1, z2] at H'); clear C H; have H := H'; clear H'; have C := Hp.facts H; simp only [Facts, factsL, and_true, true_and, z0, z1, z2] at C))) | go_values | go_skip | go_guarded | go_step | go_upon | go_back | (simp only [Int.not_lt, Int.not_le] at *; go_simp) | (go_values <;> (try go_simp)) | (go_ite <;> go_prune <;> (try go_simp)) | (split <;> (first | (rename_i hx; exact (hx _ rfl).elim) | go_prune))))
    go_ret2
    exact OutW.none rfl H.low
  | true =>
    rw [hk] at hK
    have hbad : (sg k l).all (may k) = false → rightT k l = false ∧ sgOf k l = [] := fun h => by
      have hr : rightT k l = false := by rw [right_is hk, h]
      exact ⟨hr, (sgOf_no hr).1⟩
    have hgood : (sg k l).all (may k) = true → sgOf k l = sg k l ∧ rightT k l = true := fun h => by
      have hr : rightT k l = true := by rw [right_is hk, h]
      exact ⟨(sgOf_yes hr).1, hr⟩
    clear hk
    rcases (by omega : k = 12 ∨ k = 30 ∨ (k ≠ 12 ∧ k ≠ 30)) with rfl | rfl | ⟨hk1, hk2⟩
    · have e : sgOf 12 l = wideO l ∧ rightT 12 l = right12 l := ⟨rfl, rfl⟩
      rw [e.1, e.2]
      clear hbad hgood e hM hcell hlen
      generalize wideO l = ns at *
      generalize right12 l = rr at *
      go_enter Tryd.func31, Tryd.ntmps31
      (repeat' ((fail_if_success (with_reducible show bodyPost _ _ _ _ _ _)); first | ((with_reducible refine Hp.abs_alloc H ?_); intro b' w' H' hb'; (try simp only [hb']); clear hb'; ((try simp only [z0, z1, z2] at H'); clear C H; have H := H'; clear H'; have C := Hp.facts H; simp only [Facts, factsL, and_true, true_and, z0, z1, z2] at C)) | ((with_reducible show wpList _ _ _ _ _ (World.setCell _ _ _)); (with_reducible apply Hp.abs_gen H); (first | ((repeat (with_reducible apply Hp.set' 0)); (with_reducible exact H); (repeat rfl); intro w' H') | ((repeat (with_reducible apply Hp.set' 1)); (with_reducible exact H); (repeat rfl); intro w' H') | ((repeat (with_reducible apply Hp.set' 2)); (with_reducible exact H); (repeat rfl); intro w' H') | ((repeat (with_reducible apply Hp.set' 3)); (with_reducible exact H); (repeat rfl); intro w' H') | ((repeat (with_reducible apply Hp.set' 4)); (with_reducible exact H); (repeat rfl); intro w' H') | ((repeat (with_reducible apply Hp.set' 5)); (with_reducible exact H); (repeat rfl); intro w' H') | ((repeat (with_reducible apply Hp.set' 6)); (with_reducible exact H); (repeat rfl); intro w' H') | ((repeat (with_reducible apply Hp.set' 7)); (with_reducible exact H); (repeat rfl); intro w' H')); ((try simp only [z0, z1, z2] at H'); clear C H; have H := H'; clear H'; have C := Hp.facts H; simp only [Facts, factsL, and_true, true_and, z0, z1, z2] at C)) | (go_at_call 49; refine (hK _).mono ?_; rintro e' w' ⟨rfl, hb'⟩; (have H' := Hp.step H hb'; clear hb'; ((try simp only [z0, z1, z2] at H'); clear C H; have H := H'; clear H'; have C := Hp.facts H; simp only [Facts, factsL, and_true, true_and, z0, z1, z2] at C))) | go_values | go_skip | go_guarded | go_step | go_upon | go_back | (simp only [Int.not_lt, Int.not_le] at *; go_simp) | (go_values <;> (try go_simp)) | (go_ite <;> go_prune <;> (try go_simp)) | (split <;> (first | (rename_i hx; exact (hx _ rfl).elim) | go_prune))))
      refine (hW _ (H.bs hb)).mono ?_
      rintro e' w' ⟨⟨v', rfl, ho⟩, hb'⟩
      have H' := Hp.rowOf H hb' ho
      obtain ⟨A4, c4, rfl⟩ := Go.LawLift.own_form ho
      clear ho hb'
      ((try simp only [z0, z1, z2] at H'); clear C H; have H := H'; clear H'; have C := Hp.facts H; simp only [Facts, factsL, and_true, true_and, z0, z1, z2] at C)
      (repeat' ((fail_if_success (with_reducible show bodyPost _ _ _ _ _ _)); first | ((with_reducible refine Hp.abs_alloc H ?_); intro b' w' H' hb'; (try simp only [hb']); clear hb'; ((try simp only [z0, z1, z2] at H'); clear C H; have H := H'; clear H'; have C := Hp.facts H; simp only [Facts, factsL, and_true, true_and, z0, z1, z2] at C)) | ((with_reducible show wpList _ _ _ _ _ (World.setCell _ _ _)); (with_reducible apply Hp.abs_gen H); (first | ((repeat (with_reducible apply Hp.set' 0)); (with_reducible exact H); (repeat rfl); intro w' H') | ((repeat (with_reducible apply Hp.set' 1)); (with_reducible exact H); (repeat rfl); intro w' H') | ((repeat (with_reducible apply Hp.set' 2)); (with_reducible exact H); (repeat rfl); intro w' H') | ((repeat (with_reducible apply Hp.set' 3)); (with_reducible exact H); (repeat rfl); intro w' H') | ((repeat (with_reducible apply Hp.set' 4)); (with_reducible exact H); (repeat rfl); intro w' H') | ((repeat (with_reducible apply Hp.set' 5)); (with_reducible exact H); (repeat rfl); intro w' H') | ((repeat (with_reducible apply Hp.set' 6)); (with_reducible exact H); (repeat rfl); intro w' H') | ((repeat (with_reducible apply Hp.set' 7)); (with_reducible exact H); (repeat rfl); intro w' H')); ((try simp only [z0, z1, z2] at H'); clear C H; have H := H'; clear H'; have C := Hp.facts H; simp only [Facts, factsL, and_true, true_and, z0, z1, z2] at C)) | go_values | go_skip | go_guarded | go_step | go_upon | go_back | (simp only [Int.not_lt, Int.not_le] at *; go_simp) | (go_values <;> (try go_simp)) | (go_ite <;> go_prune <;> (try go_simp)) | (split <;> (first | (rename_i hx; exact (hx _ rfl).elim) | go_prune))))
      go_ret2
      exact ⟨⟨_, rfl, ownsOf H 0 rfl⟩, H.low⟩
    · clear hW
      by_cases hodd : l.length % 2 = 1
      · have h := hbad (sgP_odd _ l (Nat.le_refl _) hodd)
        rw [h.1, h.2]
        clear hbad hgood h hM hcell hlen
        go_enter Tryd.func31, Tryd.ntmps31
        (repeat' ((fail_if_success (with_reducible show bodyPost _ _ _ _ _ _)); first | ((with_reducible refine Hp.abs_alloc H ?_); intro b' w' H' hb'; (try simp only [hb']); clear hb'; ((try simp only [z0, z1, z2] at H'); clear C H; have H := H'; clear H'; have C := Hp.facts H; simp only [Facts, factsL, and_true, true_and, z0, z1, z2] at C)) | ((with_reducible show wpList _ _ _ _ _ (World.setCell _ _ _)); (with_reducible apply Hp.abs_gen H); (first | ((repeat (with_reducible apply Hp.set' 0)); (with_reducible exact H); (repeat rfl); intro w' H') | ((repeat (with_reducible apply Hp.set' 1)); (with_reducible exact H); (repeat rfl); intro w' H') | ((repeat (with_reducible apply Hp.set' 2)); (with_reducible exact H); (repeat rfl); intro w' H') | ((repeat (with_reducible apply Hp.set' 3)); (with_reducible exact H); (repeat rfl); intro w' H') | ((repeat (with_reducible apply Hp.set' 4)); (with_reducible exact H); (repeat rfl); intro w' H') | ((repeat (with_reducible apply Hp.set' 5)); (with_reducible exact H); (repeat rfl); intro w' H') | ((repeat (with_reducible apply Hp.set' 6)); (with_reducible exact H); (repeat rfl); intro w' H') | ((repeat (with_reducible apply Hp.set' 7)); (with_reducible exact H); (repeat rfl); intro w' H')); ((try simp only [z0, z1, z2] at H'); clear C H; have H := H'; clear H'; have C := Hp.facts H; simp only [Facts, factsL, and_true, true_and, z0, z1, z2] at C)) | (go_at_call 49; refine (hK _).mono ?_; rintro e' w' ⟨rfl, hb'⟩; (have H' := Hp.step H hb'; clear hb'; ((try simp only [z0, z1, z2] at H'); clear C H; have H := H'; clear H'; have C := Hp.facts H; simp only [Facts, factsL, and_true, true_and, z0, z1, z2] at C))) | go_values | go_skip | go_guarded | go_step | go_upon | go_back | (simp only [Int.not_lt, Int.not_le] at *; go_simp) | (go_values <;> (try go_simp)) | (go_ite <;> go_prune <;> (try go_simp)) | (split <;> (first | (rename_i hx; exact (hx _ rfl).elim) | go_prune))))
        go_ret2
        exact OutW.none rfl H.low
      · have hln := sgP_len _ l (Nat.le_refl _) (by omega)
        have es : sg 30 l = sgP l := rfl
        rw [es] at hbad hgood hlen
        replace hbad := Kp.mk hbad
        replace hgood := Kp.mk hgood
        clear es
        have hev : ((l.length : Int) % 2 == 1) = false := by simp; omega
        go_enter Tryd.func31, Tryd.ntmps31
        (repeat' ((fail_if_success (with_reducible show bodyPost _ _ _ _ _ _)); first | ((with_reducible refine Hp.abs_alloc H ?_); intro b' w' H' hb'; (try simp only [hb']); clear hb'; ((try simp only [z0, z1, z2] at H'); clear C H; have H := H'; clear H'; have C := Hp.facts H; simp only [Facts, factsL, and_true, true_and, z0, z1, z2] at C)) | ((with_reducible show wpList _ _ _ _ _ (World.setCell _ _ _)); (with_reducible apply Hp.abs_gen H); (first | ((repeat (with_reducible apply Hp.set' 0)); (with_reducible exact H); (repeat rfl); intro w' H') | ((repeat (with_reducible apply Hp.set' 1)); (with_reducible exact H); (repeat rfl); intro w' H') | ((repeat (with_reducible apply Hp.set' 2)); (with_reducible exact H); (repeat rfl); intro w' H') | ((repeat (with_reducible apply Hp.set' 3)); (with_reducible exact H); (repeat rfl); intro w' H') | ((repeat (with_reducible apply Hp.set' 4)); (with_reducible exact H); (repeat rfl); intro w' H') | ((repeat (with_reducible apply Hp.set' 5)); (with_reducible exact H); (repeat rfl); intro w' H') | ((repeat (with_reducible apply Hp.set' 6)); (with_reducible exact H); (repeat rfl); intro w' H') | ((repeat (with_reducible apply Hp.set' 7)); (with_reducible exact H); (repeat rfl); intro w' H')); ((try simp only [z0, z1, z2] at H'); clear C H; have H := H'; clear H'; have C := Hp.facts H; simp only [Facts, factsL, and_true, true_and, z0, z1, z2] at C)) | (go_at_call 49; refine (hK _).mono ?_; rintro e' w' ⟨rfl, hb'⟩; (have H' := Hp.step H hb'; clear hb'; ((try simp only [z0, z1, z2] at H'); clear C H; have H := H'; clear H'; have C := Hp.facts H; simp only [Facts, factsL, and_true, true_and, z0, z1, z2] at C))) | go_values | go_skip | go_guarded | go_step | go_upon | go_back | (simp only [Int.not_lt, Int.not_le] at *; go_simp) | (go_values <;> (try go_simp)) | (go_ite <;> go_prune <;> (try go_simp)) | (split <;> (first | (rename_i hx; exact (hx _ rfl).elim) | go_prune))))
        (obtain ⟨bt, rfl⟩ := Hp.name H 0 rfl)
        go_loopw [4, 5] (fun lv ix wr => ∃ (i : Nat) (pre : List Int), i ≤ l.length ∧ i % 2 = 0 ∧ ix = .int .i64 i ∧ Kp (Pair l i pre) ∧ Hp w [.row 3 1 lv pre.length (zvs pre), .blk bt #[.int .i64 30, .slice A l.length c] 25] wr) (fun _ ix _ => l.length - (intOf ix).toNat)
        case atStart => exact ⟨0, [], Nat.zero_le _, rfl, rfl, Kp.mk ⟨by simp, Nat.zero_le _⟩, Hp.nilRow H _ _⟩
        case round =>
          clear H C
          obtain ⟨i, pre, hi1, hi2, rfl, hp, H⟩ := hrel
          obtain ⟨A4, c4, rfl⟩ := Go.LawLift.own_form (ownsOf H 0 rfl)
          have C := Hp.facts H
          simp only [Facts, factsL, and_true, true_and, z0, z1, z2] at C
          have hpl := hp.out.2
          by_cases hlt : i < l.length
          · obtain ⟨b, o, rfl, hgl, hcl⟩ := hcell i hlt
            have hb0 := hcl i hlt
            have hb1 := hcl (i + 1) (by omega)
            have hn := Kp.mk (hp.out.next (by omega))
            have u0 := l[i].toNat_lt
            have u1 := (l[i + 1]'(by omega)).toNat_lt
            clear hcl hcell hbad hgood hM hp hb
            generalize l[i].toNat = x at *
            generalize (l[i + 1]'(by omega)).toNat = y at *
            (repeat' ((fail_if_success (with_reducible show bodyPost _ _ _ _ _ _)); first | ((with_reducible refine Hp.abs_alloc H ?_); intro b' w' H' hb'; (try simp only [hb']); clear hb'; ((try simp only [z0, z1, z2] at H'); clear C H; have H := H'; clear H'; have C := Hp.facts H; simp only [Facts, factsL, and_true, true_and, z0, z1, z2] at C)) | ((with_reducible show wpList _ _ _ _ _ (World.setCell _ _ _)); (with_reducible apply Hp.abs_gen H); (first | ((repeat (with_reducible apply Hp.set' 0)); (with_reducible exact H); (repeat rfl); intro w' H') | ((repeat (with_reducible apply Hp.set' 1)); (with_reducible exact H); (repeat rfl); intro w' H') | ((repeat (with_reducible apply Hp.set' 2)); (with_reducible exact H); (repeat rfl); intro w' H') | ((repeat (with_reducible apply Hp.set' 3)); (with_reducible exact H); (repeat rfl); intro w' H') | ((repeat (with_reducible apply Hp.set' 4)); (with_reducible exact H); (repeat rfl); intro w' H') | ((repeat (with_reducible apply Hp.set' 5)); (with_reducible exact H); (repeat rfl); intro w' H') | ((repeat (with_reducible apply Hp.set' 6)); (with_reducible exact H); (repeat rfl); intro w' H') | ((repeat (with_reducible apply Hp.set' 7)); (with_reducible exact H); (repeat rfl); intro w' H')); ((try simp only [z0, z1, z2] at H'); clear C H; have H := H'; clear H'; have C := Hp.facts H; simp only [Facts, factsL, and_true, true_and, z0, z1, z2] at C)) | go_values | go_skip | go_guarded | go_step | go_upon | go_back | (simp only [Int.not_lt, Int.not_le] at *; go_simp) | (go_values <;> (try go_simp)) | (go_ite <;> go_prune <;> (try go_simp)) | (split <;> (first | (rename_i hx; exact (hx _ rfl).elim) | go_prune))))
            try simp (disch := omega) only [decide_eq_true, decide_eq_false]
            obtain ⟨wR12, rfl⟩ := Hp.nameW H
            apply region_n (frm wR12.heap.size (fun _ => Hp _ _)) (frm_ok ?hfs_1) frm_sz [] [.light 0 0, .light 0 0, .light 0 0, .light 0 0, .light 0 0, .light 0 0, .light 0 0, .light 0 0, .light 0 0, .light 0 0, .light 0 0, .light 0 0, .light 0 0, .light 0 0, .light 0 0, .light 0 0, .light 0 0] [false, false, false, false, false, false, false, false, false, false, false, false, false, false, false, false, true] 17 84 [17, 2, 4, 4, 5, 6, 7, 15, 9, 12, 11, 12, 13, 14, 15, 16, 17] [some 35, some 36, some 37, some 38, some 39, some 40, some 41, some 42, some 43, some 44, some 45, some 46, some 47, some 48, some 49, some 50, some 51] [[], [], [1], [], [2, 3], [4], [5], [6], [], [8], [], [10], [9, 11], [12], [13], [7, 14], [15]] [Eq1 _, Eq1 _, Eq1 _, Eq1 _, Eq1 _, Eq1 _, Eq1 (.int .i64 (x : Int)), Eq1 (.int .i64 (256 * (x : Int))), Eq1 _, Eq1 _, Eq1 _, Eq1 (.int .i64 ((i + 1 : Nat) : Int)), Eq1 _, Eq1 _, Eq1 (.int .i64 (y : Int)), Eq1 (.int .i64 (256 * (x : Int) + (y : Int))), NewSl wR12.heap.size _ _ _] ?hq1_1 ?hq2_1 ?hq3_1 ?hq4_1 ?hq5_1 ?hq6_1 _ ?hA_1 ?hst_1 ?h0_1 ?hsteps_1 ?hend_1
            case hq1_1 => kernel_rfl
            case hq2_1 => kernel_rfl
            case hq3_1 => kernel_rfl
            case hq5_1 => kernel_rfl
            case hq4_1 => rfl
            case hq6_1 => rfl
            case hA_1 => intro vs; simp only [fillD, Nat.reduceAdd, Act.put, List.setIfInBounds_toArray, List.set_cons_zero, List.set_cons_succ]; rfl
            case h0_1 => exact H.drew
            case hfs_1 => exact fun _ _ _ hb h => Hp.step h hb
            case hsteps_1 =>
              refine ⟨?_, ?_, ?_, ?_, ?_, ?_, ?_, ?_, ?_, ?_, ?_, ?_, ?_, ?_, ?_, ?_, ?_, trivial⟩
              · intro p vs w' K hJ hp1 hp2 hS hR hK
                rw [if_pos (by rfl)]
                go_step
                exact hK.out _ _ (Below.refl _ _) Eq1.mk Fresh.no
              · intro p vs w' K hJ hp1 hp2 hS hR hK
                rw [if_pos (by rfl)]
                go_step
                exact hK.out _ _ (Below.refl _ _) Eq1.mk Fresh.no
              · intro p vs w' K hJ hp1 hp2 hS hR hK
                simp only [DepJ, List.getD_cons_zero, List.getD_cons_succ] at hJ
                obtain ⟨j1, -⟩ := hJ
                have j1 := Eq1.out j1
                simp only [j1] at hK ⊢
                rw [if_pos (by rfl)]
                have C := Hp.facts hS
                simp only [Facts, factsL, and_true, true_and, z0, z1, z2] at C
                have hsz := hR.1
                go_step
                exact hK.out _ _ (Below.refl _ _) Eq1.mk Fresh.no
              · intro p vs w' K hJ hp1 hp2 hS hR hK
                rw [if_pos (by rfl)]
                go_step
                exact hK.out _ _ (Below.refl _ _) Eq1.mk Fresh.no
              · intro p vs w' K hJ hp1 hp2 hS hR hK
                simp only [DepJ, List.getD_cons_zero, List.getD_cons_succ] at hJ
                obtain ⟨j2, j3, -⟩ := hJ
                have j2 := Eq1.out j2
                have j3 := Eq1.out j3
                simp only [j2, j3] at hK ⊢
                rw [if_pos (by rfl)]
                go_step
                exact hK.out _ _ (Below.refl _ _) Eq1.mk Fresh.no
              · intro p vs w' K hJ hp1 hp2 hS hR hK
                simp only [DepJ, List.getD_cons_zero, List.getD_cons_succ] at hJ
                obtain ⟨j4, -⟩ := hJ
                have j4 := Eq1.out j4
                simp only [j4] at hK ⊢
                rw [if_pos (by rfl)]
                have C := Hp.facts hS
                simp only [Facts, factsL, and_true, true_and, z0, z1, z2] at C
                have hsz := hR.1
                go_step
                exact hK.out _ _ (Below.refl _ _) Eq1.mk Fresh.no
              · intro p vs w' K hJ hp1 hp2 hS hR hK
                simp only [DepJ, List.getD_cons_zero, List.getD_cons_succ] at hJ
                obtain ⟨j5, -⟩ := hJ
                have j5 := Eq1.out j5
                simp only [j5] at hK ⊢
                rw [if_pos (by rfl)]
                go_step
                exact hK.out _ _ (Below.refl _ _) (Eq1.of (by first | rfl | (simp; done) | (simp; omega))) Fresh.no
              · intro p vs w' K hJ hp1 hp2 hS hR hK
                simp only [DepJ, List.getD_cons_zero, List.getD_cons_succ] at hJ
                obtain ⟨j6, -⟩ := hJ
                have j6 := Eq1.out j6
                simp only [j6] at hK ⊢
                rw [if_pos (by rfl)]
                go_step
                exact hK.out _ _ (Below.refl _ _) (Eq1.of (by first | rfl | (simp; done) | (simp; omega))) Fresh.no
              · intro p vs w' K hJ hp1 hp2 hS hR hK
                rw [if_pos (by rfl)]
                go_step
                exact hK.out _ _ (Below.refl _ _) Eq1.mk Fresh.no
              · intro p vs w' K hJ hp1 hp2 hS hR hK
                simp only [DepJ, List.getD_cons_zero, List.getD_cons_succ] at hJ
                obtain ⟨j8, -⟩ := hJ
                have j8 := Eq1.out j8
                simp only [j8] at hK ⊢
                rw [if_pos (by rfl)]
                have C := Hp.facts hS
                simp only [Facts, factsL, and_true, true_and, z0, z1, z2] at C
                have hsz := hR.1
                go_step
                exact hK.out _ _ (Below.refl _ _) Eq1.mk Fresh.no
              · intro p vs w' K hJ hp1 hp2 hS hR hK
                rw [if_pos (by rfl)]
                go_step
                exact hK.out _ _ (Below.refl _ _) Eq1.mk Fresh.no
              · intro p vs w' K hJ hp1 hp2 hS hR hK
                simp only [DepJ, List.getD_cons_zero, List.getD_cons_succ] at hJ
                obtain ⟨j10, -⟩ := hJ
                have j10 := Eq1.out j10
                simp only [j10] at hK ⊢
                rw [if_pos (by rfl)]
                go_step
                exact hK.out _ _ (Below.refl _ _) (Eq1.of (by first | rfl | (simp; done) | (simp; omega))) Fresh.no
              · intro p vs w' K hJ hp1 hp2 hS hR hK
                simp only [DepJ, List.getD_cons_zero, List.getD_cons_succ] at hJ
                obtain ⟨j9, j11, -⟩ := hJ
                have j9 := Eq1.out j9
                have j11 := Eq1.out j11
                simp only [j9, j11] at hK ⊢
                rw [if_pos (by rfl)]
                go_step
                exact hK.out _ _ (Below.refl _ _) Eq1.mk Fresh.no
              · intro p vs w' K hJ hp1 hp2 hS hR hK
                simp only [DepJ, List.getD_cons_zero, List.getD_cons_succ] at hJ
                obtain ⟨j12, -⟩ := hJ
                have j12 := Eq1.out j12
                simp only [j12] at hK ⊢
                rw [if_pos (by rfl)]
                have C := Hp.facts hS
                simp only [Facts, factsL, and_true, true_and, z0, z1, z2] at C
                have hsz := hR.1
                go_step
                exact hK.out _ _ (Below.refl _ _) Eq1.mk Fresh.no
              · intro p vs w' K hJ hp1 hp2 hS hR hK
                simp only [DepJ, List.getD_cons_zero, List.getD_cons_succ] at hJ
                obtain ⟨j13, -⟩ := hJ
                have j13 := Eq1.out j13
                simp only [j13] at hK ⊢
                rw [if_pos (by rfl)]
                go_step
                exact hK.out _ _ (Below.refl _ _) (Eq1.of (by first | rfl | (simp; done) | (simp; omega))) Fresh.no
              · intro p vs w' K hJ hp1 hp2 hS hR hK
                simp only [DepJ, List.getD_cons_zero, List.getD_cons_succ] at hJ
                obtain ⟨j7, j14, -⟩ := hJ
                have j7 := Eq1.out j7
                have j14 := Eq1.out j14
                simp only [j7, j14] at hK ⊢
                rw [if_pos (by rfl)]
                go_step
                exact hK.out _ _ (Below.refl _ _) (Eq1.of (by first | rfl | (simp; done) | (simp; omega))) Fresh.no
              · intro p vs w' K hJ hp1 hp2 hS hR hK
                simp only [DepJ, List.getD_cons_zero, List.getD_cons_succ] at hJ
                obtain ⟨j15, -⟩ := hJ
                have j15 := Eq1.out j15
                simp only [j15] at hK ⊢
                rw [if_pos (by rfl)]
                go_step
                exact hK.out _ _ ((Below.refl _ _).alloc (Nat.le_refl _) _) (NewSl.mk _ _ _ _ _ hR.1) Fresh.sl
            case hst_1 => refine ⟨fun _ _ _ _ h => h, fun _ _ _ _ h => h, fun _ _ _ _ h => h, fun _ _ _ _ h => h, fun _ _ _ _ h => h, fun _ _ _ _ h => h, fun _ _ _ _ h => h, fun _ _ _ _ h => h, fun _ _ _ _ h => h, fun _ _ _ _ h => h, fun _ _ _ _ h => h, fun _ _ _ _ h => h, fun _ _ _ _ h => h, fun _ _ _ _ h => h, fun _ _ _ _ h => h, fun _ _ _ _ h => h, fun _ _ _ hs h => NewSl.stayR hs h, trivial⟩
            intro vs w' hJ hD hS hR
            simp only [AllJ, Nat.reduceAdd] at hJ
            obtain ⟨v0, v1, v2, v3, v4, v5, v6, v7, v8, v9, v10, v11, v12, v13, v14, v15, v16, -⟩ := hJ
            clear C
            replace v0 := Eq1.out v0
            replace v1 := Eq1.out v1
            replace v2 := Eq1.out v2
            replace v3 := Eq1.out v3
            replace v4 := Eq1.out v4
            replace v5 := Eq1.out v5
            replace v6 := Eq1.out v6
            replace v7 := Eq1.out v7
            replace v8 := Eq1.out v8
            replace v9 := Eq1.out v9
            replace v10 := Eq1.out v10
            replace v11 := Eq1.out v11
            replace v12 := Eq1.out v12
            replace v13 := Eq1.out v13
            replace v14 := Eq1.out v14
            replace v15 := Eq1.out v15
            obtain ⟨k16, e16, hB16, hh16⟩ := v16
            simp only [v0, v1, v2, v3, v4, v5, v6, v7, v8, v9, v10, v11, v12, v13, v14, v15, e16, List.drop_succ_cons, List.drop_zero]
            replace hS : Hp _ _ _ := hS
            have H' := Hp.adopts hS H.low.size (fun k hk => Hp.lows H k hk) [.blk k16 _ _] (by intro x hx; simp only [List.mem_cons, List.not_mem_nil, or_false] at hx; subst hx; exact ⟨hh16, hB16⟩) (nodup1 _)
            simp only [List.cons_append, List.nil_append] at H'
            clear hD hR hS v0 v1 v2 v3 v4 v5 v6 v7 v8 v9 v10 v11 v12 v13 v14 v15
            clear e16 hB16 hh16
            clear vs H
            have H := H'; clear H'; have C := Hp.facts H; simp only [Facts, factsL, and_true, true_and, z0, z1, z2] at C
            (repeat' ((fail_if_success (with_reducible show bodyPost _ _ _ _ _ _)); first | ((with_reducible refine Hp.abs_alloc H ?_); intro b' w' H' hb'; (try simp only [hb']); clear hb'; ((try simp only [z0, z1, z2] at H'); clear C H; have H := H'; clear H'; have C := Hp.facts H; simp only [Facts, factsL, and_true, true_and, z0, z1, z2] at C)) | ((with_reducible show wpList _ _ _ _ _ (World.setCell _ _ _)); (with_reducible apply Hp.abs_gen H); (first | ((repeat (with_reducible apply Hp.set' 0)); (with_reducible exact H); (repeat rfl); intro w' H') | ((repeat (with_reducible apply Hp.set' 1)); (with_reducible exact H); (repeat rfl); intro w' H') | ((repeat (with_reducible apply Hp.set' 2)); (with_reducible exact H); (repeat rfl); intro w' H') | ((repeat (with_reducible apply Hp.set' 3)); (with_reducible exact H); (repeat rfl); intro w' H') | ((repeat (with_reducible apply Hp.set' 4)); (with_reducible exact H); (repeat rfl); intro w' H') | ((repeat (with_reducible apply Hp.set' 5)); (with_reducible exact H); (repeat rfl); intro w' H') | ((repeat (with_reducible apply Hp.set' 6)); (with_reducible exact H); (repeat rfl); intro w' H') | ((repeat (with_reducible apply Hp.set' 7)); (with_reducible exact H); (repeat rfl); intro w' H')); ((try simp only [z0, z1, z2] at H'); clear C H; have H := H'; clear H'; have C := Hp.facts H; simp only [Facts, factsL, and_true, true_and, z0, z1, z2] at C)) | (at_builtin; (refine wpList_append_hp H 1 rfl _ _ _ rfl Tryd.underlying22 hi hz0 hz1 hz2 rfl (by decide) rfl rfl rfl (news := [_]) rfl (fun h => by cases h) (fun _ => ⟨_, rfl, blk_news (H.get 0 rfl)⟩) (by simp [Value.oneCell']) (by unfold maxLen; omega) (by omega) ?_); intro v' w' H'; ((try simp only [z0, z1, z2] at H'); clear C H; have H := H'; clear H'; have C := Hp.facts H; simp only [Facts, factsL, and_true, true_and, z0, z1, z2] at C)) | go_values | go_skip | go_guarded | go_step | go_upon | go_back | (simp only [Int.not_lt, Int.not_le] at *; go_simp) | (go_values <;> (try go_simp)) | (go_ite <;> go_prune <;> (try go_simp)) | (split <;> (first | (rename_i hx; exact (hx _ rfl).elim) | go_prune))))
            refine ⟨⟨i + 2, pre ++ [256 * (x : Int) + (y : Int)], by omega, by omega, by go_num, hn, ?_⟩, by simp [intOf]; omega⟩
            rw [List.length_append, ← zvs_snoc]
            exact H.tail
          · have hq : sgP l = pre := by
              rw [hp.out.1, List.drop_eq_nil_of_le (by omega)]
              simp [sgP]
            rw [hq] at hbad hgood
            clear hq hp hcell
            generalize hns : pre = ns at *
            clear hns
            have hz := Kp.mk (show ns.length = ns.length from rfl)
            (repeat' ((fail_if_success (with_reducible show bodyPost _ _ _ _ _ _)); first | ((with_reducible refine Hp.abs_alloc H ?_); intro b' w' H' hb'; (try simp only [hb']); clear hb'; ((try simp only [z0, z1, z2] at H'); clear C H; have H := H'; clear H'; have C := Hp.facts H; simp only [Facts, factsL, and_true, true_and, z0, z1, z2] at C)) | ((with_reducible show wpList _ _ _ _ _ (World.setCell _ _ _)); (with_reducible apply Hp.abs_gen H); (first | ((repeat (with_reducible apply Hp.set' 0)); (with_reducible exact H); (repeat rfl); intro w' H') | ((repeat (with_reducible apply Hp.set' 1)); (with_reducible exact H); (repeat rfl); intro w' H') | ((repeat (with_reducible apply Hp.set' 2)); (with_reducible exact H); (repeat rfl); intro w' H') | ((repeat (with_reducible apply Hp.set' 3)); (with_reducible exact H); (repeat rfl); intro w' H') | ((repeat (with_reducible apply Hp.set' 4)); (with_reducible exact H); (repeat rfl); intro w' H') | ((repeat (with_reducible apply Hp.set' 5)); (with_reducible exact H); (repeat rfl); intro w' H') | ((repeat (with_reducible apply Hp.set' 6)); (with_reducible exact H); (repeat rfl); intro w' H') | ((repeat (with_reducible apply Hp.set' 7)); (with_reducible exact H); (repeat rfl); intro w' H')); ((try simp only [z0, z1, z2] at H'); clear C H; have H := H'; clear H'; have C := Hp.facts H; simp only [Facts, factsL, and_true, true_and, z0, z1, z2] at C)) | go_values | go_skip | go_guarded | go_step | go_upon | go_back | (simp only [Int.not_lt, Int.not_le] at *; go_simp) | (go_values <;> (try go_simp)) | (go_ite <;> go_prune <;> (try go_simp)) | (split <;> (first | (rename_i hx; exact (hx _ rfl).elim) | go_prune))))
            go_loopw [7] (fun ix wy => ∃ j : Nat, j ≤ ns.length ∧ ix = .int .i64 j ∧ Kp ((ns.take j).all (may 30) = true) ∧ Hp w [.row 3 1 (.slice A4 ns.length c4) ns.length (zvs ns), .blk bt #[.int .i64 30, .slice A l.length c] 25] wy) (fun ix _ => ns.length - (intOf ix).toNat)
            case atStart => exact ⟨0, Nat.zero_le _, rfl, Kp.mk rfl, H⟩
            case round =>
              clear H C
              obtain ⟨j, hj, rfl, ha, H⟩ := hrel
              have C := Hp.facts H
              simp only [Facts, factsL, and_true, true_and, z0, z1, z2] at C
              by_cases hjL : j < ns.length
              · have hjl : j < ns.length := by have := hz.out; omega
                obtain ⟨b, o, rfl, hgl, hc⟩ := Zs.at (xs := ns) (Hp.row H 0 rfl) j hjl
                have hM1 := hM ns[j]
                have hget : ∀ wx, Zs wx (.slice (some ⟨b, o, none⟩) ns.length c4) ns → wx.cell? ⟨b, o + j, none⟩ = some (.int .i64 ns[j]) := fun wx h => by
                  obtain ⟨b', o', e, -, hcx⟩ := Zs.at (xs := ns) h j hjl
                  injection e with e
                  injection e with e1 e2
                  subst e1 e2
                  exact hcx
                clear hc
                cases hm : may 30 ns[j] with
                | false =>
                  have hr := Kp.mk (hbad.out (all_at_no hjl hm))
                  rw [hm] at hM1
                  clear hm hbad hgood ha
                  generalize ns[j] = x at *
                  (repeat' ((fail_if_success (with_reducible show bodyPost _ _ _ _ _ _)); first | ((with_reducible refine Hp.abs_alloc H ?_); intro b' w' H' hb'; (try simp only [hb']); clear hb'; ((try simp only [z0, z1, z2] at H'); clear C H; have H := H'; clear H'; have C := Hp.facts H; simp only [Facts, factsL, and_true, true_and, z0, z1, z2] at C)) | ((with_reducible show wpList _ _ _ _ _ (World.setCell _ _ _)); (with_reducible apply Hp.abs_gen H); (first | ((repeat (with_reducible apply Hp.set' 0)); (with_reducible exact H); (repeat rfl); intro w' H') | ((repeat (with_reducible apply Hp.set' 1)); (with_reducible exact H); (repeat rfl); intro w' H') | ((repeat (with_reducible apply Hp.set' 2)); (with_reducible exact H); (repeat rfl); intro w' H') | ((repeat (with_reducible apply Hp.set' 3)); (with_reducible exact H); (repeat rfl); intro w' H') | ((repeat (with_reducible apply Hp.set' 4)); (with_reducible exact H); (repeat rfl); intro w' H') | ((repeat (with_reducible apply Hp.set' 5)); (with_reducible exact H); (repeat rfl); intro w' H') | ((repeat (with_reducible apply Hp.set' 6)); (with_reducible exact H); (repeat rfl); intro w' H') | ((repeat (with_reducible apply Hp.set' 7)); (with_reducible exact H); (repeat rfl); intro w' H')); ((try simp only [z0, z1, z2] at H'); clear C H; have H := H'; clear H'; have C := Hp.facts H; simp only [Facts, factsL, and_true, true_and, z0, z1, z2] at C)) | go_values | go_skip | go_guarded | go_step | go_upon | go_back | (simp only [Int.not_lt, Int.not_le] at *; go_simp) | (go_values <;> (try go_simp)) | (go_ite <;> go_prune <;> (try go_simp)) | (split <;> (first | (rename_i hx; exact (hx _ rfl).elim) | go_prune))))
                  try simp (disch := omega) only [decide_eq_true, decide_eq_false]
                  obtain ⟨wR20, rfl⟩ := Hp.nameW H
                  apply region_n (frm wR20.heap.size (fun _ => Hp _ _)) (frm_ok ?hfs_2) frm_sz [] [.light 0 0, .light 0 0, .light 0 0, .light 0 0, .light 0 0, .light 0 0, .light 0 0, .light 0 0] [false, false, false, false, false, false, false, false] 8 84 [] [some 75, some 76, some 77, some 78, some 79, some 80, some 81, some 82] [[], [0], [], [], [2, 3], [4], [1, 5], [6]] [Eq1 _, Eq1 _, Eq1 _, Eq1 _, Eq1 _, Eq1 _, Eq1 _, Eq1 (.bool true)] ?hq1_2 ?hq2_2 ?hq3_2 ?hq4_2 ?hq5_2 ?hq6_2 _ ?hA_2 ?hst_2 ?h0_2 ?hsteps_2 ?hend_2
                  case hq1_2 => kernel_rfl
                  case hq2_2 => kernel_rfl
                  case hq3_2 => kernel_rfl
                  case hq5_2 => kernel_rfl
                  case hq4_2 => rfl
                  case hq6_2 => rfl
                  case hA_2 => intro vs; simp only [fillD, Nat.reduceAdd, Act.put, List.setIfInBounds_toArray, List.set_cons_zero, List.set_cons_succ]; rfl
                  case h0_2 => exact H.drew
                  case hfs_2 => exact fun _ _ _ hb h => Hp.step h hb
                  case hsteps_2 =>
                    refine ⟨?_, ?_, ?_, ?_, ?_, ?_, ?_, ?_, trivial⟩
                    · intro p vs w' K hJ hp1 hp2 hS hR hK
                      rw [if_pos (by rfl)]
                      go_step
                      exact hK.out _ _ (Below.refl _ _) Eq1.mk Fresh.no
                    · intro p vs w' K hJ hp1 hp2 hS hR hK
                      simp only [DepJ, List.getD_cons_zero, List.getD_cons_succ] at hJ
                      obtain ⟨j0, -⟩ := hJ
                      have j0 := Eq1.out j0
                      simp only [j0] at hK ⊢
                      rw [if_pos (by rfl)]
                      have C := Hp.facts hS
                      simp only [Facts, factsL, and_true, true_and, z0, z1, z2] at C
                      have hsz := hR.1
                      go_step
                      exact hK.out _ _ (Below.refl _ _) Eq1.mk Fresh.no
                    · intro p vs w' K hJ hp1 hp2 hS hR hK
                      rw [if_pos (by rfl)]
                      go_step
                      exact hK.out _ _ (Below.refl _ _) Eq1.mk Fresh.no
                    · intro p vs w' K hJ hp1 hp2 hS hR hK
                      rw [if_pos (by rfl)]
                      go_step
                      exact hK.out _ _ (Below.refl _ _) Eq1.mk Fresh.no
                    · intro p vs w' K hJ hp1 hp2 hS hR hK
                      simp only [DepJ, List.getD_cons_zero, List.getD_cons_succ] at hJ
                      obtain ⟨j2, j3, -⟩ := hJ
                      have j2 := Eq1.out j2
                      have j3 := Eq1.out j3
                      simp only [j2, j3] at hK ⊢
                      rw [if_pos (by rfl)]
                      go_step
                      exact hK.out _ _ (Below.refl _ _) Eq1.mk Fresh.no
                    · intro p vs w' K hJ hp1 hp2 hS hR hK
                      simp only [DepJ, List.getD_cons_zero, List.getD_cons_succ] at hJ
                      obtain ⟨j4, -⟩ := hJ
                      have j4 := Eq1.out j4
                      simp only [j4] at hK ⊢
                      rw [if_pos (by rfl)]
                      have C := Hp.facts hS
                      simp only [Facts, factsL, and_true, true_and, z0, z1, z2] at C
                      have hsz := hR.1
                      replace hS : Hp _ _ _ := hS
                      have hq := hget _ (Hp.row hS 0 rfl)
                      go_step
                      exact hK.out _ _ (Below.refl _ _) Eq1.mk Fresh.no
                    · intro p vs w' K hJ hp1 hp2 hS hR hK
                      simp only [DepJ, List.getD_cons_zero, List.getD_cons_succ] at hJ
                      obtain ⟨j1, j5, -⟩ := hJ
                      have j1 := Eq1.out j1
                      have j5 := Eq1.out j5
                      simp only [j1, j5] at hK ⊢
                      rw [if_pos (by rfl)]
                      have C := Hp.facts hS
                      simp only [Facts, factsL, and_true, true_and, z0, z1, z2] at C
                      have hsz := hR.1
                      go_step
                      refine (hM1 _).mono ?_
                      rintro e' w'' ⟨rfl, hb⟩
                      exact hK.out _ _ hb Eq1.mk Fresh.no
                    · intro p vs w' K hJ hp1 hp2 hS hR hK
                      simp only [DepJ, List.getD_cons_zero, List.getD_cons_succ] at hJ
                      obtain ⟨j6, -⟩ := hJ
                      have j6 := Eq1.out j6
                      simp only [j6] at hK ⊢
                      rw [if_pos (by rfl)]
                      go_step
                      exact hK.out _ _ (Below.refl _ _) (Eq1.of (by first | rfl | (simp; done) | (simp; omega))) Fresh.no
                  case hst_2 => refine ⟨fun _ _ _ _ h => h, fun _ _ _ _ h => h, fun _ _ _ _ h => h, fun _ _ _ _ h => h, fun _ _ _ _ h => h, fun _ _ _ _ h => h, fun _ _ _ _ h => h, fun _ _ _ _ h => h, trivial⟩
                  intro vs w' hJ hD hS hR
                  simp only [AllJ, Nat.reduceAdd] at hJ
                  obtain ⟨v0, v1, v2, v3, v4, v5, v6, v7, -⟩ := hJ
                  clear C
                  replace v0 := Eq1.out v0
                  replace v1 := Eq1.out v1
                  replace v2 := Eq1.out v2
                  replace v3 := Eq1.out v3
                  replace v4 := Eq1.out v4
                  replace v5 := Eq1.out v5
                  replace v6 := Eq1.out v6
                  replace v7 := Eq1.out v7
                  simp only [v0, v1, v2, v3, v4, v5, v6, v7, List.drop_succ_cons, List.drop_zero]
                  refine wpList_nil' ?_
                  have H' : Hp _ _ _ := hS
                  clear hD hR hS v0 v1 v2 v3 v4 v5 v6 v7
                  clear vs H
                  have H := H'; clear H'; have C := Hp.facts H; simp only [Facts, factsL, and_true, true_and, z0, z1, z2] at C
                  (repeat' ((fail_if_success (with_reducible show bodyPost _ _ _ _ _ _)); first | ((with_reducible refine Hp.abs_alloc H ?_); intro b' w' H' hb'; (try simp only [hb']); clear hb'; ((try simp only [z0, z1, z2] at H'); clear C H; have H := H'; clear H'; have C := Hp.facts H; simp only [Facts, factsL, and_true, true_and, z0, z1, z2] at C)) | ((with_reducible show wpList _ _ _ _ _ (World.setCell _ _ _)); (with_reducible apply Hp.abs_gen H); (first | ((repeat (with_reducible apply Hp.set' 0)); (with_reducible exact H); (repeat rfl); intro w' H') | ((repeat (with_reducible apply Hp.set' 1)); (with_reducible exact H); (repeat rfl); intro w' H') | ((repeat (with_reducible apply Hp.set' 2)); (with_reducible exact H); (repeat rfl); intro w' H') | ((repeat (with_reducible apply Hp.set' 3)); (with_reducible exact H); (repeat rfl); intro w' H') | ((repeat (with_reducible apply Hp.set' 4)); (with_reducible exact H); (repeat rfl); intro w' H') | ((repeat (with_reducible apply Hp.set' 5)); (with_reducible exact H); (repeat rfl); intro w' H') | ((repeat (with_reducible apply Hp.set' 6)); (with_reducible exact H); (repeat rfl); intro w' H') | ((repeat (with_reducible apply Hp.set' 7)); (with_reducible exact H); (repeat rfl); intro w' H')); ((try simp only [z0, z1, z2] at H'); clear C H; have H := H'; clear H'; have C := Hp.facts H; simp only [Facts, factsL, and_true, true_and, z0, z1, z2] at C)) | go_values | go_skip | go_guarded | go_step | go_upon | go_back | (simp only [Int.not_lt, Int.not_le] at *; go_simp) | (go_values <;> (try go_simp)) | (go_ite <;> go_prune <;> (try go_simp)) | (split <;> (first | (rename_i hx; exact (hx _ rfl).elim) | go_prune))))
                  go_ret2
                  rw [hr.out.1, hr.out.2]
                  exact OutW.none rfl H.low
                | true =>
                  have ha2 := Kp.mk (all_take_succ hjl ha.out hm)
                  rw [hm] at hM1
                  clear hm hbad hgood ha
                  generalize ns[j] = x at *
                  (repeat' ((fail_if_success (with_reducible show bodyPost _ _ _ _ _ _)); first | ((with_reducible refine Hp.abs_alloc H ?_); intro b' w' H' hb'; (try simp only [hb']); clear hb'; ((try simp only [z0, z1, z2] at H'); clear C H; have H := H'; clear H'; have C := Hp.facts H; simp only [Facts, factsL, and_true, true_and, z0, z1, z2] at C)) | ((with_reducible show wpList _ _ _ _ _ (World.setCell _ _ _)); (with_reducible apply Hp.abs_gen H); (first | ((repeat (with_reducible apply Hp.set' 0)); (with_reducible exact H); (repeat rfl); intro w' H') | ((repeat (with_reducible apply Hp.set' 1)); (with_reducible exact H); (repeat rfl); intro w' H') | ((repeat (with_reducible apply Hp.set' 2)); (with_reducible exact H); (repeat rfl); intro w' H') | ((repeat (with_reducible apply Hp.set' 3)); (with_reducible exact H); (repeat rfl); intro w' H') | ((repeat (with_reducible apply Hp.set' 4)); (with_reducible exact H); (repeat rfl); intro w' H') | ((repeat (with_reducible apply Hp.set' 5)); (with_reducible exact H); (repeat rfl); intro w' H') | ((repeat (with_reducible apply Hp.set' 6)); (with_reducible exact H); (repeat rfl); intro w' H') | ((repeat (with_reducible apply Hp.set' 7)); (with_reducible exact H); (repeat rfl); intro w' H')); ((try simp only [z0, z1, z2] at H'); clear C H; have H := H'; clear H'; have C := Hp.facts H; simp only [Facts, factsL, and_true, true_and, z0, z1, z2] at C)) | go_values | go_skip | go_guarded | go_step | go_upon | go_back | (simp only [Int.not_lt, Int.not_le] at *; go_simp) | (go_values <;> (try go_simp)) | (go_ite <;> go_prune <;> (try go_simp)) | (split <;> (first | (rename_i hx; exact (hx _ rfl).elim) | go_prune))))
                  try simp (disch := omega) only [decide_eq_true, decide_eq_false]
                  obtain ⟨wR20, rfl⟩ := Hp.nameW H
                  apply region_n (frm wR20.heap.size (fun _ => Hp _ _)) (frm_ok ?hfs_3) frm_sz [] [.light 0 0, .light 0 0, .light 0 0, .light 0 0, .light 0 0, .light 0 0, .light 0 0, .light 0 0] [false, false, false, false, false, false, false, false] 8 84 [] [some 75, some 76, some 77, some 78, some 79, some 80, some 81, some 82] [[], [0], [], [], [2, 3], [4], [1, 5], [6]] [Eq1 _, Eq1 _, Eq1 _, Eq1 _, Eq1 _, Eq1 _, Eq1 _, Eq1 (.bool false)] ?hq1_3 ?hq2_3 ?hq3_3 ?hq4_3 ?hq5_3 ?hq6_3 _ ?hA_3 ?hst_3 ?h0_3 ?hsteps_3 ?hend_3
                  case hq1_3 => kernel_rfl
                  case hq2_3 => kernel_rfl
                  case hq3_3 => kernel_rfl
                  case hq5_3 => kernel_rfl
                  case hq4_3 => rfl
                  case hq6_3 => rfl
                  case hA_3 => intro vs; simp only [fillD, Nat.reduceAdd, Act.put, List.setIfInBounds_toArray, List.set_cons_zero, List.set_cons_succ]; rfl
                  case h0_3 => exact H.drew
                  case hfs_3 => exact fun _ _ _ hb h => Hp.step h hb
                  case hsteps_3 =>
                    refine ⟨?_, ?_, ?_, ?_, ?_, ?_, ?_, ?_, trivial⟩
                    · intro p vs w' K hJ hp1 hp2 hS hR hK
                      rw [if_pos (by rfl)]
                      go_step
                      exact hK.out _ _ (Below.refl _ _) Eq1.mk Fresh.no
                    · intro p vs w' K hJ hp1 hp2 hS hR hK
                      simp only [DepJ, List.getD_cons_zero, List.getD_cons_succ] at hJ
                      obtain ⟨j0, -⟩ := hJ
                      have j0 := Eq1.out j0
                      simp only [j0] at hK ⊢
                      rw [if_pos (by rfl)]
                      have C := Hp.facts hS
                      simp only [Facts, factsL, and_true, true_and, z0, z1, z2] at C
                      have hsz := hR.1
                      go_step
                      exact hK.out _ _ (Below.refl _ _) Eq1.mk Fresh.no
                    · intro p vs w' K hJ hp1 hp2 hS hR hK
                      rw [if_pos (by rfl)]
                      go_step
                      exact hK.out _ _ (Below.refl _ _) Eq1.mk Fresh.no
                    · intro p vs w' K hJ hp1 hp2 hS hR hK
                      rw [if_pos (by rfl)]
                      go_step
                      exact hK.out _ _ (Below.refl _ _) Eq1.mk Fresh.no
                    · intro p vs w' K hJ hp1 hp2 hS hR hK
                      simp only [DepJ, List.getD_cons_zero, List.getD_cons_succ] at hJ
                      obtain ⟨j2, j3, -⟩ := hJ
                      have j2 := Eq1.out j2
                      have j3 := Eq1.out j3
                      simp only [j2, j3] at hK ⊢
                      rw [if_pos (by rfl)]
                      go_step
                      exact hK.out _ _ (Below.refl _ _) Eq1.mk Fresh.no
                    · intro p vs w' K hJ hp1 hp2 hS hR hK
                      simp only [DepJ, List.getD_cons_zero, List.getD_cons_succ] at hJ
                      obtain ⟨j4, -⟩ := hJ
                      have j4 := Eq1.out j4
                      simp only [j4] at hK ⊢
                      rw [if_pos (by rfl)]
                      have C := Hp.facts hS
                      simp only [Facts, factsL, and_true, true_and, z0, z1, z2] at C
                      have hsz := hR.1
                      replace hS : Hp _ _ _ := hS
                      have hq := hget _ (Hp.row hS 0 rfl)
                      go_step
                      exact hK.out _ _ (Below.refl _ _) Eq1.mk Fresh.no
                    · intro p vs w' K hJ hp1 hp2 hS hR hK
                      simp only [DepJ, List.getD_cons_zero, List.getD_cons_succ] at hJ
                      obtain ⟨j1, j5, -⟩ := hJ
                      have j1 := Eq1.out j1
                      have j5 := Eq1.out j5
                      simp only [j1, j5] at hK ⊢
                      rw [if_pos (by rfl)]
                      have C := Hp.facts hS
                      simp only [Facts, factsL, and_true, true_and, z0, z1, z2] at C
                      have hsz := hR.1
                      go_step
                      refine (hM1 _).mono ?_
                      rintro e' w'' ⟨rfl, hb⟩
                      exact hK.out _ _ hb Eq1.mk Fresh.no
                    · intro p vs w' K hJ hp1 hp2 hS hR hK
                      simp only [DepJ, List.getD_cons_zero, List.getD_cons_succ] at hJ
                      obtain ⟨j6, -⟩ := hJ
                      have j6 := Eq1.out j6
                      simp only [j6] at hK ⊢
                      rw [if_pos (by rfl)]
                      go_step
                      exact hK.out _ _ (Below.refl _ _) (Eq1.of (by first | rfl | (simp; done) | (simp; omega))) Fresh.no
                  case hst_3 => refine ⟨fun _ _ _ _ h => h, fun _ _ _ _ h => h, fun _ _ _ _ h => h, fun _ _ _ _ h => h, fun _ _ _ _ h => h, fun _ _ _ _ h => h, fun _ _ _ _ h => h, fun _ _ _ _ h => h, trivial⟩
                  intro vs w' hJ hD hS hR
                  simp only [AllJ, Nat.reduceAdd] at hJ
                  obtain ⟨v0, v1, v2, v3, v4, v5, v6, v7, -⟩ := hJ
                  clear C
                  replace v0 := Eq1.out v0
                  replace v1 := Eq1.out v1
                  replace v2 := Eq1.out v2
                  replace v3 := Eq1.out v3
                  replace v4 := Eq1.out v4
                  replace v5 := Eq1.out v5
                  replace v6 := Eq1.out v6
                  replace v7 := Eq1.out v7
                  simp only [v0, v1, v2, v3, v4, v5, v6, v7, List.drop_succ_cons, List.drop_zero]
                  refine wpList_nil' ?_
                  have H' : Hp _ _ _ := hS
                  clear hD hR hS v0 v1 v2 v3 v4 v5 v6 v7
                  clear vs H
                  have H := H'; clear H'; have C := Hp.facts H; simp only [Facts, factsL, and_true, true_and, z0, z1, z2] at C
                  (repeat' ((fail_if_success (with_reducible show bodyPost _ _ _ _ _ _)); first | ((with_reducible refine Hp.abs_alloc H ?_); intro b' w' H' hb'; (try simp only [hb']); clear hb'; ((try simp only [z0, z1, z2] at H'); clear C H; have H := H'; clear H'; have C := Hp.facts H; simp only [Facts, factsL, and_true, true_and, z0, z1, z2] at C)) | ((with_reducible show wpList _ _ _ _ _ (World.setCell _ _ _)); (with_reducible apply Hp.abs_gen H); (first | ((repeat (with_reducible apply Hp.set' 0)); (with_reducible exact H); (repeat rfl); intro w' H') | ((repeat (with_reducible apply Hp.set' 1)); (with_reducible exact H); (repeat rfl); intro w' H') | ((repeat (with_reducible apply Hp.set' 2)); (with_reducible exact H); (repeat rfl); intro w' H') | ((repeat (with_reducible apply Hp.set' 3)); (with_reducible exact H); (repeat rfl); intro w' H') | ((repeat (with_reducible apply Hp.set' 4)); (with_reducible exact H); (repeat rfl); intro w' H') | ((repeat (with_reducible apply Hp.set' 5)); (with_reducible exact H); (repeat rfl); intro w' H') | ((repeat (with_reducible apply Hp.set' 6)); (with_reducible exact H); (repeat rfl); intro w' H') | ((repeat (with_reducible apply Hp.set' 7)); (with_reducible exact H); (repeat rfl); intro w' H')); ((try simp only [z0, z1, z2] at H'); clear C H; have H := H'; clear H'; have C := Hp.facts H; simp only [Facts, factsL, and_true, true_and, z0, z1, z2] at C)) | go_values | go_skip | go_guarded | go_step | go_upon | go_back | (simp only [Int.not_lt, Int.not_le] at *; go_simp) | (go_values <;> (try go_simp)) | (go_ite <;> go_prune <;> (try go_simp)) | (split <;> (first | (rename_i hx; exact (hx _ rfl).elim) | go_prune))))
                  exact ⟨⟨j + 1, by omega, by go_num, ha2, H⟩, by simp [intOf]; omega⟩
              · have ha' : ns.all (may 30) = true := by
                  have := ha.out
                  rwa [List.take_of_length_le (by have := hz.out; omega)] at this
                have hr := Kp.mk (hgood.out ha')
                clear hbad hgood ha ha' hM
                (repeat' ((fail_if_success (with_reducible show bodyPost _ _ _ _ _ _)); first | ((with_reducible refine Hp.abs_alloc H ?_); intro b' w' H' hb'; (try simp only [hb']); clear hb'; ((try simp only [z0, z1, z2] at H'); clear C H; have H := H'; clear H'; have C := Hp.facts H; simp only [Facts, factsL, and_true, true_and, z0, z1, z2] at C)) | ((with_reducible show wpList _ _ _ _ _ (World.setCell _ _ _)); (with_reducible apply Hp.abs_gen H); (first | ((repeat (with_reducible apply Hp.set' 0)); (with_reducible exact H); (repeat rfl); intro w' H') | ((repeat (with_reducible apply Hp.set' 1)); (with_reducible exact H); (repeat rfl); intro w' H') | ((repeat (with_reducible apply Hp.set' 2)); (with_reducible exact H); (repeat rfl); intro w' H') | ((repeat (with_reducible apply Hp.set' 3)); (with_reducible exact H); (repeat rfl); intro w' H') | ((repeat (with_reducible apply Hp.set' 4)); (with_reducible exact H); (repeat rfl); intro w' H') | ((repeat (with_reducible apply Hp.set' 5)); (with_reducible exact H); (repeat rfl); intro w' H') | ((repeat (with_reducible apply Hp.set' 6)); (with_reducible exact H); (repeat rfl); intro w' H') | ((repeat (with_reducible apply Hp.set' 7)); (with_reducible exact H); (repeat rfl); intro w' H')); ((try simp only [z0, z1, z2] at H'); clear C H; have H := H'; clear H'; have C := Hp.facts H; simp only [Facts, factsL, and_true, true_and, z0, z1, z2] at C)) | go_values | go_skip | go_guarded | go_step | go_upon | go_back | (simp only [Int.not_lt, Int.not_le] at *; go_simp) | (go_values <;> (try go_simp)) | (go_ite <;> go_prune <;> (try go_simp)) | (split <;> (first | (rename_i hx; exact (hx _ rfl).elim) | go_prune))))
                go_ret2
                rw [hr.out.1, hr.out.2]
                exact ⟨⟨_, rfl, by first | exact ownsOf H 0 rfl | (rw [hz.out]; exact ownsOf H 0 rfl)⟩, H.low⟩

    · clear hW
      have es : sg k l = sgS l := by unfold sg; rw [if_neg hk1, if_neg hk2]
      rw [es] at hbad hgood hlen
      replace hbad := Kp.mk hbad
      replace hgood := Kp.mk hgood
      clear es
      have hk1' : (k == 12) = false := by simpa using hk1
      have hk2' : (k == 30) = false := by simpa using hk2
      clear hk1 hk2
      go_enter Tryd.func31, Tryd.ntmps31
      (repeat' ((fail_if_success (with_reducible show bodyPost _ _ _ _ _ _)); first | ((with_reducible refine Hp.abs_alloc H ?_); intro b' w' H' hb'; (try simp only [hb']); clear hb'; ((try simp only [z0, z1, z2] at H'); clear C H; have H := H'; clear H'; have C := Hp.facts H; simp only [Facts, factsL, and_true, true_and, z0, z1, z2] at C)) | ((with_reducible show wpList _ _ _ _ _ (World.setCell _ _ _)); (with_reducible apply Hp.abs_gen H); (first | ((repeat (with_reducible apply Hp.set' 0)); (with_reducible exact H); (repeat rfl); intro w' H') | ((repeat (with_reducible apply Hp.set' 1)); (with_reducible exact H); (repeat rfl); intro w' H') | ((repeat (with_reducible apply Hp.set' 2)); (with_reducible exact H); (repeat rfl); intro w' H') | ((repeat (with_reducible apply Hp.set' 3)); (with_reducible exact H); (repeat rfl); intro w' H') | ((repeat (with_reducible apply Hp.set' 4)); (with_reducible exact H); (repeat rfl); intro w' H') | ((repeat (with_reducible apply Hp.set' 5)); (with_reducible exact H); (repeat rfl); intro w' H') | ((repeat (with_reducible apply Hp.set' 6)); (with_reducible exact H); (repeat rfl); intro w' H') | ((repeat (with_reducible apply Hp.set' 7)); (with_reducible exact H); (repeat rfl); intro w' H')); ((try simp only [z0, z1, z2] at H'); clear C H; have H := H'; clear H'; have C := Hp.facts H; simp only [Facts, factsL, and_true, true_and, z0, z1, z2] at C)) | (go_at_call 49; refine (hK _).mono ?_; rintro e' w' ⟨rfl, hb'⟩; (have H' := Hp.step H hb'; clear hb'; ((try simp only [z0, z1, z2] at H'); clear C H; have H := H'; clear H'; have C := Hp.facts H; simp only [Facts, factsL, and_true, true_and, z0, z1, z2] at C))) | go_values | go_skip | go_guarded | go_step | go_upon | go_back | (simp only [Int.not_lt, Int.not_le] at *; go_simp) | (go_values <;> (try go_simp)) | (go_ite <;> go_prune <;> (try go_simp)) | (split <;> (first | (rename_i hx; exact (hx _ rfl).elim) | go_prune))))
      (obtain ⟨bt, rfl⟩ := Hp.name H 0 rfl)
      go_loopw [4, 6] (fun lv ix wr => ∃ i : Nat, i ≤ l.length ∧ ix = .int .i64 i ∧ Hp w [.row 3 1 lv i (zvs (sgS (l.take i))), .blk bt #[.int .i64 k, .slice A l.length c] 25] wr) (fun _ ix _ => l.length - (intOf ix).toNat)
      case atStart => exact ⟨0, Nat.zero_le _, rfl, Hp.nilRow H _ _⟩
      case round =>
        clear H C
        obtain ⟨i, hi1, rfl, H⟩ := hrel
        obtain ⟨A4, c4, rfl⟩ := Go.LawLift.own_form (ownsOf H 0 rfl)
        have C := Hp.facts H
        simp only [Facts, factsL, and_true, true_and, z0, z1, z2] at C
        by_cases hlt : i < l.length
        · obtain ⟨b, o, rfl, hgl, hcl⟩ := hcell i hlt
          have hb0 := hcl i hlt
          have hn := Kp.mk (sgS_snoc l i hlt)
          have u0 := l[i].toNat_lt
          clear hcl hcell hbad hgood hM hb
          generalize l[i].toNat = x at *
          (repeat' ((fail_if_success (with_reducible show bodyPost _ _ _ _ _ _)); first | ((with_reducible refine Hp.abs_alloc H ?_); intro b' w' H' hb'; (try simp only [hb']); clear hb'; ((try simp only [z0, z1, z2] at H'); clear C H; have H := H'; clear H'; have C := Hp.facts H; simp only [Facts, factsL, and_true, true_and, z0, z1, z2] at C)) | ((with_reducible show wpList _ _ _ _ _ (World.setCell _ _ _)); (with_reducible apply Hp.abs_gen H); (first | ((repeat (with_reducible apply Hp.set' 0)); (with_reducible exact H); (repeat rfl); intro w' H') | ((repeat (with_reducible apply Hp.set' 1)); (with_reducible exact H); (repeat rfl); intro w' H') | ((repeat (with_reducible apply Hp.set' 2)); (with_reducible exact H); (repeat rfl); intro w' H') | ((repeat (with_reducible apply Hp.set' 3)); (with_reducible exact H); (repeat rfl); intro w' H') | ((repeat (with_reducible apply Hp.set' 4)); (with_reducible exact H); (repeat rfl); intro w' H') | ((repeat (with_reducible apply Hp.set' 5)); (with_reducible exact H); (repeat rfl); intro w' H') | ((repeat (with_reducible apply Hp.set' 6)); (with_reducible exact H); (repeat rfl); intro w' H') | ((repeat (with_reducible apply Hp.set' 7)); (with_reducible exact H); (repeat rfl); intro w' H')); ((try simp only [z0, z1, z2] at H'); clear C H; have H := H'; clear H'; have C := Hp.facts H; simp only [Facts, factsL, and_true, true_and, z0, z1, z2] at C)) | (at_builtin; (refine wpList_append_hp H 1 rfl _ _ _ rfl Tryd.underlying22 hi hz0 hz1 hz2 rfl (by decide) rfl rfl rfl (news := [_]) rfl (fun h => by cases h) (fun _ => ⟨_, rfl, blk_news (H.get 0 rfl)⟩) (by simp [Value.oneCell']) (by unfold maxLen; omega) (by omega) ?_); intro v' w' H'; ((try simp only [z0, z1, z2] at H'); clear C H; have H := H'; clear H'; have C := Hp.facts H; simp only [Facts, factsL, and_true, true_and, z0, z1, z2] at C)) | go_values | go_skip | go_guarded | go_step | go_upon | go_back | (simp only [Int.not_lt, Int.not_le] at *; go_simp) | (go_values <;> (try go_simp)) | (go_ite <;> go_prune <;> (try go_simp)) | (split <;> (first | (rename_i hx; exact (hx _ rfl).elim) | go_prune))))
          refine ⟨⟨i + 1, by omega, by go_num, ?_⟩, by simp [intOf]; omega⟩
          rw [hn.out, ← zvs_snoc]
          exact H.tail
        · obtain rfl : i = l.length := by omega
          have hq : sgS (l.take l.length) = sgS l := by rw [List.take_length]
          rw [hq] at H
          have hz := Kp.mk (show (sgS l).length = l.length by simp [sgS])
          clear hq hcell
          generalize sgS l = ns at *
          (repeat' ((fail_if_success (with_reducible show bodyPost _ _ _ _ _ _)); first | ((with_reducible refine Hp.abs_alloc H ?_); intro b' w' H' hb'; (try simp only [hb']); clear hb'; ((try simp only [z0, z1, z2] at H'); clear C H; have H := H'; clear H'; have C := Hp.facts H; simp only [Facts, factsL, and_true, true_and, z0, z1, z2] at C)) | ((with_reducible show wpList _ _ _ _ _ (World.setCell _ _ _)); (with_reducible apply Hp.abs_gen H); (first | ((repeat (with_reducible apply Hp.set' 0)); (with_reducible exact H); (repeat rfl); intro w' H') | ((repeat (with_reducible apply Hp.set' 1)); (with_reducible exact H); (repeat rfl); intro w' H') | ((repeat (with_reducible apply Hp.set' 2)); (with_reducible exact H); (repeat rfl); intro w' H') | ((repeat (with_reducible apply Hp.set' 3)); (with_reducible exact H); (repeat rfl); intro w' H') | ((repeat (with_reducible apply Hp.set' 4)); (with_reducible exact H); (repeat rfl); intro w' H') | ((repeat (with_reducible apply Hp.set' 5)); (with_reducible exact H); (repeat rfl); intro w' H') | ((repeat (with_reducible apply Hp.set' 6)); (with_reducible exact H); (repeat rfl); intro w' H') | ((repeat (with_reducible apply Hp.set' 7)); (with_reducible exact H); (repeat rfl); intro w' H')); ((try simp only [z0, z1, z2] at H'); clear C H; have H := H'; clear H'; have C := Hp.facts H; simp only [Facts, factsL, and_true, true_and, z0, z1, z2] at C)) | go_values | go_skip | go_guarded | go_step | go_upon | go_back | (simp only [Int.not_lt, Int.not_le] at *; go_simp) | (go_values <;> (try go_simp)) | (go_ite <;> go_prune <;> (try go_simp)) | (split <;> (first | (rename_i hx; exact (hx _ rfl).elim) | go_prune))))
          go_loopw [7] (fun ix wy => ∃ j : Nat, j ≤ l.length ∧ ix = .int .i64 j ∧ Kp ((ns.take j).all (may k) = true) ∧ Hp w [.row 3 1 (.slice A4 l.length c4) l.length (zvs ns), .blk bt #[.int .i64 k, .slice A l.length c] 25] wy) (fun ix _ => l.length - (intOf ix).toNat)
          case atStart => exact ⟨0, Nat.zero_le _, rfl, Kp.mk rfl, H⟩
          case round =>
            clear H C
            obtain ⟨j, hj, rfl, ha, H⟩ := hrel
            have C := Hp.facts H
            simp only [Facts, factsL, and_true, true_and, z0, z1, z2] at C
            by_cases hjL : j < l.length
            · have hjl : j < ns.length := by have := hz.out; omega
              obtain ⟨b, o, rfl, hgl, hc⟩ := Zs.at (xs := ns) (Hp.row H 0 rfl) j hjl
              have hM1 := hM ns[j]
              have hget : ∀ wx, Zs wx (.slice (some ⟨b, o, none⟩) l.length c4) ns → wx.cell? ⟨b, o + j, none⟩ = some (.int .i64 ns[j]) := fun wx h => by
                obtain ⟨b', o', e, -, hcx⟩ := Zs.at (xs := ns) h j hjl
                injection e with e
                injection e with e1 e2
                subst e1 e2
                exact hcx
              clear hc
              cases hm : may k ns[j] with
              | false =>
                have hr := Kp.mk (hbad.out (all_at_no hjl hm))
                rw [hm] at hM1
                clear hm hbad hgood ha
                generalize ns[j] = x at *
                (repeat' ((fail_if_success (with_reducible show bodyPost _ _ _ _ _ _)); first | ((with_reducible refine Hp.abs_alloc H ?_); intro b' w' H' hb'; (try simp only [hb']); clear hb'; ((try simp only [z0, z1, z2] at H'); clear C H; have H := H'; clear H'; have C := Hp.facts H; simp only [Facts, factsL, and_true, true_and, z0, z1, z2] at C)) | ((with_reducible show wpList _ _ _ _ _ (World.setCell _ _ _)); (with_reducible apply Hp.abs_gen H); (first | ((repeat (with_reducible apply Hp.set' 0)); (with_reducible exact H); (repeat rfl); intro w' H') | ((repeat (with_reducible apply Hp.set' 1)); (with_reducible exact H); (repeat rfl); intro w' H') | ((repeat (with_reducible apply Hp.set' 2)); (with_reducible exact H); (repeat rfl); intro w' H') | ((repeat (with_reducible apply Hp.set' 3)); (with_reducible exact H); (repeat rfl); intro w' H') | ((repeat (with_reducible apply Hp.set' 4)); (with_reducible exact H); (repeat rfl); intro w' H') | ((repeat (with_reducible apply Hp.set' 5)); (with_reducible exact H); (repeat rfl); intro w' H') | ((repeat (with_reducible apply Hp.set' 6)); (with_reducible exact H); (repeat rfl); intro w' H') | ((repeat (with_reducible apply Hp.set' 7)); (with_reducible exact H); (repeat rfl); intro w' H')); ((try simp only [z0, z1, z2] at H'); clear C H; have H := H'; clear H'; have C := Hp.facts H; simp only [Facts, factsL, and_true, true_and, z0, z1, z2] at C)) | go_values | go_skip | go_guarded | go_step | go_upon | go_back | (simp only [Int.not_lt, Int.not_le] at *; go_simp) | (go_values <;> (try go_simp)) | (go_ite <;> go_prune <;> (try go_simp)) | (split <;> (first | (rename_i hx; exact (hx _ rfl).elim) | go_prune))))
                try simp (disch := omega) only [decide_eq_true, decide_eq_false]
                obtain ⟨wR20, rfl⟩ := Hp.nameW H
                apply region_n (frm wR20.heap.size (fun _ => Hp _ _)) (frm_ok ?hfs_4) frm_sz [] [.light 0 0, .light 0 0, .light 0 0, .light 0 0, .light 0 0, .light 0 0, .light 0 0, .light 0 0] [false, false, false, false, false, false, false, false] 8 84 [] [some 75, some 76, some 77, some 78, some 79, some 80, some 81, some 82] [[], [0], [], [], [2, 3], [4], [1, 5], [6]] [Eq1 _, Eq1 _, Eq1 _, Eq1 _, Eq1 _, Eq1 _, Eq1 _, Eq1 (.bool true)] ?hq1_4 ?hq2_4 ?hq3_4 ?hq4_4 ?hq5_4 ?hq6_4 _ ?hA_4 ?hst_4 ?h0_4 ?hsteps_4 ?hend_4
                case hq1_4 => kernel_rfl
                case hq2_4 => kernel_rfl
                case hq3_4 => kernel_rfl
                case hq5_4 => kernel_rfl
                case hq4_4 => rfl
                case hq6_4 => rfl
                case hA_4 => intro vs; simp only [fillD, Nat.reduceAdd, Act.put, List.setIfInBounds_toArray, List.set_cons_zero, List.set_cons_succ]; rfl
                case h0_4 => exact H.drew
                case hfs_4 => exact fun _ _ _ hb h => Hp.step h hb
                case hsteps_4 =>
                  refine ⟨?_, ?_, ?_, ?_, ?_, ?_, ?_, ?_, trivial⟩
                  · intro p vs w' K hJ hp1 hp2 hS hR hK
                    rw [if_pos (by rfl)]
                    go_step
                    exact hK.out _ _ (Below.refl _ _) Eq1.mk Fresh.no
                  · intro p vs w' K hJ hp1 hp2 hS hR hK
                    simp only [DepJ, List.getD_cons_zero, List.getD_cons_succ] at hJ
                    obtain ⟨j0, -⟩ := hJ
                    have j0 := Eq1.out j0
                    simp only [j0] at hK ⊢
                    rw [if_pos (by rfl)]
                    have C := Hp.facts hS
                    simp only [Facts, factsL, and_true, true_and, z0, z1, z2] at C
                    have hsz := hR.1
                    go_step
                    exact hK.out _ _ (Below.refl _ _) Eq1.mk Fresh.no
                  · intro p vs w' K hJ hp1 hp2 hS hR hK
                    rw [if_pos (by rfl)]
                    go_step
                    exact hK.out _ _ (Below.refl _ _) Eq1.mk Fresh.no
                  · intro p vs w' K hJ hp1 hp2 hS hR hK
                    rw [if_pos (by rfl)]
                    go_step
                    exact hK.out _ _ (Below.refl _ _) Eq1.mk Fresh.no
                  · intro p vs w' K hJ hp1 hp2 hS hR hK
                    simp only [DepJ, List.getD_cons_zero, List.getD_cons_succ] at hJ
                    obtain ⟨j2, j3, -⟩ := hJ
                    have j2 := Eq1.out j2
                    have j3 := Eq1.out j3
                    simp only [j2, j3] at hK ⊢
                    rw [if_pos (by rfl)]
                    go_step
                    exact hK.out _ _ (Below.refl _ _) Eq1.mk Fresh.no
                  · intro p vs w' K hJ hp1 hp2 hS hR hK
                    simp only [DepJ, List.getD_cons_zero, List.getD_cons_succ] at hJ
                    obtain ⟨j4, -⟩ := hJ
                    have j4 := Eq1.out j4
                    simp only [j4] at hK ⊢
                    rw [if_pos (by rfl)]
                    have C := Hp.facts hS
                    simp only [Facts, factsL, and_true, true_and, z0, z1, z2] at C
                    have hsz := hR.1
                    replace hS : Hp _ _ _ := hS
                    have hq := hget _ (Hp.row hS 0 rfl)
                    go_step
                    exact hK.out _ _ (Below.refl _ _) Eq1.mk Fresh.no
                  · intro p vs w' K hJ hp1 hp2 hS hR hK
                    simp only [DepJ, List.getD_cons_zero, List.getD_cons_succ] at hJ
                    obtain ⟨j1, j5, -⟩ := hJ
                    have j1 := Eq1.out j1
                    have j5 := Eq1.out j5
                    simp only [j1, j5] at hK ⊢
                    rw [if_pos (by rfl)]
                    have C := Hp.facts hS
                    simp only [Facts, factsL, and_true, true_and, z0, z1, z2] at C
                    have hsz := hR.1
                    go_step
                    refine (hM1 _).mono ?_
                    rintro e' w'' ⟨rfl, hb⟩
                    exact hK.out _ _ hb Eq1.mk Fresh.no
                  · intro p vs w' K hJ hp1 hp2 hS hR hK
                    simp only [DepJ, List.getD_cons_zero, List.getD_cons_succ] at hJ
                    obtain ⟨j6, -⟩ := hJ
                    have j6 := Eq1.out j6
                    simp only [j6] at hK ⊢
                    rw [if_pos (by rfl)]
                    go_step
                    exact hK.out _ _ (Below.refl _ _) (Eq1.of (by first | rfl | (simp; done) | (simp; omega))) Fresh.no
                case hst_4 => refine ⟨fun _ _ _ _ h => h, fun _ _ _ _ h => h, fun _ _ _ _ h => h, fun _ _ _ _ h => h, fun _ _ _ _ h => h, fun _ _ _ _ h => h, fun _ _ _ _ h => h, fun _ _ _ _ h => h, trivial⟩
                intro vs w' hJ hD hS hR
                simp only [AllJ, Nat.reduceAdd] at hJ
                obtain ⟨v0, v1, v2, v3, v4, v5, v6, v7, -⟩ := hJ
                clear C
                replace v0 := Eq1.out v0
                replace v1 := Eq1.out v1
                replace v2 := Eq1.out v2
                replace v3 := Eq1.out v3
                replace v4 := Eq1.out v4
                replace v5 := Eq1.out v5
                replace v6 := Eq1.out v6
                replace v7 := Eq1.out v7
                simp only [v0, v1, v2, v3, v4, v5, v6, v7, List.drop_succ_cons, List.drop_zero]
                refine wpList_nil' ?_
                have H' : Hp _ _ _ := hS
                clear hD hR hS v0 v1 v2 v3 v4 v5 v6 v7
                clear vs H
                have H := H'; clear H'; have C := Hp.facts H; simp only [Facts, factsL, and_true, true_and, z0, z1, z2] at C
                (repeat' ((fail_if_success (with_reducible show bodyPost _ _ _ _ _ _)); first | ((with_reducible refine Hp.abs_alloc H ?_); intro b' w' H' hb'; (try simp only [hb']); clear hb'; ((try simp only [z0, z1, z2] at H'); clear C H; have H := H'; clear H'; have C := Hp.facts H; simp only [Facts, factsL, and_true, true_and, z0, z1, z2] at C)) | ((with_reducible show wpList _ _ _ _ _ (World.setCell _ _ _)); (with_reducible apply Hp.abs_gen H); (first | ((repeat (with_reducible apply Hp.set' 0)); (with_reducible exact H); (repeat rfl); intro w' H') | ((repeat (with_reducible apply Hp.set' 1)); (with_reducible exact H); (repeat rfl); intro w' H') | ((repeat (with_reducible apply Hp.set' 2)); (with_reducible exact H); (repeat rfl); intro w' H') | ((repeat (with_reducible apply Hp.set' 3)); (with_reducible exact H); (repeat rfl); intro w' H') | ((repeat (with_reducible apply Hp.set' 4)); (with_reducible exact H); (repeat rfl); intro w' H') | ((repeat (with_reducible apply Hp.set' 5)); (with_reducible exact H); (repeat rfl); intro w' H') | ((repeat (with_reducible apply Hp.set' 6)); (with_reducible exact H); (repeat rfl); intro w' H') | ((repeat (with_reducible apply Hp.set' 7)); (with_reducible exact H); (repeat rfl); intro w' H')); ((try simp only [z0, z1, z2] at H'); clear C H; have H := H'; clear H'; have C := Hp.facts H; simp only [Facts, factsL, and_true, true_and, z0, z1, z2] at C)) | go_values | go_skip | go_guarded | go_step | go_upon | go_back | (simp only [Int.not_lt, Int.not_le] at *; go_simp) | (go_values <;> (try go_simp)) | (go_ite <;> go_prune <;> (try go_simp)) | (split <;> (first | (rename_i hx; exact (hx _ rfl).elim) | go_prune))))
                go_ret2
                rw [hr.out.1, hr.out.2]
                exact OutW.none rfl H.low
              | true =>
                have ha2 := Kp.mk (all_take_succ hjl ha.out hm)
                rw [hm] at hM1
                clear hm hbad hgood ha
                generalize ns[j] = x at *
                (repeat' ((fail_if_success (with_reducible show bodyPost _ _ _ _ _ _)); first | ((with_reducible refine Hp.abs_alloc H ?_); intro b' w' H' hb'; (try simp only [hb']); clear hb'; ((try simp only [z0, z1, z2] at H'); clear C H; have H := H'; clear H'; have C := Hp.facts H; simp only [Facts, factsL, and_true, true_and, z0, z1, z2] at C)) | ((with_reducible show wpList _ _ _ _ _ (World.setCell _ _ _)); (with_reducible apply Hp.abs_gen H); (first | ((repeat (with_reducible apply Hp.set' 0)); (with_reducible exact H); (repeat rfl); intro w' H') | ((repeat (with_reducible apply Hp.set' 1)); (with_reducible exact H); (repeat rfl); intro w' H') | ((repeat (with_reducible apply Hp.set' 2)); (with_reducible exact H); (repeat rfl); intro w' H') | ((repeat (with_reducible apply Hp.set' 3)); (with_reducible exact H); (repeat rfl); intro w' H') | ((repeat (with_reducible apply Hp.set' 4)); (with_reducible exact H); (repeat rfl); intro w' H') | ((repeat (with_reducible apply Hp.set' 5)); (with_reducible exact H); (repeat rfl); intro w' H') | ((repeat (with_reducible apply Hp.set' 6)); (with_reducible exact H); (repeat rfl); intro w' H') | ((repeat (with_reducible apply Hp.set' 7)); (with_reducible exact H); (repeat rfl); intro w' H')); ((try simp only [z0, z1, z2] at H'); clear C H; have H := H'; clear H'; have C := Hp.facts H; simp only [Facts, factsL, and_true, true_and, z0, z1, z2] at C)) | go_values | go_skip | go_guarded | go_step | go_upon | go_back | (simp only [Int.not_lt, Int.not_le] at *; go_simp) | (go_values <;> (try go_simp)) | (go_ite <;> go_prune <;> (try go_simp)) | (split <;> (first | (rename_i hx; exact (hx _ rfl).elim) | go_prune))))
                try simp (disch := omega) only [decide_eq_true, decide_eq_false]
                obtain ⟨wR20, rfl⟩ := Hp.nameW H
                apply region_n (frm wR20.heap.size (fun _ => Hp _ _)) (frm_ok ?hfs_5) frm_sz [] [.light 0 0, .light 0 0, .light 0 0, .light 0 0, .light 0 0, .light 0 0, .light 0 0, .light 0 0] [false, false, false, false, false, false, false, false] 8 84 [] [some 75, some 76, some 77, some 78, some 79, some 80, some 81, some 82] [[], [0], [], [], [2, 3], [4], [1, 5], [6]] [Eq1 _, Eq1 _, Eq1 _, Eq1 _, Eq1 _, Eq1 _, Eq1 _, Eq1 (.bool false)] ?hq1_5 ?hq2_5 ?hq3_5 ?hq4_5 ?hq5_5 ?hq6_5 _ ?hA_5 ?hst_5 ?h0_5 ?hsteps_5 ?hend_5
                case hq1_5 => kernel_rfl
                case hq2_5 => kernel_rfl
                case hq3_5 => kernel_rfl
                case hq5_5 => kernel_rfl
                case hq4_5 => rfl
                case hq6_5 => rfl
                case hA_5 => intro vs; simp only [fillD, Nat.reduceAdd, Act.put, List.setIfInBounds_toArray, List.set_cons_zero, List.set_cons_succ]; rfl
                case h0_5 => exact H.drew
                case hfs_5 => exact fun _ _ _ hb h => Hp.step h hb
                case hsteps_5 =>
                  refine ⟨?_, ?_, ?_, ?_, ?_, ?_, ?_, ?_, trivial⟩
                  · intro p vs w' K hJ hp1 hp2 hS hR hK
                    rw [if_pos (by rfl)]
                    go_step
                    exact hK.out _ _ (Below.refl _ _) Eq1.mk Fresh.no
                  · intro p vs w' K hJ hp1 hp2 hS hR hK
                    simp only [DepJ, List.getD_cons_zero, List.getD_cons_succ] at hJ
                    obtain ⟨j0, -⟩ := hJ
                    have j0 := Eq1.out j0
                    simp only [j0] at hK ⊢
                    rw [if_pos (by rfl)]
                    have C := Hp.facts hS
                    simp only [Facts, factsL, and_true, true_and, z0, z1, z2] at C
                    have hsz := hR.1
                    go_step
                    exact hK.out _ _ (Below.refl _ _) Eq1.mk Fresh.no
                  · intro p vs w' K hJ hp1 hp2 hS hR hK
                    rw [if_pos (by rfl)]
                    go_step
                    exact hK.out _ _ (Below.refl _ _) Eq1.mk Fresh.no
                  · intro p vs w' K hJ hp1 hp2 hS hR hK
                    rw [if_pos (by rfl)]
                    go_step
                    exact hK.out _ _ (Below.refl _ _) Eq1.mk Fresh.no
                  · intro p vs w' K hJ hp1 hp2 hS hR hK
                    simp only [DepJ, List.getD_cons_zero, List.getD_cons_succ] at hJ
                    obtain ⟨j2, j3, -⟩ := hJ
                    have j2 := Eq1.out j2
                    have j3 := Eq1.out j3
                    simp only [j2, j3] at hK ⊢
                    rw [if_pos (by rfl)]
                    go_step
                    exact hK.out _ _ (Below.refl _ _) Eq1.mk Fresh.no
                  · intro p vs w' K hJ hp1 hp2 hS hR hK
                    simp only [DepJ, List.getD_cons_zero, List.getD_cons_succ] at hJ
                    obtain ⟨j4, -⟩ := hJ
                    have j4 := Eq1.out j4
                    simp only [j4] at hK ⊢
                    rw [if_pos (by rfl)]
                    have C := Hp.facts hS
                    simp only [Facts, factsL, and_true, true_and, z0, z1, z2] at C
                    have hsz := hR.1
                    replace hS : Hp _ _ _ := hS
                    have hq := hget _ (Hp.row hS 0 rfl)
                    go_step
                    exact hK.out _ _ (Below.refl _ _) Eq1.mk Fresh.no
                  · intro p vs w' K hJ hp1 hp2 hS hR hK
                    simp only [DepJ, List.getD_cons_zero, List.getD_cons_succ] at hJ
                    obtain ⟨j1, j5, -⟩ := hJ
                    have j1 := Eq1.out j1
                    have j5 := Eq1.out j5
                    simp only [j1, j5] at hK ⊢
                    rw [if_pos (by rfl)]
                    have C := Hp.facts hS
                    simp only [Facts, factsL, and_true, true_and, z0, z1, z2] at C
                    have hsz := hR.1
                    go_step
                    refine (hM1 _).mono ?_
                    rintro e' w'' ⟨rfl, hb⟩
                    exact hK.out _ _ hb Eq1.mk Fresh.no
                  · intro p vs w' K hJ hp1 hp2 hS hR hK
                    simp only [DepJ, List.getD_cons_zero, List.getD_cons_succ] at hJ
                    obtain ⟨j6, -⟩ := hJ
                    have j6 := Eq1.out j6
                    simp only [j6] at hK ⊢
                    rw [if_pos (by rfl)]
                    go_step
                    exact hK.out _ _ (Below.refl _ _) (Eq1.of (by first | rfl | (simp; done) | (simp; omega))) Fresh.no
                case hst_5 => refine ⟨fun _ _ _ _ h => h, fun _ _ _ _ h => h, fun _ _ _ _ h => h, fun _ _ _ _ h => h, fun _ _ _ _ h => h, fun _ _ _ _ h => h, fun _ _ _ _ h => h, fun _ _ _ _ h => h, trivial⟩
                intro vs w' hJ hD hS hR
                simp only [AllJ, Nat.reduceAdd] at hJ
                obtain ⟨v0, v1, v2, v3, v4, v5, v6, v7, -⟩ := hJ
                clear C
                replace v0 := Eq1.out v0
                replace v1 := Eq1.out v1
                replace v2 := Eq1.out v2
                replace v3 := Eq1.out v3
                replace v4 := Eq1.out v4
                replace v5 := Eq1.out v5
                replace v6 := Eq1.out v6
                replace v7 := Eq1.out v7
                simp only [v0, v1, v2, v3, v4, v5, v6, v7, List.drop_succ_cons, List.drop_zero]
                refine wpList_nil' ?_
                have H' : Hp _ _ _ := hS
                clear hD hR hS v0 v1 v2 v3 v4 v5 v6 v7
                clear vs H
                have H := H'; clear H'; have C := Hp.facts H; simp only [Facts, factsL, and_true, true_and, z0, z1, z2] at C
                (repeat' ((fail_if_success (with_reducible show bodyPost _ _ _ _ _ _)); first | ((with_reducible refine Hp.abs_alloc H ?_); intro b' w' H' hb'; (try simp only [hb']); clear hb'; ((try simp only [z0, z1, z2] at H'); clear C H; have H := H'; clear H'; have C := Hp.facts H; simp only [Facts, factsL, and_true, true_and, z0, z1, z2] at C)) | ((with_reducible show wpList _ _ _ _ _ (World.setCell _ _ _)); (with_reducible apply Hp.abs_gen H); (first | ((repeat (with_reducible apply Hp.set' 0)); (with_reducible exact H); (repeat rfl); intro w' H') | ((repeat (with_reducible apply Hp.set' 1)); (with_reducible exact H); (repeat rfl); intro w' H') | ((repeat (with_reducible apply Hp.set' 2)); (with_reducible exact H); (repeat rfl); intro w' H') | ((repeat (with_reducible apply Hp.set' 3)); (with_reducible exact H); (repeat rfl); intro w' H') | ((repeat (with_reducible apply Hp.set' 4)); (with_reducible exact H); (repeat rfl); intro w' H') | ((repeat (with_reducible apply Hp.set' 5)); (with_reducible exact H); (repeat rfl); intro w' H') | ((repeat (with_reducible apply Hp.set' 6)); (with_reducible exact H); (repeat rfl); intro w' H') | ((repeat (with_reducible apply Hp.set' 7)); (with_reducible exact H); (repeat rfl); intro w' H')); ((try simp only [z0, z1, z2] at H'); clear C H; have H := H'; clear H'; have C := Hp.facts H; simp only [Facts, factsL, and_true, true_and, z0, z1, z2] at C)) | go_values | go_skip | go_guarded | go_step | go_upon | go_back | (simp only [Int.not_lt, Int.not_le] at *; go_simp) | (go_values <;> (try go_simp)) | (go_ite <;> go_prune <;> (try go_simp)) | (split <;> (first | (rename_i hx; exact (hx _ rfl).elim) | go_prune))))
                exact ⟨⟨j + 1, by omega, by go_num, ha2, H⟩, by simp [intOf]; omega⟩
            · have ha' : ns.all (may k) = true := by
                have := ha.out
                rwa [List.take_of_length_le (by have := hz.out; omega)] at this
              have hr := Kp.mk (hgood.out ha')
              clear hbad hgood ha ha' hM
              (repeat' ((fail_if_success (with_reducible show bodyPost _ _ _ _ _ _)); first | ((with_reducible refine Hp.abs_alloc H ?_); intro b' w' H' hb'; (try simp only [hb']); clear hb'; ((try simp only [z0, z1, z2] at H'); clear C H; have H := H'; clear H'; have C := Hp.facts H; simp only [Facts, factsL, and_true, true_and, z0, z1, z2] at C)) | ((with_reducible show wpList _ _ _ _ _ (World.setCell _ _ _)); (with_reducible apply Hp.abs_gen H); (first | ((repeat (with_reducible apply Hp.set' 0)); (with_reducible exact H); (repeat rfl); intro w' H') | ((repeat (with_reducible apply Hp.set' 1)); (with_reducible exact H); (repeat rfl); intro w' H') | ((repeat (with_reducible apply Hp.set' 2)); (with_reducible exact H); (repeat rfl); intro w' H') | ((repeat (with_reducible apply Hp.set' 3)); (with_reducible exact H); (repeat rfl); intro w' H') | ((repeat (with_reducible apply Hp.set' 4)); (with_reducible exact H); (repeat rfl); intro w' H') | ((repeat (with_reducible apply Hp.set' 5)); (with_reducible exact H); (repeat rfl); intro w' H') | ((repeat (with_reducible apply Hp.set' 6)); (with_reducible exact H); (repeat rfl); intro w' H') | ((repeat (with_reducible apply Hp.set' 7)); (with_reducible exact H); (repeat rfl); intro w' H')); ((try simp only [z0, z1, z2] at H'); clear C H; have H := H'; clear H'; have C := Hp.facts H; simp only [Facts, factsL, and_true, true_and, z0, z1, z2] at C)) | go_values | go_skip | go_guarded | go_step | go_upon | go_back | (simp only [Int.not_lt, Int.not_le] at *; go_simp) | (go_values <;> (try go_simp)) | (go_ite <;> go_prune <;> (try go_simp)) | (split <;> (first | (rename_i hx; exact (hx _ rfl).elim) | go_prune))))
              go_ret2
              rw [hr.out.1, hr.out.2]
              exact ⟨⟨_, rfl, by first | exact ownsOf H 0 rfl | (rw [hz.out]; exact ownsOf H 0 rfl)⟩, H.low⟩

end Go.Proofs.YtmmjghdobdendaaDoor

