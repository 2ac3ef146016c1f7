/- Lemmas and walks on the way to the seat's laws; each theorem says its own conditions. -/
import Derived.Test.YtmmjghdobdendaaC11
set_option linter.unusedSimpArgs false
set_option linter.unusedVariables false
set_option linter.unusedSimpArgs false
set_option linter.unusedVariables false
set_option maxRecDepth 100000
namespace Go.Proofs.Ytmmjghdobdendaa
open Go.RowKit Go.Mem Go.Reg Bit Go.LawLift
theorem len_full {a b : Int} (h : a ≤ b) : lenS a b = satI (satI (b - a) + 1) := by unfold lenS; rw [if_neg (by omega)]
theorem move_full {a b n : Int} (h : a ≤ b) : moveS a b n = (satI (a + n), satI (b + n)) := by unfold moveS; rw [if_neg (by omega)]
theorem grow_full {a b n m : Int} (h : a ≤ b) : growS a b n m = noneS (satI (a - n), satI (b + m)) := by unfold growS; rw [if_neg (by omega)]
set_option maxHeartbeats 3200000 in
theorem parts_none (a b c d n m : Int) (ha : In64 a) (hb : In64 b) (hn : In64 n) (hm : In64 m) (h : b < a) (w : World) :
    Calls Try.prog 8 #[.agg #[.int .i64 a, .int .i64 b], .agg #[.int .i64 c, .int .i64 d], .int .i64 n, .int .i64 m] w fun e w' => e = .returned (.bool true) ∧ Below w.heap.size w w' := by
  have hI := in_any a b n
  have hRI := rin_any a b n
  have hL := length_any a b ha hb
  rw [show lenS a b = 0 by unfold lenS; rw [if_pos h]] at hL
  have hM := move_any a b n ha hb hn
  rw [show moveS a b n = (1, 0) by unfold moveS; rw [if_pos h]] at hM
  have hG := grow_any a b n m ha hb hn hm
  rw [show growS a b n m = (1, 0) by unfold growS; rw [if_pos h]] at hG
  have hW := within_any a b c d
  rw [decide_eq_true h, Bool.true_or] at hW
  have hE := empty_any a b
  have hRE := rempty_any a b
  rw [decide_eq_true h] at hE hRE
  generalize (decide (a ≤ n) && decide (n ≤ b)) = I at *
  clear ha hb hn hm h
  have H := Hp.start w
  have C : True := trivial
  go_enter Try.func8, Try.ntmps8
  (repeat' ((fail_if_success (with_reducible show bodyPost _ _ _ _ _ _)); first | ((with_reducible refine Hp.abs_alloc H ?_); intro b' w' H' hb'; (try simp only [hb']); clear hb'; ((try simp only [List.set_cons_zero, List.set_cons_succ, List.setIfInBounds_toArray] at H'); clear C H; have H := H'; clear H'; have C := Hp.facts H; simp only [Facts, factsL, and_true, true_and, List.set_cons_zero, List.set_cons_succ, List.setIfInBounds_toArray] at C)) | ((with_reducible show wpList _ _ _ _ _ (World.setCell _ _ _)); (with_reducible apply Hp.abs_gen H); (first | ((repeat (with_reducible apply Hp.set' 0)); (with_reducible exact H); (repeat rfl); intro w' H') | ((repeat (with_reducible apply Hp.set' 1)); (with_reducible exact H); (repeat rfl); intro w' H') | ((repeat (with_reducible apply Hp.set' 2)); (with_reducible exact H); (repeat rfl); intro w' H') | ((repeat (with_reducible apply Hp.set' 3)); (with_reducible exact H); (repeat rfl); intro w' H') | ((repeat (with_reducible apply Hp.set' 4)); (with_reducible exact H); (repeat rfl); intro w' H') | ((repeat (with_reducible apply Hp.set' 5)); (with_reducible exact H); (repeat rfl); intro w' H') | ((repeat (with_reducible apply Hp.set' 6)); (with_reducible exact H); (repeat rfl); intro w' H') | ((repeat (with_reducible apply Hp.set' 7)); (with_reducible exact H); (repeat rfl); intro w' H')); ((try simp only [List.set_cons_zero, List.set_cons_succ, List.setIfInBounds_toArray] at H'); clear C H; have H := H'; clear H'; have C := Hp.facts H; simp only [Facts, factsL, and_true, true_and, List.set_cons_zero, List.set_cons_succ, List.setIfInBounds_toArray] at C)) | go_values | go_skip | go_guarded | go_step | go_upon | go_back | (simp only [Int.not_lt, Int.not_le] at *; go_simp) | (go_values <;> (try go_simp)) | (go_ite <;> go_prune <;> (try go_simp)) | (split <;> (first | (rename_i hx; exact (hx _ rfl).elim) | go_prune))))
  try simp (disch := omega) only [decide_eq_true, decide_eq_false]
  obtain ⟨wR1, rfl⟩ := Hp.nameW H
  apply region_n (frm wR1.heap.size (fun _ => Hp _ _)) (frm_ok ?hfs_1) frm_sz [] [.light 0 0, .light 0 0, .light 0 0, .light 0 0, .light 0 0, .light 0 0] [false, false, false, false, true, true] 6 110 [6, 6, 3, 6, 6, 6] [some 15, some 16, some 17, some 18, some 9, some 10] [[], [0], [], [2], [], []] [Eq1 _, Eq1 _, Eq1 _, Eq1 _, NewPt wR1.heap.size _ _, NewPt wR1.heap.size _ _] ?hq1_1 ?hq2_1 ?hq3_1 ?hq4_1 ?hq5_1 ?hq6_1 _ ?hA_1 ?hst_1 ?h0_1 ?hsteps_1 ?hend_1
  case hq1_1 => kernel_rfl
  case hq2_1 => kernel_rfl
  case hq3_1 => kernel_rfl
  case hq5_1 => kernel_rfl
  case hq4_1 => rfl
  case hq6_1 => rfl
  case hA_1 => intro vs; simp only [fillD, Nat.reduceAdd, Act.put, List.setIfInBounds_toArray, List.set_cons_zero, List.set_cons_succ]; rfl
  case h0_1 => exact H.drew
  case hfs_1 => exact fun _ _ _ hb h => Hp.step h hb
  case hsteps_1 =>
    refine ⟨?_, ?_, ?_, ?_, ?_, ?_, trivial⟩
    · intro p vs w' K hJ hp1 hp2 hS hR hK
      rw [if_pos (by rfl)]
      have C := Hp.facts hS
      simp only [Facts, factsL, and_true, true_and, List.set_cons_zero, List.set_cons_succ, List.setIfInBounds_toArray] at C
      have hsz := hR.1
      go_step
      exact hK.out _ _ (Below.refl _ _) Eq1.mk Fresh.no
    · intro p vs w' K hJ hp1 hp2 hS hR hK
      simp only [DepJ, List.getD_cons_zero, List.getD_cons_succ] at hJ
      obtain ⟨j0, -⟩ := hJ
      have j0 := Eq1.out j0
      simp only [j0] at hK ⊢
      rw [if_pos (by rfl)]
      have C := Hp.facts hS
      simp only [Facts, factsL, and_true, true_and, List.set_cons_zero, List.set_cons_succ, List.setIfInBounds_toArray] at C
      have hsz := hR.1
      go_step
      refine (to_any _ _ _).mono ?_
      rintro e' w'' ⟨rfl, hb⟩
      exact hK.out _ _ hb Eq1.mk Fresh.no
    · intro p vs w' K hJ hp1 hp2 hS hR hK
      rw [if_pos (by rfl)]
      have C := Hp.facts hS
      simp only [Facts, factsL, and_true, true_and, List.set_cons_zero, List.set_cons_succ, List.setIfInBounds_toArray] at C
      have hsz := hR.1
      go_step
      exact hK.out _ _ (Below.refl _ _) Eq1.mk Fresh.no
    · intro p vs w' K hJ hp1 hp2 hS hR hK
      simp only [DepJ, List.getD_cons_zero, List.getD_cons_succ] at hJ
      obtain ⟨j2, -⟩ := hJ
      have j2 := Eq1.out j2
      simp only [j2] at hK ⊢
      rw [if_pos (by rfl)]
      have C := Hp.facts hS
      simp only [Facts, factsL, and_true, true_and, List.set_cons_zero, List.set_cons_succ, List.setIfInBounds_toArray] at C
      have hsz := hR.1
      go_step
      refine (to_any _ _ _).mono ?_
      rintro e' w'' ⟨rfl, hb⟩
      exact hK.out _ _ hb Eq1.mk Fresh.no
    · intro p vs w' K hJ hp1 hp2 hS hR hK
      rw [if_pos (by rfl)]
      go_step
      exact hK.out _ _ ((Below.refl _ _).alloc (Nat.le_refl _) _) (NewPt.mk _ _ _ _ hR.1) Fresh.pt
    · intro p vs w' K hJ hp1 hp2 hS hR hK
      rw [if_pos (by rfl)]
      go_step
      exact hK.out _ _ ((Below.refl _ _).alloc (Nat.le_refl _) _) (NewPt.mk _ _ _ _ hR.1) Fresh.pt
  case hst_1 => refine ⟨fun _ _ _ _ h => h, fun _ _ _ _ h => h, fun _ _ _ _ h => h, fun _ _ _ _ h => h, fun _ _ _ hs h => NewPt.stayR hs h, fun _ _ _ hs h => NewPt.stayR hs h, trivial⟩
  intro vs w' hJ hD hS hR
  simp only [AllJ, Nat.reduceAdd] at hJ
  obtain ⟨v0, v1, v2, v3, v4, v5, -⟩ := hJ
  clear C
  replace v0 := Eq1.out v0
  replace v1 := Eq1.out v1
  replace v2 := Eq1.out v2
  replace v3 := Eq1.out v3
  obtain ⟨k4, e4, hB4, hh4⟩ := v4
  obtain ⟨k5, e5, hB5, hh5⟩ := v5
  simp only [v0, v1, v2, v3, e4, e5, List.drop_succ_cons, List.drop_zero]
  replace hS : Hp _ _ _ := hS
  have H' := Hp.adopts hS H.low.size (fun k hk => Hp.lows H k hk) [.blk k5 _ _, .blk k4 _ _] (by intro x hx; simp only [List.mem_cons, List.not_mem_nil, or_false] at hx; rcases hx with rfl | rfl; exact ⟨hh5, hB5⟩; exact ⟨hh4, hB4⟩) (nodup2 (fun k h1 h2 => hD 5 4 rfl rfl (by decide) k (by rw [e5]; simp only [Ent.fp, Option.some.injEq] at h1; subst h1; simp [vb, vb0]) (by rw [e4]; simp only [Ent.fp, Option.some.injEq] at h2; subst h2; simp [vb, vb0])))
  simp only [List.cons_append, List.nil_append] at H'
  clear hD hR hS v0 v1 v2 v3
  clear e5 hB5 hh5 e4 hB4 hh4
  clear vs H
  have H := H'; clear H'; have C := Hp.facts H; simp only [Facts, factsL, and_true, true_and, List.set_cons_zero, List.set_cons_succ, List.setIfInBounds_toArray] at C
  (repeat' ((fail_if_success (with_reducible show bodyPost _ _ _ _ _ _)); first | ((with_reducible refine Hp.abs_alloc H ?_); intro b' w' H' hb'; (try simp only [hb']); clear hb'; ((try simp only [List.set_cons_zero, List.set_cons_succ, List.setIfInBounds_toArray] at H'); clear C H; have H := H'; clear H'; have C := Hp.facts H; simp only [Facts, factsL, and_true, true_and, List.set_cons_zero, List.set_cons_succ, List.setIfInBounds_toArray] at C)) | ((with_reducible show wpList _ _ _ _ _ (World.setCell _ _ _)); (with_reducible apply Hp.abs_gen H); (first | ((repeat (with_reducible apply Hp.set' 0)); (with_reducible exact H); (repeat rfl); intro w' H') | ((repeat (with_reducible apply Hp.set' 1)); (with_reducible exact H); (repeat rfl); intro w' H') | ((repeat (with_reducible apply Hp.set' 2)); (with_reducible exact H); (repeat rfl); intro w' H') | ((repeat (with_reducible apply Hp.set' 3)); (with_reducible exact H); (repeat rfl); intro w' H') | ((repeat (with_reducible apply Hp.set' 4)); (with_reducible exact H); (repeat rfl); intro w' H') | ((repeat (with_reducible apply Hp.set' 5)); (with_reducible exact H); (repeat rfl); intro w' H') | ((repeat (with_reducible apply Hp.set' 6)); (with_reducible exact H); (repeat rfl); intro w' H') | ((repeat (with_reducible apply Hp.set' 7)); (with_reducible exact H); (repeat rfl); intro w' H')); ((try simp only [List.set_cons_zero, List.set_cons_succ, List.setIfInBounds_toArray] at H'); clear C H; have H := H'; clear H'; have C := Hp.facts H; simp only [Facts, factsL, and_true, true_and, List.set_cons_zero, List.set_cons_succ, List.setIfInBounds_toArray] at C)) | (go_at_call 35; refine (hRE _).mono ?_; rintro e' w' ⟨rfl, hb'⟩; (have H' := Hp.step H hb'; clear hb'; ((try simp only [List.set_cons_zero, List.set_cons_succ, List.setIfInBounds_toArray] at H'); clear C H; have H := H'; clear H'; have C := Hp.facts H; simp only [Facts, factsL, and_true, true_and, List.set_cons_zero, List.set_cons_succ, List.setIfInBounds_toArray] at C))) | go_values | go_skip | go_guarded | go_step | go_upon | go_back | (simp only [Int.not_lt, Int.not_le] at *; go_simp) | (go_values <;> (try go_simp)) | (go_ite <;> go_prune <;> (try go_simp)) | (split <;> (first | (rename_i hx; exact (hx _ rfl).elim) | go_prune))))
  try simp (disch := omega) only [decide_eq_true, decide_eq_false]
  obtain ⟨wR8, rfl⟩ := Hp.nameW H
  apply region_n (frm wR8.heap.size (fun _ => Hp _ _)) (frm_ok ?hfs_2) frm_sz [] [.light 0 0, .light 0 0, .light 0 0, .light 0 0, .light 0 0, .light 0 0, .light 0 0, .light 0 0, .light 0 0, .light 0 0, .light 0 0, .light 0 0, .light 0 0, .light 0 0, .light 0 0, .light 0 0, .light 0 0, .light 0 0, .light 0 0, .light 0 0, .light 0 0, .light 0 0, .light 0 0, .light 0 0, .light 0 0, .light 0 0, .light 0 0, .light 0 0, .light 0 0, .light 0 0, .light 0 0, .light 0 0, .light 0 0, .light 0 0, .light 0 0, .light 0 0, .light 0 0, .light 0 0, .light 0 0, .light 0 0, .light 0 0, .light 0 0, .light 0 0, .light 0 0, .light 0 0, .light 0 0, .light 0 0, .light 0 0] [false, false, false, false, false, false, false, false, false, false, false, false, false, false, false, false, false, false, false, false, false, false, false, false, false, false, false, false, false, false, false, false, false, false, false, false, false, false, false, false, false, false, false, false, false, false, false, false] 48 110 [] [some 63, some 64, some 65, some 66, some 67, some 68, some 69, some 70, some 71, some 72, some 73, some 74, some 75, some 76, some 77, some 78, some 79, some 80, some 81, some 82, some 83, some 84, some 85, some 86, some 87, some 88, some 89, some 90, some 91, some 92, some 93, some 94, some 95, some 96, some 97, some 98, some 99, some 100, some 101, some 102, some 103, some 104, some 105, some 106, some 107, some 108, some 109, some 8] [[], [0], [1], [1, 2], [1], [1, 4], [1, 3, 5], [1, 6], [7], [8], [8], [8, 9, 10], [8], [8], [8, 12, 13], [8, 11, 14], [8, 15], [16], [17], [17, 18], [17], [17, 19, 20], [17, 21], [22], [23], [23], [23, 24, 25], [23, 26], [23], [23, 27, 28], [23, 29], [30], [31], [31], [31], [31, 32, 33, 34], [31, 35], [31], [31, 36, 37], [31, 38], [39], [40], [40], [40, 41, 42], [40], [40, 43, 44], [40, 45], [46]] [Eq1 (.bool true), Eq1 _, Eq1 _, Eq1 _, Eq1 _, Eq1 _, Eq1 (.bool true), Eq1 _, Eq1 _, Eq1 _, Eq1 _, Eq1 _, Eq1 _, Eq1 _, Eq1 _, Eq1 (.bool true), Eq1 _, Eq1 _, Eq1 _, Eq1 _, Eq1 _, Eq1 (.bool true), Eq1 _, Eq1 _, Eq1 _, Eq1 _, Eq1 _, Eq1 _, Eq1 _, Eq1 (.bool true), Eq1 _, Eq1 _, Eq1 _, Eq1 _, Eq1 _, Eq1 _, Eq1 _, Eq1 _, Eq1 (.bool true), Eq1 _, Eq1 _, Eq1 _, Eq1 _, Eq1 _, Eq1 _, Eq1 (.bool true), Eq1 _, Eq1 _] ?hq1_2 ?hq2_2 ?hq3_2 ?hq4_2 ?hq5_2 ?hq6_2 _ ?hA_2 ?hst_2 ?h0_2 ?hsteps_2 ?hend_2
  case hq1_2 => kernel_rfl
  case hq2_2 => kernel_rfl
  case hq3_2 => kernel_rfl
  case hq5_2 => kernel_rfl
  case hq4_2 => rfl
  case hq6_2 => rfl
  case hA_2 => intro vs; simp only [fillD, Nat.reduceAdd, Act.put, List.setIfInBounds_toArray, List.set_cons_zero, List.set_cons_succ]; rfl
  case h0_2 => exact H.drew
  case hfs_2 => exact fun _ _ _ hb h => Hp.step h hb
  case hsteps_2 =>
    refine ⟨?_, ?_, ?_, ?_, ?_, ?_, ?_, ?_, ?_, ?_, ?_, ?_, ?_, ?_, ?_, ?_, ?_, ?_, ?_, ?_, ?_, ?_, ?_, ?_, ?_, ?_, ?_, ?_, ?_, ?_, ?_, ?_, ?_, ?_, ?_, ?_, ?_, ?_, ?_, ?_, ?_, ?_, ?_, ?_, ?_, ?_, ?_, ?_, trivial⟩
    · intro p vs w' K hJ hp1 hp2 hS hR hK
      rw [if_pos (by rfl)]
      have C := Hp.facts hS
      simp only [Facts, factsL, and_true, true_and, List.set_cons_zero, List.set_cons_succ, List.setIfInBounds_toArray] at C
      have hsz := hR.1
      go_step
      refine (known11_any _).mono ?_
      rintro e' w'' ⟨rfl, hb⟩
      exact hK.out _ _ hb (Eq1.of (rfl)) Fresh.no
    · intro p vs w' K hJ hp1 hp2 hS hR hK
      simp only [DepJ, List.getD_cons_zero, List.getD_cons_succ] at hJ
      obtain ⟨j0, -⟩ := hJ
      have j0 := Eq1.out j0
      simp only [j0] at hK ⊢
      rw [if_pos (by rfl)]
      go_step
      exact hK.out _ _ (Below.refl _ _) Eq1.mk Fresh.no
    · intro p vs w' K hJ hp1 hp2 hS hR hK
      simp only [DepJ, List.getD_cons_zero, List.getD_cons_succ] at hJ
      obtain ⟨j1, -⟩ := hJ
      have j1 := Eq1.out j1
      simp only [j1] at hK ⊢
      rw [if_pos (by rfl)]
      have C := Hp.facts hS
      simp only [Facts, factsL, and_true, true_and, List.set_cons_zero, List.set_cons_succ, List.setIfInBounds_toArray] at C
      have hsz := hR.1
      go_step
      exact hK.out _ _ (Below.refl _ _) Eq1.mk Fresh.no
    · intro p vs w' K hJ hp1 hp2 hS hR hK
      simp only [DepJ, List.getD_cons_zero, List.getD_cons_succ] at hJ
      obtain ⟨j1, j2, -⟩ := hJ
      have j1 := Eq1.out j1
      have j2 := Eq1.out j2
      simp only [j1, j2] at hK ⊢
      rw [if_pos (by rfl)]
      have C := Hp.facts hS
      simp only [Facts, factsL, and_true, true_and, List.set_cons_zero, List.set_cons_succ, List.setIfInBounds_toArray] at C
      have hsz := hR.1
      go_step
      refine (hE _).mono ?_
      rintro e' w'' ⟨rfl, hb⟩
      exact hK.out _ _ hb Eq1.mk Fresh.no
    · intro p vs w' K hJ hp1 hp2 hS hR hK
      simp only [DepJ, List.getD_cons_zero, List.getD_cons_succ] at hJ
      obtain ⟨j1, -⟩ := hJ
      have j1 := Eq1.out j1
      simp only [j1] at hK ⊢
      rw [if_pos (by rfl)]
      have C := Hp.facts hS
      simp only [Facts, factsL, and_true, true_and, List.set_cons_zero, List.set_cons_succ, List.setIfInBounds_toArray] at C
      have hsz := hR.1
      go_step
      exact hK.out _ _ (Below.refl _ _) Eq1.mk Fresh.no
    · intro p vs w' K hJ hp1 hp2 hS hR hK
      simp only [DepJ, List.getD_cons_zero, List.getD_cons_succ] at hJ
      obtain ⟨j1, j4, -⟩ := hJ
      have j1 := Eq1.out j1
      have j4 := Eq1.out j4
      simp only [j1, j4] at hK ⊢
      rw [if_pos (by rfl)]
      have C := Hp.facts hS
      simp only [Facts, factsL, and_true, true_and, List.set_cons_zero, List.set_cons_succ, List.setIfInBounds_toArray] at C
      have hsz := hR.1
      go_step
      refine (hRE _).mono ?_
      rintro e' w'' ⟨rfl, hb⟩
      exact hK.out _ _ hb Eq1.mk Fresh.no
    · intro p vs w' K hJ hp1 hp2 hS hR hK
      simp only [DepJ, List.getD_cons_zero, List.getD_cons_succ] at hJ
      obtain ⟨j1, j3, j5, -⟩ := hJ
      have j1 := Eq1.out j1
      have j3 := Eq1.out j3
      have j5 := Eq1.out j5
      simp only [j1, j3, j5] at hK ⊢
      rw [if_pos (by rfl)]
      go_step
      exact hK.out _ _ (Below.refl _ _) (Eq1.of (by first | rfl | (simp; done) | (simp; omega))) Fresh.no
    · intro p vs w' K hJ hp1 hp2 hS hR hK
      simp only [DepJ, List.getD_cons_zero, List.getD_cons_succ] at hJ
      obtain ⟨j1, j6, -⟩ := hJ
      have j1 := Eq1.out j1
      have j6 := Eq1.out j6
      simp only [j1, j6] at hK ⊢
      rw [if_pos (by rfl)]
      go_step
      exact hK.out _ _ (Below.refl _ _) Eq1.mk Fresh.no
    · intro p vs w' K hJ hp1 hp2 hS hR hK
      simp only [DepJ, List.getD_cons_zero, List.getD_cons_succ] at hJ
      obtain ⟨j7, -⟩ := hJ
      have j7 := Eq1.out j7
      simp only [j7] at hK ⊢
      rw [if_pos (by rfl)]
      go_step
      exact hK.out _ _ (Below.refl _ _) Eq1.mk Fresh.no
    · intro p vs w' K hJ hp1 hp2 hS hR hK
      simp only [DepJ, List.getD_cons_zero, List.getD_cons_succ] at hJ
      obtain ⟨j8, -⟩ := hJ
      have j8 := Eq1.out j8
      simp only [j8] at hK ⊢
      rw [if_pos (by rfl)]
      have C := Hp.facts hS
      simp only [Facts, factsL, and_true, true_and, List.set_cons_zero, List.set_cons_succ, List.setIfInBounds_toArray] at C
      have hsz := hR.1
      go_step
      exact hK.out _ _ (Below.refl _ _) Eq1.mk Fresh.no
    · intro p vs w' K hJ hp1 hp2 hS hR hK
      simp only [DepJ, List.getD_cons_zero, List.getD_cons_succ] at hJ
      obtain ⟨j8, -⟩ := hJ
      have j8 := Eq1.out j8
      simp only [j8] at hK ⊢
      rw [if_pos (by rfl)]
      go_step
      exact hK.out _ _ (Below.refl _ _) Eq1.mk Fresh.no
    · intro p vs w' K hJ hp1 hp2 hS hR hK
      simp only [DepJ, List.getD_cons_zero, List.getD_cons_succ] at hJ
      obtain ⟨j8, j9, j10, -⟩ := hJ
      have j8 := Eq1.out j8
      have j9 := Eq1.out j9
      have j10 := Eq1.out j10
      simp only [j8, j9, j10] at hK ⊢
      rw [if_pos (by rfl)]
      have C := Hp.facts hS
      simp only [Facts, factsL, and_true, true_and, List.set_cons_zero, List.set_cons_succ, List.setIfInBounds_toArray] at C
      have hsz := hR.1
      go_step
      refine (hI _).mono ?_
      rintro e' w'' ⟨rfl, hb⟩
      exact hK.out _ _ hb Eq1.mk Fresh.no
    · intro p vs w' K hJ hp1 hp2 hS hR hK
      simp only [DepJ, List.getD_cons_zero, List.getD_cons_succ] at hJ
      obtain ⟨j8, -⟩ := hJ
      have j8 := Eq1.out j8
      simp only [j8] at hK ⊢
      rw [if_pos (by rfl)]
      have C := Hp.facts hS
      simp only [Facts, factsL, and_true, true_and, List.set_cons_zero, List.set_cons_succ, List.setIfInBounds_toArray] at C
      have hsz := hR.1
      go_step
      exact hK.out _ _ (Below.refl _ _) Eq1.mk Fresh.no
    · intro p vs w' K hJ hp1 hp2 hS hR hK
      simp only [DepJ, List.getD_cons_zero, List.getD_cons_succ] at hJ
      obtain ⟨j8, -⟩ := hJ
      have j8 := Eq1.out j8
      simp only [j8] at hK ⊢
      rw [if_pos (by rfl)]
      go_step
      exact hK.out _ _ (Below.refl _ _) Eq1.mk Fresh.no
    · intro p vs w' K hJ hp1 hp2 hS hR hK
      simp only [DepJ, List.getD_cons_zero, List.getD_cons_succ] at hJ
      obtain ⟨j8, j12, j13, -⟩ := hJ
      have j8 := Eq1.out j8
      have j12 := Eq1.out j12
      have j13 := Eq1.out j13
      simp only [j8, j12, j13] at hK ⊢
      rw [if_pos (by rfl)]
      have C := Hp.facts hS
      simp only [Facts, factsL, and_true, true_and, List.set_cons_zero, List.set_cons_succ, List.setIfInBounds_toArray] at C
      have hsz := hR.1
      go_step
      refine (hRI _).mono ?_
      rintro e' w'' ⟨rfl, hb⟩
      exact hK.out _ _ hb Eq1.mk Fresh.no
    · intro p vs w' K hJ hp1 hp2 hS hR hK
      simp only [DepJ, List.getD_cons_zero, List.getD_cons_succ] at hJ
      obtain ⟨j8, j11, j14, -⟩ := hJ
      have j8 := Eq1.out j8
      have j11 := Eq1.out j11
      have j14 := Eq1.out j14
      simp only [j8, j11, j14] at hK ⊢
      rw [if_pos (by rfl)]
      go_step
      exact hK.out _ _ (Below.refl _ _) (Eq1.of (by first | rfl | (simp; done) | (simp; omega))) Fresh.no
    · intro p vs w' K hJ hp1 hp2 hS hR hK
      simp only [DepJ, List.getD_cons_zero, List.getD_cons_succ] at hJ
      obtain ⟨j8, j15, -⟩ := hJ
      have j8 := Eq1.out j8
      have j15 := Eq1.out j15
      simp only [j8, j15] at hK ⊢
      rw [if_pos (by rfl)]
      go_step
      exact hK.out _ _ (Below.refl _ _) Eq1.mk Fresh.no
    · intro p vs w' K hJ hp1 hp2 hS hR hK
      simp only [DepJ, List.getD_cons_zero, List.getD_cons_succ] at hJ
      obtain ⟨j16, -⟩ := hJ
      have j16 := Eq1.out j16
      simp only [j16] at hK ⊢
      rw [if_pos (by rfl)]
      go_step
      exact hK.out _ _ (Below.refl _ _) Eq1.mk Fresh.no
    · intro p vs w' K hJ hp1 hp2 hS hR hK
      simp only [DepJ, List.getD_cons_zero, List.getD_cons_succ] at hJ
      obtain ⟨j17, -⟩ := hJ
      have j17 := Eq1.out j17
      simp only [j17] at hK ⊢
      rw [if_pos (by rfl)]
      have C := Hp.facts hS
      simp only [Facts, factsL, and_true, true_and, List.set_cons_zero, List.set_cons_succ, List.setIfInBounds_toArray] at C
      have hsz := hR.1
      go_step
      exact hK.out _ _ (Below.refl _ _) Eq1.mk Fresh.no
    · intro p vs w' K hJ hp1 hp2 hS hR hK
      simp only [DepJ, List.getD_cons_zero, List.getD_cons_succ] at hJ
      obtain ⟨j17, j18, -⟩ := hJ
      have j17 := Eq1.out j17
      have j18 := Eq1.out j18
      simp only [j17, j18] at hK ⊢
      rw [if_pos (by rfl)]
      have C := Hp.facts hS
      simp only [Facts, factsL, and_true, true_and, List.set_cons_zero, List.set_cons_succ, List.setIfInBounds_toArray] at C
      have hsz := hR.1
      go_step
      refine (hL _).mono ?_
      rintro e' w'' ⟨rfl, hb⟩
      exact hK.out _ _ hb Eq1.mk Fresh.no
    · intro p vs w' K hJ hp1 hp2 hS hR hK
      simp only [DepJ, List.getD_cons_zero, List.getD_cons_succ] at hJ
      obtain ⟨j17, -⟩ := hJ
      have j17 := Eq1.out j17
      simp only [j17] at hK ⊢
      rw [if_pos (by rfl)]
      go_step
      exact hK.out _ _ (Below.refl _ _) Eq1.mk Fresh.no
    · intro p vs w' K hJ hp1 hp2 hS hR hK
      simp only [DepJ, List.getD_cons_zero, List.getD_cons_succ] at hJ
      obtain ⟨j17, j19, j20, -⟩ := hJ
      have j17 := Eq1.out j17
      have j19 := Eq1.out j19
      have j20 := Eq1.out j20
      simp only [j17, j19, j20] at hK ⊢
      rw [if_pos (by rfl)]
      go_step
      exact hK.out _ _ (Below.refl _ _) (Eq1.of (by first | rfl | (simp; done) | (simp; omega))) Fresh.no
    · intro p vs w' K hJ hp1 hp2 hS hR hK
      simp only [DepJ, List.getD_cons_zero, List.getD_cons_succ] at hJ
      obtain ⟨j17, j21, -⟩ := hJ
      have j17 := Eq1.out j17
      have j21 := Eq1.out j21
      simp only [j17, j21] at hK ⊢
      rw [if_pos (by rfl)]
      go_step
      exact hK.out _ _ (Below.refl _ _) Eq1.mk Fresh.no
    · intro p vs w' K hJ hp1 hp2 hS hR hK
      simp only [DepJ, List.getD_cons_zero, List.getD_cons_succ] at hJ
      obtain ⟨j22, -⟩ := hJ
      have j22 := Eq1.out j22
      simp only [j22] at hK ⊢
      rw [if_pos (by rfl)]
      go_step
      exact hK.out _ _ (Below.refl _ _) Eq1.mk Fresh.no
    · intro p vs w' K hJ hp1 hp2 hS hR hK
      simp only [DepJ, List.getD_cons_zero, List.getD_cons_succ] at hJ
      obtain ⟨j23, -⟩ := hJ
      have j23 := Eq1.out j23
      simp only [j23] at hK ⊢
      rw [if_pos (by rfl)]
      have C := Hp.facts hS
      simp only [Facts, factsL, and_true, true_and, List.set_cons_zero, List.set_cons_succ, List.setIfInBounds_toArray] at C
      have hsz := hR.1
      go_step
      exact hK.out _ _ (Below.refl _ _) Eq1.mk Fresh.no
    · intro p vs w' K hJ hp1 hp2 hS hR hK
      simp only [DepJ, List.getD_cons_zero, List.getD_cons_succ] at hJ
      obtain ⟨j23, -⟩ := hJ
      have j23 := Eq1.out j23
      simp only [j23] at hK ⊢
      rw [if_pos (by rfl)]
      go_step
      exact hK.out _ _ (Below.refl _ _) Eq1.mk Fresh.no
    · intro p vs w' K hJ hp1 hp2 hS hR hK
      simp only [DepJ, List.getD_cons_zero, List.getD_cons_succ] at hJ
      obtain ⟨j23, j24, j25, -⟩ := hJ
      have j23 := Eq1.out j23
      have j24 := Eq1.out j24
      have j25 := Eq1.out j25
      simp only [j23, j24, j25] at hK ⊢
      rw [if_pos (by rfl)]
      have C := Hp.facts hS
      simp only [Facts, factsL, and_true, true_and, List.set_cons_zero, List.set_cons_succ, List.setIfInBounds_toArray] at C
      have hsz := hR.1
      go_step
      refine (hM _).mono ?_
      rintro e' w'' ⟨rfl, hb⟩
      exact hK.out _ _ hb Eq1.mk Fresh.no
    · intro p vs w' K hJ hp1 hp2 hS hR hK
      simp only [DepJ, List.getD_cons_zero, List.getD_cons_succ] at hJ
      obtain ⟨j23, j26, -⟩ := hJ
      have j23 := Eq1.out j23
      have j26 := Eq1.out j26
      simp only [j23, j26] at hK ⊢
      rw [if_pos (by rfl)]
      have C := Hp.facts hS
      simp only [Facts, factsL, and_true, true_and, List.set_cons_zero, List.set_cons_succ, List.setIfInBounds_toArray] at C
      have hsz := hR.1
      go_step
      refine (of_any _ _ _).mono ?_
      rintro e' w'' ⟨rfl, hb⟩
      exact hK.out _ _ hb Eq1.mk Fresh.no
    · intro p vs w' K hJ hp1 hp2 hS hR hK
      simp only [DepJ, List.getD_cons_zero, List.getD_cons_succ] at hJ
      obtain ⟨j23, -⟩ := hJ
      have j23 := Eq1.out j23
      simp only [j23] at hK ⊢
      rw [if_pos (by rfl)]
      have C := Hp.facts hS
      simp only [Facts, factsL, and_true, true_and, List.set_cons_zero, List.set_cons_succ, List.setIfInBounds_toArray] at C
      have hsz := hR.1
      go_step
      exact hK.out _ _ (Below.refl _ _) Eq1.mk Fresh.no
    · intro p vs w' K hJ hp1 hp2 hS hR hK
      simp only [DepJ, List.getD_cons_zero, List.getD_cons_succ] at hJ
      obtain ⟨j23, j27, j28, -⟩ := hJ
      have j23 := Eq1.out j23
      have j27 := Eq1.out j27
      have j28 := Eq1.out j28
      simp only [j23, j27, j28] at hK ⊢
      rw [if_pos (by rfl)]
      go_step
      exact hK.out _ _ (Below.refl _ _) (Eq1.of (by first | rfl | (simp; done) | (simp; omega))) Fresh.no
    · intro p vs w' K hJ hp1 hp2 hS hR hK
      simp only [DepJ, List.getD_cons_zero, List.getD_cons_succ] at hJ
      obtain ⟨j23, j29, -⟩ := hJ
      have j23 := Eq1.out j23
      have j29 := Eq1.out j29
      simp only [j23, j29] at hK ⊢
      rw [if_pos (by rfl)]
      go_step
      exact hK.out _ _ (Below.refl _ _) Eq1.mk Fresh.no
    · intro p vs w' K hJ hp1 hp2 hS hR hK
      simp only [DepJ, List.getD_cons_zero, List.getD_cons_succ] at hJ
      obtain ⟨j30, -⟩ := hJ
      have j30 := Eq1.out j30
      simp only [j30] at hK ⊢
      rw [if_pos (by rfl)]
      go_step
      exact hK.out _ _ (Below.refl _ _) Eq1.mk Fresh.no
    · intro p vs w' K hJ hp1 hp2 hS hR hK
      simp only [DepJ, List.getD_cons_zero, List.getD_cons_succ] at hJ
      obtain ⟨j31, -⟩ := hJ
      have j31 := Eq1.out j31
      simp only [j31] at hK ⊢
      rw [if_pos (by rfl)]
      have C := Hp.facts hS
      simp only [Facts, factsL, and_true, true_and, List.set_cons_zero, List.set_cons_succ, List.setIfInBounds_toArray] at C
      have hsz := hR.1
      go_step
      exact hK.out _ _ (Below.refl _ _) Eq1.mk Fresh.no
    · intro p vs w' K hJ hp1 hp2 hS hR hK
      simp only [DepJ, List.getD_cons_zero, List.getD_cons_succ] at hJ
      obtain ⟨j31, -⟩ := hJ
      have j31 := Eq1.out j31
      simp only [j31] at hK ⊢
      rw [if_pos (by rfl)]
      go_step
      exact hK.out _ _ (Below.refl _ _) Eq1.mk Fresh.no
    · intro p vs w' K hJ hp1 hp2 hS hR hK
      simp only [DepJ, List.getD_cons_zero, List.getD_cons_succ] at hJ
      obtain ⟨j31, -⟩ := hJ
      have j31 := Eq1.out j31
      simp only [j31] at hK ⊢
      rw [if_pos (by rfl)]
      go_step
      exact hK.out _ _ (Below.refl _ _) Eq1.mk Fresh.no
    · intro p vs w' K hJ hp1 hp2 hS hR hK
      simp only [DepJ, List.getD_cons_zero, List.getD_cons_succ] at hJ
      obtain ⟨j31, j32, j33, j34, -⟩ := hJ
      have j31 := Eq1.out j31
      have j32 := Eq1.out j32
      have j33 := Eq1.out j33
      have j34 := Eq1.out j34
      simp only [j31, j32, j33, j34] at hK ⊢
      rw [if_pos (by rfl)]
      have C := Hp.facts hS
      simp only [Facts, factsL, and_true, true_and, List.set_cons_zero, List.set_cons_succ, List.setIfInBounds_toArray] at C
      have hsz := hR.1
      go_step
      refine (hG _).mono ?_
      rintro e' w'' ⟨rfl, hb⟩
      exact hK.out _ _ hb Eq1.mk Fresh.no
    · intro p vs w' K hJ hp1 hp2 hS hR hK
      simp only [DepJ, List.getD_cons_zero, List.getD_cons_succ] at hJ
      obtain ⟨j31, j35, -⟩ := hJ
      have j31 := Eq1.out j31
      have j35 := Eq1.out j35
      simp only [j31, j35] at hK ⊢
      rw [if_pos (by rfl)]
      have C := Hp.facts hS
      simp only [Facts, factsL, and_true, true_and, List.set_cons_zero, List.set_cons_succ, List.setIfInBounds_toArray] at C
      have hsz := hR.1
      go_step
      refine (of_any _ _ _).mono ?_
      rintro e' w'' ⟨rfl, hb⟩
      exact hK.out _ _ hb Eq1.mk Fresh.no
    · intro p vs w' K hJ hp1 hp2 hS hR hK
      simp only [DepJ, List.getD_cons_zero, List.getD_cons_succ] at hJ
      obtain ⟨j31, -⟩ := hJ
      have j31 := Eq1.out j31
      simp only [j31] at hK ⊢
      rw [if_pos (by rfl)]
      have C := Hp.facts hS
      simp only [Facts, factsL, and_true, true_and, List.set_cons_zero, List.set_cons_succ, List.setIfInBounds_toArray] at C
      have hsz := hR.1
      go_step
      exact hK.out _ _ (Below.refl _ _) Eq1.mk Fresh.no
    · intro p vs w' K hJ hp1 hp2 hS hR hK
      simp only [DepJ, List.getD_cons_zero, List.getD_cons_succ] at hJ
      obtain ⟨j31, j36, j37, -⟩ := hJ
      have j31 := Eq1.out j31
      have j36 := Eq1.out j36
      have j37 := Eq1.out j37
      simp only [j31, j36, j37] at hK ⊢
      rw [if_pos (by rfl)]
      go_step
      exact hK.out _ _ (Below.refl _ _) (Eq1.of (by first | rfl | (simp; done) | (simp; omega))) Fresh.no
    · intro p vs w' K hJ hp1 hp2 hS hR hK
      simp only [DepJ, List.getD_cons_zero, List.getD_cons_succ] at hJ
      obtain ⟨j31, j38, -⟩ := hJ
      have j31 := Eq1.out j31
      have j38 := Eq1.out j38
      simp only [j31, j38] at hK ⊢
      rw [if_pos (by rfl)]
      go_step
      exact hK.out _ _ (Below.refl _ _) Eq1.mk Fresh.no
    · intro p vs w' K hJ hp1 hp2 hS hR hK
      simp only [DepJ, List.getD_cons_zero, List.getD_cons_succ] at hJ
      obtain ⟨j39, -⟩ := hJ
      have j39 := Eq1.out j39
      simp only [j39] at hK ⊢
      rw [if_pos (by rfl)]
      go_step
      exact hK.out _ _ (Below.refl _ _) Eq1.mk Fresh.no
    · intro p vs w' K hJ hp1 hp2 hS hR hK
      simp only [DepJ, List.getD_cons_zero, List.getD_cons_succ] at hJ
      obtain ⟨j40, -⟩ := hJ
      have j40 := Eq1.out j40
      simp only [j40] at hK ⊢
      rw [if_pos (by rfl)]
      have C := Hp.facts hS
      simp only [Facts, factsL, and_true, true_and, List.set_cons_zero, List.set_cons_succ, List.setIfInBounds_toArray] at C
      have hsz := hR.1
      go_step
      exact hK.out _ _ (Below.refl _ _) Eq1.mk Fresh.no
    · intro p vs w' K hJ hp1 hp2 hS hR hK
      simp only [DepJ, List.getD_cons_zero, List.getD_cons_succ] at hJ
      obtain ⟨j40, -⟩ := hJ
      have j40 := Eq1.out j40
      simp only [j40] at hK ⊢
      rw [if_pos (by rfl)]
      have C := Hp.facts hS
      simp only [Facts, factsL, and_true, true_and, List.set_cons_zero, List.set_cons_succ, List.setIfInBounds_toArray] at C
      have hsz := hR.1
      go_step
      exact hK.out _ _ (Below.refl _ _) Eq1.mk Fresh.no
    · intro p vs w' K hJ hp1 hp2 hS hR hK
      simp only [DepJ, List.getD_cons_zero, List.getD_cons_succ] at hJ
      obtain ⟨j40, j41, j42, -⟩ := hJ
      have j40 := Eq1.out j40
      have j41 := Eq1.out j41
      have j42 := Eq1.out j42
      simp only [j40, j41, j42] at hK ⊢
      rw [if_pos (by rfl)]
      have C := Hp.facts hS
      simp only [Facts, factsL, and_true, true_and, List.set_cons_zero, List.set_cons_succ, List.setIfInBounds_toArray] at C
      have hsz := hR.1
      go_step
      refine (hW _).mono ?_
      rintro e' w'' ⟨rfl, hb⟩
      exact hK.out _ _ hb Eq1.mk Fresh.no
    · intro p vs w' K hJ hp1 hp2 hS hR hK
      simp only [DepJ, List.getD_cons_zero, List.getD_cons_succ] at hJ
      obtain ⟨j40, -⟩ := hJ
      have j40 := Eq1.out j40
      simp only [j40] at hK ⊢
      rw [if_pos (by rfl)]
      go_step
      exact hK.out _ _ (Below.refl _ _) Eq1.mk Fresh.no
    · intro p vs w' K hJ hp1 hp2 hS hR hK
      simp only [DepJ, List.getD_cons_zero, List.getD_cons_succ] at hJ
      obtain ⟨j40, j43, j44, -⟩ := hJ
      have j40 := Eq1.out j40
      have j43 := Eq1.out j43
      have j44 := Eq1.out j44
      simp only [j40, j43, j44] at hK ⊢
      rw [if_pos (by rfl)]
      go_step
      exact hK.out _ _ (Below.refl _ _) (Eq1.of (by first | rfl | (simp; done) | (simp; omega))) Fresh.no
    · intro p vs w' K hJ hp1 hp2 hS hR hK
      simp only [DepJ, List.getD_cons_zero, List.getD_cons_succ] at hJ
      obtain ⟨j40, j45, -⟩ := hJ
      have j40 := Eq1.out j40
      have j45 := Eq1.out j45
      simp only [j40, j45] at hK ⊢
      rw [if_pos (by rfl)]
      go_step
      exact hK.out _ _ (Below.refl _ _) Eq1.mk Fresh.no
    · intro p vs w' K hJ hp1 hp2 hS hR hK
      simp only [DepJ, List.getD_cons_zero, List.getD_cons_succ] at hJ
      obtain ⟨j46, -⟩ := hJ
      have j46 := Eq1.out j46
      simp only [j46] at hK ⊢
      rw [if_pos (by rfl)]
      go_step
      exact hK.out _ _ (Below.refl _ _) Eq1.mk Fresh.no
  case hst_2 => refine ⟨fun _ _ _ _ h => h, fun _ _ _ _ h => h, fun _ _ _ _ h => h, fun _ _ _ _ h => h, fun _ _ _ _ h => h, fun _ _ _ _ h => h, fun _ _ _ _ h => h, fun _ _ _ _ h => h, fun _ _ _ _ h => h, fun _ _ _ _ h => h, fun _ _ _ _ h => h, fun _ _ _ _ h => h, fun _ _ _ _ h => h, fun _ _ _ _ h => h, fun _ _ _ _ h => h, fun _ _ _ _ h => h, fun _ _ _ _ h => h, fun _ _ _ _ h => h, fun _ _ _ _ h => h, fun _ _ _ _ h => h, fun _ _ _ _ h => h, fun _ _ _ _ h => h, fun _ _ _ _ h => h, fun _ _ _ _ h => h, fun _ _ _ _ h => h, fun _ _ _ _ h => h, fun _ _ _ _ h => h, fun _ _ _ _ h => h, fun _ _ _ _ h => h, fun _ _ _ _ h => h, fun _ _ _ _ h => h, fun _ _ _ _ h => h, fun _ _ _ _ h => h, fun _ _ _ _ h => h, fun _ _ _ _ h => h, fun _ _ _ _ h => h, fun _ _ _ _ h => h, fun _ _ _ _ h => h, fun _ _ _ _ h => h, fun _ _ _ _ h => h, fun _ _ _ _ h => h, fun _ _ _ _ h => h, fun _ _ _ _ h => h, fun _ _ _ _ h => h, fun _ _ _ _ h => h, fun _ _ _ _ h => h, fun _ _ _ _ h => h, fun _ _ _ _ h => h, trivial⟩
  intro vs w' hJ hD hS hR
  simp only [AllJ, Nat.reduceAdd] at hJ
  obtain ⟨v0, v1, v2, v3, v4, v5, v6, v7, v8, v9, v10, v11, v12, v13, v14, v15, v16, v17, v18, v19, v20, v21, v22, v23, v24, v25, v26, v27, v28, v29, v30, v31, v32, v33, v34, v35, v36, v37, v38, v39, v40, v41, v42, v43, v44, v45, v46, v47, -⟩ := hJ
  clear C
  replace v0 := Eq1.out v0
  replace v1 := Eq1.out v1
  replace v2 := Eq1.out v2
  replace v3 := Eq1.out v3
  replace v4 := Eq1.out v4
  replace v5 := Eq1.out v5
  replace v6 := Eq1.out v6
  replace v7 := Eq1.out v7
  replace v8 := Eq1.out v8
  replace v9 := Eq1.out v9
  replace v10 := Eq1.out v10
  replace v11 := Eq1.out v11
  replace v12 := Eq1.out v12
  replace v13 := Eq1.out v13
  replace v14 := Eq1.out v14
  replace v15 := Eq1.out v15
  replace v16 := Eq1.out v16
  replace v17 := Eq1.out v17
  replace v18 := Eq1.out v18
  replace v19 := Eq1.out v19
  replace v20 := Eq1.out v20
  replace v21 := Eq1.out v21
  replace v22 := Eq1.out v22
  replace v23 := Eq1.out v23
  replace v24 := Eq1.out v24
  replace v25 := Eq1.out v25
  replace v26 := Eq1.out v26
  replace v27 := Eq1.out v27
  replace v28 := Eq1.out v28
  replace v29 := Eq1.out v29
  replace v30 := Eq1.out v30
  replace v31 := Eq1.out v31
  replace v32 := Eq1.out v32
  replace v33 := Eq1.out v33
  replace v34 := Eq1.out v34
  replace v35 := Eq1.out v35
  replace v36 := Eq1.out v36
  replace v37 := Eq1.out v37
  replace v38 := Eq1.out v38
  replace v39 := Eq1.out v39
  replace v40 := Eq1.out v40
  replace v41 := Eq1.out v41
  replace v42 := Eq1.out v42
  replace v43 := Eq1.out v43
  replace v44 := Eq1.out v44
  replace v45 := Eq1.out v45
  replace v46 := Eq1.out v46
  replace v47 := Eq1.out v47
  simp only [v0, v1, v2, v3, v4, v5, v6, v7, v8, v9, v10, v11, v12, v13, v14, v15, v16, v17, v18, v19, v20, v21, v22, v23, v24, v25, v26, v27, v28, v29, v30, v31, v32, v33, v34, v35, v36, v37, v38, v39, v40, v41, v42, v43, v44, v45, v46, v47, List.drop_succ_cons, List.drop_zero]
  refine wpList_nil' ?_
  have H' : Hp _ _ _ := hS
  clear hD hR hS v0 v1 v2 v3 v4 v5 v6 v7 v8 v9 v10 v11 v12 v13 v14 v15 v16 v17 v18 v19 v20 v21 v22 v23 v24 v25 v26 v27 v28 v29 v30 v31 v32 v33 v34 v35 v36 v37 v38 v39 v40 v41 v42 v43 v44 v45 v46 v47
  clear vs H
  have H := H'; clear H'; have C := Hp.facts H; simp only [Facts, factsL, and_true, true_and, List.set_cons_zero, List.set_cons_succ, List.setIfInBounds_toArray] at C
  (repeat' ((fail_if_success (with_reducible show bodyPost _ _ _ _ _ _)); first | ((with_reducible refine Hp.abs_alloc H ?_); intro b' w' H' hb'; (try simp only [hb']); clear hb'; ((try simp only [List.set_cons_zero, List.set_cons_succ, List.setIfInBounds_toArray] at H'); clear C H; have H := H'; clear H'; have C := Hp.facts H; simp only [Facts, factsL, and_true, true_and, List.set_cons_zero, List.set_cons_succ, List.setIfInBounds_toArray] at C)) | ((with_reducible show wpList _ _ _ _ _ (World.setCell _ _ _)); (with_reducible apply Hp.abs_gen H); (first | ((repeat (with_reducible apply Hp.set' 0)); (with_reducible exact H); (repeat rfl); intro w' H') | ((repeat (with_reducible apply Hp.set' 1)); (with_reducible exact H); (repeat rfl); intro w' H') | ((repeat (with_reducible apply Hp.set' 2)); (with_reducible exact H); (repeat rfl); intro w' H') | ((repeat (with_reducible apply Hp.set' 3)); (with_reducible exact H); (repeat rfl); intro w' H') | ((repeat (with_reducible apply Hp.set' 4)); (with_reducible exact H); (repeat rfl); intro w' H') | ((repeat (with_reducible apply Hp.set' 5)); (with_reducible exact H); (repeat rfl); intro w' H') | ((repeat (with_reducible apply Hp.set' 6)); (with_reducible exact H); (repeat rfl); intro w' H') | ((repeat (with_reducible apply Hp.set' 7)); (with_reducible exact H); (repeat rfl); intro w' H')); ((try simp only [List.set_cons_zero, List.set_cons_succ, List.setIfInBounds_toArray] at H'); clear C H; have H := H'; clear H'; have C := Hp.facts H; simp only [Facts, factsL, and_true, true_and, List.set_cons_zero, List.set_cons_succ, List.setIfInBounds_toArray] at C)) | go_values | go_skip | go_guarded | go_step | go_upon | go_back | (simp only [Int.not_lt, Int.not_le] at *; go_simp) | (go_values <;> (try go_simp)) | (go_ite <;> go_prune <;> (try go_simp)) | (split <;> (first | (rename_i hx; exact (hx _ rfl).elim) | go_prune))))
  go_ret
  exact ⟨rfl, H.low⟩
set_option maxHeartbeats 3200000 in
theorem parts_full (a b c d n m : Int) (ha : In64 a) (hb : In64 b) (hn : In64 n) (hm : In64 m) (h : a ≤ b) (w : World) :
    Calls Try.prog 8 #[.agg #[.int .i64 a, .int .i64 b], .agg #[.int .i64 c, .int .i64 d], .int .i64 n, .int .i64 m] w fun e w' => e = .returned (.bool true) ∧ Below w.heap.size w w' := by
  have hI := in_any a b n
  have hRI := rin_any a b n
  have hL := length_any a b ha hb
  rw [len_full h] at hL
  have hM := move_any a b n ha hb hn
  rw [move_full h] at hM
  have hG := grow_any a b n m ha hb hn hm
  rw [grow_full h] at hG
  have hW := within_any a b c d
  have hE := empty_any a b
  have hRE := rempty_any a b
  rw [decide_eq_false (show ¬b < a by omega)] at hE hRE hW
  rw [Bool.false_or] at hW
  have hR1 := rin_any c d a
  have hR2 := rin_any c d b
  have hm1 := rminus_any b a hb ha
  have pp1 := rplus_any (satI (b - a)) 1 (satI_in _) (by unfold In64; omega)
  have pp2 := rplus_any a n ha hn
  have pp3 := rplus_any b n hb hn
  have hm2 := rminus_any a n ha hn
  have pp4 := rplus_any b m hb hm
  have hrr := rright_any (satI (a - n)) (satI (b + m))
  obtain ⟨i, hi⟩ : ∃ i, (decide (c ≤ a) && decide (a ≤ d)) = i := ⟨_, rfl⟩
  obtain ⟨j, hj⟩ : ∃ j, (decide (c ≤ b) && decide (b ≤ d)) = j := ⟨_, rfl⟩
  have hij : (decide (c ≤ a) && decide (b ≤ d)) = (i && j) := by
    subst hi hj
    rw [Bool.eq_iff_iff]
    simp only [Bool.and_eq_true, decide_eq_true_eq]
    omega
  rw [hij] at hW
  rw [hi] at hR1
  rw [hj] at hR2
  clear hij hi hj
  generalize (decide (a ≤ n) && decide (n ≤ b)) = I at *
  generalize satI (satI (b - a) + 1) = x1 at *
  generalize satI (b - a) = x0 at *
  generalize noneS (satI (a - n), satI (b + m)) = R at *
  generalize satI (a + n) = x2 at *
  generalize satI (b + n) = x3 at *
  generalize satI (a - n) = x4 at *
  generalize satI (b + m) = x5 at *
  clear ha hb hn hm h
  have H := Hp.start w
  have C : True := trivial
  go_enter Try.func8, Try.ntmps8
  (repeat' ((fail_if_success (with_reducible show bodyPost _ _ _ _ _ _)); first | ((with_reducible refine Hp.abs_alloc H ?_); intro b' w' H' hb'; (try simp only [hb']); clear hb'; ((try simp only [List.set_cons_zero, List.set_cons_succ, List.setIfInBounds_toArray] at H'); clear C H; have H := H'; clear H'; have C := Hp.facts H; simp only [Facts, factsL, and_true, true_and, List.set_cons_zero, List.set_cons_succ, List.setIfInBounds_toArray] at C)) | ((with_reducible show wpList _ _ _ _ _ (World.setCell _ _ _)); (with_reducible apply Hp.abs_gen H); (first | ((repeat (with_reducible apply Hp.set' 0)); (with_reducible exact H); (repeat rfl); intro w' H') | ((repeat (with_reducible apply Hp.set' 1)); (with_reducible exact H); (repeat rfl); intro w' H') | ((repeat (with_reducible apply Hp.set' 2)); (with_reducible exact H); (repeat rfl); intro w' H') | ((repeat (with_reducible apply Hp.set' 3)); (with_reducible exact H); (repeat rfl); intro w' H') | ((repeat (with_reducible apply Hp.set' 4)); (with_reducible exact H); (repeat rfl); intro w' H') | ((repeat (with_reducible apply Hp.set' 5)); (with_reducible exact H); (repeat rfl); intro w' H') | ((repeat (with_reducible apply Hp.set' 6)); (with_reducible exact H); (repeat rfl); intro w' H') | ((repeat (with_reducible apply Hp.set' 7)); (with_reducible exact H); (repeat rfl); intro w' H')); ((try simp only [List.set_cons_zero, List.set_cons_succ, List.setIfInBounds_toArray] at H'); clear C H; have H := H'; clear H'; have C := Hp.facts H; simp only [Facts, factsL, and_true, true_and, List.set_cons_zero, List.set_cons_succ, List.setIfInBounds_toArray] at C)) | go_values | go_skip | go_guarded | go_step | go_upon | go_back | (simp only [Int.not_lt, Int.not_le] at *; go_simp) | (go_values <;> (try go_simp)) | (go_ite <;> go_prune <;> (try go_simp)) | (split <;> (first | (rename_i hx; exact (hx _ rfl).elim) | go_prune))))
  try simp (disch := omega) only [decide_eq_true, decide_eq_false]
  obtain ⟨wR1, rfl⟩ := Hp.nameW H
  apply region_n (frm wR1.heap.size (fun _ => Hp _ _)) (frm_ok ?hfs_3) frm_sz [] [.light 0 0, .light 0 0, .light 0 0, .light 0 0, .light 0 0, .light 0 0] [false, false, false, false, true, true] 6 110 [6, 6, 3, 6, 6, 6] [some 15, some 16, some 17, some 18, some 9, some 10] [[], [0], [], [2], [], []] [Eq1 _, Eq1 _, Eq1 _, Eq1 _, NewPt wR1.heap.size _ _, NewPt wR1.heap.size _ _] ?hq1_3 ?hq2_3 ?hq3_3 ?hq4_3 ?hq5_3 ?hq6_3 _ ?hA_3 ?hst_3 ?h0_3 ?hsteps_3 ?hend_3
  case hq1_3 => kernel_rfl
  case hq2_3 => kernel_rfl
  case hq3_3 => kernel_rfl
  case hq5_3 => kernel_rfl
  case hq4_3 => rfl
  case hq6_3 => rfl
  case hA_3 => intro vs; simp only [fillD, Nat.reduceAdd, Act.put, List.setIfInBounds_toArray, List.set_cons_zero, List.set_cons_succ]; rfl
  case h0_3 => exact H.drew
  case hfs_3 => exact fun _ _ _ hb h => Hp.step h hb
  case hsteps_3 =>
    refine ⟨?_, ?_, ?_, ?_, ?_, ?_, trivial⟩
    · intro p vs w' K hJ hp1 hp2 hS hR hK
      rw [if_pos (by rfl)]
      have C := Hp.facts hS
      simp only [Facts, factsL, and_true, true_and, List.set_cons_zero, List.set_cons_succ, List.setIfInBounds_toArray] at C
      have hsz := hR.1
      go_step
      exact hK.out _ _ (Below.refl _ _) Eq1.mk Fresh.no
    · intro p vs w' K hJ hp1 hp2 hS hR hK
      simp only [DepJ, List.getD_cons_zero, List.getD_cons_succ] at hJ
      obtain ⟨j0, -⟩ := hJ
      have j0 := Eq1.out j0
      simp only [j0] at hK ⊢
      rw [if_pos (by rfl)]
      have C := Hp.facts hS
      simp only [Facts, factsL, and_true, true_and, List.set_cons_zero, List.set_cons_succ, List.setIfInBounds_toArray] at C
      have hsz := hR.1
      go_step
      refine (to_any _ _ _).mono ?_
      rintro e' w'' ⟨rfl, hb⟩
      exact hK.out _ _ hb Eq1.mk Fresh.no
    · intro p vs w' K hJ hp1 hp2 hS hR hK
      rw [if_pos (by rfl)]
      have C := Hp.facts hS
      simp only [Facts, factsL, and_true, true_and, List.set_cons_zero, List.set_cons_succ, List.setIfInBounds_toArray] at C
      have hsz := hR.1
      go_step
      exact hK.out _ _ (Below.refl _ _) Eq1.mk Fresh.no
    · intro p vs w' K hJ hp1 hp2 hS hR hK
      simp only [DepJ, List.getD_cons_zero, List.getD_cons_succ] at hJ
      obtain ⟨j2, -⟩ := hJ
      have j2 := Eq1.out j2
      simp only [j2] at hK ⊢
      rw [if_pos (by rfl)]
      have C := Hp.facts hS
      simp only [Facts, factsL, and_true, true_and, List.set_cons_zero, List.set_cons_succ, List.setIfInBounds_toArray] at C
      have hsz := hR.1
      go_step
      refine (to_any _ _ _).mono ?_
      rintro e' w'' ⟨rfl, hb⟩
      exact hK.out _ _ hb Eq1.mk Fresh.no
    · intro p vs w' K hJ hp1 hp2 hS hR hK
      rw [if_pos (by rfl)]
      go_step
      exact hK.out _ _ ((Below.refl _ _).alloc (Nat.le_refl _) _) (NewPt.mk _ _ _ _ hR.1) Fresh.pt
    · intro p vs w' K hJ hp1 hp2 hS hR hK
      rw [if_pos (by rfl)]
      go_step
      exact hK.out _ _ ((Below.refl _ _).alloc (Nat.le_refl _) _) (NewPt.mk _ _ _ _ hR.1) Fresh.pt
  case hst_3 => refine ⟨fun _ _ _ _ h => h, fun _ _ _ _ h => h, fun _ _ _ _ h => h, fun _ _ _ _ h => h, fun _ _ _ hs h => NewPt.stayR hs h, fun _ _ _ hs h => NewPt.stayR hs h, trivial⟩
  intro vs w' hJ hD hS hR
  simp only [AllJ, Nat.reduceAdd] at hJ
  obtain ⟨v0, v1, v2, v3, v4, v5, -⟩ := hJ
  clear C
  replace v0 := Eq1.out v0
  replace v1 := Eq1.out v1
  replace v2 := Eq1.out v2
  replace v3 := Eq1.out v3
  obtain ⟨k4, e4, hB4, hh4⟩ := v4
  obtain ⟨k5, e5, hB5, hh5⟩ := v5
  simp only [v0, v1, v2, v3, e4, e5, List.drop_succ_cons, List.drop_zero]
  replace hS : Hp _ _ _ := hS
  have H' := Hp.adopts hS H.low.size (fun k hk => Hp.lows H k hk) [.blk k5 _ _, .blk k4 _ _] (by intro x hx; simp only [List.mem_cons, List.not_mem_nil, or_false] at hx; rcases hx with rfl | rfl; exact ⟨hh5, hB5⟩; exact ⟨hh4, hB4⟩) (nodup2 (fun k h1 h2 => hD 5 4 rfl rfl (by decide) k (by rw [e5]; simp only [Ent.fp, Option.some.injEq] at h1; subst h1; simp [vb, vb0]) (by rw [e4]; simp only [Ent.fp, Option.some.injEq] at h2; subst h2; simp [vb, vb0])))
  simp only [List.cons_append, List.nil_append] at H'
  clear hD hR hS v0 v1 v2 v3
  clear e5 hB5 hh5 e4 hB4 hh4
  clear vs H
  have H := H'; clear H'; have C := Hp.facts H; simp only [Facts, factsL, and_true, true_and, List.set_cons_zero, List.set_cons_succ, List.setIfInBounds_toArray] at C
  (repeat' ((fail_if_success (with_reducible show bodyPost _ _ _ _ _ _)); first | ((with_reducible refine Hp.abs_alloc H ?_); intro b' w' H' hb'; (try simp only [hb']); clear hb'; ((try simp only [List.set_cons_zero, List.set_cons_succ, List.setIfInBounds_toArray] at H'); clear C H; have H := H'; clear H'; have C := Hp.facts H; simp only [Facts, factsL, and_true, true_and, List.set_cons_zero, List.set_cons_succ, List.setIfInBounds_toArray] at C)) | ((with_reducible show wpList _ _ _ _ _ (World.setCell _ _ _)); (with_reducible apply Hp.abs_gen H); (first | ((repeat (with_reducible apply Hp.set' 0)); (with_reducible exact H); (repeat rfl); intro w' H') | ((repeat (with_reducible apply Hp.set' 1)); (with_reducible exact H); (repeat rfl); intro w' H') | ((repeat (with_reducible apply Hp.set' 2)); (with_reducible exact H); (repeat rfl); intro w' H') | ((repeat (with_reducible apply Hp.set' 3)); (with_reducible exact H); (repeat rfl); intro w' H') | ((repeat (with_reducible apply Hp.set' 4)); (with_reducible exact H); (repeat rfl); intro w' H') | ((repeat (with_reducible apply Hp.set' 5)); (with_reducible exact H); (repeat rfl); intro w' H') | ((repeat (with_reducible apply Hp.set' 6)); (with_reducible exact H); (repeat rfl); intro w' H') | ((repeat (with_reducible apply Hp.set' 7)); (with_reducible exact H); (repeat rfl); intro w' H')); ((try simp only [List.set_cons_zero, List.set_cons_succ, List.setIfInBounds_toArray] at H'); clear C H; have H := H'; clear H'; have C := Hp.facts H; simp only [Facts, factsL, and_true, true_and, List.set_cons_zero, List.set_cons_succ, List.setIfInBounds_toArray] at C)) | (go_at_call 35; refine (hRE _).mono ?_; rintro e' w' ⟨rfl, hb'⟩; (have H' := Hp.step H hb'; clear hb'; ((try simp only [List.set_cons_zero, List.set_cons_succ, List.setIfInBounds_toArray] at H'); clear C H; have H := H'; clear H'; have C := Hp.facts H; simp only [Facts, factsL, and_true, true_and, List.set_cons_zero, List.set_cons_succ, List.setIfInBounds_toArray] at C))) | go_values | go_skip | go_guarded | go_step | go_upon | go_back | (simp only [Int.not_lt, Int.not_le] at *; go_simp) | (go_values <;> (try go_simp)) | (go_ite <;> go_prune <;> (try go_simp)) | (split <;> (first | (rename_i hx; exact (hx _ rfl).elim) | go_prune))))
  refine (hm1 _).mono ?_
  (rintro e' w' ⟨rfl, hb'⟩; (have H' := Hp.step H hb'; clear hb'; ((try simp only [List.set_cons_zero, List.set_cons_succ, List.setIfInBounds_toArray] at H'); clear C H; have H := H'; clear H'; have C := Hp.facts H; simp only [Facts, factsL, and_true, true_and, List.set_cons_zero, List.set_cons_succ, List.setIfInBounds_toArray] at C)))
  (repeat' ((fail_if_success (with_reducible show bodyPost _ _ _ _ _ _)); first | ((with_reducible refine Hp.abs_alloc H ?_); intro b' w' H' hb'; (try simp only [hb']); clear hb'; ((try simp only [List.set_cons_zero, List.set_cons_succ, List.setIfInBounds_toArray] at H'); clear C H; have H := H'; clear H'; have C := Hp.facts H; simp only [Facts, factsL, and_true, true_and, List.set_cons_zero, List.set_cons_succ, List.setIfInBounds_toArray] at C)) | ((with_reducible show wpList _ _ _ _ _ (World.setCell _ _ _)); (with_reducible apply Hp.abs_gen H); (first | ((repeat (with_reducible apply Hp.set' 0)); (with_reducible exact H); (repeat rfl); intro w' H') | ((repeat (with_reducible apply Hp.set' 1)); (with_reducible exact H); (repeat rfl); intro w' H') | ((repeat (with_reducible apply Hp.set' 2)); (with_reducible exact H); (repeat rfl); intro w' H') | ((repeat (with_reducible apply Hp.set' 3)); (with_reducible exact H); (repeat rfl); intro w' H') | ((repeat (with_reducible apply Hp.set' 4)); (with_reducible exact H); (repeat rfl); intro w' H') | ((repeat (with_reducible apply Hp.set' 5)); (with_reducible exact H); (repeat rfl); intro w' H') | ((repeat (with_reducible apply Hp.set' 6)); (with_reducible exact H); (repeat rfl); intro w' H') | ((repeat (with_reducible apply Hp.set' 7)); (with_reducible exact H); (repeat rfl); intro w' H')); ((try simp only [List.set_cons_zero, List.set_cons_succ, List.setIfInBounds_toArray] at H'); clear C H; have H := H'; clear H'; have C := Hp.facts H; simp only [Facts, factsL, and_true, true_and, List.set_cons_zero, List.set_cons_succ, List.setIfInBounds_toArray] at C)) | go_values | go_skip | go_guarded | go_step | go_upon | go_back | (simp only [Int.not_lt, Int.not_le] at *; go_simp) | (go_values <;> (try go_simp)) | (go_ite <;> go_prune <;> (try go_simp)) | (split <;> (first | (rename_i hx; exact (hx _ rfl).elim) | go_prune))))
  refine (pp1 _).mono ?_
  (rintro e' w' ⟨rfl, hb'⟩; (have H' := Hp.step H hb'; clear hb'; ((try simp only [List.set_cons_zero, List.set_cons_succ, List.setIfInBounds_toArray] at H'); clear C H; have H := H'; clear H'; have C := Hp.facts H; simp only [Facts, factsL, and_true, true_and, List.set_cons_zero, List.set_cons_succ, List.setIfInBounds_toArray] at C)))
  (repeat' ((fail_if_success (with_reducible show bodyPost _ _ _ _ _ _)); first | ((with_reducible refine Hp.abs_alloc H ?_); intro b' w' H' hb'; (try simp only [hb']); clear hb'; ((try simp only [List.set_cons_zero, List.set_cons_succ, List.setIfInBounds_toArray] at H'); clear C H; have H := H'; clear H'; have C := Hp.facts H; simp only [Facts, factsL, and_true, true_and, List.set_cons_zero, List.set_cons_succ, List.setIfInBounds_toArray] at C)) | ((with_reducible show wpList _ _ _ _ _ (World.setCell _ _ _)); (with_reducible apply Hp.abs_gen H); (first | ((repeat (with_reducible apply Hp.set' 0)); (with_reducible exact H); (repeat rfl); intro w' H') | ((repeat (with_reducible apply Hp.set' 1)); (with_reducible exact H); (repeat rfl); intro w' H') | ((repeat (with_reducible apply Hp.set' 2)); (with_reducible exact H); (repeat rfl); intro w' H') | ((repeat (with_reducible apply Hp.set' 3)); (with_reducible exact H); (repeat rfl); intro w' H') | ((repeat (with_reducible apply Hp.set' 4)); (with_reducible exact H); (repeat rfl); intro w' H') | ((repeat (with_reducible apply Hp.set' 5)); (with_reducible exact H); (repeat rfl); intro w' H') | ((repeat (with_reducible apply Hp.set' 6)); (with_reducible exact H); (repeat rfl); intro w' H') | ((repeat (with_reducible apply Hp.set' 7)); (with_reducible exact H); (repeat rfl); intro w' H')); ((try simp only [List.set_cons_zero, List.set_cons_succ, List.setIfInBounds_toArray] at H'); clear C H; have H := H'; clear H'; have C := Hp.facts H; simp only [Facts, factsL, and_true, true_and, List.set_cons_zero, List.set_cons_succ, List.setIfInBounds_toArray] at C)) | go_values | go_skip | go_guarded | go_step | go_upon | go_back | (simp only [Int.not_lt, Int.not_le] at *; go_simp) | (go_values <;> (try go_simp)) | (go_ite <;> go_prune <;> (try go_simp)) | (split <;> (first | (rename_i hx; exact (hx _ rfl).elim) | go_prune))))
  try simp (disch := omega) only [decide_eq_true, decide_eq_false]
  obtain ⟨wR5, rfl⟩ := Hp.nameW H
  apply region_n (frm wR5.heap.size (fun _ => Hp _ _)) (frm_ok ?hfs_4) frm_sz [] [.light 0 0, .light 0 0, .light 0 0, .light 0 0, .light 0 0, .light 0 0, .light 0 0, .light 0 0, .light 0 0] [false, false, false, false, false, false, false, false, false] 9 110 [9, 9, 9, 9, 9, 9, 9, 9, 9] [some 30, some 31, some 32, some 33, some 34, some 35, some 36, some 37, some 38] [[], [0], [], [1, 2], [], [4], [], [5, 6], [3, 7]] [Eq1 _, Eq1 _, Eq1 _, Eq1 _, Eq1 _, Eq1 _, Eq1 _, Eq1 _, Eq1 _] ?hq1_4 ?hq2_4 ?hq3_4 ?hq4_4 ?hq5_4 ?hq6_4 _ ?hA_4 ?hst_4 ?h0_4 ?hsteps_4 ?hend_4
  case hq1_4 => kernel_rfl
  case hq2_4 => kernel_rfl
  case hq3_4 => kernel_rfl
  case hq5_4 => kernel_rfl
  case hq4_4 => rfl
  case hq6_4 => rfl
  case hA_4 => intro vs; simp only [fillD, Nat.reduceAdd, Act.put, List.setIfInBounds_toArray, List.set_cons_zero, List.set_cons_succ]; rfl
  case h0_4 => exact H.drew
  case hfs_4 => exact fun _ _ _ hb h => Hp.step h hb
  case hsteps_4 =>
    refine ⟨?_, ?_, ?_, ?_, ?_, ?_, ?_, ?_, ?_, trivial⟩
    · intro p vs w' K hJ hp1 hp2 hS hR hK
      rw [if_pos (by rfl)]
      go_step
      exact hK.out _ _ (Below.refl _ _) Eq1.mk Fresh.no
    · intro p vs w' K hJ hp1 hp2 hS hR hK
      simp only [DepJ, List.getD_cons_zero, List.getD_cons_succ] at hJ
      obtain ⟨j0, -⟩ := hJ
      have j0 := Eq1.out j0
      simp only [j0] at hK ⊢
      rw [if_pos (by rfl)]
      have C := Hp.facts hS
      simp only [Facts, factsL, and_true, true_and, List.set_cons_zero, List.set_cons_succ, List.setIfInBounds_toArray] at C
      have hsz := hR.1
      go_step
      exact hK.out _ _ (Below.refl _ _) Eq1.mk Fresh.no
    · intro p vs w' K hJ hp1 hp2 hS hR hK
      rw [if_pos (by rfl)]
      go_step
      exact hK.out _ _ (Below.refl _ _) Eq1.mk Fresh.no
    · intro p vs w' K hJ hp1 hp2 hS hR hK
      simp only [DepJ, List.getD_cons_zero, List.getD_cons_succ] at hJ
      obtain ⟨j1, j2, -⟩ := hJ
      have j1 := Eq1.out j1
      have j2 := Eq1.out j2
      simp only [j1, j2] at hK ⊢
      rw [if_pos (by rfl)]
      have C := Hp.facts hS
      simp only [Facts, factsL, and_true, true_and, List.set_cons_zero, List.set_cons_succ, List.setIfInBounds_toArray] at C
      have hsz := hR.1
      go_step
      refine (pp2 _).mono ?_
      rintro e' w'' ⟨rfl, hb⟩
      exact hK.out _ _ hb Eq1.mk Fresh.no
    · intro p vs w' K hJ hp1 hp2 hS hR hK
      rw [if_pos (by rfl)]
      go_step
      exact hK.out _ _ (Below.refl _ _) Eq1.mk Fresh.no
    · intro p vs w' K hJ hp1 hp2 hS hR hK
      simp only [DepJ, List.getD_cons_zero, List.getD_cons_succ] at hJ
      obtain ⟨j4, -⟩ := hJ
      have j4 := Eq1.out j4
      simp only [j4] at hK ⊢
      rw [if_pos (by rfl)]
      have C := Hp.facts hS
      simp only [Facts, factsL, and_true, true_and, List.set_cons_zero, List.set_cons_succ, List.setIfInBounds_toArray] at C
      have hsz := hR.1
      go_step
      exact hK.out _ _ (Below.refl _ _) Eq1.mk Fresh.no
    · intro p vs w' K hJ hp1 hp2 hS hR hK
      rw [if_pos (by rfl)]
      go_step
      exact hK.out _ _ (Below.refl _ _) Eq1.mk Fresh.no
    · intro p vs w' K hJ hp1 hp2 hS hR hK
      simp only [DepJ, List.getD_cons_zero, List.getD_cons_succ] at hJ
      obtain ⟨j5, j6, -⟩ := hJ
      have j5 := Eq1.out j5
      have j6 := Eq1.out j6
      simp only [j5, j6] at hK ⊢
      rw [if_pos (by rfl)]
      have C := Hp.facts hS
      simp only [Facts, factsL, and_true, true_and, List.set_cons_zero, List.set_cons_succ, List.setIfInBounds_toArray] at C
      have hsz := hR.1
      go_step
      refine (pp3 _).mono ?_
      rintro e' w'' ⟨rfl, hb⟩
      exact hK.out _ _ hb Eq1.mk Fresh.no
    · intro p vs w' K hJ hp1 hp2 hS hR hK
      simp only [DepJ, List.getD_cons_zero, List.getD_cons_succ] at hJ
      obtain ⟨j3, j7, -⟩ := hJ
      have j3 := Eq1.out j3
      have j7 := Eq1.out j7
      simp only [j3, j7] at hK ⊢
      rw [if_pos (by rfl)]
      go_step
      exact hK.out _ _ (Below.refl _ _) Eq1.mk Fresh.no
  case hst_4 => refine ⟨fun _ _ _ _ h => h, fun _ _ _ _ h => h, fun _ _ _ _ h => h, fun _ _ _ _ h => h, fun _ _ _ _ h => h, fun _ _ _ _ h => h, fun _ _ _ _ h => h, fun _ _ _ _ h => h, fun _ _ _ _ h => h, trivial⟩
  intro vs w' hJ hD hS hR
  simp only [AllJ, Nat.reduceAdd] at hJ
  obtain ⟨v0, v1, v2, v3, v4, v5, v6, v7, v8, -⟩ := hJ
  clear C
  replace v0 := Eq1.out v0
  replace v1 := Eq1.out v1
  replace v2 := Eq1.out v2
  replace v3 := Eq1.out v3
  replace v4 := Eq1.out v4
  replace v5 := Eq1.out v5
  replace v6 := Eq1.out v6
  replace v7 := Eq1.out v7
  replace v8 := Eq1.out v8
  simp only [v0, v1, v2, v3, v4, v5, v6, v7, v8, List.drop_succ_cons, List.drop_zero]
  have H' : Hp _ _ _ := hS
  clear hD hR hS v0 v1 v2 v3 v4 v5 v6 v7 v8
  clear vs H
  have H := H'; clear H'; have C := Hp.facts H; simp only [Facts, factsL, and_true, true_and, List.set_cons_zero, List.set_cons_succ, List.setIfInBounds_toArray] at C
  (repeat' ((fail_if_success (with_reducible show bodyPost _ _ _ _ _ _)); first | ((with_reducible refine Hp.abs_alloc H ?_); intro b' w' H' hb'; (try simp only [hb']); clear hb'; ((try simp only [List.set_cons_zero, List.set_cons_succ, List.setIfInBounds_toArray] at H'); clear C H; have H := H'; clear H'; have C := Hp.facts H; simp only [Facts, factsL, and_true, true_and, List.set_cons_zero, List.set_cons_succ, List.setIfInBounds_toArray] at C)) | ((with_reducible show wpList _ _ _ _ _ (World.setCell _ _ _)); (with_reducible apply Hp.abs_gen H); (first | ((repeat (with_reducible apply Hp.set' 0)); (with_reducible exact H); (repeat rfl); intro w' H') | ((repeat (with_reducible apply Hp.set' 1)); (with_reducible exact H); (repeat rfl); intro w' H') | ((repeat (with_reducible apply Hp.set' 2)); (with_reducible exact H); (repeat rfl); intro w' H') | ((repeat (with_reducible apply Hp.set' 3)); (with_reducible exact H); (repeat rfl); intro w' H') | ((repeat (with_reducible apply Hp.set' 4)); (with_reducible exact H); (repeat rfl); intro w' H') | ((repeat (with_reducible apply Hp.set' 5)); (with_reducible exact H); (repeat rfl); intro w' H') | ((repeat (with_reducible apply Hp.set' 6)); (with_reducible exact H); (repeat rfl); intro w' H') | ((repeat (with_reducible apply Hp.set' 7)); (with_reducible exact H); (repeat rfl); intro w' H')); ((try simp only [List.set_cons_zero, List.set_cons_succ, List.setIfInBounds_toArray] at H'); clear C H; have H := H'; clear H'; have C := Hp.facts H; simp only [Facts, factsL, and_true, true_and, List.set_cons_zero, List.set_cons_succ, List.setIfInBounds_toArray] at C)) | go_values | go_skip | go_guarded | go_step | go_upon | go_back | (simp only [Int.not_lt, Int.not_le] at *; go_simp) | (go_values <;> (try go_simp)) | (go_ite <;> go_prune <;> (try go_simp)) | (split <;> (first | (rename_i hx; exact (hx _ rfl).elim) | go_prune))))
  try simp (disch := omega) only [decide_eq_true, decide_eq_false]
  obtain ⟨wR6, rfl⟩ := Hp.nameW H
  apply region_n (frm wR6.heap.size (fun _ => Hp _ _)) (frm_ok ?hfs_5) frm_sz [] [.light 0 0, .light 0 0, .light 0 0, .light 0 0, .light 0 0, .light 0 0, .light 0 0, .light 0 0, .light 0 0, .light 0 0] [false, false, false, false, false, false, false, false, false, false] 10 110 [10, 10, 10, 10, 10, 10, 10, 10, 10, 10] [some 39, some 40, some 41, some 42, some 43, some 44, some 45, some 46, some 47, some 48] [[], [0], [], [1, 2], [], [4], [], [5, 6], [3, 7], [8]] [Eq1 _, Eq1 _, Eq1 _, Eq1 _, Eq1 _, Eq1 _, Eq1 _, Eq1 _, Eq1 _, Eq1 _] ?hq1_5 ?hq2_5 ?hq3_5 ?hq4_5 ?hq5_5 ?hq6_5 _ ?hA_5 ?hst_5 ?h0_5 ?hsteps_5 ?hend_5
  case hq1_5 => kernel_rfl
  case hq2_5 => kernel_rfl
  case hq3_5 => kernel_rfl
  case hq5_5 => kernel_rfl
  case hq4_5 => rfl
  case hq6_5 => rfl
  case hA_5 => intro vs; simp only [fillD, Nat.reduceAdd, Act.put, List.setIfInBounds_toArray, List.set_cons_zero, List.set_cons_succ]; rfl
  case h0_5 => exact H.drew
  case hfs_5 => exact fun _ _ _ hb h => Hp.step h hb
  case hsteps_5 =>
    refine ⟨?_, ?_, ?_, ?_, ?_, ?_, ?_, ?_, ?_, ?_, trivial⟩
    · intro p vs w' K hJ hp1 hp2 hS hR hK
      rw [if_pos (by rfl)]
      go_step
      exact hK.out _ _ (Below.refl _ _) Eq1.mk Fresh.no
    · intro p vs w' K hJ hp1 hp2 hS hR hK
      simp only [DepJ, List.getD_cons_zero, List.getD_cons_succ] at hJ
      obtain ⟨j0, -⟩ := hJ
      have j0 := Eq1.out j0
      simp only [j0] at hK ⊢
      rw [if_pos (by rfl)]
      have C := Hp.facts hS
      simp only [Facts, factsL, and_true, true_and, List.set_cons_zero, List.set_cons_succ, List.setIfInBounds_toArray] at C
      have hsz := hR.1
      go_step
      exact hK.out _ _ (Below.refl _ _) Eq1.mk Fresh.no
    · intro p vs w' K hJ hp1 hp2 hS hR hK
      rw [if_pos (by rfl)]
      go_step
      exact hK.out _ _ (Below.refl _ _) Eq1.mk Fresh.no
    · intro p vs w' K hJ hp1 hp2 hS hR hK
      simp only [DepJ, List.getD_cons_zero, List.getD_cons_succ] at hJ
      obtain ⟨j1, j2, -⟩ := hJ
      have j1 := Eq1.out j1
      have j2 := Eq1.out j2
      simp only [j1, j2] at hK ⊢
      rw [if_pos (by rfl)]
      have C := Hp.facts hS
      simp only [Facts, factsL, and_true, true_and, List.set_cons_zero, List.set_cons_succ, List.setIfInBounds_toArray] at C
      have hsz := hR.1
      go_step
      refine (hm2 _).mono ?_
      rintro e' w'' ⟨rfl, hb⟩
      exact hK.out _ _ hb Eq1.mk Fresh.no
    · intro p vs w' K hJ hp1 hp2 hS hR hK
      rw [if_pos (by rfl)]
      go_step
      exact hK.out _ _ (Below.refl _ _) Eq1.mk Fresh.no
    · intro p vs w' K hJ hp1 hp2 hS hR hK
      simp only [DepJ, List.getD_cons_zero, List.getD_cons_succ] at hJ
      obtain ⟨j4, -⟩ := hJ
      have j4 := Eq1.out j4
      simp only [j4] at hK ⊢
      rw [if_pos (by rfl)]
      have C := Hp.facts hS
      simp only [Facts, factsL, and_true, true_and, List.set_cons_zero, List.set_cons_succ, List.setIfInBounds_toArray] at C
      have hsz := hR.1
      go_step
      exact hK.out _ _ (Below.refl _ _) Eq1.mk Fresh.no
    · intro p vs w' K hJ hp1 hp2 hS hR hK
      rw [if_pos (by rfl)]
      go_step
      exact hK.out _ _ (Below.refl _ _) Eq1.mk Fresh.no
    · intro p vs w' K hJ hp1 hp2 hS hR hK
      simp only [DepJ, List.getD_cons_zero, List.getD_cons_succ] at hJ
      obtain ⟨j5, j6, -⟩ := hJ
      have j5 := Eq1.out j5
      have j6 := Eq1.out j6
      simp only [j5, j6] at hK ⊢
      rw [if_pos (by rfl)]
      have C := Hp.facts hS
      simp only [Facts, factsL, and_true, true_and, List.set_cons_zero, List.set_cons_succ, List.setIfInBounds_toArray] at C
      have hsz := hR.1
      go_step
      refine (pp4 _).mono ?_
      rintro e' w'' ⟨rfl, hb⟩
      exact hK.out _ _ hb Eq1.mk Fresh.no
    · intro p vs w' K hJ hp1 hp2 hS hR hK
      simp only [DepJ, List.getD_cons_zero, List.getD_cons_succ] at hJ
      obtain ⟨j3, j7, -⟩ := hJ
      have j3 := Eq1.out j3
      have j7 := Eq1.out j7
      simp only [j3, j7] at hK ⊢
      rw [if_pos (by rfl)]
      go_step
      exact hK.out _ _ (Below.refl _ _) Eq1.mk Fresh.no
    · intro p vs w' K hJ hp1 hp2 hS hR hK
      simp only [DepJ, List.getD_cons_zero, List.getD_cons_succ] at hJ
      obtain ⟨j8, -⟩ := hJ
      have j8 := Eq1.out j8
      simp only [j8] at hK ⊢
      rw [if_pos (by rfl)]
      have C := Hp.facts hS
      simp only [Facts, factsL, and_true, true_and, List.set_cons_zero, List.set_cons_succ, List.setIfInBounds_toArray] at C
      have hsz := hR.1
      go_step
      refine (hrr _).mono ?_
      rintro e' w'' ⟨rfl, hb⟩
      exact hK.out _ _ hb Eq1.mk Fresh.no
  case hst_5 => refine ⟨fun _ _ _ _ h => h, fun _ _ _ _ h => h, fun _ _ _ _ h => h, fun _ _ _ _ h => h, fun _ _ _ _ h => h, fun _ _ _ _ h => h, fun _ _ _ _ h => h, fun _ _ _ _ h => h, fun _ _ _ _ h => h, fun _ _ _ _ h => h, trivial⟩
  intro vs w' hJ hD hS hR
  simp only [AllJ, Nat.reduceAdd] at hJ
  obtain ⟨v0, v1, v2, v3, v4, v5, v6, v7, v8, v9, -⟩ := hJ
  clear C
  replace v0 := Eq1.out v0
  replace v1 := Eq1.out v1
  replace v2 := Eq1.out v2
  replace v3 := Eq1.out v3
  replace v4 := Eq1.out v4
  replace v5 := Eq1.out v5
  replace v6 := Eq1.out v6
  replace v7 := Eq1.out v7
  replace v8 := Eq1.out v8
  replace v9 := Eq1.out v9
  simp only [v0, v1, v2, v3, v4, v5, v6, v7, v8, v9, List.drop_succ_cons, List.drop_zero]
  have H' : Hp _ _ _ := hS
  clear hD hR hS v0 v1 v2 v3 v4 v5 v6 v7 v8 v9
  clear vs H
  have H := H'; clear H'; have C := Hp.facts H; simp only [Facts, factsL, and_true, true_and, List.set_cons_zero, List.set_cons_succ, List.setIfInBounds_toArray] at C
  (repeat' ((fail_if_success (with_reducible show bodyPost _ _ _ _ _ _)); first | ((with_reducible refine Hp.abs_alloc H ?_); intro b' w' H' hb'; (try simp only [hb']); clear hb'; ((try simp only [List.set_cons_zero, List.set_cons_succ, List.setIfInBounds_toArray] at H'); clear C H; have H := H'; clear H'; have C := Hp.facts H; simp only [Facts, factsL, and_true, true_and, List.set_cons_zero, List.set_cons_succ, List.setIfInBounds_toArray] at C)) | ((with_reducible show wpList _ _ _ _ _ (World.setCell _ _ _)); (with_reducible apply Hp.abs_gen H); (first | ((repeat (with_reducible apply Hp.set' 0)); (with_reducible exact H); (repeat rfl); intro w' H') | ((repeat (with_reducible apply Hp.set' 1)); (with_reducible exact H); (repeat rfl); intro w' H') | ((repeat (with_reducible apply Hp.set' 2)); (with_reducible exact H); (repeat rfl); intro w' H') | ((repeat (with_reducible apply Hp.set' 3)); (with_reducible exact H); (repeat rfl); intro w' H') | ((repeat (with_reducible apply Hp.set' 4)); (with_reducible exact H); (repeat rfl); intro w' H') | ((repeat (with_reducible apply Hp.set' 5)); (with_reducible exact H); (repeat rfl); intro w' H') | ((repeat (with_reducible apply Hp.set' 6)); (with_reducible exact H); (repeat rfl); intro w' H') | ((repeat (with_reducible apply Hp.set' 7)); (with_reducible exact H); (repeat rfl); intro w' H')); ((try simp only [List.set_cons_zero, List.set_cons_succ, List.setIfInBounds_toArray] at H'); clear C H; have H := H'; clear H'; have C := Hp.facts H; simp only [Facts, factsL, and_true, true_and, List.set_cons_zero, List.set_cons_succ, List.setIfInBounds_toArray] at C)) | (go_at_call 35; refine (hRE _).mono ?_; rintro e' w' ⟨rfl, hb'⟩; (have H' := Hp.step H hb'; clear hb'; ((try simp only [List.set_cons_zero, List.set_cons_succ, List.setIfInBounds_toArray] at H'); clear C H; have H := H'; clear H'; have C := Hp.facts H; simp only [Facts, factsL, and_true, true_and, List.set_cons_zero, List.set_cons_succ, List.setIfInBounds_toArray] at C))) | go_values | go_skip | go_guarded | go_step | go_upon | go_back | (simp only [Int.not_lt, Int.not_le] at *; go_simp) | (go_values <;> (try go_simp)) | (go_ite <;> go_prune <;> (try go_simp)) | (split <;> (first | (rename_i hx; exact (hx _ rfl).elim) | go_prune))))
  refine (hR1 _).mono ?_
  (rintro e' w' ⟨rfl, hb'⟩; (have H' := Hp.step H hb'; clear hb'; ((try simp only [List.set_cons_zero, List.set_cons_succ, List.setIfInBounds_toArray] at H'); clear C H; have H := H'; clear H'; have C := Hp.facts H; simp only [Facts, factsL, and_true, true_and, List.set_cons_zero, List.set_cons_succ, List.setIfInBounds_toArray] at C)))
  cases i
  · (repeat' ((fail_if_success (with_reducible show bodyPost _ _ _ _ _ _)); first | ((with_reducible refine Hp.abs_alloc H ?_); intro b' w' H' hb'; (try simp only [hb']); clear hb'; ((try simp only [List.set_cons_zero, List.set_cons_succ, List.setIfInBounds_toArray] at H'); clear C H; have H := H'; clear H'; have C := Hp.facts H; simp only [Facts, factsL, and_true, true_and, List.set_cons_zero, List.set_cons_succ, List.setIfInBounds_toArray] at C)) | ((with_reducible show wpList _ _ _ _ _ (World.setCell _ _ _)); (with_reducible apply Hp.abs_gen H); (first | ((repeat (with_reducible apply Hp.set' 0)); (with_reducible exact H); (repeat rfl); intro w' H') | ((repeat (with_reducible apply Hp.set' 1)); (with_reducible exact H); (repeat rfl); intro w' H') | ((repeat (with_reducible apply Hp.set' 2)); (with_reducible exact H); (repeat rfl); intro w' H') | ((repeat (with_reducible apply Hp.set' 3)); (with_reducible exact H); (repeat rfl); intro w' H') | ((repeat (with_reducible apply Hp.set' 4)); (with_reducible exact H); (repeat rfl); intro w' H') | ((repeat (with_reducible apply Hp.set' 5)); (with_reducible exact H); (repeat rfl); intro w' H') | ((repeat (with_reducible apply Hp.set' 6)); (with_reducible exact H); (repeat rfl); intro w' H') | ((repeat (with_reducible apply Hp.set' 7)); (with_reducible exact H); (repeat rfl); intro w' H')); ((try simp only [List.set_cons_zero, List.set_cons_succ, List.setIfInBounds_toArray] at H'); clear C H; have H := H'; clear H'; have C := Hp.facts H; simp only [Facts, factsL, and_true, true_and, List.set_cons_zero, List.set_cons_succ, List.setIfInBounds_toArray] at C)) | go_values | go_skip | go_guarded | go_step | go_upon | go_back | (simp only [Int.not_lt, Int.not_le] at *; go_simp) | (go_values <;> (try go_simp)) | (go_ite <;> go_prune <;> (try go_simp)) | (split <;> (first | (rename_i hx; exact (hx _ rfl).elim) | go_prune))))
    try simp (disch := omega) only [decide_eq_true, decide_eq_false]
    obtain ⟨wR8, rfl⟩ := Hp.nameW H
    apply region_n (frm wR8.heap.size (fun _ => Hp _ _)) (frm_ok ?hfs_6) frm_sz [] [.light 0 0, .light 0 0, .light 0 0, .light 0 0, .light 0 0, .light 0 0, .light 0 0, .light 0 0, .light 0 0, .light 0 0, .light 0 0, .light 0 0, .light 0 0, .light 0 0, .light 0 0, .light 0 0, .light 0 0, .light 0 0, .light 0 0, .light 0 0, .light 0 0, .light 0 0, .light 0 0, .light 0 0, .light 0 0, .light 0 0, .light 0 0, .light 0 0, .light 0 0, .light 0 0, .light 0 0, .light 0 0, .light 0 0, .light 0 0, .light 0 0, .light 0 0, .light 0 0, .light 0 0, .light 0 0, .light 0 0, .light 0 0, .light 0 0, .light 0 0, .light 0 0, .light 0 0, .light 0 0, .light 0 0, .light 0 0] [false, false, false, false, false, false, false, false, false, false, false, false, false, false, false, false, false, false, false, false, false, false, false, false, false, false, false, false, false, false, false, false, false, false, false, false, false, false, false, false, false, false, false, false, false, false, false, false] 48 110 [] [some 63, some 64, some 65, some 66, some 67, some 68, some 69, some 70, some 71, some 72, some 73, some 74, some 75, some 76, some 77, some 78, some 79, some 80, some 81, some 82, some 83, some 84, some 85, some 86, some 87, some 88, some 89, some 90, some 91, some 92, some 93, some 94, some 95, some 96, some 97, some 98, some 99, some 100, some 101, some 102, some 103, some 104, some 105, some 106, some 107, some 108, some 109, some 8] [[], [0], [1], [1, 2], [1], [1, 4], [1, 3, 5], [1, 6], [7], [8], [8], [8, 9, 10], [8], [8], [8, 12, 13], [8, 11, 14], [8, 15], [16], [17], [17, 18], [17], [17, 19, 20], [17, 21], [22], [23], [23], [23, 24, 25], [23, 26], [23], [23, 27, 28], [23, 29], [30], [31], [31], [31], [31, 32, 33, 34], [31, 35], [31], [31, 36, 37], [31, 38], [39], [40], [40], [40, 41, 42], [40], [40, 43, 44], [40, 45], [46]] [Eq1 (.bool true), Eq1 _, Eq1 _, Eq1 _, Eq1 _, Eq1 _, Eq1 (.bool true), Eq1 _, Eq1 _, Eq1 _, Eq1 _, Eq1 _, Eq1 _, Eq1 _, Eq1 _, Eq1 (.bool true), Eq1 _, Eq1 _, Eq1 _, Eq1 _, Eq1 _, Eq1 (.bool true), Eq1 _, Eq1 _, Eq1 _, Eq1 _, Eq1 _, Eq1 _, Eq1 _, Eq1 (.bool true), Eq1 _, Eq1 _, Eq1 _, Eq1 _, Eq1 _, Eq1 _, Eq1 _, Eq1 _, Eq1 (.bool true), Eq1 _, Eq1 _, Eq1 _, Eq1 _, Eq1 _, Eq1 _, Eq1 (.bool true), Eq1 _, Eq1 _] ?hq1_6 ?hq2_6 ?hq3_6 ?hq4_6 ?hq5_6 ?hq6_6 _ ?hA_6 ?hst_6 ?h0_6 ?hsteps_6 ?hend_6
    case hq1_6 => kernel_rfl
    case hq2_6 => kernel_rfl
    case hq3_6 => kernel_rfl
    case hq5_6 => kernel_rfl
    case hq4_6 => rfl
    case hq6_6 => rfl
    case hA_6 => intro vs; simp only [fillD, Nat.reduceAdd, Act.put, List.setIfInBounds_toArray, List.set_cons_zero, List.set_cons_succ]; rfl
    case h0_6 => exact H.drew
    case hfs_6 => exact fun _ _ _ hb h => Hp.step h hb
    case hsteps_6 =>
      refine ⟨?_, ?_, ?_, ?_, ?_, ?_, ?_, ?_, ?_, ?_, ?_, ?_, ?_, ?_, ?_, ?_, ?_, ?_, ?_, ?_, ?_, ?_, ?_, ?_, ?_, ?_, ?_, ?_, ?_, ?_, ?_, ?_, ?_, ?_, ?_, ?_, ?_, ?_, ?_, ?_, ?_, ?_, ?_, ?_, ?_, ?_, ?_, ?_, trivial⟩
      · intro p vs w' K hJ hp1 hp2 hS hR hK
        rw [if_pos (by rfl)]
        have C := Hp.facts hS
        simp only [Facts, factsL, and_true, true_and, List.set_cons_zero, List.set_cons_succ, List.setIfInBounds_toArray] at C
        have hsz := hR.1
        go_step
        refine (known11_any _).mono ?_
        rintro e' w'' ⟨rfl, hb⟩
        exact hK.out _ _ hb (Eq1.of (rfl)) Fresh.no
      · intro p vs w' K hJ hp1 hp2 hS hR hK
        simp only [DepJ, List.getD_cons_zero, List.getD_cons_succ] at hJ
        obtain ⟨j0, -⟩ := hJ
        have j0 := Eq1.out j0
        simp only [j0] at hK ⊢
        rw [if_pos (by rfl)]
        go_step
        exact hK.out _ _ (Below.refl _ _) Eq1.mk Fresh.no
      · intro p vs w' K hJ hp1 hp2 hS hR hK
        simp only [DepJ, List.getD_cons_zero, List.getD_cons_succ] at hJ
        obtain ⟨j1, -⟩ := hJ
        have j1 := Eq1.out j1
        simp only [j1] at hK ⊢
        rw [if_pos (by rfl)]
        have C := Hp.facts hS
        simp only [Facts, factsL, and_true, true_and, List.set_cons_zero, List.set_cons_succ, List.setIfInBounds_toArray] at C
        have hsz := hR.1
        go_step
        exact hK.out _ _ (Below.refl _ _) Eq1.mk Fresh.no
      · intro p vs w' K hJ hp1 hp2 hS hR hK
        simp only [DepJ, List.getD_cons_zero, List.getD_cons_succ] at hJ
        obtain ⟨j1, j2, -⟩ := hJ
        have j1 := Eq1.out j1
        have j2 := Eq1.out j2
        simp only [j1, j2] at hK ⊢
        rw [if_pos (by rfl)]
        have C := Hp.facts hS
        simp only [Facts, factsL, and_true, true_and, List.set_cons_zero, List.set_cons_succ, List.setIfInBounds_toArray] at C
        have hsz := hR.1
        go_step
        refine (hE _).mono ?_
        rintro e' w'' ⟨rfl, hb⟩
        exact hK.out _ _ hb Eq1.mk Fresh.no
      · intro p vs w' K hJ hp1 hp2 hS hR hK
        simp only [DepJ, List.getD_cons_zero, List.getD_cons_succ] at hJ
        obtain ⟨j1, -⟩ := hJ
        have j1 := Eq1.out j1
        simp only [j1] at hK ⊢
        rw [if_pos (by rfl)]
        have C := Hp.facts hS
        simp only [Facts, factsL, and_true, true_and, List.set_cons_zero, List.set_cons_succ, List.setIfInBounds_toArray] at C
        have hsz := hR.1
        go_step
        exact hK.out _ _ (Below.refl _ _) Eq1.mk Fresh.no
      · intro p vs w' K hJ hp1 hp2 hS hR hK
        simp only [DepJ, List.getD_cons_zero, List.getD_cons_succ] at hJ
        obtain ⟨j1, j4, -⟩ := hJ
        have j1 := Eq1.out j1
        have j4 := Eq1.out j4
        simp only [j1, j4] at hK ⊢
        rw [if_pos (by rfl)]
        have C := Hp.facts hS
        simp only [Facts, factsL, and_true, true_and, List.set_cons_zero, List.set_cons_succ, List.setIfInBounds_toArray] at C
        have hsz := hR.1
        go_step
        refine (hRE _).mono ?_
        rintro e' w'' ⟨rfl, hb⟩
        exact hK.out _ _ hb Eq1.mk Fresh.no
      · intro p vs w' K hJ hp1 hp2 hS hR hK
        simp only [DepJ, List.getD_cons_zero, List.getD_cons_succ] at hJ
        obtain ⟨j1, j3, j5, -⟩ := hJ
        have j1 := Eq1.out j1
        have j3 := Eq1.out j3
        have j5 := Eq1.out j5
        simp only [j1, j3, j5] at hK ⊢
        rw [if_pos (by rfl)]
        go_step
        exact hK.out _ _ (Below.refl _ _) (Eq1.of (by first | rfl | (simp; done) | (simp; omega))) Fresh.no
      · intro p vs w' K hJ hp1 hp2 hS hR hK
        simp only [DepJ, List.getD_cons_zero, List.getD_cons_succ] at hJ
        obtain ⟨j1, j6, -⟩ := hJ
        have j1 := Eq1.out j1
        have j6 := Eq1.out j6
        simp only [j1, j6] at hK ⊢
        rw [if_pos (by rfl)]
        go_step
        exact hK.out _ _ (Below.refl _ _) Eq1.mk Fresh.no
      · intro p vs w' K hJ hp1 hp2 hS hR hK
        simp only [DepJ, List.getD_cons_zero, List.getD_cons_succ] at hJ
        obtain ⟨j7, -⟩ := hJ
        have j7 := Eq1.out j7
        simp only [j7] at hK ⊢
        rw [if_pos (by rfl)]
        go_step
        exact hK.out _ _ (Below.refl _ _) Eq1.mk Fresh.no
      · intro p vs w' K hJ hp1 hp2 hS hR hK
        simp only [DepJ, List.getD_cons_zero, List.getD_cons_succ] at hJ
        obtain ⟨j8, -⟩ := hJ
        have j8 := Eq1.out j8
        simp only [j8] at hK ⊢
        rw [if_pos (by rfl)]
        have C := Hp.facts hS
        simp only [Facts, factsL, and_true, true_and, List.set_cons_zero, List.set_cons_succ, List.setIfInBounds_toArray] at C
        have hsz := hR.1
        go_step
        exact hK.out _ _ (Below.refl _ _) Eq1.mk Fresh.no
      · intro p vs w' K hJ hp1 hp2 hS hR hK
        simp only [DepJ, List.getD_cons_zero, List.getD_cons_succ] at hJ
        obtain ⟨j8, -⟩ := hJ
        have j8 := Eq1.out j8
        simp only [j8] at hK ⊢
        rw [if_pos (by rfl)]
        go_step
        exact hK.out _ _ (Below.refl _ _) Eq1.mk Fresh.no
      · intro p vs w' K hJ hp1 hp2 hS hR hK
        simp only [DepJ, List.getD_cons_zero, List.getD_cons_succ] at hJ
        obtain ⟨j8, j9, j10, -⟩ := hJ
        have j8 := Eq1.out j8
        have j9 := Eq1.out j9
        have j10 := Eq1.out j10
        simp only [j8, j9, j10] at hK ⊢
        rw [if_pos (by rfl)]
        have C := Hp.facts hS
        simp only [Facts, factsL, and_true, true_and, List.set_cons_zero, List.set_cons_succ, List.setIfInBounds_toArray] at C
        have hsz := hR.1
        go_step
        refine (hI _).mono ?_
        rintro e' w'' ⟨rfl, hb⟩
        exact hK.out _ _ hb Eq1.mk Fresh.no
      · intro p vs w' K hJ hp1 hp2 hS hR hK
        simp only [DepJ, List.getD_cons_zero, List.getD_cons_succ] at hJ
        obtain ⟨j8, -⟩ := hJ
        have j8 := Eq1.out j8
        simp only [j8] at hK ⊢
        rw [if_pos (by rfl)]
        have C := Hp.facts hS
        simp only [Facts, factsL, and_true, true_and, List.set_cons_zero, List.set_cons_succ, List.setIfInBounds_toArray] at C
        have hsz := hR.1
        go_step
        exact hK.out _ _ (Below.refl _ _) Eq1.mk Fresh.no
      · intro p vs w' K hJ hp1 hp2 hS hR hK
        simp only [DepJ, List.getD_cons_zero, List.getD_cons_succ] at hJ
        obtain ⟨j8, -⟩ := hJ
        have j8 := Eq1.out j8
        simp only [j8] at hK ⊢
        rw [if_pos (by rfl)]
        go_step
        exact hK.out _ _ (Below.refl _ _) Eq1.mk Fresh.no
      · intro p vs w' K hJ hp1 hp2 hS hR hK
        simp only [DepJ, List.getD_cons_zero, List.getD_cons_succ] at hJ
        obtain ⟨j8, j12, j13, -⟩ := hJ
        have j8 := Eq1.out j8
        have j12 := Eq1.out j12
        have j13 := Eq1.out j13
        simp only [j8, j12, j13] at hK ⊢
        rw [if_pos (by rfl)]
        have C := Hp.facts hS
        simp only [Facts, factsL, and_true, true_and, List.set_cons_zero, List.set_cons_succ, List.setIfInBounds_toArray] at C
        have hsz := hR.1
        go_step
        refine (hRI _).mono ?_
        rintro e' w'' ⟨rfl, hb⟩
        exact hK.out _ _ hb Eq1.mk Fresh.no
      · intro p vs w' K hJ hp1 hp2 hS hR hK
        simp only [DepJ, List.getD_cons_zero, List.getD_cons_succ] at hJ
        obtain ⟨j8, j11, j14, -⟩ := hJ
        have j8 := Eq1.out j8
        have j11 := Eq1.out j11
        have j14 := Eq1.out j14
        simp only [j8, j11, j14] at hK ⊢
        rw [if_pos (by rfl)]
        go_step
        exact hK.out _ _ (Below.refl _ _) (Eq1.of (by first | rfl | (simp; done) | (simp; omega))) Fresh.no
      · intro p vs w' K hJ hp1 hp2 hS hR hK
        simp only [DepJ, List.getD_cons_zero, List.getD_cons_succ] at hJ
        obtain ⟨j8, j15, -⟩ := hJ
        have j8 := Eq1.out j8
        have j15 := Eq1.out j15
        simp only [j8, j15] at hK ⊢
        rw [if_pos (by rfl)]
        go_step
        exact hK.out _ _ (Below.refl _ _) Eq1.mk Fresh.no
      · intro p vs w' K hJ hp1 hp2 hS hR hK
        simp only [DepJ, List.getD_cons_zero, List.getD_cons_succ] at hJ
        obtain ⟨j16, -⟩ := hJ
        have j16 := Eq1.out j16
        simp only [j16] at hK ⊢
        rw [if_pos (by rfl)]
        go_step
        exact hK.out _ _ (Below.refl _ _) Eq1.mk Fresh.no
      · intro p vs w' K hJ hp1 hp2 hS hR hK
        simp only [DepJ, List.getD_cons_zero, List.getD_cons_succ] at hJ
        obtain ⟨j17, -⟩ := hJ
        have j17 := Eq1.out j17
        simp only [j17] at hK ⊢
        rw [if_pos (by rfl)]
        have C := Hp.facts hS
        simp only [Facts, factsL, and_true, true_and, List.set_cons_zero, List.set_cons_succ, List.setIfInBounds_toArray] at C
        have hsz := hR.1
        go_step
        exact hK.out _ _ (Below.refl _ _) Eq1.mk Fresh.no
      · intro p vs w' K hJ hp1 hp2 hS hR hK
        simp only [DepJ, List.getD_cons_zero, List.getD_cons_succ] at hJ
        obtain ⟨j17, j18, -⟩ := hJ
        have j17 := Eq1.out j17
        have j18 := Eq1.out j18
        simp only [j17, j18] at hK ⊢
        rw [if_pos (by rfl)]
        have C := Hp.facts hS
        simp only [Facts, factsL, and_true, true_and, List.set_cons_zero, List.set_cons_succ, List.setIfInBounds_toArray] at C
        have hsz := hR.1
        go_step
        refine (hL _).mono ?_
        rintro e' w'' ⟨rfl, hb⟩
        exact hK.out _ _ hb Eq1.mk Fresh.no
      · intro p vs w' K hJ hp1 hp2 hS hR hK
        simp only [DepJ, List.getD_cons_zero, List.getD_cons_succ] at hJ
        obtain ⟨j17, -⟩ := hJ
        have j17 := Eq1.out j17
        simp only [j17] at hK ⊢
        rw [if_pos (by rfl)]
        go_step
        exact hK.out _ _ (Below.refl _ _) Eq1.mk Fresh.no
      · intro p vs w' K hJ hp1 hp2 hS hR hK
        simp only [DepJ, List.getD_cons_zero, List.getD_cons_succ] at hJ
        obtain ⟨j17, j19, j20, -⟩ := hJ
        have j17 := Eq1.out j17
        have j19 := Eq1.out j19
        have j20 := Eq1.out j20
        simp only [j17, j19, j20] at hK ⊢
        rw [if_pos (by rfl)]
        go_step
        exact hK.out _ _ (Below.refl _ _) (Eq1.of (by first | rfl | (simp; done) | (simp; omega))) Fresh.no
      · intro p vs w' K hJ hp1 hp2 hS hR hK
        simp only [DepJ, List.getD_cons_zero, List.getD_cons_succ] at hJ
        obtain ⟨j17, j21, -⟩ := hJ
        have j17 := Eq1.out j17
        have j21 := Eq1.out j21
        simp only [j17, j21] at hK ⊢
        rw [if_pos (by rfl)]
        go_step
        exact hK.out _ _ (Below.refl _ _) Eq1.mk Fresh.no
      · intro p vs w' K hJ hp1 hp2 hS hR hK
        simp only [DepJ, List.getD_cons_zero, List.getD_cons_succ] at hJ
        obtain ⟨j22, -⟩ := hJ
        have j22 := Eq1.out j22
        simp only [j22] at hK ⊢
        rw [if_pos (by rfl)]
        go_step
        exact hK.out _ _ (Below.refl _ _) Eq1.mk Fresh.no
      · intro p vs w' K hJ hp1 hp2 hS hR hK
        simp only [DepJ, List.getD_cons_zero, List.getD_cons_succ] at hJ
        obtain ⟨j23, -⟩ := hJ
        have j23 := Eq1.out j23
        simp only [j23] at hK ⊢
        rw [if_pos (by rfl)]
        have C := Hp.facts hS
        simp only [Facts, factsL, and_true, true_and, List.set_cons_zero, List.set_cons_succ, List.setIfInBounds_toArray] at C
        have hsz := hR.1
        go_step
        exact hK.out _ _ (Below.refl _ _) Eq1.mk Fresh.no
      · intro p vs w' K hJ hp1 hp2 hS hR hK
        simp only [DepJ, List.getD_cons_zero, List.getD_cons_succ] at hJ
        obtain ⟨j23, -⟩ := hJ
        have j23 := Eq1.out j23
        simp only [j23] at hK ⊢
        rw [if_pos (by rfl)]
        go_step
        exact hK.out _ _ (Below.refl _ _) Eq1.mk Fresh.no
      · intro p vs w' K hJ hp1 hp2 hS hR hK
        simp only [DepJ, List.getD_cons_zero, List.getD_cons_succ] at hJ
        obtain ⟨j23, j24, j25, -⟩ := hJ
        have j23 := Eq1.out j23
        have j24 := Eq1.out j24
        have j25 := Eq1.out j25
        simp only [j23, j24, j25] at hK ⊢
        rw [if_pos (by rfl)]
        have C := Hp.facts hS
        simp only [Facts, factsL, and_true, true_and, List.set_cons_zero, List.set_cons_succ, List.setIfInBounds_toArray] at C
        have hsz := hR.1
        go_step
        refine (hM _).mono ?_
        rintro e' w'' ⟨rfl, hb⟩
        exact hK.out _ _ hb Eq1.mk Fresh.no
      · intro p vs w' K hJ hp1 hp2 hS hR hK
        simp only [DepJ, List.getD_cons_zero, List.getD_cons_succ] at hJ
        obtain ⟨j23, j26, -⟩ := hJ
        have j23 := Eq1.out j23
        have j26 := Eq1.out j26
        simp only [j23, j26] at hK ⊢
        rw [if_pos (by rfl)]
        have C := Hp.facts hS
        simp only [Facts, factsL, and_true, true_and, List.set_cons_zero, List.set_cons_succ, List.setIfInBounds_toArray] at C
        have hsz := hR.1
        go_step
        refine (of_any _ _ _).mono ?_
        rintro e' w'' ⟨rfl, hb⟩
        exact hK.out _ _ hb Eq1.mk Fresh.no
      · intro p vs w' K hJ hp1 hp2 hS hR hK
        simp only [DepJ, List.getD_cons_zero, List.getD_cons_succ] at hJ
        obtain ⟨j23, -⟩ := hJ
        have j23 := Eq1.out j23
        simp only [j23] at hK ⊢
        rw [if_pos (by rfl)]
        have C := Hp.facts hS
        simp only [Facts, factsL, and_true, true_and, List.set_cons_zero, List.set_cons_succ, List.setIfInBounds_toArray] at C
        have hsz := hR.1
        go_step
        exact hK.out _ _ (Below.refl _ _) Eq1.mk Fresh.no
      · intro p vs w' K hJ hp1 hp2 hS hR hK
        simp only [DepJ, List.getD_cons_zero, List.getD_cons_succ] at hJ
        obtain ⟨j23, j27, j28, -⟩ := hJ
        have j23 := Eq1.out j23
        have j27 := Eq1.out j27
        have j28 := Eq1.out j28
        simp only [j23, j27, j28] at hK ⊢
        rw [if_pos (by rfl)]
        go_step
        exact hK.out _ _ (Below.refl _ _) (Eq1.of (by first | rfl | (simp; done) | (simp; omega))) Fresh.no
      · intro p vs w' K hJ hp1 hp2 hS hR hK
        simp only [DepJ, List.getD_cons_zero, List.getD_cons_succ] at hJ
        obtain ⟨j23, j29, -⟩ := hJ
        have j23 := Eq1.out j23
        have j29 := Eq1.out j29
        simp only [j23, j29] at hK ⊢
        rw [if_pos (by rfl)]
        go_step
        exact hK.out _ _ (Below.refl _ _) Eq1.mk Fresh.no
      · intro p vs w' K hJ hp1 hp2 hS hR hK
        simp only [DepJ, List.getD_cons_zero, List.getD_cons_succ] at hJ
        obtain ⟨j30, -⟩ := hJ
        have j30 := Eq1.out j30
        simp only [j30] at hK ⊢
        rw [if_pos (by rfl)]
        go_step
        exact hK.out _ _ (Below.refl _ _) Eq1.mk Fresh.no
      · intro p vs w' K hJ hp1 hp2 hS hR hK
        simp only [DepJ, List.getD_cons_zero, List.getD_cons_succ] at hJ
        obtain ⟨j31, -⟩ := hJ
        have j31 := Eq1.out j31
        simp only [j31] at hK ⊢
        rw [if_pos (by rfl)]
        have C := Hp.facts hS
        simp only [Facts, factsL, and_true, true_and, List.set_cons_zero, List.set_cons_succ, List.setIfInBounds_toArray] at C
        have hsz := hR.1
        go_step
        exact hK.out _ _ (Below.refl _ _) Eq1.mk Fresh.no
      · intro p vs w' K hJ hp1 hp2 hS hR hK
        simp only [DepJ, List.getD_cons_zero, List.getD_cons_succ] at hJ
        obtain ⟨j31, -⟩ := hJ
        have j31 := Eq1.out j31
        simp only [j31] at hK ⊢
        rw [if_pos (by rfl)]
        go_step
        exact hK.out _ _ (Below.refl _ _) Eq1.mk Fresh.no
      · intro p vs w' K hJ hp1 hp2 hS hR hK
        simp only [DepJ, List.getD_cons_zero, List.getD_cons_succ] at hJ
        obtain ⟨j31, -⟩ := hJ
        have j31 := Eq1.out j31
        simp only [j31] at hK ⊢
        rw [if_pos (by rfl)]
        go_step
        exact hK.out _ _ (Below.refl _ _) Eq1.mk Fresh.no
      · intro p vs w' K hJ hp1 hp2 hS hR hK
        simp only [DepJ, List.getD_cons_zero, List.getD_cons_succ] at hJ
        obtain ⟨j31, j32, j33, j34, -⟩ := hJ
        have j31 := Eq1.out j31
        have j32 := Eq1.out j32
        have j33 := Eq1.out j33
        have j34 := Eq1.out j34
        simp only [j31, j32, j33, j34] at hK ⊢
        rw [if_pos (by rfl)]
        have C := Hp.facts hS
        simp only [Facts, factsL, and_true, true_and, List.set_cons_zero, List.set_cons_succ, List.setIfInBounds_toArray] at C
        have hsz := hR.1
        go_step
        refine (hG _).mono ?_
        rintro e' w'' ⟨rfl, hb⟩
        exact hK.out _ _ hb Eq1.mk Fresh.no
      · intro p vs w' K hJ hp1 hp2 hS hR hK
        simp only [DepJ, List.getD_cons_zero, List.getD_cons_succ] at hJ
        obtain ⟨j31, j35, -⟩ := hJ
        have j31 := Eq1.out j31
        have j35 := Eq1.out j35
        simp only [j31, j35] at hK ⊢
        rw [if_pos (by rfl)]
        have C := Hp.facts hS
        simp only [Facts, factsL, and_true, true_and, List.set_cons_zero, List.set_cons_succ, List.setIfInBounds_toArray] at C
        have hsz := hR.1
        go_step
        refine (of_any _ _ _).mono ?_
        rintro e' w'' ⟨rfl, hb⟩
        exact hK.out _ _ hb Eq1.mk Fresh.no
      · intro p vs w' K hJ hp1 hp2 hS hR hK
        simp only [DepJ, List.getD_cons_zero, List.getD_cons_succ] at hJ
        obtain ⟨j31, -⟩ := hJ
        have j31 := Eq1.out j31
        simp only [j31] at hK ⊢
        rw [if_pos (by rfl)]
        have C := Hp.facts hS
        simp only [Facts, factsL, and_true, true_and, List.set_cons_zero, List.set_cons_succ, List.setIfInBounds_toArray] at C
        have hsz := hR.1
        go_step
        exact hK.out _ _ (Below.refl _ _) Eq1.mk Fresh.no
      · intro p vs w' K hJ hp1 hp2 hS hR hK
        simp only [DepJ, List.getD_cons_zero, List.getD_cons_succ] at hJ
        obtain ⟨j31, j36, j37, -⟩ := hJ
        have j31 := Eq1.out j31
        have j36 := Eq1.out j36
        have j37 := Eq1.out j37
        simp only [j31, j36, j37] at hK ⊢
        rw [if_pos (by rfl)]
        go_step
        exact hK.out _ _ (Below.refl _ _) (Eq1.of (by first | rfl | (simp; done) | (simp; omega))) Fresh.no
      · intro p vs w' K hJ hp1 hp2 hS hR hK
        simp only [DepJ, List.getD_cons_zero, List.getD_cons_succ] at hJ
        obtain ⟨j31, j38, -⟩ := hJ
        have j31 := Eq1.out j31
        have j38 := Eq1.out j38
        simp only [j31, j38] at hK ⊢
        rw [if_pos (by rfl)]
        go_step
        exact hK.out _ _ (Below.refl _ _) Eq1.mk Fresh.no
      · intro p vs w' K hJ hp1 hp2 hS hR hK
        simp only [DepJ, List.getD_cons_zero, List.getD_cons_succ] at hJ
        obtain ⟨j39, -⟩ := hJ
        have j39 := Eq1.out j39
        simp only [j39] at hK ⊢
        rw [if_pos (by rfl)]
        go_step
        exact hK.out _ _ (Below.refl _ _) Eq1.mk Fresh.no
      · intro p vs w' K hJ hp1 hp2 hS hR hK
        simp only [DepJ, List.getD_cons_zero, List.getD_cons_succ] at hJ
        obtain ⟨j40, -⟩ := hJ
        have j40 := Eq1.out j40
        simp only [j40] at hK ⊢
        rw [if_pos (by rfl)]
        have C := Hp.facts hS
        simp only [Facts, factsL, and_true, true_and, List.set_cons_zero, List.set_cons_succ, List.setIfInBounds_toArray] at C
        have hsz := hR.1
        go_step
        exact hK.out _ _ (Below.refl _ _) Eq1.mk Fresh.no
      · intro p vs w' K hJ hp1 hp2 hS hR hK
        simp only [DepJ, List.getD_cons_zero, List.getD_cons_succ] at hJ
        obtain ⟨j40, -⟩ := hJ
        have j40 := Eq1.out j40
        simp only [j40] at hK ⊢
        rw [if_pos (by rfl)]
        have C := Hp.facts hS
        simp only [Facts, factsL, and_true, true_and, List.set_cons_zero, List.set_cons_succ, List.setIfInBounds_toArray] at C
        have hsz := hR.1
        go_step
        exact hK.out _ _ (Below.refl _ _) Eq1.mk Fresh.no
      · intro p vs w' K hJ hp1 hp2 hS hR hK
        simp only [DepJ, List.getD_cons_zero, List.getD_cons_succ] at hJ
        obtain ⟨j40, j41, j42, -⟩ := hJ
        have j40 := Eq1.out j40
        have j41 := Eq1.out j41
        have j42 := Eq1.out j42
        simp only [j40, j41, j42] at hK ⊢
        rw [if_pos (by rfl)]
        have C := Hp.facts hS
        simp only [Facts, factsL, and_true, true_and, List.set_cons_zero, List.set_cons_succ, List.setIfInBounds_toArray] at C
        have hsz := hR.1
        go_step
        refine (hW _).mono ?_
        rintro e' w'' ⟨rfl, hb⟩
        exact hK.out _ _ hb Eq1.mk Fresh.no
      · intro p vs w' K hJ hp1 hp2 hS hR hK
        simp only [DepJ, List.getD_cons_zero, List.getD_cons_succ] at hJ
        obtain ⟨j40, -⟩ := hJ
        have j40 := Eq1.out j40
        simp only [j40] at hK ⊢
        rw [if_pos (by rfl)]
        go_step
        exact hK.out _ _ (Below.refl _ _) Eq1.mk Fresh.no
      · intro p vs w' K hJ hp1 hp2 hS hR hK
        simp only [DepJ, List.getD_cons_zero, List.getD_cons_succ] at hJ
        obtain ⟨j40, j43, j44, -⟩ := hJ
        have j40 := Eq1.out j40
        have j43 := Eq1.out j43
        have j44 := Eq1.out j44
        simp only [j40, j43, j44] at hK ⊢
        rw [if_pos (by rfl)]
        go_step
        exact hK.out _ _ (Below.refl _ _) (Eq1.of (by first | rfl | (simp; done) | (simp; omega))) Fresh.no
      · intro p vs w' K hJ hp1 hp2 hS hR hK
        simp only [DepJ, List.getD_cons_zero, List.getD_cons_succ] at hJ
        obtain ⟨j40, j45, -⟩ := hJ
        have j40 := Eq1.out j40
        have j45 := Eq1.out j45
        simp only [j40, j45] at hK ⊢
        rw [if_pos (by rfl)]
        go_step
        exact hK.out _ _ (Below.refl _ _) Eq1.mk Fresh.no
      · intro p vs w' K hJ hp1 hp2 hS hR hK
        simp only [DepJ, List.getD_cons_zero, List.getD_cons_succ] at hJ
        obtain ⟨j46, -⟩ := hJ
        have j46 := Eq1.out j46
        simp only [j46] at hK ⊢
        rw [if_pos (by rfl)]
        go_step
        exact hK.out _ _ (Below.refl _ _) Eq1.mk Fresh.no
    case hst_6 => refine ⟨fun _ _ _ _ h => h, fun _ _ _ _ h => h, fun _ _ _ _ h => h, fun _ _ _ _ h => h, fun _ _ _ _ h => h, fun _ _ _ _ h => h, fun _ _ _ _ h => h, fun _ _ _ _ h => h, fun _ _ _ _ h => h, fun _ _ _ _ h => h, fun _ _ _ _ h => h, fun _ _ _ _ h => h, fun _ _ _ _ h => h, fun _ _ _ _ h => h, fun _ _ _ _ h => h, fun _ _ _ _ h => h, fun _ _ _ _ h => h, fun _ _ _ _ h => h, fun _ _ _ _ h => h, fun _ _ _ _ h => h, fun _ _ _ _ h => h, fun _ _ _ _ h => h, fun _ _ _ _ h => h, fun _ _ _ _ h => h, fun _ _ _ _ h => h, fun _ _ _ _ h => h, fun _ _ _ _ h => h, fun _ _ _ _ h => h, fun _ _ _ _ h => h, fun _ _ _ _ h => h, fun _ _ _ _ h => h, fun _ _ _ _ h => h, fun _ _ _ _ h => h, fun _ _ _ _ h => h, fun _ _ _ _ h => h, fun _ _ _ _ h => h, fun _ _ _ _ h => h, fun _ _ _ _ h => h, fun _ _ _ _ h => h, fun _ _ _ _ h => h, fun _ _ _ _ h => h, fun _ _ _ _ h => h, fun _ _ _ _ h => h, fun _ _ _ _ h => h, fun _ _ _ _ h => h, fun _ _ _ _ h => h, fun _ _ _ _ h => h, fun _ _ _ _ h => h, trivial⟩
    intro vs w' hJ hD hS hR
    simp only [AllJ, Nat.reduceAdd] at hJ
    obtain ⟨v0, v1, v2, v3, v4, v5, v6, v7, v8, v9, v10, v11, v12, v13, v14, v15, v16, v17, v18, v19, v20, v21, v22, v23, v24, v25, v26, v27, v28, v29, v30, v31, v32, v33, v34, v35, v36, v37, v38, v39, v40, v41, v42, v43, v44, v45, v46, v47, -⟩ := hJ
    clear C
    replace v0 := Eq1.out v0
    replace v1 := Eq1.out v1
    replace v2 := Eq1.out v2
    replace v3 := Eq1.out v3
    replace v4 := Eq1.out v4
    replace v5 := Eq1.out v5
    replace v6 := Eq1.out v6
    replace v7 := Eq1.out v7
    replace v8 := Eq1.out v8
    replace v9 := Eq1.out v9
    replace v10 := Eq1.out v10
    replace v11 := Eq1.out v11
    replace v12 := Eq1.out v12
    replace v13 := Eq1.out v13
    replace v14 := Eq1.out v14
    replace v15 := Eq1.out v15
    replace v16 := Eq1.out v16
    replace v17 := Eq1.out v17
    replace v18 := Eq1.out v18
    replace v19 := Eq1.out v19
    replace v20 := Eq1.out v20
    replace v21 := Eq1.out v21
    replace v22 := Eq1.out v22
    replace v23 := Eq1.out v23
    replace v24 := Eq1.out v24
    replace v25 := Eq1.out v25
    replace v26 := Eq1.out v26
    replace v27 := Eq1.out v27
    replace v28 := Eq1.out v28
    replace v29 := Eq1.out v29
    replace v30 := Eq1.out v30
    replace v31 := Eq1.out v31
    replace v32 := Eq1.out v32
    replace v33 := Eq1.out v33
    replace v34 := Eq1.out v34
    replace v35 := Eq1.out v35
    replace v36 := Eq1.out v36
    replace v37 := Eq1.out v37
    replace v38 := Eq1.out v38
    replace v39 := Eq1.out v39
    replace v40 := Eq1.out v40
    replace v41 := Eq1.out v41
    replace v42 := Eq1.out v42
    replace v43 := Eq1.out v43
    replace v44 := Eq1.out v44
    replace v45 := Eq1.out v45
    replace v46 := Eq1.out v46
    replace v47 := Eq1.out v47
    simp only [v0, v1, v2, v3, v4, v5, v6, v7, v8, v9, v10, v11, v12, v13, v14, v15, v16, v17, v18, v19, v20, v21, v22, v23, v24, v25, v26, v27, v28, v29, v30, v31, v32, v33, v34, v35, v36, v37, v38, v39, v40, v41, v42, v43, v44, v45, v46, v47, List.drop_succ_cons, List.drop_zero]
    refine wpList_nil' ?_
    have H' : Hp _ _ _ := hS
    clear hD hR hS v0 v1 v2 v3 v4 v5 v6 v7 v8 v9 v10 v11 v12 v13 v14 v15 v16 v17 v18 v19 v20 v21 v22 v23 v24 v25 v26 v27 v28 v29 v30 v31 v32 v33 v34 v35 v36 v37 v38 v39 v40 v41 v42 v43 v44 v45 v46 v47
    clear vs H
    have H := H'; clear H'; have C := Hp.facts H; simp only [Facts, factsL, and_true, true_and, List.set_cons_zero, List.set_cons_succ, List.setIfInBounds_toArray] at C
    (repeat' ((fail_if_success (with_reducible show bodyPost _ _ _ _ _ _)); first | ((with_reducible refine Hp.abs_alloc H ?_); intro b' w' H' hb'; (try simp only [hb']); clear hb'; ((try simp only [List.set_cons_zero, List.set_cons_succ, List.setIfInBounds_toArray] at H'); clear C H; have H := H'; clear H'; have C := Hp.facts H; simp only [Facts, factsL, and_true, true_and, List.set_cons_zero, List.set_cons_succ, List.setIfInBounds_toArray] at C)) | ((with_reducible show wpList _ _ _ _ _ (World.setCell _ _ _)); (with_reducible apply Hp.abs_gen H); (first | ((repeat (with_reducible apply Hp.set' 0)); (with_reducible exact H); (repeat rfl); intro w' H') | ((repeat (with_reducible apply Hp.set' 1)); (with_reducible exact H); (repeat rfl); intro w' H') | ((repeat (with_reducible apply Hp.set' 2)); (with_reducible exact H); (repeat rfl); intro w' H') | ((repeat (with_reducible apply Hp.set' 3)); (with_reducible exact H); (repeat rfl); intro w' H') | ((repeat (with_reducible apply Hp.set' 4)); (with_reducible exact H); (repeat rfl); intro w' H') | ((repeat (with_reducible apply Hp.set' 5)); (with_reducible exact H); (repeat rfl); intro w' H') | ((repeat (with_reducible apply Hp.set' 6)); (with_reducible exact H); (repeat rfl); intro w' H') | ((repeat (with_reducible apply Hp.set' 7)); (with_reducible exact H); (repeat rfl); intro w' H')); ((try simp only [List.set_cons_zero, List.set_cons_succ, List.setIfInBounds_toArray] at H'); clear C H; have H := H'; clear H'; have C := Hp.facts H; simp only [Facts, factsL, and_true, true_and, List.set_cons_zero, List.set_cons_succ, List.setIfInBounds_toArray] at C)) | go_values | go_skip | go_guarded | go_step | go_upon | go_back | (simp only [Int.not_lt, Int.not_le] at *; go_simp) | (go_values <;> (try go_simp)) | (go_ite <;> go_prune <;> (try go_simp)) | (split <;> (first | (rename_i hx; exact (hx _ rfl).elim) | go_prune))))
    go_ret
    exact ⟨rfl, H.low⟩
  · (repeat' ((fail_if_success (with_reducible show bodyPost _ _ _ _ _ _)); first | ((with_reducible refine Hp.abs_alloc H ?_); intro b' w' H' hb'; (try simp only [hb']); clear hb'; ((try simp only [List.set_cons_zero, List.set_cons_succ, List.setIfInBounds_toArray] at H'); clear C H; have H := H'; clear H'; have C := Hp.facts H; simp only [Facts, factsL, and_true, true_and, List.set_cons_zero, List.set_cons_succ, List.setIfInBounds_toArray] at C)) | ((with_reducible show wpList _ _ _ _ _ (World.setCell _ _ _)); (with_reducible apply Hp.abs_gen H); (first | ((repeat (with_reducible apply Hp.set' 0)); (with_reducible exact H); (repeat rfl); intro w' H') | ((repeat (with_reducible apply Hp.set' 1)); (with_reducible exact H); (repeat rfl); intro w' H') | ((repeat (with_reducible apply Hp.set' 2)); (with_reducible exact H); (repeat rfl); intro w' H') | ((repeat (with_reducible apply Hp.set' 3)); (with_reducible exact H); (repeat rfl); intro w' H') | ((repeat (with_reducible apply Hp.set' 4)); (with_reducible exact H); (repeat rfl); intro w' H') | ((repeat (with_reducible apply Hp.set' 5)); (with_reducible exact H); (repeat rfl); intro w' H') | ((repeat (with_reducible apply Hp.set' 6)); (with_reducible exact H); (repeat rfl); intro w' H') | ((repeat (with_reducible apply Hp.set' 7)); (with_reducible exact H); (repeat rfl); intro w' H')); ((try simp only [List.set_cons_zero, List.set_cons_succ, List.setIfInBounds_toArray] at H'); clear C H; have H := H'; clear H'; have C := Hp.facts H; simp only [Facts, factsL, and_true, true_and, List.set_cons_zero, List.set_cons_succ, List.setIfInBounds_toArray] at C)) | go_values | go_skip | go_guarded | go_step | go_upon | go_back | (simp only [Int.not_lt, Int.not_le] at *; go_simp) | (go_values <;> (try go_simp)) | (go_ite <;> go_prune <;> (try go_simp)) | (split <;> (first | (rename_i hx; exact (hx _ rfl).elim) | go_prune))))
    refine (hR2 _).mono ?_
    (rintro e' w' ⟨rfl, hb'⟩; (have H' := Hp.step H hb'; clear hb'; ((try simp only [List.set_cons_zero, List.set_cons_succ, List.setIfInBounds_toArray] at H'); clear C H; have H := H'; clear H'; have C := Hp.facts H; simp only [Facts, factsL, and_true, true_and, List.set_cons_zero, List.set_cons_succ, List.setIfInBounds_toArray] at C)))
    (repeat' ((fail_if_success (with_reducible show bodyPost _ _ _ _ _ _)); first | ((with_reducible refine Hp.abs_alloc H ?_); intro b' w' H' hb'; (try simp only [hb']); clear hb'; ((try simp only [List.set_cons_zero, List.set_cons_succ, List.setIfInBounds_toArray] at H'); clear C H; have H := H'; clear H'; have C := Hp.facts H; simp only [Facts, factsL, and_true, true_and, List.set_cons_zero, List.set_cons_succ, List.setIfInBounds_toArray] at C)) | ((with_reducible show wpList _ _ _ _ _ (World.setCell _ _ _)); (with_reducible apply Hp.abs_gen H); (first | ((repeat (with_reducible apply Hp.set' 0)); (with_reducible exact H); (repeat rfl); intro w' H') | ((repeat (with_reducible apply Hp.set' 1)); (with_reducible exact H); (repeat rfl); intro w' H') | ((repeat (with_reducible apply Hp.set' 2)); (with_reducible exact H); (repeat rfl); intro w' H') | ((repeat (with_reducible apply Hp.set' 3)); (with_reducible exact H); (repeat rfl); intro w' H') | ((repeat (with_reducible apply Hp.set' 4)); (with_reducible exact H); (repeat rfl); intro w' H') | ((repeat (with_reducible apply Hp.set' 5)); (with_reducible exact H); (repeat rfl); intro w' H') | ((repeat (with_reducible apply Hp.set' 6)); (with_reducible exact H); (repeat rfl); intro w' H') | ((repeat (with_reducible apply Hp.set' 7)); (with_reducible exact H); (repeat rfl); intro w' H')); ((try simp only [List.set_cons_zero, List.set_cons_succ, List.setIfInBounds_toArray] at H'); clear C H; have H := H'; clear H'; have C := Hp.facts H; simp only [Facts, factsL, and_true, true_and, List.set_cons_zero, List.set_cons_succ, List.setIfInBounds_toArray] at C)) | go_values | go_skip | go_guarded | go_step | go_upon | go_back | (simp only [Int.not_lt, Int.not_le] at *; go_simp) | (go_values <;> (try go_simp)) | (go_ite <;> go_prune <;> (try go_simp)) | (split <;> (first | (rename_i hx; exact (hx _ rfl).elim) | go_prune))))
    try simp (disch := omega) only [decide_eq_true, decide_eq_false]
    obtain ⟨wR8, rfl⟩ := Hp.nameW H
    apply region_n (frm wR8.heap.size (fun _ => Hp _ _)) (frm_ok ?hfs_7) frm_sz [] [.light 0 0, .light 0 0, .light 0 0, .light 0 0, .light 0 0, .light 0 0, .light 0 0, .light 0 0, .light 0 0, .light 0 0, .light 0 0, .light 0 0, .light 0 0, .light 0 0, .light 0 0, .light 0 0, .light 0 0, .light 0 0, .light 0 0, .light 0 0, .light 0 0, .light 0 0, .light 0 0, .light 0 0, .light 0 0, .light 0 0, .light 0 0, .light 0 0, .light 0 0, .light 0 0, .light 0 0, .light 0 0, .light 0 0, .light 0 0, .light 0 0, .light 0 0, .light 0 0, .light 0 0, .light 0 0, .light 0 0, .light 0 0, .light 0 0, .light 0 0, .light 0 0, .light 0 0, .light 0 0, .light 0 0, .light 0 0] [false, false, false, false, false, false, false, false, false, false, false, false, false, false, false, false, false, false, false, false, false, false, false, false, false, false, false, false, false, false, false, false, false, false, false, false, false, false, false, false, false, false, false, false, false, false, false, false] 48 110 [] [some 63, some 64, some 65, some 66, some 67, some 68, some 69, some 70, some 71, some 72, some 73, some 74, some 75, some 76, some 77, some 78, some 79, some 80, some 81, some 82, some 83, some 84, some 85, some 86, some 87, some 88, some 89, some 90, some 91, some 92, some 93, some 94, some 95, some 96, some 97, some 98, some 99, some 100, some 101, some 102, some 103, some 104, some 105, some 106, some 107, some 108, some 109, some 8] [[], [0], [1], [1, 2], [1], [1, 4], [1, 3, 5], [1, 6], [7], [8], [8], [8, 9, 10], [8], [8], [8, 12, 13], [8, 11, 14], [8, 15], [16], [17], [17, 18], [17], [17, 19, 20], [17, 21], [22], [23], [23], [23, 24, 25], [23, 26], [23], [23, 27, 28], [23, 29], [30], [31], [31], [31], [31, 32, 33, 34], [31, 35], [31], [31, 36, 37], [31, 38], [39], [40], [40], [40, 41, 42], [40], [40, 43, 44], [40, 45], [46]] [Eq1 (.bool true), Eq1 _, Eq1 _, Eq1 _, Eq1 _, Eq1 _, Eq1 (.bool true), Eq1 _, Eq1 _, Eq1 _, Eq1 _, Eq1 _, Eq1 _, Eq1 _, Eq1 _, Eq1 (.bool true), Eq1 _, Eq1 _, Eq1 _, Eq1 _, Eq1 _, Eq1 (.bool true), Eq1 _, Eq1 _, Eq1 _, Eq1 _, Eq1 _, Eq1 _, Eq1 _, Eq1 (.bool true), Eq1 _, Eq1 _, Eq1 _, Eq1 _, Eq1 _, Eq1 _, Eq1 _, Eq1 _, Eq1 (.bool true), Eq1 _, Eq1 _, Eq1 _, Eq1 _, Eq1 _, Eq1 _, Eq1 (.bool true), Eq1 _, Eq1 _] ?hq1_7 ?hq2_7 ?hq3_7 ?hq4_7 ?hq5_7 ?hq6_7 _ ?hA_7 ?hst_7 ?h0_7 ?hsteps_7 ?hend_7
    case hq1_7 => kernel_rfl
    case hq2_7 => kernel_rfl
    case hq3_7 => kernel_rfl
    case hq5_7 => kernel_rfl
    case hq4_7 => rfl
    case hq6_7 => rfl
    case hA_7 => intro vs; simp only [fillD, Nat.reduceAdd, Act.put, List.setIfInBounds_toArray, List.set_cons_zero, List.set_cons_succ]; rfl
    case h0_7 => exact H.drew
    case hfs_7 => exact fun _ _ _ hb h => Hp.step h hb
    case hsteps_7 =>
      refine ⟨?_, ?_, ?_, ?_, ?_, ?_, ?_, ?_, ?_, ?_, ?_, ?_, ?_, ?_, ?_, ?_, ?_, ?_, ?_, ?_, ?_, ?_, ?_, ?_, ?_, ?_, ?_, ?_, ?_, ?_, ?_, ?_, ?_, ?_, ?_, ?_, ?_, ?_, ?_, ?_, ?_, ?_, ?_, ?_, ?_, ?_, ?_, ?_, trivial⟩
      · intro p vs w' K hJ hp1 hp2 hS hR hK
        rw [if_pos (by rfl)]
        have C := Hp.facts hS
        simp only [Facts, factsL, and_true, true_and, List.set_cons_zero, List.set_cons_succ, List.setIfInBounds_toArray] at C
        have hsz := hR.1
        go_step
        refine (known11_any _).mono ?_
        rintro e' w'' ⟨rfl, hb⟩
        exact hK.out _ _ hb (Eq1.of (rfl)) Fresh.no
      · intro p vs w' K hJ hp1 hp2 hS hR hK
        simp only [DepJ, List.getD_cons_zero, List.getD_cons_succ] at hJ
        obtain ⟨j0, -⟩ := hJ
        have j0 := Eq1.out j0
        simp only [j0] at hK ⊢
        rw [if_pos (by rfl)]
        go_step
        exact hK.out _ _ (Below.refl _ _) Eq1.mk Fresh.no
      · intro p vs w' K hJ hp1 hp2 hS hR hK
        simp only [DepJ, List.getD_cons_zero, List.getD_cons_succ] at hJ
        obtain ⟨j1, -⟩ := hJ
        have j1 := Eq1.out j1
        simp only [j1] at hK ⊢
        rw [if_pos (by rfl)]
        have C := Hp.facts hS
        simp only [Facts, factsL, and_true, true_and, List.set_cons_zero, List.set_cons_succ, List.setIfInBounds_toArray] at C
        have hsz := hR.1
        go_step
        exact hK.out _ _ (Below.refl _ _) Eq1.mk Fresh.no
      · intro p vs w' K hJ hp1 hp2 hS hR hK
        simp only [DepJ, List.getD_cons_zero, List.getD_cons_succ] at hJ
        obtain ⟨j1, j2, -⟩ := hJ
        have j1 := Eq1.out j1
        have j2 := Eq1.out j2
        simp only [j1, j2] at hK ⊢
        rw [if_pos (by rfl)]
        have C := Hp.facts hS
        simp only [Facts, factsL, and_true, true_and, List.set_cons_zero, List.set_cons_succ, List.setIfInBounds_toArray] at C
        have hsz := hR.1
        go_step
        refine (hE _).mono ?_
        rintro e' w'' ⟨rfl, hb⟩
        exact hK.out _ _ hb Eq1.mk Fresh.no
      · intro p vs w' K hJ hp1 hp2 hS hR hK
        simp only [DepJ, List.getD_cons_zero, List.getD_cons_succ] at hJ
        obtain ⟨j1, -⟩ := hJ
        have j1 := Eq1.out j1
        simp only [j1] at hK ⊢
        rw [if_pos (by rfl)]
        have C := Hp.facts hS
        simp only [Facts, factsL, and_true, true_and, List.set_cons_zero, List.set_cons_succ, List.setIfInBounds_toArray] at C
        have hsz := hR.1
        go_step
        exact hK.out _ _ (Below.refl _ _) Eq1.mk Fresh.no
      · intro p vs w' K hJ hp1 hp2 hS hR hK
        simp only [DepJ, List.getD_cons_zero, List.getD_cons_succ] at hJ
        obtain ⟨j1, j4, -⟩ := hJ
        have j1 := Eq1.out j1
        have j4 := Eq1.out j4
        simp only [j1, j4] at hK ⊢
        rw [if_pos (by rfl)]
        have C := Hp.facts hS
        simp only [Facts, factsL, and_true, true_and, List.set_cons_zero, List.set_cons_succ, List.setIfInBounds_toArray] at C
        have hsz := hR.1
        go_step
        refine (hRE _).mono ?_
        rintro e' w'' ⟨rfl, hb⟩
        exact hK.out _ _ hb Eq1.mk Fresh.no
      · intro p vs w' K hJ hp1 hp2 hS hR hK
        simp only [DepJ, List.getD_cons_zero, List.getD_cons_succ] at hJ
        obtain ⟨j1, j3, j5, -⟩ := hJ
        have j1 := Eq1.out j1
        have j3 := Eq1.out j3
        have j5 := Eq1.out j5
        simp only [j1, j3, j5] at hK ⊢
        rw [if_pos (by rfl)]
        go_step
        exact hK.out _ _ (Below.refl _ _) (Eq1.of (by first | rfl | (simp; done) | (simp; omega))) Fresh.no
      · intro p vs w' K hJ hp1 hp2 hS hR hK
        simp only [DepJ, List.getD_cons_zero, List.getD_cons_succ] at hJ
        obtain ⟨j1, j6, -⟩ := hJ
        have j1 := Eq1.out j1
        have j6 := Eq1.out j6
        simp only [j1, j6] at hK ⊢
        rw [if_pos (by rfl)]
        go_step
        exact hK.out _ _ (Below.refl _ _) Eq1.mk Fresh.no
      · intro p vs w' K hJ hp1 hp2 hS hR hK
        simp only [DepJ, List.getD_cons_zero, List.getD_cons_succ] at hJ
        obtain ⟨j7, -⟩ := hJ
        have j7 := Eq1.out j7
        simp only [j7] at hK ⊢
        rw [if_pos (by rfl)]
        go_step
        exact hK.out _ _ (Below.refl _ _) Eq1.mk Fresh.no
      · intro p vs w' K hJ hp1 hp2 hS hR hK
        simp only [DepJ, List.getD_cons_zero, List.getD_cons_succ] at hJ
        obtain ⟨j8, -⟩ := hJ
        have j8 := Eq1.out j8
        simp only [j8] at hK ⊢
        rw [if_pos (by rfl)]
        have C := Hp.facts hS
        simp only [Facts, factsL, and_true, true_and, List.set_cons_zero, List.set_cons_succ, List.setIfInBounds_toArray] at C
        have hsz := hR.1
        go_step
        exact hK.out _ _ (Below.refl _ _) Eq1.mk Fresh.no
      · intro p vs w' K hJ hp1 hp2 hS hR hK
        simp only [DepJ, List.getD_cons_zero, List.getD_cons_succ] at hJ
        obtain ⟨j8, -⟩ := hJ
        have j8 := Eq1.out j8
        simp only [j8] at hK ⊢
        rw [if_pos (by rfl)]
        go_step
        exact hK.out _ _ (Below.refl _ _) Eq1.mk Fresh.no
      · intro p vs w' K hJ hp1 hp2 hS hR hK
        simp only [DepJ, List.getD_cons_zero, List.getD_cons_succ] at hJ
        obtain ⟨j8, j9, j10, -⟩ := hJ
        have j8 := Eq1.out j8
        have j9 := Eq1.out j9
        have j10 := Eq1.out j10
        simp only [j8, j9, j10] at hK ⊢
        rw [if_pos (by rfl)]
        have C := Hp.facts hS
        simp only [Facts, factsL, and_true, true_and, List.set_cons_zero, List.set_cons_succ, List.setIfInBounds_toArray] at C
        have hsz := hR.1
        go_step
        refine (hI _).mono ?_
        rintro e' w'' ⟨rfl, hb⟩
        exact hK.out _ _ hb Eq1.mk Fresh.no
      · intro p vs w' K hJ hp1 hp2 hS hR hK
        simp only [DepJ, List.getD_cons_zero, List.getD_cons_succ] at hJ
        obtain ⟨j8, -⟩ := hJ
        have j8 := Eq1.out j8
        simp only [j8] at hK ⊢
        rw [if_pos (by rfl)]
        have C := Hp.facts hS
        simp only [Facts, factsL, and_true, true_and, List.set_cons_zero, List.set_cons_succ, List.setIfInBounds_toArray] at C
        have hsz := hR.1
        go_step
        exact hK.out _ _ (Below.refl _ _) Eq1.mk Fresh.no
      · intro p vs w' K hJ hp1 hp2 hS hR hK
        simp only [DepJ, List.getD_cons_zero, List.getD_cons_succ] at hJ
        obtain ⟨j8, -⟩ := hJ
        have j8 := Eq1.out j8
        simp only [j8] at hK ⊢
        rw [if_pos (by rfl)]
        go_step
        exact hK.out _ _ (Below.refl _ _) Eq1.mk Fresh.no
      · intro p vs w' K hJ hp1 hp2 hS hR hK
        simp only [DepJ, List.getD_cons_zero, List.getD_cons_succ] at hJ
        obtain ⟨j8, j12, j13, -⟩ := hJ
        have j8 := Eq1.out j8
        have j12 := Eq1.out j12
        have j13 := Eq1.out j13
        simp only [j8, j12, j13] at hK ⊢
        rw [if_pos (by rfl)]
        have C := Hp.facts hS
        simp only [Facts, factsL, and_true, true_and, List.set_cons_zero, List.set_cons_succ, List.setIfInBounds_toArray] at C
        have hsz := hR.1
        go_step
        refine (hRI _).mono ?_
        rintro e' w'' ⟨rfl, hb⟩
        exact hK.out _ _ hb Eq1.mk Fresh.no
      · intro p vs w' K hJ hp1 hp2 hS hR hK
        simp only [DepJ, List.getD_cons_zero, List.getD_cons_succ] at hJ
        obtain ⟨j8, j11, j14, -⟩ := hJ
        have j8 := Eq1.out j8
        have j11 := Eq1.out j11
        have j14 := Eq1.out j14
        simp only [j8, j11, j14] at hK ⊢
        rw [if_pos (by rfl)]
        go_step
        exact hK.out _ _ (Below.refl _ _) (Eq1.of (by first | rfl | (simp; done) | (simp; omega))) Fresh.no
      · intro p vs w' K hJ hp1 hp2 hS hR hK
        simp only [DepJ, List.getD_cons_zero, List.getD_cons_succ] at hJ
        obtain ⟨j8, j15, -⟩ := hJ
        have j8 := Eq1.out j8
        have j15 := Eq1.out j15
        simp only [j8, j15] at hK ⊢
        rw [if_pos (by rfl)]
        go_step
        exact hK.out _ _ (Below.refl _ _) Eq1.mk Fresh.no
      · intro p vs w' K hJ hp1 hp2 hS hR hK
        simp only [DepJ, List.getD_cons_zero, List.getD_cons_succ] at hJ
        obtain ⟨j16, -⟩ := hJ
        have j16 := Eq1.out j16
        simp only [j16] at hK ⊢
        rw [if_pos (by rfl)]
        go_step
        exact hK.out _ _ (Below.refl _ _) Eq1.mk Fresh.no
      · intro p vs w' K hJ hp1 hp2 hS hR hK
        simp only [DepJ, List.getD_cons_zero, List.getD_cons_succ] at hJ
        obtain ⟨j17, -⟩ := hJ
        have j17 := Eq1.out j17
        simp only [j17] at hK ⊢
        rw [if_pos (by rfl)]
        have C := Hp.facts hS
        simp only [Facts, factsL, and_true, true_and, List.set_cons_zero, List.set_cons_succ, List.setIfInBounds_toArray] at C
        have hsz := hR.1
        go_step
        exact hK.out _ _ (Below.refl _ _) Eq1.mk Fresh.no
      · intro p vs w' K hJ hp1 hp2 hS hR hK
        simp only [DepJ, List.getD_cons_zero, List.getD_cons_succ] at hJ
        obtain ⟨j17, j18, -⟩ := hJ
        have j17 := Eq1.out j17
        have j18 := Eq1.out j18
        simp only [j17, j18] at hK ⊢
        rw [if_pos (by rfl)]
        have C := Hp.facts hS
        simp only [Facts, factsL, and_true, true_and, List.set_cons_zero, List.set_cons_succ, List.setIfInBounds_toArray] at C
        have hsz := hR.1
        go_step
        refine (hL _).mono ?_
        rintro e' w'' ⟨rfl, hb⟩
        exact hK.out _ _ hb Eq1.mk Fresh.no
      · intro p vs w' K hJ hp1 hp2 hS hR hK
        simp only [DepJ, List.getD_cons_zero, List.getD_cons_succ] at hJ
        obtain ⟨j17, -⟩ := hJ
        have j17 := Eq1.out j17
        simp only [j17] at hK ⊢
        rw [if_pos (by rfl)]
        go_step
        exact hK.out _ _ (Below.refl _ _) Eq1.mk Fresh.no
      · intro p vs w' K hJ hp1 hp2 hS hR hK
        simp only [DepJ, List.getD_cons_zero, List.getD_cons_succ] at hJ
        obtain ⟨j17, j19, j20, -⟩ := hJ
        have j17 := Eq1.out j17
        have j19 := Eq1.out j19
        have j20 := Eq1.out j20
        simp only [j17, j19, j20] at hK ⊢
        rw [if_pos (by rfl)]
        go_step
        exact hK.out _ _ (Below.refl _ _) (Eq1.of (by first | rfl | (simp; done) | (simp; omega))) Fresh.no
      · intro p vs w' K hJ hp1 hp2 hS hR hK
        simp only [DepJ, List.getD_cons_zero, List.getD_cons_succ] at hJ
        obtain ⟨j17, j21, -⟩ := hJ
        have j17 := Eq1.out j17
        have j21 := Eq1.out j21
        simp only [j17, j21] at hK ⊢
        rw [if_pos (by rfl)]
        go_step
        exact hK.out _ _ (Below.refl _ _) Eq1.mk Fresh.no
      · intro p vs w' K hJ hp1 hp2 hS hR hK
        simp only [DepJ, List.getD_cons_zero, List.getD_cons_succ] at hJ
        obtain ⟨j22, -⟩ := hJ
        have j22 := Eq1.out j22
        simp only [j22] at hK ⊢
        rw [if_pos (by rfl)]
        go_step
        exact hK.out _ _ (Below.refl _ _) Eq1.mk Fresh.no
      · intro p vs w' K hJ hp1 hp2 hS hR hK
        simp only [DepJ, List.getD_cons_zero, List.getD_cons_succ] at hJ
        obtain ⟨j23, -⟩ := hJ
        have j23 := Eq1.out j23
        simp only [j23] at hK ⊢
        rw [if_pos (by rfl)]
        have C := Hp.facts hS
        simp only [Facts, factsL, and_true, true_and, List.set_cons_zero, List.set_cons_succ, List.setIfInBounds_toArray] at C
        have hsz := hR.1
        go_step
        exact hK.out _ _ (Below.refl _ _) Eq1.mk Fresh.no
      · intro p vs w' K hJ hp1 hp2 hS hR hK
        simp only [DepJ, List.getD_cons_zero, List.getD_cons_succ] at hJ
        obtain ⟨j23, -⟩ := hJ
        have j23 := Eq1.out j23
        simp only [j23] at hK ⊢
        rw [if_pos (by rfl)]
        go_step
        exact hK.out _ _ (Below.refl _ _) Eq1.mk Fresh.no
      · intro p vs w' K hJ hp1 hp2 hS hR hK
        simp only [DepJ, List.getD_cons_zero, List.getD_cons_succ] at hJ
        obtain ⟨j23, j24, j25, -⟩ := hJ
        have j23 := Eq1.out j23
        have j24 := Eq1.out j24
        have j25 := Eq1.out j25
        simp only [j23, j24, j25] at hK ⊢
        rw [if_pos (by rfl)]
        have C := Hp.facts hS
        simp only [Facts, factsL, and_true, true_and, List.set_cons_zero, List.set_cons_succ, List.setIfInBounds_toArray] at C
        have hsz := hR.1
        go_step
        refine (hM _).mono ?_
        rintro e' w'' ⟨rfl, hb⟩
        exact hK.out _ _ hb Eq1.mk Fresh.no
      · intro p vs w' K hJ hp1 hp2 hS hR hK
        simp only [DepJ, List.getD_cons_zero, List.getD_cons_succ] at hJ
        obtain ⟨j23, j26, -⟩ := hJ
        have j23 := Eq1.out j23
        have j26 := Eq1.out j26
        simp only [j23, j26] at hK ⊢
        rw [if_pos (by rfl)]
        have C := Hp.facts hS
        simp only [Facts, factsL, and_true, true_and, List.set_cons_zero, List.set_cons_succ, List.setIfInBounds_toArray] at C
        have hsz := hR.1
        go_step
        refine (of_any _ _ _).mono ?_
        rintro e' w'' ⟨rfl, hb⟩
        exact hK.out _ _ hb Eq1.mk Fresh.no
      · intro p vs w' K hJ hp1 hp2 hS hR hK
        simp only [DepJ, List.getD_cons_zero, List.getD_cons_succ] at hJ
        obtain ⟨j23, -⟩ := hJ
        have j23 := Eq1.out j23
        simp only [j23] at hK ⊢
        rw [if_pos (by rfl)]
        have C := Hp.facts hS
        simp only [Facts, factsL, and_true, true_and, List.set_cons_zero, List.set_cons_succ, List.setIfInBounds_toArray] at C
        have hsz := hR.1
        go_step
        exact hK.out _ _ (Below.refl _ _) Eq1.mk Fresh.no
      · intro p vs w' K hJ hp1 hp2 hS hR hK
        simp only [DepJ, List.getD_cons_zero, List.getD_cons_succ] at hJ
        obtain ⟨j23, j27, j28, -⟩ := hJ
        have j23 := Eq1.out j23
        have j27 := Eq1.out j27
        have j28 := Eq1.out j28
        simp only [j23, j27, j28] at hK ⊢
        rw [if_pos (by rfl)]
        go_step
        exact hK.out _ _ (Below.refl _ _) (Eq1.of (by first | rfl | (simp; done) | (simp; omega))) Fresh.no
      · intro p vs w' K hJ hp1 hp2 hS hR hK
        simp only [DepJ, List.getD_cons_zero, List.getD_cons_succ] at hJ
        obtain ⟨j23, j29, -⟩ := hJ
        have j23 := Eq1.out j23
        have j29 := Eq1.out j29
        simp only [j23, j29] at hK ⊢
        rw [if_pos (by rfl)]
        go_step
        exact hK.out _ _ (Below.refl _ _) Eq1.mk Fresh.no
      · intro p vs w' K hJ hp1 hp2 hS hR hK
        simp only [DepJ, List.getD_cons_zero, List.getD_cons_succ] at hJ
        obtain ⟨j30, -⟩ := hJ
        have j30 := Eq1.out j30
        simp only [j30] at hK ⊢
        rw [if_pos (by rfl)]
        go_step
        exact hK.out _ _ (Below.refl _ _) Eq1.mk Fresh.no
      · intro p vs w' K hJ hp1 hp2 hS hR hK
        simp only [DepJ, List.getD_cons_zero, List.getD_cons_succ] at hJ
        obtain ⟨j31, -⟩ := hJ
        have j31 := Eq1.out j31
        simp only [j31] at hK ⊢
        rw [if_pos (by rfl)]
        have C := Hp.facts hS
        simp only [Facts, factsL, and_true, true_and, List.set_cons_zero, List.set_cons_succ, List.setIfInBounds_toArray] at C
        have hsz := hR.1
        go_step
        exact hK.out _ _ (Below.refl _ _) Eq1.mk Fresh.no
      · intro p vs w' K hJ hp1 hp2 hS hR hK
        simp only [DepJ, List.getD_cons_zero, List.getD_cons_succ] at hJ
        obtain ⟨j31, -⟩ := hJ
        have j31 := Eq1.out j31
        simp only [j31] at hK ⊢
        rw [if_pos (by rfl)]
        go_step
        exact hK.out _ _ (Below.refl _ _) Eq1.mk Fresh.no
      · intro p vs w' K hJ hp1 hp2 hS hR hK
        simp only [DepJ, List.getD_cons_zero, List.getD_cons_succ] at hJ
        obtain ⟨j31, -⟩ := hJ
        have j31 := Eq1.out j31
        simp only [j31] at hK ⊢
        rw [if_pos (by rfl)]
        go_step
        exact hK.out _ _ (Below.refl _ _) Eq1.mk Fresh.no
      · intro p vs w' K hJ hp1 hp2 hS hR hK
        simp only [DepJ, List.getD_cons_zero, List.getD_cons_succ] at hJ
        obtain ⟨j31, j32, j33, j34, -⟩ := hJ
        have j31 := Eq1.out j31
        have j32 := Eq1.out j32
        have j33 := Eq1.out j33
        have j34 := Eq1.out j34
        simp only [j31, j32, j33, j34] at hK ⊢
        rw [if_pos (by rfl)]
        have C := Hp.facts hS
        simp only [Facts, factsL, and_true, true_and, List.set_cons_zero, List.set_cons_succ, List.setIfInBounds_toArray] at C
        have hsz := hR.1
        go_step
        refine (hG _).mono ?_
        rintro e' w'' ⟨rfl, hb⟩
        exact hK.out _ _ hb Eq1.mk Fresh.no
      · intro p vs w' K hJ hp1 hp2 hS hR hK
        simp only [DepJ, List.getD_cons_zero, List.getD_cons_succ] at hJ
        obtain ⟨j31, j35, -⟩ := hJ
        have j31 := Eq1.out j31
        have j35 := Eq1.out j35
        simp only [j31, j35] at hK ⊢
        rw [if_pos (by rfl)]
        have C := Hp.facts hS
        simp only [Facts, factsL, and_true, true_and, List.set_cons_zero, List.set_cons_succ, List.setIfInBounds_toArray] at C
        have hsz := hR.1
        go_step
        refine (of_any _ _ _).mono ?_
        rintro e' w'' ⟨rfl, hb⟩
        exact hK.out _ _ hb Eq1.mk Fresh.no
      · intro p vs w' K hJ hp1 hp2 hS hR hK
        simp only [DepJ, List.getD_cons_zero, List.getD_cons_succ] at hJ
        obtain ⟨j31, -⟩ := hJ
        have j31 := Eq1.out j31
        simp only [j31] at hK ⊢
        rw [if_pos (by rfl)]
        have C := Hp.facts hS
        simp only [Facts, factsL, and_true, true_and, List.set_cons_zero, List.set_cons_succ, List.setIfInBounds_toArray] at C
        have hsz := hR.1
        go_step
        exact hK.out _ _ (Below.refl _ _) Eq1.mk Fresh.no
      · intro p vs w' K hJ hp1 hp2 hS hR hK
        simp only [DepJ, List.getD_cons_zero, List.getD_cons_succ] at hJ
        obtain ⟨j31, j36, j37, -⟩ := hJ
        have j31 := Eq1.out j31
        have j36 := Eq1.out j36
        have j37 := Eq1.out j37
        simp only [j31, j36, j37] at hK ⊢
        rw [if_pos (by rfl)]
        go_step
        exact hK.out _ _ (Below.refl _ _) (Eq1.of (by first | rfl | (simp; done) | (simp; omega))) Fresh.no
      · intro p vs w' K hJ hp1 hp2 hS hR hK
        simp only [DepJ, List.getD_cons_zero, List.getD_cons_succ] at hJ
        obtain ⟨j31, j38, -⟩ := hJ
        have j31 := Eq1.out j31
        have j38 := Eq1.out j38
        simp only [j31, j38] at hK ⊢
        rw [if_pos (by rfl)]
        go_step
        exact hK.out _ _ (Below.refl _ _) Eq1.mk Fresh.no
      · intro p vs w' K hJ hp1 hp2 hS hR hK
        simp only [DepJ, List.getD_cons_zero, List.getD_cons_succ] at hJ
        obtain ⟨j39, -⟩ := hJ
        have j39 := Eq1.out j39
        simp only [j39] at hK ⊢
        rw [if_pos (by rfl)]
        go_step
        exact hK.out _ _ (Below.refl _ _) Eq1.mk Fresh.no
      · intro p vs w' K hJ hp1 hp2 hS hR hK
        simp only [DepJ, List.getD_cons_zero, List.getD_cons_succ] at hJ
        obtain ⟨j40, -⟩ := hJ
        have j40 := Eq1.out j40
        simp only [j40] at hK ⊢
        rw [if_pos (by rfl)]
        have C := Hp.facts hS
        simp only [Facts, factsL, and_true, true_and, List.set_cons_zero, List.set_cons_succ, List.setIfInBounds_toArray] at C
        have hsz := hR.1
        go_step
        exact hK.out _ _ (Below.refl _ _) Eq1.mk Fresh.no
      · intro p vs w' K hJ hp1 hp2 hS hR hK
        simp only [DepJ, List.getD_cons_zero, List.getD_cons_succ] at hJ
        obtain ⟨j40, -⟩ := hJ
        have j40 := Eq1.out j40
        simp only [j40] at hK ⊢
        rw [if_pos (by rfl)]
        have C := Hp.facts hS
        simp only [Facts, factsL, and_true, true_and, List.set_cons_zero, List.set_cons_succ, List.setIfInBounds_toArray] at C
        have hsz := hR.1
        go_step
        exact hK.out _ _ (Below.refl _ _) Eq1.mk Fresh.no
      · intro p vs w' K hJ hp1 hp2 hS hR hK
        simp only [DepJ, List.getD_cons_zero, List.getD_cons_succ] at hJ
        obtain ⟨j40, j41, j42, -⟩ := hJ
        have j40 := Eq1.out j40
        have j41 := Eq1.out j41
        have j42 := Eq1.out j42
        simp only [j40, j41, j42] at hK ⊢
        rw [if_pos (by rfl)]
        have C := Hp.facts hS
        simp only [Facts, factsL, and_true, true_and, List.set_cons_zero, List.set_cons_succ, List.setIfInBounds_toArray] at C
        have hsz := hR.1
        go_step
        refine (hW _).mono ?_
        rintro e' w'' ⟨rfl, hb⟩
        exact hK.out _ _ hb Eq1.mk Fresh.no
      · intro p vs w' K hJ hp1 hp2 hS hR hK
        simp only [DepJ, List.getD_cons_zero, List.getD_cons_succ] at hJ
        obtain ⟨j40, -⟩ := hJ
        have j40 := Eq1.out j40
        simp only [j40] at hK ⊢
        rw [if_pos (by rfl)]
        go_step
        exact hK.out _ _ (Below.refl _ _) Eq1.mk Fresh.no
      · intro p vs w' K hJ hp1 hp2 hS hR hK
        simp only [DepJ, List.getD_cons_zero, List.getD_cons_succ] at hJ
        obtain ⟨j40, j43, j44, -⟩ := hJ
        have j40 := Eq1.out j40
        have j43 := Eq1.out j43
        have j44 := Eq1.out j44
        simp only [j40, j43, j44] at hK ⊢
        rw [if_pos (by rfl)]
        go_step
        exact hK.out _ _ (Below.refl _ _) (Eq1.of (by first | rfl | (simp; done) | (simp; omega))) Fresh.no
      · intro p vs w' K hJ hp1 hp2 hS hR hK
        simp only [DepJ, List.getD_cons_zero, List.getD_cons_succ] at hJ
        obtain ⟨j40, j45, -⟩ := hJ
        have j40 := Eq1.out j40
        have j45 := Eq1.out j45
        simp only [j40, j45] at hK ⊢
        rw [if_pos (by rfl)]
        go_step
        exact hK.out _ _ (Below.refl _ _) Eq1.mk Fresh.no
      · intro p vs w' K hJ hp1 hp2 hS hR hK
        simp only [DepJ, List.getD_cons_zero, List.getD_cons_succ] at hJ
        obtain ⟨j46, -⟩ := hJ
        have j46 := Eq1.out j46
        simp only [j46] at hK ⊢
        rw [if_pos (by rfl)]
        go_step
        exact hK.out _ _ (Below.refl _ _) Eq1.mk Fresh.no
    case hst_7 => refine ⟨fun _ _ _ _ h => h, fun _ _ _ _ h => h, fun _ _ _ _ h => h, fun _ _ _ _ h => h, fun _ _ _ _ h => h, fun _ _ _ _ h => h, fun _ _ _ _ h => h, fun _ _ _ _ h => h, fun _ _ _ _ h => h, fun _ _ _ _ h => h, fun _ _ _ _ h => h, fun _ _ _ _ h => h, fun _ _ _ _ h => h, fun _ _ _ _ h => h, fun _ _ _ _ h => h, fun _ _ _ _ h => h, fun _ _ _ _ h => h, fun _ _ _ _ h => h, fun _ _ _ _ h => h, fun _ _ _ _ h => h, fun _ _ _ _ h => h, fun _ _ _ _ h => h, fun _ _ _ _ h => h, fun _ _ _ _ h => h, fun _ _ _ _ h => h, fun _ _ _ _ h => h, fun _ _ _ _ h => h, fun _ _ _ _ h => h, fun _ _ _ _ h => h, fun _ _ _ _ h => h, fun _ _ _ _ h => h, fun _ _ _ _ h => h, fun _ _ _ _ h => h, fun _ _ _ _ h => h, fun _ _ _ _ h => h, fun _ _ _ _ h => h, fun _ _ _ _ h => h, fun _ _ _ _ h => h, fun _ _ _ _ h => h, fun _ _ _ _ h => h, fun _ _ _ _ h => h, fun _ _ _ _ h => h, fun _ _ _ _ h => h, fun _ _ _ _ h => h, fun _ _ _ _ h => h, fun _ _ _ _ h => h, fun _ _ _ _ h => h, fun _ _ _ _ h => h, trivial⟩
    intro vs w' hJ hD hS hR
    simp only [AllJ, Nat.reduceAdd] at hJ
    obtain ⟨v0, v1, v2, v3, v4, v5, v6, v7, v8, v9, v10, v11, v12, v13, v14, v15, v16, v17, v18, v19, v20, v21, v22, v23, v24, v25, v26, v27, v28, v29, v30, v31, v32, v33, v34, v35, v36, v37, v38, v39, v40, v41, v42, v43, v44, v45, v46, v47, -⟩ := hJ
    clear C
    replace v0 := Eq1.out v0
    replace v1 := Eq1.out v1
    replace v2 := Eq1.out v2
    replace v3 := Eq1.out v3
    replace v4 := Eq1.out v4
    replace v5 := Eq1.out v5
    replace v6 := Eq1.out v6
    replace v7 := Eq1.out v7
    replace v8 := Eq1.out v8
    replace v9 := Eq1.out v9
    replace v10 := Eq1.out v10
    replace v11 := Eq1.out v11
    replace v12 := Eq1.out v12
    replace v13 := Eq1.out v13
    replace v14 := Eq1.out v14
    replace v15 := Eq1.out v15
    replace v16 := Eq1.out v16
    replace v17 := Eq1.out v17
    replace v18 := Eq1.out v18
    replace v19 := Eq1.out v19
    replace v20 := Eq1.out v20
    replace v21 := Eq1.out v21
    replace v22 := Eq1.out v22
    replace v23 := Eq1.out v23
    replace v24 := Eq1.out v24
    replace v25 := Eq1.out v25
    replace v26 := Eq1.out v26
    replace v27 := Eq1.out v27
    replace v28 := Eq1.out v28
    replace v29 := Eq1.out v29
    replace v30 := Eq1.out v30
    replace v31 := Eq1.out v31
    replace v32 := Eq1.out v32
    replace v33 := Eq1.out v33
    replace v34 := Eq1.out v34
    replace v35 := Eq1.out v35
    replace v36 := Eq1.out v36
    replace v37 := Eq1.out v37
    replace v38 := Eq1.out v38
    replace v39 := Eq1.out v39
    replace v40 := Eq1.out v40
    replace v41 := Eq1.out v41
    replace v42 := Eq1.out v42
    replace v43 := Eq1.out v43
    replace v44 := Eq1.out v44
    replace v45 := Eq1.out v45
    replace v46 := Eq1.out v46
    replace v47 := Eq1.out v47
    simp only [v0, v1, v2, v3, v4, v5, v6, v7, v8, v9, v10, v11, v12, v13, v14, v15, v16, v17, v18, v19, v20, v21, v22, v23, v24, v25, v26, v27, v28, v29, v30, v31, v32, v33, v34, v35, v36, v37, v38, v39, v40, v41, v42, v43, v44, v45, v46, v47, List.drop_succ_cons, List.drop_zero]
    refine wpList_nil' ?_
    have H' : Hp _ _ _ := hS
    clear hD hR hS v0 v1 v2 v3 v4 v5 v6 v7 v8 v9 v10 v11 v12 v13 v14 v15 v16 v17 v18 v19 v20 v21 v22 v23 v24 v25 v26 v27 v28 v29 v30 v31 v32 v33 v34 v35 v36 v37 v38 v39 v40 v41 v42 v43 v44 v45 v46 v47
    clear vs H
    have H := H'; clear H'; have C := Hp.facts H; simp only [Facts, factsL, and_true, true_and, List.set_cons_zero, List.set_cons_succ, List.setIfInBounds_toArray] at C
    (repeat' ((fail_if_success (with_reducible show bodyPost _ _ _ _ _ _)); first | ((with_reducible refine Hp.abs_alloc H ?_); intro b' w' H' hb'; (try simp only [hb']); clear hb'; ((try simp only [List.set_cons_zero, List.set_cons_succ, List.setIfInBounds_toArray] at H'); clear C H; have H := H'; clear H'; have C := Hp.facts H; simp only [Facts, factsL, and_true, true_and, List.set_cons_zero, List.set_cons_succ, List.setIfInBounds_toArray] at C)) | ((with_reducible show wpList _ _ _ _ _ (World.setCell _ _ _)); (with_reducible apply Hp.abs_gen H); (first | ((repeat (with_reducible apply Hp.set' 0)); (with_reducible exact H); (repeat rfl); intro w' H') | ((repeat (with_reducible apply Hp.set' 1)); (with_reducible exact H); (repeat rfl); intro w' H') | ((repeat (with_reducible apply Hp.set' 2)); (with_reducible exact H); (repeat rfl); intro w' H') | ((repeat (with_reducible apply Hp.set' 3)); (with_reducible exact H); (repeat rfl); intro w' H') | ((repeat (with_reducible apply Hp.set' 4)); (with_reducible exact H); (repeat rfl); intro w' H') | ((repeat (with_reducible apply Hp.set' 5)); (with_reducible exact H); (repeat rfl); intro w' H') | ((repeat (with_reducible apply Hp.set' 6)); (with_reducible exact H); (repeat rfl); intro w' H') | ((repeat (with_reducible apply Hp.set' 7)); (with_reducible exact H); (repeat rfl); intro w' H')); ((try simp only [List.set_cons_zero, List.set_cons_succ, List.setIfInBounds_toArray] at H'); clear C H; have H := H'; clear H'; have C := Hp.facts H; simp only [Facts, factsL, and_true, true_and, List.set_cons_zero, List.set_cons_succ, List.setIfInBounds_toArray] at C)) | go_values | go_skip | go_guarded | go_step | go_upon | go_back | (simp only [Int.not_lt, Int.not_le] at *; go_simp) | (go_values <;> (try go_simp)) | (go_ite <;> go_prune <;> (try go_simp)) | (split <;> (first | (rename_i hx; exact (hx _ rfl).elim) | go_prune))))
    go_ret
    exact ⟨rfl, H.low⟩
theorem spanParts_any (a b c d n m : Int) (ha : In64 a) (hb : In64 b) (hn : In64 n) (hm : In64 m) (w : World) :
    Calls Try.prog 8 #[.agg #[.int .i64 a, .int .i64 b], .agg #[.int .i64 c, .int .i64 d], .int .i64 n, .int .i64 m] w fun e w' => e = .returned (.bool true) ∧ Below w.heap.size w w' := by
  by_cases h : b < a
  · exact parts_none a b c d n m ha hb hn hm h w
  · exact parts_full a b c d n m ha hb hn hm (by omega) w
end Go.Proofs.Ytmmjghdobdendaa

