/- Lemmas and walks on the way to the seat's laws; each theorem says its own conditions. -/
import Derived.Test.YtldblmgmcmnepaaH16
set_option linter.unusedSimpArgs false
set_option linter.unusedVariables false
set_option maxRecDepth 100000
namespace Go.Proofs.Ytldblmgmcmnepaa
open Go.RowKit Go.Mem Go.Reg Hd Go.LawLift Oct
theorem rbytes_one (c n : Int) (m : Bool) (h : okTag ⟨c, n, m⟩ = true) (w : World) : Calls Try.prog 46 #[.agg #[.int .i64 c, .int .i64 n, .bool m]] w (OwnOne w (tagL ⟨c, n, m⟩)) := by
  obtain ⟨-, -, h0, -⟩ := okTag_iff.1 h
  obtain ⟨k, rfl⟩ := Int.eq_ofNat_of_zero_le (show 0 ≤ n from h0)
  exact rbytes_any c k m h w
set_option maxHeartbeats 8000000 in
theorem headWrites_ok0 (c n : Int) (m : Bool) (z : Int) (hz : z < 0) (h : okTag ⟨c, n, m⟩ = true) (w : World) :
    Calls Try.prog 6 #[.agg #[.int .i64 c, .int .i64 n, .bool m], .int .i64 z] w fun e w' => e = .returned (.bool true) ∧ Below w.heap.size w w' := by
  have hT := hbytes_all c n m
  have hL := hlen_all z
  have eT : tagR ⟨c, n, m⟩ = (tagL ⟨c, n, m⟩, 0) := by unfold tagR; rw [h]; rfl
  have eL : lenR z = ([], 1) := by unfold lenR; rw [if_pos hz]
  rw [eT] at hT
  rw [eL] at hL
  clear eT eL
  have H := Hp.start w
  have C : True := trivial
  go_enter Try.func6, Try.ntmps6
  (repeat' ((fail_if_success (with_reducible show bodyPost _ _ _ _ _ _)); first | ((with_reducible refine Hp.abs_alloc H ?_); intro b' w' H' hb'; (try simp only [hb']); clear hb'; ((try simp only [List.set_cons_zero, List.set_cons_succ, List.setIfInBounds_toArray] at H'); clear C H; have H := H'; clear H'; have C := Hp.facts H; simp only [Facts, factsL, and_true, true_and, List.set_cons_zero, List.set_cons_succ, List.setIfInBounds_toArray] at C)) | ((with_reducible show wpList _ _ _ _ _ (World.setCell _ _ _)); (with_reducible apply Hp.abs_gen H); (first | ((repeat (with_reducible apply Hp.set' 0)); (with_reducible exact H); (repeat rfl); intro w' H') | ((repeat (with_reducible apply Hp.set' 1)); (with_reducible exact H); (repeat rfl); intro w' H') | ((repeat (with_reducible apply Hp.set' 2)); (with_reducible exact H); (repeat rfl); intro w' H') | ((repeat (with_reducible apply Hp.set' 3)); (with_reducible exact H); (repeat rfl); intro w' H') | ((repeat (with_reducible apply Hp.set' 4)); (with_reducible exact H); (repeat rfl); intro w' H') | ((repeat (with_reducible apply Hp.set' 5)); (with_reducible exact H); (repeat rfl); intro w' H') | ((repeat (with_reducible apply Hp.set' 6)); (with_reducible exact H); (repeat rfl); intro w' H') | ((repeat (with_reducible apply Hp.set' 7)); (with_reducible exact H); (repeat rfl); intro w' H')); ((try simp only [List.set_cons_zero, List.set_cons_succ, List.setIfInBounds_toArray] at H'); clear C H; have H := H'; clear H'; have C := Hp.facts H; simp only [Facts, factsL, and_true, true_and, List.set_cons_zero, List.set_cons_succ, List.setIfInBounds_toArray] at C)) | (go_at_call 36; refine (rright_any _ _ _ _).mono ?_; rintro e' w' ⟨rfl, hb'⟩; rw [h]; (have H' := Hp.step H hb'; clear hb'; ((try simp only [List.set_cons_zero, List.set_cons_succ, List.setIfInBounds_toArray] at H'); clear C H; have H := H'; clear H'; have C := Hp.facts H; simp only [Facts, factsL, and_true, true_and, List.set_cons_zero, List.set_cons_succ, List.setIfInBounds_toArray] at C))) | (go_at_call 38; refine (lto_any _ _ _ _).mono ?_; rintro e' w' ⟨rfl, hb'⟩; (have H' := Hp.step H hb'; clear hb'; ((try simp only [List.set_cons_zero, List.set_cons_succ, List.setIfInBounds_toArray] at H'); clear C H; have H := H'; clear H'; have C := Hp.facts H; simp only [Facts, factsL, and_true, true_and, List.set_cons_zero, List.set_cons_succ, List.setIfInBounds_toArray] at C))) | go_values | go_skip | go_guarded | go_step | go_upon | go_back | (simp only [Int.not_lt, Int.not_le] at *; go_simp) | (go_values <;> (try go_simp)) | (go_ite <;> go_prune <;> (try go_simp)) | (split <;> (first | (rename_i hx; exact (hx _ rfl).elim) | go_prune))))
  refine (hT _).mono ?_
  (rintro e' w' ⟨⟨v', rfl, ho⟩, hb'⟩; have H' := Hp.rowOf H hb' ho; obtain ⟨A1, c1, rfl⟩ := Go.LawLift.own_form ho; clear ho hb'; ((try simp only [List.set_cons_zero, List.set_cons_succ, List.setIfInBounds_toArray] at H'); clear C H; have H := H'; clear H'; have C := Hp.facts H; simp only [Facts, factsL, and_true, true_and, List.set_cons_zero, List.set_cons_succ, List.setIfInBounds_toArray] at C))
  (repeat' ((fail_if_success (with_reducible show bodyPost _ _ _ _ _ _)); first | ((with_reducible refine Hp.abs_alloc H ?_); intro b' w' H' hb'; (try simp only [hb']); clear hb'; ((try simp only [List.set_cons_zero, List.set_cons_succ, List.setIfInBounds_toArray] at H'); clear C H; have H := H'; clear H'; have C := Hp.facts H; simp only [Facts, factsL, and_true, true_and, List.set_cons_zero, List.set_cons_succ, List.setIfInBounds_toArray] at C)) | ((with_reducible show wpList _ _ _ _ _ (World.setCell _ _ _)); (with_reducible apply Hp.abs_gen H); (first | ((repeat (with_reducible apply Hp.set' 0)); (with_reducible exact H); (repeat rfl); intro w' H') | ((repeat (with_reducible apply Hp.set' 1)); (with_reducible exact H); (repeat rfl); intro w' H') | ((repeat (with_reducible apply Hp.set' 2)); (with_reducible exact H); (repeat rfl); intro w' H') | ((repeat (with_reducible apply Hp.set' 3)); (with_reducible exact H); (repeat rfl); intro w' H') | ((repeat (with_reducible apply Hp.set' 4)); (with_reducible exact H); (repeat rfl); intro w' H') | ((repeat (with_reducible apply Hp.set' 5)); (with_reducible exact H); (repeat rfl); intro w' H') | ((repeat (with_reducible apply Hp.set' 6)); (with_reducible exact H); (repeat rfl); intro w' H') | ((repeat (with_reducible apply Hp.set' 7)); (with_reducible exact H); (repeat rfl); intro w' H')); ((try simp only [List.set_cons_zero, List.set_cons_succ, List.setIfInBounds_toArray] at H'); clear C H; have H := H'; clear H'; have C := Hp.facts H; simp only [Facts, factsL, and_true, true_and, List.set_cons_zero, List.set_cons_succ, List.setIfInBounds_toArray] at C)) | go_values | go_skip | go_guarded | go_step | go_upon | go_back | (simp only [Int.not_lt, Int.not_le] at *; go_simp) | (go_values <;> (try go_simp)) | (go_ite <;> go_prune <;> (try go_simp)) | (split <;> (first | (rename_i hx; exact (hx _ rfl).elim) | go_prune))))
  refine (hL _).mono ?_
  (rintro e' w' ⟨⟨v', rfl, ho⟩, hb'⟩; have H' := Hp.rowOf H hb' ho; obtain ⟨A2, c2, rfl⟩ := Go.LawLift.own_form ho; clear ho hb'; ((try simp only [List.set_cons_zero, List.set_cons_succ, List.setIfInBounds_toArray] at H'); clear C H; have H := H'; clear H'; have C := Hp.facts H; simp only [Facts, factsL, and_true, true_and, List.set_cons_zero, List.set_cons_succ, List.setIfInBounds_toArray] at C))
  (repeat' ((fail_if_success (with_reducible show bodyPost _ _ _ _ _ _)); first | ((with_reducible refine Hp.abs_alloc H ?_); intro b' w' H' hb'; (try simp only [hb']); clear hb'; ((try simp only [List.set_cons_zero, List.set_cons_succ, List.setIfInBounds_toArray] at H'); clear C H; have H := H'; clear H'; have C := Hp.facts H; simp only [Facts, factsL, and_true, true_and, List.set_cons_zero, List.set_cons_succ, List.setIfInBounds_toArray] at C)) | ((with_reducible show wpList _ _ _ _ _ (World.setCell _ _ _)); (with_reducible apply Hp.abs_gen H); (first | ((repeat (with_reducible apply Hp.set' 0)); (with_reducible exact H); (repeat rfl); intro w' H') | ((repeat (with_reducible apply Hp.set' 1)); (with_reducible exact H); (repeat rfl); intro w' H') | ((repeat (with_reducible apply Hp.set' 2)); (with_reducible exact H); (repeat rfl); intro w' H') | ((repeat (with_reducible apply Hp.set' 3)); (with_reducible exact H); (repeat rfl); intro w' H') | ((repeat (with_reducible apply Hp.set' 4)); (with_reducible exact H); (repeat rfl); intro w' H') | ((repeat (with_reducible apply Hp.set' 5)); (with_reducible exact H); (repeat rfl); intro w' H') | ((repeat (with_reducible apply Hp.set' 6)); (with_reducible exact H); (repeat rfl); intro w' H') | ((repeat (with_reducible apply Hp.set' 7)); (with_reducible exact H); (repeat rfl); intro w' H')); ((try simp only [List.set_cons_zero, List.set_cons_succ, List.setIfInBounds_toArray] at H'); clear C H; have H := H'; clear H'; have C := Hp.facts H; simp only [Facts, factsL, and_true, true_and, List.set_cons_zero, List.set_cons_succ, List.setIfInBounds_toArray] at C)) | go_values | go_skip | go_guarded | go_step | go_upon | go_back | (simp only [Int.not_lt, Int.not_le] at *; go_simp) | (go_values <;> (try go_simp)) | (go_ite <;> go_prune <;> (try go_simp)) | (split <;> (first | (rename_i hx; exact (hx _ rfl).elim) | go_prune))))
  try simp (disch := omega) only [decide_eq_true, decide_eq_false]
  obtain ⟨wR4, rfl⟩ := Hp.nameW H
  apply region_n (frm wR4.heap.size (fun _ => Hp _ _)) (frm_ok ?hfs_1) frm_sz [] [.light 0 0, .light 0 0, .light 0 0, .light 0 0, .light 0 0, .light 0 0, .light 0 0, .light 0 0, .light 0 0, .light 0 0, .light 0 0, .light 0 0, .light 0 0, .light 0 0, .light 0 0, .light 0 0, .light 0 0, .light 0 0, .light 0 0, .light 0 0, .light 0 0, .light 0 0, .light 0 0, .light 0 0, .light 0 0] [false, false, false, false, false, false, false, false, false, false, false, false, false, false, false, false, false, false, false, false, false, false, false, false, false] 25 112 [] [some 23, some 24, some 25, some 26, some 27, some 28, some 29, some 30, some 31, some 32, some 33, some 34, some 35, some 36, some 37, some 38, some 39, some 40, some 41, some 42, some 43, some 44, some 45, some 46, some 47] [[], [0], [1], [], [2, 3], [4], [5], [5, 6], [5, 7], [5], [5, 9], [5, 8, 10], [5, 11], [12], [13], [13], [13, 15], [13, 14, 16], [13, 17], [13], [13], [13, 20], [13, 19, 21], [13, 18, 22], [13, 23]] [Eq1 _, Eq1 _, Eq1 _, Eq1 _, Eq1 (.bool false), Eq1 _, Eq1 _, Eq1 _, Eq1 _, Eq1 _, Eq1 _, Eq1 (.bool false), Eq1 _, Eq1 _, Eq1 _, Eq1 _, Eq1 _, Eq1 _, Eq1 _, Eq1 _, Eq1 _, Eq1 _, Eq1 _, Eq1 (.bool false), Eq1 _] ?hq1_1 ?hq2_1 ?hq3_1 ?hq4_1 ?hq5_1 ?hq6_1 _ ?hA_1 ?hst_1 ?h0_1 ?hsteps_1 ?hend_1
  case hq1_1 => kernel_rfl
  case hq2_1 => kernel_rfl
  case hq3_1 => kernel_rfl
  case hq5_1 => kernel_rfl
  case hq4_1 => rfl
  case hq6_1 => rfl
  case hA_1 => intro vs; simp only [fillD, Nat.reduceAdd, Act.put, List.setIfInBounds_toArray, List.set_cons_zero, List.set_cons_succ]; rfl
  case h0_1 => exact H.drew
  case hfs_1 => exact fun _ _ _ hb h => Hp.step h hb
  case hsteps_1 =>
    refine ⟨?_, ?_, ?_, ?_, ?_, ?_, ?_, ?_, ?_, ?_, ?_, ?_, ?_, ?_, ?_, ?_, ?_, ?_, ?_, ?_, ?_, ?_, ?_, ?_, ?_, trivial⟩
    · intro p vs w' K hJ hp1 hp2 hS hR hK
      rw [if_pos (by rfl)]
      have C := Hp.facts hS
      simp only [Facts, factsL, and_true, true_and, List.set_cons_zero, List.set_cons_succ, List.setIfInBounds_toArray] at C
      have hsz := hR.1
      go_step
      exact hK.out _ _ (Below.refl _ _) Eq1.mk Fresh.no
    · intro p vs w' K hJ hp1 hp2 hS hR hK
      simp only [DepJ, List.getD_cons_zero, List.getD_cons_succ] at hJ
      obtain ⟨j0, -⟩ := hJ
      have j0 := Eq1.out j0
      simp only [j0] at hK ⊢
      rw [if_pos (by rfl)]
      have C := Hp.facts hS
      simp only [Facts, factsL, and_true, true_and, List.set_cons_zero, List.set_cons_succ, List.setIfInBounds_toArray] at C
      have hsz := hR.1
      go_step
      refine (lto_any _ _ _ _).mono ?_
      rintro e' w'' ⟨rfl, hb⟩
      exact hK.out _ _ hb Eq1.mk Fresh.no
    · intro p vs w' K hJ hp1 hp2 hS hR hK
      simp only [DepJ, List.getD_cons_zero, List.getD_cons_succ] at hJ
      obtain ⟨j1, -⟩ := hJ
      have j1 := Eq1.out j1
      simp only [j1] at hK ⊢
      rw [if_pos (by rfl)]
      have C := Hp.facts hS
      simp only [Facts, factsL, and_true, true_and, List.set_cons_zero, List.set_cons_succ, List.setIfInBounds_toArray] at C
      have hsz := hR.1
      go_step
      refine (hright_any _ _ _ _).mono ?_
      rintro e' w'' ⟨rfl, hb⟩
      rw [h]
      exact hK.out _ _ hb Eq1.mk Fresh.no
    · intro p vs w' K hJ hp1 hp2 hS hR hK
      rw [if_pos (by rfl)]
      go_step
      exact hK.out _ _ (Below.refl _ _) Eq1.mk Fresh.no
    · intro p vs w' K hJ hp1 hp2 hS hR hK
      simp only [DepJ, List.getD_cons_zero, List.getD_cons_succ] at hJ
      obtain ⟨j2, j3, -⟩ := hJ
      have j2 := Eq1.out j2
      have j3 := Eq1.out j3
      simp only [j2, j3] at hK ⊢
      rw [if_pos (by rfl)]
      go_step
      exact hK.out _ _ (Below.refl _ _) (Eq1.of (by simp)) Fresh.no
    · intro p vs w' K hJ hp1 hp2 hS hR hK
      simp only [DepJ, List.getD_cons_zero, List.getD_cons_succ] at hJ
      obtain ⟨j4, -⟩ := hJ
      have j4 := Eq1.out j4
      simp only [j4] at hK ⊢
      rw [if_pos (by rfl)]
      go_step
      exact hK.out _ _ (Below.refl _ _) Eq1.mk Fresh.no
    · intro p vs w' K hJ hp1 hp2 hS hR hK
      simp only [DepJ, List.getD_cons_zero, List.getD_cons_succ] at hJ
      obtain ⟨j5, -⟩ := hJ
      have j5 := Eq1.out j5
      simp only [j5] at hK ⊢
      rw [if_pos (by rfl)]
      go_step
      exact hK.out _ _ (Below.refl _ _) Eq1.mk Fresh.no
    · intro p vs w' K hJ hp1 hp2 hS hR hK
      simp only [DepJ, List.getD_cons_zero, List.getD_cons_succ] at hJ
      obtain ⟨j5, j6, -⟩ := hJ
      have j5 := Eq1.out j5
      have j6 := Eq1.out j6
      simp only [j5, j6] at hK ⊢
      rw [if_pos (by rfl)]
      have C := Hp.facts hS
      simp only [Facts, factsL, and_true, true_and, List.set_cons_zero, List.set_cons_succ, List.setIfInBounds_toArray] at C
      have hsz := hR.1
      go_step
      refine (hof_any _ _).mono ?_
      rintro e' w'' ⟨rfl, hb⟩
      exact hK.out _ _ hb Eq1.mk Fresh.no
    · intro p vs w' K hJ hp1 hp2 hS hR hK
      simp only [DepJ, List.getD_cons_zero, List.getD_cons_succ] at hJ
      obtain ⟨j5, j7, -⟩ := hJ
      have j5 := Eq1.out j5
      have j7 := Eq1.out j7
      simp only [j5, j7] at hK ⊢
      rw [if_pos (by rfl)]
      have C := Hp.facts hS
      simp only [Facts, factsL, and_true, true_and, List.set_cons_zero, List.set_cons_succ, List.setIfInBounds_toArray] at C
      have hsz := hR.1
      go_step
      refine (lof_any _ _ _ _).mono ?_
      rintro e' w'' ⟨rfl, hb⟩
      exact hK.out _ _ hb Eq1.mk Fresh.no
    · intro p vs w' K hJ hp1 hp2 hS hR hK
      simp only [DepJ, List.getD_cons_zero, List.getD_cons_succ] at hJ
      obtain ⟨j5, -⟩ := hJ
      have j5 := Eq1.out j5
      simp only [j5] at hK ⊢
      rw [if_pos (by rfl)]
      go_step
      exact hK.out _ _ (Below.refl _ _) Eq1.mk Fresh.no
    · intro p vs w' K hJ hp1 hp2 hS hR hK
      simp only [DepJ, List.getD_cons_zero, List.getD_cons_succ] at hJ
      obtain ⟨j5, j9, -⟩ := hJ
      have j5 := Eq1.out j5
      have j9 := Eq1.out j9
      simp only [j5, j9] at hK ⊢
      rw [if_pos (by rfl)]
      have C := Hp.facts hS
      simp only [Facts, factsL, and_true, true_and, List.set_cons_zero, List.set_cons_succ, List.setIfInBounds_toArray] at C
      have hsz := hR.1
      go_step
      refine (rof_any _ _).mono ?_
      rintro e' w'' ⟨rfl, hb⟩
      exact hK.out _ _ hb Eq1.mk Fresh.no
    · intro p vs w' K hJ hp1 hp2 hS hR hK
      simp only [DepJ, List.getD_cons_zero, List.getD_cons_succ] at hJ
      obtain ⟨j5, j8, j10, -⟩ := hJ
      have j5 := Eq1.out j5
      have j8 := Eq1.out j8
      have j10 := Eq1.out j10
      simp only [j5, j8, j10] at hK ⊢
      rw [if_pos (by rfl)]
      go_step
      exact hK.out _ _ (Below.refl _ _) (Eq1.of (by simp)) Fresh.no
    · intro p vs w' K hJ hp1 hp2 hS hR hK
      simp only [DepJ, List.getD_cons_zero, List.getD_cons_succ] at hJ
      obtain ⟨j5, j11, -⟩ := hJ
      have j5 := Eq1.out j5
      have j11 := Eq1.out j11
      simp only [j5, j11] at hK ⊢
      rw [if_pos (by rfl)]
      go_step
      exact hK.out _ _ (Below.refl _ _) Eq1.mk Fresh.no
    · intro p vs w' K hJ hp1 hp2 hS hR hK
      simp only [DepJ, List.getD_cons_zero, List.getD_cons_succ] at hJ
      obtain ⟨j12, -⟩ := hJ
      have j12 := Eq1.out j12
      simp only [j12] at hK ⊢
      rw [if_pos (by rfl)]
      go_step
      exact hK.out _ _ (Below.refl _ _) Eq1.mk Fresh.no
    · intro p vs w' K hJ hp1 hp2 hS hR hK
      simp only [DepJ, List.getD_cons_zero, List.getD_cons_succ] at hJ
      obtain ⟨j13, -⟩ := hJ
      have j13 := Eq1.out j13
      simp only [j13] at hK ⊢
      rw [if_pos (by rfl)]
      go_step
      exact hK.out _ _ (Below.refl _ _) Eq1.mk Fresh.no
    · intro p vs w' K hJ hp1 hp2 hS hR hK
      simp only [DepJ, List.getD_cons_zero, List.getD_cons_succ] at hJ
      obtain ⟨j13, -⟩ := hJ
      have j13 := Eq1.out j13
      simp only [j13] at hK ⊢
      rw [if_pos (by rfl)]
      go_step
      exact hK.out _ _ (Below.refl _ _) Eq1.mk Fresh.no
    · intro p vs w' K hJ hp1 hp2 hS hR hK
      simp only [DepJ, List.getD_cons_zero, List.getD_cons_succ] at hJ
      obtain ⟨j13, j15, -⟩ := hJ
      have j13 := Eq1.out j13
      have j15 := Eq1.out j15
      simp only [j13, j15] at hK ⊢
      rw [if_pos (by rfl)]
      have C := Hp.facts hS
      simp only [Facts, factsL, and_true, true_and, List.set_cons_zero, List.set_cons_succ, List.setIfInBounds_toArray] at C
      have hsz := hR.1
      go_step
      exact hK.out _ _ (Below.refl _ _) Eq1.mk Fresh.no
    · intro p vs w' K hJ hp1 hp2 hS hR hK
      simp only [DepJ, List.getD_cons_zero, List.getD_cons_succ] at hJ
      obtain ⟨j13, j14, j16, -⟩ := hJ
      have j13 := Eq1.out j13
      have j14 := Eq1.out j14
      have j16 := Eq1.out j16
      simp only [j13, j14, j16] at hK ⊢
      rw [if_pos (by rfl)]
      have C := Hp.facts hS
      simp only [Facts, factsL, and_true, true_and, List.set_cons_zero, List.set_cons_succ, List.setIfInBounds_toArray] at C
      have hsz := hR.1
      go_step
      refine (hat_any _ _ _).mono ?_
      rintro e' w'' ⟨rfl, hb⟩
      exact hK.out _ _ hb Eq1.mk Fresh.no
    · intro p vs w' K hJ hp1 hp2 hS hR hK
      simp only [DepJ, List.getD_cons_zero, List.getD_cons_succ] at hJ
      obtain ⟨j13, j17, -⟩ := hJ
      have j13 := Eq1.out j13
      have j17 := Eq1.out j17
      simp only [j13, j17] at hK ⊢
      rw [if_pos (by rfl)]
      have C := Hp.facts hS
      simp only [Facts, factsL, and_true, true_and, List.set_cons_zero, List.set_cons_succ, List.setIfInBounds_toArray] at C
      have hsz := hR.1
      go_step
      refine (lof_any _ _ _ _).mono ?_
      rintro e' w'' ⟨rfl, hb⟩
      exact hK.out _ _ hb Eq1.mk Fresh.no
    · intro p vs w' K hJ hp1 hp2 hS hR hK
      simp only [DepJ, List.getD_cons_zero, List.getD_cons_succ] at hJ
      obtain ⟨j13, -⟩ := hJ
      have j13 := Eq1.out j13
      simp only [j13] at hK ⊢
      rw [if_pos (by rfl)]
      go_step
      exact hK.out _ _ (Below.refl _ _) Eq1.mk Fresh.no
    · intro p vs w' K hJ hp1 hp2 hS hR hK
      simp only [DepJ, List.getD_cons_zero, List.getD_cons_succ] at hJ
      obtain ⟨j13, -⟩ := hJ
      have j13 := Eq1.out j13
      simp only [j13] at hK ⊢
      rw [if_pos (by rfl)]
      go_step
      exact hK.out _ _ (Below.refl _ _) Eq1.mk Fresh.no
    · intro p vs w' K hJ hp1 hp2 hS hR hK
      simp only [DepJ, List.getD_cons_zero, List.getD_cons_succ] at hJ
      obtain ⟨j13, j20, -⟩ := hJ
      have j13 := Eq1.out j13
      have j20 := Eq1.out j20
      simp only [j13, j20] at hK ⊢
      rw [if_pos (by rfl)]
      have C := Hp.facts hS
      simp only [Facts, factsL, and_true, true_and, List.set_cons_zero, List.set_cons_succ, List.setIfInBounds_toArray] at C
      have hsz := hR.1
      go_step
      exact hK.out _ _ (Below.refl _ _) Eq1.mk Fresh.no
    · intro p vs w' K hJ hp1 hp2 hS hR hK
      simp only [DepJ, List.getD_cons_zero, List.getD_cons_succ] at hJ
      obtain ⟨j13, j19, j21, -⟩ := hJ
      have j13 := Eq1.out j13
      have j19 := Eq1.out j19
      have j21 := Eq1.out j21
      simp only [j13, j19, j21] at hK ⊢
      rw [if_pos (by rfl)]
      have C := Hp.facts hS
      simp only [Facts, factsL, and_true, true_and, List.set_cons_zero, List.set_cons_succ, List.setIfInBounds_toArray] at C
      have hsz := hR.1
      go_step
      refine (rat_any _ _ _).mono ?_
      rintro e' w'' ⟨rfl, hb⟩
      exact hK.out _ _ hb Eq1.mk Fresh.no
    · intro p vs w' K hJ hp1 hp2 hS hR hK
      simp only [DepJ, List.getD_cons_zero, List.getD_cons_succ] at hJ
      obtain ⟨j13, j18, j22, -⟩ := hJ
      have j13 := Eq1.out j13
      have j18 := Eq1.out j18
      have j22 := Eq1.out j22
      simp only [j13, j18, j22] at hK ⊢
      rw [if_pos (by rfl)]
      go_step
      exact hK.out _ _ (Below.refl _ _) (Eq1.of (by simp)) Fresh.no
    · intro p vs w' K hJ hp1 hp2 hS hR hK
      simp only [DepJ, List.getD_cons_zero, List.getD_cons_succ] at hJ
      obtain ⟨j13, j23, -⟩ := hJ
      have j13 := Eq1.out j13
      have j23 := Eq1.out j23
      simp only [j13, j23] at hK ⊢
      rw [if_pos (by rfl)]
      go_step
      exact hK.out _ _ (Below.refl _ _) Eq1.mk Fresh.no
  case hst_1 => refine ⟨fun _ _ _ _ h => h, fun _ _ _ _ h => h, fun _ _ _ _ h => h, fun _ _ _ _ h => h, fun _ _ _ _ h => h, fun _ _ _ _ h => h, fun _ _ _ _ h => h, fun _ _ _ _ h => h, fun _ _ _ _ h => h, fun _ _ _ _ h => h, fun _ _ _ _ h => h, fun _ _ _ _ h => h, fun _ _ _ _ h => h, fun _ _ _ _ h => h, fun _ _ _ _ h => h, fun _ _ _ _ h => h, fun _ _ _ _ h => h, fun _ _ _ _ h => h, fun _ _ _ _ h => h, fun _ _ _ _ h => h, fun _ _ _ _ h => h, fun _ _ _ _ h => h, fun _ _ _ _ h => h, fun _ _ _ _ h => h, fun _ _ _ _ h => h, trivial⟩
  intro vs w' hJ hD hS hR
  simp only [AllJ, Nat.reduceAdd] at hJ
  obtain ⟨v0, v1, v2, v3, v4, v5, v6, v7, v8, v9, v10, v11, v12, v13, v14, v15, v16, v17, v18, v19, v20, v21, v22, v23, v24, -⟩ := hJ
  clear C
  replace v0 := Eq1.out v0
  replace v1 := Eq1.out v1
  replace v2 := Eq1.out v2
  replace v3 := Eq1.out v3
  replace v4 := Eq1.out v4
  replace v5 := Eq1.out v5
  replace v6 := Eq1.out v6
  replace v7 := Eq1.out v7
  replace v8 := Eq1.out v8
  replace v9 := Eq1.out v9
  replace v10 := Eq1.out v10
  replace v11 := Eq1.out v11
  replace v12 := Eq1.out v12
  replace v13 := Eq1.out v13
  replace v14 := Eq1.out v14
  replace v15 := Eq1.out v15
  replace v16 := Eq1.out v16
  replace v17 := Eq1.out v17
  replace v18 := Eq1.out v18
  replace v19 := Eq1.out v19
  replace v20 := Eq1.out v20
  replace v21 := Eq1.out v21
  replace v22 := Eq1.out v22
  replace v23 := Eq1.out v23
  replace v24 := Eq1.out v24
  simp only [v0, v1, v2, v3, v4, v5, v6, v7, v8, v9, v10, v11, v12, v13, v14, v15, v16, v17, v18, v19, v20, v21, v22, v23, v24, List.drop_succ_cons, List.drop_zero]
  refine wpList_nil' ?_
  have H' : Hp _ _ _ := hS
  clear hD hR hS v0 v1 v2 v3 v4 v5 v6 v7 v8 v9 v10 v11 v12 v13 v14 v15 v16 v17 v18 v19 v20 v21 v22 v23 v24
  clear vs H
  have H := H'; clear H'; have C := Hp.facts H; simp only [Facts, factsL, and_true, true_and, List.set_cons_zero, List.set_cons_succ, List.setIfInBounds_toArray] at C
  (repeat' ((fail_if_success (with_reducible show bodyPost _ _ _ _ _ _)); first | ((with_reducible refine Hp.abs_alloc H ?_); intro b' w' H' hb'; (try simp only [hb']); clear hb'; ((try simp only [List.set_cons_zero, List.set_cons_succ, List.setIfInBounds_toArray] at H'); clear C H; have H := H'; clear H'; have C := Hp.facts H; simp only [Facts, factsL, and_true, true_and, List.set_cons_zero, List.set_cons_succ, List.setIfInBounds_toArray] at C)) | ((with_reducible show wpList _ _ _ _ _ (World.setCell _ _ _)); (with_reducible apply Hp.abs_gen H); (first | ((repeat (with_reducible apply Hp.set' 0)); (with_reducible exact H); (repeat rfl); intro w' H') | ((repeat (with_reducible apply Hp.set' 1)); (with_reducible exact H); (repeat rfl); intro w' H') | ((repeat (with_reducible apply Hp.set' 2)); (with_reducible exact H); (repeat rfl); intro w' H') | ((repeat (with_reducible apply Hp.set' 3)); (with_reducible exact H); (repeat rfl); intro w' H') | ((repeat (with_reducible apply Hp.set' 4)); (with_reducible exact H); (repeat rfl); intro w' H') | ((repeat (with_reducible apply Hp.set' 5)); (with_reducible exact H); (repeat rfl); intro w' H') | ((repeat (with_reducible apply Hp.set' 6)); (with_reducible exact H); (repeat rfl); intro w' H') | ((repeat (with_reducible apply Hp.set' 7)); (with_reducible exact H); (repeat rfl); intro w' H')); ((try simp only [List.set_cons_zero, List.set_cons_succ, List.setIfInBounds_toArray] at H'); clear C H; have H := H'; clear H'; have C := Hp.facts H; simp only [Facts, factsL, and_true, true_and, List.set_cons_zero, List.set_cons_succ, List.setIfInBounds_toArray] at C)) | go_values | go_skip | go_guarded | go_step | go_upon | go_back | (simp only [Int.not_lt, Int.not_le] at *; go_simp) | (go_values <;> (try go_simp)) | (go_ite <;> go_prune <;> (try go_simp)) | (split <;> (first | (rename_i hx; exact (hx _ rfl).elim) | go_prune))))
  refine (rbytes_one c n m h _).mono ?_
  (rintro e' w' ⟨⟨v', rfl, ho⟩, hb'⟩; have H' := Hp.rowOf H hb' ho; obtain ⟨A3, c3, rfl⟩ := Go.LawLift.own_form ho; clear ho hb'; ((try simp only [List.set_cons_zero, List.set_cons_succ, List.setIfInBounds_toArray] at H'); clear C H; have H := H'; clear H'; have C := Hp.facts H; simp only [Facts, factsL, and_true, true_and, List.set_cons_zero, List.set_cons_succ, List.setIfInBounds_toArray] at C))
  have hTl := tagL_len ⟨c, n, m⟩
  generalize tagL ⟨c, n, m⟩ = T at *
  (repeat' ((fail_if_success (with_reducible show bodyPost _ _ _ _ _ _)); first | ((with_reducible refine Hp.abs_alloc H ?_); intro b' w' H' hb'; (try simp only [hb']); clear hb'; ((try simp only [List.set_cons_zero, List.set_cons_succ, List.setIfInBounds_toArray] at H'); clear C H; have H := H'; clear H'; have C := Hp.facts H; simp only [Facts, factsL, and_true, true_and, List.set_cons_zero, List.set_cons_succ, List.setIfInBounds_toArray] at C)) | ((with_reducible show wpList _ _ _ _ _ (World.setCell _ _ _)); (with_reducible apply Hp.abs_gen H); (first | ((repeat (with_reducible apply Hp.set' 0)); (with_reducible exact H); (repeat rfl); intro w' H') | ((repeat (with_reducible apply Hp.set' 1)); (with_reducible exact H); (repeat rfl); intro w' H') | ((repeat (with_reducible apply Hp.set' 2)); (with_reducible exact H); (repeat rfl); intro w' H') | ((repeat (with_reducible apply Hp.set' 3)); (with_reducible exact H); (repeat rfl); intro w' H') | ((repeat (with_reducible apply Hp.set' 4)); (with_reducible exact H); (repeat rfl); intro w' H') | ((repeat (with_reducible apply Hp.set' 5)); (with_reducible exact H); (repeat rfl); intro w' H') | ((repeat (with_reducible apply Hp.set' 6)); (with_reducible exact H); (repeat rfl); intro w' H') | ((repeat (with_reducible apply Hp.set' 7)); (with_reducible exact H); (repeat rfl); intro w' H')); ((try simp only [List.set_cons_zero, List.set_cons_succ, List.setIfInBounds_toArray] at H'); clear C H; have H := H'; clear H'; have C := Hp.facts H; simp only [Facts, factsL, and_true, true_and, List.set_cons_zero, List.set_cons_succ, List.setIfInBounds_toArray] at C)) | go_values | go_skip | go_guarded | go_step | go_upon | go_back | (simp only [Int.not_lt, Int.not_le] at *; go_simp) | (go_values <;> (try go_simp)) | (go_ite <;> go_prune <;> (try go_simp)) | (split <;> (first | (rename_i hx; exact (hx _ rfl).elim) | go_prune))))
  refine (same_any T T _ _ _ (Hp.row H 2 rfl) (Hp.row H 0 rfl) (by omega) (by omega)).mono ?_
  rintro e' w' ⟨rfl, hb'⟩
  rw [decide_eq_true (rfl : T = T)]
  (have H' := Hp.step H hb'; clear hb'; ((try simp only [List.set_cons_zero, List.set_cons_succ, List.setIfInBounds_toArray] at H'); clear C H; have H := H'; clear H'; have C := Hp.facts H; simp only [Facts, factsL, and_true, true_and, List.set_cons_zero, List.set_cons_succ, List.setIfInBounds_toArray] at C))
  (repeat' ((fail_if_success (with_reducible show bodyPost _ _ _ _ _ _)); first | ((with_reducible refine Hp.abs_alloc H ?_); intro b' w' H' hb'; (try simp only [hb']); clear hb'; ((try simp only [List.set_cons_zero, List.set_cons_succ, List.setIfInBounds_toArray] at H'); clear C H; have H := H'; clear H'; have C := Hp.facts H; simp only [Facts, factsL, and_true, true_and, List.set_cons_zero, List.set_cons_succ, List.setIfInBounds_toArray] at C)) | ((with_reducible show wpList _ _ _ _ _ (World.setCell _ _ _)); (with_reducible apply Hp.abs_gen H); (first | ((repeat (with_reducible apply Hp.set' 0)); (with_reducible exact H); (repeat rfl); intro w' H') | ((repeat (with_reducible apply Hp.set' 1)); (with_reducible exact H); (repeat rfl); intro w' H') | ((repeat (with_reducible apply Hp.set' 2)); (with_reducible exact H); (repeat rfl); intro w' H') | ((repeat (with_reducible apply Hp.set' 3)); (with_reducible exact H); (repeat rfl); intro w' H') | ((repeat (with_reducible apply Hp.set' 4)); (with_reducible exact H); (repeat rfl); intro w' H') | ((repeat (with_reducible apply Hp.set' 5)); (with_reducible exact H); (repeat rfl); intro w' H') | ((repeat (with_reducible apply Hp.set' 6)); (with_reducible exact H); (repeat rfl); intro w' H') | ((repeat (with_reducible apply Hp.set' 7)); (with_reducible exact H); (repeat rfl); intro w' H')); ((try simp only [List.set_cons_zero, List.set_cons_succ, List.setIfInBounds_toArray] at H'); clear C H; have H := H'; clear H'; have C := Hp.facts H; simp only [Facts, factsL, and_true, true_and, List.set_cons_zero, List.set_cons_succ, List.setIfInBounds_toArray] at C)) | (go_at_call 47; refine (known_any2 _).mono ?_; rintro e' w' ⟨rfl, hb'⟩; (have H' := Hp.step H hb'; clear hb'; ((try simp only [List.set_cons_zero, List.set_cons_succ, List.setIfInBounds_toArray] at H'); clear C H; have H := H'; clear H'; have C := Hp.facts H; simp only [Facts, factsL, and_true, true_and, List.set_cons_zero, List.set_cons_succ, List.setIfInBounds_toArray] at C))) | go_values | go_skip | go_guarded | go_step | go_upon | go_back | (simp only [Int.not_lt, Int.not_le] at *; go_simp) | (go_values <;> (try go_simp)) | (go_ite <;> go_prune <;> (try go_simp)) | (split <;> (first | (rename_i hx; exact (hx _ rfl).elim) | go_prune))))
  go_ret
  exact ⟨rfl, H.low⟩
set_option maxHeartbeats 8000000 in
theorem headWrites_ok1 (c n : Int) (m : Bool) (z : Int) (hz : 16777216 < z) (h : okTag ⟨c, n, m⟩ = true) (w : World) :
    Calls Try.prog 6 #[.agg #[.int .i64 c, .int .i64 n, .bool m], .int .i64 z] w fun e w' => e = .returned (.bool true) ∧ Below w.heap.size w w' := by
  have hT := hbytes_all c n m
  have hL := hlen_all z
  have eT : tagR ⟨c, n, m⟩ = (tagL ⟨c, n, m⟩, 0) := by unfold tagR; rw [h]; rfl
  have eL : lenR z = ([], 2) := by unfold lenR; rw [if_neg (by omega), if_pos hz]
  rw [eT] at hT
  rw [eL] at hL
  clear eT eL
  have H := Hp.start w
  have C : True := trivial
  go_enter Try.func6, Try.ntmps6
  (repeat' ((fail_if_success (with_reducible show bodyPost _ _ _ _ _ _)); first | ((with_reducible refine Hp.abs_alloc H ?_); intro b' w' H' hb'; (try simp only [hb']); clear hb'; ((try simp only [List.set_cons_zero, List.set_cons_succ, List.setIfInBounds_toArray] at H'); clear C H; have H := H'; clear H'; have C := Hp.facts H; simp only [Facts, factsL, and_true, true_and, List.set_cons_zero, List.set_cons_succ, List.setIfInBounds_toArray] at C)) | ((with_reducible show wpList _ _ _ _ _ (World.setCell _ _ _)); (with_reducible apply Hp.abs_gen H); (first | ((repeat (with_reducible apply Hp.set' 0)); (with_reducible exact H); (repeat rfl); intro w' H') | ((repeat (with_reducible apply Hp.set' 1)); (with_reducible exact H); (repeat rfl); intro w' H') | ((repeat (with_reducible apply Hp.set' 2)); (with_reducible exact H); (repeat rfl); intro w' H') | ((repeat (with_reducible apply Hp.set' 3)); (with_reducible exact H); (repeat rfl); intro w' H') | ((repeat (with_reducible apply Hp.set' 4)); (with_reducible exact H); (repeat rfl); intro w' H') | ((repeat (with_reducible apply Hp.set' 5)); (with_reducible exact H); (repeat rfl); intro w' H') | ((repeat (with_reducible apply Hp.set' 6)); (with_reducible exact H); (repeat rfl); intro w' H') | ((repeat (with_reducible apply Hp.set' 7)); (with_reducible exact H); (repeat rfl); intro w' H')); ((try simp only [List.set_cons_zero, List.set_cons_succ, List.setIfInBounds_toArray] at H'); clear C H; have H := H'; clear H'; have C := Hp.facts H; simp only [Facts, factsL, and_true, true_and, List.set_cons_zero, List.set_cons_succ, List.setIfInBounds_toArray] at C)) | (go_at_call 36; refine (rright_any _ _ _ _).mono ?_; rintro e' w' ⟨rfl, hb'⟩; rw [h]; (have H' := Hp.step H hb'; clear hb'; ((try simp only [List.set_cons_zero, List.set_cons_succ, List.setIfInBounds_toArray] at H'); clear C H; have H := H'; clear H'; have C := Hp.facts H; simp only [Facts, factsL, and_true, true_and, List.set_cons_zero, List.set_cons_succ, List.setIfInBounds_toArray] at C))) | (go_at_call 38; refine (lto_any _ _ _ _).mono ?_; rintro e' w' ⟨rfl, hb'⟩; (have H' := Hp.step H hb'; clear hb'; ((try simp only [List.set_cons_zero, List.set_cons_succ, List.setIfInBounds_toArray] at H'); clear C H; have H := H'; clear H'; have C := Hp.facts H; simp only [Facts, factsL, and_true, true_and, List.set_cons_zero, List.set_cons_succ, List.setIfInBounds_toArray] at C))) | go_values | go_skip | go_guarded | go_step | go_upon | go_back | (simp only [Int.not_lt, Int.not_le] at *; go_simp) | (go_values <;> (try go_simp)) | (go_ite <;> go_prune <;> (try go_simp)) | (split <;> (first | (rename_i hx; exact (hx _ rfl).elim) | go_prune))))
  refine (hT _).mono ?_
  (rintro e' w' ⟨⟨v', rfl, ho⟩, hb'⟩; have H' := Hp.rowOf H hb' ho; obtain ⟨A1, c1, rfl⟩ := Go.LawLift.own_form ho; clear ho hb'; ((try simp only [List.set_cons_zero, List.set_cons_succ, List.setIfInBounds_toArray] at H'); clear C H; have H := H'; clear H'; have C := Hp.facts H; simp only [Facts, factsL, and_true, true_and, List.set_cons_zero, List.set_cons_succ, List.setIfInBounds_toArray] at C))
  (repeat' ((fail_if_success (with_reducible show bodyPost _ _ _ _ _ _)); first | ((with_reducible refine Hp.abs_alloc H ?_); intro b' w' H' hb'; (try simp only [hb']); clear hb'; ((try simp only [List.set_cons_zero, List.set_cons_succ, List.setIfInBounds_toArray] at H'); clear C H; have H := H'; clear H'; have C := Hp.facts H; simp only [Facts, factsL, and_true, true_and, List.set_cons_zero, List.set_cons_succ, List.setIfInBounds_toArray] at C)) | ((with_reducible show wpList _ _ _ _ _ (World.setCell _ _ _)); (with_reducible apply Hp.abs_gen H); (first | ((repeat (with_reducible apply Hp.set' 0)); (with_reducible exact H); (repeat rfl); intro w' H') | ((repeat (with_reducible apply Hp.set' 1)); (with_reducible exact H); (repeat rfl); intro w' H') | ((repeat (with_reducible apply Hp.set' 2)); (with_reducible exact H); (repeat rfl); intro w' H') | ((repeat (with_reducible apply Hp.set' 3)); (with_reducible exact H); (repeat rfl); intro w' H') | ((repeat (with_reducible apply Hp.set' 4)); (with_reducible exact H); (repeat rfl); intro w' H') | ((repeat (with_reducible apply Hp.set' 5)); (with_reducible exact H); (repeat rfl); intro w' H') | ((repeat (with_reducible apply Hp.set' 6)); (with_reducible exact H); (repeat rfl); intro w' H') | ((repeat (with_reducible apply Hp.set' 7)); (with_reducible exact H); (repeat rfl); intro w' H')); ((try simp only [List.set_cons_zero, List.set_cons_succ, List.setIfInBounds_toArray] at H'); clear C H; have H := H'; clear H'; have C := Hp.facts H; simp only [Facts, factsL, and_true, true_and, List.set_cons_zero, List.set_cons_succ, List.setIfInBounds_toArray] at C)) | go_values | go_skip | go_guarded | go_step | go_upon | go_back | (simp only [Int.not_lt, Int.not_le] at *; go_simp) | (go_values <;> (try go_simp)) | (go_ite <;> go_prune <;> (try go_simp)) | (split <;> (first | (rename_i hx; exact (hx _ rfl).elim) | go_prune))))
  refine (hL _).mono ?_
  (rintro e' w' ⟨⟨v', rfl, ho⟩, hb'⟩; have H' := Hp.rowOf H hb' ho; obtain ⟨A2, c2, rfl⟩ := Go.LawLift.own_form ho; clear ho hb'; ((try simp only [List.set_cons_zero, List.set_cons_succ, List.setIfInBounds_toArray] at H'); clear C H; have H := H'; clear H'; have C := Hp.facts H; simp only [Facts, factsL, and_true, true_and, List.set_cons_zero, List.set_cons_succ, List.setIfInBounds_toArray] at C))
  (repeat' ((fail_if_success (with_reducible show bodyPost _ _ _ _ _ _)); first | ((with_reducible refine Hp.abs_alloc H ?_); intro b' w' H' hb'; (try simp only [hb']); clear hb'; ((try simp only [List.set_cons_zero, List.set_cons_succ, List.setIfInBounds_toArray] at H'); clear C H; have H := H'; clear H'; have C := Hp.facts H; simp only [Facts, factsL, and_true, true_and, List.set_cons_zero, List.set_cons_succ, List.setIfInBounds_toArray] at C)) | ((with_reducible show wpList _ _ _ _ _ (World.setCell _ _ _)); (with_reducible apply Hp.abs_gen H); (first | ((repeat (with_reducible apply Hp.set' 0)); (with_reducible exact H); (repeat rfl); intro w' H') | ((repeat (with_reducible apply Hp.set' 1)); (with_reducible exact H); (repeat rfl); intro w' H') | ((repeat (with_reducible apply Hp.set' 2)); (with_reducible exact H); (repeat rfl); intro w' H') | ((repeat (with_reducible apply Hp.set' 3)); (with_reducible exact H); (repeat rfl); intro w' H') | ((repeat (with_reducible apply Hp.set' 4)); (with_reducible exact H); (repeat rfl); intro w' H') | ((repeat (with_reducible apply Hp.set' 5)); (with_reducible exact H); (repeat rfl); intro w' H') | ((repeat (with_reducible apply Hp.set' 6)); (with_reducible exact H); (repeat rfl); intro w' H') | ((repeat (with_reducible apply Hp.set' 7)); (with_reducible exact H); (repeat rfl); intro w' H')); ((try simp only [List.set_cons_zero, List.set_cons_succ, List.setIfInBounds_toArray] at H'); clear C H; have H := H'; clear H'; have C := Hp.facts H; simp only [Facts, factsL, and_true, true_and, List.set_cons_zero, List.set_cons_succ, List.setIfInBounds_toArray] at C)) | go_values | go_skip | go_guarded | go_step | go_upon | go_back | (simp only [Int.not_lt, Int.not_le] at *; go_simp) | (go_values <;> (try go_simp)) | (go_ite <;> go_prune <;> (try go_simp)) | (split <;> (first | (rename_i hx; exact (hx _ rfl).elim) | go_prune))))
  try simp (disch := omega) only [decide_eq_true, decide_eq_false]
  obtain ⟨wR4, rfl⟩ := Hp.nameW H
  apply region_n (frm wR4.heap.size (fun _ => Hp _ _)) (frm_ok ?hfs_2) frm_sz [] [.light 0 0, .light 0 0, .light 0 0, .light 0 0, .light 0 0, .light 0 0, .light 0 0, .light 0 0, .light 0 0, .light 0 0, .light 0 0, .light 0 0, .light 0 0, .light 0 0, .light 0 0, .light 0 0, .light 0 0, .light 0 0, .light 0 0, .light 0 0, .light 0 0, .light 0 0, .light 0 0, .light 0 0, .light 0 0] [false, false, false, false, false, false, false, false, false, false, false, false, false, false, false, false, false, false, false, false, false, false, false, false, false] 25 112 [] [some 23, some 24, some 25, some 26, some 27, some 28, some 29, some 30, some 31, some 32, some 33, some 34, some 35, some 36, some 37, some 38, some 39, some 40, some 41, some 42, some 43, some 44, some 45, some 46, some 47] [[], [0], [1], [], [2, 3], [4], [5], [5, 6], [5, 7], [5], [5, 9], [5, 8, 10], [5, 11], [12], [13], [13], [13, 15], [13, 14, 16], [13, 17], [13], [13], [13, 20], [13, 19, 21], [13, 18, 22], [13, 23]] [Eq1 _, Eq1 _, Eq1 _, Eq1 _, Eq1 (.bool false), Eq1 _, Eq1 _, Eq1 _, Eq1 _, Eq1 _, Eq1 _, Eq1 (.bool false), Eq1 _, Eq1 _, Eq1 _, Eq1 _, Eq1 _, Eq1 _, Eq1 _, Eq1 _, Eq1 _, Eq1 _, Eq1 _, Eq1 (.bool false), Eq1 _] ?hq1_2 ?hq2_2 ?hq3_2 ?hq4_2 ?hq5_2 ?hq6_2 _ ?hA_2 ?hst_2 ?h0_2 ?hsteps_2 ?hend_2
  case hq1_2 => kernel_rfl
  case hq2_2 => kernel_rfl
  case hq3_2 => kernel_rfl
  case hq5_2 => kernel_rfl
  case hq4_2 => rfl
  case hq6_2 => rfl
  case hA_2 => intro vs; simp only [fillD, Nat.reduceAdd, Act.put, List.setIfInBounds_toArray, List.set_cons_zero, List.set_cons_succ]; rfl
  case h0_2 => exact H.drew
  case hfs_2 => exact fun _ _ _ hb h => Hp.step h hb
  case hsteps_2 =>
    refine ⟨?_, ?_, ?_, ?_, ?_, ?_, ?_, ?_, ?_, ?_, ?_, ?_, ?_, ?_, ?_, ?_, ?_, ?_, ?_, ?_, ?_, ?_, ?_, ?_, ?_, trivial⟩
    · intro p vs w' K hJ hp1 hp2 hS hR hK
      rw [if_pos (by rfl)]
      have C := Hp.facts hS
      simp only [Facts, factsL, and_true, true_and, List.set_cons_zero, List.set_cons_succ, List.setIfInBounds_toArray] at C
      have hsz := hR.1
      go_step
      exact hK.out _ _ (Below.refl _ _) Eq1.mk Fresh.no
    · intro p vs w' K hJ hp1 hp2 hS hR hK
      simp only [DepJ, List.getD_cons_zero, List.getD_cons_succ] at hJ
      obtain ⟨j0, -⟩ := hJ
      have j0 := Eq1.out j0
      simp only [j0] at hK ⊢
      rw [if_pos (by rfl)]
      have C := Hp.facts hS
      simp only [Facts, factsL, and_true, true_and, List.set_cons_zero, List.set_cons_succ, List.setIfInBounds_toArray] at C
      have hsz := hR.1
      go_step
      refine (lto_any _ _ _ _).mono ?_
      rintro e' w'' ⟨rfl, hb⟩
      exact hK.out _ _ hb Eq1.mk Fresh.no
    · intro p vs w' K hJ hp1 hp2 hS hR hK
      simp only [DepJ, List.getD_cons_zero, List.getD_cons_succ] at hJ
      obtain ⟨j1, -⟩ := hJ
      have j1 := Eq1.out j1
      simp only [j1] at hK ⊢
      rw [if_pos (by rfl)]
      have C := Hp.facts hS
      simp only [Facts, factsL, and_true, true_and, List.set_cons_zero, List.set_cons_succ, List.setIfInBounds_toArray] at C
      have hsz := hR.1
      go_step
      refine (hright_any _ _ _ _).mono ?_
      rintro e' w'' ⟨rfl, hb⟩
      rw [h]
      exact hK.out _ _ hb Eq1.mk Fresh.no
    · intro p vs w' K hJ hp1 hp2 hS hR hK
      rw [if_pos (by rfl)]
      go_step
      exact hK.out _ _ (Below.refl _ _) Eq1.mk Fresh.no
    · intro p vs w' K hJ hp1 hp2 hS hR hK
      simp only [DepJ, List.getD_cons_zero, List.getD_cons_succ] at hJ
      obtain ⟨j2, j3, -⟩ := hJ
      have j2 := Eq1.out j2
      have j3 := Eq1.out j3
      simp only [j2, j3] at hK ⊢
      rw [if_pos (by rfl)]
      go_step
      exact hK.out _ _ (Below.refl _ _) (Eq1.of (by simp)) Fresh.no
    · intro p vs w' K hJ hp1 hp2 hS hR hK
      simp only [DepJ, List.getD_cons_zero, List.getD_cons_succ] at hJ
      obtain ⟨j4, -⟩ := hJ
      have j4 := Eq1.out j4
      simp only [j4] at hK ⊢
      rw [if_pos (by rfl)]
      go_step
      exact hK.out _ _ (Below.refl _ _) Eq1.mk Fresh.no
    · intro p vs w' K hJ hp1 hp2 hS hR hK
      simp only [DepJ, List.getD_cons_zero, List.getD_cons_succ] at hJ
      obtain ⟨j5, -⟩ := hJ
      have j5 := Eq1.out j5
      simp only [j5] at hK ⊢
      rw [if_pos (by rfl)]
      go_step
      exact hK.out _ _ (Below.refl _ _) Eq1.mk Fresh.no
    · intro p vs w' K hJ hp1 hp2 hS hR hK
      simp only [DepJ, List.getD_cons_zero, List.getD_cons_succ] at hJ
      obtain ⟨j5, j6, -⟩ := hJ
      have j5 := Eq1.out j5
      have j6 := Eq1.out j6
      simp only [j5, j6] at hK ⊢
      rw [if_pos (by rfl)]
      have C := Hp.facts hS
      simp only [Facts, factsL, and_true, true_and, List.set_cons_zero, List.set_cons_succ, List.setIfInBounds_toArray] at C
      have hsz := hR.1
      go_step
      refine (hof_any _ _).mono ?_
      rintro e' w'' ⟨rfl, hb⟩
      exact hK.out _ _ hb Eq1.mk Fresh.no
    · intro p vs w' K hJ hp1 hp2 hS hR hK
      simp only [DepJ, List.getD_cons_zero, List.getD_cons_succ] at hJ
      obtain ⟨j5, j7, -⟩ := hJ
      have j5 := Eq1.out j5
      have j7 := Eq1.out j7
      simp only [j5, j7] at hK ⊢
      rw [if_pos (by rfl)]
      have C := Hp.facts hS
      simp only [Facts, factsL, and_true, true_and, List.set_cons_zero, List.set_cons_succ, List.setIfInBounds_toArray] at C
      have hsz := hR.1
      go_step
      refine (lof_any _ _ _ _).mono ?_
      rintro e' w'' ⟨rfl, hb⟩
      exact hK.out _ _ hb Eq1.mk Fresh.no
    · intro p vs w' K hJ hp1 hp2 hS hR hK
      simp only [DepJ, List.getD_cons_zero, List.getD_cons_succ] at hJ
      obtain ⟨j5, -⟩ := hJ
      have j5 := Eq1.out j5
      simp only [j5] at hK ⊢
      rw [if_pos (by rfl)]
      go_step
      exact hK.out _ _ (Below.refl _ _) Eq1.mk Fresh.no
    · intro p vs w' K hJ hp1 hp2 hS hR hK
      simp only [DepJ, List.getD_cons_zero, List.getD_cons_succ] at hJ
      obtain ⟨j5, j9, -⟩ := hJ
      have j5 := Eq1.out j5
      have j9 := Eq1.out j9
      simp only [j5, j9] at hK ⊢
      rw [if_pos (by rfl)]
      have C := Hp.facts hS
      simp only [Facts, factsL, and_true, true_and, List.set_cons_zero, List.set_cons_succ, List.setIfInBounds_toArray] at C
      have hsz := hR.1
      go_step
      refine (rof_any _ _).mono ?_
      rintro e' w'' ⟨rfl, hb⟩
      exact hK.out _ _ hb Eq1.mk Fresh.no
    · intro p vs w' K hJ hp1 hp2 hS hR hK
      simp only [DepJ, List.getD_cons_zero, List.getD_cons_succ] at hJ
      obtain ⟨j5, j8, j10, -⟩ := hJ
      have j5 := Eq1.out j5
      have j8 := Eq1.out j8
      have j10 := Eq1.out j10
      simp only [j5, j8, j10] at hK ⊢
      rw [if_pos (by rfl)]
      go_step
      exact hK.out _ _ (Below.refl _ _) (Eq1.of (by simp)) Fresh.no
    · intro p vs w' K hJ hp1 hp2 hS hR hK
      simp only [DepJ, List.getD_cons_zero, List.getD_cons_succ] at hJ
      obtain ⟨j5, j11, -⟩ := hJ
      have j5 := Eq1.out j5
      have j11 := Eq1.out j11
      simp only [j5, j11] at hK ⊢
      rw [if_pos (by rfl)]
      go_step
      exact hK.out _ _ (Below.refl _ _) Eq1.mk Fresh.no
    · intro p vs w' K hJ hp1 hp2 hS hR hK
      simp only [DepJ, List.getD_cons_zero, List.getD_cons_succ] at hJ
      obtain ⟨j12, -⟩ := hJ
      have j12 := Eq1.out j12
      simp only [j12] at hK ⊢
      rw [if_pos (by rfl)]
      go_step
      exact hK.out _ _ (Below.refl _ _) Eq1.mk Fresh.no
    · intro p vs w' K hJ hp1 hp2 hS hR hK
      simp only [DepJ, List.getD_cons_zero, List.getD_cons_succ] at hJ
      obtain ⟨j13, -⟩ := hJ
      have j13 := Eq1.out j13
      simp only [j13] at hK ⊢
      rw [if_pos (by rfl)]
      go_step
      exact hK.out _ _ (Below.refl _ _) Eq1.mk Fresh.no
    · intro p vs w' K hJ hp1 hp2 hS hR hK
      simp only [DepJ, List.getD_cons_zero, List.getD_cons_succ] at hJ
      obtain ⟨j13, -⟩ := hJ
      have j13 := Eq1.out j13
      simp only [j13] at hK ⊢
      rw [if_pos (by rfl)]
      go_step
      exact hK.out _ _ (Below.refl _ _) Eq1.mk Fresh.no
    · intro p vs w' K hJ hp1 hp2 hS hR hK
      simp only [DepJ, List.getD_cons_zero, List.getD_cons_succ] at hJ
      obtain ⟨j13, j15, -⟩ := hJ
      have j13 := Eq1.out j13
      have j15 := Eq1.out j15
      simp only [j13, j15] at hK ⊢
      rw [if_pos (by rfl)]
      have C := Hp.facts hS
      simp only [Facts, factsL, and_true, true_and, List.set_cons_zero, List.set_cons_succ, List.setIfInBounds_toArray] at C
      have hsz := hR.1
      go_step
      exact hK.out _ _ (Below.refl _ _) Eq1.mk Fresh.no
    · intro p vs w' K hJ hp1 hp2 hS hR hK
      simp only [DepJ, List.getD_cons_zero, List.getD_cons_succ] at hJ
      obtain ⟨j13, j14, j16, -⟩ := hJ
      have j13 := Eq1.out j13
      have j14 := Eq1.out j14
      have j16 := Eq1.out j16
      simp only [j13, j14, j16] at hK ⊢
      rw [if_pos (by rfl)]
      have C := Hp.facts hS
      simp only [Facts, factsL, and_true, true_and, List.set_cons_zero, List.set_cons_succ, List.setIfInBounds_toArray] at C
      have hsz := hR.1
      go_step
      refine (hat_any _ _ _).mono ?_
      rintro e' w'' ⟨rfl, hb⟩
      exact hK.out _ _ hb Eq1.mk Fresh.no
    · intro p vs w' K hJ hp1 hp2 hS hR hK
      simp only [DepJ, List.getD_cons_zero, List.getD_cons_succ] at hJ
      obtain ⟨j13, j17, -⟩ := hJ
      have j13 := Eq1.out j13
      have j17 := Eq1.out j17
      simp only [j13, j17] at hK ⊢
      rw [if_pos (by rfl)]
      have C := Hp.facts hS
      simp only [Facts, factsL, and_true, true_and, List.set_cons_zero, List.set_cons_succ, List.setIfInBounds_toArray] at C
      have hsz := hR.1
      go_step
      refine (lof_any _ _ _ _).mono ?_
      rintro e' w'' ⟨rfl, hb⟩
      exact hK.out _ _ hb Eq1.mk Fresh.no
    · intro p vs w' K hJ hp1 hp2 hS hR hK
      simp only [DepJ, List.getD_cons_zero, List.getD_cons_succ] at hJ
      obtain ⟨j13, -⟩ := hJ
      have j13 := Eq1.out j13
      simp only [j13] at hK ⊢
      rw [if_pos (by rfl)]
      go_step
      exact hK.out _ _ (Below.refl _ _) Eq1.mk Fresh.no
    · intro p vs w' K hJ hp1 hp2 hS hR hK
      simp only [DepJ, List.getD_cons_zero, List.getD_cons_succ] at hJ
      obtain ⟨j13, -⟩ := hJ
      have j13 := Eq1.out j13
      simp only [j13] at hK ⊢
      rw [if_pos (by rfl)]
      go_step
      exact hK.out _ _ (Below.refl _ _) Eq1.mk Fresh.no
    · intro p vs w' K hJ hp1 hp2 hS hR hK
      simp only [DepJ, List.getD_cons_zero, List.getD_cons_succ] at hJ
      obtain ⟨j13, j20, -⟩ := hJ
      have j13 := Eq1.out j13
      have j20 := Eq1.out j20
      simp only [j13, j20] at hK ⊢
      rw [if_pos (by rfl)]
      have C := Hp.facts hS
      simp only [Facts, factsL, and_true, true_and, List.set_cons_zero, List.set_cons_succ, List.setIfInBounds_toArray] at C
      have hsz := hR.1
      go_step
      exact hK.out _ _ (Below.refl _ _) Eq1.mk Fresh.no
    · intro p vs w' K hJ hp1 hp2 hS hR hK
      simp only [DepJ, List.getD_cons_zero, List.getD_cons_succ] at hJ
      obtain ⟨j13, j19, j21, -⟩ := hJ
      have j13 := Eq1.out j13
      have j19 := Eq1.out j19
      have j21 := Eq1.out j21
      simp only [j13, j19, j21] at hK ⊢
      rw [if_pos (by rfl)]
      have C := Hp.facts hS
      simp only [Facts, factsL, and_true, true_and, List.set_cons_zero, List.set_cons_succ, List.setIfInBounds_toArray] at C
      have hsz := hR.1
      go_step
      refine (rat_any _ _ _).mono ?_
      rintro e' w'' ⟨rfl, hb⟩
      exact hK.out _ _ hb Eq1.mk Fresh.no
    · intro p vs w' K hJ hp1 hp2 hS hR hK
      simp only [DepJ, List.getD_cons_zero, List.getD_cons_succ] at hJ
      obtain ⟨j13, j18, j22, -⟩ := hJ
      have j13 := Eq1.out j13
      have j18 := Eq1.out j18
      have j22 := Eq1.out j22
      simp only [j13, j18, j22] at hK ⊢
      rw [if_pos (by rfl)]
      go_step
      exact hK.out _ _ (Below.refl _ _) (Eq1.of (by simp)) Fresh.no
    · intro p vs w' K hJ hp1 hp2 hS hR hK
      simp only [DepJ, List.getD_cons_zero, List.getD_cons_succ] at hJ
      obtain ⟨j13, j23, -⟩ := hJ
      have j13 := Eq1.out j13
      have j23 := Eq1.out j23
      simp only [j13, j23] at hK ⊢
      rw [if_pos (by rfl)]
      go_step
      exact hK.out _ _ (Below.refl _ _) Eq1.mk Fresh.no
  case hst_2 => refine ⟨fun _ _ _ _ h => h, fun _ _ _ _ h => h, fun _ _ _ _ h => h, fun _ _ _ _ h => h, fun _ _ _ _ h => h, fun _ _ _ _ h => h, fun _ _ _ _ h => h, fun _ _ _ _ h => h, fun _ _ _ _ h => h, fun _ _ _ _ h => h, fun _ _ _ _ h => h, fun _ _ _ _ h => h, fun _ _ _ _ h => h, fun _ _ _ _ h => h, fun _ _ _ _ h => h, fun _ _ _ _ h => h, fun _ _ _ _ h => h, fun _ _ _ _ h => h, fun _ _ _ _ h => h, fun _ _ _ _ h => h, fun _ _ _ _ h => h, fun _ _ _ _ h => h, fun _ _ _ _ h => h, fun _ _ _ _ h => h, fun _ _ _ _ h => h, trivial⟩
  intro vs w' hJ hD hS hR
  simp only [AllJ, Nat.reduceAdd] at hJ
  obtain ⟨v0, v1, v2, v3, v4, v5, v6, v7, v8, v9, v10, v11, v12, v13, v14, v15, v16, v17, v18, v19, v20, v21, v22, v23, v24, -⟩ := hJ
  clear C
  replace v0 := Eq1.out v0
  replace v1 := Eq1.out v1
  replace v2 := Eq1.out v2
  replace v3 := Eq1.out v3
  replace v4 := Eq1.out v4
  replace v5 := Eq1.out v5
  replace v6 := Eq1.out v6
  replace v7 := Eq1.out v7
  replace v8 := Eq1.out v8
  replace v9 := Eq1.out v9
  replace v10 := Eq1.out v10
  replace v11 := Eq1.out v11
  replace v12 := Eq1.out v12
  replace v13 := Eq1.out v13
  replace v14 := Eq1.out v14
  replace v15 := Eq1.out v15
  replace v16 := Eq1.out v16
  replace v17 := Eq1.out v17
  replace v18 := Eq1.out v18
  replace v19 := Eq1.out v19
  replace v20 := Eq1.out v20
  replace v21 := Eq1.out v21
  replace v22 := Eq1.out v22
  replace v23 := Eq1.out v23
  replace v24 := Eq1.out v24
  simp only [v0, v1, v2, v3, v4, v5, v6, v7, v8, v9, v10, v11, v12, v13, v14, v15, v16, v17, v18, v19, v20, v21, v22, v23, v24, List.drop_succ_cons, List.drop_zero]
  refine wpList_nil' ?_
  have H' : Hp _ _ _ := hS
  clear hD hR hS v0 v1 v2 v3 v4 v5 v6 v7 v8 v9 v10 v11 v12 v13 v14 v15 v16 v17 v18 v19 v20 v21 v22 v23 v24
  clear vs H
  have H := H'; clear H'; have C := Hp.facts H; simp only [Facts, factsL, and_true, true_and, List.set_cons_zero, List.set_cons_succ, List.setIfInBounds_toArray] at C
  (repeat' ((fail_if_success (with_reducible show bodyPost _ _ _ _ _ _)); first | ((with_reducible refine Hp.abs_alloc H ?_); intro b' w' H' hb'; (try simp only [hb']); clear hb'; ((try simp only [List.set_cons_zero, List.set_cons_succ, List.setIfInBounds_toArray] at H'); clear C H; have H := H'; clear H'; have C := Hp.facts H; simp only [Facts, factsL, and_true, true_and, List.set_cons_zero, List.set_cons_succ, List.setIfInBounds_toArray] at C)) | ((with_reducible show wpList _ _ _ _ _ (World.setCell _ _ _)); (with_reducible apply Hp.abs_gen H); (first | ((repeat (with_reducible apply Hp.set' 0)); (with_reducible exact H); (repeat rfl); intro w' H') | ((repeat (with_reducible apply Hp.set' 1)); (with_reducible exact H); (repeat rfl); intro w' H') | ((repeat (with_reducible apply Hp.set' 2)); (with_reducible exact H); (repeat rfl); intro w' H') | ((repeat (with_reducible apply Hp.set' 3)); (with_reducible exact H); (repeat rfl); intro w' H') | ((repeat (with_reducible apply Hp.set' 4)); (with_reducible exact H); (repeat rfl); intro w' H') | ((repeat (with_reducible apply Hp.set' 5)); (with_reducible exact H); (repeat rfl); intro w' H') | ((repeat (with_reducible apply Hp.set' 6)); (with_reducible exact H); (repeat rfl); intro w' H') | ((repeat (with_reducible apply Hp.set' 7)); (with_reducible exact H); (repeat rfl); intro w' H')); ((try simp only [List.set_cons_zero, List.set_cons_succ, List.setIfInBounds_toArray] at H'); clear C H; have H := H'; clear H'; have C := Hp.facts H; simp only [Facts, factsL, and_true, true_and, List.set_cons_zero, List.set_cons_succ, List.setIfInBounds_toArray] at C)) | go_values | go_skip | go_guarded | go_step | go_upon | go_back | (simp only [Int.not_lt, Int.not_le] at *; go_simp) | (go_values <;> (try go_simp)) | (go_ite <;> go_prune <;> (try go_simp)) | (split <;> (first | (rename_i hx; exact (hx _ rfl).elim) | go_prune))))
  refine (rbytes_one c n m h _).mono ?_
  (rintro e' w' ⟨⟨v', rfl, ho⟩, hb'⟩; have H' := Hp.rowOf H hb' ho; obtain ⟨A3, c3, rfl⟩ := Go.LawLift.own_form ho; clear ho hb'; ((try simp only [List.set_cons_zero, List.set_cons_succ, List.setIfInBounds_toArray] at H'); clear C H; have H := H'; clear H'; have C := Hp.facts H; simp only [Facts, factsL, and_true, true_and, List.set_cons_zero, List.set_cons_succ, List.setIfInBounds_toArray] at C))
  have hTl := tagL_len ⟨c, n, m⟩
  generalize tagL ⟨c, n, m⟩ = T at *
  (repeat' ((fail_if_success (with_reducible show bodyPost _ _ _ _ _ _)); first | ((with_reducible refine Hp.abs_alloc H ?_); intro b' w' H' hb'; (try simp only [hb']); clear hb'; ((try simp only [List.set_cons_zero, List.set_cons_succ, List.setIfInBounds_toArray] at H'); clear C H; have H := H'; clear H'; have C := Hp.facts H; simp only [Facts, factsL, and_true, true_and, List.set_cons_zero, List.set_cons_succ, List.setIfInBounds_toArray] at C)) | ((with_reducible show wpList _ _ _ _ _ (World.setCell _ _ _)); (with_reducible apply Hp.abs_gen H); (first | ((repeat (with_reducible apply Hp.set' 0)); (with_reducible exact H); (repeat rfl); intro w' H') | ((repeat (with_reducible apply Hp.set' 1)); (with_reducible exact H); (repeat rfl); intro w' H') | ((repeat (with_reducible apply Hp.set' 2)); (with_reducible exact H); (repeat rfl); intro w' H') | ((repeat (with_reducible apply Hp.set' 3)); (with_reducible exact H); (repeat rfl); intro w' H') | ((repeat (with_reducible apply Hp.set' 4)); (with_reducible exact H); (repeat rfl); intro w' H') | ((repeat (with_reducible apply Hp.set' 5)); (with_reducible exact H); (repeat rfl); intro w' H') | ((repeat (with_reducible apply Hp.set' 6)); (with_reducible exact H); (repeat rfl); intro w' H') | ((repeat (with_reducible apply Hp.set' 7)); (with_reducible exact H); (repeat rfl); intro w' H')); ((try simp only [List.set_cons_zero, List.set_cons_succ, List.setIfInBounds_toArray] at H'); clear C H; have H := H'; clear H'; have C := Hp.facts H; simp only [Facts, factsL, and_true, true_and, List.set_cons_zero, List.set_cons_succ, List.setIfInBounds_toArray] at C)) | go_values | go_skip | go_guarded | go_step | go_upon | go_back | (simp only [Int.not_lt, Int.not_le] at *; go_simp) | (go_values <;> (try go_simp)) | (go_ite <;> go_prune <;> (try go_simp)) | (split <;> (first | (rename_i hx; exact (hx _ rfl).elim) | go_prune))))
  refine (same_any T T _ _ _ (Hp.row H 2 rfl) (Hp.row H 0 rfl) (by omega) (by omega)).mono ?_
  rintro e' w' ⟨rfl, hb'⟩
  rw [decide_eq_true (rfl : T = T)]
  (have H' := Hp.step H hb'; clear hb'; ((try simp only [List.set_cons_zero, List.set_cons_succ, List.setIfInBounds_toArray] at H'); clear C H; have H := H'; clear H'; have C := Hp.facts H; simp only [Facts, factsL, and_true, true_and, List.set_cons_zero, List.set_cons_succ, List.setIfInBounds_toArray] at C))
  have d0 : decide (z < 0) = false := by simp; omega
  have d1 : decide (16777216 < z) = true := by simp; omega
  have d2 : decide (0 ≤ z) = true := by simp; omega
  clear hz
  (repeat' ((fail_if_success (with_reducible show bodyPost _ _ _ _ _ _)); first | ((with_reducible refine Hp.abs_alloc H ?_); intro b' w' H' hb'; (try simp only [hb']); clear hb'; ((try simp only [List.set_cons_zero, List.set_cons_succ, List.setIfInBounds_toArray] at H'); clear C H; have H := H'; clear H'; have C := Hp.facts H; simp only [Facts, factsL, and_true, true_and, List.set_cons_zero, List.set_cons_succ, List.setIfInBounds_toArray] at C)) | ((with_reducible show wpList _ _ _ _ _ (World.setCell _ _ _)); (with_reducible apply Hp.abs_gen H); (first | ((repeat (with_reducible apply Hp.set' 0)); (with_reducible exact H); (repeat rfl); intro w' H') | ((repeat (with_reducible apply Hp.set' 1)); (with_reducible exact H); (repeat rfl); intro w' H') | ((repeat (with_reducible apply Hp.set' 2)); (with_reducible exact H); (repeat rfl); intro w' H') | ((repeat (with_reducible apply Hp.set' 3)); (with_reducible exact H); (repeat rfl); intro w' H') | ((repeat (with_reducible apply Hp.set' 4)); (with_reducible exact H); (repeat rfl); intro w' H') | ((repeat (with_reducible apply Hp.set' 5)); (with_reducible exact H); (repeat rfl); intro w' H') | ((repeat (with_reducible apply Hp.set' 6)); (with_reducible exact H); (repeat rfl); intro w' H') | ((repeat (with_reducible apply Hp.set' 7)); (with_reducible exact H); (repeat rfl); intro w' H')); ((try simp only [List.set_cons_zero, List.set_cons_succ, List.setIfInBounds_toArray] at H'); clear C H; have H := H'; clear H'; have C := Hp.facts H; simp only [Facts, factsL, and_true, true_and, List.set_cons_zero, List.set_cons_succ, List.setIfInBounds_toArray] at C)) | (go_at_call 47; refine (known_any2 _).mono ?_; rintro e' w' ⟨rfl, hb'⟩; (have H' := Hp.step H hb'; clear hb'; ((try simp only [List.set_cons_zero, List.set_cons_succ, List.setIfInBounds_toArray] at H'); clear C H; have H := H'; clear H'; have C := Hp.facts H; simp only [Facts, factsL, and_true, true_and, List.set_cons_zero, List.set_cons_succ, List.setIfInBounds_toArray] at C))) | go_values | go_skip | go_guarded | go_step | go_upon | go_back | (simp only [Int.not_lt, Int.not_le] at *; go_simp) | (go_values <;> (try go_simp)) | (go_ite <;> go_prune <;> (try go_simp)) | (split <;> (first | (rename_i hx; exact (hx _ rfl).elim) | go_prune))))
  go_ret
  exact ⟨rfl, H.low⟩
set_option maxHeartbeats 8000000 in
theorem headWrites_ok2 (c n : Int) (m : Bool) (z : Nat) (hz : z ≤ 16777216) (h : okTag ⟨c, n, m⟩ = true) (w : World) :
    Calls Try.prog 6 #[.agg #[.int .i64 c, .int .i64 n, .bool m], .int .i64 (z : Int)] w fun e w' => e = .returned (.bool true) ∧ Below w.heap.size w w' := by
  have hT := hbytes_all c n m
  have hL := hlen_all (z : Int)
  have eT : tagR ⟨c, n, m⟩ = (tagL ⟨c, n, m⟩, 0) := by unfold tagR; rw [h]; rfl
  have eL : lenR (z : Int) = (lenL (z : Int), 0) := by unfold lenR; rw [if_neg (by omega), if_neg (by omega)]
  rw [eT] at hT
  rw [eL] at hL
  clear eT eL
  have H := Hp.start w
  have C : True := trivial
  go_enter Try.func6, Try.ntmps6
  (repeat' ((fail_if_success (with_reducible show bodyPost _ _ _ _ _ _)); first | ((with_reducible refine Hp.abs_alloc H ?_); intro b' w' H' hb'; (try simp only [hb']); clear hb'; ((try simp only [List.set_cons_zero, List.set_cons_succ, List.setIfInBounds_toArray] at H'); clear C H; have H := H'; clear H'; have C := Hp.facts H; simp only [Facts, factsL, and_true, true_and, List.set_cons_zero, List.set_cons_succ, List.setIfInBounds_toArray] at C)) | ((with_reducible show wpList _ _ _ _ _ (World.setCell _ _ _)); (with_reducible apply Hp.abs_gen H); (first | ((repeat (with_reducible apply Hp.set' 0)); (with_reducible exact H); (repeat rfl); intro w' H') | ((repeat (with_reducible apply Hp.set' 1)); (with_reducible exact H); (repeat rfl); intro w' H') | ((repeat (with_reducible apply Hp.set' 2)); (with_reducible exact H); (repeat rfl); intro w' H') | ((repeat (with_reducible apply Hp.set' 3)); (with_reducible exact H); (repeat rfl); intro w' H') | ((repeat (with_reducible apply Hp.set' 4)); (with_reducible exact H); (repeat rfl); intro w' H') | ((repeat (with_reducible apply Hp.set' 5)); (with_reducible exact H); (repeat rfl); intro w' H') | ((repeat (with_reducible apply Hp.set' 6)); (with_reducible exact H); (repeat rfl); intro w' H') | ((repeat (with_reducible apply Hp.set' 7)); (with_reducible exact H); (repeat rfl); intro w' H')); ((try simp only [List.set_cons_zero, List.set_cons_succ, List.setIfInBounds_toArray] at H'); clear C H; have H := H'; clear H'; have C := Hp.facts H; simp only [Facts, factsL, and_true, true_and, List.set_cons_zero, List.set_cons_succ, List.setIfInBounds_toArray] at C)) | (go_at_call 36; refine (rright_any _ _ _ _).mono ?_; rintro e' w' ⟨rfl, hb'⟩; rw [h]; (have H' := Hp.step H hb'; clear hb'; ((try simp only [List.set_cons_zero, List.set_cons_succ, List.setIfInBounds_toArray] at H'); clear C H; have H := H'; clear H'; have C := Hp.facts H; simp only [Facts, factsL, and_true, true_and, List.set_cons_zero, List.set_cons_succ, List.setIfInBounds_toArray] at C))) | (go_at_call 38; refine (lto_any _ _ _ _).mono ?_; rintro e' w' ⟨rfl, hb'⟩; (have H' := Hp.step H hb'; clear hb'; ((try simp only [List.set_cons_zero, List.set_cons_succ, List.setIfInBounds_toArray] at H'); clear C H; have H := H'; clear H'; have C := Hp.facts H; simp only [Facts, factsL, and_true, true_and, List.set_cons_zero, List.set_cons_succ, List.setIfInBounds_toArray] at C))) | go_values | go_skip | go_guarded | go_step | go_upon | go_back | (simp only [Int.not_lt, Int.not_le] at *; go_simp) | (go_values <;> (try go_simp)) | (go_ite <;> go_prune <;> (try go_simp)) | (split <;> (first | (rename_i hx; exact (hx _ rfl).elim) | go_prune))))
  refine (hT _).mono ?_
  (rintro e' w' ⟨⟨v', rfl, ho⟩, hb'⟩; have H' := Hp.rowOf H hb' ho; obtain ⟨A1, c1, rfl⟩ := Go.LawLift.own_form ho; clear ho hb'; ((try simp only [List.set_cons_zero, List.set_cons_succ, List.setIfInBounds_toArray] at H'); clear C H; have H := H'; clear H'; have C := Hp.facts H; simp only [Facts, factsL, and_true, true_and, List.set_cons_zero, List.set_cons_succ, List.setIfInBounds_toArray] at C))
  (repeat' ((fail_if_success (with_reducible show bodyPost _ _ _ _ _ _)); first | ((with_reducible refine Hp.abs_alloc H ?_); intro b' w' H' hb'; (try simp only [hb']); clear hb'; ((try simp only [List.set_cons_zero, List.set_cons_succ, List.setIfInBounds_toArray] at H'); clear C H; have H := H'; clear H'; have C := Hp.facts H; simp only [Facts, factsL, and_true, true_and, List.set_cons_zero, List.set_cons_succ, List.setIfInBounds_toArray] at C)) | ((with_reducible show wpList _ _ _ _ _ (World.setCell _ _ _)); (with_reducible apply Hp.abs_gen H); (first | ((repeat (with_reducible apply Hp.set' 0)); (with_reducible exact H); (repeat rfl); intro w' H') | ((repeat (with_reducible apply Hp.set' 1)); (with_reducible exact H); (repeat rfl); intro w' H') | ((repeat (with_reducible apply Hp.set' 2)); (with_reducible exact H); (repeat rfl); intro w' H') | ((repeat (with_reducible apply Hp.set' 3)); (with_reducible exact H); (repeat rfl); intro w' H') | ((repeat (with_reducible apply Hp.set' 4)); (with_reducible exact H); (repeat rfl); intro w' H') | ((repeat (with_reducible apply Hp.set' 5)); (with_reducible exact H); (repeat rfl); intro w' H') | ((repeat (with_reducible apply Hp.set' 6)); (with_reducible exact H); (repeat rfl); intro w' H') | ((repeat (with_reducible apply Hp.set' 7)); (with_reducible exact H); (repeat rfl); intro w' H')); ((try simp only [List.set_cons_zero, List.set_cons_succ, List.setIfInBounds_toArray] at H'); clear C H; have H := H'; clear H'; have C := Hp.facts H; simp only [Facts, factsL, and_true, true_and, List.set_cons_zero, List.set_cons_succ, List.setIfInBounds_toArray] at C)) | go_values | go_skip | go_guarded | go_step | go_upon | go_back | (simp only [Int.not_lt, Int.not_le] at *; go_simp) | (go_values <;> (try go_simp)) | (go_ite <;> go_prune <;> (try go_simp)) | (split <;> (first | (rename_i hx; exact (hx _ rfl).elim) | go_prune))))
  refine (hL _).mono ?_
  (rintro e' w' ⟨⟨v', rfl, ho⟩, hb'⟩; have H' := Hp.rowOf H hb' ho; obtain ⟨A2, c2, rfl⟩ := Go.LawLift.own_form ho; clear ho hb'; ((try simp only [List.set_cons_zero, List.set_cons_succ, List.setIfInBounds_toArray] at H'); clear C H; have H := H'; clear H'; have C := Hp.facts H; simp only [Facts, factsL, and_true, true_and, List.set_cons_zero, List.set_cons_succ, List.setIfInBounds_toArray] at C))
  (repeat' ((fail_if_success (with_reducible show bodyPost _ _ _ _ _ _)); first | ((with_reducible refine Hp.abs_alloc H ?_); intro b' w' H' hb'; (try simp only [hb']); clear hb'; ((try simp only [List.set_cons_zero, List.set_cons_succ, List.setIfInBounds_toArray] at H'); clear C H; have H := H'; clear H'; have C := Hp.facts H; simp only [Facts, factsL, and_true, true_and, List.set_cons_zero, List.set_cons_succ, List.setIfInBounds_toArray] at C)) | ((with_reducible show wpList _ _ _ _ _ (World.setCell _ _ _)); (with_reducible apply Hp.abs_gen H); (first | ((repeat (with_reducible apply Hp.set' 0)); (with_reducible exact H); (repeat rfl); intro w' H') | ((repeat (with_reducible apply Hp.set' 1)); (with_reducible exact H); (repeat rfl); intro w' H') | ((repeat (with_reducible apply Hp.set' 2)); (with_reducible exact H); (repeat rfl); intro w' H') | ((repeat (with_reducible apply Hp.set' 3)); (with_reducible exact H); (repeat rfl); intro w' H') | ((repeat (with_reducible apply Hp.set' 4)); (with_reducible exact H); (repeat rfl); intro w' H') | ((repeat (with_reducible apply Hp.set' 5)); (with_reducible exact H); (repeat rfl); intro w' H') | ((repeat (with_reducible apply Hp.set' 6)); (with_reducible exact H); (repeat rfl); intro w' H') | ((repeat (with_reducible apply Hp.set' 7)); (with_reducible exact H); (repeat rfl); intro w' H')); ((try simp only [List.set_cons_zero, List.set_cons_succ, List.setIfInBounds_toArray] at H'); clear C H; have H := H'; clear H'; have C := Hp.facts H; simp only [Facts, factsL, and_true, true_and, List.set_cons_zero, List.set_cons_succ, List.setIfInBounds_toArray] at C)) | go_values | go_skip | go_guarded | go_step | go_upon | go_back | (simp only [Int.not_lt, Int.not_le] at *; go_simp) | (go_values <;> (try go_simp)) | (go_ite <;> go_prune <;> (try go_simp)) | (split <;> (first | (rename_i hx; exact (hx _ rfl).elim) | go_prune))))
  try simp (disch := omega) only [decide_eq_true, decide_eq_false]
  obtain ⟨wR4, rfl⟩ := Hp.nameW H
  apply region_n (frm wR4.heap.size (fun _ => Hp _ _)) (frm_ok ?hfs_3) frm_sz [] [.light 0 0, .light 0 0, .light 0 0, .light 0 0, .light 0 0, .light 0 0, .light 0 0, .light 0 0, .light 0 0, .light 0 0, .light 0 0, .light 0 0, .light 0 0, .light 0 0, .light 0 0, .light 0 0, .light 0 0, .light 0 0, .light 0 0, .light 0 0, .light 0 0, .light 0 0, .light 0 0, .light 0 0, .light 0 0] [false, false, false, false, false, false, false, false, false, false, false, false, false, false, false, false, false, false, false, false, false, false, false, false, false] 25 112 [] [some 23, some 24, some 25, some 26, some 27, some 28, some 29, some 30, some 31, some 32, some 33, some 34, some 35, some 36, some 37, some 38, some 39, some 40, some 41, some 42, some 43, some 44, some 45, some 46, some 47] [[], [0], [1], [], [2, 3], [4], [5], [5, 6], [5, 7], [5], [5, 9], [5, 8, 10], [5, 11], [12], [13], [13], [13, 15], [13, 14, 16], [13, 17], [13], [13], [13, 20], [13, 19, 21], [13, 18, 22], [13, 23]] [Eq1 _, Eq1 _, Eq1 _, Eq1 _, Eq1 (.bool false), Eq1 _, Eq1 _, Eq1 _, Eq1 _, Eq1 _, Eq1 _, Eq1 (.bool false), Eq1 _, Eq1 _, Eq1 _, Eq1 _, Eq1 _, Eq1 _, Eq1 _, Eq1 _, Eq1 _, Eq1 _, Eq1 _, Eq1 (.bool false), Eq1 _] ?hq1_3 ?hq2_3 ?hq3_3 ?hq4_3 ?hq5_3 ?hq6_3 _ ?hA_3 ?hst_3 ?h0_3 ?hsteps_3 ?hend_3
  case hq1_3 => kernel_rfl
  case hq2_3 => kernel_rfl
  case hq3_3 => kernel_rfl
  case hq5_3 => kernel_rfl
  case hq4_3 => rfl
  case hq6_3 => rfl
  case hA_3 => intro vs; simp only [fillD, Nat.reduceAdd, Act.put, List.setIfInBounds_toArray, List.set_cons_zero, List.set_cons_succ]; rfl
  case h0_3 => exact H.drew
  case hfs_3 => exact fun _ _ _ hb h => Hp.step h hb
  case hsteps_3 =>
    refine ⟨?_, ?_, ?_, ?_, ?_, ?_, ?_, ?_, ?_, ?_, ?_, ?_, ?_, ?_, ?_, ?_, ?_, ?_, ?_, ?_, ?_, ?_, ?_, ?_, ?_, trivial⟩
    · intro p vs w' K hJ hp1 hp2 hS hR hK
      rw [if_pos (by rfl)]
      have C := Hp.facts hS
      simp only [Facts, factsL, and_true, true_and, List.set_cons_zero, List.set_cons_succ, List.setIfInBounds_toArray] at C
      have hsz := hR.1
      go_step
      exact hK.out _ _ (Below.refl _ _) Eq1.mk Fresh.no
    · intro p vs w' K hJ hp1 hp2 hS hR hK
      simp only [DepJ, List.getD_cons_zero, List.getD_cons_succ] at hJ
      obtain ⟨j0, -⟩ := hJ
      have j0 := Eq1.out j0
      simp only [j0] at hK ⊢
      rw [if_pos (by rfl)]
      have C := Hp.facts hS
      simp only [Facts, factsL, and_true, true_and, List.set_cons_zero, List.set_cons_succ, List.setIfInBounds_toArray] at C
      have hsz := hR.1
      go_step
      refine (lto_any _ _ _ _).mono ?_
      rintro e' w'' ⟨rfl, hb⟩
      exact hK.out _ _ hb Eq1.mk Fresh.no
    · intro p vs w' K hJ hp1 hp2 hS hR hK
      simp only [DepJ, List.getD_cons_zero, List.getD_cons_succ] at hJ
      obtain ⟨j1, -⟩ := hJ
      have j1 := Eq1.out j1
      simp only [j1] at hK ⊢
      rw [if_pos (by rfl)]
      have C := Hp.facts hS
      simp only [Facts, factsL, and_true, true_and, List.set_cons_zero, List.set_cons_succ, List.setIfInBounds_toArray] at C
      have hsz := hR.1
      go_step
      refine (hright_any _ _ _ _).mono ?_
      rintro e' w'' ⟨rfl, hb⟩
      rw [h]
      exact hK.out _ _ hb Eq1.mk Fresh.no
    · intro p vs w' K hJ hp1 hp2 hS hR hK
      rw [if_pos (by rfl)]
      go_step
      exact hK.out _ _ (Below.refl _ _) Eq1.mk Fresh.no
    · intro p vs w' K hJ hp1 hp2 hS hR hK
      simp only [DepJ, List.getD_cons_zero, List.getD_cons_succ] at hJ
      obtain ⟨j2, j3, -⟩ := hJ
      have j2 := Eq1.out j2
      have j3 := Eq1.out j3
      simp only [j2, j3] at hK ⊢
      rw [if_pos (by rfl)]
      go_step
      exact hK.out _ _ (Below.refl _ _) (Eq1.of (by simp)) Fresh.no
    · intro p vs w' K hJ hp1 hp2 hS hR hK
      simp only [DepJ, List.getD_cons_zero, List.getD_cons_succ] at hJ
      obtain ⟨j4, -⟩ := hJ
      have j4 := Eq1.out j4
      simp only [j4] at hK ⊢
      rw [if_pos (by rfl)]
      go_step
      exact hK.out _ _ (Below.refl _ _) Eq1.mk Fresh.no
    · intro p vs w' K hJ hp1 hp2 hS hR hK
      simp only [DepJ, List.getD_cons_zero, List.getD_cons_succ] at hJ
      obtain ⟨j5, -⟩ := hJ
      have j5 := Eq1.out j5
      simp only [j5] at hK ⊢
      rw [if_pos (by rfl)]
      go_step
      exact hK.out _ _ (Below.refl _ _) Eq1.mk Fresh.no
    · intro p vs w' K hJ hp1 hp2 hS hR hK
      simp only [DepJ, List.getD_cons_zero, List.getD_cons_succ] at hJ
      obtain ⟨j5, j6, -⟩ := hJ
      have j5 := Eq1.out j5
      have j6 := Eq1.out j6
      simp only [j5, j6] at hK ⊢
      rw [if_pos (by rfl)]
      have C := Hp.facts hS
      simp only [Facts, factsL, and_true, true_and, List.set_cons_zero, List.set_cons_succ, List.setIfInBounds_toArray] at C
      have hsz := hR.1
      go_step
      refine (hof_any _ _).mono ?_
      rintro e' w'' ⟨rfl, hb⟩
      exact hK.out _ _ hb Eq1.mk Fresh.no
    · intro p vs w' K hJ hp1 hp2 hS hR hK
      simp only [DepJ, List.getD_cons_zero, List.getD_cons_succ] at hJ
      obtain ⟨j5, j7, -⟩ := hJ
      have j5 := Eq1.out j5
      have j7 := Eq1.out j7
      simp only [j5, j7] at hK ⊢
      rw [if_pos (by rfl)]
      have C := Hp.facts hS
      simp only [Facts, factsL, and_true, true_and, List.set_cons_zero, List.set_cons_succ, List.setIfInBounds_toArray] at C
      have hsz := hR.1
      go_step
      refine (lof_any _ _ _ _).mono ?_
      rintro e' w'' ⟨rfl, hb⟩
      exact hK.out _ _ hb Eq1.mk Fresh.no
    · intro p vs w' K hJ hp1 hp2 hS hR hK
      simp only [DepJ, List.getD_cons_zero, List.getD_cons_succ] at hJ
      obtain ⟨j5, -⟩ := hJ
      have j5 := Eq1.out j5
      simp only [j5] at hK ⊢
      rw [if_pos (by rfl)]
      go_step
      exact hK.out _ _ (Below.refl _ _) Eq1.mk Fresh.no
    · intro p vs w' K hJ hp1 hp2 hS hR hK
      simp only [DepJ, List.getD_cons_zero, List.getD_cons_succ] at hJ
      obtain ⟨j5, j9, -⟩ := hJ
      have j5 := Eq1.out j5
      have j9 := Eq1.out j9
      simp only [j5, j9] at hK ⊢
      rw [if_pos (by rfl)]
      have C := Hp.facts hS
      simp only [Facts, factsL, and_true, true_and, List.set_cons_zero, List.set_cons_succ, List.setIfInBounds_toArray] at C
      have hsz := hR.1
      go_step
      refine (rof_any _ _).mono ?_
      rintro e' w'' ⟨rfl, hb⟩
      exact hK.out _ _ hb Eq1.mk Fresh.no
    · intro p vs w' K hJ hp1 hp2 hS hR hK
      simp only [DepJ, List.getD_cons_zero, List.getD_cons_succ] at hJ
      obtain ⟨j5, j8, j10, -⟩ := hJ
      have j5 := Eq1.out j5
      have j8 := Eq1.out j8
      have j10 := Eq1.out j10
      simp only [j5, j8, j10] at hK ⊢
      rw [if_pos (by rfl)]
      go_step
      exact hK.out _ _ (Below.refl _ _) (Eq1.of (by simp)) Fresh.no
    · intro p vs w' K hJ hp1 hp2 hS hR hK
      simp only [DepJ, List.getD_cons_zero, List.getD_cons_succ] at hJ
      obtain ⟨j5, j11, -⟩ := hJ
      have j5 := Eq1.out j5
      have j11 := Eq1.out j11
      simp only [j5, j11] at hK ⊢
      rw [if_pos (by rfl)]
      go_step
      exact hK.out _ _ (Below.refl _ _) Eq1.mk Fresh.no
    · intro p vs w' K hJ hp1 hp2 hS hR hK
      simp only [DepJ, List.getD_cons_zero, List.getD_cons_succ] at hJ
      obtain ⟨j12, -⟩ := hJ
      have j12 := Eq1.out j12
      simp only [j12] at hK ⊢
      rw [if_pos (by rfl)]
      go_step
      exact hK.out _ _ (Below.refl _ _) Eq1.mk Fresh.no
    · intro p vs w' K hJ hp1 hp2 hS hR hK
      simp only [DepJ, List.getD_cons_zero, List.getD_cons_succ] at hJ
      obtain ⟨j13, -⟩ := hJ
      have j13 := Eq1.out j13
      simp only [j13] at hK ⊢
      rw [if_pos (by rfl)]
      go_step
      exact hK.out _ _ (Below.refl _ _) Eq1.mk Fresh.no
    · intro p vs w' K hJ hp1 hp2 hS hR hK
      simp only [DepJ, List.getD_cons_zero, List.getD_cons_succ] at hJ
      obtain ⟨j13, -⟩ := hJ
      have j13 := Eq1.out j13
      simp only [j13] at hK ⊢
      rw [if_pos (by rfl)]
      go_step
      exact hK.out _ _ (Below.refl _ _) Eq1.mk Fresh.no
    · intro p vs w' K hJ hp1 hp2 hS hR hK
      simp only [DepJ, List.getD_cons_zero, List.getD_cons_succ] at hJ
      obtain ⟨j13, j15, -⟩ := hJ
      have j13 := Eq1.out j13
      have j15 := Eq1.out j15
      simp only [j13, j15] at hK ⊢
      rw [if_pos (by rfl)]
      have C := Hp.facts hS
      simp only [Facts, factsL, and_true, true_and, List.set_cons_zero, List.set_cons_succ, List.setIfInBounds_toArray] at C
      have hsz := hR.1
      go_step
      exact hK.out _ _ (Below.refl _ _) Eq1.mk Fresh.no
    · intro p vs w' K hJ hp1 hp2 hS hR hK
      simp only [DepJ, List.getD_cons_zero, List.getD_cons_succ] at hJ
      obtain ⟨j13, j14, j16, -⟩ := hJ
      have j13 := Eq1.out j13
      have j14 := Eq1.out j14
      have j16 := Eq1.out j16
      simp only [j13, j14, j16] at hK ⊢
      rw [if_pos (by rfl)]
      have C := Hp.facts hS
      simp only [Facts, factsL, and_true, true_and, List.set_cons_zero, List.set_cons_succ, List.setIfInBounds_toArray] at C
      have hsz := hR.1
      go_step
      refine (hat_any _ _ _).mono ?_
      rintro e' w'' ⟨rfl, hb⟩
      exact hK.out _ _ hb Eq1.mk Fresh.no
    · intro p vs w' K hJ hp1 hp2 hS hR hK
      simp only [DepJ, List.getD_cons_zero, List.getD_cons_succ] at hJ
      obtain ⟨j13, j17, -⟩ := hJ
      have j13 := Eq1.out j13
      have j17 := Eq1.out j17
      simp only [j13, j17] at hK ⊢
      rw [if_pos (by rfl)]
      have C := Hp.facts hS
      simp only [Facts, factsL, and_true, true_and, List.set_cons_zero, List.set_cons_succ, List.setIfInBounds_toArray] at C
      have hsz := hR.1
      go_step
      refine (lof_any _ _ _ _).mono ?_
      rintro e' w'' ⟨rfl, hb⟩
      exact hK.out _ _ hb Eq1.mk Fresh.no
    · intro p vs w' K hJ hp1 hp2 hS hR hK
      simp only [DepJ, List.getD_cons_zero, List.getD_cons_succ] at hJ
      obtain ⟨j13, -⟩ := hJ
      have j13 := Eq1.out j13
      simp only [j13] at hK ⊢
      rw [if_pos (by rfl)]
      go_step
      exact hK.out _ _ (Below.refl _ _) Eq1.mk Fresh.no
    · intro p vs w' K hJ hp1 hp2 hS hR hK
      simp only [DepJ, List.getD_cons_zero, List.getD_cons_succ] at hJ
      obtain ⟨j13, -⟩ := hJ
      have j13 := Eq1.out j13
      simp only [j13] at hK ⊢
      rw [if_pos (by rfl)]
      go_step
      exact hK.out _ _ (Below.refl _ _) Eq1.mk Fresh.no
    · intro p vs w' K hJ hp1 hp2 hS hR hK
      simp only [DepJ, List.getD_cons_zero, List.getD_cons_succ] at hJ
      obtain ⟨j13, j20, -⟩ := hJ
      have j13 := Eq1.out j13
      have j20 := Eq1.out j20
      simp only [j13, j20] at hK ⊢
      rw [if_pos (by rfl)]
      have C := Hp.facts hS
      simp only [Facts, factsL, and_true, true_and, List.set_cons_zero, List.set_cons_succ, List.setIfInBounds_toArray] at C
      have hsz := hR.1
      go_step
      exact hK.out _ _ (Below.refl _ _) Eq1.mk Fresh.no
    · intro p vs w' K hJ hp1 hp2 hS hR hK
      simp only [DepJ, List.getD_cons_zero, List.getD_cons_succ] at hJ
      obtain ⟨j13, j19, j21, -⟩ := hJ
      have j13 := Eq1.out j13
      have j19 := Eq1.out j19
      have j21 := Eq1.out j21
      simp only [j13, j19, j21] at hK ⊢
      rw [if_pos (by rfl)]
      have C := Hp.facts hS
      simp only [Facts, factsL, and_true, true_and, List.set_cons_zero, List.set_cons_succ, List.setIfInBounds_toArray] at C
      have hsz := hR.1
      go_step
      refine (rat_any _ _ _).mono ?_
      rintro e' w'' ⟨rfl, hb⟩
      exact hK.out _ _ hb Eq1.mk Fresh.no
    · intro p vs w' K hJ hp1 hp2 hS hR hK
      simp only [DepJ, List.getD_cons_zero, List.getD_cons_succ] at hJ
      obtain ⟨j13, j18, j22, -⟩ := hJ
      have j13 := Eq1.out j13
      have j18 := Eq1.out j18
      have j22 := Eq1.out j22
      simp only [j13, j18, j22] at hK ⊢
      rw [if_pos (by rfl)]
      go_step
      exact hK.out _ _ (Below.refl _ _) (Eq1.of (by simp)) Fresh.no
    · intro p vs w' K hJ hp1 hp2 hS hR hK
      simp only [DepJ, List.getD_cons_zero, List.getD_cons_succ] at hJ
      obtain ⟨j13, j23, -⟩ := hJ
      have j13 := Eq1.out j13
      have j23 := Eq1.out j23
      simp only [j13, j23] at hK ⊢
      rw [if_pos (by rfl)]
      go_step
      exact hK.out _ _ (Below.refl _ _) Eq1.mk Fresh.no
  case hst_3 => refine ⟨fun _ _ _ _ h => h, fun _ _ _ _ h => h, fun _ _ _ _ h => h, fun _ _ _ _ h => h, fun _ _ _ _ h => h, fun _ _ _ _ h => h, fun _ _ _ _ h => h, fun _ _ _ _ h => h, fun _ _ _ _ h => h, fun _ _ _ _ h => h, fun _ _ _ _ h => h, fun _ _ _ _ h => h, fun _ _ _ _ h => h, fun _ _ _ _ h => h, fun _ _ _ _ h => h, fun _ _ _ _ h => h, fun _ _ _ _ h => h, fun _ _ _ _ h => h, fun _ _ _ _ h => h, fun _ _ _ _ h => h, fun _ _ _ _ h => h, fun _ _ _ _ h => h, fun _ _ _ _ h => h, fun _ _ _ _ h => h, fun _ _ _ _ h => h, trivial⟩
  intro vs w' hJ hD hS hR
  simp only [AllJ, Nat.reduceAdd] at hJ
  obtain ⟨v0, v1, v2, v3, v4, v5, v6, v7, v8, v9, v10, v11, v12, v13, v14, v15, v16, v17, v18, v19, v20, v21, v22, v23, v24, -⟩ := hJ
  clear C
  replace v0 := Eq1.out v0
  replace v1 := Eq1.out v1
  replace v2 := Eq1.out v2
  replace v3 := Eq1.out v3
  replace v4 := Eq1.out v4
  replace v5 := Eq1.out v5
  replace v6 := Eq1.out v6
  replace v7 := Eq1.out v7
  replace v8 := Eq1.out v8
  replace v9 := Eq1.out v9
  replace v10 := Eq1.out v10
  replace v11 := Eq1.out v11
  replace v12 := Eq1.out v12
  replace v13 := Eq1.out v13
  replace v14 := Eq1.out v14
  replace v15 := Eq1.out v15
  replace v16 := Eq1.out v16
  replace v17 := Eq1.out v17
  replace v18 := Eq1.out v18
  replace v19 := Eq1.out v19
  replace v20 := Eq1.out v20
  replace v21 := Eq1.out v21
  replace v22 := Eq1.out v22
  replace v23 := Eq1.out v23
  replace v24 := Eq1.out v24
  simp only [v0, v1, v2, v3, v4, v5, v6, v7, v8, v9, v10, v11, v12, v13, v14, v15, v16, v17, v18, v19, v20, v21, v22, v23, v24, List.drop_succ_cons, List.drop_zero]
  refine wpList_nil' ?_
  have H' : Hp _ _ _ := hS
  clear hD hR hS v0 v1 v2 v3 v4 v5 v6 v7 v8 v9 v10 v11 v12 v13 v14 v15 v16 v17 v18 v19 v20 v21 v22 v23 v24
  clear vs H
  have H := H'; clear H'; have C := Hp.facts H; simp only [Facts, factsL, and_true, true_and, List.set_cons_zero, List.set_cons_succ, List.setIfInBounds_toArray] at C
  (repeat' ((fail_if_success (with_reducible show bodyPost _ _ _ _ _ _)); first | ((with_reducible refine Hp.abs_alloc H ?_); intro b' w' H' hb'; (try simp only [hb']); clear hb'; ((try simp only [List.set_cons_zero, List.set_cons_succ, List.setIfInBounds_toArray] at H'); clear C H; have H := H'; clear H'; have C := Hp.facts H; simp only [Facts, factsL, and_true, true_and, List.set_cons_zero, List.set_cons_succ, List.setIfInBounds_toArray] at C)) | ((with_reducible show wpList _ _ _ _ _ (World.setCell _ _ _)); (with_reducible apply Hp.abs_gen H); (first | ((repeat (with_reducible apply Hp.set' 0)); (with_reducible exact H); (repeat rfl); intro w' H') | ((repeat (with_reducible apply Hp.set' 1)); (with_reducible exact H); (repeat rfl); intro w' H') | ((repeat (with_reducible apply Hp.set' 2)); (with_reducible exact H); (repeat rfl); intro w' H') | ((repeat (with_reducible apply Hp.set' 3)); (with_reducible exact H); (repeat rfl); intro w' H') | ((repeat (with_reducible apply Hp.set' 4)); (with_reducible exact H); (repeat rfl); intro w' H') | ((repeat (with_reducible apply Hp.set' 5)); (with_reducible exact H); (repeat rfl); intro w' H') | ((repeat (with_reducible apply Hp.set' 6)); (with_reducible exact H); (repeat rfl); intro w' H') | ((repeat (with_reducible apply Hp.set' 7)); (with_reducible exact H); (repeat rfl); intro w' H')); ((try simp only [List.set_cons_zero, List.set_cons_succ, List.setIfInBounds_toArray] at H'); clear C H; have H := H'; clear H'; have C := Hp.facts H; simp only [Facts, factsL, and_true, true_and, List.set_cons_zero, List.set_cons_succ, List.setIfInBounds_toArray] at C)) | go_values | go_skip | go_guarded | go_step | go_upon | go_back | (simp only [Int.not_lt, Int.not_le] at *; go_simp) | (go_values <;> (try go_simp)) | (go_ite <;> go_prune <;> (try go_simp)) | (split <;> (first | (rename_i hx; exact (hx _ rfl).elim) | go_prune))))
  refine (rbytes_one c n m h _).mono ?_
  (rintro e' w' ⟨⟨v', rfl, ho⟩, hb'⟩; have H' := Hp.rowOf H hb' ho; obtain ⟨A3, c3, rfl⟩ := Go.LawLift.own_form ho; clear ho hb'; ((try simp only [List.set_cons_zero, List.set_cons_succ, List.setIfInBounds_toArray] at H'); clear C H; have H := H'; clear H'; have C := Hp.facts H; simp only [Facts, factsL, and_true, true_and, List.set_cons_zero, List.set_cons_succ, List.setIfInBounds_toArray] at C))
  have hTl := tagL_len ⟨c, n, m⟩
  generalize tagL ⟨c, n, m⟩ = T at *
  (repeat' ((fail_if_success (with_reducible show bodyPost _ _ _ _ _ _)); first | ((with_reducible refine Hp.abs_alloc H ?_); intro b' w' H' hb'; (try simp only [hb']); clear hb'; ((try simp only [List.set_cons_zero, List.set_cons_succ, List.setIfInBounds_toArray] at H'); clear C H; have H := H'; clear H'; have C := Hp.facts H; simp only [Facts, factsL, and_true, true_and, List.set_cons_zero, List.set_cons_succ, List.setIfInBounds_toArray] at C)) | ((with_reducible show wpList _ _ _ _ _ (World.setCell _ _ _)); (with_reducible apply Hp.abs_gen H); (first | ((repeat (with_reducible apply Hp.set' 0)); (with_reducible exact H); (repeat rfl); intro w' H') | ((repeat (with_reducible apply Hp.set' 1)); (with_reducible exact H); (repeat rfl); intro w' H') | ((repeat (with_reducible apply Hp.set' 2)); (with_reducible exact H); (repeat rfl); intro w' H') | ((repeat (with_reducible apply Hp.set' 3)); (with_reducible exact H); (repeat rfl); intro w' H') | ((repeat (with_reducible apply Hp.set' 4)); (with_reducible exact H); (repeat rfl); intro w' H') | ((repeat (with_reducible apply Hp.set' 5)); (with_reducible exact H); (repeat rfl); intro w' H') | ((repeat (with_reducible apply Hp.set' 6)); (with_reducible exact H); (repeat rfl); intro w' H') | ((repeat (with_reducible apply Hp.set' 7)); (with_reducible exact H); (repeat rfl); intro w' H')); ((try simp only [List.set_cons_zero, List.set_cons_succ, List.setIfInBounds_toArray] at H'); clear C H; have H := H'; clear H'; have C := Hp.facts H; simp only [Facts, factsL, and_true, true_and, List.set_cons_zero, List.set_cons_succ, List.setIfInBounds_toArray] at C)) | go_values | go_skip | go_guarded | go_step | go_upon | go_back | (simp only [Int.not_lt, Int.not_le] at *; go_simp) | (go_values <;> (try go_simp)) | (go_ite <;> go_prune <;> (try go_simp)) | (split <;> (first | (rename_i hx; exact (hx _ rfl).elim) | go_prune))))
  refine (same_any T T _ _ _ (Hp.row H 2 rfl) (Hp.row H 0 rfl) (by omega) (by omega)).mono ?_
  rintro e' w' ⟨rfl, hb'⟩
  rw [decide_eq_true (rfl : T = T)]
  (have H' := Hp.step H hb'; clear hb'; ((try simp only [List.set_cons_zero, List.set_cons_succ, List.setIfInBounds_toArray] at H'); clear C H; have H := H'; clear H'; have C := Hp.facts H; simp only [Facts, factsL, and_true, true_and, List.set_cons_zero, List.set_cons_succ, List.setIfInBounds_toArray] at C))
  have d0 : decide ((z : Int) < 0) = false := by simp
  have d1 : decide ((16777216 : Int) < (z : Int)) = false := by simp; omega
  have hLl := lenL_len (z : Int)
  have hrl := rlen_any z hz
  generalize lenL (z : Int) = D at *
  clear hz
  (repeat' ((fail_if_success (with_reducible show bodyPost _ _ _ _ _ _)); first | ((with_reducible refine Hp.abs_alloc H ?_); intro b' w' H' hb'; (try simp only [hb']); clear hb'; ((try simp only [List.set_cons_zero, List.set_cons_succ, List.setIfInBounds_toArray] at H'); clear C H; have H := H'; clear H'; have C := Hp.facts H; simp only [Facts, factsL, and_true, true_and, List.set_cons_zero, List.set_cons_succ, List.setIfInBounds_toArray] at C)) | ((with_reducible show wpList _ _ _ _ _ (World.setCell _ _ _)); (with_reducible apply Hp.abs_gen H); (first | ((repeat (with_reducible apply Hp.set' 0)); (with_reducible exact H); (repeat rfl); intro w' H') | ((repeat (with_reducible apply Hp.set' 1)); (with_reducible exact H); (repeat rfl); intro w' H') | ((repeat (with_reducible apply Hp.set' 2)); (with_reducible exact H); (repeat rfl); intro w' H') | ((repeat (with_reducible apply Hp.set' 3)); (with_reducible exact H); (repeat rfl); intro w' H') | ((repeat (with_reducible apply Hp.set' 4)); (with_reducible exact H); (repeat rfl); intro w' H') | ((repeat (with_reducible apply Hp.set' 5)); (with_reducible exact H); (repeat rfl); intro w' H') | ((repeat (with_reducible apply Hp.set' 6)); (with_reducible exact H); (repeat rfl); intro w' H') | ((repeat (with_reducible apply Hp.set' 7)); (with_reducible exact H); (repeat rfl); intro w' H')); ((try simp only [List.set_cons_zero, List.set_cons_succ, List.setIfInBounds_toArray] at H'); clear C H; have H := H'; clear H'; have C := Hp.facts H; simp only [Facts, factsL, and_true, true_and, List.set_cons_zero, List.set_cons_succ, List.setIfInBounds_toArray] at C)) | (go_at_call 47; refine (known_any2 _).mono ?_; rintro e' w' ⟨rfl, hb'⟩; (have H' := Hp.step H hb'; clear hb'; ((try simp only [List.set_cons_zero, List.set_cons_succ, List.setIfInBounds_toArray] at H'); clear C H; have H := H'; clear H'; have C := Hp.facts H; simp only [Facts, factsL, and_true, true_and, List.set_cons_zero, List.set_cons_succ, List.setIfInBounds_toArray] at C))) | go_values | go_skip | go_guarded | go_step | go_upon | go_back | (simp only [Int.not_lt, Int.not_le] at *; go_simp) | (go_values <;> (try go_simp)) | (go_ite <;> go_prune <;> (try go_simp)) | (split <;> (first | (rename_i hx; exact (hx _ rfl).elim) | go_prune))))
  refine (hrl _).mono ?_
  (rintro e' w' ⟨⟨v', rfl, ho⟩, hb'⟩; have H' := Hp.rowOf H hb' ho; obtain ⟨A4, c4, rfl⟩ := Go.LawLift.own_form ho; clear ho hb'; ((try simp only [List.set_cons_zero, List.set_cons_succ, List.setIfInBounds_toArray] at H'); clear C H; have H := H'; clear H'; have C := Hp.facts H; simp only [Facts, factsL, and_true, true_and, List.set_cons_zero, List.set_cons_succ, List.setIfInBounds_toArray] at C))
  (repeat' ((fail_if_success (with_reducible show bodyPost _ _ _ _ _ _)); first | ((with_reducible refine Hp.abs_alloc H ?_); intro b' w' H' hb'; (try simp only [hb']); clear hb'; ((try simp only [List.set_cons_zero, List.set_cons_succ, List.setIfInBounds_toArray] at H'); clear C H; have H := H'; clear H'; have C := Hp.facts H; simp only [Facts, factsL, and_true, true_and, List.set_cons_zero, List.set_cons_succ, List.setIfInBounds_toArray] at C)) | ((with_reducible show wpList _ _ _ _ _ (World.setCell _ _ _)); (with_reducible apply Hp.abs_gen H); (first | ((repeat (with_reducible apply Hp.set' 0)); (with_reducible exact H); (repeat rfl); intro w' H') | ((repeat (with_reducible apply Hp.set' 1)); (with_reducible exact H); (repeat rfl); intro w' H') | ((repeat (with_reducible apply Hp.set' 2)); (with_reducible exact H); (repeat rfl); intro w' H') | ((repeat (with_reducible apply Hp.set' 3)); (with_reducible exact H); (repeat rfl); intro w' H') | ((repeat (with_reducible apply Hp.set' 4)); (with_reducible exact H); (repeat rfl); intro w' H') | ((repeat (with_reducible apply Hp.set' 5)); (with_reducible exact H); (repeat rfl); intro w' H') | ((repeat (with_reducible apply Hp.set' 6)); (with_reducible exact H); (repeat rfl); intro w' H') | ((repeat (with_reducible apply Hp.set' 7)); (with_reducible exact H); (repeat rfl); intro w' H')); ((try simp only [List.set_cons_zero, List.set_cons_succ, List.setIfInBounds_toArray] at H'); clear C H; have H := H'; clear H'; have C := Hp.facts H; simp only [Facts, factsL, and_true, true_and, List.set_cons_zero, List.set_cons_succ, List.setIfInBounds_toArray] at C)) | go_values | go_skip | go_guarded | go_step | go_upon | go_back | (simp only [Int.not_lt, Int.not_le] at *; go_simp) | (go_values <;> (try go_simp)) | (go_ite <;> go_prune <;> (try go_simp)) | (split <;> (first | (rename_i hx; exact (hx _ rfl).elim) | go_prune))))
  refine (same_any D D _ _ _ (Hp.row H 2 rfl) (Hp.row H 0 rfl) (by omega) (by omega)).mono ?_
  rintro e' w' ⟨rfl, hb'⟩
  rw [decide_eq_true (rfl : D = D)]
  (have H' := Hp.step H hb'; clear hb'; ((try simp only [List.set_cons_zero, List.set_cons_succ, List.setIfInBounds_toArray] at H'); clear C H; have H := H'; clear H'; have C := Hp.facts H; simp only [Facts, factsL, and_true, true_and, List.set_cons_zero, List.set_cons_succ, List.setIfInBounds_toArray] at C))
  (repeat' ((fail_if_success (with_reducible show bodyPost _ _ _ _ _ _)); first | ((with_reducible refine Hp.abs_alloc H ?_); intro b' w' H' hb'; (try simp only [hb']); clear hb'; ((try simp only [List.set_cons_zero, List.set_cons_succ, List.setIfInBounds_toArray] at H'); clear C H; have H := H'; clear H'; have C := Hp.facts H; simp only [Facts, factsL, and_true, true_and, List.set_cons_zero, List.set_cons_succ, List.setIfInBounds_toArray] at C)) | ((with_reducible show wpList _ _ _ _ _ (World.setCell _ _ _)); (with_reducible apply Hp.abs_gen H); (first | ((repeat (with_reducible apply Hp.set' 0)); (with_reducible exact H); (repeat rfl); intro w' H') | ((repeat (with_reducible apply Hp.set' 1)); (with_reducible exact H); (repeat rfl); intro w' H') | ((repeat (with_reducible apply Hp.set' 2)); (with_reducible exact H); (repeat rfl); intro w' H') | ((repeat (with_reducible apply Hp.set' 3)); (with_reducible exact H); (repeat rfl); intro w' H') | ((repeat (with_reducible apply Hp.set' 4)); (with_reducible exact H); (repeat rfl); intro w' H') | ((repeat (with_reducible apply Hp.set' 5)); (with_reducible exact H); (repeat rfl); intro w' H') | ((repeat (with_reducible apply Hp.set' 6)); (with_reducible exact H); (repeat rfl); intro w' H') | ((repeat (with_reducible apply Hp.set' 7)); (with_reducible exact H); (repeat rfl); intro w' H')); ((try simp only [List.set_cons_zero, List.set_cons_succ, List.setIfInBounds_toArray] at H'); clear C H; have H := H'; clear H'; have C := Hp.facts H; simp only [Facts, factsL, and_true, true_and, List.set_cons_zero, List.set_cons_succ, List.setIfInBounds_toArray] at C)) | go_values | go_skip | go_guarded | go_step | go_upon | go_back | (simp only [Int.not_lt, Int.not_le] at *; go_simp) | (go_values <;> (try go_simp)) | (go_ite <;> go_prune <;> (try go_simp)) | (split <;> (first | (rename_i hx; exact (hx _ rfl).elim) | go_prune))))
  go_ret
  exact ⟨rfl, H.low⟩
set_option maxHeartbeats 8000000 in
theorem headWrites_no0 (c n : Int) (m : Bool) (z : Int) (hz : z < 0) (h : okTag ⟨c, n, m⟩ = false) (w : World) :
    Calls Try.prog 6 #[.agg #[.int .i64 c, .int .i64 n, .bool m], .int .i64 z] w fun e w' => e = .returned (.bool true) ∧ Below w.heap.size w w' := by
  have hT := hbytes_all c n m
  have hL := hlen_all z
  have eT : tagR ⟨c, n, m⟩ = ([], 1) := by unfold tagR; rw [h]; rfl
  have eL : lenR z = ([], 1) := by unfold lenR; rw [if_pos hz]
  rw [eT] at hT
  rw [eL] at hL
  clear eT eL
  have H := Hp.start w
  have C : True := trivial
  go_enter Try.func6, Try.ntmps6
  (repeat' ((fail_if_success (with_reducible show bodyPost _ _ _ _ _ _)); first | ((with_reducible refine Hp.abs_alloc H ?_); intro b' w' H' hb'; (try simp only [hb']); clear hb'; ((try simp only [List.set_cons_zero, List.set_cons_succ, List.setIfInBounds_toArray] at H'); clear C H; have H := H'; clear H'; have C := Hp.facts H; simp only [Facts, factsL, and_true, true_and, List.set_cons_zero, List.set_cons_succ, List.setIfInBounds_toArray] at C)) | ((with_reducible show wpList _ _ _ _ _ (World.setCell _ _ _)); (with_reducible apply Hp.abs_gen H); (first | ((repeat (with_reducible apply Hp.set' 0)); (with_reducible exact H); (repeat rfl); intro w' H') | ((repeat (with_reducible apply Hp.set' 1)); (with_reducible exact H); (repeat rfl); intro w' H') | ((repeat (with_reducible apply Hp.set' 2)); (with_reducible exact H); (repeat rfl); intro w' H') | ((repeat (with_reducible apply Hp.set' 3)); (with_reducible exact H); (repeat rfl); intro w' H') | ((repeat (with_reducible apply Hp.set' 4)); (with_reducible exact H); (repeat rfl); intro w' H') | ((repeat (with_reducible apply Hp.set' 5)); (with_reducible exact H); (repeat rfl); intro w' H') | ((repeat (with_reducible apply Hp.set' 6)); (with_reducible exact H); (repeat rfl); intro w' H') | ((repeat (with_reducible apply Hp.set' 7)); (with_reducible exact H); (repeat rfl); intro w' H')); ((try simp only [List.set_cons_zero, List.set_cons_succ, List.setIfInBounds_toArray] at H'); clear C H; have H := H'; clear H'; have C := Hp.facts H; simp only [Facts, factsL, and_true, true_and, List.set_cons_zero, List.set_cons_succ, List.setIfInBounds_toArray] at C)) | (go_at_call 36; refine (rright_any _ _ _ _).mono ?_; rintro e' w' ⟨rfl, hb'⟩; rw [h]; (have H' := Hp.step H hb'; clear hb'; ((try simp only [List.set_cons_zero, List.set_cons_succ, List.setIfInBounds_toArray] at H'); clear C H; have H := H'; clear H'; have C := Hp.facts H; simp only [Facts, factsL, and_true, true_and, List.set_cons_zero, List.set_cons_succ, List.setIfInBounds_toArray] at C))) | (go_at_call 38; refine (lto_any _ _ _ _).mono ?_; rintro e' w' ⟨rfl, hb'⟩; (have H' := Hp.step H hb'; clear hb'; ((try simp only [List.set_cons_zero, List.set_cons_succ, List.setIfInBounds_toArray] at H'); clear C H; have H := H'; clear H'; have C := Hp.facts H; simp only [Facts, factsL, and_true, true_and, List.set_cons_zero, List.set_cons_succ, List.setIfInBounds_toArray] at C))) | go_values | go_skip | go_guarded | go_step | go_upon | go_back | (simp only [Int.not_lt, Int.not_le] at *; go_simp) | (go_values <;> (try go_simp)) | (go_ite <;> go_prune <;> (try go_simp)) | (split <;> (first | (rename_i hx; exact (hx _ rfl).elim) | go_prune))))
  refine (hT _).mono ?_
  (rintro e' w' ⟨⟨v', rfl, ho⟩, hb'⟩; have H' := Hp.rowOf H hb' ho; obtain ⟨A1, c1, rfl⟩ := Go.LawLift.own_form ho; clear ho hb'; ((try simp only [List.set_cons_zero, List.set_cons_succ, List.setIfInBounds_toArray] at H'); clear C H; have H := H'; clear H'; have C := Hp.facts H; simp only [Facts, factsL, and_true, true_and, List.set_cons_zero, List.set_cons_succ, List.setIfInBounds_toArray] at C))
  (repeat' ((fail_if_success (with_reducible show bodyPost _ _ _ _ _ _)); first | ((with_reducible refine Hp.abs_alloc H ?_); intro b' w' H' hb'; (try simp only [hb']); clear hb'; ((try simp only [List.set_cons_zero, List.set_cons_succ, List.setIfInBounds_toArray] at H'); clear C H; have H := H'; clear H'; have C := Hp.facts H; simp only [Facts, factsL, and_true, true_and, List.set_cons_zero, List.set_cons_succ, List.setIfInBounds_toArray] at C)) | ((with_reducible show wpList _ _ _ _ _ (World.setCell _ _ _)); (with_reducible apply Hp.abs_gen H); (first | ((repeat (with_reducible apply Hp.set' 0)); (with_reducible exact H); (repeat rfl); intro w' H') | ((repeat (with_reducible apply Hp.set' 1)); (with_reducible exact H); (repeat rfl); intro w' H') | ((repeat (with_reducible apply Hp.set' 2)); (with_reducible exact H); (repeat rfl); intro w' H') | ((repeat (with_reducible apply Hp.set' 3)); (with_reducible exact H); (repeat rfl); intro w' H') | ((repeat (with_reducible apply Hp.set' 4)); (with_reducible exact H); (repeat rfl); intro w' H') | ((repeat (with_reducible apply Hp.set' 5)); (with_reducible exact H); (repeat rfl); intro w' H') | ((repeat (with_reducible apply Hp.set' 6)); (with_reducible exact H); (repeat rfl); intro w' H') | ((repeat (with_reducible apply Hp.set' 7)); (with_reducible exact H); (repeat rfl); intro w' H')); ((try simp only [List.set_cons_zero, List.set_cons_succ, List.setIfInBounds_toArray] at H'); clear C H; have H := H'; clear H'; have C := Hp.facts H; simp only [Facts, factsL, and_true, true_and, List.set_cons_zero, List.set_cons_succ, List.setIfInBounds_toArray] at C)) | go_values | go_skip | go_guarded | go_step | go_upon | go_back | (simp only [Int.not_lt, Int.not_le] at *; go_simp) | (go_values <;> (try go_simp)) | (go_ite <;> go_prune <;> (try go_simp)) | (split <;> (first | (rename_i hx; exact (hx _ rfl).elim) | go_prune))))
  refine (hL _).mono ?_
  (rintro e' w' ⟨⟨v', rfl, ho⟩, hb'⟩; have H' := Hp.rowOf H hb' ho; obtain ⟨A2, c2, rfl⟩ := Go.LawLift.own_form ho; clear ho hb'; ((try simp only [List.set_cons_zero, List.set_cons_succ, List.setIfInBounds_toArray] at H'); clear C H; have H := H'; clear H'; have C := Hp.facts H; simp only [Facts, factsL, and_true, true_and, List.set_cons_zero, List.set_cons_succ, List.setIfInBounds_toArray] at C))
  (repeat' ((fail_if_success (with_reducible show bodyPost _ _ _ _ _ _)); first | ((with_reducible refine Hp.abs_alloc H ?_); intro b' w' H' hb'; (try simp only [hb']); clear hb'; ((try simp only [List.set_cons_zero, List.set_cons_succ, List.setIfInBounds_toArray] at H'); clear C H; have H := H'; clear H'; have C := Hp.facts H; simp only [Facts, factsL, and_true, true_and, List.set_cons_zero, List.set_cons_succ, List.setIfInBounds_toArray] at C)) | ((with_reducible show wpList _ _ _ _ _ (World.setCell _ _ _)); (with_reducible apply Hp.abs_gen H); (first | ((repeat (with_reducible apply Hp.set' 0)); (with_reducible exact H); (repeat rfl); intro w' H') | ((repeat (with_reducible apply Hp.set' 1)); (with_reducible exact H); (repeat rfl); intro w' H') | ((repeat (with_reducible apply Hp.set' 2)); (with_reducible exact H); (repeat rfl); intro w' H') | ((repeat (with_reducible apply Hp.set' 3)); (with_reducible exact H); (repeat rfl); intro w' H') | ((repeat (with_reducible apply Hp.set' 4)); (with_reducible exact H); (repeat rfl); intro w' H') | ((repeat (with_reducible apply Hp.set' 5)); (with_reducible exact H); (repeat rfl); intro w' H') | ((repeat (with_reducible apply Hp.set' 6)); (with_reducible exact H); (repeat rfl); intro w' H') | ((repeat (with_reducible apply Hp.set' 7)); (with_reducible exact H); (repeat rfl); intro w' H')); ((try simp only [List.set_cons_zero, List.set_cons_succ, List.setIfInBounds_toArray] at H'); clear C H; have H := H'; clear H'; have C := Hp.facts H; simp only [Facts, factsL, and_true, true_and, List.set_cons_zero, List.set_cons_succ, List.setIfInBounds_toArray] at C)) | go_values | go_skip | go_guarded | go_step | go_upon | go_back | (simp only [Int.not_lt, Int.not_le] at *; go_simp) | (go_values <;> (try go_simp)) | (go_ite <;> go_prune <;> (try go_simp)) | (split <;> (first | (rename_i hx; exact (hx _ rfl).elim) | go_prune))))
  try simp (disch := omega) only [decide_eq_true, decide_eq_false]
  obtain ⟨wR4, rfl⟩ := Hp.nameW H
  apply region_n (frm wR4.heap.size (fun _ => Hp _ _)) (frm_ok ?hfs_4) frm_sz [] [.light 0 0, .light 0 0, .light 0 0, .light 0 0, .light 0 0, .light 0 0, .light 0 0, .light 0 0, .light 0 0, .light 0 0, .light 0 0, .light 0 0, .light 0 0, .light 0 0, .light 0 0, .light 0 0, .light 0 0, .light 0 0, .light 0 0, .light 0 0, .light 0 0, .light 0 0, .light 0 0, .light 0 0, .light 0 0] [false, false, false, false, false, false, false, false, false, false, false, false, false, false, false, false, false, false, false, false, false, false, false, false, false] 25 112 [] [some 23, some 24, some 25, some 26, some 27, some 28, some 29, some 30, some 31, some 32, some 33, some 34, some 35, some 36, some 37, some 38, some 39, some 40, some 41, some 42, some 43, some 44, some 45, some 46, some 47] [[], [0], [1], [], [2, 3], [4], [5], [5, 6], [5, 7], [5], [5, 9], [5, 8, 10], [5, 11], [12], [13], [13], [13, 15], [13, 14, 16], [13, 17], [13], [13], [13, 20], [13, 19, 21], [13, 18, 22], [13, 23]] [Eq1 _, Eq1 _, Eq1 _, Eq1 _, Eq1 (.bool false), Eq1 _, Eq1 _, Eq1 _, Eq1 _, Eq1 _, Eq1 _, Eq1 (.bool false), Eq1 _, Eq1 _, Eq1 _, Eq1 _, Eq1 _, Eq1 _, Eq1 _, Eq1 _, Eq1 _, Eq1 _, Eq1 _, Eq1 (.bool false), Eq1 _] ?hq1_4 ?hq2_4 ?hq3_4 ?hq4_4 ?hq5_4 ?hq6_4 _ ?hA_4 ?hst_4 ?h0_4 ?hsteps_4 ?hend_4
  case hq1_4 => kernel_rfl
  case hq2_4 => kernel_rfl
  case hq3_4 => kernel_rfl
  case hq5_4 => kernel_rfl
  case hq4_4 => rfl
  case hq6_4 => rfl
  case hA_4 => intro vs; simp only [fillD, Nat.reduceAdd, Act.put, List.setIfInBounds_toArray, List.set_cons_zero, List.set_cons_succ]; rfl
  case h0_4 => exact H.drew
  case hfs_4 => exact fun _ _ _ hb h => Hp.step h hb
  case hsteps_4 =>
    refine ⟨?_, ?_, ?_, ?_, ?_, ?_, ?_, ?_, ?_, ?_, ?_, ?_, ?_, ?_, ?_, ?_, ?_, ?_, ?_, ?_, ?_, ?_, ?_, ?_, ?_, trivial⟩
    · intro p vs w' K hJ hp1 hp2 hS hR hK
      rw [if_pos (by rfl)]
      have C := Hp.facts hS
      simp only [Facts, factsL, and_true, true_and, List.set_cons_zero, List.set_cons_succ, List.setIfInBounds_toArray] at C
      have hsz := hR.1
      go_step
      exact hK.out _ _ (Below.refl _ _) Eq1.mk Fresh.no
    · intro p vs w' K hJ hp1 hp2 hS hR hK
      simp only [DepJ, List.getD_cons_zero, List.getD_cons_succ] at hJ
      obtain ⟨j0, -⟩ := hJ
      have j0 := Eq1.out j0
      simp only [j0] at hK ⊢
      rw [if_pos (by rfl)]
      have C := Hp.facts hS
      simp only [Facts, factsL, and_true, true_and, List.set_cons_zero, List.set_cons_succ, List.setIfInBounds_toArray] at C
      have hsz := hR.1
      go_step
      refine (lto_any _ _ _ _).mono ?_
      rintro e' w'' ⟨rfl, hb⟩
      exact hK.out _ _ hb Eq1.mk Fresh.no
    · intro p vs w' K hJ hp1 hp2 hS hR hK
      simp only [DepJ, List.getD_cons_zero, List.getD_cons_succ] at hJ
      obtain ⟨j1, -⟩ := hJ
      have j1 := Eq1.out j1
      simp only [j1] at hK ⊢
      rw [if_pos (by rfl)]
      have C := Hp.facts hS
      simp only [Facts, factsL, and_true, true_and, List.set_cons_zero, List.set_cons_succ, List.setIfInBounds_toArray] at C
      have hsz := hR.1
      go_step
      refine (hright_any _ _ _ _).mono ?_
      rintro e' w'' ⟨rfl, hb⟩
      rw [h]
      exact hK.out _ _ hb Eq1.mk Fresh.no
    · intro p vs w' K hJ hp1 hp2 hS hR hK
      rw [if_pos (by rfl)]
      go_step
      exact hK.out _ _ (Below.refl _ _) Eq1.mk Fresh.no
    · intro p vs w' K hJ hp1 hp2 hS hR hK
      simp only [DepJ, List.getD_cons_zero, List.getD_cons_succ] at hJ
      obtain ⟨j2, j3, -⟩ := hJ
      have j2 := Eq1.out j2
      have j3 := Eq1.out j3
      simp only [j2, j3] at hK ⊢
      rw [if_pos (by rfl)]
      go_step
      exact hK.out _ _ (Below.refl _ _) (Eq1.of (by simp)) Fresh.no
    · intro p vs w' K hJ hp1 hp2 hS hR hK
      simp only [DepJ, List.getD_cons_zero, List.getD_cons_succ] at hJ
      obtain ⟨j4, -⟩ := hJ
      have j4 := Eq1.out j4
      simp only [j4] at hK ⊢
      rw [if_pos (by rfl)]
      go_step
      exact hK.out _ _ (Below.refl _ _) Eq1.mk Fresh.no
    · intro p vs w' K hJ hp1 hp2 hS hR hK
      simp only [DepJ, List.getD_cons_zero, List.getD_cons_succ] at hJ
      obtain ⟨j5, -⟩ := hJ
      have j5 := Eq1.out j5
      simp only [j5] at hK ⊢
      rw [if_pos (by rfl)]
      go_step
      exact hK.out _ _ (Below.refl _ _) Eq1.mk Fresh.no
    · intro p vs w' K hJ hp1 hp2 hS hR hK
      simp only [DepJ, List.getD_cons_zero, List.getD_cons_succ] at hJ
      obtain ⟨j5, j6, -⟩ := hJ
      have j5 := Eq1.out j5
      have j6 := Eq1.out j6
      simp only [j5, j6] at hK ⊢
      rw [if_pos (by rfl)]
      have C := Hp.facts hS
      simp only [Facts, factsL, and_true, true_and, List.set_cons_zero, List.set_cons_succ, List.setIfInBounds_toArray] at C
      have hsz := hR.1
      go_step
      refine (hof_any _ _).mono ?_
      rintro e' w'' ⟨rfl, hb⟩
      exact hK.out _ _ hb Eq1.mk Fresh.no
    · intro p vs w' K hJ hp1 hp2 hS hR hK
      simp only [DepJ, List.getD_cons_zero, List.getD_cons_succ] at hJ
      obtain ⟨j5, j7, -⟩ := hJ
      have j5 := Eq1.out j5
      have j7 := Eq1.out j7
      simp only [j5, j7] at hK ⊢
      rw [if_pos (by rfl)]
      have C := Hp.facts hS
      simp only [Facts, factsL, and_true, true_and, List.set_cons_zero, List.set_cons_succ, List.setIfInBounds_toArray] at C
      have hsz := hR.1
      go_step
      refine (lof_any _ _ _ _).mono ?_
      rintro e' w'' ⟨rfl, hb⟩
      exact hK.out _ _ hb Eq1.mk Fresh.no
    · intro p vs w' K hJ hp1 hp2 hS hR hK
      simp only [DepJ, List.getD_cons_zero, List.getD_cons_succ] at hJ
      obtain ⟨j5, -⟩ := hJ
      have j5 := Eq1.out j5
      simp only [j5] at hK ⊢
      rw [if_pos (by rfl)]
      go_step
      exact hK.out _ _ (Below.refl _ _) Eq1.mk Fresh.no
    · intro p vs w' K hJ hp1 hp2 hS hR hK
      simp only [DepJ, List.getD_cons_zero, List.getD_cons_succ] at hJ
      obtain ⟨j5, j9, -⟩ := hJ
      have j5 := Eq1.out j5
      have j9 := Eq1.out j9
      simp only [j5, j9] at hK ⊢
      rw [if_pos (by rfl)]
      have C := Hp.facts hS
      simp only [Facts, factsL, and_true, true_and, List.set_cons_zero, List.set_cons_succ, List.setIfInBounds_toArray] at C
      have hsz := hR.1
      go_step
      refine (rof_any _ _).mono ?_
      rintro e' w'' ⟨rfl, hb⟩
      exact hK.out _ _ hb Eq1.mk Fresh.no
    · intro p vs w' K hJ hp1 hp2 hS hR hK
      simp only [DepJ, List.getD_cons_zero, List.getD_cons_succ] at hJ
      obtain ⟨j5, j8, j10, -⟩ := hJ
      have j5 := Eq1.out j5
      have j8 := Eq1.out j8
      have j10 := Eq1.out j10
      simp only [j5, j8, j10] at hK ⊢
      rw [if_pos (by rfl)]
      go_step
      exact hK.out _ _ (Below.refl _ _) (Eq1.of (by simp)) Fresh.no
    · intro p vs w' K hJ hp1 hp2 hS hR hK
      simp only [DepJ, List.getD_cons_zero, List.getD_cons_succ] at hJ
      obtain ⟨j5, j11, -⟩ := hJ
      have j5 := Eq1.out j5
      have j11 := Eq1.out j11
      simp only [j5, j11] at hK ⊢
      rw [if_pos (by rfl)]
      go_step
      exact hK.out _ _ (Below.refl _ _) Eq1.mk Fresh.no
    · intro p vs w' K hJ hp1 hp2 hS hR hK
      simp only [DepJ, List.getD_cons_zero, List.getD_cons_succ] at hJ
      obtain ⟨j12, -⟩ := hJ
      have j12 := Eq1.out j12
      simp only [j12] at hK ⊢
      rw [if_pos (by rfl)]
      go_step
      exact hK.out _ _ (Below.refl _ _) Eq1.mk Fresh.no
    · intro p vs w' K hJ hp1 hp2 hS hR hK
      simp only [DepJ, List.getD_cons_zero, List.getD_cons_succ] at hJ
      obtain ⟨j13, -⟩ := hJ
      have j13 := Eq1.out j13
      simp only [j13] at hK ⊢
      rw [if_pos (by rfl)]
      go_step
      exact hK.out _ _ (Below.refl _ _) Eq1.mk Fresh.no
    · intro p vs w' K hJ hp1 hp2 hS hR hK
      simp only [DepJ, List.getD_cons_zero, List.getD_cons_succ] at hJ
      obtain ⟨j13, -⟩ := hJ
      have j13 := Eq1.out j13
      simp only [j13] at hK ⊢
      rw [if_pos (by rfl)]
      go_step
      exact hK.out _ _ (Below.refl _ _) Eq1.mk Fresh.no
    · intro p vs w' K hJ hp1 hp2 hS hR hK
      simp only [DepJ, List.getD_cons_zero, List.getD_cons_succ] at hJ
      obtain ⟨j13, j15, -⟩ := hJ
      have j13 := Eq1.out j13
      have j15 := Eq1.out j15
      simp only [j13, j15] at hK ⊢
      rw [if_pos (by rfl)]
      have C := Hp.facts hS
      simp only [Facts, factsL, and_true, true_and, List.set_cons_zero, List.set_cons_succ, List.setIfInBounds_toArray] at C
      have hsz := hR.1
      go_step
      exact hK.out _ _ (Below.refl _ _) Eq1.mk Fresh.no
    · intro p vs w' K hJ hp1 hp2 hS hR hK
      simp only [DepJ, List.getD_cons_zero, List.getD_cons_succ] at hJ
      obtain ⟨j13, j14, j16, -⟩ := hJ
      have j13 := Eq1.out j13
      have j14 := Eq1.out j14
      have j16 := Eq1.out j16
      simp only [j13, j14, j16] at hK ⊢
      rw [if_pos (by rfl)]
      have C := Hp.facts hS
      simp only [Facts, factsL, and_true, true_and, List.set_cons_zero, List.set_cons_succ, List.setIfInBounds_toArray] at C
      have hsz := hR.1
      go_step
      refine (hat_any _ _ _).mono ?_
      rintro e' w'' ⟨rfl, hb⟩
      exact hK.out _ _ hb Eq1.mk Fresh.no
    · intro p vs w' K hJ hp1 hp2 hS hR hK
      simp only [DepJ, List.getD_cons_zero, List.getD_cons_succ] at hJ
      obtain ⟨j13, j17, -⟩ := hJ
      have j13 := Eq1.out j13
      have j17 := Eq1.out j17
      simp only [j13, j17] at hK ⊢
      rw [if_pos (by rfl)]
      have C := Hp.facts hS
      simp only [Facts, factsL, and_true, true_and, List.set_cons_zero, List.set_cons_succ, List.setIfInBounds_toArray] at C
      have hsz := hR.1
      go_step
      refine (lof_any _ _ _ _).mono ?_
      rintro e' w'' ⟨rfl, hb⟩
      exact hK.out _ _ hb Eq1.mk Fresh.no
    · intro p vs w' K hJ hp1 hp2 hS hR hK
      simp only [DepJ, List.getD_cons_zero, List.getD_cons_succ] at hJ
      obtain ⟨j13, -⟩ := hJ
      have j13 := Eq1.out j13
      simp only [j13] at hK ⊢
      rw [if_pos (by rfl)]
      go_step
      exact hK.out _ _ (Below.refl _ _) Eq1.mk Fresh.no
    · intro p vs w' K hJ hp1 hp2 hS hR hK
      simp only [DepJ, List.getD_cons_zero, List.getD_cons_succ] at hJ
      obtain ⟨j13, -⟩ := hJ
      have j13 := Eq1.out j13
      simp only [j13] at hK ⊢
      rw [if_pos (by rfl)]
      go_step
      exact hK.out _ _ (Below.refl _ _) Eq1.mk Fresh.no
    · intro p vs w' K hJ hp1 hp2 hS hR hK
      simp only [DepJ, List.getD_cons_zero, List.getD_cons_succ] at hJ
      obtain ⟨j13, j20, -⟩ := hJ
      have j13 := Eq1.out j13
      have j20 := Eq1.out j20
      simp only [j13, j20] at hK ⊢
      rw [if_pos (by rfl)]
      have C := Hp.facts hS
      simp only [Facts, factsL, and_true, true_and, List.set_cons_zero, List.set_cons_succ, List.setIfInBounds_toArray] at C
      have hsz := hR.1
      go_step
      exact hK.out _ _ (Below.refl _ _) Eq1.mk Fresh.no
    · intro p vs w' K hJ hp1 hp2 hS hR hK
      simp only [DepJ, List.getD_cons_zero, List.getD_cons_succ] at hJ
      obtain ⟨j13, j19, j21, -⟩ := hJ
      have j13 := Eq1.out j13
      have j19 := Eq1.out j19
      have j21 := Eq1.out j21
      simp only [j13, j19, j21] at hK ⊢
      rw [if_pos (by rfl)]
      have C := Hp.facts hS
      simp only [Facts, factsL, and_true, true_and, List.set_cons_zero, List.set_cons_succ, List.setIfInBounds_toArray] at C
      have hsz := hR.1
      go_step
      refine (rat_any _ _ _).mono ?_
      rintro e' w'' ⟨rfl, hb⟩
      exact hK.out _ _ hb Eq1.mk Fresh.no
    · intro p vs w' K hJ hp1 hp2 hS hR hK
      simp only [DepJ, List.getD_cons_zero, List.getD_cons_succ] at hJ
      obtain ⟨j13, j18, j22, -⟩ := hJ
      have j13 := Eq1.out j13
      have j18 := Eq1.out j18
      have j22 := Eq1.out j22
      simp only [j13, j18, j22] at hK ⊢
      rw [if_pos (by rfl)]
      go_step
      exact hK.out _ _ (Below.refl _ _) (Eq1.of (by simp)) Fresh.no
    · intro p vs w' K hJ hp1 hp2 hS hR hK
      simp only [DepJ, List.getD_cons_zero, List.getD_cons_succ] at hJ
      obtain ⟨j13, j23, -⟩ := hJ
      have j13 := Eq1.out j13
      have j23 := Eq1.out j23
      simp only [j13, j23] at hK ⊢
      rw [if_pos (by rfl)]
      go_step
      exact hK.out _ _ (Below.refl _ _) Eq1.mk Fresh.no
  case hst_4 => refine ⟨fun _ _ _ _ h => h, fun _ _ _ _ h => h, fun _ _ _ _ h => h, fun _ _ _ _ h => h, fun _ _ _ _ h => h, fun _ _ _ _ h => h, fun _ _ _ _ h => h, fun _ _ _ _ h => h, fun _ _ _ _ h => h, fun _ _ _ _ h => h, fun _ _ _ _ h => h, fun _ _ _ _ h => h, fun _ _ _ _ h => h, fun _ _ _ _ h => h, fun _ _ _ _ h => h, fun _ _ _ _ h => h, fun _ _ _ _ h => h, fun _ _ _ _ h => h, fun _ _ _ _ h => h, fun _ _ _ _ h => h, fun _ _ _ _ h => h, fun _ _ _ _ h => h, fun _ _ _ _ h => h, fun _ _ _ _ h => h, fun _ _ _ _ h => h, trivial⟩
  intro vs w' hJ hD hS hR
  simp only [AllJ, Nat.reduceAdd] at hJ
  obtain ⟨v0, v1, v2, v3, v4, v5, v6, v7, v8, v9, v10, v11, v12, v13, v14, v15, v16, v17, v18, v19, v20, v21, v22, v23, v24, -⟩ := hJ
  clear C
  replace v0 := Eq1.out v0
  replace v1 := Eq1.out v1
  replace v2 := Eq1.out v2
  replace v3 := Eq1.out v3
  replace v4 := Eq1.out v4
  replace v5 := Eq1.out v5
  replace v6 := Eq1.out v6
  replace v7 := Eq1.out v7
  replace v8 := Eq1.out v8
  replace v9 := Eq1.out v9
  replace v10 := Eq1.out v10
  replace v11 := Eq1.out v11
  replace v12 := Eq1.out v12
  replace v13 := Eq1.out v13
  replace v14 := Eq1.out v14
  replace v15 := Eq1.out v15
  replace v16 := Eq1.out v16
  replace v17 := Eq1.out v17
  replace v18 := Eq1.out v18
  replace v19 := Eq1.out v19
  replace v20 := Eq1.out v20
  replace v21 := Eq1.out v21
  replace v22 := Eq1.out v22
  replace v23 := Eq1.out v23
  replace v24 := Eq1.out v24
  simp only [v0, v1, v2, v3, v4, v5, v6, v7, v8, v9, v10, v11, v12, v13, v14, v15, v16, v17, v18, v19, v20, v21, v22, v23, v24, List.drop_succ_cons, List.drop_zero]
  refine wpList_nil' ?_
  have H' : Hp _ _ _ := hS
  clear hD hR hS v0 v1 v2 v3 v4 v5 v6 v7 v8 v9 v10 v11 v12 v13 v14 v15 v16 v17 v18 v19 v20 v21 v22 v23 v24
  clear vs H
  have H := H'; clear H'; have C := Hp.facts H; simp only [Facts, factsL, and_true, true_and, List.set_cons_zero, List.set_cons_succ, List.setIfInBounds_toArray] at C
  (repeat' ((fail_if_success (with_reducible show bodyPost _ _ _ _ _ _)); first | ((with_reducible refine Hp.abs_alloc H ?_); intro b' w' H' hb'; (try simp only [hb']); clear hb'; ((try simp only [List.set_cons_zero, List.set_cons_succ, List.setIfInBounds_toArray] at H'); clear C H; have H := H'; clear H'; have C := Hp.facts H; simp only [Facts, factsL, and_true, true_and, List.set_cons_zero, List.set_cons_succ, List.setIfInBounds_toArray] at C)) | ((with_reducible show wpList _ _ _ _ _ (World.setCell _ _ _)); (with_reducible apply Hp.abs_gen H); (first | ((repeat (with_reducible apply Hp.set' 0)); (with_reducible exact H); (repeat rfl); intro w' H') | ((repeat (with_reducible apply Hp.set' 1)); (with_reducible exact H); (repeat rfl); intro w' H') | ((repeat (with_reducible apply Hp.set' 2)); (with_reducible exact H); (repeat rfl); intro w' H') | ((repeat (with_reducible apply Hp.set' 3)); (with_reducible exact H); (repeat rfl); intro w' H') | ((repeat (with_reducible apply Hp.set' 4)); (with_reducible exact H); (repeat rfl); intro w' H') | ((repeat (with_reducible apply Hp.set' 5)); (with_reducible exact H); (repeat rfl); intro w' H') | ((repeat (with_reducible apply Hp.set' 6)); (with_reducible exact H); (repeat rfl); intro w' H') | ((repeat (with_reducible apply Hp.set' 7)); (with_reducible exact H); (repeat rfl); intro w' H')); ((try simp only [List.set_cons_zero, List.set_cons_succ, List.setIfInBounds_toArray] at H'); clear C H; have H := H'; clear H'; have C := Hp.facts H; simp only [Facts, factsL, and_true, true_and, List.set_cons_zero, List.set_cons_succ, List.setIfInBounds_toArray] at C)) | (go_at_call 47; refine (known_any2 _).mono ?_; rintro e' w' ⟨rfl, hb'⟩; (have H' := Hp.step H hb'; clear hb'; ((try simp only [List.set_cons_zero, List.set_cons_succ, List.setIfInBounds_toArray] at H'); clear C H; have H := H'; clear H'; have C := Hp.facts H; simp only [Facts, factsL, and_true, true_and, List.set_cons_zero, List.set_cons_succ, List.setIfInBounds_toArray] at C))) | go_values | go_skip | go_guarded | go_step | go_upon | go_back | (simp only [Int.not_lt, Int.not_le] at *; go_simp) | (go_values <;> (try go_simp)) | (go_ite <;> go_prune <;> (try go_simp)) | (split <;> (first | (rename_i hx; exact (hx _ rfl).elim) | go_prune))))
  go_ret
  exact ⟨rfl, H.low⟩
set_option maxHeartbeats 8000000 in
theorem headWrites_no1 (c n : Int) (m : Bool) (z : Int) (hz : 16777216 < z) (h : okTag ⟨c, n, m⟩ = false) (w : World) :
    Calls Try.prog 6 #[.agg #[.int .i64 c, .int .i64 n, .bool m], .int .i64 z] w fun e w' => e = .returned (.bool true) ∧ Below w.heap.size w w' := by
  have hT := hbytes_all c n m
  have hL := hlen_all z
  have eT : tagR ⟨c, n, m⟩ = ([], 1) := by unfold tagR; rw [h]; rfl
  have eL : lenR z = ([], 2) := by unfold lenR; rw [if_neg (by omega), if_pos hz]
  rw [eT] at hT
  rw [eL] at hL
  clear eT eL
  have H := Hp.start w
  have C : True := trivial
  go_enter Try.func6, Try.ntmps6
  (repeat' ((fail_if_success (with_reducible show bodyPost _ _ _ _ _ _)); first | ((with_reducible refine Hp.abs_alloc H ?_); intro b' w' H' hb'; (try simp only [hb']); clear hb'; ((try simp only [List.set_cons_zero, List.set_cons_succ, List.setIfInBounds_toArray] at H'); clear C H; have H := H'; clear H'; have C := Hp.facts H; simp only [Facts, factsL, and_true, true_and, List.set_cons_zero, List.set_cons_succ, List.setIfInBounds_toArray] at C)) | ((with_reducible show wpList _ _ _ _ _ (World.setCell _ _ _)); (with_reducible apply Hp.abs_gen H); (first | ((repeat (with_reducible apply Hp.set' 0)); (with_reducible exact H); (repeat rfl); intro w' H') | ((repeat (with_reducible apply Hp.set' 1)); (with_reducible exact H); (repeat rfl); intro w' H') | ((repeat (with_reducible apply Hp.set' 2)); (with_reducible exact H); (repeat rfl); intro w' H') | ((repeat (with_reducible apply Hp.set' 3)); (with_reducible exact H); (repeat rfl); intro w' H') | ((repeat (with_reducible apply Hp.set' 4)); (with_reducible exact H); (repeat rfl); intro w' H') | ((repeat (with_reducible apply Hp.set' 5)); (with_reducible exact H); (repeat rfl); intro w' H') | ((repeat (with_reducible apply Hp.set' 6)); (with_reducible exact H); (repeat rfl); intro w' H') | ((repeat (with_reducible apply Hp.set' 7)); (with_reducible exact H); (repeat rfl); intro w' H')); ((try simp only [List.set_cons_zero, List.set_cons_succ, List.setIfInBounds_toArray] at H'); clear C H; have H := H'; clear H'; have C := Hp.facts H; simp only [Facts, factsL, and_true, true_and, List.set_cons_zero, List.set_cons_succ, List.setIfInBounds_toArray] at C)) | (go_at_call 36; refine (rright_any _ _ _ _).mono ?_; rintro e' w' ⟨rfl, hb'⟩; rw [h]; (have H' := Hp.step H hb'; clear hb'; ((try simp only [List.set_cons_zero, List.set_cons_succ, List.setIfInBounds_toArray] at H'); clear C H; have H := H'; clear H'; have C := Hp.facts H; simp only [Facts, factsL, and_true, true_and, List.set_cons_zero, List.set_cons_succ, List.setIfInBounds_toArray] at C))) | (go_at_call 38; refine (lto_any _ _ _ _).mono ?_; rintro e' w' ⟨rfl, hb'⟩; (have H' := Hp.step H hb'; clear hb'; ((try simp only [List.set_cons_zero, List.set_cons_succ, List.setIfInBounds_toArray] at H'); clear C H; have H := H'; clear H'; have C := Hp.facts H; simp only [Facts, factsL, and_true, true_and, List.set_cons_zero, List.set_cons_succ, List.setIfInBounds_toArray] at C))) | go_values | go_skip | go_guarded | go_step | go_upon | go_back | (simp only [Int.not_lt, Int.not_le] at *; go_simp) | (go_values <;> (try go_simp)) | (go_ite <;> go_prune <;> (try go_simp)) | (split <;> (first | (rename_i hx; exact (hx _ rfl).elim) | go_prune))))
  refine (hT _).mono ?_
  (rintro e' w' ⟨⟨v', rfl, ho⟩, hb'⟩; have H' := Hp.rowOf H hb' ho; obtain ⟨A1, c1, rfl⟩ := Go.LawLift.own_form ho; clear ho hb'; ((try simp only [List.set_cons_zero, List.set_cons_succ, List.setIfInBounds_toArray] at H'); clear C H; have H := H'; clear H'; have C := Hp.facts H; simp only [Facts, factsL, and_true, true_and, List.set_cons_zero, List.set_cons_succ, List.setIfInBounds_toArray] at C))
  (repeat' ((fail_if_success (with_reducible show bodyPost _ _ _ _ _ _)); first | ((with_reducible refine Hp.abs_alloc H ?_); intro b' w' H' hb'; (try simp only [hb']); clear hb'; ((try simp only [List.set_cons_zero, List.set_cons_succ, List.setIfInBounds_toArray] at H'); clear C H; have H := H'; clear H'; have C := Hp.facts H; simp only [Facts, factsL, and_true, true_and, List.set_cons_zero, List.set_cons_succ, List.setIfInBounds_toArray] at C)) | ((with_reducible show wpList _ _ _ _ _ (World.setCell _ _ _)); (with_reducible apply Hp.abs_gen H); (first | ((repeat (with_reducible apply Hp.set' 0)); (with_reducible exact H); (repeat rfl); intro w' H') | ((repeat (with_reducible apply Hp.set' 1)); (with_reducible exact H); (repeat rfl); intro w' H') | ((repeat (with_reducible apply Hp.set' 2)); (with_reducible exact H); (repeat rfl); intro w' H') | ((repeat (with_reducible apply Hp.set' 3)); (with_reducible exact H); (repeat rfl); intro w' H') | ((repeat (with_reducible apply Hp.set' 4)); (with_reducible exact H); (repeat rfl); intro w' H') | ((repeat (with_reducible apply Hp.set' 5)); (with_reducible exact H); (repeat rfl); intro w' H') | ((repeat (with_reducible apply Hp.set' 6)); (with_reducible exact H); (repeat rfl); intro w' H') | ((repeat (with_reducible apply Hp.set' 7)); (with_reducible exact H); (repeat rfl); intro w' H')); ((try simp only [List.set_cons_zero, List.set_cons_succ, List.setIfInBounds_toArray] at H'); clear C H; have H := H'; clear H'; have C := Hp.facts H; simp only [Facts, factsL, and_true, true_and, List.set_cons_zero, List.set_cons_succ, List.setIfInBounds_toArray] at C)) | go_values | go_skip | go_guarded | go_step | go_upon | go_back | (simp only [Int.not_lt, Int.not_le] at *; go_simp) | (go_values <;> (try go_simp)) | (go_ite <;> go_prune <;> (try go_simp)) | (split <;> (first | (rename_i hx; exact (hx _ rfl).elim) | go_prune))))
  refine (hL _).mono ?_
  (rintro e' w' ⟨⟨v', rfl, ho⟩, hb'⟩; have H' := Hp.rowOf H hb' ho; obtain ⟨A2, c2, rfl⟩ := Go.LawLift.own_form ho; clear ho hb'; ((try simp only [List.set_cons_zero, List.set_cons_succ, List.setIfInBounds_toArray] at H'); clear C H; have H := H'; clear H'; have C := Hp.facts H; simp only [Facts, factsL, and_true, true_and, List.set_cons_zero, List.set_cons_succ, List.setIfInBounds_toArray] at C))
  (repeat' ((fail_if_success (with_reducible show bodyPost _ _ _ _ _ _)); first | ((with_reducible refine Hp.abs_alloc H ?_); intro b' w' H' hb'; (try simp only [hb']); clear hb'; ((try simp only [List.set_cons_zero, List.set_cons_succ, List.setIfInBounds_toArray] at H'); clear C H; have H := H'; clear H'; have C := Hp.facts H; simp only [Facts, factsL, and_true, true_and, List.set_cons_zero, List.set_cons_succ, List.setIfInBounds_toArray] at C)) | ((with_reducible show wpList _ _ _ _ _ (World.setCell _ _ _)); (with_reducible apply Hp.abs_gen H); (first | ((repeat (with_reducible apply Hp.set' 0)); (with_reducible exact H); (repeat rfl); intro w' H') | ((repeat (with_reducible apply Hp.set' 1)); (with_reducible exact H); (repeat rfl); intro w' H') | ((repeat (with_reducible apply Hp.set' 2)); (with_reducible exact H); (repeat rfl); intro w' H') | ((repeat (with_reducible apply Hp.set' 3)); (with_reducible exact H); (repeat rfl); intro w' H') | ((repeat (with_reducible apply Hp.set' 4)); (with_reducible exact H); (repeat rfl); intro w' H') | ((repeat (with_reducible apply Hp.set' 5)); (with_reducible exact H); (repeat rfl); intro w' H') | ((repeat (with_reducible apply Hp.set' 6)); (with_reducible exact H); (repeat rfl); intro w' H') | ((repeat (with_reducible apply Hp.set' 7)); (with_reducible exact H); (repeat rfl); intro w' H')); ((try simp only [List.set_cons_zero, List.set_cons_succ, List.setIfInBounds_toArray] at H'); clear C H; have H := H'; clear H'; have C := Hp.facts H; simp only [Facts, factsL, and_true, true_and, List.set_cons_zero, List.set_cons_succ, List.setIfInBounds_toArray] at C)) | go_values | go_skip | go_guarded | go_step | go_upon | go_back | (simp only [Int.not_lt, Int.not_le] at *; go_simp) | (go_values <;> (try go_simp)) | (go_ite <;> go_prune <;> (try go_simp)) | (split <;> (first | (rename_i hx; exact (hx _ rfl).elim) | go_prune))))
  try simp (disch := omega) only [decide_eq_true, decide_eq_false]
  obtain ⟨wR4, rfl⟩ := Hp.nameW H
  apply region_n (frm wR4.heap.size (fun _ => Hp _ _)) (frm_ok ?hfs_5) frm_sz [] [.light 0 0, .light 0 0, .light 0 0, .light 0 0, .light 0 0, .light 0 0, .light 0 0, .light 0 0, .light 0 0, .light 0 0, .light 0 0, .light 0 0, .light 0 0, .light 0 0, .light 0 0, .light 0 0, .light 0 0, .light 0 0, .light 0 0, .light 0 0, .light 0 0, .light 0 0, .light 0 0, .light 0 0, .light 0 0] [false, false, false, false, false, false, false, false, false, false, false, false, false, false, false, false, false, false, false, false, false, false, false, false, false] 25 112 [] [some 23, some 24, some 25, some 26, some 27, some 28, some 29, some 30, some 31, some 32, some 33, some 34, some 35, some 36, some 37, some 38, some 39, some 40, some 41, some 42, some 43, some 44, some 45, some 46, some 47] [[], [0], [1], [], [2, 3], [4], [5], [5, 6], [5, 7], [5], [5, 9], [5, 8, 10], [5, 11], [12], [13], [13], [13, 15], [13, 14, 16], [13, 17], [13], [13], [13, 20], [13, 19, 21], [13, 18, 22], [13, 23]] [Eq1 _, Eq1 _, Eq1 _, Eq1 _, Eq1 (.bool false), Eq1 _, Eq1 _, Eq1 _, Eq1 _, Eq1 _, Eq1 _, Eq1 (.bool false), Eq1 _, Eq1 _, Eq1 _, Eq1 _, Eq1 _, Eq1 _, Eq1 _, Eq1 _, Eq1 _, Eq1 _, Eq1 _, Eq1 (.bool false), Eq1 _] ?hq1_5 ?hq2_5 ?hq3_5 ?hq4_5 ?hq5_5 ?hq6_5 _ ?hA_5 ?hst_5 ?h0_5 ?hsteps_5 ?hend_5
  case hq1_5 => kernel_rfl
  case hq2_5 => kernel_rfl
  case hq3_5 => kernel_rfl
  case hq5_5 => kernel_rfl
  case hq4_5 => rfl
  case hq6_5 => rfl
  case hA_5 => intro vs; simp only [fillD, Nat.reduceAdd, Act.put, List.setIfInBounds_toArray, List.set_cons_zero, List.set_cons_succ]; rfl
  case h0_5 => exact H.drew
  case hfs_5 => exact fun _ _ _ hb h => Hp.step h hb
  case hsteps_5 =>
    refine ⟨?_, ?_, ?_, ?_, ?_, ?_, ?_, ?_, ?_, ?_, ?_, ?_, ?_, ?_, ?_, ?_, ?_, ?_, ?_, ?_, ?_, ?_, ?_, ?_, ?_, trivial⟩
    · intro p vs w' K hJ hp1 hp2 hS hR hK
      rw [if_pos (by rfl)]
      have C := Hp.facts hS
      simp only [Facts, factsL, and_true, true_and, List.set_cons_zero, List.set_cons_succ, List.setIfInBounds_toArray] at C
      have hsz := hR.1
      go_step
      exact hK.out _ _ (Below.refl _ _) Eq1.mk Fresh.no
    · intro p vs w' K hJ hp1 hp2 hS hR hK
      simp only [DepJ, List.getD_cons_zero, List.getD_cons_succ] at hJ
      obtain ⟨j0, -⟩ := hJ
      have j0 := Eq1.out j0
      simp only [j0] at hK ⊢
      rw [if_pos (by rfl)]
      have C := Hp.facts hS
      simp only [Facts, factsL, and_true, true_and, List.set_cons_zero, List.set_cons_succ, List.setIfInBounds_toArray] at C
      have hsz := hR.1
      go_step
      refine (lto_any _ _ _ _).mono ?_
      rintro e' w'' ⟨rfl, hb⟩
      exact hK.out _ _ hb Eq1.mk Fresh.no
    · intro p vs w' K hJ hp1 hp2 hS hR hK
      simp only [DepJ, List.getD_cons_zero, List.getD_cons_succ] at hJ
      obtain ⟨j1, -⟩ := hJ
      have j1 := Eq1.out j1
      simp only [j1] at hK ⊢
      rw [if_pos (by rfl)]
      have C := Hp.facts hS
      simp only [Facts, factsL, and_true, true_and, List.set_cons_zero, List.set_cons_succ, List.setIfInBounds_toArray] at C
      have hsz := hR.1
      go_step
      refine (hright_any _ _ _ _).mono ?_
      rintro e' w'' ⟨rfl, hb⟩
      rw [h]
      exact hK.out _ _ hb Eq1.mk Fresh.no
    · intro p vs w' K hJ hp1 hp2 hS hR hK
      rw [if_pos (by rfl)]
      go_step
      exact hK.out _ _ (Below.refl _ _) Eq1.mk Fresh.no
    · intro p vs w' K hJ hp1 hp2 hS hR hK
      simp only [DepJ, List.getD_cons_zero, List.getD_cons_succ] at hJ
      obtain ⟨j2, j3, -⟩ := hJ
      have j2 := Eq1.out j2
      have j3 := Eq1.out j3
      simp only [j2, j3] at hK ⊢
      rw [if_pos (by rfl)]
      go_step
      exact hK.out _ _ (Below.refl _ _) (Eq1.of (by simp)) Fresh.no
    · intro p vs w' K hJ hp1 hp2 hS hR hK
      simp only [DepJ, List.getD_cons_zero, List.getD_cons_succ] at hJ
      obtain ⟨j4, -⟩ := hJ
      have j4 := Eq1.out j4
      simp only [j4] at hK ⊢
      rw [if_pos (by rfl)]
      go_step
      exact hK.out _ _ (Below.refl _ _) Eq1.mk Fresh.no
    · intro p vs w' K hJ hp1 hp2 hS hR hK
      simp only [DepJ, List.getD_cons_zero, List.getD_cons_succ] at hJ
      obtain ⟨j5, -⟩ := hJ
      have j5 := Eq1.out j5
      simp only [j5] at hK ⊢
      rw [if_pos (by rfl)]
      go_step
      exact hK.out _ _ (Below.refl _ _) Eq1.mk Fresh.no
    · intro p vs w' K hJ hp1 hp2 hS hR hK
      simp only [DepJ, List.getD_cons_zero, List.getD_cons_succ] at hJ
      obtain ⟨j5, j6, -⟩ := hJ
      have j5 := Eq1.out j5
      have j6 := Eq1.out j6
      simp only [j5, j6] at hK ⊢
      rw [if_pos (by rfl)]
      have C := Hp.facts hS
      simp only [Facts, factsL, and_true, true_and, List.set_cons_zero, List.set_cons_succ, List.setIfInBounds_toArray] at C
      have hsz := hR.1
      go_step
      refine (hof_any _ _).mono ?_
      rintro e' w'' ⟨rfl, hb⟩
      exact hK.out _ _ hb Eq1.mk Fresh.no
    · intro p vs w' K hJ hp1 hp2 hS hR hK
      simp only [DepJ, List.getD_cons_zero, List.getD_cons_succ] at hJ
      obtain ⟨j5, j7, -⟩ := hJ
      have j5 := Eq1.out j5
      have j7 := Eq1.out j7
      simp only [j5, j7] at hK ⊢
      rw [if_pos (by rfl)]
      have C := Hp.facts hS
      simp only [Facts, factsL, and_true, true_and, List.set_cons_zero, List.set_cons_succ, List.setIfInBounds_toArray] at C
      have hsz := hR.1
      go_step
      refine (lof_any _ _ _ _).mono ?_
      rintro e' w'' ⟨rfl, hb⟩
      exact hK.out _ _ hb Eq1.mk Fresh.no
    · intro p vs w' K hJ hp1 hp2 hS hR hK
      simp only [DepJ, List.getD_cons_zero, List.getD_cons_succ] at hJ
      obtain ⟨j5, -⟩ := hJ
      have j5 := Eq1.out j5
      simp only [j5] at hK ⊢
      rw [if_pos (by rfl)]
      go_step
      exact hK.out _ _ (Below.refl _ _) Eq1.mk Fresh.no
    · intro p vs w' K hJ hp1 hp2 hS hR hK
      simp only [DepJ, List.getD_cons_zero, List.getD_cons_succ] at hJ
      obtain ⟨j5, j9, -⟩ := hJ
      have j5 := Eq1.out j5
      have j9 := Eq1.out j9
      simp only [j5, j9] at hK ⊢
      rw [if_pos (by rfl)]
      have C := Hp.facts hS
      simp only [Facts, factsL, and_true, true_and, List.set_cons_zero, List.set_cons_succ, List.setIfInBounds_toArray] at C
      have hsz := hR.1
      go_step
      refine (rof_any _ _).mono ?_
      rintro e' w'' ⟨rfl, hb⟩
      exact hK.out _ _ hb Eq1.mk Fresh.no
    · intro p vs w' K hJ hp1 hp2 hS hR hK
      simp only [DepJ, List.getD_cons_zero, List.getD_cons_succ] at hJ
      obtain ⟨j5, j8, j10, -⟩ := hJ
      have j5 := Eq1.out j5
      have j8 := Eq1.out j8
      have j10 := Eq1.out j10
      simp only [j5, j8, j10] at hK ⊢
      rw [if_pos (by rfl)]
      go_step
      exact hK.out _ _ (Below.refl _ _) (Eq1.of (by simp)) Fresh.no
    · intro p vs w' K hJ hp1 hp2 hS hR hK
      simp only [DepJ, List.getD_cons_zero, List.getD_cons_succ] at hJ
      obtain ⟨j5, j11, -⟩ := hJ
      have j5 := Eq1.out j5
      have j11 := Eq1.out j11
      simp only [j5, j11] at hK ⊢
      rw [if_pos (by rfl)]
      go_step
      exact hK.out _ _ (Below.refl _ _) Eq1.mk Fresh.no
    · intro p vs w' K hJ hp1 hp2 hS hR hK
      simp only [DepJ, List.getD_cons_zero, List.getD_cons_succ] at hJ
      obtain ⟨j12, -⟩ := hJ
      have j12 := Eq1.out j12
      simp only [j12] at hK ⊢
      rw [if_pos (by rfl)]
      go_step
      exact hK.out _ _ (Below.refl _ _) Eq1.mk Fresh.no
    · intro p vs w' K hJ hp1 hp2 hS hR hK
      simp only [DepJ, List.getD_cons_zero, List.getD_cons_succ] at hJ
      obtain ⟨j13, -⟩ := hJ
      have j13 := Eq1.out j13
      simp only [j13] at hK ⊢
      rw [if_pos (by rfl)]
      go_step
      exact hK.out _ _ (Below.refl _ _) Eq1.mk Fresh.no
    · intro p vs w' K hJ hp1 hp2 hS hR hK
      simp only [DepJ, List.getD_cons_zero, List.getD_cons_succ] at hJ
      obtain ⟨j13, -⟩ := hJ
      have j13 := Eq1.out j13
      simp only [j13] at hK ⊢
      rw [if_pos (by rfl)]
      go_step
      exact hK.out _ _ (Below.refl _ _) Eq1.mk Fresh.no
    · intro p vs w' K hJ hp1 hp2 hS hR hK
      simp only [DepJ, List.getD_cons_zero, List.getD_cons_succ] at hJ
      obtain ⟨j13, j15, -⟩ := hJ
      have j13 := Eq1.out j13
      have j15 := Eq1.out j15
      simp only [j13, j15] at hK ⊢
      rw [if_pos (by rfl)]
      have C := Hp.facts hS
      simp only [Facts, factsL, and_true, true_and, List.set_cons_zero, List.set_cons_succ, List.setIfInBounds_toArray] at C
      have hsz := hR.1
      go_step
      exact hK.out _ _ (Below.refl _ _) Eq1.mk Fresh.no
    · intro p vs w' K hJ hp1 hp2 hS hR hK
      simp only [DepJ, List.getD_cons_zero, List.getD_cons_succ] at hJ
      obtain ⟨j13, j14, j16, -⟩ := hJ
      have j13 := Eq1.out j13
      have j14 := Eq1.out j14
      have j16 := Eq1.out j16
      simp only [j13, j14, j16] at hK ⊢
      rw [if_pos (by rfl)]
      have C := Hp.facts hS
      simp only [Facts, factsL, and_true, true_and, List.set_cons_zero, List.set_cons_succ, List.setIfInBounds_toArray] at C
      have hsz := hR.1
      go_step
      refine (hat_any _ _ _).mono ?_
      rintro e' w'' ⟨rfl, hb⟩
      exact hK.out _ _ hb Eq1.mk Fresh.no
    · intro p vs w' K hJ hp1 hp2 hS hR hK
      simp only [DepJ, List.getD_cons_zero, List.getD_cons_succ] at hJ
      obtain ⟨j13, j17, -⟩ := hJ
      have j13 := Eq1.out j13
      have j17 := Eq1.out j17
      simp only [j13, j17] at hK ⊢
      rw [if_pos (by rfl)]
      have C := Hp.facts hS
      simp only [Facts, factsL, and_true, true_and, List.set_cons_zero, List.set_cons_succ, List.setIfInBounds_toArray] at C
      have hsz := hR.1
      go_step
      refine (lof_any _ _ _ _).mono ?_
      rintro e' w'' ⟨rfl, hb⟩
      exact hK.out _ _ hb Eq1.mk Fresh.no
    · intro p vs w' K hJ hp1 hp2 hS hR hK
      simp only [DepJ, List.getD_cons_zero, List.getD_cons_succ] at hJ
      obtain ⟨j13, -⟩ := hJ
      have j13 := Eq1.out j13
      simp only [j13] at hK ⊢
      rw [if_pos (by rfl)]
      go_step
      exact hK.out _ _ (Below.refl _ _) Eq1.mk Fresh.no
    · intro p vs w' K hJ hp1 hp2 hS hR hK
      simp only [DepJ, List.getD_cons_zero, List.getD_cons_succ] at hJ
      obtain ⟨j13, -⟩ := hJ
      have j13 := Eq1.out j13
      simp only [j13] at hK ⊢
      rw [if_pos (by rfl)]
      go_step
      exact hK.out _ _ (Below.refl _ _) Eq1.mk Fresh.no
    · intro p vs w' K hJ hp1 hp2 hS hR hK
      simp only [DepJ, List.getD_cons_zero, List.getD_cons_succ] at hJ
      obtain ⟨j13, j20, -⟩ := hJ
      have j13 := Eq1.out j13
      have j20 := Eq1.out j20
      simp only [j13, j20] at hK ⊢
      rw [if_pos (by rfl)]
      have C := Hp.facts hS
      simp only [Facts, factsL, and_true, true_and, List.set_cons_zero, List.set_cons_succ, List.setIfInBounds_toArray] at C
      have hsz := hR.1
      go_step
      exact hK.out _ _ (Below.refl _ _) Eq1.mk Fresh.no
    · intro p vs w' K hJ hp1 hp2 hS hR hK
      simp only [DepJ, List.getD_cons_zero, List.getD_cons_succ] at hJ
      obtain ⟨j13, j19, j21, -⟩ := hJ
      have j13 := Eq1.out j13
      have j19 := Eq1.out j19
      have j21 := Eq1.out j21
      simp only [j13, j19, j21] at hK ⊢
      rw [if_pos (by rfl)]
      have C := Hp.facts hS
      simp only [Facts, factsL, and_true, true_and, List.set_cons_zero, List.set_cons_succ, List.setIfInBounds_toArray] at C
      have hsz := hR.1
      go_step
      refine (rat_any _ _ _).mono ?_
      rintro e' w'' ⟨rfl, hb⟩
      exact hK.out _ _ hb Eq1.mk Fresh.no
    · intro p vs w' K hJ hp1 hp2 hS hR hK
      simp only [DepJ, List.getD_cons_zero, List.getD_cons_succ] at hJ
      obtain ⟨j13, j18, j22, -⟩ := hJ
      have j13 := Eq1.out j13
      have j18 := Eq1.out j18
      have j22 := Eq1.out j22
      simp only [j13, j18, j22] at hK ⊢
      rw [if_pos (by rfl)]
      go_step
      exact hK.out _ _ (Below.refl _ _) (Eq1.of (by simp)) Fresh.no
    · intro p vs w' K hJ hp1 hp2 hS hR hK
      simp only [DepJ, List.getD_cons_zero, List.getD_cons_succ] at hJ
      obtain ⟨j13, j23, -⟩ := hJ
      have j13 := Eq1.out j13
      have j23 := Eq1.out j23
      simp only [j13, j23] at hK ⊢
      rw [if_pos (by rfl)]
      go_step
      exact hK.out _ _ (Below.refl _ _) Eq1.mk Fresh.no
  case hst_5 => refine ⟨fun _ _ _ _ h => h, fun _ _ _ _ h => h, fun _ _ _ _ h => h, fun _ _ _ _ h => h, fun _ _ _ _ h => h, fun _ _ _ _ h => h, fun _ _ _ _ h => h, fun _ _ _ _ h => h, fun _ _ _ _ h => h, fun _ _ _ _ h => h, fun _ _ _ _ h => h, fun _ _ _ _ h => h, fun _ _ _ _ h => h, fun _ _ _ _ h => h, fun _ _ _ _ h => h, fun _ _ _ _ h => h, fun _ _ _ _ h => h, fun _ _ _ _ h => h, fun _ _ _ _ h => h, fun _ _ _ _ h => h, fun _ _ _ _ h => h, fun _ _ _ _ h => h, fun _ _ _ _ h => h, fun _ _ _ _ h => h, fun _ _ _ _ h => h, trivial⟩
  intro vs w' hJ hD hS hR
  simp only [AllJ, Nat.reduceAdd] at hJ
  obtain ⟨v0, v1, v2, v3, v4, v5, v6, v7, v8, v9, v10, v11, v12, v13, v14, v15, v16, v17, v18, v19, v20, v21, v22, v23, v24, -⟩ := hJ
  clear C
  replace v0 := Eq1.out v0
  replace v1 := Eq1.out v1
  replace v2 := Eq1.out v2
  replace v3 := Eq1.out v3
  replace v4 := Eq1.out v4
  replace v5 := Eq1.out v5
  replace v6 := Eq1.out v6
  replace v7 := Eq1.out v7
  replace v8 := Eq1.out v8
  replace v9 := Eq1.out v9
  replace v10 := Eq1.out v10
  replace v11 := Eq1.out v11
  replace v12 := Eq1.out v12
  replace v13 := Eq1.out v13
  replace v14 := Eq1.out v14
  replace v15 := Eq1.out v15
  replace v16 := Eq1.out v16
  replace v17 := Eq1.out v17
  replace v18 := Eq1.out v18
  replace v19 := Eq1.out v19
  replace v20 := Eq1.out v20
  replace v21 := Eq1.out v21
  replace v22 := Eq1.out v22
  replace v23 := Eq1.out v23
  replace v24 := Eq1.out v24
  simp only [v0, v1, v2, v3, v4, v5, v6, v7, v8, v9, v10, v11, v12, v13, v14, v15, v16, v17, v18, v19, v20, v21, v22, v23, v24, List.drop_succ_cons, List.drop_zero]
  refine wpList_nil' ?_
  have H' : Hp _ _ _ := hS
  clear hD hR hS v0 v1 v2 v3 v4 v5 v6 v7 v8 v9 v10 v11 v12 v13 v14 v15 v16 v17 v18 v19 v20 v21 v22 v23 v24
  clear vs H
  have H := H'; clear H'; have C := Hp.facts H; simp only [Facts, factsL, and_true, true_and, List.set_cons_zero, List.set_cons_succ, List.setIfInBounds_toArray] at C
  have d0 : decide (z < 0) = false := by simp; omega
  have d1 : decide (16777216 < z) = true := by simp; omega
  have d2 : decide (0 ≤ z) = true := by simp; omega
  clear hz
  (repeat' ((fail_if_success (with_reducible show bodyPost _ _ _ _ _ _)); first | ((with_reducible refine Hp.abs_alloc H ?_); intro b' w' H' hb'; (try simp only [hb']); clear hb'; ((try simp only [List.set_cons_zero, List.set_cons_succ, List.setIfInBounds_toArray] at H'); clear C H; have H := H'; clear H'; have C := Hp.facts H; simp only [Facts, factsL, and_true, true_and, List.set_cons_zero, List.set_cons_succ, List.setIfInBounds_toArray] at C)) | ((with_reducible show wpList _ _ _ _ _ (World.setCell _ _ _)); (with_reducible apply Hp.abs_gen H); (first | ((repeat (with_reducible apply Hp.set' 0)); (with_reducible exact H); (repeat rfl); intro w' H') | ((repeat (with_reducible apply Hp.set' 1)); (with_reducible exact H); (repeat rfl); intro w' H') | ((repeat (with_reducible apply Hp.set' 2)); (with_reducible exact H); (repeat rfl); intro w' H') | ((repeat (with_reducible apply Hp.set' 3)); (with_reducible exact H); (repeat rfl); intro w' H') | ((repeat (with_reducible apply Hp.set' 4)); (with_reducible exact H); (repeat rfl); intro w' H') | ((repeat (with_reducible apply Hp.set' 5)); (with_reducible exact H); (repeat rfl); intro w' H') | ((repeat (with_reducible apply Hp.set' 6)); (with_reducible exact H); (repeat rfl); intro w' H') | ((repeat (with_reducible apply Hp.set' 7)); (with_reducible exact H); (repeat rfl); intro w' H')); ((try simp only [List.set_cons_zero, List.set_cons_succ, List.setIfInBounds_toArray] at H'); clear C H; have H := H'; clear H'; have C := Hp.facts H; simp only [Facts, factsL, and_true, true_and, List.set_cons_zero, List.set_cons_succ, List.setIfInBounds_toArray] at C)) | (go_at_call 47; refine (known_any2 _).mono ?_; rintro e' w' ⟨rfl, hb'⟩; (have H' := Hp.step H hb'; clear hb'; ((try simp only [List.set_cons_zero, List.set_cons_succ, List.setIfInBounds_toArray] at H'); clear C H; have H := H'; clear H'; have C := Hp.facts H; simp only [Facts, factsL, and_true, true_and, List.set_cons_zero, List.set_cons_succ, List.setIfInBounds_toArray] at C))) | go_values | go_skip | go_guarded | go_step | go_upon | go_back | (simp only [Int.not_lt, Int.not_le] at *; go_simp) | (go_values <;> (try go_simp)) | (go_ite <;> go_prune <;> (try go_simp)) | (split <;> (first | (rename_i hx; exact (hx _ rfl).elim) | go_prune))))
  go_ret
  exact ⟨rfl, H.low⟩
set_option maxHeartbeats 8000000 in
theorem headWrites_no2 (c n : Int) (m : Bool) (z : Nat) (hz : z ≤ 16777216) (h : okTag ⟨c, n, m⟩ = false) (w : World) :
    Calls Try.prog 6 #[.agg #[.int .i64 c, .int .i64 n, .bool m], .int .i64 (z : Int)] w fun e w' => e = .returned (.bool true) ∧ Below w.heap.size w w' := by
  have hT := hbytes_all c n m
  have hL := hlen_all (z : Int)
  have eT : tagR ⟨c, n, m⟩ = ([], 1) := by unfold tagR; rw [h]; rfl
  have eL : lenR (z : Int) = (lenL (z : Int), 0) := by unfold lenR; rw [if_neg (by omega), if_neg (by omega)]
  rw [eT] at hT
  rw [eL] at hL
  clear eT eL
  have H := Hp.start w
  have C : True := trivial
  go_enter Try.func6, Try.ntmps6
  (repeat' ((fail_if_success (with_reducible show bodyPost _ _ _ _ _ _)); first | ((with_reducible refine Hp.abs_alloc H ?_); intro b' w' H' hb'; (try simp only [hb']); clear hb'; ((try simp only [List.set_cons_zero, List.set_cons_succ, List.setIfInBounds_toArray] at H'); clear C H; have H := H'; clear H'; have C := Hp.facts H; simp only [Facts, factsL, and_true, true_and, List.set_cons_zero, List.set_cons_succ, List.setIfInBounds_toArray] at C)) | ((with_reducible show wpList _ _ _ _ _ (World.setCell _ _ _)); (with_reducible apply Hp.abs_gen H); (first | ((repeat (with_reducible apply Hp.set' 0)); (with_reducible exact H); (repeat rfl); intro w' H') | ((repeat (with_reducible apply Hp.set' 1)); (with_reducible exact H); (repeat rfl); intro w' H') | ((repeat (with_reducible apply Hp.set' 2)); (with_reducible exact H); (repeat rfl); intro w' H') | ((repeat (with_reducible apply Hp.set' 3)); (with_reducible exact H); (repeat rfl); intro w' H') | ((repeat (with_reducible apply Hp.set' 4)); (with_reducible exact H); (repeat rfl); intro w' H') | ((repeat (with_reducible apply Hp.set' 5)); (with_reducible exact H); (repeat rfl); intro w' H') | ((repeat (with_reducible apply Hp.set' 6)); (with_reducible exact H); (repeat rfl); intro w' H') | ((repeat (with_reducible apply Hp.set' 7)); (with_reducible exact H); (repeat rfl); intro w' H')); ((try simp only [List.set_cons_zero, List.set_cons_succ, List.setIfInBounds_toArray] at H'); clear C H; have H := H'; clear H'; have C := Hp.facts H; simp only [Facts, factsL, and_true, true_and, List.set_cons_zero, List.set_cons_succ, List.setIfInBounds_toArray] at C)) | (go_at_call 36; refine (rright_any _ _ _ _).mono ?_; rintro e' w' ⟨rfl, hb'⟩; rw [h]; (have H' := Hp.step H hb'; clear hb'; ((try simp only [List.set_cons_zero, List.set_cons_succ, List.setIfInBounds_toArray] at H'); clear C H; have H := H'; clear H'; have C := Hp.facts H; simp only [Facts, factsL, and_true, true_and, List.set_cons_zero, List.set_cons_succ, List.setIfInBounds_toArray] at C))) | (go_at_call 38; refine (lto_any _ _ _ _).mono ?_; rintro e' w' ⟨rfl, hb'⟩; (have H' := Hp.step H hb'; clear hb'; ((try simp only [List.set_cons_zero, List.set_cons_succ, List.setIfInBounds_toArray] at H'); clear C H; have H := H'; clear H'; have C := Hp.facts H; simp only [Facts, factsL, and_true, true_and, List.set_cons_zero, List.set_cons_succ, List.setIfInBounds_toArray] at C))) | go_values | go_skip | go_guarded | go_step | go_upon | go_back | (simp only [Int.not_lt, Int.not_le] at *; go_simp) | (go_values <;> (try go_simp)) | (go_ite <;> go_prune <;> (try go_simp)) | (split <;> (first | (rename_i hx; exact (hx _ rfl).elim) | go_prune))))
  refine (hT _).mono ?_
  (rintro e' w' ⟨⟨v', rfl, ho⟩, hb'⟩; have H' := Hp.rowOf H hb' ho; obtain ⟨A1, c1, rfl⟩ := Go.LawLift.own_form ho; clear ho hb'; ((try simp only [List.set_cons_zero, List.set_cons_succ, List.setIfInBounds_toArray] at H'); clear C H; have H := H'; clear H'; have C := Hp.facts H; simp only [Facts, factsL, and_true, true_and, List.set_cons_zero, List.set_cons_succ, List.setIfInBounds_toArray] at C))
  (repeat' ((fail_if_success (with_reducible show bodyPost _ _ _ _ _ _)); first | ((with_reducible refine Hp.abs_alloc H ?_); intro b' w' H' hb'; (try simp only [hb']); clear hb'; ((try simp only [List.set_cons_zero, List.set_cons_succ, List.setIfInBounds_toArray] at H'); clear C H; have H := H'; clear H'; have C := Hp.facts H; simp only [Facts, factsL, and_true, true_and, List.set_cons_zero, List.set_cons_succ, List.setIfInBounds_toArray] at C)) | ((with_reducible show wpList _ _ _ _ _ (World.setCell _ _ _)); (with_reducible apply Hp.abs_gen H); (first | ((repeat (with_reducible apply Hp.set' 0)); (with_reducible exact H); (repeat rfl); intro w' H') | ((repeat (with_reducible apply Hp.set' 1)); (with_reducible exact H); (repeat rfl); intro w' H') | ((repeat (with_reducible apply Hp.set' 2)); (with_reducible exact H); (repeat rfl); intro w' H') | ((repeat (with_reducible apply Hp.set' 3)); (with_reducible exact H); (repeat rfl); intro w' H') | ((repeat (with_reducible apply Hp.set' 4)); (with_reducible exact H); (repeat rfl); intro w' H') | ((repeat (with_reducible apply Hp.set' 5)); (with_reducible exact H); (repeat rfl); intro w' H') | ((repeat (with_reducible apply Hp.set' 6)); (with_reducible exact H); (repeat rfl); intro w' H') | ((repeat (with_reducible apply Hp.set' 7)); (with_reducible exact H); (repeat rfl); intro w' H')); ((try simp only [List.set_cons_zero, List.set_cons_succ, List.setIfInBounds_toArray] at H'); clear C H; have H := H'; clear H'; have C := Hp.facts H; simp only [Facts, factsL, and_true, true_and, List.set_cons_zero, List.set_cons_succ, List.setIfInBounds_toArray] at C)) | go_values | go_skip | go_guarded | go_step | go_upon | go_back | (simp only [Int.not_lt, Int.not_le] at *; go_simp) | (go_values <;> (try go_simp)) | (go_ite <;> go_prune <;> (try go_simp)) | (split <;> (first | (rename_i hx; exact (hx _ rfl).elim) | go_prune))))
  refine (hL _).mono ?_
  (rintro e' w' ⟨⟨v', rfl, ho⟩, hb'⟩; have H' := Hp.rowOf H hb' ho; obtain ⟨A2, c2, rfl⟩ := Go.LawLift.own_form ho; clear ho hb'; ((try simp only [List.set_cons_zero, List.set_cons_succ, List.setIfInBounds_toArray] at H'); clear C H; have H := H'; clear H'; have C := Hp.facts H; simp only [Facts, factsL, and_true, true_and, List.set_cons_zero, List.set_cons_succ, List.setIfInBounds_toArray] at C))
  (repeat' ((fail_if_success (with_reducible show bodyPost _ _ _ _ _ _)); first | ((with_reducible refine Hp.abs_alloc H ?_); intro b' w' H' hb'; (try simp only [hb']); clear hb'; ((try simp only [List.set_cons_zero, List.set_cons_succ, List.setIfInBounds_toArray] at H'); clear C H; have H := H'; clear H'; have C := Hp.facts H; simp only [Facts, factsL, and_true, true_and, List.set_cons_zero, List.set_cons_succ, List.setIfInBounds_toArray] at C)) | ((with_reducible show wpList _ _ _ _ _ (World.setCell _ _ _)); (with_reducible apply Hp.abs_gen H); (first | ((repeat (with_reducible apply Hp.set' 0)); (with_reducible exact H); (repeat rfl); intro w' H') | ((repeat (with_reducible apply Hp.set' 1)); (with_reducible exact H); (repeat rfl); intro w' H') | ((repeat (with_reducible apply Hp.set' 2)); (with_reducible exact H); (repeat rfl); intro w' H') | ((repeat (with_reducible apply Hp.set' 3)); (with_reducible exact H); (repeat rfl); intro w' H') | ((repeat (with_reducible apply Hp.set' 4)); (with_reducible exact H); (repeat rfl); intro w' H') | ((repeat (with_reducible apply Hp.set' 5)); (with_reducible exact H); (repeat rfl); intro w' H') | ((repeat (with_reducible apply Hp.set' 6)); (with_reducible exact H); (repeat rfl); intro w' H') | ((repeat (with_reducible apply Hp.set' 7)); (with_reducible exact H); (repeat rfl); intro w' H')); ((try simp only [List.set_cons_zero, List.set_cons_succ, List.setIfInBounds_toArray] at H'); clear C H; have H := H'; clear H'; have C := Hp.facts H; simp only [Facts, factsL, and_true, true_and, List.set_cons_zero, List.set_cons_succ, List.setIfInBounds_toArray] at C)) | go_values | go_skip | go_guarded | go_step | go_upon | go_back | (simp only [Int.not_lt, Int.not_le] at *; go_simp) | (go_values <;> (try go_simp)) | (go_ite <;> go_prune <;> (try go_simp)) | (split <;> (first | (rename_i hx; exact (hx _ rfl).elim) | go_prune))))
  try simp (disch := omega) only [decide_eq_true, decide_eq_false]
  obtain ⟨wR4, rfl⟩ := Hp.nameW H
  apply region_n (frm wR4.heap.size (fun _ => Hp _ _)) (frm_ok ?hfs_6) frm_sz [] [.light 0 0, .light 0 0, .light 0 0, .light 0 0, .light 0 0, .light 0 0, .light 0 0, .light 0 0, .light 0 0, .light 0 0, .light 0 0, .light 0 0, .light 0 0, .light 0 0, .light 0 0, .light 0 0, .light 0 0, .light 0 0, .light 0 0, .light 0 0, .light 0 0, .light 0 0, .light 0 0, .light 0 0, .light 0 0] [false, false, false, false, false, false, false, false, false, false, false, false, false, false, false, false, false, false, false, false, false, false, false, false, false] 25 112 [] [some 23, some 24, some 25, some 26, some 27, some 28, some 29, some 30, some 31, some 32, some 33, some 34, some 35, some 36, some 37, some 38, some 39, some 40, some 41, some 42, some 43, some 44, some 45, some 46, some 47] [[], [0], [1], [], [2, 3], [4], [5], [5, 6], [5, 7], [5], [5, 9], [5, 8, 10], [5, 11], [12], [13], [13], [13, 15], [13, 14, 16], [13, 17], [13], [13], [13, 20], [13, 19, 21], [13, 18, 22], [13, 23]] [Eq1 _, Eq1 _, Eq1 _, Eq1 _, Eq1 (.bool false), Eq1 _, Eq1 _, Eq1 _, Eq1 _, Eq1 _, Eq1 _, Eq1 (.bool false), Eq1 _, Eq1 _, Eq1 _, Eq1 _, Eq1 _, Eq1 _, Eq1 _, Eq1 _, Eq1 _, Eq1 _, Eq1 _, Eq1 (.bool false), Eq1 _] ?hq1_6 ?hq2_6 ?hq3_6 ?hq4_6 ?hq5_6 ?hq6_6 _ ?hA_6 ?hst_6 ?h0_6 ?hsteps_6 ?hend_6
  case hq1_6 => kernel_rfl
  case hq2_6 => kernel_rfl
  case hq3_6 => kernel_rfl
  case hq5_6 => kernel_rfl
  case hq4_6 => rfl
  case hq6_6 => rfl
  case hA_6 => intro vs; simp only [fillD, Nat.reduceAdd, Act.put, List.setIfInBounds_toArray, List.set_cons_zero, List.set_cons_succ]; rfl
  case h0_6 => exact H.drew
  case hfs_6 => exact fun _ _ _ hb h => Hp.step h hb
  case hsteps_6 =>
    refine ⟨?_, ?_, ?_, ?_, ?_, ?_, ?_, ?_, ?_, ?_, ?_, ?_, ?_, ?_, ?_, ?_, ?_, ?_, ?_, ?_, ?_, ?_, ?_, ?_, ?_, trivial⟩
    · intro p vs w' K hJ hp1 hp2 hS hR hK
      rw [if_pos (by rfl)]
      have C := Hp.facts hS
      simp only [Facts, factsL, and_true, true_and, List.set_cons_zero, List.set_cons_succ, List.setIfInBounds_toArray] at C
      have hsz := hR.1
      go_step
      exact hK.out _ _ (Below.refl _ _) Eq1.mk Fresh.no
    · intro p vs w' K hJ hp1 hp2 hS hR hK
      simp only [DepJ, List.getD_cons_zero, List.getD_cons_succ] at hJ
      obtain ⟨j0, -⟩ := hJ
      have j0 := Eq1.out j0
      simp only [j0] at hK ⊢
      rw [if_pos (by rfl)]
      have C := Hp.facts hS
      simp only [Facts, factsL, and_true, true_and, List.set_cons_zero, List.set_cons_succ, List.setIfInBounds_toArray] at C
      have hsz := hR.1
      go_step
      refine (lto_any _ _ _ _).mono ?_
      rintro e' w'' ⟨rfl, hb⟩
      exact hK.out _ _ hb Eq1.mk Fresh.no
    · intro p vs w' K hJ hp1 hp2 hS hR hK
      simp only [DepJ, List.getD_cons_zero, List.getD_cons_succ] at hJ
      obtain ⟨j1, -⟩ := hJ
      have j1 := Eq1.out j1
      simp only [j1] at hK ⊢
      rw [if_pos (by rfl)]
      have C := Hp.facts hS
      simp only [Facts, factsL, and_true, true_and, List.set_cons_zero, List.set_cons_succ, List.setIfInBounds_toArray] at C
      have hsz := hR.1
      go_step
      refine (hright_any _ _ _ _).mono ?_
      rintro e' w'' ⟨rfl, hb⟩
      rw [h]
      exact hK.out _ _ hb Eq1.mk Fresh.no
    · intro p vs w' K hJ hp1 hp2 hS hR hK
      rw [if_pos (by rfl)]
      go_step
      exact hK.out _ _ (Below.refl _ _) Eq1.mk Fresh.no
    · intro p vs w' K hJ hp1 hp2 hS hR hK
      simp only [DepJ, List.getD_cons_zero, List.getD_cons_succ] at hJ
      obtain ⟨j2, j3, -⟩ := hJ
      have j2 := Eq1.out j2
      have j3 := Eq1.out j3
      simp only [j2, j3] at hK ⊢
      rw [if_pos (by rfl)]
      go_step
      exact hK.out _ _ (Below.refl _ _) (Eq1.of (by simp)) Fresh.no
    · intro p vs w' K hJ hp1 hp2 hS hR hK
      simp only [DepJ, List.getD_cons_zero, List.getD_cons_succ] at hJ
      obtain ⟨j4, -⟩ := hJ
      have j4 := Eq1.out j4
      simp only [j4] at hK ⊢
      rw [if_pos (by rfl)]
      go_step
      exact hK.out _ _ (Below.refl _ _) Eq1.mk Fresh.no
    · intro p vs w' K hJ hp1 hp2 hS hR hK
      simp only [DepJ, List.getD_cons_zero, List.getD_cons_succ] at hJ
      obtain ⟨j5, -⟩ := hJ
      have j5 := Eq1.out j5
      simp only [j5] at hK ⊢
      rw [if_pos (by rfl)]
      go_step
      exact hK.out _ _ (Below.refl _ _) Eq1.mk Fresh.no
    · intro p vs w' K hJ hp1 hp2 hS hR hK
      simp only [DepJ, List.getD_cons_zero, List.getD_cons_succ] at hJ
      obtain ⟨j5, j6, -⟩ := hJ
      have j5 := Eq1.out j5
      have j6 := Eq1.out j6
      simp only [j5, j6] at hK ⊢
      rw [if_pos (by rfl)]
      have C := Hp.facts hS
      simp only [Facts, factsL, and_true, true_and, List.set_cons_zero, List.set_cons_succ, List.setIfInBounds_toArray] at C
      have hsz := hR.1
      go_step
      refine (hof_any _ _).mono ?_
      rintro e' w'' ⟨rfl, hb⟩
      exact hK.out _ _ hb Eq1.mk Fresh.no
    · intro p vs w' K hJ hp1 hp2 hS hR hK
      simp only [DepJ, List.getD_cons_zero, List.getD_cons_succ] at hJ
      obtain ⟨j5, j7, -⟩ := hJ
      have j5 := Eq1.out j5
      have j7 := Eq1.out j7
      simp only [j5, j7] at hK ⊢
      rw [if_pos (by rfl)]
      have C := Hp.facts hS
      simp only [Facts, factsL, and_true, true_and, List.set_cons_zero, List.set_cons_succ, List.setIfInBounds_toArray] at C
      have hsz := hR.1
      go_step
      refine (lof_any _ _ _ _).mono ?_
      rintro e' w'' ⟨rfl, hb⟩
      exact hK.out _ _ hb Eq1.mk Fresh.no
    · intro p vs w' K hJ hp1 hp2 hS hR hK
      simp only [DepJ, List.getD_cons_zero, List.getD_cons_succ] at hJ
      obtain ⟨j5, -⟩ := hJ
      have j5 := Eq1.out j5
      simp only [j5] at hK ⊢
      rw [if_pos (by rfl)]
      go_step
      exact hK.out _ _ (Below.refl _ _) Eq1.mk Fresh.no
    · intro p vs w' K hJ hp1 hp2 hS hR hK
      simp only [DepJ, List.getD_cons_zero, List.getD_cons_succ] at hJ
      obtain ⟨j5, j9, -⟩ := hJ
      have j5 := Eq1.out j5
      have j9 := Eq1.out j9
      simp only [j5, j9] at hK ⊢
      rw [if_pos (by rfl)]
      have C := Hp.facts hS
      simp only [Facts, factsL, and_true, true_and, List.set_cons_zero, List.set_cons_succ, List.setIfInBounds_toArray] at C
      have hsz := hR.1
      go_step
      refine (rof_any _ _).mono ?_
      rintro e' w'' ⟨rfl, hb⟩
      exact hK.out _ _ hb Eq1.mk Fresh.no
    · intro p vs w' K hJ hp1 hp2 hS hR hK
      simp only [DepJ, List.getD_cons_zero, List.getD_cons_succ] at hJ
      obtain ⟨j5, j8, j10, -⟩ := hJ
      have j5 := Eq1.out j5
      have j8 := Eq1.out j8
      have j10 := Eq1.out j10
      simp only [j5, j8, j10] at hK ⊢
      rw [if_pos (by rfl)]
      go_step
      exact hK.out _ _ (Below.refl _ _) (Eq1.of (by simp)) Fresh.no
    · intro p vs w' K hJ hp1 hp2 hS hR hK
      simp only [DepJ, List.getD_cons_zero, List.getD_cons_succ] at hJ
      obtain ⟨j5, j11, -⟩ := hJ
      have j5 := Eq1.out j5
      have j11 := Eq1.out j11
      simp only [j5, j11] at hK ⊢
      rw [if_pos (by rfl)]
      go_step
      exact hK.out _ _ (Below.refl _ _) Eq1.mk Fresh.no
    · intro p vs w' K hJ hp1 hp2 hS hR hK
      simp only [DepJ, List.getD_cons_zero, List.getD_cons_succ] at hJ
      obtain ⟨j12, -⟩ := hJ
      have j12 := Eq1.out j12
      simp only [j12] at hK ⊢
      rw [if_pos (by rfl)]
      go_step
      exact hK.out _ _ (Below.refl _ _) Eq1.mk Fresh.no
    · intro p vs w' K hJ hp1 hp2 hS hR hK
      simp only [DepJ, List.getD_cons_zero, List.getD_cons_succ] at hJ
      obtain ⟨j13, -⟩ := hJ
      have j13 := Eq1.out j13
      simp only [j13] at hK ⊢
      rw [if_pos (by rfl)]
      go_step
      exact hK.out _ _ (Below.refl _ _) Eq1.mk Fresh.no
    · intro p vs w' K hJ hp1 hp2 hS hR hK
      simp only [DepJ, List.getD_cons_zero, List.getD_cons_succ] at hJ
      obtain ⟨j13, -⟩ := hJ
      have j13 := Eq1.out j13
      simp only [j13] at hK ⊢
      rw [if_pos (by rfl)]
      go_step
      exact hK.out _ _ (Below.refl _ _) Eq1.mk Fresh.no
    · intro p vs w' K hJ hp1 hp2 hS hR hK
      simp only [DepJ, List.getD_cons_zero, List.getD_cons_succ] at hJ
      obtain ⟨j13, j15, -⟩ := hJ
      have j13 := Eq1.out j13
      have j15 := Eq1.out j15
      simp only [j13, j15] at hK ⊢
      rw [if_pos (by rfl)]
      have C := Hp.facts hS
      simp only [Facts, factsL, and_true, true_and, List.set_cons_zero, List.set_cons_succ, List.setIfInBounds_toArray] at C
      have hsz := hR.1
      go_step
      exact hK.out _ _ (Below.refl _ _) Eq1.mk Fresh.no
    · intro p vs w' K hJ hp1 hp2 hS hR hK
      simp only [DepJ, List.getD_cons_zero, List.getD_cons_succ] at hJ
      obtain ⟨j13, j14, j16, -⟩ := hJ
      have j13 := Eq1.out j13
      have j14 := Eq1.out j14
      have j16 := Eq1.out j16
      simp only [j13, j14, j16] at hK ⊢
      rw [if_pos (by rfl)]
      have C := Hp.facts hS
      simp only [Facts, factsL, and_true, true_and, List.set_cons_zero, List.set_cons_succ, List.setIfInBounds_toArray] at C
      have hsz := hR.1
      go_step
      refine (hat_any _ _ _).mono ?_
      rintro e' w'' ⟨rfl, hb⟩
      exact hK.out _ _ hb Eq1.mk Fresh.no
    · intro p vs w' K hJ hp1 hp2 hS hR hK
      simp only [DepJ, List.getD_cons_zero, List.getD_cons_succ] at hJ
      obtain ⟨j13, j17, -⟩ := hJ
      have j13 := Eq1.out j13
      have j17 := Eq1.out j17
      simp only [j13, j17] at hK ⊢
      rw [if_pos (by rfl)]
      have C := Hp.facts hS
      simp only [Facts, factsL, and_true, true_and, List.set_cons_zero, List.set_cons_succ, List.setIfInBounds_toArray] at C
      have hsz := hR.1
      go_step
      refine (lof_any _ _ _ _).mono ?_
      rintro e' w'' ⟨rfl, hb⟩
      exact hK.out _ _ hb Eq1.mk Fresh.no
    · intro p vs w' K hJ hp1 hp2 hS hR hK
      simp only [DepJ, List.getD_cons_zero, List.getD_cons_succ] at hJ
      obtain ⟨j13, -⟩ := hJ
      have j13 := Eq1.out j13
      simp only [j13] at hK ⊢
      rw [if_pos (by rfl)]
      go_step
      exact hK.out _ _ (Below.refl _ _) Eq1.mk Fresh.no
    · intro p vs w' K hJ hp1 hp2 hS hR hK
      simp only [DepJ, List.getD_cons_zero, List.getD_cons_succ] at hJ
      obtain ⟨j13, -⟩ := hJ
      have j13 := Eq1.out j13
      simp only [j13] at hK ⊢
      rw [if_pos (by rfl)]
      go_step
      exact hK.out _ _ (Below.refl _ _) Eq1.mk Fresh.no
    · intro p vs w' K hJ hp1 hp2 hS hR hK
      simp only [DepJ, List.getD_cons_zero, List.getD_cons_succ] at hJ
      obtain ⟨j13, j20, -⟩ := hJ
      have j13 := Eq1.out j13
      have j20 := Eq1.out j20
      simp only [j13, j20] at hK ⊢
      rw [if_pos (by rfl)]
      have C := Hp.facts hS
      simp only [Facts, factsL, and_true, true_and, List.set_cons_zero, List.set_cons_succ, List.setIfInBounds_toArray] at C
      have hsz := hR.1
      go_step
      exact hK.out _ _ (Below.refl _ _) Eq1.mk Fresh.no
    · intro p vs w' K hJ hp1 hp2 hS hR hK
      simp only [DepJ, List.getD_cons_zero, List.getD_cons_succ] at hJ
      obtain ⟨j13, j19, j21, -⟩ := hJ
      have j13 := Eq1.out j13
      have j19 := Eq1.out j19
      have j21 := Eq1.out j21
      simp only [j13, j19, j21] at hK ⊢
      rw [if_pos (by rfl)]
      have C := Hp.facts hS
      simp only [Facts, factsL, and_true, true_and, List.set_cons_zero, List.set_cons_succ, List.setIfInBounds_toArray] at C
      have hsz := hR.1
      go_step
      refine (rat_any _ _ _).mono ?_
      rintro e' w'' ⟨rfl, hb⟩
      exact hK.out _ _ hb Eq1.mk Fresh.no
    · intro p vs w' K hJ hp1 hp2 hS hR hK
      simp only [DepJ, List.getD_cons_zero, List.getD_cons_succ] at hJ
      obtain ⟨j13, j18, j22, -⟩ := hJ
      have j13 := Eq1.out j13
      have j18 := Eq1.out j18
      have j22 := Eq1.out j22
      simp only [j13, j18, j22] at hK ⊢
      rw [if_pos (by rfl)]
      go_step
      exact hK.out _ _ (Below.refl _ _) (Eq1.of (by simp)) Fresh.no
    · intro p vs w' K hJ hp1 hp2 hS hR hK
      simp only [DepJ, List.getD_cons_zero, List.getD_cons_succ] at hJ
      obtain ⟨j13, j23, -⟩ := hJ
      have j13 := Eq1.out j13
      have j23 := Eq1.out j23
      simp only [j13, j23] at hK ⊢
      rw [if_pos (by rfl)]
      go_step
      exact hK.out _ _ (Below.refl _ _) Eq1.mk Fresh.no
  case hst_6 => refine ⟨fun _ _ _ _ h => h, fun _ _ _ _ h => h, fun _ _ _ _ h => h, fun _ _ _ _ h => h, fun _ _ _ _ h => h, fun _ _ _ _ h => h, fun _ _ _ _ h => h, fun _ _ _ _ h => h, fun _ _ _ _ h => h, fun _ _ _ _ h => h, fun _ _ _ _ h => h, fun _ _ _ _ h => h, fun _ _ _ _ h => h, fun _ _ _ _ h => h, fun _ _ _ _ h => h, fun _ _ _ _ h => h, fun _ _ _ _ h => h, fun _ _ _ _ h => h, fun _ _ _ _ h => h, fun _ _ _ _ h => h, fun _ _ _ _ h => h, fun _ _ _ _ h => h, fun _ _ _ _ h => h, fun _ _ _ _ h => h, fun _ _ _ _ h => h, trivial⟩
  intro vs w' hJ hD hS hR
  simp only [AllJ, Nat.reduceAdd] at hJ
  obtain ⟨v0, v1, v2, v3, v4, v5, v6, v7, v8, v9, v10, v11, v12, v13, v14, v15, v16, v17, v18, v19, v20, v21, v22, v23, v24, -⟩ := hJ
  clear C
  replace v0 := Eq1.out v0
  replace v1 := Eq1.out v1
  replace v2 := Eq1.out v2
  replace v3 := Eq1.out v3
  replace v4 := Eq1.out v4
  replace v5 := Eq1.out v5
  replace v6 := Eq1.out v6
  replace v7 := Eq1.out v7
  replace v8 := Eq1.out v8
  replace v9 := Eq1.out v9
  replace v10 := Eq1.out v10
  replace v11 := Eq1.out v11
  replace v12 := Eq1.out v12
  replace v13 := Eq1.out v13
  replace v14 := Eq1.out v14
  replace v15 := Eq1.out v15
  replace v16 := Eq1.out v16
  replace v17 := Eq1.out v17
  replace v18 := Eq1.out v18
  replace v19 := Eq1.out v19
  replace v20 := Eq1.out v20
  replace v21 := Eq1.out v21
  replace v22 := Eq1.out v22
  replace v23 := Eq1.out v23
  replace v24 := Eq1.out v24
  simp only [v0, v1, v2, v3, v4, v5, v6, v7, v8, v9, v10, v11, v12, v13, v14, v15, v16, v17, v18, v19, v20, v21, v22, v23, v24, List.drop_succ_cons, List.drop_zero]
  refine wpList_nil' ?_
  have H' : Hp _ _ _ := hS
  clear hD hR hS v0 v1 v2 v3 v4 v5 v6 v7 v8 v9 v10 v11 v12 v13 v14 v15 v16 v17 v18 v19 v20 v21 v22 v23 v24
  clear vs H
  have H := H'; clear H'; have C := Hp.facts H; simp only [Facts, factsL, and_true, true_and, List.set_cons_zero, List.set_cons_succ, List.setIfInBounds_toArray] at C
  have d0 : decide ((z : Int) < 0) = false := by simp
  have d1 : decide ((16777216 : Int) < (z : Int)) = false := by simp; omega
  have hLl := lenL_len (z : Int)
  have hrl := rlen_any z hz
  generalize lenL (z : Int) = D at *
  clear hz
  (repeat' ((fail_if_success (with_reducible show bodyPost _ _ _ _ _ _)); first | ((with_reducible refine Hp.abs_alloc H ?_); intro b' w' H' hb'; (try simp only [hb']); clear hb'; ((try simp only [List.set_cons_zero, List.set_cons_succ, List.setIfInBounds_toArray] at H'); clear C H; have H := H'; clear H'; have C := Hp.facts H; simp only [Facts, factsL, and_true, true_and, List.set_cons_zero, List.set_cons_succ, List.setIfInBounds_toArray] at C)) | ((with_reducible show wpList _ _ _ _ _ (World.setCell _ _ _)); (with_reducible apply Hp.abs_gen H); (first | ((repeat (with_reducible apply Hp.set' 0)); (with_reducible exact H); (repeat rfl); intro w' H') | ((repeat (with_reducible apply Hp.set' 1)); (with_reducible exact H); (repeat rfl); intro w' H') | ((repeat (with_reducible apply Hp.set' 2)); (with_reducible exact H); (repeat rfl); intro w' H') | ((repeat (with_reducible apply Hp.set' 3)); (with_reducible exact H); (repeat rfl); intro w' H') | ((repeat (with_reducible apply Hp.set' 4)); (with_reducible exact H); (repeat rfl); intro w' H') | ((repeat (with_reducible apply Hp.set' 5)); (with_reducible exact H); (repeat rfl); intro w' H') | ((repeat (with_reducible apply Hp.set' 6)); (with_reducible exact H); (repeat rfl); intro w' H') | ((repeat (with_reducible apply Hp.set' 7)); (with_reducible exact H); (repeat rfl); intro w' H')); ((try simp only [List.set_cons_zero, List.set_cons_succ, List.setIfInBounds_toArray] at H'); clear C H; have H := H'; clear H'; have C := Hp.facts H; simp only [Facts, factsL, and_true, true_and, List.set_cons_zero, List.set_cons_succ, List.setIfInBounds_toArray] at C)) | (go_at_call 47; refine (known_any2 _).mono ?_; rintro e' w' ⟨rfl, hb'⟩; (have H' := Hp.step H hb'; clear hb'; ((try simp only [List.set_cons_zero, List.set_cons_succ, List.setIfInBounds_toArray] at H'); clear C H; have H := H'; clear H'; have C := Hp.facts H; simp only [Facts, factsL, and_true, true_and, List.set_cons_zero, List.set_cons_succ, List.setIfInBounds_toArray] at C))) | go_values | go_skip | go_guarded | go_step | go_upon | go_back | (simp only [Int.not_lt, Int.not_le] at *; go_simp) | (go_values <;> (try go_simp)) | (go_ite <;> go_prune <;> (try go_simp)) | (split <;> (first | (rename_i hx; exact (hx _ rfl).elim) | go_prune))))
  refine (hrl _).mono ?_
  (rintro e' w' ⟨⟨v', rfl, ho⟩, hb'⟩; have H' := Hp.rowOf H hb' ho; obtain ⟨A4, c4, rfl⟩ := Go.LawLift.own_form ho; clear ho hb'; ((try simp only [List.set_cons_zero, List.set_cons_succ, List.setIfInBounds_toArray] at H'); clear C H; have H := H'; clear H'; have C := Hp.facts H; simp only [Facts, factsL, and_true, true_and, List.set_cons_zero, List.set_cons_succ, List.setIfInBounds_toArray] at C))
  (repeat' ((fail_if_success (with_reducible show bodyPost _ _ _ _ _ _)); first | ((with_reducible refine Hp.abs_alloc H ?_); intro b' w' H' hb'; (try simp only [hb']); clear hb'; ((try simp only [List.set_cons_zero, List.set_cons_succ, List.setIfInBounds_toArray] at H'); clear C H; have H := H'; clear H'; have C := Hp.facts H; simp only [Facts, factsL, and_true, true_and, List.set_cons_zero, List.set_cons_succ, List.setIfInBounds_toArray] at C)) | ((with_reducible show wpList _ _ _ _ _ (World.setCell _ _ _)); (with_reducible apply Hp.abs_gen H); (first | ((repeat (with_reducible apply Hp.set' 0)); (with_reducible exact H); (repeat rfl); intro w' H') | ((repeat (with_reducible apply Hp.set' 1)); (with_reducible exact H); (repeat rfl); intro w' H') | ((repeat (with_reducible apply Hp.set' 2)); (with_reducible exact H); (repeat rfl); intro w' H') | ((repeat (with_reducible apply Hp.set' 3)); (with_reducible exact H); (repeat rfl); intro w' H') | ((repeat (with_reducible apply Hp.set' 4)); (with_reducible exact H); (repeat rfl); intro w' H') | ((repeat (with_reducible apply Hp.set' 5)); (with_reducible exact H); (repeat rfl); intro w' H') | ((repeat (with_reducible apply Hp.set' 6)); (with_reducible exact H); (repeat rfl); intro w' H') | ((repeat (with_reducible apply Hp.set' 7)); (with_reducible exact H); (repeat rfl); intro w' H')); ((try simp only [List.set_cons_zero, List.set_cons_succ, List.setIfInBounds_toArray] at H'); clear C H; have H := H'; clear H'; have C := Hp.facts H; simp only [Facts, factsL, and_true, true_and, List.set_cons_zero, List.set_cons_succ, List.setIfInBounds_toArray] at C)) | go_values | go_skip | go_guarded | go_step | go_upon | go_back | (simp only [Int.not_lt, Int.not_le] at *; go_simp) | (go_values <;> (try go_simp)) | (go_ite <;> go_prune <;> (try go_simp)) | (split <;> (first | (rename_i hx; exact (hx _ rfl).elim) | go_prune))))
  refine (same_any D D _ _ _ (Hp.row H 1 rfl) (Hp.row H 0 rfl) (by omega) (by omega)).mono ?_
  rintro e' w' ⟨rfl, hb'⟩
  rw [decide_eq_true (rfl : D = D)]
  (have H' := Hp.step H hb'; clear hb'; ((try simp only [List.set_cons_zero, List.set_cons_succ, List.setIfInBounds_toArray] at H'); clear C H; have H := H'; clear H'; have C := Hp.facts H; simp only [Facts, factsL, and_true, true_and, List.set_cons_zero, List.set_cons_succ, List.setIfInBounds_toArray] at C))
  (repeat' ((fail_if_success (with_reducible show bodyPost _ _ _ _ _ _)); first | ((with_reducible refine Hp.abs_alloc H ?_); intro b' w' H' hb'; (try simp only [hb']); clear hb'; ((try simp only [List.set_cons_zero, List.set_cons_succ, List.setIfInBounds_toArray] at H'); clear C H; have H := H'; clear H'; have C := Hp.facts H; simp only [Facts, factsL, and_true, true_and, List.set_cons_zero, List.set_cons_succ, List.setIfInBounds_toArray] at C)) | ((with_reducible show wpList _ _ _ _ _ (World.setCell _ _ _)); (with_reducible apply Hp.abs_gen H); (first | ((repeat (with_reducible apply Hp.set' 0)); (with_reducible exact H); (repeat rfl); intro w' H') | ((repeat (with_reducible apply Hp.set' 1)); (with_reducible exact H); (repeat rfl); intro w' H') | ((repeat (with_reducible apply Hp.set' 2)); (with_reducible exact H); (repeat rfl); intro w' H') | ((repeat (with_reducible apply Hp.set' 3)); (with_reducible exact H); (repeat rfl); intro w' H') | ((repeat (with_reducible apply Hp.set' 4)); (with_reducible exact H); (repeat rfl); intro w' H') | ((repeat (with_reducible apply Hp.set' 5)); (with_reducible exact H); (repeat rfl); intro w' H') | ((repeat (with_reducible apply Hp.set' 6)); (with_reducible exact H); (repeat rfl); intro w' H') | ((repeat (with_reducible apply Hp.set' 7)); (with_reducible exact H); (repeat rfl); intro w' H')); ((try simp only [List.set_cons_zero, List.set_cons_succ, List.setIfInBounds_toArray] at H'); clear C H; have H := H'; clear H'; have C := Hp.facts H; simp only [Facts, factsL, and_true, true_and, List.set_cons_zero, List.set_cons_succ, List.setIfInBounds_toArray] at C)) | go_values | go_skip | go_guarded | go_step | go_upon | go_back | (simp only [Int.not_lt, Int.not_le] at *; go_simp) | (go_values <;> (try go_simp)) | (go_ite <;> go_prune <;> (try go_simp)) | (split <;> (first | (rename_i hx; exact (hx _ rfl).elim) | go_prune))))
  go_ret
  exact ⟨rfl, H.low⟩
theorem headWrites_any (c n : Int) (m : Bool) (z : Int) (w : World) :
    Calls Try.prog 6 #[.agg #[.int .i64 c, .int .i64 n, .bool m], .int .i64 z] w fun e w' => e = .returned (.bool true) ∧ Below w.heap.size w w' := by
  rcases (by omega : z < 0 ∨ 16777216 < z ∨ (0 ≤ z ∧ z ≤ 16777216)) with hz | hz | ⟨h0, hz⟩
  · cases h : okTag ⟨c, n, m⟩ with
    | true => exact headWrites_ok0 c n m z hz h w
    | false => exact headWrites_no0 c n m z hz h w
  · cases h : okTag ⟨c, n, m⟩ with
    | true => exact headWrites_ok1 c n m z hz h w
    | false => exact headWrites_no1 c n m z hz h w
  · obtain ⟨k, rfl⟩ := Int.eq_ofNat_of_zero_le h0
    cases h : okTag ⟨c, n, m⟩ with
    | true => exact headWrites_ok2 c n m k (by omega) h w
    | false => exact headWrites_no2 c n m k (by omega) h w
end Go.Proofs.Ytldblmgmcmnepaa
