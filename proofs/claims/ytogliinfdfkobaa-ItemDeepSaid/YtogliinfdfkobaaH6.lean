/- Lemmas and walks on the way to the seat's laws; each theorem says its own conditions. -/
import Derived.Test.YtogliinfdfkobaaH5
set_option linter.unusedSimpArgs false
set_option linter.unusedVariables false
set_option linter.unusedSimpArgs false
set_option linter.unusedVariables false
set_option maxRecDepth 100000
namespace Go.Proofs.Ytogliinfdfkobaa
open Go.RowKit Go.Mem Go.Reg Hd
theorem hbytes_no (c n : Int) (m : Bool) (h : okTag ⟨c, n, m⟩ = false) (w : World) : Calls Try.prog 67 #[.agg #[.int .i64 c, .int .i64 n, .bool m]] w (OwnOut w [] 1) := by
  have H := Hp.start w
  have C : True := trivial
  go_enter Try.func67, Try.ntmps67
  (repeat' ((fail_if_success (with_reducible show bodyPost _ _ _ _ _ _)); first | ((with_reducible refine Hp.abs_alloc H ?_); intro b' w' H' hb'; (try simp only [hb']); clear hb'; ((try simp only [List.set_cons_zero, List.set_cons_succ, List.setIfInBounds_toArray] at H'); clear C H; have H := H'; clear H'; have C := Hp.facts H; simp only [Facts, factsL, and_true, true_and, List.set_cons_zero, List.set_cons_succ, List.setIfInBounds_toArray] at C)) | ((with_reducible show wpList _ _ _ _ _ (World.setCell _ _ _)); (with_reducible apply Hp.abs_gen H); (first | ((repeat (with_reducible apply Hp.set' 0)); (with_reducible exact H); (repeat rfl); intro w' H') | ((repeat (with_reducible apply Hp.set' 1)); (with_reducible exact H); (repeat rfl); intro w' H') | ((repeat (with_reducible apply Hp.set' 2)); (with_reducible exact H); (repeat rfl); intro w' H') | ((repeat (with_reducible apply Hp.set' 3)); (with_reducible exact H); (repeat rfl); intro w' H') | ((repeat (with_reducible apply Hp.set' 4)); (with_reducible exact H); (repeat rfl); intro w' H') | ((repeat (with_reducible apply Hp.set' 5)); (with_reducible exact H); (repeat rfl); intro w' H') | ((repeat (with_reducible apply Hp.set' 6)); (with_reducible exact H); (repeat rfl); intro w' H') | ((repeat (with_reducible apply Hp.set' 7)); (with_reducible exact H); (repeat rfl); intro w' H')); ((try simp only [List.set_cons_zero, List.set_cons_succ, List.setIfInBounds_toArray] at H'); clear C H; have H := H'; clear H'; have C := Hp.facts H; simp only [Facts, factsL, and_true, true_and, List.set_cons_zero, List.set_cons_succ, List.setIfInBounds_toArray] at C)) | (go_at_call 56; refine (hright_any _ _ _ _).mono ?_; rintro e' w' ⟨rfl, hb'⟩; rw [h]; (have H' := Hp.step H hb'; clear hb'; ((try simp only [List.set_cons_zero, List.set_cons_succ, List.setIfInBounds_toArray] at H'); clear C H; have H := H'; clear H'; have C := Hp.facts H; simp only [Facts, factsL, and_true, true_and, List.set_cons_zero, List.set_cons_succ, List.setIfInBounds_toArray] at C))) | go_values | go_skip | go_guarded | go_step | go_upon | go_back | (simp only [Int.not_lt, Int.not_le] at *; go_simp) | (go_values <;> (try go_simp)) | (go_ite <;> go_prune <;> (try go_simp)) | (split <;> (first | (rename_i hx; exact (hx _ rfl).elim) | go_prune))))
  go_ret2
  exact OwnOut.none rfl H.low
set_option maxHeartbeats 2000000 in
theorem hbytes_low (c : Int) (n : Nat) (m : Bool) (h : okTag ⟨c, n, m⟩ = true) (hn : n < 31) (w : World) : Calls Try.prog 67 #[.agg #[.int .i64 c, .int .i64 (n : Int), .bool m]] w (OwnOut w (tagL ⟨c, n, m⟩) 0) := by
  obtain ⟨c0, c3, -, -⟩ := okTag_iff.1 h
  simp only at c0 c3
  obtain ⟨f0, f1, f2⟩ := firstN_ok (n := (n : Int)) (m := m) c0 c3
  rw [show tagL ⟨c, n, m⟩ = [byteI (firstN ⟨c, n, m⟩ + n)] by unfold tagL; rw [if_pos (by simp; omega)]]
  have hor := Hd.u8_or 5 (firstN ⟨c, n, m⟩) (n : Int) f0 f2 (by omega) (by omega) (by omega) (by omega)
  have e2 : Value.int .u8 (firstN ⟨c, n, m⟩ + n) = u8c (byteI (firstN ⟨c, n, m⟩ + n)) := (u8c_byte (by omega) (by omega)).symm
  have hfst := fun w => first_any c n m c0 c3 w
  generalize firstN ⟨c, n, m⟩ = f at *
  have gor := Lib.hid hor
  have g2 := Lib.hid e2
  clear hor e2
  have H := Hp.start w
  have C : True := trivial
  go_enter Try.func67, Try.ntmps67
  (repeat' ((fail_if_success (with_reducible show bodyPost _ _ _ _ _ _)); first | ((with_reducible refine Hp.abs_alloc H ?_); intro b' w' H' hb'; (try simp only [hb']); clear hb'; ((try simp only [List.set_cons_zero, List.set_cons_succ, List.setIfInBounds_toArray] at H'); clear C H; have H := H'; clear H'; have C := Hp.facts H; simp only [Facts, factsL, and_true, true_and, List.set_cons_zero, List.set_cons_succ, List.setIfInBounds_toArray] at C)) | ((with_reducible show wpList _ _ _ _ _ (World.setCell _ _ _)); (with_reducible apply Hp.abs_gen H); (first | ((repeat (with_reducible apply Hp.set' 0)); (with_reducible exact H); (repeat rfl); intro w' H') | ((repeat (with_reducible apply Hp.set' 1)); (with_reducible exact H); (repeat rfl); intro w' H') | ((repeat (with_reducible apply Hp.set' 2)); (with_reducible exact H); (repeat rfl); intro w' H') | ((repeat (with_reducible apply Hp.set' 3)); (with_reducible exact H); (repeat rfl); intro w' H') | ((repeat (with_reducible apply Hp.set' 4)); (with_reducible exact H); (repeat rfl); intro w' H') | ((repeat (with_reducible apply Hp.set' 5)); (with_reducible exact H); (repeat rfl); intro w' H') | ((repeat (with_reducible apply Hp.set' 6)); (with_reducible exact H); (repeat rfl); intro w' H') | ((repeat (with_reducible apply Hp.set' 7)); (with_reducible exact H); (repeat rfl); intro w' H')); ((try simp only [List.set_cons_zero, List.set_cons_succ, List.setIfInBounds_toArray] at H'); clear C H; have H := H'; clear H'; have C := Hp.facts H; simp only [Facts, factsL, and_true, true_and, List.set_cons_zero, List.set_cons_succ, List.setIfInBounds_toArray] at C)) | (go_at_call 56; refine (hright_any _ _ _ _).mono ?_; rintro e' w' ⟨rfl, hb'⟩; rw [h]; (have H' := Hp.step H hb'; clear hb'; ((try simp only [List.set_cons_zero, List.set_cons_succ, List.setIfInBounds_toArray] at H'); clear C H; have H := H'; clear H'; have C := Hp.facts H; simp only [Facts, factsL, and_true, true_and, List.set_cons_zero, List.set_cons_succ, List.setIfInBounds_toArray] at C))) | go_values | go_skip | go_guarded | go_step | go_upon | go_back | (simp only [Int.not_lt, Int.not_le] at *; go_simp) | (go_values <;> (try go_simp)) | (go_ite <;> go_prune <;> (try go_simp)) | (split <;> (first | (rename_i hx; exact (hx _ rfl).elim) | go_prune))))
  try simp (disch := omega) only [decide_eq_true, decide_eq_false]
  obtain ⟨wR4, rfl⟩ := Hp.nameW H
  apply region_n (frm wR4.heap.size (fun _ => Hp _ _)) (frm_ok ?hfs_1) frm_sz [] [.light 0 0, .light 0 0, .light 0 0, .light 0 0, .light 0 0, .light 0 0] [false, false, false, false, false, false] 6 41 [1, 5, 3, 4, 5, 6] [some 12, some 13, some 14, some 15, some 16, some 17] [[], [0], [], [2], [3], [1, 4]] [Eq1 _, Eq1 _, Eq1 _, Eq1 _, Eq1 _, Eq1 (.int .u8 (f + n))] ?hq1_1 ?hq2_1 ?hq3_1 ?hq4_1 ?hq5_1 ?hq6_1 _ ?hA_1 ?hst_1 ?h0_1 ?hsteps_1 ?hend_1
  case hq1_1 => kernel_rfl
  case hq2_1 => kernel_rfl
  case hq3_1 => kernel_rfl
  case hq5_1 => kernel_rfl
  case hq4_1 => rfl
  case hq6_1 => rfl
  case hA_1 => intro vs; simp only [fillD, Nat.reduceAdd, Act.put, List.setIfInBounds_toArray, List.set_cons_zero, List.set_cons_succ]; rfl
  case h0_1 => exact H.drew
  case hfs_1 => exact fun _ _ _ hb h => Hp.step h hb
  case hsteps_1 =>
    refine ⟨?_, ?_, ?_, ?_, ?_, ?_, trivial⟩
    · intro p vs w' K hJ hp1 hp2 hS hR hK
      rw [if_pos (by rfl)]
      have C := Hp.facts hS
      simp only [Facts, factsL, and_true, true_and, List.set_cons_zero, List.set_cons_succ, List.setIfInBounds_toArray] at C
      have hsz := hR.1
      go_step
      exact hK.out _ _ (Below.refl _ _) Eq1.mk Fresh.no
    · intro p vs w' K hJ hp1 hp2 hS hR hK
      simp only [DepJ, List.getD_cons_zero, List.getD_cons_succ] at hJ
      obtain ⟨j0, -⟩ := hJ
      have j0 := Eq1.out j0
      simp only [j0] at hK ⊢
      rw [if_pos (by rfl)]
      have C := Hp.facts hS
      simp only [Facts, factsL, and_true, true_and, List.set_cons_zero, List.set_cons_succ, List.setIfInBounds_toArray] at C
      have hsz := hR.1
      go_step
      refine (hfst _).mono ?_
      rintro e' w'' ⟨rfl, hb⟩
      exact hK.out _ _ hb Eq1.mk Fresh.no
    · intro p vs w' K hJ hp1 hp2 hS hR hK
      rw [if_pos (by rfl)]
      go_step
      exact hK.out _ _ (Below.refl _ _) Eq1.mk Fresh.no
    · intro p vs w' K hJ hp1 hp2 hS hR hK
      simp only [DepJ, List.getD_cons_zero, List.getD_cons_succ] at hJ
      obtain ⟨j2, -⟩ := hJ
      have j2 := Eq1.out j2
      simp only [j2] at hK ⊢
      rw [if_pos (by rfl)]
      have C := Hp.facts hS
      simp only [Facts, factsL, and_true, true_and, List.set_cons_zero, List.set_cons_succ, List.setIfInBounds_toArray] at C
      have hsz := hR.1
      go_step
      exact hK.out _ _ (Below.refl _ _) Eq1.mk Fresh.no
    · intro p vs w' K hJ hp1 hp2 hS hR hK
      simp only [DepJ, List.getD_cons_zero, List.getD_cons_succ] at hJ
      obtain ⟨j3, -⟩ := hJ
      have j3 := Eq1.out j3
      simp only [j3] at hK ⊢
      rw [if_pos (by rfl)]
      go_step
      exact hK.out _ _ (Below.refl _ _) Eq1.mk Fresh.no
    · intro p vs w' K hJ hp1 hp2 hS hR hK
      simp only [DepJ, List.getD_cons_zero, List.getD_cons_succ] at hJ
      obtain ⟨j1, j4, -⟩ := hJ
      have j1 := Eq1.out j1
      have j4 := Eq1.out j4
      simp only [j1, j4] at hK ⊢
      rw [if_pos (by rfl)]
      go_step
      exact hK.out _ _ (Below.refl _ _) (Eq1.of (by rw [gor.out])) Fresh.no
  case hst_1 => refine ⟨fun _ _ _ _ h => h, fun _ _ _ _ h => h, fun _ _ _ _ h => h, fun _ _ _ _ h => h, fun _ _ _ _ h => h, fun _ _ _ _ h => h, trivial⟩
  intro vs w' hJ hD hS hR
  simp only [AllJ, Nat.reduceAdd] at hJ
  obtain ⟨v0, v1, v2, v3, v4, v5, -⟩ := hJ
  clear C
  replace v0 := Eq1.out v0
  replace v1 := Eq1.out v1
  replace v2 := Eq1.out v2
  replace v3 := Eq1.out v3
  replace v4 := Eq1.out v4
  replace v5 := Eq1.out v5
  simp only [v0, v1, v2, v3, v4, v5, List.drop_succ_cons, List.drop_zero]
  have H' : Hp _ _ _ := hS
  clear hD hR hS v0 v1 v2 v3 v4 v5
  clear vs H
  have H := H'; clear H'; have C := Hp.facts H; simp only [Facts, factsL, and_true, true_and, List.set_cons_zero, List.set_cons_succ, List.setIfInBounds_toArray] at C
  (repeat' ((fail_if_success (with_reducible show bodyPost _ _ _ _ _ _)); first | ((with_reducible refine Hp.abs_alloc H ?_); intro b' w' H' hb'; (try simp only [hb']); clear hb'; ((try simp only [List.set_cons_zero, List.set_cons_succ, List.setIfInBounds_toArray] at H'); clear C H; have H := H'; clear H'; have C := Hp.facts H; simp only [Facts, factsL, and_true, true_and, List.set_cons_zero, List.set_cons_succ, List.setIfInBounds_toArray] at C)) | ((with_reducible show wpList _ _ _ _ _ (World.setCell _ _ _)); (with_reducible apply Hp.abs_gen H); (first | ((repeat (with_reducible apply Hp.set' 0)); (with_reducible exact H); (repeat rfl); intro w' H') | ((repeat (with_reducible apply Hp.set' 1)); (with_reducible exact H); (repeat rfl); intro w' H') | ((repeat (with_reducible apply Hp.set' 2)); (with_reducible exact H); (repeat rfl); intro w' H') | ((repeat (with_reducible apply Hp.set' 3)); (with_reducible exact H); (repeat rfl); intro w' H') | ((repeat (with_reducible apply Hp.set' 4)); (with_reducible exact H); (repeat rfl); intro w' H') | ((repeat (with_reducible apply Hp.set' 5)); (with_reducible exact H); (repeat rfl); intro w' H') | ((repeat (with_reducible apply Hp.set' 6)); (with_reducible exact H); (repeat rfl); intro w' H') | ((repeat (with_reducible apply Hp.set' 7)); (with_reducible exact H); (repeat rfl); intro w' H')); ((try simp only [List.set_cons_zero, List.set_cons_succ, List.setIfInBounds_toArray] at H'); clear C H; have H := H'; clear H'; have C := Hp.facts H; simp only [Facts, factsL, and_true, true_and, List.set_cons_zero, List.set_cons_succ, List.setIfInBounds_toArray] at C)) | go_values | go_skip | go_guarded | go_step | go_upon | go_back | (simp only [Int.not_lt, Int.not_le] at *; go_simp) | (go_values <;> (try go_simp)) | (go_ite <;> go_prune <;> (try go_simp)) | (split <;> (first | (rename_i hx; exact (hx _ rfl).elim) | go_prune))))
  have H' := Hp.blkRow H 0 rfl 1 1 rfl (by unfold maxLen; omega)
  ((try simp only [List.set_cons_zero, List.set_cons_succ, List.setIfInBounds_toArray] at H'); clear C H; have H := H'; clear H'; have C := Hp.facts H; simp only [Facts, factsL, and_true, true_and, List.set_cons_zero, List.set_cons_succ, List.setIfInBounds_toArray] at C)
  go_ret2
  refine ⟨⟨_, rfl, ?_⟩, H.low⟩
  have := ownsOf H 0 rfl
  rw [g2.out] at this
  exact this
set_option maxHeartbeats 4000000 in
theorem hbytes_high (c : Int) (n : Nat) (m : Bool) (h : okTag ⟨c, n, m⟩ = true) (hn : 31 ≤ n) (w : World) : Calls Try.prog 67 #[.agg #[.int .i64 c, .int .i64 (n : Int), .bool m]] w (OwnOut w (tagL ⟨c, n, m⟩) 0) := by
  obtain ⟨i0, hi, hz0, hz1, hz2⟩ := info_parts info_u8
  obtain ⟨c0, c3, -, n3⟩ := okTag_iff.1 h
  simp only at c0 c3 n3
  obtain ⟨f0, f1, f2⟩ := firstN_ok (n := (n : Int)) (m := m) c0 c3
  obtain ⟨d1, d2, d3, d4⟩ := digR_7 n hn (by omega)
  have d4 := d4 c m
  obtain ⟨D, hD⟩ : ∃ D, D = ((digR 128 n n).map (fun (d : Nat) => byteI (d : Int))).reverse := ⟨_, rfl⟩
  have hDl : D.length = (digR 128 n n).length := by rw [hD]; simp
  have h7 := dig7 n (by omega)
  rw [← hD, ← hDl] at h7 d4
  rw [← hDl] at d1 d2
  rw [← hD] at d3
  have hor := Hd.u8_or 5 (firstN ⟨c, n, m⟩) 31 f0 f2 (by omega) (by decide) (by decide) (by decide)
  have e2 : Value.int .u8 (firstN ⟨c, n, m⟩ + 31) = u8c (byteI (firstN ⟨c, n, m⟩ + 31)) := (u8c_byte (by omega) (by omega)).symm
  have hfst := fun w => first_any c n m c0 c3 w
  generalize firstN ⟨c, n, m⟩ = f at *
  have gor := Lib.hid hor
  have g2 := Lib.hid e2
  have g4 := Lib.hid d4
  clear hor e2 d4 hD hDl n3
  have H := Hp.start w
  have C : True := trivial
  go_enter Try.func67, Try.ntmps67
  (repeat' ((fail_if_success (with_reducible show bodyPost _ _ _ _ _ _)); first | ((with_reducible refine Hp.abs_alloc H ?_); intro b' w' H' hb'; (try simp only [hb']); clear hb'; ((try simp only [List.set_cons_zero, List.set_cons_succ, List.setIfInBounds_toArray] at H'); clear C H; have H := H'; clear H'; have C := Hp.facts H; simp only [Facts, factsL, and_true, true_and, List.set_cons_zero, List.set_cons_succ, List.setIfInBounds_toArray] at C)) | ((with_reducible show wpList _ _ _ _ _ (World.setCell _ _ _)); (with_reducible apply Hp.abs_gen H); (first | ((repeat (with_reducible apply Hp.set' 0)); (with_reducible exact H); (repeat rfl); intro w' H') | ((repeat (with_reducible apply Hp.set' 1)); (with_reducible exact H); (repeat rfl); intro w' H') | ((repeat (with_reducible apply Hp.set' 2)); (with_reducible exact H); (repeat rfl); intro w' H') | ((repeat (with_reducible apply Hp.set' 3)); (with_reducible exact H); (repeat rfl); intro w' H') | ((repeat (with_reducible apply Hp.set' 4)); (with_reducible exact H); (repeat rfl); intro w' H') | ((repeat (with_reducible apply Hp.set' 5)); (with_reducible exact H); (repeat rfl); intro w' H') | ((repeat (with_reducible apply Hp.set' 6)); (with_reducible exact H); (repeat rfl); intro w' H') | ((repeat (with_reducible apply Hp.set' 7)); (with_reducible exact H); (repeat rfl); intro w' H')); ((try simp only [List.set_cons_zero, List.set_cons_succ, List.setIfInBounds_toArray] at H'); clear C H; have H := H'; clear H'; have C := Hp.facts H; simp only [Facts, factsL, and_true, true_and, List.set_cons_zero, List.set_cons_succ, List.setIfInBounds_toArray] at C)) | (go_at_call 56; refine (hright_any _ _ _ _).mono ?_; rintro e' w' ⟨rfl, hb'⟩; rw [h]; (have H' := Hp.step H hb'; clear hb'; ((try simp only [List.set_cons_zero, List.set_cons_succ, List.setIfInBounds_toArray] at H'); clear C H; have H := H'; clear H'; have C := Hp.facts H; simp only [Facts, factsL, and_true, true_and, List.set_cons_zero, List.set_cons_succ, List.setIfInBounds_toArray] at C))) | go_values | go_skip | go_guarded | go_step | go_upon | go_back | (simp only [Int.not_lt, Int.not_le] at *; go_simp) | (go_values <;> (try go_simp)) | (go_ite <;> go_prune <;> (try go_simp)) | (split <;> (first | (rename_i hx; exact (hx _ rfl).elim) | go_prune))))
  refine (h7 _).mono ?_
  rintro e' w' ⟨⟨v', rfl, ho⟩, hb⟩
  have H' := Hp.rowOf H hb ho
  obtain ⟨A1, c1, rfl⟩ := Go.LawLift.own_form ho
  clear ho hb
  ((try simp only [List.set_cons_zero, List.set_cons_succ, List.setIfInBounds_toArray] at H'); clear C H; have H := H'; clear H'; have C := Hp.facts H; simp only [Facts, factsL, and_true, true_and, List.set_cons_zero, List.set_cons_succ, List.setIfInBounds_toArray] at C)
  (repeat' ((fail_if_success (with_reducible show bodyPost _ _ _ _ _ _)); first | ((with_reducible refine Hp.abs_alloc H ?_); intro b' w' H' hb'; (try simp only [hb']); clear hb'; ((try simp only [List.set_cons_zero, List.set_cons_succ, List.setIfInBounds_toArray] at H'); clear C H; have H := H'; clear H'; have C := Hp.facts H; simp only [Facts, factsL, and_true, true_and, List.set_cons_zero, List.set_cons_succ, List.setIfInBounds_toArray] at C)) | ((with_reducible show wpList _ _ _ _ _ (World.setCell _ _ _)); (with_reducible apply Hp.abs_gen H); (first | ((repeat (with_reducible apply Hp.set' 0)); (with_reducible exact H); (repeat rfl); intro w' H') | ((repeat (with_reducible apply Hp.set' 1)); (with_reducible exact H); (repeat rfl); intro w' H') | ((repeat (with_reducible apply Hp.set' 2)); (with_reducible exact H); (repeat rfl); intro w' H') | ((repeat (with_reducible apply Hp.set' 3)); (with_reducible exact H); (repeat rfl); intro w' H') | ((repeat (with_reducible apply Hp.set' 4)); (with_reducible exact H); (repeat rfl); intro w' H') | ((repeat (with_reducible apply Hp.set' 5)); (with_reducible exact H); (repeat rfl); intro w' H') | ((repeat (with_reducible apply Hp.set' 6)); (with_reducible exact H); (repeat rfl); intro w' H') | ((repeat (with_reducible apply Hp.set' 7)); (with_reducible exact H); (repeat rfl); intro w' H')); ((try simp only [List.set_cons_zero, List.set_cons_succ, List.setIfInBounds_toArray] at H'); clear C H; have H := H'; clear H'; have C := Hp.facts H; simp only [Facts, factsL, and_true, true_and, List.set_cons_zero, List.set_cons_succ, List.setIfInBounds_toArray] at C)) | go_values | go_skip | go_guarded | go_step | go_upon | go_back | (simp only [Int.not_lt, Int.not_le] at *; go_simp) | (go_values <;> (try go_simp)) | (go_ite <;> go_prune <;> (try go_simp)) | (split <;> (first | (rename_i hx; exact (hx _ rfl).elim) | go_prune))))
  (obtain ⟨pt, rfl⟩ := Hp.name H 1 rfl)
  go_loopw [25] (fun ix wr => ∃ i : Nat, ix = .int .i64 i ∧ i + 1 ≤ D.length ∧ Hp w [.row 5 1 (.slice A1 D.length c1) D.length ((hiL i D).map u8c), .blk pt #[.int .i64 c, .int .i64 (n : Int), .bool m] 38] wr) (fun ix _ => D.length - (intOf ix).toNat)
  case atStart => exact ⟨0, rfl, by omega, by simpa [hiL] using H⟩
  case round =>
    clear H C
    obtain ⟨i, rfl, hil, H⟩ := hrel
    have C := Hp.facts H
    simp only [Facts, factsL, and_true, true_and, List.set_cons_zero, List.set_cons_succ, List.setIfInBounds_toArray] at C
    by_cases hlt : i + 1 < D.length
    · obtain ⟨g, rfl⟩ : ∃ g, A1 = some ⟨g, 0, none⟩ := by
        rcases Hp.rowForm H 0 rfl with ⟨_, h0, _⟩ | ⟨g, c', e, _⟩
        · omega
        · injection e with e
          exact ⟨g, e⟩
      have hiD : i < D.length := by omega
      have hd := d3 D[i] (List.getElem_mem hiD)
      have hfr := (Hp.rowCell H 0 rfl).2.2.1
      have hq : wr.cell? ⟨g, i, none⟩ = some (.int .u8 (D[i].toNat : Int)) := (Hp.rowCell H 0 rfl).2.2.2 i _ (by rw [List.getElem?_map, hiL_at hiD]; rfl)
      have hst := hiL_step hiD
      have ho8 := Hd.u8_or 7 128 (D[i].toNat : Int) (by decide) (by decide) (by decide) (by omega) (by omega) (by omega)
      rw [show bits .or .u8 128 (D[i].toNat : Int) = bits .or .u8 (D[i].toNat : Int) 128 by rw [Hd.or_comm8 (by omega) (by omega) trivial trivial]] at ho8
      have e8 : Value.int .u8 (128 + (D[i].toNat : Int)) = u8c (byteI (128 + (D[i].toNat : Int))) := (u8c_byte (by omega) (by omega)).symm
      have gst := Lib.hid hst
      have go8 := Lib.hid ho8
      have ge8 := Lib.hid e8
      clear hst ho8 e8
      (repeat' ((fail_if_success (with_reducible show bodyPost _ _ _ _ _ _)); first | ((with_reducible refine Hp.abs_alloc H ?_); intro b' w' H' hb'; (try simp only [hb']); clear hb'; ((try simp only [List.set_cons_zero, List.set_cons_succ, List.setIfInBounds_toArray] at H'); clear C H; have H := H'; clear H'; have C := Hp.facts H; simp only [Facts, factsL, and_true, true_and, List.set_cons_zero, List.set_cons_succ, List.setIfInBounds_toArray] at C)) | ((with_reducible show wpList _ _ _ _ _ (World.setCell _ _ _)); (with_reducible apply Hp.abs_gen H); (first | ((repeat (with_reducible apply Hp.set' 0)); (with_reducible exact H); (repeat rfl); intro w' H') | ((repeat (with_reducible apply Hp.set' 1)); (with_reducible exact H); (repeat rfl); intro w' H') | ((repeat (with_reducible apply Hp.set' 2)); (with_reducible exact H); (repeat rfl); intro w' H') | ((repeat (with_reducible apply Hp.set' 3)); (with_reducible exact H); (repeat rfl); intro w' H') | ((repeat (with_reducible apply Hp.set' 4)); (with_reducible exact H); (repeat rfl); intro w' H') | ((repeat (with_reducible apply Hp.set' 5)); (with_reducible exact H); (repeat rfl); intro w' H') | ((repeat (with_reducible apply Hp.set' 6)); (with_reducible exact H); (repeat rfl); intro w' H') | ((repeat (with_reducible apply Hp.set' 7)); (with_reducible exact H); (repeat rfl); intro w' H')); ((try simp only [List.set_cons_zero, List.set_cons_succ, List.setIfInBounds_toArray] at H'); clear C H; have H := H'; clear H'; have C := Hp.facts H; simp only [Facts, factsL, and_true, true_and, List.set_cons_zero, List.set_cons_succ, List.setIfInBounds_toArray] at C)) | ((with_reducible show wpList _ _ _ _ _ (World.setCell _ _ _)); with_reducible refine Hp.abs_gen H (Hp.rowSet H 0 rfl _ _) ?_; intro w' H'; ((try simp only [List.set_cons_zero, List.set_cons_succ, List.setIfInBounds_toArray] at H'); clear C H; have H := H'; clear H'; have C := Hp.facts H; simp only [Facts, factsL, and_true, true_and, List.set_cons_zero, List.set_cons_succ, List.setIfInBounds_toArray] at C)) | go_values | go_skip | go_guarded | go_step | go_upon | go_back | (simp only [Int.not_lt, Int.not_le] at *; go_simp) | (go_values <;> (try go_simp)) | (go_ite <;> go_prune <;> (try go_simp)) | (split <;> (first | (rename_i hx; exact (hx _ rfl).elim) | go_prune))))
      refine ⟨⟨i + 1, by go_num, by omega, ?_⟩, by simp [intOf]; omega⟩
      rw [go8.out, ge8.out, ← List.map_set, ← gst.out] at H
      exact H
    · obtain hie : i = D.length - 1 := by omega
      subst hie
      obtain ⟨E, hE⟩ : ∃ E, E = hiL (D.length - 1) D := ⟨_, rfl⟩
      have hEl : E.length = D.length := by rw [hE, hiL_length]
      rw [← hE] at H
      have g4' := g4.out
      rw [← hE] at g4'
      have gE := Lib.hid g4'
      clear g4' hE g4
      (repeat' ((fail_if_success (with_reducible show bodyPost _ _ _ _ _ _)); first | ((with_reducible refine Hp.abs_alloc H ?_); intro b' w' H' hb'; (try simp only [hb']); clear hb'; ((try simp only [List.set_cons_zero, List.set_cons_succ, List.setIfInBounds_toArray] at H'); clear C H; have H := H'; clear H'; have C := Hp.facts H; simp only [Facts, factsL, and_true, true_and, List.set_cons_zero, List.set_cons_succ, List.setIfInBounds_toArray] at C)) | ((with_reducible show wpList _ _ _ _ _ (World.setCell _ _ _)); (with_reducible apply Hp.abs_gen H); (first | ((repeat (with_reducible apply Hp.set' 0)); (with_reducible exact H); (repeat rfl); intro w' H') | ((repeat (with_reducible apply Hp.set' 1)); (with_reducible exact H); (repeat rfl); intro w' H') | ((repeat (with_reducible apply Hp.set' 2)); (with_reducible exact H); (repeat rfl); intro w' H') | ((repeat (with_reducible apply Hp.set' 3)); (with_reducible exact H); (repeat rfl); intro w' H') | ((repeat (with_reducible apply Hp.set' 4)); (with_reducible exact H); (repeat rfl); intro w' H') | ((repeat (with_reducible apply Hp.set' 5)); (with_reducible exact H); (repeat rfl); intro w' H') | ((repeat (with_reducible apply Hp.set' 6)); (with_reducible exact H); (repeat rfl); intro w' H') | ((repeat (with_reducible apply Hp.set' 7)); (with_reducible exact H); (repeat rfl); intro w' H')); ((try simp only [List.set_cons_zero, List.set_cons_succ, List.setIfInBounds_toArray] at H'); clear C H; have H := H'; clear H'; have C := Hp.facts H; simp only [Facts, factsL, and_true, true_and, List.set_cons_zero, List.set_cons_succ, List.setIfInBounds_toArray] at C)) | (go_at_call 72; refine (hfst _).mono ?_; rintro e' w' ⟨rfl, hb'⟩; (have H' := Hp.step H hb'; clear hb'; ((try simp only [List.set_cons_zero, List.set_cons_succ, List.setIfInBounds_toArray] at H'); clear C H; have H := H'; clear H'; have C := Hp.facts H; simp only [Facts, factsL, and_true, true_and, List.set_cons_zero, List.set_cons_succ, List.setIfInBounds_toArray] at C))) | (at_builtin; ((have H := Hp.blkRow H 0 rfl 1 1 rfl (by unfold maxLen; omega)); (simp only [List.set_cons_zero, List.set_cons_succ] at H)); (at_builtin; (refine wpList_append_hp H 0 rfl _ _ _ rfl Try.underlying24 hi hz0 hz1 hz2 rfl (by decide) rfl rfl rfl (news := (E).map u8c) (Hp.rowSrc (l := E) H 1 rfl).2.1 (Hp.rowSrc (l := E) H 1 rfl).1 (Hp.rowSrc (l := E) H 1 rfl).2.2 (u8c_one _) (by unfold maxLen; omega) (by omega) ?_); intro v' w' H'; ((try simp only [List.set_cons_zero, List.set_cons_succ, List.setIfInBounds_toArray] at H'); clear C H; have H := H'; clear H'; have C := Hp.facts H; simp only [Facts, factsL, and_true, true_and, List.set_cons_zero, List.set_cons_succ, List.setIfInBounds_toArray] at C))) | go_values | go_skip | go_guarded | go_step | go_upon | go_back | (simp only [Int.not_lt, Int.not_le] at *; go_simp) | (go_values <;> (try go_simp)) | (go_ite <;> go_prune <;> (try go_simp)) | (split <;> (first | (rename_i hx; exact (hx _ rfl).elim) | go_prune))))
      go_ret2
      refine ⟨⟨_, rfl, ?_⟩, H.low⟩
      have := ownsOf H 0 rfl
      rw [gor.out, g2.out] at this
      rw [← gE.out, List.length_cons, List.map_cons, hEl, Nat.add_comm]
      exact this
end Go.Proofs.Ytogliinfdfkobaa

