/- Lemmas and walks on the way to the seat's laws; each theorem says its own conditions. -/
import Derived.Test.YtmmjghdobdendaaC7
set_option linter.unusedSimpArgs false
set_option linter.unusedVariables false
set_option linter.unusedSimpArgs false
set_option linter.unusedVariables false
set_option maxRecDepth 100000
namespace Go.Proofs.Ytmmjghdobdendaa
open Go.RowKit Go.Mem Go.Reg Bit Go.LawLift
set_option maxHeartbeats 800000 in
theorem touch_any (a b : Int × Int) (ha : In64 a.2) (w : World) : Calls Try.prog 50 #[.agg #[.int .i64 a.1, .int .i64 a.2], .agg #[.int .i64 b.1, .int .i64 b.2]] w fun e w' => e = .returned (.bool (touchS a b)) ∧ Below w.heap.size w w' := by
  have H := Hp.start w
  have C : True := trivial
  obtain ⟨x, y⟩ := a
  obtain ⟨z, u⟩ := b
  simp only [touchS] at *
  obtain ⟨h1, h2⟩ := ha
  by_cases h : y = 9223372036854775807
  · have g : (y == 9223372036854775807) = true := by rw [beq_iff_eq]; exact h
    rw [g, Bool.true_or]
    clear h h1 h2
    go_enter Try.func50, Try.ntmps50
    (repeat' ((fail_if_success (with_reducible show bodyPost _ _ _ _ _ _)); first | ((with_reducible refine Hp.abs_alloc H ?_); intro b' w' H' hb'; (try simp only [hb']); clear hb'; ((try simp only [List.set_cons_zero, List.set_cons_succ, List.setIfInBounds_toArray] at H'); clear C H; have H := H'; clear H'; have C := Hp.facts H; simp only [Facts, factsL, and_true, true_and, List.set_cons_zero, List.set_cons_succ, List.setIfInBounds_toArray] at C)) | ((with_reducible show wpList _ _ _ _ _ (World.setCell _ _ _)); (with_reducible apply Hp.abs_gen H); (first | ((repeat (with_reducible apply Hp.set' 0)); (with_reducible exact H); (repeat rfl); intro w' H') | ((repeat (with_reducible apply Hp.set' 1)); (with_reducible exact H); (repeat rfl); intro w' H') | ((repeat (with_reducible apply Hp.set' 2)); (with_reducible exact H); (repeat rfl); intro w' H') | ((repeat (with_reducible apply Hp.set' 3)); (with_reducible exact H); (repeat rfl); intro w' H') | ((repeat (with_reducible apply Hp.set' 4)); (with_reducible exact H); (repeat rfl); intro w' H') | ((repeat (with_reducible apply Hp.set' 5)); (with_reducible exact H); (repeat rfl); intro w' H') | ((repeat (with_reducible apply Hp.set' 6)); (with_reducible exact H); (repeat rfl); intro w' H') | ((repeat (with_reducible apply Hp.set' 7)); (with_reducible exact H); (repeat rfl); intro w' H')); ((try simp only [List.set_cons_zero, List.set_cons_succ, List.setIfInBounds_toArray] at H'); clear C H; have H := H'; clear H'; have C := Hp.facts H; simp only [Facts, factsL, and_true, true_and, List.set_cons_zero, List.set_cons_succ, List.setIfInBounds_toArray] at C)) | go_values | go_skip | go_guarded | go_step | go_upon | go_back | (simp only [Int.not_lt, Int.not_le] at *; go_simp) | (go_values <;> (try go_simp)) | (go_ite <;> go_prune <;> (try go_simp)) | (split <;> (first | (rename_i hx; exact (hx _ rfl).elim) | go_prune))))
    go_ret
    exact ⟨rfl, H.low⟩
  · have g : (y == 9223372036854775807) = false := by rw [beq_eq_false_iff_ne]; exact h
    have e1 : wrap64 (y + 1) = y + 1 := by unfold wrap64; omega
    rw [g, Bool.false_or]
    clear h h1 h2
    go_enter Try.func50, Try.ntmps50
    (repeat' ((fail_if_success (with_reducible show bodyPost _ _ _ _ _ _)); first | ((with_reducible refine Hp.abs_alloc H ?_); intro b' w' H' hb'; (try simp only [hb']); clear hb'; ((try simp only [List.set_cons_zero, List.set_cons_succ, List.setIfInBounds_toArray] at H'); clear C H; have H := H'; clear H'; have C := Hp.facts H; simp only [Facts, factsL, and_true, true_and, List.set_cons_zero, List.set_cons_succ, List.setIfInBounds_toArray] at C)) | ((with_reducible show wpList _ _ _ _ _ (World.setCell _ _ _)); (with_reducible apply Hp.abs_gen H); (first | ((repeat (with_reducible apply Hp.set' 0)); (with_reducible exact H); (repeat rfl); intro w' H') | ((repeat (with_reducible apply Hp.set' 1)); (with_reducible exact H); (repeat rfl); intro w' H') | ((repeat (with_reducible apply Hp.set' 2)); (with_reducible exact H); (repeat rfl); intro w' H') | ((repeat (with_reducible apply Hp.set' 3)); (with_reducible exact H); (repeat rfl); intro w' H') | ((repeat (with_reducible apply Hp.set' 4)); (with_reducible exact H); (repeat rfl); intro w' H') | ((repeat (with_reducible apply Hp.set' 5)); (with_reducible exact H); (repeat rfl); intro w' H') | ((repeat (with_reducible apply Hp.set' 6)); (with_reducible exact H); (repeat rfl); intro w' H') | ((repeat (with_reducible apply Hp.set' 7)); (with_reducible exact H); (repeat rfl); intro w' H')); ((try simp only [List.set_cons_zero, List.set_cons_succ, List.setIfInBounds_toArray] at H'); clear C H; have H := H'; clear H'; have C := Hp.facts H; simp only [Facts, factsL, and_true, true_and, List.set_cons_zero, List.set_cons_succ, List.setIfInBounds_toArray] at C)) | go_values | go_skip | go_guarded | go_step | go_upon | go_back | (simp only [Int.not_lt, Int.not_le] at *; go_simp) | (go_values <;> (try go_simp)) | (go_ite <;> go_prune <;> (try go_simp)) | (split <;> (first | (rename_i hx; exact (hx _ rfl).elim) | go_prune))))
    go_ret
    exact ⟨rfl, H.low⟩
theorem lastOf_at {zs : List (Int × Int)} {j : Nat} (h : zs.length = j + 1) (hj : j < zs.length) : lastOf zs = zs[j] := by
  unfold lastOf
  rw [List.getLastD_eq_getLast?, List.getLast?_eq_getElem?, h, Nat.add_sub_cancel, List.getElem?_eq_getElem hj]
  rfl
theorem joinS_at {zs : List (Int × Int)} {j : Nat} (h : zs.length = j + 1) (hj : j < zs.length) (s : Int × Int) : joinS zs s = if touchS zs[j] s then zs.set j (zs[j].1, max zs[j].2 s.2) else zs ++ [s] := by
  unfold joinS
  rw [if_neg (by intro he; rw [List.isEmpty_iff] at he; subst he; simp at hj), lastOf_at h hj, h, Nat.add_sub_cancel]
def JoinP (w0 : World) (M : List Ent) (zs : List (Int × Int)) (s : Int × Int) (e : Ending) (w' : World) : Prop := ∃ v', e = .returned v' ∧ Hp w0 (.row 29 2 v' (joinS zs s).length (pv (joinS zs s)) :: M) w'
set_option maxHeartbeats 1600000 in
theorem join_nil (w0 : World) (M : List Ent) (v : Value) (s : Int × Int) (w : World) (H : Hp w0 (.row 29 2 v 0 (pv []) :: M) w) :
    Calls Try.prog 49 #[v, .agg #[.int .i64 s.1, .int .i64 s.2]] w (JoinP w0 M [] s) := by
  obtain ⟨A, c, rfl⟩ := own_form (ownsOf H 0 rfl)
  have hc : c ≤ 9223372036854775807 := by
    rcases Hp.rowFormN H 0 rfl with ⟨e, -, -⟩ | ⟨g, c', e, -, h⟩ <;> injection e with e1 e2 e3 <;> omega
  obtain ⟨x, y⟩ := s
  obtain ⟨i0, hi, hz0, hz1, hz2⟩ := info_parts info_sp
  have hP := fun w' v' (H : Hp w0 (.row 29 2 v' 1 (pv [(x, y)]) :: M) w') => (show JoinP w0 M [] (x, y) (.returned v') w' from ⟨v', rfl, H⟩)
  generalize JoinP w0 M [] (x, y) = Z at *
  have C := Hp.facts H
  simp only [Facts, factsL, and_true, true_and, List.set_cons_zero, List.set_cons_succ, List.setIfInBounds_toArray] at C
  go_enter Try.func49, Try.ntmps49
  (repeat' ((fail_if_success (with_reducible show bodyPost _ _ _ _ _ _)); first | ((with_reducible refine Hp.abs_alloc H ?_); intro b' w' H' hb'; (try simp only [hb']); clear hb'; ((try simp only [List.set_cons_zero, List.set_cons_succ, List.setIfInBounds_toArray] at H'); clear C H; have H := H'; clear H'; have C := Hp.facts H; simp only [Facts, factsL, and_true, true_and, List.set_cons_zero, List.set_cons_succ, List.setIfInBounds_toArray] at C)) | ((with_reducible show wpList _ _ _ _ _ (World.setCell _ _ _)); (with_reducible apply Hp.abs_gen H); (first | ((repeat (with_reducible apply Hp.set' 0)); (with_reducible exact H); (repeat rfl); intro w' H') | ((repeat (with_reducible apply Hp.set' 1)); (with_reducible exact H); (repeat rfl); intro w' H') | ((repeat (with_reducible apply Hp.set' 2)); (with_reducible exact H); (repeat rfl); intro w' H') | ((repeat (with_reducible apply Hp.set' 3)); (with_reducible exact H); (repeat rfl); intro w' H') | ((repeat (with_reducible apply Hp.set' 4)); (with_reducible exact H); (repeat rfl); intro w' H') | ((repeat (with_reducible apply Hp.set' 5)); (with_reducible exact H); (repeat rfl); intro w' H') | ((repeat (with_reducible apply Hp.set' 6)); (with_reducible exact H); (repeat rfl); intro w' H') | ((repeat (with_reducible apply Hp.set' 7)); (with_reducible exact H); (repeat rfl); intro w' H')); ((try simp only [List.set_cons_zero, List.set_cons_succ, List.setIfInBounds_toArray] at H'); clear C H; have H := H'; clear H'; have C := Hp.facts H; simp only [Facts, factsL, and_true, true_and, List.set_cons_zero, List.set_cons_succ, List.setIfInBounds_toArray] at C)) | go_values | go_skip | go_guarded | go_step | go_upon | go_back | (simp only [Int.not_lt, Int.not_le] at *; go_simp) | (go_values <;> (try go_simp)) | (go_ite <;> go_prune <;> (try go_simp)) | (split <;> (first | (rename_i hx; exact (hx _ rfl).elim) | go_prune))))
  try simp (disch := omega) only [decide_eq_true, decide_eq_false]
  obtain ⟨wR2, rfl⟩ := Hp.nameW H
  apply region_n (frm wR2.heap.size (fun _ => Hp _ _)) (frm_ok ?hfs_1) frm_sz [] [.light 0 0, .light 0 0, .light 0 0, .light 0 0, .light 0 0, .light 0 0, .light 0 0, .light 0 0, .light 0 0, .light 0 0] [false, false, false, false, false, false, false, false, false, false] 10 36 [] [some 9, some 10, some 11, some 12, some 13, some 14, some 15, some 16, some 17, some 18] [[], [0], [1], [2], [2], [2, 3, 4], [2, 5], [2], [2, 6, 7], [2, 8]] [Eq1 _, Eq1 (.bool false), Eq1 _, Eq1 _, Eq1 _, Eq1 _, Eq1 _, Eq1 _, Eq1 _, Eq1 _] ?hq1_1 ?hq2_1 ?hq3_1 ?hq4_1 ?hq5_1 ?hq6_1 _ ?hA_1 ?hst_1 ?h0_1 ?hsteps_1 ?hend_1
  case hq1_1 => kernel_rfl
  case hq2_1 => kernel_rfl
  case hq3_1 => kernel_rfl
  case hq5_1 => kernel_rfl
  case hq4_1 => rfl
  case hq6_1 => rfl
  case hA_1 => intro vs; simp only [fillD, Nat.reduceAdd, Act.put, List.setIfInBounds_toArray, List.set_cons_zero, List.set_cons_succ]; rfl
  case h0_1 => exact H.drew
  case hfs_1 => exact fun _ _ _ hb h => Hp.step h hb
  case hsteps_1 =>
    refine ⟨?_, ?_, ?_, ?_, ?_, ?_, ?_, ?_, ?_, ?_, trivial⟩
    · intro p vs w' K hJ hp1 hp2 hS hR hK
      rw [if_pos (by rfl)]
      go_step
      exact hK.out _ _ (Below.refl _ _) Eq1.mk Fresh.no
    · intro p vs w' K hJ hp1 hp2 hS hR hK
      simp only [DepJ, List.getD_cons_zero, List.getD_cons_succ] at hJ
      obtain ⟨j0, -⟩ := hJ
      have j0 := Eq1.out j0
      simp only [j0] at hK ⊢
      rw [if_pos (by rfl)]
      go_step
      exact hK.out _ _ (Below.refl _ _) (Eq1.of (by first | rfl | (simp; done) | (simp; omega))) Fresh.no
    · intro p vs w' K hJ hp1 hp2 hS hR hK
      simp only [DepJ, List.getD_cons_zero, List.getD_cons_succ] at hJ
      obtain ⟨j1, -⟩ := hJ
      have j1 := Eq1.out j1
      simp only [j1] at hK ⊢
      rw [if_pos (by rfl)]
      go_step
      exact hK.out _ _ (Below.refl _ _) Eq1.mk Fresh.no
    · intro p vs w' K hJ hp1 hp2 hS hR hK
      simp only [DepJ, List.getD_cons_zero, List.getD_cons_succ] at hJ
      obtain ⟨j2, -⟩ := hJ
      have j2 := Eq1.out j2
      simp only [j2] at hK ⊢
      rw [if_neg (by simp [Region.wanted, yielded, undef])]
      exact hK.out _ _ (Below.refl _ _) Eq1.mk Fresh.no
    · intro p vs w' K hJ hp1 hp2 hS hR hK
      simp only [DepJ, List.getD_cons_zero, List.getD_cons_succ] at hJ
      obtain ⟨j2, -⟩ := hJ
      have j2 := Eq1.out j2
      simp only [j2] at hK ⊢
      rw [if_neg (by simp [Region.wanted, yielded, undef])]
      exact hK.out _ _ (Below.refl _ _) Eq1.mk Fresh.no
    · intro p vs w' K hJ hp1 hp2 hS hR hK
      simp only [DepJ, List.getD_cons_zero, List.getD_cons_succ] at hJ
      obtain ⟨j2, j3, j4, -⟩ := hJ
      have j2 := Eq1.out j2
      have j3 := Eq1.out j3
      have j4 := Eq1.out j4
      simp only [j2, j3, j4] at hK ⊢
      rw [if_neg (by simp [Region.wanted, yielded, undef])]
      exact hK.out _ _ (Below.refl _ _) Eq1.mk Fresh.no
    · intro p vs w' K hJ hp1 hp2 hS hR hK
      simp only [DepJ, List.getD_cons_zero, List.getD_cons_succ] at hJ
      obtain ⟨j2, j5, -⟩ := hJ
      have j2 := Eq1.out j2
      have j5 := Eq1.out j5
      simp only [j2, j5] at hK ⊢
      rw [if_neg (by simp [Region.wanted, yielded, undef])]
      exact hK.out _ _ (Below.refl _ _) Eq1.mk Fresh.no
    · intro p vs w' K hJ hp1 hp2 hS hR hK
      simp only [DepJ, List.getD_cons_zero, List.getD_cons_succ] at hJ
      obtain ⟨j2, -⟩ := hJ
      have j2 := Eq1.out j2
      simp only [j2] at hK ⊢
      rw [if_neg (by simp [Region.wanted, yielded, undef])]
      exact hK.out _ _ (Below.refl _ _) Eq1.mk Fresh.no
    · intro p vs w' K hJ hp1 hp2 hS hR hK
      simp only [DepJ, List.getD_cons_zero, List.getD_cons_succ] at hJ
      obtain ⟨j2, j6, j7, -⟩ := hJ
      have j2 := Eq1.out j2
      have j6 := Eq1.out j6
      have j7 := Eq1.out j7
      simp only [j2, j6, j7] at hK ⊢
      rw [if_neg (by simp [Region.wanted, yielded, undef])]
      exact hK.out _ _ (Below.refl _ _) Eq1.mk Fresh.no
    · intro p vs w' K hJ hp1 hp2 hS hR hK
      simp only [DepJ, List.getD_cons_zero, List.getD_cons_succ] at hJ
      obtain ⟨j2, j8, -⟩ := hJ
      have j2 := Eq1.out j2
      have j8 := Eq1.out j8
      simp only [j2, j8] at hK ⊢
      rw [if_pos (by rfl)]
      go_step
      exact hK.out _ _ (Below.refl _ _) Eq1.mk Fresh.no
  case hst_1 => refine ⟨fun _ _ _ _ h => h, fun _ _ _ _ h => h, fun _ _ _ _ h => h, fun _ _ _ _ h => h, fun _ _ _ _ h => h, fun _ _ _ _ h => h, fun _ _ _ _ h => h, fun _ _ _ _ h => h, fun _ _ _ _ h => h, fun _ _ _ _ h => h, trivial⟩
  intro vs w' hJ hD hS hR
  simp only [AllJ, Nat.reduceAdd] at hJ
  obtain ⟨v0, v1, v2, v3, v4, v5, v6, v7, v8, v9, -⟩ := hJ
  clear C
  replace v0 := Eq1.out v0
  replace v1 := Eq1.out v1
  replace v2 := Eq1.out v2
  replace v3 := Eq1.out v3
  replace v4 := Eq1.out v4
  replace v5 := Eq1.out v5
  replace v6 := Eq1.out v6
  replace v7 := Eq1.out v7
  replace v8 := Eq1.out v8
  replace v9 := Eq1.out v9
  simp only [v0, v1, v2, v3, v4, v5, v6, v7, v8, v9, List.drop_succ_cons, List.drop_zero]
  refine wpList_nil' ?_
  have H' : Hp _ _ _ := hS
  clear hD hR hS v0 v1 v2 v3 v4 v5 v6 v7 v8 v9
  clear vs H
  have H := H'; clear H'; have C := Hp.facts H; simp only [Facts, factsL, and_true, true_and, List.set_cons_zero, List.set_cons_succ, List.setIfInBounds_toArray] at C
  (repeat' ((fail_if_success (with_reducible show bodyPost _ _ _ _ _ _)); first | ((with_reducible refine Hp.abs_alloc H ?_); intro b' w' H' hb'; (try simp only [hb']); clear hb'; ((try simp only [List.set_cons_zero, List.set_cons_succ, List.setIfInBounds_toArray] at H'); clear C H; have H := H'; clear H'; have C := Hp.facts H; simp only [Facts, factsL, and_true, true_and, List.set_cons_zero, List.set_cons_succ, List.setIfInBounds_toArray] at C)) | ((with_reducible show wpList _ _ _ _ _ (World.setCell _ _ _)); (with_reducible apply Hp.abs_gen H); (first | ((repeat (with_reducible apply Hp.set' 0)); (with_reducible exact H); (repeat rfl); intro w' H') | ((repeat (with_reducible apply Hp.set' 1)); (with_reducible exact H); (repeat rfl); intro w' H') | ((repeat (with_reducible apply Hp.set' 2)); (with_reducible exact H); (repeat rfl); intro w' H') | ((repeat (with_reducible apply Hp.set' 3)); (with_reducible exact H); (repeat rfl); intro w' H') | ((repeat (with_reducible apply Hp.set' 4)); (with_reducible exact H); (repeat rfl); intro w' H') | ((repeat (with_reducible apply Hp.set' 5)); (with_reducible exact H); (repeat rfl); intro w' H') | ((repeat (with_reducible apply Hp.set' 6)); (with_reducible exact H); (repeat rfl); intro w' H') | ((repeat (with_reducible apply Hp.set' 7)); (with_reducible exact H); (repeat rfl); intro w' H')); ((try simp only [List.set_cons_zero, List.set_cons_succ, List.setIfInBounds_toArray] at H'); clear C H; have H := H'; clear H'; have C := Hp.facts H; simp only [Facts, factsL, and_true, true_and, List.set_cons_zero, List.set_cons_succ, List.setIfInBounds_toArray] at C)) | (at_builtin; (refine wpList_append_hp H 2 rfl _ _ _ rfl Try.underlying25 hi hz0 hz1 hz2 rfl (by decide) rfl rfl rfl (news := [_, _]) rfl (fun h => by cases h) (fun _ => ⟨_, rfl, blk_news (H.get 0 rfl)⟩) (by simp [Value.oneCell']) (by unfold maxLen; omega) (by omega) ?_); intro v' w' H'; ((try simp only [List.set_cons_zero, List.set_cons_succ, List.setIfInBounds_toArray] at H'); clear C H; have H := H'; clear H'; have C := Hp.facts H; simp only [Facts, factsL, and_true, true_and, List.set_cons_zero, List.set_cons_succ, List.setIfInBounds_toArray] at C)) | go_values | go_skip | go_guarded | go_step | go_upon | go_back | (simp only [Int.not_lt, Int.not_le] at *; go_simp) | (go_values <;> (try go_simp)) | (go_ite <;> go_prune <;> (try go_simp)) | (split <;> (first | (rename_i hx; exact (hx _ rfl).elim) | go_prune))))
  go_ret
  exact hP _ _ H.tail.tail
theorem pv_at {zs : List (Int × Int)} {j : Nat} (hj : j < zs.length) : (pv zs)[j * 2]? = some (.int .i64 zs[j].1) ∧ (pv zs)[j * 2 + 1]? = some (.int .i64 zs[j].2) := by
  rw [Nat.mul_comm]
  exact pv_get zs j hj
set_option maxHeartbeats 1600000 in
theorem join_some (w0 : World) (M : List Ent) (zs : List (Int × Int)) (g c j : Nat) (hj : zs.length = j + 1) (hl : zs.length ≤ 1000000) (s : Int × Int) (w : World) (hz : ∀ x ∈ zs, In2 x) (hc : zs.length ≤ c ∧ c ≤ 9223372036854775807) (H : Hp w0 (.row 29 2 (.slice (some ⟨g, 0, none⟩) zs.length c) zs.length (pv zs) :: M) w) :
    Calls Try.prog 49 #[.slice (some ⟨g, 0, none⟩) zs.length c, .agg #[.int .i64 s.1, .int .i64 s.2]] w (JoinP w0 M zs s) := by
  have hlt : j < zs.length := by omega
  have hT := touch_any zs[j] s (hz _ (List.getElem_mem hlt)).2
  have hJ := joinS_at hj hlt s
  obtain ⟨hc1, hc2⟩ := hc
  obtain ⟨hg, hlen, hfz, hcl⟩ := H.rowCellN 0 rfl
  have hp := pv_at hlt
  have hm : ∃ m, zs.length = m := ⟨_, rfl⟩
  obtain ⟨x, y⟩ := s
  obtain ⟨i0, hi, hz0, hz1, hz2⟩ := info_parts info_sp
  have gz : zs[j] = (zs[j].1, zs[j].2) := rfl
  obtain ⟨m, hm⟩ := hm
  cases ht : touchS zs[j] (x, y) with
  | true =>
    rw [ht] at hT hJ
    rw [if_pos rfl] at hJ
    have hset := fun (w' : World) (x' : Ent) (L : List Ent) (H : Hp w0 (x' :: .row 29 2 (.slice (some ⟨g, 0, none⟩) zs.length c) zs.length (pv zs) :: L) w') (y' : Int) => (show Hp w0 (x' :: .row 29 2 (.slice (some ⟨g, 0, none⟩) zs.length c) zs.length (pv (zs.set j (zs[j].1, y'))) :: L) _ from Hp.pairTo H 1 rfl j hlt y')
    have hP := fun w' (H : Hp w0 (.row 29 2 (.slice (some ⟨g, 0, none⟩) zs.length c) zs.length (pv (zs.set j (zs[j].1, max zs[j].2 y))) :: M) w') => (show JoinP w0 M zs (x, y) (.returned (.slice (some ⟨g, 0, none⟩) zs.length c)) w' from ⟨_, rfl, by rw [hJ, List.length_set]; exact H⟩)
    generalize JoinP w0 M zs (x, y) = Z at *
    have hjm : 1 ≤ m := by omega
    obtain rfl : j = m - 1 := by omega
    have hm1 : m ≤ 1000000 := by omega
    clear hl
    rw [hm] at hset hP H hc1 ⊢
    obtain ⟨hpa, hpb⟩ := hp
    replace hset := Kp.mk hset
    replace hP := Kp.mk hP
    have gH := Kp.mk hcl
    clear hJ ht hz hj hlen hm hcl
    clear gz
    generalize zs[m - 1].1 = a at *
    generalize zs[m - 1].2 = b at *
    generalize pv zs = P at *
    have C := Hp.facts H
    simp only [Facts, factsL, and_true, true_and, List.set_cons_zero, List.set_cons_succ, List.setIfInBounds_toArray] at C
    go_enter Try.func49, Try.ntmps49
    (repeat' ((fail_if_success (with_reducible show bodyPost _ _ _ _ _ _)); first | ((with_reducible refine Hp.abs_alloc H ?_); intro b' w' H' hb'; (try simp only [hb']); clear hb'; ((try simp only [List.set_cons_zero, List.set_cons_succ, List.setIfInBounds_toArray] at H'); clear C H; have H := H'; clear H'; have C := Hp.facts H; simp only [Facts, factsL, and_true, true_and, List.set_cons_zero, List.set_cons_succ, List.setIfInBounds_toArray] at C)) | ((with_reducible show wpList _ _ _ _ _ (World.setCell _ _ _)); (with_reducible apply Hp.abs_gen H); (first | ((repeat (with_reducible apply Hp.set' 0)); (with_reducible exact H); (repeat rfl); intro w' H') | ((repeat (with_reducible apply Hp.set' 1)); (with_reducible exact H); (repeat rfl); intro w' H') | ((repeat (with_reducible apply Hp.set' 2)); (with_reducible exact H); (repeat rfl); intro w' H') | ((repeat (with_reducible apply Hp.set' 3)); (with_reducible exact H); (repeat rfl); intro w' H') | ((repeat (with_reducible apply Hp.set' 4)); (with_reducible exact H); (repeat rfl); intro w' H') | ((repeat (with_reducible apply Hp.set' 5)); (with_reducible exact H); (repeat rfl); intro w' H') | ((repeat (with_reducible apply Hp.set' 6)); (with_reducible exact H); (repeat rfl); intro w' H') | ((repeat (with_reducible apply Hp.set' 7)); (with_reducible exact H); (repeat rfl); intro w' H')); ((try simp only [List.set_cons_zero, List.set_cons_succ, List.setIfInBounds_toArray] at H'); clear C H; have H := H'; clear H'; have C := Hp.facts H; simp only [Facts, factsL, and_true, true_and, List.set_cons_zero, List.set_cons_succ, List.setIfInBounds_toArray] at C)) | go_values | go_skip | go_guarded | go_step | go_upon | go_back | (simp only [Int.not_lt, Int.not_le] at *; go_simp) | (go_values <;> (try go_simp)) | (go_ite <;> go_prune <;> (try go_simp)) | (split <;> (first | (rename_i hx; exact (hx _ rfl).elim) | go_prune))))
    try simp (disch := omega) only [decide_eq_true, decide_eq_false]
    obtain ⟨wR2, rfl⟩ := Hp.nameW H
    apply region_n (frm wR2.heap.size (fun _ => Hp _ _)) (frm_ok ?hfs_2) frm_sz [] [.light 0 0, .light 0 0, .light 0 0, .light 0 0, .light 0 0, .light 0 0, .light 0 0, .light 0 0, .light 0 0, .light 0 0] [false, false, false, false, false, false, false, false, false, false] 10 36 [] [some 9, some 10, some 11, some 12, some 13, some 14, some 15, some 16, some 17, some 18] [[], [0], [1], [2], [2], [2, 3, 4], [2, 5], [2], [2, 6, 7], [2, 8]] [Eq1 _, Eq1 (.bool true), Eq1 _, Eq1 _, Eq1 _, Eq1 _, Eq1 _, Eq1 _, Eq1 _, Eq1 (.bool true)] ?hq1_2 ?hq2_2 ?hq3_2 ?hq4_2 ?hq5_2 ?hq6_2 _ ?hA_2 ?hst_2 ?h0_2 ?hsteps_2 ?hend_2
    case hq1_2 => kernel_rfl
    case hq2_2 => kernel_rfl
    case hq3_2 => kernel_rfl
    case hq5_2 => kernel_rfl
    case hq4_2 => rfl
    case hq6_2 => rfl
    case hA_2 => intro vs; simp only [fillD, Nat.reduceAdd, Act.put, List.setIfInBounds_toArray, List.set_cons_zero, List.set_cons_succ]; rfl
    case h0_2 => exact H.drew
    case hfs_2 => exact fun _ _ _ hb h => Hp.step h hb
    case hsteps_2 =>
      refine ⟨?_, ?_, ?_, ?_, ?_, ?_, ?_, ?_, ?_, ?_, trivial⟩
      · intro p vs w' K hJ hp1 hp2 hS hR hK
        rw [if_pos (by rfl)]
        go_step
        exact hK.out _ _ (Below.refl _ _) Eq1.mk Fresh.no
      · intro p vs w' K hJ hp1 hp2 hS hR hK
        simp only [DepJ, List.getD_cons_zero, List.getD_cons_succ] at hJ
        obtain ⟨j0, -⟩ := hJ
        have j0 := Eq1.out j0
        simp only [j0] at hK ⊢
        rw [if_pos (by rfl)]
        go_step
        exact hK.out _ _ (Below.refl _ _) (Eq1.of (by first | rfl | (simp; done) | (simp; omega))) Fresh.no
      · intro p vs w' K hJ hp1 hp2 hS hR hK
        simp only [DepJ, List.getD_cons_zero, List.getD_cons_succ] at hJ
        obtain ⟨j1, -⟩ := hJ
        have j1 := Eq1.out j1
        simp only [j1] at hK ⊢
        rw [if_pos (by rfl)]
        go_step
        exact hK.out _ _ (Below.refl _ _) Eq1.mk Fresh.no
      · intro p vs w' K hJ hp1 hp2 hS hR hK
        simp only [DepJ, List.getD_cons_zero, List.getD_cons_succ] at hJ
        obtain ⟨j2, -⟩ := hJ
        have j2 := Eq1.out j2
        simp only [j2] at hK ⊢
        rw [if_pos (by rfl)]
        go_step
        exact hK.out _ _ (Below.refl _ _) Eq1.mk Fresh.no
      · intro p vs w' K hJ hp1 hp2 hS hR hK
        simp only [DepJ, List.getD_cons_zero, List.getD_cons_succ] at hJ
        obtain ⟨j2, -⟩ := hJ
        have j2 := Eq1.out j2
        simp only [j2] at hK ⊢
        rw [if_pos (by rfl)]
        go_step
        exact hK.out _ _ (Below.refl _ _) Eq1.mk Fresh.no
      · intro p vs w' K hJ hp1 hp2 hS hR hK
        simp only [DepJ, List.getD_cons_zero, List.getD_cons_succ] at hJ
        obtain ⟨j2, j3, j4, -⟩ := hJ
        have j2 := Eq1.out j2
        have j3 := Eq1.out j3
        have j4 := Eq1.out j4
        simp only [j2, j3, j4] at hK ⊢
        rw [if_pos (by rfl)]
        go_step
        exact hK.out _ _ (Below.refl _ _) Eq1.mk Fresh.no
      · intro p vs w' K hJ hp1 hp2 hS hR hK
        simp only [DepJ, List.getD_cons_zero, List.getD_cons_succ] at hJ
        obtain ⟨j2, j5, -⟩ := hJ
        have j2 := Eq1.out j2
        have j5 := Eq1.out j5
        simp only [j2, j5] at hK ⊢
        rw [if_pos (by rfl)]
        have C := Hp.facts hS
        simp only [Facts, factsL, and_true, true_and, List.set_cons_zero, List.set_cons_succ, List.setIfInBounds_toArray] at C
        have hsz := hR.1
        have hq1 := (Hp.rowCellN hS 1 rfl).2.2.2 _ _ hpa
        have hq2 := (Hp.rowCellN hS 1 rfl).2.2.2 _ _ hpb
        go_step
        exact hK.out _ _ (Below.refl _ _) Eq1.mk Fresh.no
      · intro p vs w' K hJ hp1 hp2 hS hR hK
        simp only [DepJ, List.getD_cons_zero, List.getD_cons_succ] at hJ
        obtain ⟨j2, -⟩ := hJ
        have j2 := Eq1.out j2
        simp only [j2] at hK ⊢
        rw [if_pos (by rfl)]
        have C := Hp.facts hS
        simp only [Facts, factsL, and_true, true_and, List.set_cons_zero, List.set_cons_succ, List.setIfInBounds_toArray] at C
        have hsz := hR.1
        go_step
        exact hK.out _ _ (Below.refl _ _) Eq1.mk Fresh.no
      · intro p vs w' K hJ hp1 hp2 hS hR hK
        simp only [DepJ, List.getD_cons_zero, List.getD_cons_succ] at hJ
        obtain ⟨j2, j6, j7, -⟩ := hJ
        have j2 := Eq1.out j2
        have j6 := Eq1.out j6
        have j7 := Eq1.out j7
        simp only [j2, j6, j7] at hK ⊢
        rw [if_pos (by rfl)]
        have C := Hp.facts hS
        simp only [Facts, factsL, and_true, true_and, List.set_cons_zero, List.set_cons_succ, List.setIfInBounds_toArray] at C
        have hsz := hR.1
        go_step
        refine (hT _).mono ?_
        rintro e' w'' ⟨rfl, hb⟩
        exact hK.out _ _ hb Eq1.mk Fresh.no
      · intro p vs w' K hJ hp1 hp2 hS hR hK
        simp only [DepJ, List.getD_cons_zero, List.getD_cons_succ] at hJ
        obtain ⟨j2, j8, -⟩ := hJ
        have j2 := Eq1.out j2
        have j8 := Eq1.out j8
        simp only [j2, j8] at hK ⊢
        rw [if_pos (by rfl)]
        go_step
        exact hK.out _ _ (Below.refl _ _) (Eq1.of (by first | rfl | (simp; done) | (simp; omega))) Fresh.no
    case hst_2 => refine ⟨fun _ _ _ _ h => h, fun _ _ _ _ h => h, fun _ _ _ _ h => h, fun _ _ _ _ h => h, fun _ _ _ _ h => h, fun _ _ _ _ h => h, fun _ _ _ _ h => h, fun _ _ _ _ h => h, fun _ _ _ _ h => h, fun _ _ _ _ h => h, trivial⟩
    intro vs w' hJ hD hS hR
    simp only [AllJ, Nat.reduceAdd] at hJ
    obtain ⟨v0, v1, v2, v3, v4, v5, v6, v7, v8, v9, -⟩ := hJ
    clear C
    replace v0 := Eq1.out v0
    replace v1 := Eq1.out v1
    replace v2 := Eq1.out v2
    replace v3 := Eq1.out v3
    replace v4 := Eq1.out v4
    replace v5 := Eq1.out v5
    replace v6 := Eq1.out v6
    replace v7 := Eq1.out v7
    replace v8 := Eq1.out v8
    replace v9 := Eq1.out v9
    simp only [v0, v1, v2, v3, v4, v5, v6, v7, v8, v9, List.drop_succ_cons, List.drop_zero]
    refine wpList_nil' ?_
    have H' : Hp _ _ _ := hS
    clear hD hR hS v0 v1 v2 v3 v4 v5 v6 v7 v8 v9
    clear vs H
    have H := H'; clear H'; have C := Hp.facts H; simp only [Facts, factsL, and_true, true_and, List.set_cons_zero, List.set_cons_succ, List.setIfInBounds_toArray] at C

    (repeat' ((fail_if_success (with_reducible show bodyPost _ _ _ _ _ _)); first | ((with_reducible refine Hp.abs_alloc H ?_); intro b' w' H' hb'; (try simp only [hb']); clear hb'; ((try simp only [List.set_cons_zero, List.set_cons_succ, List.setIfInBounds_toArray] at H'); clear C H; have H := H'; clear H'; have C := Hp.facts H; simp only [Facts, factsL, and_true, true_and, List.set_cons_zero, List.set_cons_succ, List.setIfInBounds_toArray] at C)) | ((with_reducible show wpList _ _ _ _ _ (World.setCell _ _ _)); (with_reducible apply Hp.abs_gen H); (first | ((repeat (with_reducible apply Hp.set' 0)); (with_reducible exact H); (repeat rfl); intro w' H') | ((repeat (with_reducible apply Hp.set' 1)); (with_reducible exact H); (repeat rfl); intro w' H') | ((repeat (with_reducible apply Hp.set' 2)); (with_reducible exact H); (repeat rfl); intro w' H') | ((repeat (with_reducible apply Hp.set' 3)); (with_reducible exact H); (repeat rfl); intro w' H') | ((repeat (with_reducible apply Hp.set' 4)); (with_reducible exact H); (repeat rfl); intro w' H') | ((repeat (with_reducible apply Hp.set' 5)); (with_reducible exact H); (repeat rfl); intro w' H') | ((repeat (with_reducible apply Hp.set' 6)); (with_reducible exact H); (repeat rfl); intro w' H') | ((repeat (with_reducible apply Hp.set' 7)); (with_reducible exact H); (repeat rfl); intro w' H')); ((try simp only [List.set_cons_zero, List.set_cons_succ, List.setIfInBounds_toArray] at H'); clear C H; have H := H'; clear H'; have C := Hp.facts H; simp only [Facts, factsL, and_true, true_and, List.set_cons_zero, List.set_cons_succ, List.setIfInBounds_toArray] at C)) | go_values | go_skip | go_guarded | go_step | go_upon | go_back | (simp only [Int.not_lt, Int.not_le] at *; go_simp) | (go_values <;> (try go_simp)) | (go_ite <;> go_prune <;> (try go_simp)) | (split <;> (first | (rename_i hx; exact (hx _ rfl).elim) | go_prune))))
    try simp (disch := omega) only [decide_eq_true, decide_eq_false]
    obtain ⟨wR3, rfl⟩ := Hp.nameW H
    apply region_n (frm wR3.heap.size (fun p => match p with | 0 => Hp w0 (.blk b' #[.int .i64 x, .int .i64 y] 29 :: .row 29 2 (.slice (some ⟨g, 0, none⟩) m c) m P :: M) | _ => Hp w0 (.blk b' #[.int .i64 x, .int .i64 y] 29 :: .row 29 2 (.slice (some ⟨g, 0, none⟩) m c) m (pv (zs.set (m - 1) (a, max b y))) :: M))) (frm_ok ?hfs_3) frm_sz [12] [.light 0 1, .light 0 1, .light 0 1, .light 0 1, .light 0 1, .light 0 1, .light 0 0, .light 0 1, .light 0 0, .light 0 1, .light 0 1, .light 0 1, .turns 0] [false, false, false, false, false, false, false, false, false, false, false, false, false] 13 36 [] [some 19, some 20, some 21, some 22, some 23, some 24, some 25, some 26, some 27, some 28, some 29, some 30, none] [[], [], [], [], [2, 3], [4], [5], [], [7], [6, 8], [0, 1], [10], [9, 11]] [Eq1 _, Eq1 _, Eq1 _, Eq1 _, Eq1 _, Eq1 _, Eq1 _, Eq1 _, Eq1 _, Eq1 _, Eq1 _, Eq1 _, Eq1 _] ?hq1_3 ?hq2_3 ?hq3_3 ?hq4_3 ?hq5_3 ?hq6_3 _ ?hA_3 ?hst_3 ?h0_3 ?hsteps_3 ?hend_3
    case hq1_3 => kernel_rfl
    case hq2_3 => kernel_rfl
    case hq3_3 => kernel_rfl
    case hq5_3 => kernel_rfl
    case hq4_3 => rfl
    case hq6_3 => rfl
    case hA_3 => intro vs; simp only [fillD, Nat.reduceAdd, Act.put, List.setIfInBounds_toArray, List.set_cons_zero, List.set_cons_succ]; rfl
    case h0_3 => exact H.drew
    case hfs_3 => intro p x y hb h; rcases p with _ | _ <;> exact Hp.step h hb
    case hsteps_3 =>
      refine ⟨?_, ?_, ?_, ?_, ?_, ?_, ?_, ?_, ?_, ?_, ?_, ?_, ?_, trivial⟩
      · intro p vs w' K hJ hp1 hp2 hS hR hK
        rw [if_pos (by rfl)]
        go_step
        exact hK.out _ _ (Below.refl _ _) Eq1.mk Fresh.no
      · intro p vs w' K hJ hp1 hp2 hS hR hK
        rw [if_pos (by rfl)]
        go_step
        exact hK.out _ _ (Below.refl _ _) Eq1.mk Fresh.no
      · intro p vs w' K hJ hp1 hp2 hS hR hK
        rw [if_pos (by rfl)]
        go_step
        exact hK.out _ _ (Below.refl _ _) Eq1.mk Fresh.no
      · intro p vs w' K hJ hp1 hp2 hS hR hK
        rw [if_pos (by rfl)]
        go_step
        exact hK.out _ _ (Below.refl _ _) Eq1.mk Fresh.no
      · intro p vs w' K hJ hp1 hp2 hS hR hK
        simp only [DepJ, List.getD_cons_zero, List.getD_cons_succ] at hJ
        obtain ⟨j2, j3, -⟩ := hJ
        have j2 := Eq1.out j2
        have j3 := Eq1.out j3
        simp only [j2, j3] at hK ⊢
        rw [if_pos (by rfl)]
        go_step
        exact hK.out _ _ (Below.refl _ _) Eq1.mk Fresh.no
      · intro p vs w' K hJ hp1 hp2 hS hR hK
        simp only [DepJ, List.getD_cons_zero, List.getD_cons_succ] at hJ
        obtain ⟨j4, -⟩ := hJ
        have j4 := Eq1.out j4
        simp only [j4] at hK ⊢
        rw [if_pos (by rfl)]
        go_step
        exact hK.out _ _ (Below.refl _ _) Eq1.mk Fresh.no
      · intro p vs w' K hJ hp1 hp2 hS hR hK
        obtain rfl : p = 0 := by omega
        simp only [DepJ, List.getD_cons_zero, List.getD_cons_succ] at hJ
        obtain ⟨j5, -⟩ := hJ
        have j5 := Eq1.out j5
        simp only [j5] at hK ⊢
        rw [if_pos (by rfl)]
        have C := Hp.facts hS
        simp only [Facts, factsL, and_true, true_and, List.set_cons_zero, List.set_cons_succ, List.setIfInBounds_toArray] at C
        have hsz := hR.1
        have hq2 := (Hp.rowCellN hS 1 rfl).2.2.2 _ _ hpb
        go_step
        exact hK.out _ _ (Below.refl _ _) Eq1.mk Fresh.no
      · intro p vs w' K hJ hp1 hp2 hS hR hK
        rw [if_pos (by rfl)]
        go_step
        exact hK.out _ _ (Below.refl _ _) Eq1.mk Fresh.no
      · intro p vs w' K hJ hp1 hp2 hS hR hK
        obtain rfl : p = 0 := by omega
        simp only [DepJ, List.getD_cons_zero, List.getD_cons_succ] at hJ
        obtain ⟨j7, -⟩ := hJ
        have j7 := Eq1.out j7
        simp only [j7] at hK ⊢
        rw [if_pos (by rfl)]
        have C := Hp.facts hS
        simp only [Facts, factsL, and_true, true_and, List.set_cons_zero, List.set_cons_succ, List.setIfInBounds_toArray] at C
        have hsz := hR.1
        go_step
        exact hK.out _ _ (Below.refl _ _) Eq1.mk Fresh.no
      · intro p vs w' K hJ hp1 hp2 hS hR hK
        rcases (by omega : p = 0 ∨ p = 1) with rfl | rfl
        all_goals (
        simp only [DepJ, List.getD_cons_zero, List.getD_cons_succ] at hJ
        obtain ⟨j6, j8, -⟩ := hJ
        have j6 := Eq1.out j6
        have j8 := Eq1.out j8
        simp only [j6, j8] at hK ⊢
        rw [if_pos (by rfl)]
        have C := Hp.facts hS
        simp only [Facts, factsL, and_true, true_and, List.set_cons_zero, List.set_cons_succ, List.setIfInBounds_toArray] at C
        have hsz := hR.1
        go_step
        exact hK.out _ _ (Below.refl _ _) Eq1.mk Fresh.no
        )
      · intro p vs w' K hJ hp1 hp2 hS hR hK
        simp only [DepJ, List.getD_cons_zero, List.getD_cons_succ] at hJ
        obtain ⟨j0, j1, -⟩ := hJ
        have j0 := Eq1.out j0
        have j1 := Eq1.out j1
        simp only [j0, j1] at hK ⊢
        rw [if_pos (by rfl)]
        go_step
        exact hK.out _ _ (Below.refl _ _) Eq1.mk Fresh.no
      · intro p vs w' K hJ hp1 hp2 hS hR hK
        simp only [DepJ, List.getD_cons_zero, List.getD_cons_succ] at hJ
        obtain ⟨j10, -⟩ := hJ
        have j10 := Eq1.out j10
        simp only [j10] at hK ⊢
        rw [if_pos (by rfl)]
        go_step
        exact hK.out _ _ (Below.refl _ _) Eq1.mk Fresh.no
      · intro vs w' K hJ hS hR hK
        simp only [DepJ, List.getD_cons_zero, List.getD_cons_succ] at hJ
        obtain ⟨j9, j11, -⟩ := hJ
        have j9 := Eq1.out j9
        have j11 := Eq1.out j11
        simp only [j9, j11] at hK ⊢
        rw [if_pos (by rfl)]
        replace hS : Hp _ _ _ := hS
        have hfr := (Hp.rowCellN hS 1 rfl).2.2.1
        have hq := (Hp.rowCellN hS 1 rfl).2.2.2 _ _ hpb
        go_step
        exact hK.out undef _ (AboveR.set _ _ _ (Hp.rowCellN H 1 rfl).1) (hset.out _ _ _ hS _) Eq1.mk Fresh.no
    case hst_3 => refine ⟨fun _ _ _ _ h => h, fun _ _ _ _ h => h, fun _ _ _ _ h => h, fun _ _ _ _ h => h, fun _ _ _ _ h => h, fun _ _ _ _ h => h, fun _ _ _ _ h => h, fun _ _ _ _ h => h, fun _ _ _ _ h => h, fun _ _ _ _ h => h, fun _ _ _ _ h => h, fun _ _ _ _ h => h, fun _ _ _ _ h => h, trivial⟩
    intro vs w' hJ hD hS hR
    simp only [AllJ, Nat.reduceAdd] at hJ
    obtain ⟨v0, v1, v2, v3, v4, v5, v6, v7, v8, v9, v10, v11, v12, -⟩ := hJ
    clear C
    replace v0 := Eq1.out v0
    replace v1 := Eq1.out v1
    replace v2 := Eq1.out v2
    replace v3 := Eq1.out v3
    replace v4 := Eq1.out v4
    replace v5 := Eq1.out v5
    replace v6 := Eq1.out v6
    replace v7 := Eq1.out v7
    replace v8 := Eq1.out v8
    replace v9 := Eq1.out v9
    replace v10 := Eq1.out v10
    replace v11 := Eq1.out v11
    replace v12 := Eq1.out v12
    simp only [v0, v1, v2, v3, v4, v5, v6, v7, v8, v9, v10, v11, v12, List.drop_succ_cons, List.drop_zero]
    refine wpList_nil' ?_
    have H' : Hp _ _ _ := hS
    clear hD hR hS v0 v1 v2 v3 v4 v5 v6 v7 v8 v9 v10 v11 v12
    clear vs H
    have H := H'; clear H'; have C := Hp.facts H; simp only [Facts, factsL, and_true, true_and, List.set_cons_zero, List.set_cons_succ, List.setIfInBounds_toArray] at C
    (repeat' ((fail_if_success (with_reducible show bodyPost _ _ _ _ _ _)); first | ((with_reducible refine Hp.abs_alloc H ?_); intro b' w' H' hb'; (try simp only [hb']); clear hb'; ((try simp only [List.set_cons_zero, List.set_cons_succ, List.setIfInBounds_toArray] at H'); clear C H; have H := H'; clear H'; have C := Hp.facts H; simp only [Facts, factsL, and_true, true_and, List.set_cons_zero, List.set_cons_succ, List.setIfInBounds_toArray] at C)) | ((with_reducible show wpList _ _ _ _ _ (World.setCell _ _ _)); (with_reducible apply Hp.abs_gen H); (first | ((repeat (with_reducible apply Hp.set' 0)); (with_reducible exact H); (repeat rfl); intro w' H') | ((repeat (with_reducible apply Hp.set' 1)); (with_reducible exact H); (repeat rfl); intro w' H') | ((repeat (with_reducible apply Hp.set' 2)); (with_reducible exact H); (repeat rfl); intro w' H') | ((repeat (with_reducible apply Hp.set' 3)); (with_reducible exact H); (repeat rfl); intro w' H') | ((repeat (with_reducible apply Hp.set' 4)); (with_reducible exact H); (repeat rfl); intro w' H') | ((repeat (with_reducible apply Hp.set' 5)); (with_reducible exact H); (repeat rfl); intro w' H') | ((repeat (with_reducible apply Hp.set' 6)); (with_reducible exact H); (repeat rfl); intro w' H') | ((repeat (with_reducible apply Hp.set' 7)); (with_reducible exact H); (repeat rfl); intro w' H')); ((try simp only [List.set_cons_zero, List.set_cons_succ, List.setIfInBounds_toArray] at H'); clear C H; have H := H'; clear H'; have C := Hp.facts H; simp only [Facts, factsL, and_true, true_and, List.set_cons_zero, List.set_cons_succ, List.setIfInBounds_toArray] at C)) | go_values | go_skip | go_guarded | go_step | go_upon | go_back | (simp only [Int.not_lt, Int.not_le] at *; go_simp) | (go_values <;> (try go_simp)) | (go_ite <;> go_prune <;> (try go_simp)) | (split <;> (first | (rename_i hx; exact (hx _ rfl).elim) | go_prune))))
    go_ret
    exact hP.out _ H.tail
  | false =>
    rw [ht] at hT hJ
    rw [if_neg (by decide)] at hJ
    have hP := Kp.mk fun w' v' (H : Hp w0 (.row 29 2 v' (zs.length + 1) (pv zs ++ [.int .i64 x, .int .i64 y]) :: M) w') => (show JoinP w0 M zs (x, y) (.returned v') w' from ⟨_, rfl, by rw [hJ, List.length_append, pv_app]; exact H⟩)
    generalize JoinP w0 M zs (x, y) = Z at *
    have hjm : 1 ≤ m := by omega
    obtain rfl : j = m - 1 := by omega
    have hm1 : m ≤ 1000000 := by omega
    clear hl
    rw [hm] at hP H hc1 ⊢
    obtain ⟨hpa, hpb⟩ := hp
    clear hJ ht hz hj hlen hm hcl
    clear gz
    generalize zs[m - 1].1 = a at *
    generalize zs[m - 1].2 = b at *
    generalize pv zs = P at *
    have C := Hp.facts H
    simp only [Facts, factsL, and_true, true_and, List.set_cons_zero, List.set_cons_succ, List.setIfInBounds_toArray] at C
    go_enter Try.func49, Try.ntmps49
    (repeat' ((fail_if_success (with_reducible show bodyPost _ _ _ _ _ _)); first | ((with_reducible refine Hp.abs_alloc H ?_); intro b' w' H' hb'; (try simp only [hb']); clear hb'; ((try simp only [List.set_cons_zero, List.set_cons_succ, List.setIfInBounds_toArray] at H'); clear C H; have H := H'; clear H'; have C := Hp.facts H; simp only [Facts, factsL, and_true, true_and, List.set_cons_zero, List.set_cons_succ, List.setIfInBounds_toArray] at C)) | ((with_reducible show wpList _ _ _ _ _ (World.setCell _ _ _)); (with_reducible apply Hp.abs_gen H); (first | ((repeat (with_reducible apply Hp.set' 0)); (with_reducible exact H); (repeat rfl); intro w' H') | ((repeat (with_reducible apply Hp.set' 1)); (with_reducible exact H); (repeat rfl); intro w' H') | ((repeat (with_reducible apply Hp.set' 2)); (with_reducible exact H); (repeat rfl); intro w' H') | ((repeat (with_reducible apply Hp.set' 3)); (with_reducible exact H); (repeat rfl); intro w' H') | ((repeat (with_reducible apply Hp.set' 4)); (with_reducible exact H); (repeat rfl); intro w' H') | ((repeat (with_reducible apply Hp.set' 5)); (with_reducible exact H); (repeat rfl); intro w' H') | ((repeat (with_reducible apply Hp.set' 6)); (with_reducible exact H); (repeat rfl); intro w' H') | ((repeat (with_reducible apply Hp.set' 7)); (with_reducible exact H); (repeat rfl); intro w' H')); ((try simp only [List.set_cons_zero, List.set_cons_succ, List.setIfInBounds_toArray] at H'); clear C H; have H := H'; clear H'; have C := Hp.facts H; simp only [Facts, factsL, and_true, true_and, List.set_cons_zero, List.set_cons_succ, List.setIfInBounds_toArray] at C)) | go_values | go_skip | go_guarded | go_step | go_upon | go_back | (simp only [Int.not_lt, Int.not_le] at *; go_simp) | (go_values <;> (try go_simp)) | (go_ite <;> go_prune <;> (try go_simp)) | (split <;> (first | (rename_i hx; exact (hx _ rfl).elim) | go_prune))))
    try simp (disch := omega) only [decide_eq_true, decide_eq_false]
    obtain ⟨wR2, rfl⟩ := Hp.nameW H
    apply region_n (frm wR2.heap.size (fun _ => Hp _ _)) (frm_ok ?hfs_4) frm_sz [] [.light 0 0, .light 0 0, .light 0 0, .light 0 0, .light 0 0, .light 0 0, .light 0 0, .light 0 0, .light 0 0, .light 0 0] [false, false, false, false, false, false, false, false, false, false] 10 36 [] [some 9, some 10, some 11, some 12, some 13, some 14, some 15, some 16, some 17, some 18] [[], [0], [1], [2], [2], [2, 3, 4], [2, 5], [2], [2, 6, 7], [2, 8]] [Eq1 _, Eq1 (.bool true), Eq1 _, Eq1 _, Eq1 _, Eq1 _, Eq1 _, Eq1 _, Eq1 _, Eq1 (.bool false)] ?hq1_4 ?hq2_4 ?hq3_4 ?hq4_4 ?hq5_4 ?hq6_4 _ ?hA_4 ?hst_4 ?h0_4 ?hsteps_4 ?hend_4
    case hq1_4 => kernel_rfl
    case hq2_4 => kernel_rfl
    case hq3_4 => kernel_rfl
    case hq5_4 => kernel_rfl
    case hq4_4 => rfl
    case hq6_4 => rfl
    case hA_4 => intro vs; simp only [fillD, Nat.reduceAdd, Act.put, List.setIfInBounds_toArray, List.set_cons_zero, List.set_cons_succ]; rfl
    case h0_4 => exact H.drew
    case hfs_4 => exact fun _ _ _ hb h => Hp.step h hb
    case hsteps_4 =>
      refine ⟨?_, ?_, ?_, ?_, ?_, ?_, ?_, ?_, ?_, ?_, trivial⟩
      · intro p vs w' K hJ hp1 hp2 hS hR hK
        rw [if_pos (by rfl)]
        go_step
        exact hK.out _ _ (Below.refl _ _) Eq1.mk Fresh.no
      · intro p vs w' K hJ hp1 hp2 hS hR hK
        simp only [DepJ, List.getD_cons_zero, List.getD_cons_succ] at hJ
        obtain ⟨j0, -⟩ := hJ
        have j0 := Eq1.out j0
        simp only [j0] at hK ⊢
        rw [if_pos (by rfl)]
        go_step
        exact hK.out _ _ (Below.refl _ _) (Eq1.of (by first | rfl | (simp; done) | (simp; omega))) Fresh.no
      · intro p vs w' K hJ hp1 hp2 hS hR hK
        simp only [DepJ, List.getD_cons_zero, List.getD_cons_succ] at hJ
        obtain ⟨j1, -⟩ := hJ
        have j1 := Eq1.out j1
        simp only [j1] at hK ⊢
        rw [if_pos (by rfl)]
        go_step
        exact hK.out _ _ (Below.refl _ _) Eq1.mk Fresh.no
      · intro p vs w' K hJ hp1 hp2 hS hR hK
        simp only [DepJ, List.getD_cons_zero, List.getD_cons_succ] at hJ
        obtain ⟨j2, -⟩ := hJ
        have j2 := Eq1.out j2
        simp only [j2] at hK ⊢
        rw [if_pos (by rfl)]
        go_step
        exact hK.out _ _ (Below.refl _ _) Eq1.mk Fresh.no
      · intro p vs w' K hJ hp1 hp2 hS hR hK
        simp only [DepJ, List.getD_cons_zero, List.getD_cons_succ] at hJ
        obtain ⟨j2, -⟩ := hJ
        have j2 := Eq1.out j2
        simp only [j2] at hK ⊢
        rw [if_pos (by rfl)]
        go_step
        exact hK.out _ _ (Below.refl _ _) Eq1.mk Fresh.no
      · intro p vs w' K hJ hp1 hp2 hS hR hK
        simp only [DepJ, List.getD_cons_zero, List.getD_cons_succ] at hJ
        obtain ⟨j2, j3, j4, -⟩ := hJ
        have j2 := Eq1.out j2
        have j3 := Eq1.out j3
        have j4 := Eq1.out j4
        simp only [j2, j3, j4] at hK ⊢
        rw [if_pos (by rfl)]
        go_step
        exact hK.out _ _ (Below.refl _ _) Eq1.mk Fresh.no
      · intro p vs w' K hJ hp1 hp2 hS hR hK
        simp only [DepJ, List.getD_cons_zero, List.getD_cons_succ] at hJ
        obtain ⟨j2, j5, -⟩ := hJ
        have j2 := Eq1.out j2
        have j5 := Eq1.out j5
        simp only [j2, j5] at hK ⊢
        rw [if_pos (by rfl)]
        have C := Hp.facts hS
        simp only [Facts, factsL, and_true, true_and, List.set_cons_zero, List.set_cons_succ, List.setIfInBounds_toArray] at C
        have hsz := hR.1
        have hq1 := (Hp.rowCellN hS 1 rfl).2.2.2 _ _ hpa
        have hq2 := (Hp.rowCellN hS 1 rfl).2.2.2 _ _ hpb
        go_step
        exact hK.out _ _ (Below.refl _ _) Eq1.mk Fresh.no
      · intro p vs w' K hJ hp1 hp2 hS hR hK
        simp only [DepJ, List.getD_cons_zero, List.getD_cons_succ] at hJ
        obtain ⟨j2, -⟩ := hJ
        have j2 := Eq1.out j2
        simp only [j2] at hK ⊢
        rw [if_pos (by rfl)]
        have C := Hp.facts hS
        simp only [Facts, factsL, and_true, true_and, List.set_cons_zero, List.set_cons_succ, List.setIfInBounds_toArray] at C
        have hsz := hR.1
        go_step
        exact hK.out _ _ (Below.refl _ _) Eq1.mk Fresh.no
      · intro p vs w' K hJ hp1 hp2 hS hR hK
        simp only [DepJ, List.getD_cons_zero, List.getD_cons_succ] at hJ
        obtain ⟨j2, j6, j7, -⟩ := hJ
        have j2 := Eq1.out j2
        have j6 := Eq1.out j6
        have j7 := Eq1.out j7
        simp only [j2, j6, j7] at hK ⊢
        rw [if_pos (by rfl)]
        have C := Hp.facts hS
        simp only [Facts, factsL, and_true, true_and, List.set_cons_zero, List.set_cons_succ, List.setIfInBounds_toArray] at C
        have hsz := hR.1
        go_step
        refine (hT _).mono ?_
        rintro e' w'' ⟨rfl, hb⟩
        exact hK.out _ _ hb Eq1.mk Fresh.no
      · intro p vs w' K hJ hp1 hp2 hS hR hK
        simp only [DepJ, List.getD_cons_zero, List.getD_cons_succ] at hJ
        obtain ⟨j2, j8, -⟩ := hJ
        have j2 := Eq1.out j2
        have j8 := Eq1.out j8
        simp only [j2, j8] at hK ⊢
        rw [if_pos (by rfl)]
        go_step
        exact hK.out _ _ (Below.refl _ _) (Eq1.of (by first | rfl | (simp; done) | (simp; omega))) Fresh.no
    case hst_4 => refine ⟨fun _ _ _ _ h => h, fun _ _ _ _ h => h, fun _ _ _ _ h => h, fun _ _ _ _ h => h, fun _ _ _ _ h => h, fun _ _ _ _ h => h, fun _ _ _ _ h => h, fun _ _ _ _ h => h, fun _ _ _ _ h => h, fun _ _ _ _ h => h, trivial⟩
    intro vs w' hJ hD hS hR
    simp only [AllJ, Nat.reduceAdd] at hJ
    obtain ⟨v0, v1, v2, v3, v4, v5, v6, v7, v8, v9, -⟩ := hJ
    clear C
    replace v0 := Eq1.out v0
    replace v1 := Eq1.out v1
    replace v2 := Eq1.out v2
    replace v3 := Eq1.out v3
    replace v4 := Eq1.out v4
    replace v5 := Eq1.out v5
    replace v6 := Eq1.out v6
    replace v7 := Eq1.out v7
    replace v8 := Eq1.out v8
    replace v9 := Eq1.out v9
    simp only [v0, v1, v2, v3, v4, v5, v6, v7, v8, v9, List.drop_succ_cons, List.drop_zero]
    refine wpList_nil' ?_
    have H' : Hp _ _ _ := hS
    clear hD hR hS v0 v1 v2 v3 v4 v5 v6 v7 v8 v9
    clear vs H
    have H := H'; clear H'; have C := Hp.facts H; simp only [Facts, factsL, and_true, true_and, List.set_cons_zero, List.set_cons_succ, List.setIfInBounds_toArray] at C
    (repeat' ((fail_if_success (with_reducible show bodyPost _ _ _ _ _ _)); first | ((with_reducible refine Hp.abs_alloc H ?_); intro b' w' H' hb'; (try simp only [hb']); clear hb'; ((try simp only [List.set_cons_zero, List.set_cons_succ, List.setIfInBounds_toArray] at H'); clear C H; have H := H'; clear H'; have C := Hp.facts H; simp only [Facts, factsL, and_true, true_and, List.set_cons_zero, List.set_cons_succ, List.setIfInBounds_toArray] at C)) | ((with_reducible show wpList _ _ _ _ _ (World.setCell _ _ _)); (with_reducible apply Hp.abs_gen H); (first | ((repeat (with_reducible apply Hp.set' 0)); (with_reducible exact H); (repeat rfl); intro w' H') | ((repeat (with_reducible apply Hp.set' 1)); (with_reducible exact H); (repeat rfl); intro w' H') | ((repeat (with_reducible apply Hp.set' 2)); (with_reducible exact H); (repeat rfl); intro w' H') | ((repeat (with_reducible apply Hp.set' 3)); (with_reducible exact H); (repeat rfl); intro w' H') | ((repeat (with_reducible apply Hp.set' 4)); (with_reducible exact H); (repeat rfl); intro w' H') | ((repeat (with_reducible apply Hp.set' 5)); (with_reducible exact H); (repeat rfl); intro w' H') | ((repeat (with_reducible apply Hp.set' 6)); (with_reducible exact H); (repeat rfl); intro w' H') | ((repeat (with_reducible apply Hp.set' 7)); (with_reducible exact H); (repeat rfl); intro w' H')); ((try simp only [List.set_cons_zero, List.set_cons_succ, List.setIfInBounds_toArray] at H'); clear C H; have H := H'; clear H'; have C := Hp.facts H; simp only [Facts, factsL, and_true, true_and, List.set_cons_zero, List.set_cons_succ, List.setIfInBounds_toArray] at C)) | (at_builtin; (refine wpList_append_hp H 2 rfl _ _ _ rfl Try.underlying25 hi hz0 hz1 hz2 rfl (by decide) rfl rfl rfl (news := [_, _]) rfl (fun h => by cases h) (fun _ => ⟨_, rfl, blk_news (H.get 0 rfl)⟩) (by simp [Value.oneCell']) (by unfold maxLen; omega) (by omega) ?_); intro v' w' H'; ((try simp only [List.set_cons_zero, List.set_cons_succ, List.setIfInBounds_toArray] at H'); clear C H; have H := H'; clear H'; have C := Hp.facts H; simp only [Facts, factsL, and_true, true_and, List.set_cons_zero, List.set_cons_succ, List.setIfInBounds_toArray] at C)) | go_values | go_skip | go_guarded | go_step | go_upon | go_back | (simp only [Int.not_lt, Int.not_le] at *; go_simp) | (go_values <;> (try go_simp)) | (go_ite <;> go_prune <;> (try go_simp)) | (split <;> (first | (rename_i hx; exact (hx _ rfl).elim) | go_prune))))
    go_ret
    exact hP.out _ _ H.tail.tail
theorem join_any (w0 : World) (M : List Ent) (zs : List (Int × Int)) (v : Value) (hl : zs.length ≤ 1000000) (s : Int × Int) (w : World) (hz : ∀ x ∈ zs, In2 x) (H : Hp w0 (.row 29 2 v zs.length (pv zs) :: M) w) :
    Calls Try.prog 49 #[v, .agg #[.int .i64 s.1, .int .i64 s.2]] w (JoinP w0 M zs s) := by
  cases hz0 : zs.length with
  | zero =>
    obtain rfl : zs = [] := List.eq_nil_of_length_eq_zero hz0
    exact join_nil w0 M v s w H
  | succ j =>
    rcases Hp.rowFormN H 0 rfl with ⟨-, h, -⟩ | ⟨g, c, rfl, h1, h2⟩
    · omega
    · exact join_some w0 M zs g c j hz0 hl s w hz ⟨h1, h2⟩ H
end Go.Proofs.Ytmmjghdobdendaa

