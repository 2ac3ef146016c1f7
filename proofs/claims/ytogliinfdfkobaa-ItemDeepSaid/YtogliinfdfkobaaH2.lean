/- Lemmas and walks on the way to the seat's laws; each theorem says its own conditions. -/
import Derived.Test.YtogliinfdfkobaaI4
set_option linter.unusedSimpArgs false
set_option linter.unusedVariables false
set_option linter.unusedSimpArgs false
set_option linter.unusedVariables false
set_option maxRecDepth 100000
namespace Go.Proofs.Ytogliinfdfkobaa
open Go.RowKit Go.Mem Go.Reg Hd
theorem cell_row_map {w0 w : World} {L : List Ent} (H : Hp w0 L w) (i : Nat) {n c g : Nat} {bs : List UInt8} (hi : L[i]? = some (.row 5 1 (.slice (some ⟨g, 0, none⟩) n c) n (bs.map u8c))) (j : Nat) (hj : j < bs.length) : w.cell? ⟨g, j, none⟩ = some (.int .u8 (bs[j].toNat : Int)) := by
  refine (Hp.rowCell H i hi).2.2.2 j _ ?_
  rw [List.getElem?_map, List.getElem?_eq_getElem hj]
  rfl
/-- What has been turned so far, from both ends. -/
def RevAt (xs ys : List UInt8) (i : Nat) : Prop := ys.length = xs.length ∧ ∀ t, (ht : t < xs.length) → ys[t]? = if i ≤ t ∧ t + i < xs.length then xs[t]? else xs[xs.length - 1 - t]?
theorem RevAt.start (xs : List UInt8) : RevAt xs xs 0 := ⟨rfl, fun t ht => by rw [if_pos (by omega)]⟩
theorem RevAt.step {xs ys : List UInt8} {i : Nat} (h : RevAt xs ys i) (hi : i + i + 1 < xs.length) (h1 : i < ys.length) (h2 : xs.length - 1 - i < ys.length) : RevAt xs ((ys.set i (ys[xs.length - 1 - i])).set (xs.length - 1 - i) (ys[i])) (i + 1) := by
  obtain ⟨hl, hh⟩ := h
  refine ⟨by simp [hl], fun t ht => ?_⟩
  have e1 : ys[i]? = xs[i]? := by rw [hh i (by omega), if_pos (by omega)]
  have e2 : ys[xs.length - 1 - i]? = xs[xs.length - 1 - i]? := by rw [hh _ (by omega), if_pos (by omega)]
  rw [List.getElem?_set]
  by_cases ht1 : xs.length - 1 - i = t
  · subst ht1
    rw [if_pos rfl, if_pos (by simp [hl]; omega), if_neg (by omega), ← List.getElem?_eq_getElem h1, e1]
    congr 1
    omega
  · rw [if_neg ht1, List.getElem?_set]
    by_cases ht2 : i = t
    · subst ht2
      rw [if_pos rfl, if_pos h1, if_neg (by omega), ← List.getElem?_eq_getElem h2, e2]
    · rw [if_neg ht2, hh t ht]
      by_cases hc : i ≤ t ∧ t + i < xs.length
      · rw [if_pos hc, if_pos (by omega)]
      · rw [if_neg hc, if_neg (by omega)]
theorem RevAt.step' {xs ys : List UInt8} {i j : Nat} (hj : j = xs.length - 1 - i) (h : RevAt xs ys i) (hi : i + i + 1 < xs.length) (h1 : i < ys.length) (h2 : j < ys.length) : RevAt xs ((ys.set i (ys[j])).set j (ys[i])) (i + 1) := by
  subst hj
  exact h.step hi h1 h2
theorem RevAt.done {xs ys : List UInt8} {i : Nat} (h : RevAt xs ys i) (hi : xs.length ≤ i + i + 1) : ys = xs.reverse := by
  apply List.ext_getElem?
  intro t
  by_cases ht : t < xs.length
  · rw [h.2 t ht, List.getElem?_reverse ht]
    split
    · congr 1; omega
    · rfl
  · rw [List.getElem?_eq_none (by rw [h.1]; omega), List.getElem?_eq_none (by simp; omega)]
set_option maxHeartbeats 2000000 in
theorem rev_any (w0 : World) (M : List Ent) (xs : List UInt8) (A : Option Addr) (c : Nat) (hl : xs.length ≤ 1000000) (w : World) (H : Hp w0 (.row 5 1 (.slice A xs.length c) xs.length (xs.map u8c) :: M) w) :
    Calls Try.prog 79 #[.slice A xs.length c] w fun e w' => (∃ v, e = .returned v) ∧ Hp w0 (.row 5 1 (.slice A xs.length c) xs.length (xs.reverse.map u8c) :: M) w' := by
  have C := Hp.facts H
  simp only [Facts, factsL, and_true, true_and, List.set_cons_zero, List.set_cons_succ, List.setIfInBounds_toArray] at C
  go_enter Try.func79, Try.ntmps79
  (repeat' ((fail_if_success (with_reducible show bodyPost _ _ _ _ _ _)); first | ((with_reducible refine Hp.abs_alloc H ?_); intro b' w' H' hb'; (try simp only [hb']); clear hb'; ((try simp only [List.set_cons_zero, List.set_cons_succ, List.setIfInBounds_toArray] at H'); clear C H; have H := H'; clear H'; have C := Hp.facts H; simp only [Facts, factsL, and_true, true_and, List.set_cons_zero, List.set_cons_succ, List.setIfInBounds_toArray] at C)) | ((with_reducible show wpList _ _ _ _ _ (World.setCell _ _ _)); (with_reducible apply Hp.abs_gen H); (first | ((repeat (with_reducible apply Hp.set' 0)); (with_reducible exact H); (repeat rfl); intro w' H') | ((repeat (with_reducible apply Hp.set' 1)); (with_reducible exact H); (repeat rfl); intro w' H') | ((repeat (with_reducible apply Hp.set' 2)); (with_reducible exact H); (repeat rfl); intro w' H') | ((repeat (with_reducible apply Hp.set' 3)); (with_reducible exact H); (repeat rfl); intro w' H') | ((repeat (with_reducible apply Hp.set' 4)); (with_reducible exact H); (repeat rfl); intro w' H') | ((repeat (with_reducible apply Hp.set' 5)); (with_reducible exact H); (repeat rfl); intro w' H') | ((repeat (with_reducible apply Hp.set' 6)); (with_reducible exact H); (repeat rfl); intro w' H') | ((repeat (with_reducible apply Hp.set' 7)); (with_reducible exact H); (repeat rfl); intro w' H')); ((try simp only [List.set_cons_zero, List.set_cons_succ, List.setIfInBounds_toArray] at H'); clear C H; have H := H'; clear H'; have C := Hp.facts H; simp only [Facts, factsL, and_true, true_and, List.set_cons_zero, List.set_cons_succ, List.setIfInBounds_toArray] at C)) | go_values | go_skip | go_guarded | go_step | go_upon | go_back | (simp only [Int.not_lt, Int.not_le] at *; go_simp) | (go_values <;> (try go_simp)) | (go_ite <;> go_prune <;> (try go_simp)) | (split <;> (first | (rename_i hx; exact (hx _ rfl).elim) | go_prune))))
  go_loopw [2, 3] (fun ix jx wr => ∃ (i : Nat) (ys : List UInt8), ix = .int .i64 i ∧ jx = .int .i64 ((xs.length : Int) - 1 - i) ∧ i + i ≤ xs.length ∧ Hid (RevAt xs ys i) ∧ Hp w0 (.row 5 1 (.slice A xs.length c) xs.length (ys.map u8c) :: M) wr) (fun ix _ _ => xs.length - (intOf ix).toNat)
  case atStart => exact ⟨0, xs, rfl, by simp, by omega, RevAt.start xs, H⟩
  case round =>
    clear H C
    obtain ⟨i, ys, rfl, rfl, hi, hR, H⟩ := hrel
    have C := Hp.facts H
    simp only [Facts, factsL, and_true, true_and, List.set_cons_zero, List.set_cons_succ, List.setIfInBounds_toArray] at C
    by_cases hlt : i + i + 1 < xs.length
    · obtain ⟨g, rfl⟩ : ∃ g, A = some ⟨g, 0, none⟩ := by
        rcases Hp.rowForm H 0 rfl with ⟨_, h0, _⟩ | ⟨g, c', e, _⟩
        · omega
        · injection e with e
          exact ⟨g, e⟩
      have hl1 : i < ys.length := by rw [hR.out.1]; omega
      obtain ⟨j, hj⟩ : ∃ j, j = xs.length - 1 - i := ⟨_, rfl⟩
      have hji : (xs.length : Int) - 1 - (i : Int) = (j : Int) := by omega
      have hl2 : j < ys.length := by rw [hR.out.1]; omega
      have hS := Lib.hid (hR.out.step' hj hlt hl1 hl2)
      rw [hji]
      have hjn : j < xs.length := by omega
      have hij : i < j := by omega
      have gj := Lib.hid hj
      have gji := Lib.hid hji
      clear hj hji
      have q1 := ys[i].toNat_lt
      have q2 := ys[j].toNat_lt
      (repeat' ((fail_if_success (with_reducible show bodyPost _ _ _ _ _ _)); first | ((with_reducible refine Hp.abs_alloc H ?_); intro b' w' H' hb'; (try simp only [hb']); clear hb'; ((try simp only [List.set_cons_zero, List.set_cons_succ, List.setIfInBounds_toArray] at H'); clear C H; have H := H'; clear H'; have C := Hp.facts H; simp only [Facts, factsL, and_true, true_and, List.set_cons_zero, List.set_cons_succ, List.setIfInBounds_toArray] at C)) | ((with_reducible show wpList _ _ _ _ _ (World.setCell _ _ _)); (with_reducible apply Hp.abs_gen H); (first | ((repeat (with_reducible apply Hp.set' 0)); (with_reducible exact H); (repeat rfl); intro w' H') | ((repeat (with_reducible apply Hp.set' 1)); (with_reducible exact H); (repeat rfl); intro w' H') | ((repeat (with_reducible apply Hp.set' 2)); (with_reducible exact H); (repeat rfl); intro w' H') | ((repeat (with_reducible apply Hp.set' 3)); (with_reducible exact H); (repeat rfl); intro w' H') | ((repeat (with_reducible apply Hp.set' 4)); (with_reducible exact H); (repeat rfl); intro w' H') | ((repeat (with_reducible apply Hp.set' 5)); (with_reducible exact H); (repeat rfl); intro w' H') | ((repeat (with_reducible apply Hp.set' 6)); (with_reducible exact H); (repeat rfl); intro w' H') | ((repeat (with_reducible apply Hp.set' 7)); (with_reducible exact H); (repeat rfl); intro w' H')); ((try simp only [List.set_cons_zero, List.set_cons_succ, List.setIfInBounds_toArray] at H'); clear C H; have H := H'; clear H'; have C := Hp.facts H; simp only [Facts, factsL, and_true, true_and, List.set_cons_zero, List.set_cons_succ, List.setIfInBounds_toArray] at C)) | go_values | go_skip | go_guarded | go_step | go_upon | go_back | (simp only [Int.not_lt, Int.not_le] at *; go_simp) | (go_values <;> (try go_simp)) | (go_ite <;> go_prune <;> (try go_simp)) | (split <;> (first | (rename_i hx; exact (hx _ rfl).elim) | go_prune))))
      try simp (disch := omega) only [decide_eq_true, decide_eq_false]
      obtain ⟨wR3, rfl⟩ := Hp.nameW H
      apply region_n (frm wR3.heap.size (fun p => match p with | 0 => Hp w0 (.row 5 1 (.slice (some ⟨g, 0, none⟩) xs.length c) xs.length (ys.map u8c) :: M) | _ => Hp w0 (.row 5 1 (.slice (some ⟨g, 0, none⟩) xs.length c) xs.length ((ys.map u8c).set i (.int .u8 (ys[j].toNat : Int))) :: M))) (frm_ok ?hfs_1) frm_sz [13] [.light 0 1, .light 0 1, .light 0 1, .light 0 1, .light 0 1, .light 0 1, .light 0 1, .light 0 0, .light 0 1, .light 0 1, .light 0 1, .light 0 0, .light 0 1, .turns 0] [false, false, false, false, false, false, false, false, false, false, false, false, false, false] 14 28 [14, 14, 14, 14, 14, 14, 14, 14, 14, 14, 14, 14, 14, 14] [some 14, some 15, some 16, some 17, some 18, some 19, some 20, some 21, some 22, some 23, some 24, some 25, some 26, none] [[], [], [], [], [], [], [4, 5], [6], [], [], [8, 9], [10], [0, 1], [7, 12]] [Eq1 _, Eq1 _, Eq1 _, Eq1 _, Eq1 _, Eq1 _, Eq1 _, Eq1 _, Eq1 _, Eq1 _, Eq1 _, Eq1 _, Eq1 _, Eq1 _] ?hq1_1 ?hq2_1 ?hq3_1 ?hq4_1 ?hq5_1 ?hq6_1 _ ?hA_1 ?hst_1 ?h0_1 ?hsteps_1 ?hend_1
      case hq1_1 => kernel_rfl
      case hq2_1 => kernel_rfl
      case hq3_1 => kernel_rfl
      case hq5_1 => kernel_rfl
      case hq4_1 => rfl
      case hq6_1 => rfl
      case hA_1 => intro vs; simp only [fillD, Nat.reduceAdd, Act.put, List.setIfInBounds_toArray, List.set_cons_zero, List.set_cons_succ]; rfl
      case h0_1 => exact H.drew
      case hfs_1 => intro p x y hb h; rcases p with _ | _ <;> exact Hp.step h hb
      case hsteps_1 =>
        refine ⟨?_, ?_, ?_, ?_, ?_, ?_, ?_, ?_, ?_, ?_, ?_, ?_, ?_, ?_, trivial⟩
        · intro p vs w' K hJ hp1 hp2 hS hR hK
          rw [if_pos (by rfl)]
          go_step
          exact hK.out _ _ (Below.refl _ _) Eq1.mk Fresh.no
        · intro p vs w' K hJ hp1 hp2 hS hR hK
          rw [if_pos (by rfl)]
          go_step
          exact hK.out _ _ (Below.refl _ _) Eq1.mk Fresh.no
        · intro p vs w' K hJ hp1 hp2 hS hR hK
          rw [if_pos (by rfl)]
          go_step
          exact hK.out _ _ (Below.refl _ _) Eq1.mk Fresh.no
        · intro p vs w' K hJ hp1 hp2 hS hR hK
          rw [if_pos (by rfl)]
          go_step
          exact hK.out _ _ (Below.refl _ _) Eq1.mk Fresh.no
        · intro p vs w' K hJ hp1 hp2 hS hR hK
          rw [if_pos (by rfl)]
          go_step
          exact hK.out _ _ (Below.refl _ _) Eq1.mk Fresh.no
        · intro p vs w' K hJ hp1 hp2 hS hR hK
          rw [if_pos (by rfl)]
          go_step
          exact hK.out _ _ (Below.refl _ _) Eq1.mk Fresh.no
        · intro p vs w' K hJ hp1 hp2 hS hR hK
          simp only [DepJ, List.getD_cons_zero, List.getD_cons_succ] at hJ
          obtain ⟨j4, j5, -⟩ := hJ
          have j4 := Eq1.out j4
          have j5 := Eq1.out j5
          simp only [j4, j5] at hK ⊢
          rw [if_pos (by rfl)]
          go_step
          exact hK.out _ _ (Below.refl _ _) Eq1.mk Fresh.no
        · intro p vs w' K hJ hp1 hp2 hS hR hK
          obtain rfl : p = 0 := by omega
          simp only [DepJ, List.getD_cons_zero, List.getD_cons_succ] at hJ
          obtain ⟨j6, -⟩ := hJ
          have j6 := Eq1.out j6
          simp only [j6] at hK ⊢
          rw [if_pos (by rfl)]
          have C := Hp.facts hS
          simp only [Facts, factsL, and_true, true_and, List.set_cons_zero, List.set_cons_succ, List.setIfInBounds_toArray] at C
          have hsz := hR.1
          have hq := cell_row_map hS 0 rfl j hl2
          go_step
          exact hK.out _ _ (Below.refl _ _) Eq1.mk Fresh.no
        · intro p vs w' K hJ hp1 hp2 hS hR hK
          rw [if_pos (by rfl)]
          go_step
          exact hK.out _ _ (Below.refl _ _) Eq1.mk Fresh.no
        · intro p vs w' K hJ hp1 hp2 hS hR hK
          rw [if_pos (by rfl)]
          go_step
          exact hK.out _ _ (Below.refl _ _) Eq1.mk Fresh.no
        · intro p vs w' K hJ hp1 hp2 hS hR hK
          simp only [DepJ, List.getD_cons_zero, List.getD_cons_succ] at hJ
          obtain ⟨j8, j9, -⟩ := hJ
          have j8 := Eq1.out j8
          have j9 := Eq1.out j9
          simp only [j8, j9] at hK ⊢
          rw [if_pos (by rfl)]
          go_step
          exact hK.out _ _ (Below.refl _ _) Eq1.mk Fresh.no
        · intro p vs w' K hJ hp1 hp2 hS hR hK
          obtain rfl : p = 0 := by omega
          simp only [DepJ, List.getD_cons_zero, List.getD_cons_succ] at hJ
          obtain ⟨j10, -⟩ := hJ
          have j10 := Eq1.out j10
          simp only [j10] at hK ⊢
          rw [if_pos (by rfl)]
          have C := Hp.facts hS
          simp only [Facts, factsL, and_true, true_and, List.set_cons_zero, List.set_cons_succ, List.setIfInBounds_toArray] at C
          have hsz := hR.1
          have hq := cell_row_map hS 0 rfl i hl1
          go_step
          exact hK.out _ _ (Below.refl _ _) Eq1.mk Fresh.no
        · intro p vs w' K hJ hp1 hp2 hS hR hK
          simp only [DepJ, List.getD_cons_zero, List.getD_cons_succ] at hJ
          obtain ⟨j0, j1, -⟩ := hJ
          have j0 := Eq1.out j0
          have j1 := Eq1.out j1
          simp only [j0, j1] at hK ⊢
          rw [if_pos (by rfl)]
          go_step
          exact hK.out _ _ (Below.refl _ _) Eq1.mk Fresh.no
        · intro vs w' K hJ hS hR hK
          simp only [DepJ, List.getD_cons_zero, List.getD_cons_succ] at hJ
          obtain ⟨j7, j12, -⟩ := hJ
          have j7 := Eq1.out j7
          have j12 := Eq1.out j12
          simp only [j7, j12] at hK ⊢
          rw [if_pos (by rfl)]
          replace hS : Hp _ _ _ := hS
          have hfr := (Hp.rowCell hS 0 rfl).2.2.1
          have hq := cell_row_map hS 0 rfl i hl1
          go_step
          exact hK.out undef _ (AboveR.set _ _ _ (Hp.rowCell H 0 rfl).1) (Hp.rowSet hS 0 rfl i _) Eq1.mk Fresh.no
      case hst_1 => refine ⟨fun _ _ _ _ h => h, fun _ _ _ _ h => h, fun _ _ _ _ h => h, fun _ _ _ _ h => h, fun _ _ _ _ h => h, fun _ _ _ _ h => h, fun _ _ _ _ h => h, fun _ _ _ _ h => h, fun _ _ _ _ h => h, fun _ _ _ _ h => h, fun _ _ _ _ h => h, fun _ _ _ _ h => h, fun _ _ _ _ h => h, fun _ _ _ _ h => h, trivial⟩
      intro vs w' hJ hD hS hR
      simp only [AllJ, Nat.reduceAdd] at hJ
      obtain ⟨v0, v1, v2, v3, v4, v5, v6, v7, v8, v9, v10, v11, v12, v13, -⟩ := hJ
      clear C
      replace v0 := Eq1.out v0
      replace v1 := Eq1.out v1
      replace v2 := Eq1.out v2
      replace v3 := Eq1.out v3
      replace v4 := Eq1.out v4
      replace v5 := Eq1.out v5
      replace v6 := Eq1.out v6
      replace v7 := Eq1.out v7
      replace v8 := Eq1.out v8
      replace v9 := Eq1.out v9
      replace v10 := Eq1.out v10
      replace v11 := Eq1.out v11
      replace v12 := Eq1.out v12
      replace v13 := Eq1.out v13
      simp only [v0, v1, v2, v3, v4, v5, v6, v7, v8, v9, v10, v11, v12, v13, List.drop_succ_cons, List.drop_zero]
      have H' : Hp _ _ _ := hS
      clear hD hR hS v0 v1 v2 v3 v4 v5 v6 v7 v8 v9 v10 v11 v12 v13
      clear vs H
      have H := H'; clear H'; have C := Hp.facts H; simp only [Facts, factsL, and_true, true_and, List.set_cons_zero, List.set_cons_succ, List.setIfInBounds_toArray] at C
      have hfr := (Hp.rowCell H 0 rfl).2.2.1
      have hq : w'.cell? ⟨g, j, none⟩ = some (.int .u8 (ys[j].toNat : Int)) := (Hp.rowCell H 0 rfl).2.2.2 j _ (by rw [List.getElem?_set_ne (by omega), List.getElem?_map, List.getElem?_eq_getElem hl2]; rfl)
      (repeat' ((fail_if_success (with_reducible show bodyPost _ _ _ _ _ _)); first | ((with_reducible refine Hp.abs_alloc H ?_); intro b' w' H' hb'; (try simp only [hb']); clear hb'; ((try simp only [List.set_cons_zero, List.set_cons_succ, List.setIfInBounds_toArray] at H'); clear C H; have H := H'; clear H'; have C := Hp.facts H; simp only [Facts, factsL, and_true, true_and, List.set_cons_zero, List.set_cons_succ, List.setIfInBounds_toArray] at C)) | ((with_reducible show wpList _ _ _ _ _ (World.setCell _ _ _)); (with_reducible apply Hp.abs_gen H); (first | ((repeat (with_reducible apply Hp.set' 0)); (with_reducible exact H); (repeat rfl); intro w' H') | ((repeat (with_reducible apply Hp.set' 1)); (with_reducible exact H); (repeat rfl); intro w' H') | ((repeat (with_reducible apply Hp.set' 2)); (with_reducible exact H); (repeat rfl); intro w' H') | ((repeat (with_reducible apply Hp.set' 3)); (with_reducible exact H); (repeat rfl); intro w' H') | ((repeat (with_reducible apply Hp.set' 4)); (with_reducible exact H); (repeat rfl); intro w' H') | ((repeat (with_reducible apply Hp.set' 5)); (with_reducible exact H); (repeat rfl); intro w' H') | ((repeat (with_reducible apply Hp.set' 6)); (with_reducible exact H); (repeat rfl); intro w' H') | ((repeat (with_reducible apply Hp.set' 7)); (with_reducible exact H); (repeat rfl); intro w' H')); ((try simp only [List.set_cons_zero, List.set_cons_succ, List.setIfInBounds_toArray] at H'); clear C H; have H := H'; clear H'; have C := Hp.facts H; simp only [Facts, factsL, and_true, true_and, List.set_cons_zero, List.set_cons_succ, List.setIfInBounds_toArray] at C)) | ((with_reducible show wpList _ _ _ _ _ (World.setCell _ _ _)); with_reducible refine Hp.abs_gen H (Hp.rowSet H 0 rfl _ _) ?_; intro w' H'; ((try simp only [List.set_cons_zero, List.set_cons_succ, List.setIfInBounds_toArray] at H'); clear C H; have H := H'; clear H'; have C := Hp.facts H; simp only [Facts, factsL, and_true, true_and, List.set_cons_zero, List.set_cons_succ, List.setIfInBounds_toArray] at C)) | go_values | go_skip | go_guarded | go_step | go_upon | go_back | (simp only [Int.not_lt, Int.not_le] at *; go_simp) | (go_values <;> (try go_simp)) | (go_ite <;> go_prune <;> (try go_simp)) | (split <;> (first | (rename_i hx; exact (hx _ rfl).elim) | go_prune))))
      refine ⟨⟨i + 1, _, by go_num, by have := gji.out; go_num, by omega, hS, ?_⟩, by simp [intOf]; omega⟩
      rw [List.map_set, List.map_set]
      exact H
    · obtain rfl := hR.out.done (by omega)
      (repeat' ((fail_if_success (with_reducible show bodyPost _ _ _ _ _ _)); first | ((with_reducible refine Hp.abs_alloc H ?_); intro b' w' H' hb'; (try simp only [hb']); clear hb'; ((try simp only [List.set_cons_zero, List.set_cons_succ, List.setIfInBounds_toArray] at H'); clear C H; have H := H'; clear H'; have C := Hp.facts H; simp only [Facts, factsL, and_true, true_and, List.set_cons_zero, List.set_cons_succ, List.setIfInBounds_toArray] at C)) | ((with_reducible show wpList _ _ _ _ _ (World.setCell _ _ _)); (with_reducible apply Hp.abs_gen H); (first | ((repeat (with_reducible apply Hp.set' 0)); (with_reducible exact H); (repeat rfl); intro w' H') | ((repeat (with_reducible apply Hp.set' 1)); (with_reducible exact H); (repeat rfl); intro w' H') | ((repeat (with_reducible apply Hp.set' 2)); (with_reducible exact H); (repeat rfl); intro w' H') | ((repeat (with_reducible apply Hp.set' 3)); (with_reducible exact H); (repeat rfl); intro w' H') | ((repeat (with_reducible apply Hp.set' 4)); (with_reducible exact H); (repeat rfl); intro w' H') | ((repeat (with_reducible apply Hp.set' 5)); (with_reducible exact H); (repeat rfl); intro w' H') | ((repeat (with_reducible apply Hp.set' 6)); (with_reducible exact H); (repeat rfl); intro w' H') | ((repeat (with_reducible apply Hp.set' 7)); (with_reducible exact H); (repeat rfl); intro w' H')); ((try simp only [List.set_cons_zero, List.set_cons_succ, List.setIfInBounds_toArray] at H'); clear C H; have H := H'; clear H'; have C := Hp.facts H; simp only [Facts, factsL, and_true, true_and, List.set_cons_zero, List.set_cons_succ, List.setIfInBounds_toArray] at C)) | go_values | go_skip | go_guarded | go_step | go_upon | go_back | (simp only [Int.not_lt, Int.not_le] at *; go_simp) | (go_values <;> (try go_simp)) | (go_ite <;> go_prune <;> (try go_simp)) | (split <;> (first | (rename_i hx; exact (hx _ rfl).elim) | go_prune))))
      go_end0
      exact ⟨⟨_, rfl⟩, H⟩
end Go.Proofs.Ytogliinfdfkobaa

