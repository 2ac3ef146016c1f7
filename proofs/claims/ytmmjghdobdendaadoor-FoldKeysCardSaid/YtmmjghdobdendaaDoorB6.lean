/- Lemmas and walks on the way to the seat's laws; each theorem says its own conditions. -/
import Derived.Test.YtmmjghdobdendaaDoorB36
import Derived.Test.YtmmjghdobdendaaDoorOPlain
set_option linter.unusedSimpArgs false
set_option linter.unusedVariables false
set_option linter.unusedSimpArgs false
set_option linter.unusedVariables false
set_option maxRecDepth 100000
namespace Go.Proofs.YtmmjghdobdendaaDoor
open Go.RowKit Go.Mem Go.Reg Oct Bit
/-- Whole numbers compared: 0 just where they are the same. -/
def SameR (l m : List Int) (w : World) (e : Ending) (w' : World) : Prop := (∃ r : Int, e = .returned (.int .i64 r) ∧ (r = 0 ↔ l = m)) ∧ Below w.heap.size w w'
theorem SameR.no {l m : List Int} {w w' : World} {r : Int} (h0 : r ≠ 0) (h : l ≠ m) (hb : Below w.heap.size w w') : SameR l m w (.returned (.int .i64 r)) w' := ⟨⟨r, rfl, ⟨fun e => absurd e h0, fun e => absurd e h⟩⟩, hb⟩
theorem ne_at {l m : List Int} {n : Nat} (h1 : n < l.length) (h2 : n < m.length) (h : l[n] ≠ m[n]) : l ≠ m := by
  intro e
  subst e
  exact h rfl
theorem ne_len {l m : List Int} (h : l.length ≠ m.length) : l ≠ m := fun e => h (by rw [e])
theorem take_on {l m : List Int} {n : Nat} (h1 : n < l.length) (h2 : n < m.length) (h : l.take n = m.take n) (e : l[n] = m[n]) : l.take (n + 1) = m.take (n + 1) := by
  rw [List.take_add_one, List.take_add_one, h, List.getElem?_eq_getElem h1, List.getElem?_eq_getElem h2, e]
set_option maxHeartbeats 4000000 in
theorem zcompare_any (l m : List Int) (v u : Value) (w : World) (hb : Zs w v l) (hd : Zs w u m) (hl : l.length ≤ 1000000) (hm : m.length ≤ 1000000) :
    Calls Tryd.prog 33 #[v, u] w (SameR l m w) := by
  obtain ⟨A, c, rfl, hlc, hcm, hA, hcell⟩ := hb.open
  obtain ⟨A2, c2, rfl, hlc2, hcm2, hA2, hcell2⟩ := hd.open
  have H := Hp.start w
  have C : True := trivial
  go_enter Tryd.func33, Tryd.ntmps33
  (repeat' ((fail_if_success (with_reducible show bodyPost _ _ _ _ _ _)); first | ((with_reducible refine Hp.abs_alloc H ?_); intro b' w' H' hb'; (try simp only [hb']); clear hb'; ((try simp only [List.set_cons_zero, List.set_cons_succ, List.setIfInBounds_toArray] at H'); clear C H; have H := H'; clear H'; have C := Hp.facts H; simp only [Facts, factsL, and_true, true_and, List.set_cons_zero, List.set_cons_succ, List.setIfInBounds_toArray] at C)) | ((with_reducible show wpList _ _ _ _ _ (World.setCell _ _ _)); (with_reducible apply Hp.abs_gen H); (first | ((repeat (with_reducible apply Hp.set' 0)); (with_reducible exact H); (repeat rfl); intro w' H') | ((repeat (with_reducible apply Hp.set' 1)); (with_reducible exact H); (repeat rfl); intro w' H') | ((repeat (with_reducible apply Hp.set' 2)); (with_reducible exact H); (repeat rfl); intro w' H') | ((repeat (with_reducible apply Hp.set' 3)); (with_reducible exact H); (repeat rfl); intro w' H') | ((repeat (with_reducible apply Hp.set' 4)); (with_reducible exact H); (repeat rfl); intro w' H') | ((repeat (with_reducible apply Hp.set' 5)); (with_reducible exact H); (repeat rfl); intro w' H') | ((repeat (with_reducible apply Hp.set' 6)); (with_reducible exact H); (repeat rfl); intro w' H') | ((repeat (with_reducible apply Hp.set' 7)); (with_reducible exact H); (repeat rfl); intro w' H')); ((try simp only [List.set_cons_zero, List.set_cons_succ, List.setIfInBounds_toArray] at H'); clear C H; have H := H'; clear H'; have C := Hp.facts H; simp only [Facts, factsL, and_true, true_and, List.set_cons_zero, List.set_cons_succ, List.setIfInBounds_toArray] at C)) | go_values | go_skip | go_guarded | go_step | go_upon | go_back | (simp only [Int.not_lt, Int.not_le] at *; go_simp) | (go_values <;> (try go_simp)) | (go_ite <;> go_prune <;> (try go_simp)) | (split <;> (first | (rename_i hx; exact (hx _ rfl).elim) | go_prune))))
  go_loopw [5] (fun ix wr => ∃ n : Nat, n ≤ l.length ∧ n ≤ m.length ∧ ix = .int .i64 n ∧ Hid (l.take n = m.take n) ∧ Hp w [] wr) (fun ix _ => l.length - (intOf ix).toNat)
  case atStart => exact ⟨0, Nat.zero_le _, Nat.zero_le _, rfl, Lib.hid rfl, H⟩
  case round =>
    clear H C
    obtain ⟨n, n1, n2, rfl, HK, H⟩ := hrel
    have C := Hp.facts H
    simp only [Facts, factsL, and_true, true_and, List.set_cons_zero, List.set_cons_succ, List.setIfInBounds_toArray] at C
    by_cases h1 : n < l.length
    · by_cases h2 : n < m.length
      · obtain ⟨b, o, rfl, hbl, hc⟩ := hcell n h1
        obtain ⟨b2, o2, rfl, hbl2, hc2⟩ := hcell2 n h2
        have hc := hc n h1
        have hc2 := hc2 n h2
        clear hcell hcell2 hA hA2
        have hcs : l[n] < m[n] ∨ m[n] < l[n] ∨ l[n] = m[n] := by omega
        rcases hcs with hcs | hcs | hcs
        · have hne := ne_at h1 h2 (by omega)
          (repeat' ((fail_if_success (with_reducible show bodyPost _ _ _ _ _ _)); first | ((with_reducible refine Hp.abs_alloc H ?_); intro b' w' H' hb'; (try simp only [hb']); clear hb'; ((try simp only [List.set_cons_zero, List.set_cons_succ, List.setIfInBounds_toArray] at H'); clear C H; have H := H'; clear H'; have C := Hp.facts H; simp only [Facts, factsL, and_true, true_and, List.set_cons_zero, List.set_cons_succ, List.setIfInBounds_toArray] at C)) | ((with_reducible show wpList _ _ _ _ _ (World.setCell _ _ _)); (with_reducible apply Hp.abs_gen H); (first | ((repeat (with_reducible apply Hp.set' 0)); (with_reducible exact H); (repeat rfl); intro w' H') | ((repeat (with_reducible apply Hp.set' 1)); (with_reducible exact H); (repeat rfl); intro w' H') | ((repeat (with_reducible apply Hp.set' 2)); (with_reducible exact H); (repeat rfl); intro w' H') | ((repeat (with_reducible apply Hp.set' 3)); (with_reducible exact H); (repeat rfl); intro w' H') | ((repeat (with_reducible apply Hp.set' 4)); (with_reducible exact H); (repeat rfl); intro w' H') | ((repeat (with_reducible apply Hp.set' 5)); (with_reducible exact H); (repeat rfl); intro w' H') | ((repeat (with_reducible apply Hp.set' 6)); (with_reducible exact H); (repeat rfl); intro w' H') | ((repeat (with_reducible apply Hp.set' 7)); (with_reducible exact H); (repeat rfl); intro w' H')); ((try simp only [List.set_cons_zero, List.set_cons_succ, List.setIfInBounds_toArray] at H'); clear C H; have H := H'; clear H'; have C := Hp.facts H; simp only [Facts, factsL, and_true, true_and, List.set_cons_zero, List.set_cons_succ, List.setIfInBounds_toArray] at C)) | go_values | go_skip | go_guarded | go_step | go_upon | go_back | (simp only [Int.not_lt, Int.not_le] at *; go_simp) | (go_values <;> (try go_simp)) | (go_ite <;> go_prune <;> (try go_simp)) | (split <;> (first | (rename_i hx; exact (hx _ rfl).elim) | go_prune))))
          try simp (disch := omega) only [decide_eq_true, decide_eq_false]
          obtain ⟨wR4, rfl⟩ := Hp.nameW H
          apply region_n (frm wR4.heap.size (fun _ => Hp _ _)) (frm_ok ?hfs_1) frm_sz [] [.light 0 0, .light 0 0, .light 0 0, .light 0 0, .light 0 0, .light 0 0, .light 0 0, .light 0 0, .light 0 0, .light 0 0, .light 0 0, .light 0 0, .light 0 0, .light 0 0, .light 0 0, .light 0 0, .light 0 0, .light 0 0, .light 0 0, .light 0 0, .light 0 0] [false, false, false, false, false, false, false, false, false, false, false, false, false, false, false, false, false, false, false, false, false] 21 54 [] [some 18, some 19, some 20, some 21, some 22, some 23, some 24, some 25, some 26, some 27, some 28, some 29, some 30, some 31, some 32, some 33, some 34, some 35, some 36, some 37, some 38] [[], [], [1], [0, 2], [3], [4], [4], [4, 6], [4, 5, 7], [4, 8], [9], [9], [9, 10, 11], [9, 12], [9], [9], [9, 14, 15], [9, 16], [9, 13, 17], [4, 9, 18], [4, 19]] [Eq1 _, Eq1 _, Eq1 _, Eq1 (.bool false), Eq1 _, Eq1 _, Eq1 _, Eq1 _, Eq1 (.bool true), Eq1 _, Eq1 _, Eq1 _, Eq1 _, Eq1 _, Eq1 _, Eq1 _, Eq1 _, Eq1 _, Eq1 (.bool true), Eq1 _, Eq1 _] ?hq1_1 ?hq2_1 ?hq3_1 ?hq4_1 ?hq5_1 ?hq6_1 _ ?hA_1 ?hst_1 ?h0_1 ?hsteps_1 ?hend_1
          case hq1_1 => kernel_rfl
          case hq2_1 => kernel_rfl
          case hq3_1 => kernel_rfl
          case hq5_1 => kernel_rfl
          case hq4_1 => rfl
          case hq6_1 => rfl
          case hA_1 => intro vs; simp only [fillD, Nat.reduceAdd, Act.put, List.setIfInBounds_toArray, List.set_cons_zero, List.set_cons_succ]; rfl
          case h0_1 => exact H.drew
          case hfs_1 => exact fun _ _ _ hb h => Hp.step h hb
          case hsteps_1 =>
            refine ⟨?_, ?_, ?_, ?_, ?_, ?_, ?_, ?_, ?_, ?_, ?_, ?_, ?_, ?_, ?_, ?_, ?_, ?_, ?_, ?_, ?_, trivial⟩
            · intro p vs w' K hJ hp1 hp2 hS hR hK
              rw [if_pos (by rfl)]
              go_step
              exact hK.out _ _ (Below.refl _ _) Eq1.mk Fresh.no
            · intro p vs w' K hJ hp1 hp2 hS hR hK
              rw [if_pos (by rfl)]
              go_step
              exact hK.out _ _ (Below.refl _ _) Eq1.mk Fresh.no
            · intro p vs w' K hJ hp1 hp2 hS hR hK
              simp only [DepJ, List.getD_cons_zero, List.getD_cons_succ] at hJ
              obtain ⟨j1, -⟩ := hJ
              have j1 := Eq1.out j1
              simp only [j1] at hK ⊢
              rw [if_pos (by rfl)]
              have C := Hp.facts hS
              simp only [Facts, factsL, and_true, true_and, List.set_cons_zero, List.set_cons_succ, List.setIfInBounds_toArray] at C
              have hsz := hR.1
              go_step
              exact hK.out _ _ (Below.refl _ _) Eq1.mk Fresh.no
            · intro p vs w' K hJ hp1 hp2 hS hR hK
              simp only [DepJ, List.getD_cons_zero, List.getD_cons_succ] at hJ
              obtain ⟨j0, j2, -⟩ := hJ
              have j0 := Eq1.out j0
              have j2 := Eq1.out j2
              simp only [j0, j2] at hK ⊢
              rw [if_pos (by rfl)]
              go_step
              exact hK.out _ _ (Below.refl _ _) (Eq1.of (by first | rfl | (simp; done) | (simp; omega))) Fresh.no
            · intro p vs w' K hJ hp1 hp2 hS hR hK
              simp only [DepJ, List.getD_cons_zero, List.getD_cons_succ] at hJ
              obtain ⟨j3, -⟩ := hJ
              have j3 := Eq1.out j3
              simp only [j3] at hK ⊢
              rw [if_pos (by rfl)]
              go_step
              exact hK.out _ _ (Below.refl _ _) Eq1.mk Fresh.no
            · intro p vs w' K hJ hp1 hp2 hS hR hK
              simp only [DepJ, List.getD_cons_zero, List.getD_cons_succ] at hJ
              obtain ⟨j4, -⟩ := hJ
              have j4 := Eq1.out j4
              simp only [j4] at hK ⊢
              rw [if_pos (by rfl)]
              go_step
              exact hK.out _ _ (Below.refl _ _) Eq1.mk Fresh.no
            · intro p vs w' K hJ hp1 hp2 hS hR hK
              simp only [DepJ, List.getD_cons_zero, List.getD_cons_succ] at hJ
              obtain ⟨j4, -⟩ := hJ
              have j4 := Eq1.out j4
              simp only [j4] at hK ⊢
              rw [if_pos (by rfl)]
              go_step
              exact hK.out _ _ (Below.refl _ _) Eq1.mk Fresh.no
            · intro p vs w' K hJ hp1 hp2 hS hR hK
              simp only [DepJ, List.getD_cons_zero, List.getD_cons_succ] at hJ
              obtain ⟨j4, j6, -⟩ := hJ
              have j4 := Eq1.out j4
              have j6 := Eq1.out j6
              simp only [j4, j6] at hK ⊢
              rw [if_pos (by rfl)]
              have C := Hp.facts hS
              simp only [Facts, factsL, and_true, true_and, List.set_cons_zero, List.set_cons_succ, List.setIfInBounds_toArray] at C
              have hsz := hR.1
              go_step
              exact hK.out _ _ (Below.refl _ _) Eq1.mk Fresh.no
            · intro p vs w' K hJ hp1 hp2 hS hR hK
              simp only [DepJ, List.getD_cons_zero, List.getD_cons_succ] at hJ
              obtain ⟨j4, j5, j7, -⟩ := hJ
              have j4 := Eq1.out j4
              have j5 := Eq1.out j5
              have j7 := Eq1.out j7
              simp only [j4, j5, j7] at hK ⊢
              rw [if_pos (by rfl)]
              go_step
              exact hK.out _ _ (Below.refl _ _) (Eq1.of (by first | rfl | (simp; done) | (simp; omega))) Fresh.no
            · intro p vs w' K hJ hp1 hp2 hS hR hK
              simp only [DepJ, List.getD_cons_zero, List.getD_cons_succ] at hJ
              obtain ⟨j4, j8, -⟩ := hJ
              have j4 := Eq1.out j4
              have j8 := Eq1.out j8
              simp only [j4, j8] at hK ⊢
              rw [if_pos (by rfl)]
              go_step
              exact hK.out _ _ (Below.refl _ _) Eq1.mk Fresh.no
            · intro p vs w' K hJ hp1 hp2 hS hR hK
              simp only [DepJ, List.getD_cons_zero, List.getD_cons_succ] at hJ
              obtain ⟨j9, -⟩ := hJ
              have j9 := Eq1.out j9
              simp only [j9] at hK ⊢
              rw [if_pos (by rfl)]
              go_step
              exact hK.out _ _ (Below.refl _ _) Eq1.mk Fresh.no
            · intro p vs w' K hJ hp1 hp2 hS hR hK
              simp only [DepJ, List.getD_cons_zero, List.getD_cons_succ] at hJ
              obtain ⟨j9, -⟩ := hJ
              have j9 := Eq1.out j9
              simp only [j9] at hK ⊢
              rw [if_pos (by rfl)]
              go_step
              exact hK.out _ _ (Below.refl _ _) Eq1.mk Fresh.no
            · intro p vs w' K hJ hp1 hp2 hS hR hK
              simp only [DepJ, List.getD_cons_zero, List.getD_cons_succ] at hJ
              obtain ⟨j9, j10, j11, -⟩ := hJ
              have j9 := Eq1.out j9
              have j10 := Eq1.out j10
              have j11 := Eq1.out j11
              simp only [j9, j10, j11] at hK ⊢
              rw [if_pos (by rfl)]
              go_step
              exact hK.out _ _ (Below.refl _ _) Eq1.mk Fresh.no
            · intro p vs w' K hJ hp1 hp2 hS hR hK
              simp only [DepJ, List.getD_cons_zero, List.getD_cons_succ] at hJ
              obtain ⟨j9, j12, -⟩ := hJ
              have j9 := Eq1.out j9
              have j12 := Eq1.out j12
              simp only [j9, j12] at hK ⊢
              rw [if_pos (by rfl)]
              have C := Hp.facts hS
              simp only [Facts, factsL, and_true, true_and, List.set_cons_zero, List.set_cons_succ, List.setIfInBounds_toArray] at C
              have hsz := hR.1
              go_step
              exact hK.out _ _ (Below.refl _ _) Eq1.mk Fresh.no
            · intro p vs w' K hJ hp1 hp2 hS hR hK
              simp only [DepJ, List.getD_cons_zero, List.getD_cons_succ] at hJ
              obtain ⟨j9, -⟩ := hJ
              have j9 := Eq1.out j9
              simp only [j9] at hK ⊢
              rw [if_pos (by rfl)]
              go_step
              exact hK.out _ _ (Below.refl _ _) Eq1.mk Fresh.no
            · intro p vs w' K hJ hp1 hp2 hS hR hK
              simp only [DepJ, List.getD_cons_zero, List.getD_cons_succ] at hJ
              obtain ⟨j9, -⟩ := hJ
              have j9 := Eq1.out j9
              simp only [j9] at hK ⊢
              rw [if_pos (by rfl)]
              go_step
              exact hK.out _ _ (Below.refl _ _) Eq1.mk Fresh.no
            · intro p vs w' K hJ hp1 hp2 hS hR hK
              simp only [DepJ, List.getD_cons_zero, List.getD_cons_succ] at hJ
              obtain ⟨j9, j14, j15, -⟩ := hJ
              have j9 := Eq1.out j9
              have j14 := Eq1.out j14
              have j15 := Eq1.out j15
              simp only [j9, j14, j15] at hK ⊢
              rw [if_pos (by rfl)]
              go_step
              exact hK.out _ _ (Below.refl _ _) Eq1.mk Fresh.no
            · intro p vs w' K hJ hp1 hp2 hS hR hK
              simp only [DepJ, List.getD_cons_zero, List.getD_cons_succ] at hJ
              obtain ⟨j9, j16, -⟩ := hJ
              have j9 := Eq1.out j9
              have j16 := Eq1.out j16
              simp only [j9, j16] at hK ⊢
              rw [if_pos (by rfl)]
              have C := Hp.facts hS
              simp only [Facts, factsL, and_true, true_and, List.set_cons_zero, List.set_cons_succ, List.setIfInBounds_toArray] at C
              have hsz := hR.1
              go_step
              exact hK.out _ _ (Below.refl _ _) Eq1.mk Fresh.no
            · intro p vs w' K hJ hp1 hp2 hS hR hK
              simp only [DepJ, List.getD_cons_zero, List.getD_cons_succ] at hJ
              obtain ⟨j9, j13, j17, -⟩ := hJ
              have j9 := Eq1.out j9
              have j13 := Eq1.out j13
              have j17 := Eq1.out j17
              simp only [j9, j13, j17] at hK ⊢
              rw [if_pos (by rfl)]
              go_step
              exact hK.out _ _ (Below.refl _ _) (Eq1.of (by first | (simp; done) | (simp; omega))) Fresh.no
            · intro p vs w' K hJ hp1 hp2 hS hR hK
              simp only [DepJ, List.getD_cons_zero, List.getD_cons_succ] at hJ
              obtain ⟨j4, j9, j18, -⟩ := hJ
              have j4 := Eq1.out j4
              have j9 := Eq1.out j9
              have j18 := Eq1.out j18
              simp only [j4, j9, j18] at hK ⊢
              rw [if_pos (by rfl)]
              go_step
              exact hK.out _ _ (Below.refl _ _) Eq1.mk Fresh.no
            · intro p vs w' K hJ hp1 hp2 hS hR hK
              simp only [DepJ, List.getD_cons_zero, List.getD_cons_succ] at hJ
              obtain ⟨j4, j19, -⟩ := hJ
              have j4 := Eq1.out j4
              have j19 := Eq1.out j19
              simp only [j4, j19] at hK ⊢
              rw [if_pos (by rfl)]
              go_step
              exact hK.out _ _ (Below.refl _ _) Eq1.mk Fresh.no
          case hst_1 => refine ⟨fun _ _ _ _ h => h, fun _ _ _ _ h => h, fun _ _ _ _ h => h, fun _ _ _ _ h => h, fun _ _ _ _ h => h, fun _ _ _ _ h => h, fun _ _ _ _ h => h, fun _ _ _ _ h => h, fun _ _ _ _ h => h, fun _ _ _ _ h => h, fun _ _ _ _ h => h, fun _ _ _ _ h => h, fun _ _ _ _ h => h, fun _ _ _ _ h => h, fun _ _ _ _ h => h, fun _ _ _ _ h => h, fun _ _ _ _ h => h, fun _ _ _ _ h => h, fun _ _ _ _ h => h, fun _ _ _ _ h => h, fun _ _ _ _ h => h, trivial⟩
          intro vs w' hJ hD hS hR
          simp only [AllJ, Nat.reduceAdd] at hJ
          obtain ⟨v0, v1, v2, v3, v4, v5, v6, v7, v8, v9, v10, v11, v12, v13, v14, v15, v16, v17, v18, v19, v20, -⟩ := hJ
          clear C
          replace v0 := Eq1.out v0
          replace v1 := Eq1.out v1
          replace v2 := Eq1.out v2
          replace v3 := Eq1.out v3
          replace v4 := Eq1.out v4
          replace v5 := Eq1.out v5
          replace v6 := Eq1.out v6
          replace v7 := Eq1.out v7
          replace v8 := Eq1.out v8
          replace v9 := Eq1.out v9
          replace v10 := Eq1.out v10
          replace v11 := Eq1.out v11
          replace v12 := Eq1.out v12
          replace v13 := Eq1.out v13
          replace v14 := Eq1.out v14
          replace v15 := Eq1.out v15
          replace v16 := Eq1.out v16
          replace v17 := Eq1.out v17
          replace v18 := Eq1.out v18
          replace v19 := Eq1.out v19
          replace v20 := Eq1.out v20
          simp only [v0, v1, v2, v3, v4, v5, v6, v7, v8, v9, v10, v11, v12, v13, v14, v15, v16, v17, v18, v19, v20, List.drop_succ_cons, List.drop_zero]
          refine wpList_nil' ?_
          have H' : Hp _ _ _ := hS
          clear hD hR hS v0 v1 v2 v3 v4 v5 v6 v7 v8 v9 v10 v11 v12 v13 v14 v15 v16 v17 v18 v19 v20
          clear vs H
          have H := H'; clear H'; have C := Hp.facts H; simp only [Facts, factsL, and_true, true_and, List.set_cons_zero, List.set_cons_succ, List.setIfInBounds_toArray] at C
          (repeat' ((fail_if_success (with_reducible show bodyPost _ _ _ _ _ _)); first | ((with_reducible refine Hp.abs_alloc H ?_); intro b' w' H' hb'; (try simp only [hb']); clear hb'; ((try simp only [List.set_cons_zero, List.set_cons_succ, List.setIfInBounds_toArray] at H'); clear C H; have H := H'; clear H'; have C := Hp.facts H; simp only [Facts, factsL, and_true, true_and, List.set_cons_zero, List.set_cons_succ, List.setIfInBounds_toArray] at C)) | ((with_reducible show wpList _ _ _ _ _ (World.setCell _ _ _)); (with_reducible apply Hp.abs_gen H); (first | ((repeat (with_reducible apply Hp.set' 0)); (with_reducible exact H); (repeat rfl); intro w' H') | ((repeat (with_reducible apply Hp.set' 1)); (with_reducible exact H); (repeat rfl); intro w' H') | ((repeat (with_reducible apply Hp.set' 2)); (with_reducible exact H); (repeat rfl); intro w' H') | ((repeat (with_reducible apply Hp.set' 3)); (with_reducible exact H); (repeat rfl); intro w' H') | ((repeat (with_reducible apply Hp.set' 4)); (with_reducible exact H); (repeat rfl); intro w' H') | ((repeat (with_reducible apply Hp.set' 5)); (with_reducible exact H); (repeat rfl); intro w' H') | ((repeat (with_reducible apply Hp.set' 6)); (with_reducible exact H); (repeat rfl); intro w' H') | ((repeat (with_reducible apply Hp.set' 7)); (with_reducible exact H); (repeat rfl); intro w' H')); ((try simp only [List.set_cons_zero, List.set_cons_succ, List.setIfInBounds_toArray] at H'); clear C H; have H := H'; clear H'; have C := Hp.facts H; simp only [Facts, factsL, and_true, true_and, List.set_cons_zero, List.set_cons_succ, List.setIfInBounds_toArray] at C)) | go_values | go_skip | go_guarded | go_step | go_upon | go_back | (simp only [Int.not_lt, Int.not_le] at *; go_simp) | (go_values <;> (try go_simp)) | (go_ite <;> go_prune <;> (try go_simp)) | (split <;> (first | (rename_i hx; exact (hx _ rfl).elim) | go_prune))))
          go_ret
          exact SameR.no (by decide) hne H.low
        · have hne := ne_at h1 h2 (by omega)
          (repeat' ((fail_if_success (with_reducible show bodyPost _ _ _ _ _ _)); first | ((with_reducible refine Hp.abs_alloc H ?_); intro b' w' H' hb'; (try simp only [hb']); clear hb'; ((try simp only [List.set_cons_zero, List.set_cons_succ, List.setIfInBounds_toArray] at H'); clear C H; have H := H'; clear H'; have C := Hp.facts H; simp only [Facts, factsL, and_true, true_and, List.set_cons_zero, List.set_cons_succ, List.setIfInBounds_toArray] at C)) | ((with_reducible show wpList _ _ _ _ _ (World.setCell _ _ _)); (with_reducible apply Hp.abs_gen H); (first | ((repeat (with_reducible apply Hp.set' 0)); (with_reducible exact H); (repeat rfl); intro w' H') | ((repeat (with_reducible apply Hp.set' 1)); (with_reducible exact H); (repeat rfl); intro w' H') | ((repeat (with_reducible apply Hp.set' 2)); (with_reducible exact H); (repeat rfl); intro w' H') | ((repeat (with_reducible apply Hp.set' 3)); (with_reducible exact H); (repeat rfl); intro w' H') | ((repeat (with_reducible apply Hp.set' 4)); (with_reducible exact H); (repeat rfl); intro w' H') | ((repeat (with_reducible apply Hp.set' 5)); (with_reducible exact H); (repeat rfl); intro w' H') | ((repeat (with_reducible apply Hp.set' 6)); (with_reducible exact H); (repeat rfl); intro w' H') | ((repeat (with_reducible apply Hp.set' 7)); (with_reducible exact H); (repeat rfl); intro w' H')); ((try simp only [List.set_cons_zero, List.set_cons_succ, List.setIfInBounds_toArray] at H'); clear C H; have H := H'; clear H'; have C := Hp.facts H; simp only [Facts, factsL, and_true, true_and, List.set_cons_zero, List.set_cons_succ, List.setIfInBounds_toArray] at C)) | go_values | go_skip | go_guarded | go_step | go_upon | go_back | (simp only [Int.not_lt, Int.not_le] at *; go_simp) | (go_values <;> (try go_simp)) | (go_ite <;> go_prune <;> (try go_simp)) | (split <;> (first | (rename_i hx; exact (hx _ rfl).elim) | go_prune))))
          try simp (disch := omega) only [decide_eq_true, decide_eq_false]
          obtain ⟨wR4, rfl⟩ := Hp.nameW H
          apply region_n (frm wR4.heap.size (fun _ => Hp _ _)) (frm_ok ?hfs_2) frm_sz [] [.light 0 0, .light 0 0, .light 0 0, .light 0 0, .light 0 0, .light 0 0, .light 0 0, .light 0 0, .light 0 0, .light 0 0, .light 0 0, .light 0 0, .light 0 0, .light 0 0, .light 0 0, .light 0 0, .light 0 0, .light 0 0, .light 0 0, .light 0 0, .light 0 0] [false, false, false, false, false, false, false, false, false, false, false, false, false, false, false, false, false, false, false, false, false] 21 54 [] [some 18, some 19, some 20, some 21, some 22, some 23, some 24, some 25, some 26, some 27, some 28, some 29, some 30, some 31, some 32, some 33, some 34, some 35, some 36, some 37, some 38] [[], [], [1], [0, 2], [3], [4], [4], [4, 6], [4, 5, 7], [4, 8], [9], [9], [9, 10, 11], [9, 12], [9], [9], [9, 14, 15], [9, 16], [9, 13, 17], [4, 9, 18], [4, 19]] [Eq1 _, Eq1 _, Eq1 _, Eq1 (.bool false), Eq1 _, Eq1 _, Eq1 _, Eq1 _, Eq1 (.bool true), Eq1 _, Eq1 _, Eq1 _, Eq1 _, Eq1 _, Eq1 _, Eq1 _, Eq1 _, Eq1 _, Eq1 (.bool false), Eq1 _, Eq1 _] ?hq1_2 ?hq2_2 ?hq3_2 ?hq4_2 ?hq5_2 ?hq6_2 _ ?hA_2 ?hst_2 ?h0_2 ?hsteps_2 ?hend_2
          case hq1_2 => kernel_rfl
          case hq2_2 => kernel_rfl
          case hq3_2 => kernel_rfl
          case hq5_2 => kernel_rfl
          case hq4_2 => rfl
          case hq6_2 => rfl
          case hA_2 => intro vs; simp only [fillD, Nat.reduceAdd, Act.put, List.setIfInBounds_toArray, List.set_cons_zero, List.set_cons_succ]; rfl
          case h0_2 => exact H.drew
          case hfs_2 => exact fun _ _ _ hb h => Hp.step h hb
          case hsteps_2 =>
            refine ⟨?_, ?_, ?_, ?_, ?_, ?_, ?_, ?_, ?_, ?_, ?_, ?_, ?_, ?_, ?_, ?_, ?_, ?_, ?_, ?_, ?_, trivial⟩
            · intro p vs w' K hJ hp1 hp2 hS hR hK
              rw [if_pos (by rfl)]
              go_step
              exact hK.out _ _ (Below.refl _ _) Eq1.mk Fresh.no
            · intro p vs w' K hJ hp1 hp2 hS hR hK
              rw [if_pos (by rfl)]
              go_step
              exact hK.out _ _ (Below.refl _ _) Eq1.mk Fresh.no
            · intro p vs w' K hJ hp1 hp2 hS hR hK
              simp only [DepJ, List.getD_cons_zero, List.getD_cons_succ] at hJ
              obtain ⟨j1, -⟩ := hJ
              have j1 := Eq1.out j1
              simp only [j1] at hK ⊢
              rw [if_pos (by rfl)]
              have C := Hp.facts hS
              simp only [Facts, factsL, and_true, true_and, List.set_cons_zero, List.set_cons_succ, List.setIfInBounds_toArray] at C
              have hsz := hR.1
              go_step
              exact hK.out _ _ (Below.refl _ _) Eq1.mk Fresh.no
            · intro p vs w' K hJ hp1 hp2 hS hR hK
              simp only [DepJ, List.getD_cons_zero, List.getD_cons_succ] at hJ
              obtain ⟨j0, j2, -⟩ := hJ
              have j0 := Eq1.out j0
              have j2 := Eq1.out j2
              simp only [j0, j2] at hK ⊢
              rw [if_pos (by rfl)]
              go_step
              exact hK.out _ _ (Below.refl _ _) (Eq1.of (by first | rfl | (simp; done) | (simp; omega))) Fresh.no
            · intro p vs w' K hJ hp1 hp2 hS hR hK
              simp only [DepJ, List.getD_cons_zero, List.getD_cons_succ] at hJ
              obtain ⟨j3, -⟩ := hJ
              have j3 := Eq1.out j3
              simp only [j3] at hK ⊢
              rw [if_pos (by rfl)]
              go_step
              exact hK.out _ _ (Below.refl _ _) Eq1.mk Fresh.no
            · intro p vs w' K hJ hp1 hp2 hS hR hK
              simp only [DepJ, List.getD_cons_zero, List.getD_cons_succ] at hJ
              obtain ⟨j4, -⟩ := hJ
              have j4 := Eq1.out j4
              simp only [j4] at hK ⊢
              rw [if_pos (by rfl)]
              go_step
              exact hK.out _ _ (Below.refl _ _) Eq1.mk Fresh.no
            · intro p vs w' K hJ hp1 hp2 hS hR hK
              simp only [DepJ, List.getD_cons_zero, List.getD_cons_succ] at hJ
              obtain ⟨j4, -⟩ := hJ
              have j4 := Eq1.out j4
              simp only [j4] at hK ⊢
              rw [if_pos (by rfl)]
              go_step
              exact hK.out _ _ (Below.refl _ _) Eq1.mk Fresh.no
            · intro p vs w' K hJ hp1 hp2 hS hR hK
              simp only [DepJ, List.getD_cons_zero, List.getD_cons_succ] at hJ
              obtain ⟨j4, j6, -⟩ := hJ
              have j4 := Eq1.out j4
              have j6 := Eq1.out j6
              simp only [j4, j6] at hK ⊢
              rw [if_pos (by rfl)]
              have C := Hp.facts hS
              simp only [Facts, factsL, and_true, true_and, List.set_cons_zero, List.set_cons_succ, List.setIfInBounds_toArray] at C
              have hsz := hR.1
              go_step
              exact hK.out _ _ (Below.refl _ _) Eq1.mk Fresh.no
            · intro p vs w' K hJ hp1 hp2 hS hR hK
              simp only [DepJ, List.getD_cons_zero, List.getD_cons_succ] at hJ
              obtain ⟨j4, j5, j7, -⟩ := hJ
              have j4 := Eq1.out j4
              have j5 := Eq1.out j5
              have j7 := Eq1.out j7
              simp only [j4, j5, j7] at hK ⊢
              rw [if_pos (by rfl)]
              go_step
              exact hK.out _ _ (Below.refl _ _) (Eq1.of (by first | rfl | (simp; done) | (simp; omega))) Fresh.no
            · intro p vs w' K hJ hp1 hp2 hS hR hK
              simp only [DepJ, List.getD_cons_zero, List.getD_cons_succ] at hJ
              obtain ⟨j4, j8, -⟩ := hJ
              have j4 := Eq1.out j4
              have j8 := Eq1.out j8
              simp only [j4, j8] at hK ⊢
              rw [if_pos (by rfl)]
              go_step
              exact hK.out _ _ (Below.refl _ _) Eq1.mk Fresh.no
            · intro p vs w' K hJ hp1 hp2 hS hR hK
              simp only [DepJ, List.getD_cons_zero, List.getD_cons_succ] at hJ
              obtain ⟨j9, -⟩ := hJ
              have j9 := Eq1.out j9
              simp only [j9] at hK ⊢
              rw [if_pos (by rfl)]
              go_step
              exact hK.out _ _ (Below.refl _ _) Eq1.mk Fresh.no
            · intro p vs w' K hJ hp1 hp2 hS hR hK
              simp only [DepJ, List.getD_cons_zero, List.getD_cons_succ] at hJ
              obtain ⟨j9, -⟩ := hJ
              have j9 := Eq1.out j9
              simp only [j9] at hK ⊢
              rw [if_pos (by rfl)]
              go_step
              exact hK.out _ _ (Below.refl _ _) Eq1.mk Fresh.no
            · intro p vs w' K hJ hp1 hp2 hS hR hK
              simp only [DepJ, List.getD_cons_zero, List.getD_cons_succ] at hJ
              obtain ⟨j9, j10, j11, -⟩ := hJ
              have j9 := Eq1.out j9
              have j10 := Eq1.out j10
              have j11 := Eq1.out j11
              simp only [j9, j10, j11] at hK ⊢
              rw [if_pos (by rfl)]
              go_step
              exact hK.out _ _ (Below.refl _ _) Eq1.mk Fresh.no
            · intro p vs w' K hJ hp1 hp2 hS hR hK
              simp only [DepJ, List.getD_cons_zero, List.getD_cons_succ] at hJ
              obtain ⟨j9, j12, -⟩ := hJ
              have j9 := Eq1.out j9
              have j12 := Eq1.out j12
              simp only [j9, j12] at hK ⊢
              rw [if_pos (by rfl)]
              have C := Hp.facts hS
              simp only [Facts, factsL, and_true, true_and, List.set_cons_zero, List.set_cons_succ, List.setIfInBounds_toArray] at C
              have hsz := hR.1
              go_step
              exact hK.out _ _ (Below.refl _ _) Eq1.mk Fresh.no
            · intro p vs w' K hJ hp1 hp2 hS hR hK
              simp only [DepJ, List.getD_cons_zero, List.getD_cons_succ] at hJ
              obtain ⟨j9, -⟩ := hJ
              have j9 := Eq1.out j9
              simp only [j9] at hK ⊢
              rw [if_pos (by rfl)]
              go_step
              exact hK.out _ _ (Below.refl _ _) Eq1.mk Fresh.no
            · intro p vs w' K hJ hp1 hp2 hS hR hK
              simp only [DepJ, List.getD_cons_zero, List.getD_cons_succ] at hJ
              obtain ⟨j9, -⟩ := hJ
              have j9 := Eq1.out j9
              simp only [j9] at hK ⊢
              rw [if_pos (by rfl)]
              go_step
              exact hK.out _ _ (Below.refl _ _) Eq1.mk Fresh.no
            · intro p vs w' K hJ hp1 hp2 hS hR hK
              simp only [DepJ, List.getD_cons_zero, List.getD_cons_succ] at hJ
              obtain ⟨j9, j14, j15, -⟩ := hJ
              have j9 := Eq1.out j9
              have j14 := Eq1.out j14
              have j15 := Eq1.out j15
              simp only [j9, j14, j15] at hK ⊢
              rw [if_pos (by rfl)]
              go_step
              exact hK.out _ _ (Below.refl _ _) Eq1.mk Fresh.no
            · intro p vs w' K hJ hp1 hp2 hS hR hK
              simp only [DepJ, List.getD_cons_zero, List.getD_cons_succ] at hJ
              obtain ⟨j9, j16, -⟩ := hJ
              have j9 := Eq1.out j9
              have j16 := Eq1.out j16
              simp only [j9, j16] at hK ⊢
              rw [if_pos (by rfl)]
              have C := Hp.facts hS
              simp only [Facts, factsL, and_true, true_and, List.set_cons_zero, List.set_cons_succ, List.setIfInBounds_toArray] at C
              have hsz := hR.1
              go_step
              exact hK.out _ _ (Below.refl _ _) Eq1.mk Fresh.no
            · intro p vs w' K hJ hp1 hp2 hS hR hK
              simp only [DepJ, List.getD_cons_zero, List.getD_cons_succ] at hJ
              obtain ⟨j9, j13, j17, -⟩ := hJ
              have j9 := Eq1.out j9
              have j13 := Eq1.out j13
              have j17 := Eq1.out j17
              simp only [j9, j13, j17] at hK ⊢
              rw [if_pos (by rfl)]
              go_step
              exact hK.out _ _ (Below.refl _ _) (Eq1.of (by first | (simp; done) | (simp; omega))) Fresh.no
            · intro p vs w' K hJ hp1 hp2 hS hR hK
              simp only [DepJ, List.getD_cons_zero, List.getD_cons_succ] at hJ
              obtain ⟨j4, j9, j18, -⟩ := hJ
              have j4 := Eq1.out j4
              have j9 := Eq1.out j9
              have j18 := Eq1.out j18
              simp only [j4, j9, j18] at hK ⊢
              rw [if_pos (by rfl)]
              go_step
              exact hK.out _ _ (Below.refl _ _) Eq1.mk Fresh.no
            · intro p vs w' K hJ hp1 hp2 hS hR hK
              simp only [DepJ, List.getD_cons_zero, List.getD_cons_succ] at hJ
              obtain ⟨j4, j19, -⟩ := hJ
              have j4 := Eq1.out j4
              have j19 := Eq1.out j19
              simp only [j4, j19] at hK ⊢
              rw [if_pos (by rfl)]
              go_step
              exact hK.out _ _ (Below.refl _ _) Eq1.mk Fresh.no
          case hst_2 => refine ⟨fun _ _ _ _ h => h, fun _ _ _ _ h => h, fun _ _ _ _ h => h, fun _ _ _ _ h => h, fun _ _ _ _ h => h, fun _ _ _ _ h => h, fun _ _ _ _ h => h, fun _ _ _ _ h => h, fun _ _ _ _ h => h, fun _ _ _ _ h => h, fun _ _ _ _ h => h, fun _ _ _ _ h => h, fun _ _ _ _ h => h, fun _ _ _ _ h => h, fun _ _ _ _ h => h, fun _ _ _ _ h => h, fun _ _ _ _ h => h, fun _ _ _ _ h => h, fun _ _ _ _ h => h, fun _ _ _ _ h => h, fun _ _ _ _ h => h, trivial⟩
          intro vs w' hJ hD hS hR
          simp only [AllJ, Nat.reduceAdd] at hJ
          obtain ⟨v0, v1, v2, v3, v4, v5, v6, v7, v8, v9, v10, v11, v12, v13, v14, v15, v16, v17, v18, v19, v20, -⟩ := hJ
          clear C
          replace v0 := Eq1.out v0
          replace v1 := Eq1.out v1
          replace v2 := Eq1.out v2
          replace v3 := Eq1.out v3
          replace v4 := Eq1.out v4
          replace v5 := Eq1.out v5
          replace v6 := Eq1.out v6
          replace v7 := Eq1.out v7
          replace v8 := Eq1.out v8
          replace v9 := Eq1.out v9
          replace v10 := Eq1.out v10
          replace v11 := Eq1.out v11
          replace v12 := Eq1.out v12
          replace v13 := Eq1.out v13
          replace v14 := Eq1.out v14
          replace v15 := Eq1.out v15
          replace v16 := Eq1.out v16
          replace v17 := Eq1.out v17
          replace v18 := Eq1.out v18
          replace v19 := Eq1.out v19
          replace v20 := Eq1.out v20
          simp only [v0, v1, v2, v3, v4, v5, v6, v7, v8, v9, v10, v11, v12, v13, v14, v15, v16, v17, v18, v19, v20, List.drop_succ_cons, List.drop_zero]
          refine wpList_nil' ?_
          have H' : Hp _ _ _ := hS
          clear hD hR hS v0 v1 v2 v3 v4 v5 v6 v7 v8 v9 v10 v11 v12 v13 v14 v15 v16 v17 v18 v19 v20
          clear vs H
          have H := H'; clear H'; have C := Hp.facts H; simp only [Facts, factsL, and_true, true_and, List.set_cons_zero, List.set_cons_succ, List.setIfInBounds_toArray] at C
          (repeat' ((fail_if_success (with_reducible show bodyPost _ _ _ _ _ _)); first | ((with_reducible refine Hp.abs_alloc H ?_); intro b' w' H' hb'; (try simp only [hb']); clear hb'; ((try simp only [List.set_cons_zero, List.set_cons_succ, List.setIfInBounds_toArray] at H'); clear C H; have H := H'; clear H'; have C := Hp.facts H; simp only [Facts, factsL, and_true, true_and, List.set_cons_zero, List.set_cons_succ, List.setIfInBounds_toArray] at C)) | ((with_reducible show wpList _ _ _ _ _ (World.setCell _ _ _)); (with_reducible apply Hp.abs_gen H); (first | ((repeat (with_reducible apply Hp.set' 0)); (with_reducible exact H); (repeat rfl); intro w' H') | ((repeat (with_reducible apply Hp.set' 1)); (with_reducible exact H); (repeat rfl); intro w' H') | ((repeat (with_reducible apply Hp.set' 2)); (with_reducible exact H); (repeat rfl); intro w' H') | ((repeat (with_reducible apply Hp.set' 3)); (with_reducible exact H); (repeat rfl); intro w' H') | ((repeat (with_reducible apply Hp.set' 4)); (with_reducible exact H); (repeat rfl); intro w' H') | ((repeat (with_reducible apply Hp.set' 5)); (with_reducible exact H); (repeat rfl); intro w' H') | ((repeat (with_reducible apply Hp.set' 6)); (with_reducible exact H); (repeat rfl); intro w' H') | ((repeat (with_reducible apply Hp.set' 7)); (with_reducible exact H); (repeat rfl); intro w' H')); ((try simp only [List.set_cons_zero, List.set_cons_succ, List.setIfInBounds_toArray] at H'); clear C H; have H := H'; clear H'; have C := Hp.facts H; simp only [Facts, factsL, and_true, true_and, List.set_cons_zero, List.set_cons_succ, List.setIfInBounds_toArray] at C)) | go_values | go_skip | go_guarded | go_step | go_upon | go_back | (simp only [Int.not_lt, Int.not_le] at *; go_simp) | (go_values <;> (try go_simp)) | (go_ite <;> go_prune <;> (try go_simp)) | (split <;> (first | (rename_i hx; exact (hx _ rfl).elim) | go_prune))))
          try simp (disch := omega) only [decide_eq_true, decide_eq_false]
          obtain ⟨wR6, rfl⟩ := Hp.nameW H
          apply region_n (frm wR6.heap.size (fun _ => Hp _ _)) (frm_ok ?hfs_3) frm_sz [] [.light 0 0, .light 0 0, .light 0 0, .light 0 0, .light 0 0, .light 0 0, .light 0 0, .light 0 0, .light 0 0, .light 0 0, .light 0 0, .light 0 0, .light 0 0, .light 0 0, .light 0 0] [false, false, false, false, false, false, false, false, false, false, false, false, false, false, false] 15 54 [] [some 39, some 40, some 41, some 42, some 43, some 44, some 45, some 46, some 47, some 48, some 49, some 50, some 51, some 52, some 53] [[], [], [1], [0, 2], [3], [4], [4], [4, 5, 6], [4, 7], [4], [4], [4, 9, 10], [4, 11], [4, 8, 12], [4, 13]] [Eq1 _, Eq1 _, Eq1 _, Eq1 (.bool false), Eq1 _, Eq1 _, Eq1 _, Eq1 _, Eq1 _, Eq1 _, Eq1 _, Eq1 _, Eq1 _, Eq1 (.bool true), Eq1 _] ?hq1_3 ?hq2_3 ?hq3_3 ?hq4_3 ?hq5_3 ?hq6_3 _ ?hA_3 ?hst_3 ?h0_3 ?hsteps_3 ?hend_3
          case hq1_3 => kernel_rfl
          case hq2_3 => kernel_rfl
          case hq3_3 => kernel_rfl
          case hq5_3 => kernel_rfl
          case hq4_3 => rfl
          case hq6_3 => rfl
          case hA_3 => intro vs; simp only [fillD, Nat.reduceAdd, Act.put, List.setIfInBounds_toArray, List.set_cons_zero, List.set_cons_succ]; rfl
          case h0_3 => exact H.drew
          case hfs_3 => exact fun _ _ _ hb h => Hp.step h hb
          case hsteps_3 =>
            refine ⟨?_, ?_, ?_, ?_, ?_, ?_, ?_, ?_, ?_, ?_, ?_, ?_, ?_, ?_, ?_, trivial⟩
            · intro p vs w' K hJ hp1 hp2 hS hR hK
              rw [if_pos (by rfl)]
              go_step
              exact hK.out _ _ (Below.refl _ _) Eq1.mk Fresh.no
            · intro p vs w' K hJ hp1 hp2 hS hR hK
              rw [if_pos (by rfl)]
              go_step
              exact hK.out _ _ (Below.refl _ _) Eq1.mk Fresh.no
            · intro p vs w' K hJ hp1 hp2 hS hR hK
              simp only [DepJ, List.getD_cons_zero, List.getD_cons_succ] at hJ
              obtain ⟨j1, -⟩ := hJ
              have j1 := Eq1.out j1
              simp only [j1] at hK ⊢
              rw [if_pos (by rfl)]
              have C := Hp.facts hS
              simp only [Facts, factsL, and_true, true_and, List.set_cons_zero, List.set_cons_succ, List.setIfInBounds_toArray] at C
              have hsz := hR.1
              go_step
              exact hK.out _ _ (Below.refl _ _) Eq1.mk Fresh.no
            · intro p vs w' K hJ hp1 hp2 hS hR hK
              simp only [DepJ, List.getD_cons_zero, List.getD_cons_succ] at hJ
              obtain ⟨j0, j2, -⟩ := hJ
              have j0 := Eq1.out j0
              have j2 := Eq1.out j2
              simp only [j0, j2] at hK ⊢
              rw [if_pos (by rfl)]
              go_step
              exact hK.out _ _ (Below.refl _ _) (Eq1.of (by first | rfl | (simp; done) | (simp; omega))) Fresh.no
            · intro p vs w' K hJ hp1 hp2 hS hR hK
              simp only [DepJ, List.getD_cons_zero, List.getD_cons_succ] at hJ
              obtain ⟨j3, -⟩ := hJ
              have j3 := Eq1.out j3
              simp only [j3] at hK ⊢
              rw [if_pos (by rfl)]
              go_step
              exact hK.out _ _ (Below.refl _ _) Eq1.mk Fresh.no
            · intro p vs w' K hJ hp1 hp2 hS hR hK
              simp only [DepJ, List.getD_cons_zero, List.getD_cons_succ] at hJ
              obtain ⟨j4, -⟩ := hJ
              have j4 := Eq1.out j4
              simp only [j4] at hK ⊢
              rw [if_pos (by rfl)]
              go_step
              exact hK.out _ _ (Below.refl _ _) Eq1.mk Fresh.no
            · intro p vs w' K hJ hp1 hp2 hS hR hK
              simp only [DepJ, List.getD_cons_zero, List.getD_cons_succ] at hJ
              obtain ⟨j4, -⟩ := hJ
              have j4 := Eq1.out j4
              simp only [j4] at hK ⊢
              rw [if_pos (by rfl)]
              go_step
              exact hK.out _ _ (Below.refl _ _) Eq1.mk Fresh.no
            · intro p vs w' K hJ hp1 hp2 hS hR hK
              simp only [DepJ, List.getD_cons_zero, List.getD_cons_succ] at hJ
              obtain ⟨j4, j5, j6, -⟩ := hJ
              have j4 := Eq1.out j4
              have j5 := Eq1.out j5
              have j6 := Eq1.out j6
              simp only [j4, j5, j6] at hK ⊢
              rw [if_pos (by rfl)]
              go_step
              exact hK.out _ _ (Below.refl _ _) Eq1.mk Fresh.no
            · intro p vs w' K hJ hp1 hp2 hS hR hK
              simp only [DepJ, List.getD_cons_zero, List.getD_cons_succ] at hJ
              obtain ⟨j4, j7, -⟩ := hJ
              have j4 := Eq1.out j4
              have j7 := Eq1.out j7
              simp only [j4, j7] at hK ⊢
              rw [if_pos (by rfl)]
              have C := Hp.facts hS
              simp only [Facts, factsL, and_true, true_and, List.set_cons_zero, List.set_cons_succ, List.setIfInBounds_toArray] at C
              have hsz := hR.1
              go_step
              exact hK.out _ _ (Below.refl _ _) Eq1.mk Fresh.no
            · intro p vs w' K hJ hp1 hp2 hS hR hK
              simp only [DepJ, List.getD_cons_zero, List.getD_cons_succ] at hJ
              obtain ⟨j4, -⟩ := hJ
              have j4 := Eq1.out j4
              simp only [j4] at hK ⊢
              rw [if_pos (by rfl)]
              go_step
              exact hK.out _ _ (Below.refl _ _) Eq1.mk Fresh.no
            · intro p vs w' K hJ hp1 hp2 hS hR hK
              simp only [DepJ, List.getD_cons_zero, List.getD_cons_succ] at hJ
              obtain ⟨j4, -⟩ := hJ
              have j4 := Eq1.out j4
              simp only [j4] at hK ⊢
              rw [if_pos (by rfl)]
              go_step
              exact hK.out _ _ (Below.refl _ _) Eq1.mk Fresh.no
            · intro p vs w' K hJ hp1 hp2 hS hR hK
              simp only [DepJ, List.getD_cons_zero, List.getD_cons_succ] at hJ
              obtain ⟨j4, j9, j10, -⟩ := hJ
              have j4 := Eq1.out j4
              have j9 := Eq1.out j9
              have j10 := Eq1.out j10
              simp only [j4, j9, j10] at hK ⊢
              rw [if_pos (by rfl)]
              go_step
              exact hK.out _ _ (Below.refl _ _) Eq1.mk Fresh.no
            · intro p vs w' K hJ hp1 hp2 hS hR hK
              simp only [DepJ, List.getD_cons_zero, List.getD_cons_succ] at hJ
              obtain ⟨j4, j11, -⟩ := hJ
              have j4 := Eq1.out j4
              have j11 := Eq1.out j11
              simp only [j4, j11] at hK ⊢
              rw [if_pos (by rfl)]
              have C := Hp.facts hS
              simp only [Facts, factsL, and_true, true_and, List.set_cons_zero, List.set_cons_succ, List.setIfInBounds_toArray] at C
              have hsz := hR.1
              go_step
              exact hK.out _ _ (Below.refl _ _) Eq1.mk Fresh.no
            · intro p vs w' K hJ hp1 hp2 hS hR hK
              simp only [DepJ, List.getD_cons_zero, List.getD_cons_succ] at hJ
              obtain ⟨j4, j8, j12, -⟩ := hJ
              have j4 := Eq1.out j4
              have j8 := Eq1.out j8
              have j12 := Eq1.out j12
              simp only [j4, j8, j12] at hK ⊢
              rw [if_pos (by rfl)]
              go_step
              exact hK.out _ _ (Below.refl _ _) (Eq1.of (by first | (simp; done) | (simp; omega))) Fresh.no
            · intro p vs w' K hJ hp1 hp2 hS hR hK
              simp only [DepJ, List.getD_cons_zero, List.getD_cons_succ] at hJ
              obtain ⟨j4, j13, -⟩ := hJ
              have j4 := Eq1.out j4
              have j13 := Eq1.out j13
              simp only [j4, j13] at hK ⊢
              rw [if_pos (by rfl)]
              go_step
              exact hK.out _ _ (Below.refl _ _) Eq1.mk Fresh.no
          case hst_3 => refine ⟨fun _ _ _ _ h => h, fun _ _ _ _ h => h, fun _ _ _ _ h => h, fun _ _ _ _ h => h, fun _ _ _ _ h => h, fun _ _ _ _ h => h, fun _ _ _ _ h => h, fun _ _ _ _ h => h, fun _ _ _ _ h => h, fun _ _ _ _ h => h, fun _ _ _ _ h => h, fun _ _ _ _ h => h, fun _ _ _ _ h => h, fun _ _ _ _ h => h, fun _ _ _ _ h => h, trivial⟩
          intro vs w' hJ hD hS hR
          simp only [AllJ, Nat.reduceAdd] at hJ
          obtain ⟨v0, v1, v2, v3, v4, v5, v6, v7, v8, v9, v10, v11, v12, v13, v14, -⟩ := hJ
          clear C
          replace v0 := Eq1.out v0
          replace v1 := Eq1.out v1
          replace v2 := Eq1.out v2
          replace v3 := Eq1.out v3
          replace v4 := Eq1.out v4
          replace v5 := Eq1.out v5
          replace v6 := Eq1.out v6
          replace v7 := Eq1.out v7
          replace v8 := Eq1.out v8
          replace v9 := Eq1.out v9
          replace v10 := Eq1.out v10
          replace v11 := Eq1.out v11
          replace v12 := Eq1.out v12
          replace v13 := Eq1.out v13
          replace v14 := Eq1.out v14
          simp only [v0, v1, v2, v3, v4, v5, v6, v7, v8, v9, v10, v11, v12, v13, v14, List.drop_succ_cons, List.drop_zero]
          refine wpList_nil' ?_
          have H' : Hp _ _ _ := hS
          clear hD hR hS v0 v1 v2 v3 v4 v5 v6 v7 v8 v9 v10 v11 v12 v13 v14
          clear vs H
          have H := H'; clear H'; have C := Hp.facts H; simp only [Facts, factsL, and_true, true_and, List.set_cons_zero, List.set_cons_succ, List.setIfInBounds_toArray] at C
          (repeat' ((fail_if_success (with_reducible show bodyPost _ _ _ _ _ _)); first | ((with_reducible refine Hp.abs_alloc H ?_); intro b' w' H' hb'; (try simp only [hb']); clear hb'; ((try simp only [List.set_cons_zero, List.set_cons_succ, List.setIfInBounds_toArray] at H'); clear C H; have H := H'; clear H'; have C := Hp.facts H; simp only [Facts, factsL, and_true, true_and, List.set_cons_zero, List.set_cons_succ, List.setIfInBounds_toArray] at C)) | ((with_reducible show wpList _ _ _ _ _ (World.setCell _ _ _)); (with_reducible apply Hp.abs_gen H); (first | ((repeat (with_reducible apply Hp.set' 0)); (with_reducible exact H); (repeat rfl); intro w' H') | ((repeat (with_reducible apply Hp.set' 1)); (with_reducible exact H); (repeat rfl); intro w' H') | ((repeat (with_reducible apply Hp.set' 2)); (with_reducible exact H); (repeat rfl); intro w' H') | ((repeat (with_reducible apply Hp.set' 3)); (with_reducible exact H); (repeat rfl); intro w' H') | ((repeat (with_reducible apply Hp.set' 4)); (with_reducible exact H); (repeat rfl); intro w' H') | ((repeat (with_reducible apply Hp.set' 5)); (with_reducible exact H); (repeat rfl); intro w' H') | ((repeat (with_reducible apply Hp.set' 6)); (with_reducible exact H); (repeat rfl); intro w' H') | ((repeat (with_reducible apply Hp.set' 7)); (with_reducible exact H); (repeat rfl); intro w' H')); ((try simp only [List.set_cons_zero, List.set_cons_succ, List.setIfInBounds_toArray] at H'); clear C H; have H := H'; clear H'; have C := Hp.facts H; simp only [Facts, factsL, and_true, true_and, List.set_cons_zero, List.set_cons_succ, List.setIfInBounds_toArray] at C)) | go_values | go_skip | go_guarded | go_step | go_upon | go_back | (simp only [Int.not_lt, Int.not_le] at *; go_simp) | (go_values <;> (try go_simp)) | (go_ite <;> go_prune <;> (try go_simp)) | (split <;> (first | (rename_i hx; exact (hx _ rfl).elim) | go_prune))))
          go_ret
          exact SameR.no (by decide) hne H.low
        · have hne := hcs
          (repeat' ((fail_if_success (with_reducible show bodyPost _ _ _ _ _ _)); first | ((with_reducible refine Hp.abs_alloc H ?_); intro b' w' H' hb'; (try simp only [hb']); clear hb'; ((try simp only [List.set_cons_zero, List.set_cons_succ, List.setIfInBounds_toArray] at H'); clear C H; have H := H'; clear H'; have C := Hp.facts H; simp only [Facts, factsL, and_true, true_and, List.set_cons_zero, List.set_cons_succ, List.setIfInBounds_toArray] at C)) | ((with_reducible show wpList _ _ _ _ _ (World.setCell _ _ _)); (with_reducible apply Hp.abs_gen H); (first | ((repeat (with_reducible apply Hp.set' 0)); (with_reducible exact H); (repeat rfl); intro w' H') | ((repeat (with_reducible apply Hp.set' 1)); (with_reducible exact H); (repeat rfl); intro w' H') | ((repeat (with_reducible apply Hp.set' 2)); (with_reducible exact H); (repeat rfl); intro w' H') | ((repeat (with_reducible apply Hp.set' 3)); (with_reducible exact H); (repeat rfl); intro w' H') | ((repeat (with_reducible apply Hp.set' 4)); (with_reducible exact H); (repeat rfl); intro w' H') | ((repeat (with_reducible apply Hp.set' 5)); (with_reducible exact H); (repeat rfl); intro w' H') | ((repeat (with_reducible apply Hp.set' 6)); (with_reducible exact H); (repeat rfl); intro w' H') | ((repeat (with_reducible apply Hp.set' 7)); (with_reducible exact H); (repeat rfl); intro w' H')); ((try simp only [List.set_cons_zero, List.set_cons_succ, List.setIfInBounds_toArray] at H'); clear C H; have H := H'; clear H'; have C := Hp.facts H; simp only [Facts, factsL, and_true, true_and, List.set_cons_zero, List.set_cons_succ, List.setIfInBounds_toArray] at C)) | go_values | go_skip | go_guarded | go_step | go_upon | go_back | (simp only [Int.not_lt, Int.not_le] at *; go_simp) | (go_values <;> (try go_simp)) | (go_ite <;> go_prune <;> (try go_simp)) | (split <;> (first | (rename_i hx; exact (hx _ rfl).elim) | go_prune))))
          try simp (disch := omega) only [decide_eq_true, decide_eq_false]
          obtain ⟨wR4, rfl⟩ := Hp.nameW H
          apply region_n (frm wR4.heap.size (fun _ => Hp _ _)) (frm_ok ?hfs_4) frm_sz [] [.light 0 0, .light 0 0, .light 0 0, .light 0 0, .light 0 0, .light 0 0, .light 0 0, .light 0 0, .light 0 0, .light 0 0, .light 0 0, .light 0 0, .light 0 0, .light 0 0, .light 0 0, .light 0 0, .light 0 0, .light 0 0, .light 0 0, .light 0 0, .light 0 0] [false, false, false, false, false, false, false, false, false, false, false, false, false, false, false, false, false, false, false, false, false] 21 54 [] [some 18, some 19, some 20, some 21, some 22, some 23, some 24, some 25, some 26, some 27, some 28, some 29, some 30, some 31, some 32, some 33, some 34, some 35, some 36, some 37, some 38] [[], [], [1], [0, 2], [3], [4], [4], [4, 6], [4, 5, 7], [4, 8], [9], [9], [9, 10, 11], [9, 12], [9], [9], [9, 14, 15], [9, 16], [9, 13, 17], [4, 9, 18], [4, 19]] [Eq1 _, Eq1 _, Eq1 _, Eq1 (.bool false), Eq1 _, Eq1 _, Eq1 _, Eq1 _, Eq1 (.bool true), Eq1 _, Eq1 _, Eq1 _, Eq1 _, Eq1 _, Eq1 _, Eq1 _, Eq1 _, Eq1 _, Eq1 (.bool false), Eq1 _, Eq1 _] ?hq1_4 ?hq2_4 ?hq3_4 ?hq4_4 ?hq5_4 ?hq6_4 _ ?hA_4 ?hst_4 ?h0_4 ?hsteps_4 ?hend_4
          case hq1_4 => kernel_rfl
          case hq2_4 => kernel_rfl
          case hq3_4 => kernel_rfl
          case hq5_4 => kernel_rfl
          case hq4_4 => rfl
          case hq6_4 => rfl
          case hA_4 => intro vs; simp only [fillD, Nat.reduceAdd, Act.put, List.setIfInBounds_toArray, List.set_cons_zero, List.set_cons_succ]; rfl
          case h0_4 => exact H.drew
          case hfs_4 => exact fun _ _ _ hb h => Hp.step h hb
          case hsteps_4 =>
            refine ⟨?_, ?_, ?_, ?_, ?_, ?_, ?_, ?_, ?_, ?_, ?_, ?_, ?_, ?_, ?_, ?_, ?_, ?_, ?_, ?_, ?_, trivial⟩
            · intro p vs w' K hJ hp1 hp2 hS hR hK
              rw [if_pos (by rfl)]
              go_step
              exact hK.out _ _ (Below.refl _ _) Eq1.mk Fresh.no
            · intro p vs w' K hJ hp1 hp2 hS hR hK
              rw [if_pos (by rfl)]
              go_step
              exact hK.out _ _ (Below.refl _ _) Eq1.mk Fresh.no
            · intro p vs w' K hJ hp1 hp2 hS hR hK
              simp only [DepJ, List.getD_cons_zero, List.getD_cons_succ] at hJ
              obtain ⟨j1, -⟩ := hJ
              have j1 := Eq1.out j1
              simp only [j1] at hK ⊢
              rw [if_pos (by rfl)]
              have C := Hp.facts hS
              simp only [Facts, factsL, and_true, true_and, List.set_cons_zero, List.set_cons_succ, List.setIfInBounds_toArray] at C
              have hsz := hR.1
              go_step
              exact hK.out _ _ (Below.refl _ _) Eq1.mk Fresh.no
            · intro p vs w' K hJ hp1 hp2 hS hR hK
              simp only [DepJ, List.getD_cons_zero, List.getD_cons_succ] at hJ
              obtain ⟨j0, j2, -⟩ := hJ
              have j0 := Eq1.out j0
              have j2 := Eq1.out j2
              simp only [j0, j2] at hK ⊢
              rw [if_pos (by rfl)]
              go_step
              exact hK.out _ _ (Below.refl _ _) (Eq1.of (by first | rfl | (simp; done) | (simp; omega))) Fresh.no
            · intro p vs w' K hJ hp1 hp2 hS hR hK
              simp only [DepJ, List.getD_cons_zero, List.getD_cons_succ] at hJ
              obtain ⟨j3, -⟩ := hJ
              have j3 := Eq1.out j3
              simp only [j3] at hK ⊢
              rw [if_pos (by rfl)]
              go_step
              exact hK.out _ _ (Below.refl _ _) Eq1.mk Fresh.no
            · intro p vs w' K hJ hp1 hp2 hS hR hK
              simp only [DepJ, List.getD_cons_zero, List.getD_cons_succ] at hJ
              obtain ⟨j4, -⟩ := hJ
              have j4 := Eq1.out j4
              simp only [j4] at hK ⊢
              rw [if_pos (by rfl)]
              go_step
              exact hK.out _ _ (Below.refl _ _) Eq1.mk Fresh.no
            · intro p vs w' K hJ hp1 hp2 hS hR hK
              simp only [DepJ, List.getD_cons_zero, List.getD_cons_succ] at hJ
              obtain ⟨j4, -⟩ := hJ
              have j4 := Eq1.out j4
              simp only [j4] at hK ⊢
              rw [if_pos (by rfl)]
              go_step
              exact hK.out _ _ (Below.refl _ _) Eq1.mk Fresh.no
            · intro p vs w' K hJ hp1 hp2 hS hR hK
              simp only [DepJ, List.getD_cons_zero, List.getD_cons_succ] at hJ
              obtain ⟨j4, j6, -⟩ := hJ
              have j4 := Eq1.out j4
              have j6 := Eq1.out j6
              simp only [j4, j6] at hK ⊢
              rw [if_pos (by rfl)]
              have C := Hp.facts hS
              simp only [Facts, factsL, and_true, true_and, List.set_cons_zero, List.set_cons_succ, List.setIfInBounds_toArray] at C
              have hsz := hR.1
              go_step
              exact hK.out _ _ (Below.refl _ _) Eq1.mk Fresh.no
            · intro p vs w' K hJ hp1 hp2 hS hR hK
              simp only [DepJ, List.getD_cons_zero, List.getD_cons_succ] at hJ
              obtain ⟨j4, j5, j7, -⟩ := hJ
              have j4 := Eq1.out j4
              have j5 := Eq1.out j5
              have j7 := Eq1.out j7
              simp only [j4, j5, j7] at hK ⊢
              rw [if_pos (by rfl)]
              go_step
              exact hK.out _ _ (Below.refl _ _) (Eq1.of (by first | rfl | (simp; done) | (simp; omega))) Fresh.no
            · intro p vs w' K hJ hp1 hp2 hS hR hK
              simp only [DepJ, List.getD_cons_zero, List.getD_cons_succ] at hJ
              obtain ⟨j4, j8, -⟩ := hJ
              have j4 := Eq1.out j4
              have j8 := Eq1.out j8
              simp only [j4, j8] at hK ⊢
              rw [if_pos (by rfl)]
              go_step
              exact hK.out _ _ (Below.refl _ _) Eq1.mk Fresh.no
            · intro p vs w' K hJ hp1 hp2 hS hR hK
              simp only [DepJ, List.getD_cons_zero, List.getD_cons_succ] at hJ
              obtain ⟨j9, -⟩ := hJ
              have j9 := Eq1.out j9
              simp only [j9] at hK ⊢
              rw [if_pos (by rfl)]
              go_step
              exact hK.out _ _ (Below.refl _ _) Eq1.mk Fresh.no
            · intro p vs w' K hJ hp1 hp2 hS hR hK
              simp only [DepJ, List.getD_cons_zero, List.getD_cons_succ] at hJ
              obtain ⟨j9, -⟩ := hJ
              have j9 := Eq1.out j9
              simp only [j9] at hK ⊢
              rw [if_pos (by rfl)]
              go_step
              exact hK.out _ _ (Below.refl _ _) Eq1.mk Fresh.no
            · intro p vs w' K hJ hp1 hp2 hS hR hK
              simp only [DepJ, List.getD_cons_zero, List.getD_cons_succ] at hJ
              obtain ⟨j9, j10, j11, -⟩ := hJ
              have j9 := Eq1.out j9
              have j10 := Eq1.out j10
              have j11 := Eq1.out j11
              simp only [j9, j10, j11] at hK ⊢
              rw [if_pos (by rfl)]
              go_step
              exact hK.out _ _ (Below.refl _ _) Eq1.mk Fresh.no
            · intro p vs w' K hJ hp1 hp2 hS hR hK
              simp only [DepJ, List.getD_cons_zero, List.getD_cons_succ] at hJ
              obtain ⟨j9, j12, -⟩ := hJ
              have j9 := Eq1.out j9
              have j12 := Eq1.out j12
              simp only [j9, j12] at hK ⊢
              rw [if_pos (by rfl)]
              have C := Hp.facts hS
              simp only [Facts, factsL, and_true, true_and, List.set_cons_zero, List.set_cons_succ, List.setIfInBounds_toArray] at C
              have hsz := hR.1
              go_step
              exact hK.out _ _ (Below.refl _ _) Eq1.mk Fresh.no
            · intro p vs w' K hJ hp1 hp2 hS hR hK
              simp only [DepJ, List.getD_cons_zero, List.getD_cons_succ] at hJ
              obtain ⟨j9, -⟩ := hJ
              have j9 := Eq1.out j9
              simp only [j9] at hK ⊢
              rw [if_pos (by rfl)]
              go_step
              exact hK.out _ _ (Below.refl _ _) Eq1.mk Fresh.no
            · intro p vs w' K hJ hp1 hp2 hS hR hK
              simp only [DepJ, List.getD_cons_zero, List.getD_cons_succ] at hJ
              obtain ⟨j9, -⟩ := hJ
              have j9 := Eq1.out j9
              simp only [j9] at hK ⊢
              rw [if_pos (by rfl)]
              go_step
              exact hK.out _ _ (Below.refl _ _) Eq1.mk Fresh.no
            · intro p vs w' K hJ hp1 hp2 hS hR hK
              simp only [DepJ, List.getD_cons_zero, List.getD_cons_succ] at hJ
              obtain ⟨j9, j14, j15, -⟩ := hJ
              have j9 := Eq1.out j9
              have j14 := Eq1.out j14
              have j15 := Eq1.out j15
              simp only [j9, j14, j15] at hK ⊢
              rw [if_pos (by rfl)]
              go_step
              exact hK.out _ _ (Below.refl _ _) Eq1.mk Fresh.no
            · intro p vs w' K hJ hp1 hp2 hS hR hK
              simp only [DepJ, List.getD_cons_zero, List.getD_cons_succ] at hJ
              obtain ⟨j9, j16, -⟩ := hJ
              have j9 := Eq1.out j9
              have j16 := Eq1.out j16
              simp only [j9, j16] at hK ⊢
              rw [if_pos (by rfl)]
              have C := Hp.facts hS
              simp only [Facts, factsL, and_true, true_and, List.set_cons_zero, List.set_cons_succ, List.setIfInBounds_toArray] at C
              have hsz := hR.1
              go_step
              exact hK.out _ _ (Below.refl _ _) Eq1.mk Fresh.no
            · intro p vs w' K hJ hp1 hp2 hS hR hK
              simp only [DepJ, List.getD_cons_zero, List.getD_cons_succ] at hJ
              obtain ⟨j9, j13, j17, -⟩ := hJ
              have j9 := Eq1.out j9
              have j13 := Eq1.out j13
              have j17 := Eq1.out j17
              simp only [j9, j13, j17] at hK ⊢
              rw [if_pos (by rfl)]
              go_step
              exact hK.out _ _ (Below.refl _ _) (Eq1.of (by first | (simp; done) | (simp; omega))) Fresh.no
            · intro p vs w' K hJ hp1 hp2 hS hR hK
              simp only [DepJ, List.getD_cons_zero, List.getD_cons_succ] at hJ
              obtain ⟨j4, j9, j18, -⟩ := hJ
              have j4 := Eq1.out j4
              have j9 := Eq1.out j9
              have j18 := Eq1.out j18
              simp only [j4, j9, j18] at hK ⊢
              rw [if_pos (by rfl)]
              go_step
              exact hK.out _ _ (Below.refl _ _) Eq1.mk Fresh.no
            · intro p vs w' K hJ hp1 hp2 hS hR hK
              simp only [DepJ, List.getD_cons_zero, List.getD_cons_succ] at hJ
              obtain ⟨j4, j19, -⟩ := hJ
              have j4 := Eq1.out j4
              have j19 := Eq1.out j19
              simp only [j4, j19] at hK ⊢
              rw [if_pos (by rfl)]
              go_step
              exact hK.out _ _ (Below.refl _ _) Eq1.mk Fresh.no
          case hst_4 => refine ⟨fun _ _ _ _ h => h, fun _ _ _ _ h => h, fun _ _ _ _ h => h, fun _ _ _ _ h => h, fun _ _ _ _ h => h, fun _ _ _ _ h => h, fun _ _ _ _ h => h, fun _ _ _ _ h => h, fun _ _ _ _ h => h, fun _ _ _ _ h => h, fun _ _ _ _ h => h, fun _ _ _ _ h => h, fun _ _ _ _ h => h, fun _ _ _ _ h => h, fun _ _ _ _ h => h, fun _ _ _ _ h => h, fun _ _ _ _ h => h, fun _ _ _ _ h => h, fun _ _ _ _ h => h, fun _ _ _ _ h => h, fun _ _ _ _ h => h, trivial⟩
          intro vs w' hJ hD hS hR
          simp only [AllJ, Nat.reduceAdd] at hJ
          obtain ⟨v0, v1, v2, v3, v4, v5, v6, v7, v8, v9, v10, v11, v12, v13, v14, v15, v16, v17, v18, v19, v20, -⟩ := hJ
          clear C
          replace v0 := Eq1.out v0
          replace v1 := Eq1.out v1
          replace v2 := Eq1.out v2
          replace v3 := Eq1.out v3
          replace v4 := Eq1.out v4
          replace v5 := Eq1.out v5
          replace v6 := Eq1.out v6
          replace v7 := Eq1.out v7
          replace v8 := Eq1.out v8
          replace v9 := Eq1.out v9
          replace v10 := Eq1.out v10
          replace v11 := Eq1.out v11
          replace v12 := Eq1.out v12
          replace v13 := Eq1.out v13
          replace v14 := Eq1.out v14
          replace v15 := Eq1.out v15
          replace v16 := Eq1.out v16
          replace v17 := Eq1.out v17
          replace v18 := Eq1.out v18
          replace v19 := Eq1.out v19
          replace v20 := Eq1.out v20
          simp only [v0, v1, v2, v3, v4, v5, v6, v7, v8, v9, v10, v11, v12, v13, v14, v15, v16, v17, v18, v19, v20, List.drop_succ_cons, List.drop_zero]
          refine wpList_nil' ?_
          have H' : Hp _ _ _ := hS
          clear hD hR hS v0 v1 v2 v3 v4 v5 v6 v7 v8 v9 v10 v11 v12 v13 v14 v15 v16 v17 v18 v19 v20
          clear vs H
          have H := H'; clear H'; have C := Hp.facts H; simp only [Facts, factsL, and_true, true_and, List.set_cons_zero, List.set_cons_succ, List.setIfInBounds_toArray] at C
          (repeat' ((fail_if_success (with_reducible show bodyPost _ _ _ _ _ _)); first | ((with_reducible refine Hp.abs_alloc H ?_); intro b' w' H' hb'; (try simp only [hb']); clear hb'; ((try simp only [List.set_cons_zero, List.set_cons_succ, List.setIfInBounds_toArray] at H'); clear C H; have H := H'; clear H'; have C := Hp.facts H; simp only [Facts, factsL, and_true, true_and, List.set_cons_zero, List.set_cons_succ, List.setIfInBounds_toArray] at C)) | ((with_reducible show wpList _ _ _ _ _ (World.setCell _ _ _)); (with_reducible apply Hp.abs_gen H); (first | ((repeat (with_reducible apply Hp.set' 0)); (with_reducible exact H); (repeat rfl); intro w' H') | ((repeat (with_reducible apply Hp.set' 1)); (with_reducible exact H); (repeat rfl); intro w' H') | ((repeat (with_reducible apply Hp.set' 2)); (with_reducible exact H); (repeat rfl); intro w' H') | ((repeat (with_reducible apply Hp.set' 3)); (with_reducible exact H); (repeat rfl); intro w' H') | ((repeat (with_reducible apply Hp.set' 4)); (with_reducible exact H); (repeat rfl); intro w' H') | ((repeat (with_reducible apply Hp.set' 5)); (with_reducible exact H); (repeat rfl); intro w' H') | ((repeat (with_reducible apply Hp.set' 6)); (with_reducible exact H); (repeat rfl); intro w' H') | ((repeat (with_reducible apply Hp.set' 7)); (with_reducible exact H); (repeat rfl); intro w' H')); ((try simp only [List.set_cons_zero, List.set_cons_succ, List.setIfInBounds_toArray] at H'); clear C H; have H := H'; clear H'; have C := Hp.facts H; simp only [Facts, factsL, and_true, true_and, List.set_cons_zero, List.set_cons_succ, List.setIfInBounds_toArray] at C)) | go_values | go_skip | go_guarded | go_step | go_upon | go_back | (simp only [Int.not_lt, Int.not_le] at *; go_simp) | (go_values <;> (try go_simp)) | (go_ite <;> go_prune <;> (try go_simp)) | (split <;> (first | (rename_i hx; exact (hx _ rfl).elim) | go_prune))))
          try simp (disch := omega) only [decide_eq_true, decide_eq_false]
          obtain ⟨wR6, rfl⟩ := Hp.nameW H
          apply region_n (frm wR6.heap.size (fun _ => Hp _ _)) (frm_ok ?hfs_5) frm_sz [] [.light 0 0, .light 0 0, .light 0 0, .light 0 0, .light 0 0, .light 0 0, .light 0 0, .light 0 0, .light 0 0, .light 0 0, .light 0 0, .light 0 0, .light 0 0, .light 0 0, .light 0 0] [false, false, false, false, false, false, false, false, false, false, false, false, false, false, false] 15 54 [] [some 39, some 40, some 41, some 42, some 43, some 44, some 45, some 46, some 47, some 48, some 49, some 50, some 51, some 52, some 53] [[], [], [1], [0, 2], [3], [4], [4], [4, 5, 6], [4, 7], [4], [4], [4, 9, 10], [4, 11], [4, 8, 12], [4, 13]] [Eq1 _, Eq1 _, Eq1 _, Eq1 (.bool false), Eq1 _, Eq1 _, Eq1 _, Eq1 _, Eq1 _, Eq1 _, Eq1 _, Eq1 _, Eq1 _, Eq1 (.bool false), Eq1 _] ?hq1_5 ?hq2_5 ?hq3_5 ?hq4_5 ?hq5_5 ?hq6_5 _ ?hA_5 ?hst_5 ?h0_5 ?hsteps_5 ?hend_5
          case hq1_5 => kernel_rfl
          case hq2_5 => kernel_rfl
          case hq3_5 => kernel_rfl
          case hq5_5 => kernel_rfl
          case hq4_5 => rfl
          case hq6_5 => rfl
          case hA_5 => intro vs; simp only [fillD, Nat.reduceAdd, Act.put, List.setIfInBounds_toArray, List.set_cons_zero, List.set_cons_succ]; rfl
          case h0_5 => exact H.drew
          case hfs_5 => exact fun _ _ _ hb h => Hp.step h hb
          case hsteps_5 =>
            refine ⟨?_, ?_, ?_, ?_, ?_, ?_, ?_, ?_, ?_, ?_, ?_, ?_, ?_, ?_, ?_, trivial⟩
            · intro p vs w' K hJ hp1 hp2 hS hR hK
              rw [if_pos (by rfl)]
              go_step
              exact hK.out _ _ (Below.refl _ _) Eq1.mk Fresh.no
            · intro p vs w' K hJ hp1 hp2 hS hR hK
              rw [if_pos (by rfl)]
              go_step
              exact hK.out _ _ (Below.refl _ _) Eq1.mk Fresh.no
            · intro p vs w' K hJ hp1 hp2 hS hR hK
              simp only [DepJ, List.getD_cons_zero, List.getD_cons_succ] at hJ
              obtain ⟨j1, -⟩ := hJ
              have j1 := Eq1.out j1
              simp only [j1] at hK ⊢
              rw [if_pos (by rfl)]
              have C := Hp.facts hS
              simp only [Facts, factsL, and_true, true_and, List.set_cons_zero, List.set_cons_succ, List.setIfInBounds_toArray] at C
              have hsz := hR.1
              go_step
              exact hK.out _ _ (Below.refl _ _) Eq1.mk Fresh.no
            · intro p vs w' K hJ hp1 hp2 hS hR hK
              simp only [DepJ, List.getD_cons_zero, List.getD_cons_succ] at hJ
              obtain ⟨j0, j2, -⟩ := hJ
              have j0 := Eq1.out j0
              have j2 := Eq1.out j2
              simp only [j0, j2] at hK ⊢
              rw [if_pos (by rfl)]
              go_step
              exact hK.out _ _ (Below.refl _ _) (Eq1.of (by first | rfl | (simp; done) | (simp; omega))) Fresh.no
            · intro p vs w' K hJ hp1 hp2 hS hR hK
              simp only [DepJ, List.getD_cons_zero, List.getD_cons_succ] at hJ
              obtain ⟨j3, -⟩ := hJ
              have j3 := Eq1.out j3
              simp only [j3] at hK ⊢
              rw [if_pos (by rfl)]
              go_step
              exact hK.out _ _ (Below.refl _ _) Eq1.mk Fresh.no
            · intro p vs w' K hJ hp1 hp2 hS hR hK
              simp only [DepJ, List.getD_cons_zero, List.getD_cons_succ] at hJ
              obtain ⟨j4, -⟩ := hJ
              have j4 := Eq1.out j4
              simp only [j4] at hK ⊢
              rw [if_pos (by rfl)]
              go_step
              exact hK.out _ _ (Below.refl _ _) Eq1.mk Fresh.no
            · intro p vs w' K hJ hp1 hp2 hS hR hK
              simp only [DepJ, List.getD_cons_zero, List.getD_cons_succ] at hJ
              obtain ⟨j4, -⟩ := hJ
              have j4 := Eq1.out j4
              simp only [j4] at hK ⊢
              rw [if_pos (by rfl)]
              go_step
              exact hK.out _ _ (Below.refl _ _) Eq1.mk Fresh.no
            · intro p vs w' K hJ hp1 hp2 hS hR hK
              simp only [DepJ, List.getD_cons_zero, List.getD_cons_succ] at hJ
              obtain ⟨j4, j5, j6, -⟩ := hJ
              have j4 := Eq1.out j4
              have j5 := Eq1.out j5
              have j6 := Eq1.out j6
              simp only [j4, j5, j6] at hK ⊢
              rw [if_pos (by rfl)]
              go_step
              exact hK.out _ _ (Below.refl _ _) Eq1.mk Fresh.no
            · intro p vs w' K hJ hp1 hp2 hS hR hK
              simp only [DepJ, List.getD_cons_zero, List.getD_cons_succ] at hJ
              obtain ⟨j4, j7, -⟩ := hJ
              have j4 := Eq1.out j4
              have j7 := Eq1.out j7
              simp only [j4, j7] at hK ⊢
              rw [if_pos (by rfl)]
              have C := Hp.facts hS
              simp only [Facts, factsL, and_true, true_and, List.set_cons_zero, List.set_cons_succ, List.setIfInBounds_toArray] at C
              have hsz := hR.1
              go_step
              exact hK.out _ _ (Below.refl _ _) Eq1.mk Fresh.no
            · intro p vs w' K hJ hp1 hp2 hS hR hK
              simp only [DepJ, List.getD_cons_zero, List.getD_cons_succ] at hJ
              obtain ⟨j4, -⟩ := hJ
              have j4 := Eq1.out j4
              simp only [j4] at hK ⊢
              rw [if_pos (by rfl)]
              go_step
              exact hK.out _ _ (Below.refl _ _) Eq1.mk Fresh.no
            · intro p vs w' K hJ hp1 hp2 hS hR hK
              simp only [DepJ, List.getD_cons_zero, List.getD_cons_succ] at hJ
              obtain ⟨j4, -⟩ := hJ
              have j4 := Eq1.out j4
              simp only [j4] at hK ⊢
              rw [if_pos (by rfl)]
              go_step
              exact hK.out _ _ (Below.refl _ _) Eq1.mk Fresh.no
            · intro p vs w' K hJ hp1 hp2 hS hR hK
              simp only [DepJ, List.getD_cons_zero, List.getD_cons_succ] at hJ
              obtain ⟨j4, j9, j10, -⟩ := hJ
              have j4 := Eq1.out j4
              have j9 := Eq1.out j9
              have j10 := Eq1.out j10
              simp only [j4, j9, j10] at hK ⊢
              rw [if_pos (by rfl)]
              go_step
              exact hK.out _ _ (Below.refl _ _) Eq1.mk Fresh.no
            · intro p vs w' K hJ hp1 hp2 hS hR hK
              simp only [DepJ, List.getD_cons_zero, List.getD_cons_succ] at hJ
              obtain ⟨j4, j11, -⟩ := hJ
              have j4 := Eq1.out j4
              have j11 := Eq1.out j11
              simp only [j4, j11] at hK ⊢
              rw [if_pos (by rfl)]
              have C := Hp.facts hS
              simp only [Facts, factsL, and_true, true_and, List.set_cons_zero, List.set_cons_succ, List.setIfInBounds_toArray] at C
              have hsz := hR.1
              go_step
              exact hK.out _ _ (Below.refl _ _) Eq1.mk Fresh.no
            · intro p vs w' K hJ hp1 hp2 hS hR hK
              simp only [DepJ, List.getD_cons_zero, List.getD_cons_succ] at hJ
              obtain ⟨j4, j8, j12, -⟩ := hJ
              have j4 := Eq1.out j4
              have j8 := Eq1.out j8
              have j12 := Eq1.out j12
              simp only [j4, j8, j12] at hK ⊢
              rw [if_pos (by rfl)]
              go_step
              exact hK.out _ _ (Below.refl _ _) (Eq1.of (by first | (simp; done) | (simp; omega))) Fresh.no
            · intro p vs w' K hJ hp1 hp2 hS hR hK
              simp only [DepJ, List.getD_cons_zero, List.getD_cons_succ] at hJ
              obtain ⟨j4, j13, -⟩ := hJ
              have j4 := Eq1.out j4
              have j13 := Eq1.out j13
              simp only [j4, j13] at hK ⊢
              rw [if_pos (by rfl)]
              go_step
              exact hK.out _ _ (Below.refl _ _) Eq1.mk Fresh.no
          case hst_5 => refine ⟨fun _ _ _ _ h => h, fun _ _ _ _ h => h, fun _ _ _ _ h => h, fun _ _ _ _ h => h, fun _ _ _ _ h => h, fun _ _ _ _ h => h, fun _ _ _ _ h => h, fun _ _ _ _ h => h, fun _ _ _ _ h => h, fun _ _ _ _ h => h, fun _ _ _ _ h => h, fun _ _ _ _ h => h, fun _ _ _ _ h => h, fun _ _ _ _ h => h, fun _ _ _ _ h => h, trivial⟩
          intro vs w' hJ hD hS hR
          simp only [AllJ, Nat.reduceAdd] at hJ
          obtain ⟨v0, v1, v2, v3, v4, v5, v6, v7, v8, v9, v10, v11, v12, v13, v14, -⟩ := hJ
          clear C
          replace v0 := Eq1.out v0
          replace v1 := Eq1.out v1
          replace v2 := Eq1.out v2
          replace v3 := Eq1.out v3
          replace v4 := Eq1.out v4
          replace v5 := Eq1.out v5
          replace v6 := Eq1.out v6
          replace v7 := Eq1.out v7
          replace v8 := Eq1.out v8
          replace v9 := Eq1.out v9
          replace v10 := Eq1.out v10
          replace v11 := Eq1.out v11
          replace v12 := Eq1.out v12
          replace v13 := Eq1.out v13
          replace v14 := Eq1.out v14
          simp only [v0, v1, v2, v3, v4, v5, v6, v7, v8, v9, v10, v11, v12, v13, v14, List.drop_succ_cons, List.drop_zero]
          refine wpList_nil' ?_
          have H' : Hp _ _ _ := hS
          clear hD hR hS v0 v1 v2 v3 v4 v5 v6 v7 v8 v9 v10 v11 v12 v13 v14
          clear vs H
          have H := H'; clear H'; have C := Hp.facts H; simp only [Facts, factsL, and_true, true_and, List.set_cons_zero, List.set_cons_succ, List.setIfInBounds_toArray] at C
          (repeat' ((fail_if_success (with_reducible show bodyPost _ _ _ _ _ _)); first | ((with_reducible refine Hp.abs_alloc H ?_); intro b' w' H' hb'; (try simp only [hb']); clear hb'; ((try simp only [List.set_cons_zero, List.set_cons_succ, List.setIfInBounds_toArray] at H'); clear C H; have H := H'; clear H'; have C := Hp.facts H; simp only [Facts, factsL, and_true, true_and, List.set_cons_zero, List.set_cons_succ, List.setIfInBounds_toArray] at C)) | ((with_reducible show wpList _ _ _ _ _ (World.setCell _ _ _)); (with_reducible apply Hp.abs_gen H); (first | ((repeat (with_reducible apply Hp.set' 0)); (with_reducible exact H); (repeat rfl); intro w' H') | ((repeat (with_reducible apply Hp.set' 1)); (with_reducible exact H); (repeat rfl); intro w' H') | ((repeat (with_reducible apply Hp.set' 2)); (with_reducible exact H); (repeat rfl); intro w' H') | ((repeat (with_reducible apply Hp.set' 3)); (with_reducible exact H); (repeat rfl); intro w' H') | ((repeat (with_reducible apply Hp.set' 4)); (with_reducible exact H); (repeat rfl); intro w' H') | ((repeat (with_reducible apply Hp.set' 5)); (with_reducible exact H); (repeat rfl); intro w' H') | ((repeat (with_reducible apply Hp.set' 6)); (with_reducible exact H); (repeat rfl); intro w' H') | ((repeat (with_reducible apply Hp.set' 7)); (with_reducible exact H); (repeat rfl); intro w' H')); ((try simp only [List.set_cons_zero, List.set_cons_succ, List.setIfInBounds_toArray] at H'); clear C H; have H := H'; clear H'; have C := Hp.facts H; simp only [Facts, factsL, and_true, true_and, List.set_cons_zero, List.set_cons_succ, List.setIfInBounds_toArray] at C)) | go_values | go_skip | go_guarded | go_step | go_upon | go_back | (simp only [Int.not_lt, Int.not_le] at *; go_simp) | (go_values <;> (try go_simp)) | (go_ite <;> go_prune <;> (try go_simp)) | (split <;> (first | (rename_i hx; exact (hx _ rfl).elim) | go_prune))))
          exact ⟨⟨n + 1, by omega, by omega, by go_num, Lib.hid (take_on h1 h2 HK.out hne), H⟩, by simp [intOf]; omega⟩
      · obtain ⟨b, o, rfl, hbl, -⟩ := hcell n h1
        clear hcell hcell2 hA hA2
        have hne : l ≠ m := ne_len (by omega)
        (repeat' ((fail_if_success (with_reducible show bodyPost _ _ _ _ _ _)); first | ((with_reducible refine Hp.abs_alloc H ?_); intro b' w' H' hb'; (try simp only [hb']); clear hb'; ((try simp only [List.set_cons_zero, List.set_cons_succ, List.setIfInBounds_toArray] at H'); clear C H; have H := H'; clear H'; have C := Hp.facts H; simp only [Facts, factsL, and_true, true_and, List.set_cons_zero, List.set_cons_succ, List.setIfInBounds_toArray] at C)) | ((with_reducible show wpList _ _ _ _ _ (World.setCell _ _ _)); (with_reducible apply Hp.abs_gen H); (first | ((repeat (with_reducible apply Hp.set' 0)); (with_reducible exact H); (repeat rfl); intro w' H') | ((repeat (with_reducible apply Hp.set' 1)); (with_reducible exact H); (repeat rfl); intro w' H') | ((repeat (with_reducible apply Hp.set' 2)); (with_reducible exact H); (repeat rfl); intro w' H') | ((repeat (with_reducible apply Hp.set' 3)); (with_reducible exact H); (repeat rfl); intro w' H') | ((repeat (with_reducible apply Hp.set' 4)); (with_reducible exact H); (repeat rfl); intro w' H') | ((repeat (with_reducible apply Hp.set' 5)); (with_reducible exact H); (repeat rfl); intro w' H') | ((repeat (with_reducible apply Hp.set' 6)); (with_reducible exact H); (repeat rfl); intro w' H') | ((repeat (with_reducible apply Hp.set' 7)); (with_reducible exact H); (repeat rfl); intro w' H')); ((try simp only [List.set_cons_zero, List.set_cons_succ, List.setIfInBounds_toArray] at H'); clear C H; have H := H'; clear H'; have C := Hp.facts H; simp only [Facts, factsL, and_true, true_and, List.set_cons_zero, List.set_cons_succ, List.setIfInBounds_toArray] at C)) | go_values | go_skip | go_guarded | go_step | go_upon | go_back | (simp only [Int.not_lt, Int.not_le] at *; go_simp) | (go_values <;> (try go_simp)) | (go_ite <;> go_prune <;> (try go_simp)) | (split <;> (first | (rename_i hx; exact (hx _ rfl).elim) | go_prune))))
        try simp (disch := omega) only [decide_eq_true, decide_eq_false]
        obtain ⟨wR4, rfl⟩ := Hp.nameW H
        apply region_n (frm wR4.heap.size (fun _ => Hp _ _)) (frm_ok ?hfs_6) frm_sz [] [.light 0 0, .light 0 0, .light 0 0, .light 0 0, .light 0 0, .light 0 0, .light 0 0, .light 0 0, .light 0 0, .light 0 0, .light 0 0, .light 0 0, .light 0 0, .light 0 0, .light 0 0, .light 0 0, .light 0 0, .light 0 0, .light 0 0, .light 0 0, .light 0 0] [false, false, false, false, false, false, false, false, false, false, false, false, false, false, false, false, false, false, false, false, false] 21 54 [] [some 18, some 19, some 20, some 21, some 22, some 23, some 24, some 25, some 26, some 27, some 28, some 29, some 30, some 31, some 32, some 33, some 34, some 35, some 36, some 37, some 38] [[], [], [1], [0, 2], [3], [4], [4], [4, 6], [4, 5, 7], [4, 8], [9], [9], [9, 10, 11], [9, 12], [9], [9], [9, 14, 15], [9, 16], [9, 13, 17], [4, 9, 18], [4, 19]] [Eq1 _, Eq1 _, Eq1 _, Eq1 (.bool false), Eq1 _, Eq1 _, Eq1 _, Eq1 _, Eq1 (.bool false), Eq1 _, Eq1 _, Eq1 _, Eq1 _, Eq1 _, Eq1 _, Eq1 _, Eq1 _, Eq1 _, Eq1 _, Eq1 _, Eq1 _] ?hq1_6 ?hq2_6 ?hq3_6 ?hq4_6 ?hq5_6 ?hq6_6 _ ?hA_6 ?hst_6 ?h0_6 ?hsteps_6 ?hend_6
        case hq1_6 => kernel_rfl
        case hq2_6 => kernel_rfl
        case hq3_6 => kernel_rfl
        case hq5_6 => kernel_rfl
        case hq4_6 => rfl
        case hq6_6 => rfl
        case hA_6 => intro vs; simp only [fillD, Nat.reduceAdd, Act.put, List.setIfInBounds_toArray, List.set_cons_zero, List.set_cons_succ]; rfl
        case h0_6 => exact H.drew
        case hfs_6 => exact fun _ _ _ hb h => Hp.step h hb
        case hsteps_6 =>
          refine ⟨?_, ?_, ?_, ?_, ?_, ?_, ?_, ?_, ?_, ?_, ?_, ?_, ?_, ?_, ?_, ?_, ?_, ?_, ?_, ?_, ?_, trivial⟩
          · intro p vs w' K hJ hp1 hp2 hS hR hK
            rw [if_pos (by rfl)]
            go_step
            exact hK.out _ _ (Below.refl _ _) Eq1.mk Fresh.no
          · intro p vs w' K hJ hp1 hp2 hS hR hK
            rw [if_pos (by rfl)]
            go_step
            exact hK.out _ _ (Below.refl _ _) Eq1.mk Fresh.no
          · intro p vs w' K hJ hp1 hp2 hS hR hK
            simp only [DepJ, List.getD_cons_zero, List.getD_cons_succ] at hJ
            obtain ⟨j1, -⟩ := hJ
            have j1 := Eq1.out j1
            simp only [j1] at hK ⊢
            rw [if_pos (by rfl)]
            have C := Hp.facts hS
            simp only [Facts, factsL, and_true, true_and, List.set_cons_zero, List.set_cons_succ, List.setIfInBounds_toArray] at C
            have hsz := hR.1
            go_step
            exact hK.out _ _ (Below.refl _ _) Eq1.mk Fresh.no
          · intro p vs w' K hJ hp1 hp2 hS hR hK
            simp only [DepJ, List.getD_cons_zero, List.getD_cons_succ] at hJ
            obtain ⟨j0, j2, -⟩ := hJ
            have j0 := Eq1.out j0
            have j2 := Eq1.out j2
            simp only [j0, j2] at hK ⊢
            rw [if_pos (by rfl)]
            go_step
            exact hK.out _ _ (Below.refl _ _) (Eq1.of (by first | rfl | (simp; done) | (simp; omega))) Fresh.no
          · intro p vs w' K hJ hp1 hp2 hS hR hK
            simp only [DepJ, List.getD_cons_zero, List.getD_cons_succ] at hJ
            obtain ⟨j3, -⟩ := hJ
            have j3 := Eq1.out j3
            simp only [j3] at hK ⊢
            rw [if_pos (by rfl)]
            go_step
            exact hK.out _ _ (Below.refl _ _) Eq1.mk Fresh.no
          · intro p vs w' K hJ hp1 hp2 hS hR hK
            simp only [DepJ, List.getD_cons_zero, List.getD_cons_succ] at hJ
            obtain ⟨j4, -⟩ := hJ
            have j4 := Eq1.out j4
            simp only [j4] at hK ⊢
            rw [if_pos (by rfl)]
            go_step
            exact hK.out _ _ (Below.refl _ _) Eq1.mk Fresh.no
          · intro p vs w' K hJ hp1 hp2 hS hR hK
            simp only [DepJ, List.getD_cons_zero, List.getD_cons_succ] at hJ
            obtain ⟨j4, -⟩ := hJ
            have j4 := Eq1.out j4
            simp only [j4] at hK ⊢
            rw [if_pos (by rfl)]
            go_step
            exact hK.out _ _ (Below.refl _ _) Eq1.mk Fresh.no
          · intro p vs w' K hJ hp1 hp2 hS hR hK
            simp only [DepJ, List.getD_cons_zero, List.getD_cons_succ] at hJ
            obtain ⟨j4, j6, -⟩ := hJ
            have j4 := Eq1.out j4
            have j6 := Eq1.out j6
            simp only [j4, j6] at hK ⊢
            rw [if_pos (by rfl)]
            have C := Hp.facts hS
            simp only [Facts, factsL, and_true, true_and, List.set_cons_zero, List.set_cons_succ, List.setIfInBounds_toArray] at C
            have hsz := hR.1
            go_step
            exact hK.out _ _ (Below.refl _ _) Eq1.mk Fresh.no
          · intro p vs w' K hJ hp1 hp2 hS hR hK
            simp only [DepJ, List.getD_cons_zero, List.getD_cons_succ] at hJ
            obtain ⟨j4, j5, j7, -⟩ := hJ
            have j4 := Eq1.out j4
            have j5 := Eq1.out j5
            have j7 := Eq1.out j7
            simp only [j4, j5, j7] at hK ⊢
            rw [if_pos (by rfl)]
            go_step
            exact hK.out _ _ (Below.refl _ _) (Eq1.of (by first | rfl | (simp; done) | (simp; omega))) Fresh.no
          · intro p vs w' K hJ hp1 hp2 hS hR hK
            simp only [DepJ, List.getD_cons_zero, List.getD_cons_succ] at hJ
            obtain ⟨j4, j8, -⟩ := hJ
            have j4 := Eq1.out j4
            have j8 := Eq1.out j8
            simp only [j4, j8] at hK ⊢
            rw [if_pos (by rfl)]
            go_step
            exact hK.out _ _ (Below.refl _ _) Eq1.mk Fresh.no
          · intro p vs w' K hJ hp1 hp2 hS hR hK
            simp only [DepJ, List.getD_cons_zero, List.getD_cons_succ] at hJ
            obtain ⟨j9, -⟩ := hJ
            have j9 := Eq1.out j9
            simp only [j9] at hK ⊢
            rw [if_neg (by simp [Region.wanted, yielded, undef])]
            exact hK.out _ _ (Below.refl _ _) Eq1.mk Fresh.no
          · intro p vs w' K hJ hp1 hp2 hS hR hK
            simp only [DepJ, List.getD_cons_zero, List.getD_cons_succ] at hJ
            obtain ⟨j9, -⟩ := hJ
            have j9 := Eq1.out j9
            simp only [j9] at hK ⊢
            rw [if_neg (by simp [Region.wanted, yielded, undef])]
            exact hK.out _ _ (Below.refl _ _) Eq1.mk Fresh.no
          · intro p vs w' K hJ hp1 hp2 hS hR hK
            simp only [DepJ, List.getD_cons_zero, List.getD_cons_succ] at hJ
            obtain ⟨j9, j10, j11, -⟩ := hJ
            have j9 := Eq1.out j9
            have j10 := Eq1.out j10
            have j11 := Eq1.out j11
            simp only [j9, j10, j11] at hK ⊢
            rw [if_neg (by simp [Region.wanted, yielded, undef])]
            exact hK.out _ _ (Below.refl _ _) Eq1.mk Fresh.no
          · intro p vs w' K hJ hp1 hp2 hS hR hK
            simp only [DepJ, List.getD_cons_zero, List.getD_cons_succ] at hJ
            obtain ⟨j9, j12, -⟩ := hJ
            have j9 := Eq1.out j9
            have j12 := Eq1.out j12
            simp only [j9, j12] at hK ⊢
            rw [if_neg (by simp [Region.wanted, yielded, undef])]
            exact hK.out _ _ (Below.refl _ _) Eq1.mk Fresh.no
          · intro p vs w' K hJ hp1 hp2 hS hR hK
            simp only [DepJ, List.getD_cons_zero, List.getD_cons_succ] at hJ
            obtain ⟨j9, -⟩ := hJ
            have j9 := Eq1.out j9
            simp only [j9] at hK ⊢
            rw [if_neg (by simp [Region.wanted, yielded, undef])]
            exact hK.out _ _ (Below.refl _ _) Eq1.mk Fresh.no
          · intro p vs w' K hJ hp1 hp2 hS hR hK
            simp only [DepJ, List.getD_cons_zero, List.getD_cons_succ] at hJ
            obtain ⟨j9, -⟩ := hJ
            have j9 := Eq1.out j9
            simp only [j9] at hK ⊢
            rw [if_neg (by simp [Region.wanted, yielded, undef])]
            exact hK.out _ _ (Below.refl _ _) Eq1.mk Fresh.no
          · intro p vs w' K hJ hp1 hp2 hS hR hK
            simp only [DepJ, List.getD_cons_zero, List.getD_cons_succ] at hJ
            obtain ⟨j9, j14, j15, -⟩ := hJ
            have j9 := Eq1.out j9
            have j14 := Eq1.out j14
            have j15 := Eq1.out j15
            simp only [j9, j14, j15] at hK ⊢
            rw [if_neg (by simp [Region.wanted, yielded, undef])]
            exact hK.out _ _ (Below.refl _ _) Eq1.mk Fresh.no
          · intro p vs w' K hJ hp1 hp2 hS hR hK
            simp only [DepJ, List.getD_cons_zero, List.getD_cons_succ] at hJ
            obtain ⟨j9, j16, -⟩ := hJ
            have j9 := Eq1.out j9
            have j16 := Eq1.out j16
            simp only [j9, j16] at hK ⊢
            rw [if_neg (by simp [Region.wanted, yielded, undef])]
            exact hK.out _ _ (Below.refl _ _) Eq1.mk Fresh.no
          · intro p vs w' K hJ hp1 hp2 hS hR hK
            simp only [DepJ, List.getD_cons_zero, List.getD_cons_succ] at hJ
            obtain ⟨j9, j13, j17, -⟩ := hJ
            have j9 := Eq1.out j9
            have j13 := Eq1.out j13
            have j17 := Eq1.out j17
            simp only [j9, j13, j17] at hK ⊢
            rw [if_neg (by simp [Region.wanted, yielded, undef])]
            exact hK.out _ _ (Below.refl _ _) Eq1.mk Fresh.no
          · intro p vs w' K hJ hp1 hp2 hS hR hK
            simp only [DepJ, List.getD_cons_zero, List.getD_cons_succ] at hJ
            obtain ⟨j4, j9, j18, -⟩ := hJ
            have j4 := Eq1.out j4
            have j9 := Eq1.out j9
            have j18 := Eq1.out j18
            simp only [j4, j9, j18] at hK ⊢
            rw [if_pos (by rfl)]
            go_step
            exact hK.out _ _ (Below.refl _ _) Eq1.mk Fresh.no
          · intro p vs w' K hJ hp1 hp2 hS hR hK
            simp only [DepJ, List.getD_cons_zero, List.getD_cons_succ] at hJ
            obtain ⟨j4, j19, -⟩ := hJ
            have j4 := Eq1.out j4
            have j19 := Eq1.out j19
            simp only [j4, j19] at hK ⊢
            rw [if_pos (by rfl)]
            go_step
            exact hK.out _ _ (Below.refl _ _) Eq1.mk Fresh.no
        case hst_6 => refine ⟨fun _ _ _ _ h => h, fun _ _ _ _ h => h, fun _ _ _ _ h => h, fun _ _ _ _ h => h, fun _ _ _ _ h => h, fun _ _ _ _ h => h, fun _ _ _ _ h => h, fun _ _ _ _ h => h, fun _ _ _ _ h => h, fun _ _ _ _ h => h, fun _ _ _ _ h => h, fun _ _ _ _ h => h, fun _ _ _ _ h => h, fun _ _ _ _ h => h, fun _ _ _ _ h => h, fun _ _ _ _ h => h, fun _ _ _ _ h => h, fun _ _ _ _ h => h, fun _ _ _ _ h => h, fun _ _ _ _ h => h, fun _ _ _ _ h => h, trivial⟩
        intro vs w' hJ hD hS hR
        simp only [AllJ, Nat.reduceAdd] at hJ
        obtain ⟨v0, v1, v2, v3, v4, v5, v6, v7, v8, v9, v10, v11, v12, v13, v14, v15, v16, v17, v18, v19, v20, -⟩ := hJ
        clear C
        replace v0 := Eq1.out v0
        replace v1 := Eq1.out v1
        replace v2 := Eq1.out v2
        replace v3 := Eq1.out v3
        replace v4 := Eq1.out v4
        replace v5 := Eq1.out v5
        replace v6 := Eq1.out v6
        replace v7 := Eq1.out v7
        replace v8 := Eq1.out v8
        replace v9 := Eq1.out v9
        replace v10 := Eq1.out v10
        replace v11 := Eq1.out v11
        replace v12 := Eq1.out v12
        replace v13 := Eq1.out v13
        replace v14 := Eq1.out v14
        replace v15 := Eq1.out v15
        replace v16 := Eq1.out v16
        replace v17 := Eq1.out v17
        replace v18 := Eq1.out v18
        replace v19 := Eq1.out v19
        replace v20 := Eq1.out v20
        simp only [v0, v1, v2, v3, v4, v5, v6, v7, v8, v9, v10, v11, v12, v13, v14, v15, v16, v17, v18, v19, v20, List.drop_succ_cons, List.drop_zero]
        refine wpList_nil' ?_
        have H' : Hp _ _ _ := hS
        clear hD hR hS v0 v1 v2 v3 v4 v5 v6 v7 v8 v9 v10 v11 v12 v13 v14 v15 v16 v17 v18 v19 v20
        clear vs H
        have H := H'; clear H'; have C := Hp.facts H; simp only [Facts, factsL, and_true, true_and, List.set_cons_zero, List.set_cons_succ, List.setIfInBounds_toArray] at C
        (repeat' ((fail_if_success (with_reducible show bodyPost _ _ _ _ _ _)); first | ((with_reducible refine Hp.abs_alloc H ?_); intro b' w' H' hb'; (try simp only [hb']); clear hb'; ((try simp only [List.set_cons_zero, List.set_cons_succ, List.setIfInBounds_toArray] at H'); clear C H; have H := H'; clear H'; have C := Hp.facts H; simp only [Facts, factsL, and_true, true_and, List.set_cons_zero, List.set_cons_succ, List.setIfInBounds_toArray] at C)) | ((with_reducible show wpList _ _ _ _ _ (World.setCell _ _ _)); (with_reducible apply Hp.abs_gen H); (first | ((repeat (with_reducible apply Hp.set' 0)); (with_reducible exact H); (repeat rfl); intro w' H') | ((repeat (with_reducible apply Hp.set' 1)); (with_reducible exact H); (repeat rfl); intro w' H') | ((repeat (with_reducible apply Hp.set' 2)); (with_reducible exact H); (repeat rfl); intro w' H') | ((repeat (with_reducible apply Hp.set' 3)); (with_reducible exact H); (repeat rfl); intro w' H') | ((repeat (with_reducible apply Hp.set' 4)); (with_reducible exact H); (repeat rfl); intro w' H') | ((repeat (with_reducible apply Hp.set' 5)); (with_reducible exact H); (repeat rfl); intro w' H') | ((repeat (with_reducible apply Hp.set' 6)); (with_reducible exact H); (repeat rfl); intro w' H') | ((repeat (with_reducible apply Hp.set' 7)); (with_reducible exact H); (repeat rfl); intro w' H')); ((try simp only [List.set_cons_zero, List.set_cons_succ, List.setIfInBounds_toArray] at H'); clear C H; have H := H'; clear H'; have C := Hp.facts H; simp only [Facts, factsL, and_true, true_and, List.set_cons_zero, List.set_cons_succ, List.setIfInBounds_toArray] at C)) | go_values | go_skip | go_guarded | go_step | go_upon | go_back | (simp only [Int.not_lt, Int.not_le] at *; go_simp) | (go_values <;> (try go_simp)) | (go_ite <;> go_prune <;> (try go_simp)) | (split <;> (first | (rename_i hx; exact (hx _ rfl).elim) | go_prune))))
        try simp (disch := omega) only [decide_eq_true, decide_eq_false]
        obtain ⟨wR6, rfl⟩ := Hp.nameW H
        apply region_n (frm wR6.heap.size (fun _ => Hp _ _)) (frm_ok ?hfs_7) frm_sz [] [.light 0 0, .light 0 0, .light 0 0, .light 0 0, .light 0 0, .light 0 0, .light 0 0, .light 0 0, .light 0 0, .light 0 0, .light 0 0, .light 0 0, .light 0 0, .light 0 0, .light 0 0] [false, false, false, false, false, false, false, false, false, false, false, false, false, false, false] 15 54 [] [some 39, some 40, some 41, some 42, some 43, some 44, some 45, some 46, some 47, some 48, some 49, some 50, some 51, some 52, some 53] [[], [], [1], [0, 2], [3], [4], [4], [4, 5, 6], [4, 7], [4], [4], [4, 9, 10], [4, 11], [4, 8, 12], [4, 13]] [Eq1 _, Eq1 _, Eq1 _, Eq1 (.bool true), Eq1 _, Eq1 _, Eq1 _, Eq1 _, Eq1 _, Eq1 _, Eq1 _, Eq1 _, Eq1 _, Eq1 _, Eq1 _] ?hq1_7 ?hq2_7 ?hq3_7 ?hq4_7 ?hq5_7 ?hq6_7 _ ?hA_7 ?hst_7 ?h0_7 ?hsteps_7 ?hend_7
        case hq1_7 => kernel_rfl
        case hq2_7 => kernel_rfl
        case hq3_7 => kernel_rfl
        case hq5_7 => kernel_rfl
        case hq4_7 => rfl
        case hq6_7 => rfl
        case hA_7 => intro vs; simp only [fillD, Nat.reduceAdd, Act.put, List.setIfInBounds_toArray, List.set_cons_zero, List.set_cons_succ]; rfl
        case h0_7 => exact H.drew
        case hfs_7 => exact fun _ _ _ hb h => Hp.step h hb
        case hsteps_7 =>
          refine ⟨?_, ?_, ?_, ?_, ?_, ?_, ?_, ?_, ?_, ?_, ?_, ?_, ?_, ?_, ?_, trivial⟩
          · intro p vs w' K hJ hp1 hp2 hS hR hK
            rw [if_pos (by rfl)]
            go_step
            exact hK.out _ _ (Below.refl _ _) Eq1.mk Fresh.no
          · intro p vs w' K hJ hp1 hp2 hS hR hK
            rw [if_pos (by rfl)]
            go_step
            exact hK.out _ _ (Below.refl _ _) Eq1.mk Fresh.no
          · intro p vs w' K hJ hp1 hp2 hS hR hK
            simp only [DepJ, List.getD_cons_zero, List.getD_cons_succ] at hJ
            obtain ⟨j1, -⟩ := hJ
            have j1 := Eq1.out j1
            simp only [j1] at hK ⊢
            rw [if_pos (by rfl)]
            have C := Hp.facts hS
            simp only [Facts, factsL, and_true, true_and, List.set_cons_zero, List.set_cons_succ, List.setIfInBounds_toArray] at C
            have hsz := hR.1
            go_step
            exact hK.out _ _ (Below.refl _ _) Eq1.mk Fresh.no
          · intro p vs w' K hJ hp1 hp2 hS hR hK
            simp only [DepJ, List.getD_cons_zero, List.getD_cons_succ] at hJ
            obtain ⟨j0, j2, -⟩ := hJ
            have j0 := Eq1.out j0
            have j2 := Eq1.out j2
            simp only [j0, j2] at hK ⊢
            rw [if_pos (by rfl)]
            go_step
            exact hK.out _ _ (Below.refl _ _) (Eq1.of (by first | rfl | (simp; done) | (simp; omega))) Fresh.no
          · intro p vs w' K hJ hp1 hp2 hS hR hK
            simp only [DepJ, List.getD_cons_zero, List.getD_cons_succ] at hJ
            obtain ⟨j3, -⟩ := hJ
            have j3 := Eq1.out j3
            simp only [j3] at hK ⊢
            rw [if_pos (by rfl)]
            go_step
            exact hK.out _ _ (Below.refl _ _) Eq1.mk Fresh.no
          · intro p vs w' K hJ hp1 hp2 hS hR hK
            simp only [DepJ, List.getD_cons_zero, List.getD_cons_succ] at hJ
            obtain ⟨j4, -⟩ := hJ
            have j4 := Eq1.out j4
            simp only [j4] at hK ⊢
            rw [if_neg (by simp [Region.wanted, yielded, undef])]
            exact hK.out _ _ (Below.refl _ _) Eq1.mk Fresh.no
          · intro p vs w' K hJ hp1 hp2 hS hR hK
            simp only [DepJ, List.getD_cons_zero, List.getD_cons_succ] at hJ
            obtain ⟨j4, -⟩ := hJ
            have j4 := Eq1.out j4
            simp only [j4] at hK ⊢
            rw [if_neg (by simp [Region.wanted, yielded, undef])]
            exact hK.out _ _ (Below.refl _ _) Eq1.mk Fresh.no
          · intro p vs w' K hJ hp1 hp2 hS hR hK
            simp only [DepJ, List.getD_cons_zero, List.getD_cons_succ] at hJ
            obtain ⟨j4, j5, j6, -⟩ := hJ
            have j4 := Eq1.out j4
            have j5 := Eq1.out j5
            have j6 := Eq1.out j6
            simp only [j4, j5, j6] at hK ⊢
            rw [if_neg (by simp [Region.wanted, yielded, undef])]
            exact hK.out _ _ (Below.refl _ _) Eq1.mk Fresh.no
          · intro p vs w' K hJ hp1 hp2 hS hR hK
            simp only [DepJ, List.getD_cons_zero, List.getD_cons_succ] at hJ
            obtain ⟨j4, j7, -⟩ := hJ
            have j4 := Eq1.out j4
            have j7 := Eq1.out j7
            simp only [j4, j7] at hK ⊢
            rw [if_neg (by simp [Region.wanted, yielded, undef])]
            exact hK.out _ _ (Below.refl _ _) Eq1.mk Fresh.no
          · intro p vs w' K hJ hp1 hp2 hS hR hK
            simp only [DepJ, List.getD_cons_zero, List.getD_cons_succ] at hJ
            obtain ⟨j4, -⟩ := hJ
            have j4 := Eq1.out j4
            simp only [j4] at hK ⊢
            rw [if_neg (by simp [Region.wanted, yielded, undef])]
            exact hK.out _ _ (Below.refl _ _) Eq1.mk Fresh.no
          · intro p vs w' K hJ hp1 hp2 hS hR hK
            simp only [DepJ, List.getD_cons_zero, List.getD_cons_succ] at hJ
            obtain ⟨j4, -⟩ := hJ
            have j4 := Eq1.out j4
            simp only [j4] at hK ⊢
            rw [if_neg (by simp [Region.wanted, yielded, undef])]
            exact hK.out _ _ (Below.refl _ _) Eq1.mk Fresh.no
          · intro p vs w' K hJ hp1 hp2 hS hR hK
            simp only [DepJ, List.getD_cons_zero, List.getD_cons_succ] at hJ
            obtain ⟨j4, j9, j10, -⟩ := hJ
            have j4 := Eq1.out j4
            have j9 := Eq1.out j9
            have j10 := Eq1.out j10
            simp only [j4, j9, j10] at hK ⊢
            rw [if_neg (by simp [Region.wanted, yielded, undef])]
            exact hK.out _ _ (Below.refl _ _) Eq1.mk Fresh.no
          · intro p vs w' K hJ hp1 hp2 hS hR hK
            simp only [DepJ, List.getD_cons_zero, List.getD_cons_succ] at hJ
            obtain ⟨j4, j11, -⟩ := hJ
            have j4 := Eq1.out j4
            have j11 := Eq1.out j11
            simp only [j4, j11] at hK ⊢
            rw [if_neg (by simp [Region.wanted, yielded, undef])]
            exact hK.out _ _ (Below.refl _ _) Eq1.mk Fresh.no
          · intro p vs w' K hJ hp1 hp2 hS hR hK
            simp only [DepJ, List.getD_cons_zero, List.getD_cons_succ] at hJ
            obtain ⟨j4, j8, j12, -⟩ := hJ
            have j4 := Eq1.out j4
            have j8 := Eq1.out j8
            have j12 := Eq1.out j12
            simp only [j4, j8, j12] at hK ⊢
            rw [if_neg (by simp [Region.wanted, yielded, undef])]
            exact hK.out _ _ (Below.refl _ _) Eq1.mk Fresh.no
          · intro p vs w' K hJ hp1 hp2 hS hR hK
            simp only [DepJ, List.getD_cons_zero, List.getD_cons_succ] at hJ
            obtain ⟨j4, j13, -⟩ := hJ
            have j4 := Eq1.out j4
            have j13 := Eq1.out j13
            simp only [j4, j13] at hK ⊢
            rw [if_pos (by rfl)]
            go_step
            exact hK.out _ _ (Below.refl _ _) Eq1.mk Fresh.no
        case hst_7 => refine ⟨fun _ _ _ _ h => h, fun _ _ _ _ h => h, fun _ _ _ _ h => h, fun _ _ _ _ h => h, fun _ _ _ _ h => h, fun _ _ _ _ h => h, fun _ _ _ _ h => h, fun _ _ _ _ h => h, fun _ _ _ _ h => h, fun _ _ _ _ h => h, fun _ _ _ _ h => h, fun _ _ _ _ h => h, fun _ _ _ _ h => h, fun _ _ _ _ h => h, fun _ _ _ _ h => h, trivial⟩
        intro vs w' hJ hD hS hR
        simp only [AllJ, Nat.reduceAdd] at hJ
        obtain ⟨v0, v1, v2, v3, v4, v5, v6, v7, v8, v9, v10, v11, v12, v13, v14, -⟩ := hJ
        clear C
        replace v0 := Eq1.out v0
        replace v1 := Eq1.out v1
        replace v2 := Eq1.out v2
        replace v3 := Eq1.out v3
        replace v4 := Eq1.out v4
        replace v5 := Eq1.out v5
        replace v6 := Eq1.out v6
        replace v7 := Eq1.out v7
        replace v8 := Eq1.out v8
        replace v9 := Eq1.out v9
        replace v10 := Eq1.out v10
        replace v11 := Eq1.out v11
        replace v12 := Eq1.out v12
        replace v13 := Eq1.out v13
        replace v14 := Eq1.out v14
        simp only [v0, v1, v2, v3, v4, v5, v6, v7, v8, v9, v10, v11, v12, v13, v14, List.drop_succ_cons, List.drop_zero]
        refine wpList_nil' ?_
        have H' : Hp _ _ _ := hS
        clear hD hR hS v0 v1 v2 v3 v4 v5 v6 v7 v8 v9 v10 v11 v12 v13 v14
        clear vs H
        have H := H'; clear H'; have C := Hp.facts H; simp only [Facts, factsL, and_true, true_and, List.set_cons_zero, List.set_cons_succ, List.setIfInBounds_toArray] at C
        (repeat' ((fail_if_success (with_reducible show bodyPost _ _ _ _ _ _)); first | ((with_reducible refine Hp.abs_alloc H ?_); intro b' w' H' hb'; (try simp only [hb']); clear hb'; ((try simp only [List.set_cons_zero, List.set_cons_succ, List.setIfInBounds_toArray] at H'); clear C H; have H := H'; clear H'; have C := Hp.facts H; simp only [Facts, factsL, and_true, true_and, List.set_cons_zero, List.set_cons_succ, List.setIfInBounds_toArray] at C)) | ((with_reducible show wpList _ _ _ _ _ (World.setCell _ _ _)); (with_reducible apply Hp.abs_gen H); (first | ((repeat (with_reducible apply Hp.set' 0)); (with_reducible exact H); (repeat rfl); intro w' H') | ((repeat (with_reducible apply Hp.set' 1)); (with_reducible exact H); (repeat rfl); intro w' H') | ((repeat (with_reducible apply Hp.set' 2)); (with_reducible exact H); (repeat rfl); intro w' H') | ((repeat (with_reducible apply Hp.set' 3)); (with_reducible exact H); (repeat rfl); intro w' H') | ((repeat (with_reducible apply Hp.set' 4)); (with_reducible exact H); (repeat rfl); intro w' H') | ((repeat (with_reducible apply Hp.set' 5)); (with_reducible exact H); (repeat rfl); intro w' H') | ((repeat (with_reducible apply Hp.set' 6)); (with_reducible exact H); (repeat rfl); intro w' H') | ((repeat (with_reducible apply Hp.set' 7)); (with_reducible exact H); (repeat rfl); intro w' H')); ((try simp only [List.set_cons_zero, List.set_cons_succ, List.setIfInBounds_toArray] at H'); clear C H; have H := H'; clear H'; have C := Hp.facts H; simp only [Facts, factsL, and_true, true_and, List.set_cons_zero, List.set_cons_succ, List.setIfInBounds_toArray] at C)) | go_values | go_skip | go_guarded | go_step | go_upon | go_back | (simp only [Int.not_lt, Int.not_le] at *; go_simp) | (go_values <;> (try go_simp)) | (go_ite <;> go_prune <;> (try go_simp)) | (split <;> (first | (rename_i hx; exact (hx _ rfl).elim) | go_prune))))
        go_ret
        exact SameR.no (by decide) hne H.low
    · clear hcell hcell2 hA hA2
      by_cases h2 : n < m.length
      · have hne : l ≠ m := ne_len (by omega)
        (repeat' ((fail_if_success (with_reducible show bodyPost _ _ _ _ _ _)); first | ((with_reducible refine Hp.abs_alloc H ?_); intro b' w' H' hb'; (try simp only [hb']); clear hb'; ((try simp only [List.set_cons_zero, List.set_cons_succ, List.setIfInBounds_toArray] at H'); clear C H; have H := H'; clear H'; have C := Hp.facts H; simp only [Facts, factsL, and_true, true_and, List.set_cons_zero, List.set_cons_succ, List.setIfInBounds_toArray] at C)) | ((with_reducible show wpList _ _ _ _ _ (World.setCell _ _ _)); (with_reducible apply Hp.abs_gen H); (first | ((repeat (with_reducible apply Hp.set' 0)); (with_reducible exact H); (repeat rfl); intro w' H') | ((repeat (with_reducible apply Hp.set' 1)); (with_reducible exact H); (repeat rfl); intro w' H') | ((repeat (with_reducible apply Hp.set' 2)); (with_reducible exact H); (repeat rfl); intro w' H') | ((repeat (with_reducible apply Hp.set' 3)); (with_reducible exact H); (repeat rfl); intro w' H') | ((repeat (with_reducible apply Hp.set' 4)); (with_reducible exact H); (repeat rfl); intro w' H') | ((repeat (with_reducible apply Hp.set' 5)); (with_reducible exact H); (repeat rfl); intro w' H') | ((repeat (with_reducible apply Hp.set' 6)); (with_reducible exact H); (repeat rfl); intro w' H') | ((repeat (with_reducible apply Hp.set' 7)); (with_reducible exact H); (repeat rfl); intro w' H')); ((try simp only [List.set_cons_zero, List.set_cons_succ, List.setIfInBounds_toArray] at H'); clear C H; have H := H'; clear H'; have C := Hp.facts H; simp only [Facts, factsL, and_true, true_and, List.set_cons_zero, List.set_cons_succ, List.setIfInBounds_toArray] at C)) | go_values | go_skip | go_guarded | go_step | go_upon | go_back | (simp only [Int.not_lt, Int.not_le] at *; go_simp) | (go_values <;> (try go_simp)) | (go_ite <;> go_prune <;> (try go_simp)) | (split <;> (first | (rename_i hx; exact (hx _ rfl).elim) | go_prune))))
        try simp (disch := omega) only [decide_eq_true, decide_eq_false]
        obtain ⟨wR4, rfl⟩ := Hp.nameW H
        apply region_n (frm wR4.heap.size (fun _ => Hp _ _)) (frm_ok ?hfs_8) frm_sz [] [.light 0 0, .light 0 0, .light 0 0, .light 0 0, .light 0 0, .light 0 0, .light 0 0, .light 0 0, .light 0 0, .light 0 0, .light 0 0, .light 0 0, .light 0 0, .light 0 0, .light 0 0, .light 0 0, .light 0 0, .light 0 0, .light 0 0, .light 0 0, .light 0 0] [false, false, false, false, false, false, false, false, false, false, false, false, false, false, false, false, false, false, false, false, false] 21 54 [] [some 18, some 19, some 20, some 21, some 22, some 23, some 24, some 25, some 26, some 27, some 28, some 29, some 30, some 31, some 32, some 33, some 34, some 35, some 36, some 37, some 38] [[], [], [1], [0, 2], [3], [4], [4], [4, 6], [4, 5, 7], [4, 8], [9], [9], [9, 10, 11], [9, 12], [9], [9], [9, 14, 15], [9, 16], [9, 13, 17], [4, 9, 18], [4, 19]] [Eq1 _, Eq1 _, Eq1 _, Eq1 (.bool true), Eq1 _, Eq1 _, Eq1 _, Eq1 _, Eq1 _, Eq1 _, Eq1 _, Eq1 _, Eq1 _, Eq1 _, Eq1 _, Eq1 _, Eq1 _, Eq1 _, Eq1 _, Eq1 _, Eq1 _] ?hq1_8 ?hq2_8 ?hq3_8 ?hq4_8 ?hq5_8 ?hq6_8 _ ?hA_8 ?hst_8 ?h0_8 ?hsteps_8 ?hend_8
        case hq1_8 => kernel_rfl
        case hq2_8 => kernel_rfl
        case hq3_8 => kernel_rfl
        case hq5_8 => kernel_rfl
        case hq4_8 => rfl
        case hq6_8 => rfl
        case hA_8 => intro vs; simp only [fillD, Nat.reduceAdd, Act.put, List.setIfInBounds_toArray, List.set_cons_zero, List.set_cons_succ]; rfl
        case h0_8 => exact H.drew
        case hfs_8 => exact fun _ _ _ hb h => Hp.step h hb
        case hsteps_8 =>
          refine ⟨?_, ?_, ?_, ?_, ?_, ?_, ?_, ?_, ?_, ?_, ?_, ?_, ?_, ?_, ?_, ?_, ?_, ?_, ?_, ?_, ?_, trivial⟩
          · intro p vs w' K hJ hp1 hp2 hS hR hK
            rw [if_pos (by rfl)]
            go_step
            exact hK.out _ _ (Below.refl _ _) Eq1.mk Fresh.no
          · intro p vs w' K hJ hp1 hp2 hS hR hK
            rw [if_pos (by rfl)]
            go_step
            exact hK.out _ _ (Below.refl _ _) Eq1.mk Fresh.no
          · intro p vs w' K hJ hp1 hp2 hS hR hK
            simp only [DepJ, List.getD_cons_zero, List.getD_cons_succ] at hJ
            obtain ⟨j1, -⟩ := hJ
            have j1 := Eq1.out j1
            simp only [j1] at hK ⊢
            rw [if_pos (by rfl)]
            have C := Hp.facts hS
            simp only [Facts, factsL, and_true, true_and, List.set_cons_zero, List.set_cons_succ, List.setIfInBounds_toArray] at C
            have hsz := hR.1
            go_step
            exact hK.out _ _ (Below.refl _ _) Eq1.mk Fresh.no
          · intro p vs w' K hJ hp1 hp2 hS hR hK
            simp only [DepJ, List.getD_cons_zero, List.getD_cons_succ] at hJ
            obtain ⟨j0, j2, -⟩ := hJ
            have j0 := Eq1.out j0
            have j2 := Eq1.out j2
            simp only [j0, j2] at hK ⊢
            rw [if_pos (by rfl)]
            go_step
            exact hK.out _ _ (Below.refl _ _) (Eq1.of (by first | rfl | (simp; done) | (simp; omega))) Fresh.no
          · intro p vs w' K hJ hp1 hp2 hS hR hK
            simp only [DepJ, List.getD_cons_zero, List.getD_cons_succ] at hJ
            obtain ⟨j3, -⟩ := hJ
            have j3 := Eq1.out j3
            simp only [j3] at hK ⊢
            rw [if_pos (by rfl)]
            go_step
            exact hK.out _ _ (Below.refl _ _) Eq1.mk Fresh.no
          · intro p vs w' K hJ hp1 hp2 hS hR hK
            simp only [DepJ, List.getD_cons_zero, List.getD_cons_succ] at hJ
            obtain ⟨j4, -⟩ := hJ
            have j4 := Eq1.out j4
            simp only [j4] at hK ⊢
            rw [if_neg (by simp [Region.wanted, yielded, undef])]
            exact hK.out _ _ (Below.refl _ _) Eq1.mk Fresh.no
          · intro p vs w' K hJ hp1 hp2 hS hR hK
            simp only [DepJ, List.getD_cons_zero, List.getD_cons_succ] at hJ
            obtain ⟨j4, -⟩ := hJ
            have j4 := Eq1.out j4
            simp only [j4] at hK ⊢
            rw [if_neg (by simp [Region.wanted, yielded, undef])]
            exact hK.out _ _ (Below.refl _ _) Eq1.mk Fresh.no
          · intro p vs w' K hJ hp1 hp2 hS hR hK
            simp only [DepJ, List.getD_cons_zero, List.getD_cons_succ] at hJ
            obtain ⟨j4, j6, -⟩ := hJ
            have j4 := Eq1.out j4
            have j6 := Eq1.out j6
            simp only [j4, j6] at hK ⊢
            rw [if_neg (by simp [Region.wanted, yielded, undef])]
            exact hK.out _ _ (Below.refl _ _) Eq1.mk Fresh.no
          · intro p vs w' K hJ hp1 hp2 hS hR hK
            simp only [DepJ, List.getD_cons_zero, List.getD_cons_succ] at hJ
            obtain ⟨j4, j5, j7, -⟩ := hJ
            have j4 := Eq1.out j4
            have j5 := Eq1.out j5
            have j7 := Eq1.out j7
            simp only [j4, j5, j7] at hK ⊢
            rw [if_neg (by simp [Region.wanted, yielded, undef])]
            exact hK.out _ _ (Below.refl _ _) Eq1.mk Fresh.no
          · intro p vs w' K hJ hp1 hp2 hS hR hK
            simp only [DepJ, List.getD_cons_zero, List.getD_cons_succ] at hJ
            obtain ⟨j4, j8, -⟩ := hJ
            have j4 := Eq1.out j4
            have j8 := Eq1.out j8
            simp only [j4, j8] at hK ⊢
            rw [if_neg (by simp [Region.wanted, yielded, undef])]
            exact hK.out _ _ (Below.refl _ _) Eq1.mk Fresh.no
          · intro p vs w' K hJ hp1 hp2 hS hR hK
            simp only [DepJ, List.getD_cons_zero, List.getD_cons_succ] at hJ
            obtain ⟨j9, -⟩ := hJ
            have j9 := Eq1.out j9
            simp only [j9] at hK ⊢
            rw [if_neg (by simp [Region.wanted, yielded, undef])]
            exact hK.out _ _ (Below.refl _ _) Eq1.mk Fresh.no
          · intro p vs w' K hJ hp1 hp2 hS hR hK
            simp only [DepJ, List.getD_cons_zero, List.getD_cons_succ] at hJ
            obtain ⟨j9, -⟩ := hJ
            have j9 := Eq1.out j9
            simp only [j9] at hK ⊢
            rw [if_neg (by simp [Region.wanted, yielded, undef])]
            exact hK.out _ _ (Below.refl _ _) Eq1.mk Fresh.no
          · intro p vs w' K hJ hp1 hp2 hS hR hK
            simp only [DepJ, List.getD_cons_zero, List.getD_cons_succ] at hJ
            obtain ⟨j9, j10, j11, -⟩ := hJ
            have j9 := Eq1.out j9
            have j10 := Eq1.out j10
            have j11 := Eq1.out j11
            simp only [j9, j10, j11] at hK ⊢
            rw [if_neg (by simp [Region.wanted, yielded, undef])]
            exact hK.out _ _ (Below.refl _ _) Eq1.mk Fresh.no
          · intro p vs w' K hJ hp1 hp2 hS hR hK
            simp only [DepJ, List.getD_cons_zero, List.getD_cons_succ] at hJ
            obtain ⟨j9, j12, -⟩ := hJ
            have j9 := Eq1.out j9
            have j12 := Eq1.out j12
            simp only [j9, j12] at hK ⊢
            rw [if_neg (by simp [Region.wanted, yielded, undef])]
            exact hK.out _ _ (Below.refl _ _) Eq1.mk Fresh.no
          · intro p vs w' K hJ hp1 hp2 hS hR hK
            simp only [DepJ, List.getD_cons_zero, List.getD_cons_succ] at hJ
            obtain ⟨j9, -⟩ := hJ
            have j9 := Eq1.out j9
            simp only [j9] at hK ⊢
            rw [if_neg (by simp [Region.wanted, yielded, undef])]
            exact hK.out _ _ (Below.refl _ _) Eq1.mk Fresh.no
          · intro p vs w' K hJ hp1 hp2 hS hR hK
            simp only [DepJ, List.getD_cons_zero, List.getD_cons_succ] at hJ
            obtain ⟨j9, -⟩ := hJ
            have j9 := Eq1.out j9
            simp only [j9] at hK ⊢
            rw [if_neg (by simp [Region.wanted, yielded, undef])]
            exact hK.out _ _ (Below.refl _ _) Eq1.mk Fresh.no
          · intro p vs w' K hJ hp1 hp2 hS hR hK
            simp only [DepJ, List.getD_cons_zero, List.getD_cons_succ] at hJ
            obtain ⟨j9, j14, j15, -⟩ := hJ
            have j9 := Eq1.out j9
            have j14 := Eq1.out j14
            have j15 := Eq1.out j15
            simp only [j9, j14, j15] at hK ⊢
            rw [if_neg (by simp [Region.wanted, yielded, undef])]
            exact hK.out _ _ (Below.refl _ _) Eq1.mk Fresh.no
          · intro p vs w' K hJ hp1 hp2 hS hR hK
            simp only [DepJ, List.getD_cons_zero, List.getD_cons_succ] at hJ
            obtain ⟨j9, j16, -⟩ := hJ
            have j9 := Eq1.out j9
            have j16 := Eq1.out j16
            simp only [j9, j16] at hK ⊢
            rw [if_neg (by simp [Region.wanted, yielded, undef])]
            exact hK.out _ _ (Below.refl _ _) Eq1.mk Fresh.no
          · intro p vs w' K hJ hp1 hp2 hS hR hK
            simp only [DepJ, List.getD_cons_zero, List.getD_cons_succ] at hJ
            obtain ⟨j9, j13, j17, -⟩ := hJ
            have j9 := Eq1.out j9
            have j13 := Eq1.out j13
            have j17 := Eq1.out j17
            simp only [j9, j13, j17] at hK ⊢
            rw [if_neg (by simp [Region.wanted, yielded, undef])]
            exact hK.out _ _ (Below.refl _ _) Eq1.mk Fresh.no
          · intro p vs w' K hJ hp1 hp2 hS hR hK
            simp only [DepJ, List.getD_cons_zero, List.getD_cons_succ] at hJ
            obtain ⟨j4, j9, j18, -⟩ := hJ
            have j4 := Eq1.out j4
            have j9 := Eq1.out j9
            have j18 := Eq1.out j18
            simp only [j4, j9, j18] at hK ⊢
            rw [if_neg (by simp [Region.wanted, yielded, undef])]
            exact hK.out _ _ (Below.refl _ _) Eq1.mk Fresh.no
          · intro p vs w' K hJ hp1 hp2 hS hR hK
            simp only [DepJ, List.getD_cons_zero, List.getD_cons_succ] at hJ
            obtain ⟨j4, j19, -⟩ := hJ
            have j4 := Eq1.out j4
            have j19 := Eq1.out j19
            simp only [j4, j19] at hK ⊢
            rw [if_pos (by rfl)]
            go_step
            exact hK.out _ _ (Below.refl _ _) Eq1.mk Fresh.no
        case hst_8 => refine ⟨fun _ _ _ _ h => h, fun _ _ _ _ h => h, fun _ _ _ _ h => h, fun _ _ _ _ h => h, fun _ _ _ _ h => h, fun _ _ _ _ h => h, fun _ _ _ _ h => h, fun _ _ _ _ h => h, fun _ _ _ _ h => h, fun _ _ _ _ h => h, fun _ _ _ _ h => h, fun _ _ _ _ h => h, fun _ _ _ _ h => h, fun _ _ _ _ h => h, fun _ _ _ _ h => h, fun _ _ _ _ h => h, fun _ _ _ _ h => h, fun _ _ _ _ h => h, fun _ _ _ _ h => h, fun _ _ _ _ h => h, fun _ _ _ _ h => h, trivial⟩
        intro vs w' hJ hD hS hR
        simp only [AllJ, Nat.reduceAdd] at hJ
        obtain ⟨v0, v1, v2, v3, v4, v5, v6, v7, v8, v9, v10, v11, v12, v13, v14, v15, v16, v17, v18, v19, v20, -⟩ := hJ
        clear C
        replace v0 := Eq1.out v0
        replace v1 := Eq1.out v1
        replace v2 := Eq1.out v2
        replace v3 := Eq1.out v3
        replace v4 := Eq1.out v4
        replace v5 := Eq1.out v5
        replace v6 := Eq1.out v6
        replace v7 := Eq1.out v7
        replace v8 := Eq1.out v8
        replace v9 := Eq1.out v9
        replace v10 := Eq1.out v10
        replace v11 := Eq1.out v11
        replace v12 := Eq1.out v12
        replace v13 := Eq1.out v13
        replace v14 := Eq1.out v14
        replace v15 := Eq1.out v15
        replace v16 := Eq1.out v16
        replace v17 := Eq1.out v17
        replace v18 := Eq1.out v18
        replace v19 := Eq1.out v19
        replace v20 := Eq1.out v20
        simp only [v0, v1, v2, v3, v4, v5, v6, v7, v8, v9, v10, v11, v12, v13, v14, v15, v16, v17, v18, v19, v20, List.drop_succ_cons, List.drop_zero]
        refine wpList_nil' ?_
        have H' : Hp _ _ _ := hS
        clear hD hR hS v0 v1 v2 v3 v4 v5 v6 v7 v8 v9 v10 v11 v12 v13 v14 v15 v16 v17 v18 v19 v20
        clear vs H
        have H := H'; clear H'; have C := Hp.facts H; simp only [Facts, factsL, and_true, true_and, List.set_cons_zero, List.set_cons_succ, List.setIfInBounds_toArray] at C
        (repeat' ((fail_if_success (with_reducible show bodyPost _ _ _ _ _ _)); first | ((with_reducible refine Hp.abs_alloc H ?_); intro b' w' H' hb'; (try simp only [hb']); clear hb'; ((try simp only [List.set_cons_zero, List.set_cons_succ, List.setIfInBounds_toArray] at H'); clear C H; have H := H'; clear H'; have C := Hp.facts H; simp only [Facts, factsL, and_true, true_and, List.set_cons_zero, List.set_cons_succ, List.setIfInBounds_toArray] at C)) | ((with_reducible show wpList _ _ _ _ _ (World.setCell _ _ _)); (with_reducible apply Hp.abs_gen H); (first | ((repeat (with_reducible apply Hp.set' 0)); (with_reducible exact H); (repeat rfl); intro w' H') | ((repeat (with_reducible apply Hp.set' 1)); (with_reducible exact H); (repeat rfl); intro w' H') | ((repeat (with_reducible apply Hp.set' 2)); (with_reducible exact H); (repeat rfl); intro w' H') | ((repeat (with_reducible apply Hp.set' 3)); (with_reducible exact H); (repeat rfl); intro w' H') | ((repeat (with_reducible apply Hp.set' 4)); (with_reducible exact H); (repeat rfl); intro w' H') | ((repeat (with_reducible apply Hp.set' 5)); (with_reducible exact H); (repeat rfl); intro w' H') | ((repeat (with_reducible apply Hp.set' 6)); (with_reducible exact H); (repeat rfl); intro w' H') | ((repeat (with_reducible apply Hp.set' 7)); (with_reducible exact H); (repeat rfl); intro w' H')); ((try simp only [List.set_cons_zero, List.set_cons_succ, List.setIfInBounds_toArray] at H'); clear C H; have H := H'; clear H'; have C := Hp.facts H; simp only [Facts, factsL, and_true, true_and, List.set_cons_zero, List.set_cons_succ, List.setIfInBounds_toArray] at C)) | go_values | go_skip | go_guarded | go_step | go_upon | go_back | (simp only [Int.not_lt, Int.not_le] at *; go_simp) | (go_values <;> (try go_simp)) | (go_ite <;> go_prune <;> (try go_simp)) | (split <;> (first | (rename_i hx; exact (hx _ rfl).elim) | go_prune))))
        go_ret
        exact SameR.no (by decide) hne H.low
      · (repeat' ((fail_if_success (with_reducible show bodyPost _ _ _ _ _ _)); first | ((with_reducible refine Hp.abs_alloc H ?_); intro b' w' H' hb'; (try simp only [hb']); clear hb'; ((try simp only [List.set_cons_zero, List.set_cons_succ, List.setIfInBounds_toArray] at H'); clear C H; have H := H'; clear H'; have C := Hp.facts H; simp only [Facts, factsL, and_true, true_and, List.set_cons_zero, List.set_cons_succ, List.setIfInBounds_toArray] at C)) | ((with_reducible show wpList _ _ _ _ _ (World.setCell _ _ _)); (with_reducible apply Hp.abs_gen H); (first | ((repeat (with_reducible apply Hp.set' 0)); (with_reducible exact H); (repeat rfl); intro w' H') | ((repeat (with_reducible apply Hp.set' 1)); (with_reducible exact H); (repeat rfl); intro w' H') | ((repeat (with_reducible apply Hp.set' 2)); (with_reducible exact H); (repeat rfl); intro w' H') | ((repeat (with_reducible apply Hp.set' 3)); (with_reducible exact H); (repeat rfl); intro w' H') | ((repeat (with_reducible apply Hp.set' 4)); (with_reducible exact H); (repeat rfl); intro w' H') | ((repeat (with_reducible apply Hp.set' 5)); (with_reducible exact H); (repeat rfl); intro w' H') | ((repeat (with_reducible apply Hp.set' 6)); (with_reducible exact H); (repeat rfl); intro w' H') | ((repeat (with_reducible apply Hp.set' 7)); (with_reducible exact H); (repeat rfl); intro w' H')); ((try simp only [List.set_cons_zero, List.set_cons_succ, List.setIfInBounds_toArray] at H'); clear C H; have H := H'; clear H'; have C := Hp.facts H; simp only [Facts, factsL, and_true, true_and, List.set_cons_zero, List.set_cons_succ, List.setIfInBounds_toArray] at C)) | go_values | go_skip | go_guarded | go_step | go_upon | go_back | (simp only [Int.not_lt, Int.not_le] at *; go_simp) | (go_values <;> (try go_simp)) | (go_ite <;> go_prune <;> (try go_simp)) | (split <;> (first | (rename_i hx; exact (hx _ rfl).elim) | go_prune))))
        go_ret
        have h := HK.out
        rw [List.take_of_length_le (by omega), List.take_of_length_le (by omega)] at h
        exact ⟨⟨0, rfl, ⟨fun _ => h, fun _ => rfl⟩⟩, H.low⟩
set_option maxHeartbeats 1600000 in
theorem zsame_any (l m : List Int) (v u : Value) (w : World) (hb : Zs w v l) (hd : Zs w u m) (hl : l.length ≤ 1000000) (hm : m.length ≤ 1000000) :
    Calls Tryd.prog 15 #[v, u] w fun e w' => e = .returned (.bool (decide (l = m))) ∧ Below w.heap.size w w' := by
  have H := Hp.start w
  have C : True := trivial
  go_enter Tryd.func15, Tryd.ntmps15
  (repeat' ((fail_if_success (with_reducible show bodyPost _ _ _ _ _ _)); first | ((with_reducible refine Hp.abs_alloc H ?_); intro b' w' H' hb'; (try simp only [hb']); clear hb'; ((try simp only [List.set_cons_zero, List.set_cons_succ, List.setIfInBounds_toArray] at H'); clear C H; have H := H'; clear H'; have C := Hp.facts H; simp only [Facts, factsL, and_true, true_and, List.set_cons_zero, List.set_cons_succ, List.setIfInBounds_toArray] at C)) | ((with_reducible show wpList _ _ _ _ _ (World.setCell _ _ _)); (with_reducible apply Hp.abs_gen H); (first | ((repeat (with_reducible apply Hp.set' 0)); (with_reducible exact H); (repeat rfl); intro w' H') | ((repeat (with_reducible apply Hp.set' 1)); (with_reducible exact H); (repeat rfl); intro w' H') | ((repeat (with_reducible apply Hp.set' 2)); (with_reducible exact H); (repeat rfl); intro w' H') | ((repeat (with_reducible apply Hp.set' 3)); (with_reducible exact H); (repeat rfl); intro w' H') | ((repeat (with_reducible apply Hp.set' 4)); (with_reducible exact H); (repeat rfl); intro w' H') | ((repeat (with_reducible apply Hp.set' 5)); (with_reducible exact H); (repeat rfl); intro w' H') | ((repeat (with_reducible apply Hp.set' 6)); (with_reducible exact H); (repeat rfl); intro w' H') | ((repeat (with_reducible apply Hp.set' 7)); (with_reducible exact H); (repeat rfl); intro w' H')); ((try simp only [List.set_cons_zero, List.set_cons_succ, List.setIfInBounds_toArray] at H'); clear C H; have H := H'; clear H'; have C := Hp.facts H; simp only [Facts, factsL, and_true, true_and, List.set_cons_zero, List.set_cons_succ, List.setIfInBounds_toArray] at C)) | go_values | go_skip | go_guarded | go_step | go_upon | go_back | (simp only [Int.not_lt, Int.not_le] at *; go_simp) | (go_values <;> (try go_simp)) | (go_ite <;> go_prune <;> (try go_simp)) | (split <;> (first | (rename_i hx; exact (hx _ rfl).elim) | go_prune))))
  refine (zcompare_any l m _ _ _ hb hd hl hm).mono ?_
  rintro e' w' ⟨⟨r, rfl, hr⟩, hb'⟩
  have gr := Lib.hid hr
  clear hr
  (have H' := Hp.step H hb'; clear hb'; ((try simp only [List.set_cons_zero, List.set_cons_succ, List.setIfInBounds_toArray] at H'); clear C H; have H := H'; clear H'; have C := Hp.facts H; simp only [Facts, factsL, and_true, true_and, List.set_cons_zero, List.set_cons_succ, List.setIfInBounds_toArray] at C))
  (repeat' ((fail_if_success (with_reducible show bodyPost _ _ _ _ _ _)); first | ((with_reducible refine Hp.abs_alloc H ?_); intro b' w' H' hb'; (try simp only [hb']); clear hb'; ((try simp only [List.set_cons_zero, List.set_cons_succ, List.setIfInBounds_toArray] at H'); clear C H; have H := H'; clear H'; have C := Hp.facts H; simp only [Facts, factsL, and_true, true_and, List.set_cons_zero, List.set_cons_succ, List.setIfInBounds_toArray] at C)) | ((with_reducible show wpList _ _ _ _ _ (World.setCell _ _ _)); (with_reducible apply Hp.abs_gen H); (first | ((repeat (with_reducible apply Hp.set' 0)); (with_reducible exact H); (repeat rfl); intro w' H') | ((repeat (with_reducible apply Hp.set' 1)); (with_reducible exact H); (repeat rfl); intro w' H') | ((repeat (with_reducible apply Hp.set' 2)); (with_reducible exact H); (repeat rfl); intro w' H') | ((repeat (with_reducible apply Hp.set' 3)); (with_reducible exact H); (repeat rfl); intro w' H') | ((repeat (with_reducible apply Hp.set' 4)); (with_reducible exact H); (repeat rfl); intro w' H') | ((repeat (with_reducible apply Hp.set' 5)); (with_reducible exact H); (repeat rfl); intro w' H') | ((repeat (with_reducible apply Hp.set' 6)); (with_reducible exact H); (repeat rfl); intro w' H') | ((repeat (with_reducible apply Hp.set' 7)); (with_reducible exact H); (repeat rfl); intro w' H')); ((try simp only [List.set_cons_zero, List.set_cons_succ, List.setIfInBounds_toArray] at H'); clear C H; have H := H'; clear H'; have C := Hp.facts H; simp only [Facts, factsL, and_true, true_and, List.set_cons_zero, List.set_cons_succ, List.setIfInBounds_toArray] at C)) | go_values | go_skip | go_guarded | go_step | go_upon | go_back | (simp only [Int.not_lt, Int.not_le] at *; go_simp) | (go_values <;> (try go_simp)) | (go_ite <;> go_prune <;> (try go_simp)) | (split <;> (first | (rename_i hx; exact (hx _ rfl).elim) | go_prune))))
  go_ret
  refine ⟨ret_bool ?_, H.low⟩
  have h := gr.out
  by_cases h0 : r = 0
  · rw [decide_eq_true (h.1 h0), h0]
    rfl
  · rw [decide_eq_false (fun e => h0 (h.2 e)), beq_eq_false_iff_ne]
    exact h0
end Go.Proofs.YtmmjghdobdendaaDoor

