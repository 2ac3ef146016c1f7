/- Lemmas and walks on the way to the seat's laws; each theorem says its own conditions. -/
import Derived.Test.YtmmjghdobdendaaDoorK22
import Derived.Test.YtmmjghdobdendaaDoorLiftS
set_option linter.unusedSimpArgs false
set_option linter.unusedVariables false
set_option linter.unusedSimpArgs false
set_option linter.unusedVariables false
set_option maxRecDepth 100000
namespace Go.Proofs.YtmmjghdobdendaaDoor
open Go.RowKit Go.Mem Go.Reg Oct Bit Go.Txt Go.Shelf Go.LawLift Go.Fold
def MRel (w : World) (M : List (List UInt8)) (v ix : Value) (wr : World) : Prop := ∃ i : Nat, i ≤ M.length ∧ ix = .int .i64 i ∧ Hp w [.row 9 1 v i (tvs (M.take i))] wr
theorem MRel.mk {w wr : World} {M : List (List UInt8)} {v ix : Value} (i : Nat) (h1 : i ≤ M.length) (h2 : ix = .int .i64 i) (h3 : Hp w [.row 9 1 v i (tvs (M.take i))] wr) : MRel w M v ix wr := ⟨i, h1, h2, h3⟩
/-- At a place each of the first rows goes on as the first one does. -/
def Ups (ls : List (List UInt8)) (n i : Nat) : Prop := ∀ j, (hj : j < ls.length) → j < i → ∃ (h0 : 0 < ls.length) (h1 : n < ls[j].length) (h2 : n < ls[0].length), ls[j][n] = ls[0][n]
theorem ups_no {ls : List (List UInt8)} (h0 : 0 < ls.length) (h : Ups ls (comms ls) ls.length) : False := by
  obtain ⟨_, h1, h2, -⟩ := h 0 h0 h0
  have hc : comms ls = commsN ls (ls.length - 1) := rfl
  have := commsN_ge ls (comms ls + 1) (by rw [head_at ls [] h0]; omega) (ls.length - 1) fun j j1 j2 => by
    have hj : j < ls.length := by omega
    obtain ⟨_, k1, k2, e⟩ := h j hj hj
    rw [head_at ls [] h0, List.getElem?_eq_getElem hj]
    refine comm_up ?_ k2 k1 e.symm
    have := commsN_at ls (ls.length - 1) j j1 (by omega)
    rwa [head_at ls [] h0, List.getElem?_eq_getElem hj, ← hc] at this
  omega
theorem longs_at {ls : List (List UInt8)} (h0 : 0 < ls.length) {j : Nat} (hj : j < ls.length) : comms ls ≤ ls[j].length ∧ ls[j].take (comms ls) = ls[0].take (comms ls) := by
  by_cases h : j = 0
  · subst h
    exact ⟨commsN_le0 ls _ h0, rfl⟩
  · have := commsN_at ls (ls.length - 1) j (by omega) (by omega)
    rw [head_at ls [] h0, List.getElem?_eq_getElem hj] at this
    have hc : comms ls ≤ comm ls[0] ls[j] := this
    have hb := comm_le ls[0] ls[j]
    refine ⟨by omega, ?_⟩
    have ht := comm_take ls[0] ls[j]
    have := congrArg (List.take (comms ls)) ht
    rw [List.take_take, List.take_take, Nat.min_eq_left hc] at this
    exact this.symm
def ARel (w : World) (M ls : List (List UInt8)) (n : Nat) (v al ix : Value) (wr : World) : Prop :=
  ∃ (i : Nat) (b : Bool), i ≤ M.length ∧ ix = .int .i64 i ∧ al = .bool b ∧ Kp (b = true → Ups ls n i) ∧ Hp w [.row 9 1 v M.length (tvs M)] wr
theorem ARel.mk {w wr : World} {M ls : List (List UInt8)} {n : Nat} {v al ix : Value} (i : Nat) (b : Bool) (h1 : i ≤ M.length) (h2 : ix = .int .i64 i) (h3 : al = .bool b) (h4 : b = true → Ups ls n i) (h5 : Hp w [.row 9 1 v M.length (tvs M)] wr) : ARel w M ls n v al ix wr := ⟨i, b, h1, h2, h3, ⟨h4⟩, h5⟩
theorem tvs_at2 {x : List (List UInt8)} {i : Nat} (h : i < x.length) : (tvs x)[i]? = some (.string ⟨x[i].toArray⟩) := by
  unfold tvs
  rw [List.getElem?_map, List.getElem?_eq_getElem h]
  rfl
theorem ext_take (l : List UInt8) (n : Nat) : (ByteArray.mk l.toArray).extract 0 n = ⟨(l.take n).toArray⟩ := by
  apply ByteArray.ext
  apply Array.ext'
  rw [ByteArray.data_extract]
  simp
set_option maxHeartbeats 6400000 in
theorem foldLongest_any (zs : List ByteArray) (v : Value) (w : World) (hT : Tabs w) (hb : Sl w v (zs.map Value.string)) (hzl : ∀ z ∈ zs, z.size ≤ 9223372036854775807) :
    Calls Tryd.prog 8 #[v] w fun e w' => e = .returned (.bool true) ∧ Below w.heap.size w w' := by
  obtain ⟨i0, hi, hz0, hz1, hz2⟩ := info_parts info_str
  obtain ⟨A, c, rfl, hlc, hcm, hA, hcell⟩ := id hb.openK
  obtain ⟨M, hM⟩ : ∃ M, (zs.take 20).map (fun s => s.data.toList.take 100) = M := ⟨_, rfl⟩
  have hMl : M.length = min 20 zs.length := by rw [← hM]; simp
  have hMa : ∀ i, (h : i < M.length) → ∃ h2 : i < zs.length, (zs[i]).data.toList.take 100 = M[i] := fun i h => ⟨by omega, by subst hM; simp⟩
  have hMm : ∀ m ∈ M, m.length ≤ 100 := by
    intro m hm
    rw [← hM] at hm
    obtain ⟨s, -, rfl⟩ := List.mem_map.1 hm
    rw [List.length_take]
    omega
  clear hM
  have H := Hp.start w
  have C : True := trivial
  go_enter Tryd.func8, Tryd.ntmps8
  (repeat' ((fail_if_success (with_reducible show bodyPost _ _ _ _ _ _)); first | ((with_reducible refine Hp.abs_alloc H ?_); intro b' w' H' hb'; (try simp only [hb']); clear hb'; ((try simp only [List.set_cons_zero, List.set_cons_succ, List.setIfInBounds_toArray] at H'); clear C H; have H := H'; clear H'; have C := Hp.facts H; simp only [Facts, factsL, and_true, true_and, List.set_cons_zero, List.set_cons_succ, List.setIfInBounds_toArray] at C)) | ((with_reducible show wpList _ _ _ _ _ (World.setCell _ _ _)); (with_reducible apply Hp.abs_gen H); (first | ((repeat (with_reducible apply Hp.set' 0)); (with_reducible exact H); (repeat rfl); intro w' H') | ((repeat (with_reducible apply Hp.set' 1)); (with_reducible exact H); (repeat rfl); intro w' H') | ((repeat (with_reducible apply Hp.set' 2)); (with_reducible exact H); (repeat rfl); intro w' H') | ((repeat (with_reducible apply Hp.set' 3)); (with_reducible exact H); (repeat rfl); intro w' H') | ((repeat (with_reducible apply Hp.set' 4)); (with_reducible exact H); (repeat rfl); intro w' H') | ((repeat (with_reducible apply Hp.set' 5)); (with_reducible exact H); (repeat rfl); intro w' H') | ((repeat (with_reducible apply Hp.set' 6)); (with_reducible exact H); (repeat rfl); intro w' H') | ((repeat (with_reducible apply Hp.set' 7)); (with_reducible exact H); (repeat rfl); intro w' H')); ((try simp only [List.set_cons_zero, List.set_cons_succ, List.setIfInBounds_toArray] at H'); clear C H; have H := H'; clear H'; have C := Hp.facts H; simp only [Facts, factsL, and_true, true_and, List.set_cons_zero, List.set_cons_succ, List.setIfInBounds_toArray] at C)) | go_values | go_skip | go_guarded | go_step | go_upon | go_back | (simp only [Int.not_lt, Int.not_le] at *; go_simp) | (go_values <;> (try go_simp)) | (go_ite <;> go_prune <;> (try go_simp)) | (split <;> (first | (rename_i hx; exact (hx _ rfl).elim) | go_prune))))
  go_loopw [3, 4] (fun mv ix wr => MRel w M mv ix wr) (fun _ ix _ => M.length - (intOf ix).toNat)
  case atStart => exact MRel.mk 0 (Nat.zero_le _) rfl (Hp.nilRow H _ _)
  case round =>
    clear H C
    obtain ⟨i, hi1, rfl, H⟩ := hrel
    obtain ⟨A2, c2, rfl⟩ := Go.LawLift.own_form (ownsOf H 0 rfl)
    have C := Hp.facts H
    simp only [Facts, factsL, and_true, true_and, List.set_cons_zero, List.set_cons_succ, List.setIfInBounds_toArray] at C
    by_cases hlt : i < M.length
    · obtain ⟨hz, hy⟩ := hMa i hlt
      obtain ⟨b, o, rfl, hgl, hcl⟩ := hcell i hz
      have hb0 := hcl i hz
      have hi20 : i < 20 := by omega
      have gt := Kp.mk (Fold.take_snoc M i hlt)
      have hext : (zs[i]).extract 0 (min ((zs[i].size : Nat) : Int) 100).toNat = ⟨(M[i]).toArray⟩ := by
        rw [strTake, show (min ((zs[i].size : Nat) : Int) 100).toNat = min zs[i].size 100 by omega, takeMin, hy]
      clear hcl hcell hy hMa hMm
      generalize M[i] = y at *
      generalize zs[i] = s at *
      have hm1 : (0 : Int) ≤ min (s.size : Int) 100 ∧ min (s.size : Int) 100 ≤ (s.size : Int) := by omega
      have gMl := Kp.mk hMl
      clear hMl
      (repeat' ((fail_if_success (with_reducible show bodyPost _ _ _ _ _ _)); first | ((with_reducible refine Hp.abs_alloc H ?_); intro b' w' H' hb'; (try simp only [hb']); clear hb'; ((try simp only [List.set_cons_zero, List.set_cons_succ, List.setIfInBounds_toArray] at H'); clear C H; have H := H'; clear H'; have C := Hp.facts H; simp only [Facts, factsL, and_true, true_and, List.set_cons_zero, List.set_cons_succ, List.setIfInBounds_toArray] at C)) | ((with_reducible show wpList _ _ _ _ _ (World.setCell _ _ _)); (with_reducible apply Hp.abs_gen H); (first | ((repeat (with_reducible apply Hp.set' 0)); (with_reducible exact H); (repeat rfl); intro w' H') | ((repeat (with_reducible apply Hp.set' 1)); (with_reducible exact H); (repeat rfl); intro w' H') | ((repeat (with_reducible apply Hp.set' 2)); (with_reducible exact H); (repeat rfl); intro w' H') | ((repeat (with_reducible apply Hp.set' 3)); (with_reducible exact H); (repeat rfl); intro w' H') | ((repeat (with_reducible apply Hp.set' 4)); (with_reducible exact H); (repeat rfl); intro w' H') | ((repeat (with_reducible apply Hp.set' 5)); (with_reducible exact H); (repeat rfl); intro w' H') | ((repeat (with_reducible apply Hp.set' 6)); (with_reducible exact H); (repeat rfl); intro w' H') | ((repeat (with_reducible apply Hp.set' 7)); (with_reducible exact H); (repeat rfl); intro w' H')); ((try simp only [List.set_cons_zero, List.set_cons_succ, List.setIfInBounds_toArray] at H'); clear C H; have H := H'; clear H'; have C := Hp.facts H; simp only [Facts, factsL, and_true, true_and, List.set_cons_zero, List.set_cons_succ, List.setIfInBounds_toArray] at C)) | go_values | go_skip | go_guarded | go_step | go_upon | go_back | (simp only [Int.not_lt, Int.not_le] at *; go_simp) | (go_values <;> (try go_simp)) | (go_ite <;> go_prune <;> (try go_simp)) | (split <;> (first | (rename_i hx; exact (hx _ rfl).elim) | go_prune))))
      try simp (disch := omega) only [decide_eq_true, decide_eq_false]
      obtain ⟨wR5, rfl⟩ := Hp.nameW H
      apply region_n (frm wR5.heap.size (fun _ => Hp _ _)) (frm_ok ?hfs_1) frm_sz [] [.light 0 0, .light 0 0, .light 0 0, .light 0 0, .light 0 0, .light 0 0, .light 0 0, .light 0 0, .light 0 0, .light 0 0, .light 0 0, .light 0 0, .light 0 0] [false, false, false, false, false, false, false, false, false, false, false, false, true] 13 103 [13, 3, 3, 4, 11, 7, 7, 8, 9, 10, 11, 12, 13] [some 20, some 21, some 22, some 23, some 24, some 25, some 26, some 27, some 28, some 29, some 30, some 31, some 32] [[], [], [], [1, 2], [3], [], [], [5, 6], [7], [8], [9], [4, 10], [11]] [Eq1 _, Eq1 _, Eq1 _, Eq1 _, Eq1 _, Eq1 _, Eq1 _, Eq1 _, Eq1 _, Eq1 _, Eq1 _, Eq1 (.string ⟨y.toArray⟩), NewSl wR5.heap.size _ _ _] ?hq1_1 ?hq2_1 ?hq3_1 ?hq4_1 ?hq5_1 ?hq6_1 _ ?hA_1 ?hst_1 ?h0_1 ?hsteps_1 ?hend_1
      case hq1_1 => kernel_rfl
      case hq2_1 => kernel_rfl
      case hq3_1 => kernel_rfl
      case hq5_1 => kernel_rfl
      case hq4_1 => rfl
      case hq6_1 => rfl
      case hA_1 => intro vs; simp only [fillD, Nat.reduceAdd, Act.put, List.setIfInBounds_toArray, List.set_cons_zero, List.set_cons_succ]; rfl
      case h0_1 => exact H.drew
      case hfs_1 => exact fun _ _ _ hb h => Hp.step h hb
      case hsteps_1 =>
        refine ⟨?_, ?_, ?_, ?_, ?_, ?_, ?_, ?_, ?_, ?_, ?_, ?_, ?_, trivial⟩
        · intro p vs w' K hJ hp1 hp2 hS hR hK
          rw [if_pos (by rfl)]
          go_step
          exact hK.out _ _ (Below.refl _ _) Eq1.mk Fresh.no
        · intro p vs w' K hJ hp1 hp2 hS hR hK
          rw [if_pos (by rfl)]
          go_step
          exact hK.out _ _ (Below.refl _ _) Eq1.mk Fresh.no
        · intro p vs w' K hJ hp1 hp2 hS hR hK
          rw [if_pos (by rfl)]
          go_step
          exact hK.out _ _ (Below.refl _ _) Eq1.mk Fresh.no
        · intro p vs w' K hJ hp1 hp2 hS hR hK
          simp only [DepJ, List.getD_cons_zero, List.getD_cons_succ] at hJ
          obtain ⟨j1, j2, -⟩ := hJ
          have j1 := Eq1.out j1
          have j2 := Eq1.out j2
          simp only [j1, j2] at hK ⊢
          rw [if_pos (by rfl)]
          go_step
          exact hK.out _ _ (Below.refl _ _) Eq1.mk Fresh.no
        · intro p vs w' K hJ hp1 hp2 hS hR hK
          simp only [DepJ, List.getD_cons_zero, List.getD_cons_succ] at hJ
          obtain ⟨j3, -⟩ := hJ
          have j3 := Eq1.out j3
          simp only [j3] at hK ⊢
          rw [if_pos (by rfl)]
          have C := Hp.facts hS
          simp only [Facts, factsL, and_true, true_and, List.set_cons_zero, List.set_cons_succ, List.setIfInBounds_toArray] at C
          have hsz := hR.1
          go_step
          exact hK.out _ _ (Below.refl _ _) Eq1.mk Fresh.no
        · intro p vs w' K hJ hp1 hp2 hS hR hK
          rw [if_pos (by rfl)]
          go_step
          exact hK.out _ _ (Below.refl _ _) Eq1.mk Fresh.no
        · intro p vs w' K hJ hp1 hp2 hS hR hK
          rw [if_pos (by rfl)]
          go_step
          exact hK.out _ _ (Below.refl _ _) Eq1.mk Fresh.no
        · intro p vs w' K hJ hp1 hp2 hS hR hK
          simp only [DepJ, List.getD_cons_zero, List.getD_cons_succ] at hJ
          obtain ⟨j5, j6, -⟩ := hJ
          have j5 := Eq1.out j5
          have j6 := Eq1.out j6
          simp only [j5, j6] at hK ⊢
          rw [if_pos (by rfl)]
          go_step
          exact hK.out _ _ (Below.refl _ _) Eq1.mk Fresh.no
        · intro p vs w' K hJ hp1 hp2 hS hR hK
          simp only [DepJ, List.getD_cons_zero, List.getD_cons_succ] at hJ
          obtain ⟨j7, -⟩ := hJ
          have j7 := Eq1.out j7
          simp only [j7] at hK ⊢
          rw [if_pos (by rfl)]
          have C := Hp.facts hS
          simp only [Facts, factsL, and_true, true_and, List.set_cons_zero, List.set_cons_succ, List.setIfInBounds_toArray] at C
          have hsz := hR.1
          go_step
          exact hK.out _ _ (Below.refl _ _) Eq1.mk Fresh.no
        · intro p vs w' K hJ hp1 hp2 hS hR hK
          simp only [DepJ, List.getD_cons_zero, List.getD_cons_succ] at hJ
          obtain ⟨j8, -⟩ := hJ
          have j8 := Eq1.out j8
          simp only [j8] at hK ⊢
          rw [if_pos (by rfl)]
          have C := Hp.facts hS
          simp only [Facts, factsL, and_true, true_and, List.set_cons_zero, List.set_cons_succ, List.setIfInBounds_toArray] at C
          have hsz := hR.1
          go_step
          exact hK.out _ _ (Below.refl _ _) Eq1.mk Fresh.no
        · intro p vs w' K hJ hp1 hp2 hS hR hK
          simp only [DepJ, List.getD_cons_zero, List.getD_cons_succ] at hJ
          obtain ⟨j9, -⟩ := hJ
          have j9 := Eq1.out j9
          simp only [j9] at hK ⊢
          rw [if_pos (by rfl)]
          have C := Hp.facts hS
          simp only [Facts, factsL, and_true, true_and, List.set_cons_zero, List.set_cons_succ, List.setIfInBounds_toArray] at C
          have hsz := hR.1
          go_step
          exact hK.out _ _ (Below.refl _ _) Eq1.mk Fresh.no
        · intro p vs w' K hJ hp1 hp2 hS hR hK
          simp only [DepJ, List.getD_cons_zero, List.getD_cons_succ] at hJ
          obtain ⟨j4, j10, -⟩ := hJ
          have j4 := Eq1.out j4
          have j10 := Eq1.out j10
          simp only [j4, j10] at hK ⊢
          rw [if_pos (by rfl)]
          go_step
          exact hK.out _ _ (Below.refl _ _) (Eq1.of (rfl)) Fresh.no
        · intro p vs w' K hJ hp1 hp2 hS hR hK
          simp only [DepJ, List.getD_cons_zero, List.getD_cons_succ] at hJ
          obtain ⟨j11, -⟩ := hJ
          have j11 := Eq1.out j11
          simp only [j11] at hK ⊢
          rw [if_pos (by rfl)]
          go_step
          exact hK.out _ _ ((Below.refl _ _).alloc (Nat.le_refl _) _) (NewSl.mk _ _ _ _ _ hR.1) Fresh.sl
      case hst_1 => refine ⟨fun _ _ _ _ h => h, fun _ _ _ _ h => h, fun _ _ _ _ h => h, fun _ _ _ _ h => h, fun _ _ _ _ h => h, fun _ _ _ _ h => h, fun _ _ _ _ h => h, fun _ _ _ _ h => h, fun _ _ _ _ h => h, fun _ _ _ _ h => h, fun _ _ _ _ h => h, fun _ _ _ _ h => h, fun _ _ _ hs h => NewSl.stayR hs h, trivial⟩
      intro vs w' hJ hD hS hR
      simp only [AllJ, Nat.reduceAdd] at hJ
      obtain ⟨v0, v1, v2, v3, v4, v5, v6, v7, v8, v9, v10, v11, v12, -⟩ := hJ
      clear C
      replace v0 := Eq1.out v0
      replace v1 := Eq1.out v1
      replace v2 := Eq1.out v2
      replace v3 := Eq1.out v3
      replace v4 := Eq1.out v4
      replace v5 := Eq1.out v5
      replace v6 := Eq1.out v6
      replace v7 := Eq1.out v7
      replace v8 := Eq1.out v8
      replace v9 := Eq1.out v9
      replace v10 := Eq1.out v10
      replace v11 := Eq1.out v11
      obtain ⟨k12, e12, hB12, hh12⟩ := v12
      simp only [v0, v1, v2, v3, v4, v5, v6, v7, v8, v9, v10, v11, e12, List.drop_succ_cons, List.drop_zero]
      replace hS : Hp _ _ _ := hS
      have H' := Hp.adopts hS H.low.size (fun k hk => Hp.lows H k hk) [.blk k12 _ _] (by intro x hx; simp only [List.mem_cons, List.not_mem_nil, or_false] at hx; subst hx; exact ⟨hh12, hB12⟩) (nodup1 _)
      simp only [List.cons_append, List.nil_append] at H'
      clear hD hR hS v0 v1 v2 v3 v4 v5 v6 v7 v8 v9 v10 v11
      clear e12 hB12 hh12
      clear vs H
      have H := H'; clear H'; have C := Hp.facts H; simp only [Facts, factsL, and_true, true_and, List.set_cons_zero, List.set_cons_succ, List.setIfInBounds_toArray] at C
      (repeat' ((fail_if_success (with_reducible show bodyPost _ _ _ _ _ _)); first | ((with_reducible refine Hp.abs_alloc H ?_); intro b' w' H' hb'; (try simp only [hb']); clear hb'; ((try simp only [List.set_cons_zero, List.set_cons_succ, List.setIfInBounds_toArray] at H'); clear C H; have H := H'; clear H'; have C := Hp.facts H; simp only [Facts, factsL, and_true, true_and, List.set_cons_zero, List.set_cons_succ, List.setIfInBounds_toArray] at C)) | ((with_reducible show wpList _ _ _ _ _ (World.setCell _ _ _)); (with_reducible apply Hp.abs_gen H); (first | ((repeat (with_reducible apply Hp.set' 0)); (with_reducible exact H); (repeat rfl); intro w' H') | ((repeat (with_reducible apply Hp.set' 1)); (with_reducible exact H); (repeat rfl); intro w' H') | ((repeat (with_reducible apply Hp.set' 2)); (with_reducible exact H); (repeat rfl); intro w' H') | ((repeat (with_reducible apply Hp.set' 3)); (with_reducible exact H); (repeat rfl); intro w' H') | ((repeat (with_reducible apply Hp.set' 4)); (with_reducible exact H); (repeat rfl); intro w' H') | ((repeat (with_reducible apply Hp.set' 5)); (with_reducible exact H); (repeat rfl); intro w' H') | ((repeat (with_reducible apply Hp.set' 6)); (with_reducible exact H); (repeat rfl); intro w' H') | ((repeat (with_reducible apply Hp.set' 7)); (with_reducible exact H); (repeat rfl); intro w' H')); ((try simp only [List.set_cons_zero, List.set_cons_succ, List.setIfInBounds_toArray] at H'); clear C H; have H := H'; clear H'; have C := Hp.facts H; simp only [Facts, factsL, and_true, true_and, List.set_cons_zero, List.set_cons_succ, List.setIfInBounds_toArray] at C)) | (at_builtin; (refine wpList_append_hp H 1 rfl _ _ _ rfl Tryd.underlying31 hi hz0 hz1 hz2 rfl (by decide) rfl rfl rfl (news := [_]) rfl (fun h => by cases h) (fun _ => ⟨_, rfl, blk_news (H.get 0 rfl)⟩) (by simp [Value.oneCell']) (by unfold maxLen; omega) (by omega) ?_); intro v' w' H'; ((try simp only [List.set_cons_zero, List.set_cons_succ, List.setIfInBounds_toArray] at H'); clear C H; have H := H'; clear H'; have C := Hp.facts H; simp only [Facts, factsL, and_true, true_and, List.set_cons_zero, List.set_cons_succ, List.setIfInBounds_toArray] at C)) | go_values | go_skip | go_guarded | go_step | go_upon | go_back | (simp only [Int.not_lt, Int.not_le] at *; go_simp) | (go_values <;> (try go_simp)) | (go_ite <;> go_prune <;> (try go_simp)) | (split <;> (first | (rename_i hx; exact (hx _ rfl).elim) | go_prune))))
      refine ⟨MRel.mk (i + 1) (by omega) (by go_num) ?_, by simp [intOf]; omega⟩
      rw [gt.out, ← tvs_snoc]
      exact H.tail
    · obtain rfl : i = M.length := by omega
      rw [List.take_length] at H
      clear hMa hcell
      have hLg := fun v w hb => flongest_any M v (by omega) (fun m hm => by have := hMm m hm; omega) w hb
      have hend : zs.length = M.length ∨ M.length = 20 := by omega
      have gMl := Kp.mk hMl
      clear hMl
      have hFi : ∀ (R : Prop), (zs.length = M.length → R) → (M.length = 20 → R) → R := fun R h1 h2 => hend.elim h1 h2
      clear hend
      have hM20 : M.length ≤ 20 := by have := gMl.out; omega
      have hcnd : (¬ M.length < zs.length) ∨ (M.length < zs.length ∧ ¬ ((M.length : Int) < 20)) := by
        have := gMl.out
        omega
      clear hFi
      rcases hcnd with d1 | ⟨d1, d2⟩
      · by_cases h0 : M.length = 0
        · obtain rfl : M = [] := List.eq_nil_of_length_eq_zero h0
          obtain rfl : zs = [] := List.eq_nil_of_length_eq_zero (by have := gMl.out; simp at this; omega)
          rw [show longL [] = [] from rfl] at hLg
          simp only [List.length_nil] at *
          clear h0 hMm gMl hM20 d1
          (repeat' ((fail_if_success (with_reducible show bodyPost _ _ _ _ _ _)); first | ((with_reducible refine Hp.abs_alloc H ?_); intro b' w' H' hb'; (try simp only [hb']); clear hb'; ((try simp only [List.set_cons_zero, List.set_cons_succ, List.setIfInBounds_toArray] at H'); clear C H; have H := H'; clear H'; have C := Hp.facts H; simp only [Facts, factsL, and_true, true_and, List.set_cons_zero, List.set_cons_succ, List.setIfInBounds_toArray] at C)) | ((with_reducible show wpList _ _ _ _ _ (World.setCell _ _ _)); (with_reducible apply Hp.abs_gen H); (first | ((repeat (with_reducible apply Hp.set' 0)); (with_reducible exact H); (repeat rfl); intro w' H') | ((repeat (with_reducible apply Hp.set' 1)); (with_reducible exact H); (repeat rfl); intro w' H') | ((repeat (with_reducible apply Hp.set' 2)); (with_reducible exact H); (repeat rfl); intro w' H') | ((repeat (with_reducible apply Hp.set' 3)); (with_reducible exact H); (repeat rfl); intro w' H') | ((repeat (with_reducible apply Hp.set' 4)); (with_reducible exact H); (repeat rfl); intro w' H') | ((repeat (with_reducible apply Hp.set' 5)); (with_reducible exact H); (repeat rfl); intro w' H') | ((repeat (with_reducible apply Hp.set' 6)); (with_reducible exact H); (repeat rfl); intro w' H') | ((repeat (with_reducible apply Hp.set' 7)); (with_reducible exact H); (repeat rfl); intro w' H')); ((try simp only [List.set_cons_zero, List.set_cons_succ, List.setIfInBounds_toArray] at H'); clear C H; have H := H'; clear H'; have C := Hp.facts H; simp only [Facts, factsL, and_true, true_and, List.set_cons_zero, List.set_cons_succ, List.setIfInBounds_toArray] at C)) | go_values | go_skip | go_guarded | go_step | go_upon | go_back | (simp only [Int.not_lt, Int.not_le] at *; go_simp) | (go_values <;> (try go_simp)) | (go_ite <;> go_prune <;> (try go_simp)) | (split <;> (first | (rename_i hx; exact (hx _ rfl).elim) | go_prune))))
          refine (hLg _ _ (Hp.row H 0 rfl)).mono ?_
          (rintro e' w' ⟨rfl, hb'⟩; (have H' := Hp.step H hb'; clear hb'; ((try simp only [List.set_cons_zero, List.set_cons_succ, List.setIfInBounds_toArray] at H'); clear C H; have H := H'; clear H'; have C := Hp.facts H; simp only [Facts, factsL, and_true, true_and, List.set_cons_zero, List.set_cons_succ, List.setIfInBounds_toArray] at C)))
          (repeat' ((fail_if_success (with_reducible show bodyPost _ _ _ _ _ _)); first | ((with_reducible refine Hp.abs_alloc H ?_); intro b' w' H' hb'; (try simp only [hb']); clear hb'; ((try simp only [List.set_cons_zero, List.set_cons_succ, List.setIfInBounds_toArray] at H'); clear C H; have H := H'; clear H'; have C := Hp.facts H; simp only [Facts, factsL, and_true, true_and, List.set_cons_zero, List.set_cons_succ, List.setIfInBounds_toArray] at C)) | ((with_reducible show wpList _ _ _ _ _ (World.setCell _ _ _)); (with_reducible apply Hp.abs_gen H); (first | ((repeat (with_reducible apply Hp.set' 0)); (with_reducible exact H); (repeat rfl); intro w' H') | ((repeat (with_reducible apply Hp.set' 1)); (with_reducible exact H); (repeat rfl); intro w' H') | ((repeat (with_reducible apply Hp.set' 2)); (with_reducible exact H); (repeat rfl); intro w' H') | ((repeat (with_reducible apply Hp.set' 3)); (with_reducible exact H); (repeat rfl); intro w' H') | ((repeat (with_reducible apply Hp.set' 4)); (with_reducible exact H); (repeat rfl); intro w' H') | ((repeat (with_reducible apply Hp.set' 5)); (with_reducible exact H); (repeat rfl); intro w' H') | ((repeat (with_reducible apply Hp.set' 6)); (with_reducible exact H); (repeat rfl); intro w' H') | ((repeat (with_reducible apply Hp.set' 7)); (with_reducible exact H); (repeat rfl); intro w' H')); ((try simp only [List.set_cons_zero, List.set_cons_succ, List.setIfInBounds_toArray] at H'); clear C H; have H := H'; clear H'; have C := Hp.facts H; simp only [Facts, factsL, and_true, true_and, List.set_cons_zero, List.set_cons_succ, List.setIfInBounds_toArray] at C)) | (go_at_call 14; refine (known13_any _ (hT.below H.low)).mono ?_; rintro e' w' ⟨rfl, hb'⟩; (have H' := Hp.step H hb'; clear hb'; ((try simp only [List.set_cons_zero, List.set_cons_succ, List.setIfInBounds_toArray] at H'); clear C H; have H := H'; clear H'; have C := Hp.facts H; simp only [Facts, factsL, and_true, true_and, List.set_cons_zero, List.set_cons_succ, List.setIfInBounds_toArray] at C))) | go_values | go_skip | go_guarded | go_step | go_upon | go_back | (simp only [Int.not_lt, Int.not_le] at *; go_simp) | (go_values <;> (try go_simp)) | (go_ite <;> go_prune <;> (try go_simp)) | (split <;> (first | (rename_i hx; exact (hx _ rfl).elim) | go_prune))))
          go_ret
          exact ⟨rfl, H.low⟩
        · have e1 : ((M.length : Int) == 0) = false := by rw [beq_eq_false_iff_ne]; omega
          have hp : 0 < M.length := by omega
          have hlo := fun (m : List UInt8) (h : m ∈ M) w => rlower_any m (by have := hMm m h; omega) w
          have hlsl : (M.map lowL).length = M.length := by simp
          have hlsa : ∀ j, (h : j < M.length) → ∃ h2, (M.map lowL)[j]'h2 = lowL M[j] := fun j h => ⟨by rw [hlsl]; exact h, by simp⟩
          have hno := @ups_no (M.map lowL)
          have hla := @longs_at (M.map lowL)
          have hx : longL M = ((M.map lowL).headD []).take (comms (M.map lowL)) := rfl
          generalize M.map lowL = ls at *
          have hp2 : 0 < ls.length := by omega
          rw [head_at ls [] hp2] at hx
          have hxn : (longL M).length = comms ls := by rw [hx, List.length_take, Nat.min_eq_left (hla hp2 hp2).1]
          have hsx := bsize (longL M)
          rw [hxn] at hsx
          have hext := fun j (hj : j < ls.length) => (ext_take ls[j] (comms ls)).trans (by rw [(hla hp2 hj).2, ← hx])
          have hle := fun j (hj : j < ls.length) => (hla hp2 hj).1
          clear hx hxn hla
          generalize comms ls = n at *
          obtain ⟨sx, hsxe⟩ : ∃ s, ByteArray.mk (longL M).toArray = s := ⟨_, rfl⟩
          rw [hsxe] at hLg hsx
          simp only [hsxe] at hext
          clear hsxe
          have gsx := Kp.mk hsx
          have gext := Kp.mk hext
          have gle := Kp.mk hle
          have gno := Kp.mk hno
          have gLo := Kp.mk hlo
          have gls := Kp.mk hlsl
          have gla := Kp.mk hlsa
          clear hsx hext hle hno hlsl hlsa hMm gMl
          clear h0
          (repeat' ((fail_if_success (with_reducible show bodyPost _ _ _ _ _ _)); first | ((with_reducible refine Hp.abs_alloc H ?_); intro b' w' H' hb'; (try simp only [hb']); clear hb'; ((try simp only [List.set_cons_zero, List.set_cons_succ, List.setIfInBounds_toArray] at H'); clear C H; have H := H'; clear H'; have C := Hp.facts H; simp only [Facts, factsL, and_true, true_and, List.set_cons_zero, List.set_cons_succ, List.setIfInBounds_toArray] at C)) | ((with_reducible show wpList _ _ _ _ _ (World.setCell _ _ _)); (with_reducible apply Hp.abs_gen H); (first | ((repeat (with_reducible apply Hp.set' 0)); (with_reducible exact H); (repeat rfl); intro w' H') | ((repeat (with_reducible apply Hp.set' 1)); (with_reducible exact H); (repeat rfl); intro w' H') | ((repeat (with_reducible apply Hp.set' 2)); (with_reducible exact H); (repeat rfl); intro w' H') | ((repeat (with_reducible apply Hp.set' 3)); (with_reducible exact H); (repeat rfl); intro w' H') | ((repeat (with_reducible apply Hp.set' 4)); (with_reducible exact H); (repeat rfl); intro w' H') | ((repeat (with_reducible apply Hp.set' 5)); (with_reducible exact H); (repeat rfl); intro w' H') | ((repeat (with_reducible apply Hp.set' 6)); (with_reducible exact H); (repeat rfl); intro w' H') | ((repeat (with_reducible apply Hp.set' 7)); (with_reducible exact H); (repeat rfl); intro w' H')); ((try simp only [List.set_cons_zero, List.set_cons_succ, List.setIfInBounds_toArray] at H'); clear C H; have H := H'; clear H'; have C := Hp.facts H; simp only [Facts, factsL, and_true, true_and, List.set_cons_zero, List.set_cons_succ, List.setIfInBounds_toArray] at C)) | go_values | go_skip | go_guarded | go_step | go_upon | go_back | (simp only [Int.not_lt, Int.not_le] at *; go_simp) | (go_values <;> (try go_simp)) | (go_ite <;> go_prune <;> (try go_simp)) | (split <;> (first | (rename_i hx; exact (hx _ rfl).elim) | go_prune))))
          refine (hLg _ _ (Hp.row H 0 rfl)).mono ?_
          (rintro e' w' ⟨rfl, hb'⟩; (have H' := Hp.step H hb'; clear hb'; ((try simp only [List.set_cons_zero, List.set_cons_succ, List.setIfInBounds_toArray] at H'); clear C H; have H := H'; clear H'; have C := Hp.facts H; simp only [Facts, factsL, and_true, true_and, List.set_cons_zero, List.set_cons_succ, List.setIfInBounds_toArray] at C)))
          obtain ⟨b1, rfl⟩ := row_base (ownsOf H 0 rfl) hp
          have hgl1 := (Hp.rowCell H 0 rfl).1
          have hq1 := (Hp.rowCell H 0 rfl).2.2.2 0 _ (tvs_at2 hp)
          have hL0 := hlo M[0] (List.getElem_mem hp)
          obtain ⟨f, hf⟩ : ∃ f, lowL M[0] = f := ⟨_, rfl⟩
          rw [hf] at hL0
          have gL0 := Kp.mk (show ls[0] = f by obtain ⟨_, e⟩ := gla.out 0 hp; exact e.trans hf)
          obtain ⟨sf, hsf⟩ : ∃ s, ByteArray.mk f.toArray = s := ⟨_, rfl⟩
          rw [hsf] at hL0
          have gsf := Kp.mk (show sf.size = f.length by rw [← hsf]; exact bsize f)
          have gsfi : Kp (∀ k, (h : k < f.length) → ∃ h', sf[k]'h' = f[k]) := ⟨by subst hsf; exact fun k h => ⟨by rw [bsize]; exact h, by rfl⟩⟩
          generalize (ByteArray.mk M[0].toArray) = s0 at *
          clear hf hsf
          clear hlo d1
          have hnp : (0 : Int) < (M.length : Int) := by omega
          (repeat' ((fail_if_success (with_reducible show bodyPost _ _ _ _ _ _)); first | ((with_reducible refine Hp.abs_alloc H ?_); intro b' w' H' hb'; (try simp only [hb']); clear hb'; ((try simp only [List.set_cons_zero, List.set_cons_succ, List.setIfInBounds_toArray] at H'); clear C H; have H := H'; clear H'; have C := Hp.facts H; simp only [Facts, factsL, and_true, true_and, List.set_cons_zero, List.set_cons_succ, List.setIfInBounds_toArray] at C)) | ((with_reducible show wpList _ _ _ _ _ (World.setCell _ _ _)); (with_reducible apply Hp.abs_gen H); (first | ((repeat (with_reducible apply Hp.set' 0)); (with_reducible exact H); (repeat rfl); intro w' H') | ((repeat (with_reducible apply Hp.set' 1)); (with_reducible exact H); (repeat rfl); intro w' H') | ((repeat (with_reducible apply Hp.set' 2)); (with_reducible exact H); (repeat rfl); intro w' H') | ((repeat (with_reducible apply Hp.set' 3)); (with_reducible exact H); (repeat rfl); intro w' H') | ((repeat (with_reducible apply Hp.set' 4)); (with_reducible exact H); (repeat rfl); intro w' H') | ((repeat (with_reducible apply Hp.set' 5)); (with_reducible exact H); (repeat rfl); intro w' H') | ((repeat (with_reducible apply Hp.set' 6)); (with_reducible exact H); (repeat rfl); intro w' H') | ((repeat (with_reducible apply Hp.set' 7)); (with_reducible exact H); (repeat rfl); intro w' H')); ((try simp only [List.set_cons_zero, List.set_cons_succ, List.setIfInBounds_toArray] at H'); clear C H; have H := H'; clear H'; have C := Hp.facts H; simp only [Facts, factsL, and_true, true_and, List.set_cons_zero, List.set_cons_succ, List.setIfInBounds_toArray] at C)) | go_values | go_skip | go_guarded | go_step | go_upon | go_back | (simp only [Int.not_lt, Int.not_le] at *; go_simp) | (go_values <;> (try go_simp)) | (go_ite <;> go_prune <;> (try go_simp)) | (split <;> (first | (rename_i hx; exact (hx _ rfl).elim) | go_prune))))
          refine (hL0 _).mono ?_
          (rintro e' w' ⟨rfl, hb'⟩; (have H' := Hp.step H hb'; clear hb'; ((try simp only [List.set_cons_zero, List.set_cons_succ, List.setIfInBounds_toArray] at H'); clear C H; have H := H'; clear H'; have C := Hp.facts H; simp only [Facts, factsL, and_true, true_and, List.set_cons_zero, List.set_cons_succ, List.setIfInBounds_toArray] at C)))
          clear hgl1 hq1 hL0
          (repeat' ((fail_if_success (with_reducible show bodyPost _ _ _ _ _ _)); first | ((with_reducible refine Hp.abs_alloc H ?_); intro b' w' H' hb'; (try simp only [hb']); clear hb'; ((try simp only [List.set_cons_zero, List.set_cons_succ, List.setIfInBounds_toArray] at H'); clear C H; have H := H'; clear H'; have C := Hp.facts H; simp only [Facts, factsL, and_true, true_and, List.set_cons_zero, List.set_cons_succ, List.setIfInBounds_toArray] at C)) | ((with_reducible show wpList _ _ _ _ _ (World.setCell _ _ _)); (with_reducible apply Hp.abs_gen H); (first | ((repeat (with_reducible apply Hp.set' 0)); (with_reducible exact H); (repeat rfl); intro w' H') | ((repeat (with_reducible apply Hp.set' 1)); (with_reducible exact H); (repeat rfl); intro w' H') | ((repeat (with_reducible apply Hp.set' 2)); (with_reducible exact H); (repeat rfl); intro w' H') | ((repeat (with_reducible apply Hp.set' 3)); (with_reducible exact H); (repeat rfl); intro w' H') | ((repeat (with_reducible apply Hp.set' 4)); (with_reducible exact H); (repeat rfl); intro w' H') | ((repeat (with_reducible apply Hp.set' 5)); (with_reducible exact H); (repeat rfl); intro w' H') | ((repeat (with_reducible apply Hp.set' 6)); (with_reducible exact H); (repeat rfl); intro w' H') | ((repeat (with_reducible apply Hp.set' 7)); (with_reducible exact H); (repeat rfl); intro w' H')); ((try simp only [List.set_cons_zero, List.set_cons_succ, List.setIfInBounds_toArray] at H'); clear C H; have H := H'; clear H'; have C := Hp.facts H; simp only [Facts, factsL, and_true, true_and, List.set_cons_zero, List.set_cons_succ, List.setIfInBounds_toArray] at C)) | go_values | go_skip | go_guarded | go_step | go_upon | go_back | (simp only [Int.not_lt, Int.not_le] at *; go_simp) | (go_values <;> (try go_simp)) | (go_ite <;> go_prune <;> (try go_simp)) | (split <;> (first | (rename_i hx; exact (hx _ rfl).elim) | go_prune))))
          go_loopw [6, 8, 9] (fun al ix _ wr => ARel w M ls n (.slice (some ⟨b1, 0, none⟩) M.length c2) al ix wr) (fun _ ix _ _ => M.length - (intOf ix).toNat)
          case atStart => exact ARel.mk 0 true (Nat.zero_le _) rfl rfl (fun _ j hj h => by omega) H
          case round =>
            clear H C
            obtain ⟨i, bb, hi2, rfl, rfl, hup, H⟩ := hrel
            have C := Hp.facts H
            simp only [Facts, factsL, and_true, true_and, List.set_cons_zero, List.set_cons_succ, List.setIfInBounds_toArray] at C
            by_cases hlt2 : i < M.length
            · have hgl1 := (Hp.rowCell H 0 rfl).1
              have hq1 := (Hp.rowCell H 0 rfl).2.2.2 i _ (tvs_at2 hlt2)
              have hLi := gLo.out M[i] (List.getElem_mem hlt2)
              obtain ⟨hil, hli⟩ := gla.out i hlt2
              have hex := gext.out i hil
              have hnl := gle.out i hil
              rw [← hli] at hLi
              obtain ⟨g, hg⟩ : ∃ g, ls[i] = g := ⟨_, rfl⟩
              rw [hg] at hex hnl hLi
              have gg := Kp.mk hg
              obtain ⟨ss, hsse⟩ : ∃ s, ByteArray.mk g.toArray = s := ⟨_, rfl⟩
              rw [hsse] at hLi hex
              have gss := Kp.mk (show ss.size = g.length by rw [← hsse]; exact bsize g)
              have gssi : Kp (∀ k, (h : k < g.length) → ∃ h', ss[k]'h' = g[k]) := ⟨by subst hsse; exact fun k h => ⟨by rw [bsize]; exact h, by rfl⟩⟩
              generalize (ByteArray.mk M[i].toArray) = si at *
              have hsize : sx.size ≤ ss.size := by rw [gss.out, gsx.out]; exact hnl
              have hex2 : ss.extract 0 sx.size = sx := by rw [gsx.out]; exact hex
              have hns : ¬ ss.size < sx.size := by omega
              clear hex hnl hli hg hsse
              (repeat' ((fail_if_success (with_reducible show bodyPost _ _ _ _ _ _)); first | ((with_reducible refine Hp.abs_alloc H ?_); intro b' w' H' hb'; (try simp only [hb']); clear hb'; ((try simp only [List.set_cons_zero, List.set_cons_succ, List.setIfInBounds_toArray] at H'); clear C H; have H := H'; clear H'; have C := Hp.facts H; simp only [Facts, factsL, and_true, true_and, List.set_cons_zero, List.set_cons_succ, List.setIfInBounds_toArray] at C)) | ((with_reducible show wpList _ _ _ _ _ (World.setCell _ _ _)); (with_reducible apply Hp.abs_gen H); (first | ((repeat (with_reducible apply Hp.set' 0)); (with_reducible exact H); (repeat rfl); intro w' H') | ((repeat (with_reducible apply Hp.set' 1)); (with_reducible exact H); (repeat rfl); intro w' H') | ((repeat (with_reducible apply Hp.set' 2)); (with_reducible exact H); (repeat rfl); intro w' H') | ((repeat (with_reducible apply Hp.set' 3)); (with_reducible exact H); (repeat rfl); intro w' H') | ((repeat (with_reducible apply Hp.set' 4)); (with_reducible exact H); (repeat rfl); intro w' H') | ((repeat (with_reducible apply Hp.set' 5)); (with_reducible exact H); (repeat rfl); intro w' H') | ((repeat (with_reducible apply Hp.set' 6)); (with_reducible exact H); (repeat rfl); intro w' H') | ((repeat (with_reducible apply Hp.set' 7)); (with_reducible exact H); (repeat rfl); intro w' H')); ((try simp only [List.set_cons_zero, List.set_cons_succ, List.setIfInBounds_toArray] at H'); clear C H; have H := H'; clear H'; have C := Hp.facts H; simp only [Facts, factsL, and_true, true_and, List.set_cons_zero, List.set_cons_succ, List.setIfInBounds_toArray] at C)) | go_values | go_skip | go_guarded | go_step | go_upon | go_back | (simp only [Int.not_lt, Int.not_le] at *; go_simp) | (go_values <;> (try go_simp)) | (go_ite <;> go_prune <;> (try go_simp)) | (split <;> (first | (rename_i hx; exact (hx _ rfl).elim) | go_prune))))
              refine (hLi _).mono ?_
              (rintro e' w' ⟨rfl, hb'⟩; (have H' := Hp.step H hb'; clear hb'; ((try simp only [List.set_cons_zero, List.set_cons_succ, List.setIfInBounds_toArray] at H'); clear C H; have H := H'; clear H'; have C := Hp.facts H; simp only [Facts, factsL, and_true, true_and, List.set_cons_zero, List.set_cons_succ, List.setIfInBounds_toArray] at C)))
              clear hgl1 hq1 hLi
              (repeat' ((fail_if_success (with_reducible show bodyPost _ _ _ _ _ _)); first | ((with_reducible refine Hp.abs_alloc H ?_); intro b' w' H' hb'; (try simp only [hb']); clear hb'; ((try simp only [List.set_cons_zero, List.set_cons_succ, List.setIfInBounds_toArray] at H'); clear C H; have H := H'; clear H'; have C := Hp.facts H; simp only [Facts, factsL, and_true, true_and, List.set_cons_zero, List.set_cons_succ, List.setIfInBounds_toArray] at C)) | ((with_reducible show wpList _ _ _ _ _ (World.setCell _ _ _)); (with_reducible apply Hp.abs_gen H); (first | ((repeat (with_reducible apply Hp.set' 0)); (with_reducible exact H); (repeat rfl); intro w' H') | ((repeat (with_reducible apply Hp.set' 1)); (with_reducible exact H); (repeat rfl); intro w' H') | ((repeat (with_reducible apply Hp.set' 2)); (with_reducible exact H); (repeat rfl); intro w' H') | ((repeat (with_reducible apply Hp.set' 3)); (with_reducible exact H); (repeat rfl); intro w' H') | ((repeat (with_reducible apply Hp.set' 4)); (with_reducible exact H); (repeat rfl); intro w' H') | ((repeat (with_reducible apply Hp.set' 5)); (with_reducible exact H); (repeat rfl); intro w' H') | ((repeat (with_reducible apply Hp.set' 6)); (with_reducible exact H); (repeat rfl); intro w' H') | ((repeat (with_reducible apply Hp.set' 7)); (with_reducible exact H); (repeat rfl); intro w' H')); ((try simp only [List.set_cons_zero, List.set_cons_succ, List.setIfInBounds_toArray] at H'); clear C H; have H := H'; clear H'; have C := Hp.facts H; simp only [Facts, factsL, and_true, true_and, List.set_cons_zero, List.set_cons_succ, List.setIfInBounds_toArray] at C)) | go_values | go_skip | go_guarded | go_step | go_upon | go_back | (simp only [Int.not_lt, Int.not_le] at *; go_simp) | (go_values <;> (try go_simp)) | (go_ite <;> go_prune <;> (try go_simp)) | (split <;> (first | (rename_i hx; exact (hx _ rfl).elim) | go_prune))))
              cases bb with
              | false =>
                try simp (disch := omega) only [decide_eq_true, decide_eq_false]
                obtain ⟨wR17af, rfl⟩ := Hp.nameW H
                apply region_n (frm wR17af.heap.size (fun _ => Hp _ _)) (frm_ok ?hfs_2) frm_sz [] [.light 0 0, .light 0 0, .light 0 0, .light 0 0, .light 0 0, .light 0 0, .light 0 0, .light 0 0, .light 0 0, .light 0 0, .light 0 0, .light 0 0, .light 0 0, .light 0 0, .light 0 0, .light 0 0, .light 0 0, .light 0 0, .light 0 0, .light 0 0, .light 0 0, .light 0 0, .light 0 0, .light 0 0, .light 0 0, .light 0 0] [false, false, false, false, false, false, false, false, false, false, false, false, false, false, false, false, false, false, false, false, false, false, false, false, false, false] 26 103 [26, 26, 26, 26, 26, 26, 26, 26, 26, 26, 26, 26, 26, 26, 26, 26, 26, 26, 26, 26, 26, 26, 26, 26, 26, 26] [some 72, some 73, some 74, some 75, some 76, some 77, some 78, some 79, some 80, some 81, some 82, some 83, some 84, some 85, some 86, some 87, some 88, some 89, some 90, some 91, some 92, some 93, some 94, some 95, some 96, some 97] [[], [0], [1], [1, 2], [1], [1, 4], [1, 3, 5], [1, 6], [7], [8], [8, 9], [8], [8, 11], [8, 10, 12], [8, 13], [14], [15], [15], [15, 17], [15, 16, 18], [15], [15], [15, 21], [15, 20, 22], [15, 19, 23], [15, 24]] [Eq1 _, Eq1 (.bool false), Eq1 _, Eq1 _, Eq1 _, Eq1 _, Eq1 _, Eq1 _, Eq1 _, Eq1 _, Eq1 _, Eq1 _, Eq1 _, Eq1 _, Eq1 _, Eq1 _, Eq1 _, Eq1 _, Eq1 _, Eq1 _, Eq1 _, Eq1 _, Eq1 _, Eq1 _, Eq1 _, Eq1 _] ?hq1_2 ?hq2_2 ?hq3_2 ?hq4_2 ?hq5_2 ?hq6_2 _ ?hA_2 ?hst_2 ?h0_2 ?hsteps_2 ?hend_2
                case hq1_2 => kernel_rfl
                case hq2_2 => kernel_rfl
                case hq3_2 => kernel_rfl
                case hq5_2 => kernel_rfl
                case hq4_2 => rfl
                case hq6_2 => rfl
                case hA_2 => intro vs; simp only [fillD, Nat.reduceAdd, Act.put, List.setIfInBounds_toArray, List.set_cons_zero, List.set_cons_succ]; rfl
                case h0_2 => exact H.drew
                case hfs_2 => exact fun _ _ _ hb h => Hp.step h hb
                case hsteps_2 =>
                  refine ⟨?_, ?_, ?_, ?_, ?_, ?_, ?_, ?_, ?_, ?_, ?_, ?_, ?_, ?_, ?_, ?_, ?_, ?_, ?_, ?_, ?_, ?_, ?_, ?_, ?_, ?_, trivial⟩
                  · intro p vs w' K hJ hp1 hp2 hS hR hK
                    rw [if_pos (by rfl)]
                    go_step
                    exact hK.out _ _ (Below.refl _ _) Eq1.mk Fresh.no
                  · intro p vs w' K hJ hp1 hp2 hS hR hK
                    simp only [DepJ, List.getD_cons_zero, List.getD_cons_succ] at hJ
                    obtain ⟨j0, -⟩ := hJ
                    have j0 := Eq1.out j0
                    simp only [j0] at hK ⊢
                    rw [if_pos (by rfl)]
                    go_step
                    exact hK.out _ _ (Below.refl _ _) (Eq1.of (by first | rfl | (simp; done) | (simp; omega))) Fresh.no
                  · intro p vs w' K hJ hp1 hp2 hS hR hK
                    simp only [DepJ, List.getD_cons_zero, List.getD_cons_succ] at hJ
                    obtain ⟨j1, -⟩ := hJ
                    have j1 := Eq1.out j1
                    simp only [j1] at hK ⊢
                    rw [if_neg (by simp [Region.wanted, yielded, undef])]
                    exact hK.out _ _ (Below.refl _ _) Eq1.mk Fresh.no
                  · intro p vs w' K hJ hp1 hp2 hS hR hK
                    simp only [DepJ, List.getD_cons_zero, List.getD_cons_succ] at hJ
                    obtain ⟨j1, j2, -⟩ := hJ
                    have j1 := Eq1.out j1
                    have j2 := Eq1.out j2
                    simp only [j1, j2] at hK ⊢
                    rw [if_neg (by simp [Region.wanted, yielded, undef])]
                    exact hK.out _ _ (Below.refl _ _) Eq1.mk Fresh.no
                  · intro p vs w' K hJ hp1 hp2 hS hR hK
                    simp only [DepJ, List.getD_cons_zero, List.getD_cons_succ] at hJ
                    obtain ⟨j1, -⟩ := hJ
                    have j1 := Eq1.out j1
                    simp only [j1] at hK ⊢
                    rw [if_neg (by simp [Region.wanted, yielded, undef])]
                    exact hK.out _ _ (Below.refl _ _) Eq1.mk Fresh.no
                  · intro p vs w' K hJ hp1 hp2 hS hR hK
                    simp only [DepJ, List.getD_cons_zero, List.getD_cons_succ] at hJ
                    obtain ⟨j1, j4, -⟩ := hJ
                    have j1 := Eq1.out j1
                    have j4 := Eq1.out j4
                    simp only [j1, j4] at hK ⊢
                    rw [if_neg (by simp [Region.wanted, yielded, undef])]
                    exact hK.out _ _ (Below.refl _ _) Eq1.mk Fresh.no
                  · intro p vs w' K hJ hp1 hp2 hS hR hK
                    simp only [DepJ, List.getD_cons_zero, List.getD_cons_succ] at hJ
                    obtain ⟨j1, j3, j5, -⟩ := hJ
                    have j1 := Eq1.out j1
                    have j3 := Eq1.out j3
                    have j5 := Eq1.out j5
                    simp only [j1, j3, j5] at hK ⊢
                    rw [if_neg (by simp [Region.wanted, yielded, undef])]
                    exact hK.out _ _ (Below.refl _ _) Eq1.mk Fresh.no
                  · intro p vs w' K hJ hp1 hp2 hS hR hK
                    simp only [DepJ, List.getD_cons_zero, List.getD_cons_succ] at hJ
                    obtain ⟨j1, j6, -⟩ := hJ
                    have j1 := Eq1.out j1
                    have j6 := Eq1.out j6
                    simp only [j1, j6] at hK ⊢
                    rw [if_pos (by rfl)]
                    go_step
                    exact hK.out _ _ (Below.refl _ _) Eq1.mk Fresh.no
                  · intro p vs w' K hJ hp1 hp2 hS hR hK
                    simp only [DepJ, List.getD_cons_zero, List.getD_cons_succ] at hJ
                    obtain ⟨j7, -⟩ := hJ
                    have j7 := Eq1.out j7
                    simp only [j7] at hK ⊢
                    rw [if_pos (by rfl)]
                    go_step
                    exact hK.out _ _ (Below.refl _ _) Eq1.mk Fresh.no
                  · intro p vs w' K hJ hp1 hp2 hS hR hK
                    simp only [DepJ, List.getD_cons_zero, List.getD_cons_succ] at hJ
                    obtain ⟨j8, -⟩ := hJ
                    have j8 := Eq1.out j8
                    simp only [j8] at hK ⊢
                    rw [if_neg (by simp [Region.wanted, yielded, undef])]
                    exact hK.out _ _ (Below.refl _ _) Eq1.mk Fresh.no
                  · intro p vs w' K hJ hp1 hp2 hS hR hK
                    simp only [DepJ, List.getD_cons_zero, List.getD_cons_succ] at hJ
                    obtain ⟨j8, j9, -⟩ := hJ
                    have j8 := Eq1.out j8
                    have j9 := Eq1.out j9
                    simp only [j8, j9] at hK ⊢
                    rw [if_neg (by simp [Region.wanted, yielded, undef])]
                    exact hK.out _ _ (Below.refl _ _) Eq1.mk Fresh.no
                  · intro p vs w' K hJ hp1 hp2 hS hR hK
                    simp only [DepJ, List.getD_cons_zero, List.getD_cons_succ] at hJ
                    obtain ⟨j8, -⟩ := hJ
                    have j8 := Eq1.out j8
                    simp only [j8] at hK ⊢
                    rw [if_neg (by simp [Region.wanted, yielded, undef])]
                    exact hK.out _ _ (Below.refl _ _) Eq1.mk Fresh.no
                  · intro p vs w' K hJ hp1 hp2 hS hR hK
                    simp only [DepJ, List.getD_cons_zero, List.getD_cons_succ] at hJ
                    obtain ⟨j8, j11, -⟩ := hJ
                    have j8 := Eq1.out j8
                    have j11 := Eq1.out j11
                    simp only [j8, j11] at hK ⊢
                    rw [if_neg (by simp [Region.wanted, yielded, undef])]
                    exact hK.out _ _ (Below.refl _ _) Eq1.mk Fresh.no
                  · intro p vs w' K hJ hp1 hp2 hS hR hK
                    simp only [DepJ, List.getD_cons_zero, List.getD_cons_succ] at hJ
                    obtain ⟨j8, j10, j12, -⟩ := hJ
                    have j8 := Eq1.out j8
                    have j10 := Eq1.out j10
                    have j12 := Eq1.out j12
                    simp only [j8, j10, j12] at hK ⊢
                    rw [if_neg (by simp [Region.wanted, yielded, undef])]
                    exact hK.out _ _ (Below.refl _ _) Eq1.mk Fresh.no
                  · intro p vs w' K hJ hp1 hp2 hS hR hK
                    simp only [DepJ, List.getD_cons_zero, List.getD_cons_succ] at hJ
                    obtain ⟨j8, j13, -⟩ := hJ
                    have j8 := Eq1.out j8
                    have j13 := Eq1.out j13
                    simp only [j8, j13] at hK ⊢
                    rw [if_pos (by rfl)]
                    go_step
                    exact hK.out _ _ (Below.refl _ _) Eq1.mk Fresh.no
                  · intro p vs w' K hJ hp1 hp2 hS hR hK
                    simp only [DepJ, List.getD_cons_zero, List.getD_cons_succ] at hJ
                    obtain ⟨j14, -⟩ := hJ
                    have j14 := Eq1.out j14
                    simp only [j14] at hK ⊢
                    rw [if_pos (by rfl)]
                    go_step
                    exact hK.out _ _ (Below.refl _ _) Eq1.mk Fresh.no
                  · intro p vs w' K hJ hp1 hp2 hS hR hK
                    simp only [DepJ, List.getD_cons_zero, List.getD_cons_succ] at hJ
                    obtain ⟨j15, -⟩ := hJ
                    have j15 := Eq1.out j15
                    simp only [j15] at hK ⊢
                    rw [if_neg (by simp [Region.wanted, yielded, undef])]
                    exact hK.out _ _ (Below.refl _ _) Eq1.mk Fresh.no
                  · intro p vs w' K hJ hp1 hp2 hS hR hK
                    simp only [DepJ, List.getD_cons_zero, List.getD_cons_succ] at hJ
                    obtain ⟨j15, -⟩ := hJ
                    have j15 := Eq1.out j15
                    simp only [j15] at hK ⊢
                    rw [if_neg (by simp [Region.wanted, yielded, undef])]
                    exact hK.out _ _ (Below.refl _ _) Eq1.mk Fresh.no
                  · intro p vs w' K hJ hp1 hp2 hS hR hK
                    simp only [DepJ, List.getD_cons_zero, List.getD_cons_succ] at hJ
                    obtain ⟨j15, j17, -⟩ := hJ
                    have j15 := Eq1.out j15
                    have j17 := Eq1.out j17
                    simp only [j15, j17] at hK ⊢
                    rw [if_neg (by simp [Region.wanted, yielded, undef])]
                    exact hK.out _ _ (Below.refl _ _) Eq1.mk Fresh.no
                  · intro p vs w' K hJ hp1 hp2 hS hR hK
                    simp only [DepJ, List.getD_cons_zero, List.getD_cons_succ] at hJ
                    obtain ⟨j15, j16, j18, -⟩ := hJ
                    have j15 := Eq1.out j15
                    have j16 := Eq1.out j16
                    have j18 := Eq1.out j18
                    simp only [j15, j16, j18] at hK ⊢
                    rw [if_neg (by simp [Region.wanted, yielded, undef])]
                    exact hK.out _ _ (Below.refl _ _) Eq1.mk Fresh.no
                  · intro p vs w' K hJ hp1 hp2 hS hR hK
                    simp only [DepJ, List.getD_cons_zero, List.getD_cons_succ] at hJ
                    obtain ⟨j15, -⟩ := hJ
                    have j15 := Eq1.out j15
                    simp only [j15] at hK ⊢
                    rw [if_neg (by simp [Region.wanted, yielded, undef])]
                    exact hK.out _ _ (Below.refl _ _) Eq1.mk Fresh.no
                  · intro p vs w' K hJ hp1 hp2 hS hR hK
                    simp only [DepJ, List.getD_cons_zero, List.getD_cons_succ] at hJ
                    obtain ⟨j15, -⟩ := hJ
                    have j15 := Eq1.out j15
                    simp only [j15] at hK ⊢
                    rw [if_neg (by simp [Region.wanted, yielded, undef])]
                    exact hK.out _ _ (Below.refl _ _) Eq1.mk Fresh.no
                  · intro p vs w' K hJ hp1 hp2 hS hR hK
                    simp only [DepJ, List.getD_cons_zero, List.getD_cons_succ] at hJ
                    obtain ⟨j15, j21, -⟩ := hJ
                    have j15 := Eq1.out j15
                    have j21 := Eq1.out j21
                    simp only [j15, j21] at hK ⊢
                    rw [if_neg (by simp [Region.wanted, yielded, undef])]
                    exact hK.out _ _ (Below.refl _ _) Eq1.mk Fresh.no
                  · intro p vs w' K hJ hp1 hp2 hS hR hK
                    simp only [DepJ, List.getD_cons_zero, List.getD_cons_succ] at hJ
                    obtain ⟨j15, j20, j22, -⟩ := hJ
                    have j15 := Eq1.out j15
                    have j20 := Eq1.out j20
                    have j22 := Eq1.out j22
                    simp only [j15, j20, j22] at hK ⊢
                    rw [if_neg (by simp [Region.wanted, yielded, undef])]
                    exact hK.out _ _ (Below.refl _ _) Eq1.mk Fresh.no
                  · intro p vs w' K hJ hp1 hp2 hS hR hK
                    simp only [DepJ, List.getD_cons_zero, List.getD_cons_succ] at hJ
                    obtain ⟨j15, j19, j23, -⟩ := hJ
                    have j15 := Eq1.out j15
                    have j19 := Eq1.out j19
                    have j23 := Eq1.out j23
                    simp only [j15, j19, j23] at hK ⊢
                    rw [if_neg (by simp [Region.wanted, yielded, undef])]
                    exact hK.out _ _ (Below.refl _ _) Eq1.mk Fresh.no
                  · intro p vs w' K hJ hp1 hp2 hS hR hK
                    simp only [DepJ, List.getD_cons_zero, List.getD_cons_succ] at hJ
                    obtain ⟨j15, j24, -⟩ := hJ
                    have j15 := Eq1.out j15
                    have j24 := Eq1.out j24
                    simp only [j15, j24] at hK ⊢
                    rw [if_pos (by rfl)]
                    go_step
                    exact hK.out _ _ (Below.refl _ _) Eq1.mk Fresh.no
                case hst_2 => refine ⟨fun _ _ _ _ h => h, fun _ _ _ _ h => h, fun _ _ _ _ h => h, fun _ _ _ _ h => h, fun _ _ _ _ h => h, fun _ _ _ _ h => h, fun _ _ _ _ h => h, fun _ _ _ _ h => h, fun _ _ _ _ h => h, fun _ _ _ _ h => h, fun _ _ _ _ h => h, fun _ _ _ _ h => h, fun _ _ _ _ h => h, fun _ _ _ _ h => h, fun _ _ _ _ h => h, fun _ _ _ _ h => h, fun _ _ _ _ h => h, fun _ _ _ _ h => h, fun _ _ _ _ h => h, fun _ _ _ _ h => h, fun _ _ _ _ h => h, fun _ _ _ _ h => h, fun _ _ _ _ h => h, fun _ _ _ _ h => h, fun _ _ _ _ h => h, fun _ _ _ _ h => h, trivial⟩
                intro vs w' hJ hD hS hR
                simp only [AllJ, Nat.reduceAdd] at hJ
                obtain ⟨v0, v1, v2, v3, v4, v5, v6, v7, v8, v9, v10, v11, v12, v13, v14, v15, v16, v17, v18, v19, v20, v21, v22, v23, v24, v25, -⟩ := hJ
                clear C
                replace v0 := Eq1.out v0
                replace v1 := Eq1.out v1
                replace v2 := Eq1.out v2
                replace v3 := Eq1.out v3
                replace v4 := Eq1.out v4
                replace v5 := Eq1.out v5
                replace v6 := Eq1.out v6
                replace v7 := Eq1.out v7
                replace v8 := Eq1.out v8
                replace v9 := Eq1.out v9
                replace v10 := Eq1.out v10
                replace v11 := Eq1.out v11
                replace v12 := Eq1.out v12
                replace v13 := Eq1.out v13
                replace v14 := Eq1.out v14
                replace v15 := Eq1.out v15
                replace v16 := Eq1.out v16
                replace v17 := Eq1.out v17
                replace v18 := Eq1.out v18
                replace v19 := Eq1.out v19
                replace v20 := Eq1.out v20
                replace v21 := Eq1.out v21
                replace v22 := Eq1.out v22
                replace v23 := Eq1.out v23
                replace v24 := Eq1.out v24
                replace v25 := Eq1.out v25
                simp only [v0, v1, v2, v3, v4, v5, v6, v7, v8, v9, v10, v11, v12, v13, v14, v15, v16, v17, v18, v19, v20, v21, v22, v23, v24, v25, List.drop_succ_cons, List.drop_zero]
                have H' : Hp _ _ _ := hS
                clear hD hR hS v0 v1 v2 v3 v4 v5 v6 v7 v8 v9 v10 v11 v12 v13 v14 v15 v16 v17 v18 v19 v20 v21 v22 v23 v24 v25
                clear vs H
                have H := H'; clear H'; have C := Hp.facts H; simp only [Facts, factsL, and_true, true_and, List.set_cons_zero, List.set_cons_succ, List.setIfInBounds_toArray] at C
                (repeat' ((fail_if_success (with_reducible show bodyPost _ _ _ _ _ _)); first | ((with_reducible refine Hp.abs_alloc H ?_); intro b' w' H' hb'; (try simp only [hb']); clear hb'; ((try simp only [List.set_cons_zero, List.set_cons_succ, List.setIfInBounds_toArray] at H'); clear C H; have H := H'; clear H'; have C := Hp.facts H; simp only [Facts, factsL, and_true, true_and, List.set_cons_zero, List.set_cons_succ, List.setIfInBounds_toArray] at C)) | ((with_reducible show wpList _ _ _ _ _ (World.setCell _ _ _)); (with_reducible apply Hp.abs_gen H); (first | ((repeat (with_reducible apply Hp.set' 0)); (with_reducible exact H); (repeat rfl); intro w' H') | ((repeat (with_reducible apply Hp.set' 1)); (with_reducible exact H); (repeat rfl); intro w' H') | ((repeat (with_reducible apply Hp.set' 2)); (with_reducible exact H); (repeat rfl); intro w' H') | ((repeat (with_reducible apply Hp.set' 3)); (with_reducible exact H); (repeat rfl); intro w' H') | ((repeat (with_reducible apply Hp.set' 4)); (with_reducible exact H); (repeat rfl); intro w' H') | ((repeat (with_reducible apply Hp.set' 5)); (with_reducible exact H); (repeat rfl); intro w' H') | ((repeat (with_reducible apply Hp.set' 6)); (with_reducible exact H); (repeat rfl); intro w' H') | ((repeat (with_reducible apply Hp.set' 7)); (with_reducible exact H); (repeat rfl); intro w' H')); ((try simp only [List.set_cons_zero, List.set_cons_succ, List.setIfInBounds_toArray] at H'); clear C H; have H := H'; clear H'; have C := Hp.facts H; simp only [Facts, factsL, and_true, true_and, List.set_cons_zero, List.set_cons_succ, List.setIfInBounds_toArray] at C)) | go_values | go_skip | go_guarded | go_step | go_upon | go_back | (simp only [Int.not_lt, Int.not_le] at *; go_simp) | (go_values <;> (try go_simp)) | (go_ite <;> go_prune <;> (try go_simp)) | (split <;> (first | (rename_i hx; exact (hx _ rfl).elim) | go_prune))))
                exact ⟨ARel.mk (i + 1) false (by omega) (by go_num) rfl (fun h => by cases h) H, by simp [intOf]; omega⟩
              | true =>
                by_cases hS1 : sx.size < ss.size
                · by_cases hF1 : sx.size < sf.size
                  · by_cases hq : (ss[sx.size]'hS1).toNat = (sf[sx.size]'hF1).toNat
                    · have gq := Kp.mk hq
                      have hqb : (((ss[sx.size]'hS1).toNat : Int) == ((sf[sx.size]'hF1).toNat : Int)) = true := by rw [beq_iff_eq, hq]
                      clear hq
                      try simp (disch := omega) only [decide_eq_true, decide_eq_false]
                      obtain ⟨wR17ag, rfl⟩ := Hp.nameW H
                      apply region_n (frm wR17ag.heap.size (fun _ => Hp _ _)) (frm_ok ?hfs_3) frm_sz [] [.light 0 0, .light 0 0, .light 0 0, .light 0 0, .light 0 0, .light 0 0, .light 0 0, .light 0 0, .light 0 0, .light 0 0, .light 0 0, .light 0 0, .light 0 0, .light 0 0, .light 0 0, .light 0 0, .light 0 0, .light 0 0, .light 0 0, .light 0 0, .light 0 0, .light 0 0, .light 0 0, .light 0 0, .light 0 0, .light 0 0] [false, false, false, false, false, false, false, false, false, false, false, false, false, false, false, false, false, false, false, false, false, false, false, false, false, false] 26 103 [26, 26, 26, 26, 26, 26, 26, 26, 26, 26, 26, 26, 26, 26, 26, 26, 26, 26, 26, 26, 26, 26, 26, 26, 26, 26] [some 72, some 73, some 74, some 75, some 76, some 77, some 78, some 79, some 80, some 81, some 82, some 83, some 84, some 85, some 86, some 87, some 88, some 89, some 90, some 91, some 92, some 93, some 94, some 95, some 96, some 97] [[], [0], [1], [1, 2], [1], [1, 4], [1, 3, 5], [1, 6], [7], [8], [8, 9], [8], [8, 11], [8, 10, 12], [8, 13], [14], [15], [15], [15, 17], [15, 16, 18], [15], [15], [15, 21], [15, 20, 22], [15, 19, 23], [15, 24]] [Eq1 _, Eq1 (.bool true), Eq1 _, Eq1 _, Eq1 _, Eq1 _, Eq1 (.bool true), Eq1 _, Eq1 _, Eq1 _, Eq1 _, Eq1 _, Eq1 _, Eq1 (.bool true), Eq1 _, Eq1 _, Eq1 _, Eq1 _, Eq1 _, Eq1 _, Eq1 _, Eq1 _, Eq1 _, Eq1 _, Eq1 (.bool true), Eq1 _] ?hq1_3 ?hq2_3 ?hq3_3 ?hq4_3 ?hq5_3 ?hq6_3 _ ?hA_3 ?hst_3 ?h0_3 ?hsteps_3 ?hend_3
                      case hq1_3 => kernel_rfl
                      case hq2_3 => kernel_rfl
                      case hq3_3 => kernel_rfl
                      case hq5_3 => kernel_rfl
                      case hq4_3 => rfl
                      case hq6_3 => rfl
                      case hA_3 => intro vs; simp only [fillD, Nat.reduceAdd, Act.put, List.setIfInBounds_toArray, List.set_cons_zero, List.set_cons_succ]; rfl
                      case h0_3 => exact H.drew
                      case hfs_3 => exact fun _ _ _ hb h => Hp.step h hb
                      case hsteps_3 =>
                        refine ⟨?_, ?_, ?_, ?_, ?_, ?_, ?_, ?_, ?_, ?_, ?_, ?_, ?_, ?_, ?_, ?_, ?_, ?_, ?_, ?_, ?_, ?_, ?_, ?_, ?_, ?_, trivial⟩
                        · intro p vs w' K hJ hp1 hp2 hS hR hK
                          rw [if_pos (by rfl)]
                          go_step
                          exact hK.out _ _ (Below.refl _ _) Eq1.mk Fresh.no
                        · intro p vs w' K hJ hp1 hp2 hS hR hK
                          simp only [DepJ, List.getD_cons_zero, List.getD_cons_succ] at hJ
                          obtain ⟨j0, -⟩ := hJ
                          have j0 := Eq1.out j0
                          simp only [j0] at hK ⊢
                          rw [if_pos (by rfl)]
                          go_step
                          exact hK.out _ _ (Below.refl _ _) (Eq1.of (by first | rfl | (simp; done) | (simp; omega))) Fresh.no
                        · intro p vs w' K hJ hp1 hp2 hS hR hK
                          simp only [DepJ, List.getD_cons_zero, List.getD_cons_succ] at hJ
                          obtain ⟨j1, -⟩ := hJ
                          have j1 := Eq1.out j1
                          simp only [j1] at hK ⊢
                          rw [if_pos (by rfl)]
                          go_step
                          exact hK.out _ _ (Below.refl _ _) Eq1.mk Fresh.no
                        · intro p vs w' K hJ hp1 hp2 hS hR hK
                          simp only [DepJ, List.getD_cons_zero, List.getD_cons_succ] at hJ
                          obtain ⟨j1, j2, -⟩ := hJ
                          have j1 := Eq1.out j1
                          have j2 := Eq1.out j2
                          simp only [j1, j2] at hK ⊢
                          rw [if_pos (by rfl)]
                          have C := Hp.facts hS
                          simp only [Facts, factsL, and_true, true_and, List.set_cons_zero, List.set_cons_succ, List.setIfInBounds_toArray] at C
                          have hsz := hR.1
                          go_step
                          exact hK.out _ _ (Below.refl _ _) Eq1.mk Fresh.no
                        · intro p vs w' K hJ hp1 hp2 hS hR hK
                          simp only [DepJ, List.getD_cons_zero, List.getD_cons_succ] at hJ
                          obtain ⟨j1, -⟩ := hJ
                          have j1 := Eq1.out j1
                          simp only [j1] at hK ⊢
                          rw [if_pos (by rfl)]
                          go_step
                          exact hK.out _ _ (Below.refl _ _) Eq1.mk Fresh.no
                        · intro p vs w' K hJ hp1 hp2 hS hR hK
                          simp only [DepJ, List.getD_cons_zero, List.getD_cons_succ] at hJ
                          obtain ⟨j1, j4, -⟩ := hJ
                          have j1 := Eq1.out j1
                          have j4 := Eq1.out j4
                          simp only [j1, j4] at hK ⊢
                          rw [if_pos (by rfl)]
                          have C := Hp.facts hS
                          simp only [Facts, factsL, and_true, true_and, List.set_cons_zero, List.set_cons_succ, List.setIfInBounds_toArray] at C
                          have hsz := hR.1
                          go_step
                          exact hK.out _ _ (Below.refl _ _) Eq1.mk Fresh.no
                        · intro p vs w' K hJ hp1 hp2 hS hR hK
                          simp only [DepJ, List.getD_cons_zero, List.getD_cons_succ] at hJ
                          obtain ⟨j1, j3, j5, -⟩ := hJ
                          have j1 := Eq1.out j1
                          have j3 := Eq1.out j3
                          have j5 := Eq1.out j5
                          simp only [j1, j3, j5] at hK ⊢
                          rw [if_pos (by rfl)]
                          go_step
                          exact hK.out _ _ (Below.refl _ _) (Eq1.of (by first | rfl | (simp; done) | (simp; omega))) Fresh.no
                        · intro p vs w' K hJ hp1 hp2 hS hR hK
                          simp only [DepJ, List.getD_cons_zero, List.getD_cons_succ] at hJ
                          obtain ⟨j1, j6, -⟩ := hJ
                          have j1 := Eq1.out j1
                          have j6 := Eq1.out j6
                          simp only [j1, j6] at hK ⊢
                          rw [if_pos (by rfl)]
                          go_step
                          exact hK.out _ _ (Below.refl _ _) Eq1.mk Fresh.no
                        · intro p vs w' K hJ hp1 hp2 hS hR hK
                          simp only [DepJ, List.getD_cons_zero, List.getD_cons_succ] at hJ
                          obtain ⟨j7, -⟩ := hJ
                          have j7 := Eq1.out j7
                          simp only [j7] at hK ⊢
                          rw [if_pos (by rfl)]
                          go_step
                          exact hK.out _ _ (Below.refl _ _) Eq1.mk Fresh.no
                        · intro p vs w' K hJ hp1 hp2 hS hR hK
                          simp only [DepJ, List.getD_cons_zero, List.getD_cons_succ] at hJ
                          obtain ⟨j8, -⟩ := hJ
                          have j8 := Eq1.out j8
                          simp only [j8] at hK ⊢
                          rw [if_pos (by rfl)]
                          go_step
                          exact hK.out _ _ (Below.refl _ _) Eq1.mk Fresh.no
                        · intro p vs w' K hJ hp1 hp2 hS hR hK
                          simp only [DepJ, List.getD_cons_zero, List.getD_cons_succ] at hJ
                          obtain ⟨j8, j9, -⟩ := hJ
                          have j8 := Eq1.out j8
                          have j9 := Eq1.out j9
                          simp only [j8, j9] at hK ⊢
                          rw [if_pos (by rfl)]
                          have C := Hp.facts hS
                          simp only [Facts, factsL, and_true, true_and, List.set_cons_zero, List.set_cons_succ, List.setIfInBounds_toArray] at C
                          have hsz := hR.1
                          go_step
                          exact hK.out _ _ (Below.refl _ _) Eq1.mk Fresh.no
                        · intro p vs w' K hJ hp1 hp2 hS hR hK
                          simp only [DepJ, List.getD_cons_zero, List.getD_cons_succ] at hJ
                          obtain ⟨j8, -⟩ := hJ
                          have j8 := Eq1.out j8
                          simp only [j8] at hK ⊢
                          rw [if_pos (by rfl)]
                          go_step
                          exact hK.out _ _ (Below.refl _ _) Eq1.mk Fresh.no
                        · intro p vs w' K hJ hp1 hp2 hS hR hK
                          simp only [DepJ, List.getD_cons_zero, List.getD_cons_succ] at hJ
                          obtain ⟨j8, j11, -⟩ := hJ
                          have j8 := Eq1.out j8
                          have j11 := Eq1.out j11
                          simp only [j8, j11] at hK ⊢
                          rw [if_pos (by rfl)]
                          have C := Hp.facts hS
                          simp only [Facts, factsL, and_true, true_and, List.set_cons_zero, List.set_cons_succ, List.setIfInBounds_toArray] at C
                          have hsz := hR.1
                          go_step
                          exact hK.out _ _ (Below.refl _ _) Eq1.mk Fresh.no
                        · intro p vs w' K hJ hp1 hp2 hS hR hK
                          simp only [DepJ, List.getD_cons_zero, List.getD_cons_succ] at hJ
                          obtain ⟨j8, j10, j12, -⟩ := hJ
                          have j8 := Eq1.out j8
                          have j10 := Eq1.out j10
                          have j12 := Eq1.out j12
                          simp only [j8, j10, j12] at hK ⊢
                          rw [if_pos (by rfl)]
                          go_step
                          exact hK.out _ _ (Below.refl _ _) (Eq1.of (by first | rfl | (simp; done) | (simp; omega))) Fresh.no
                        · intro p vs w' K hJ hp1 hp2 hS hR hK
                          simp only [DepJ, List.getD_cons_zero, List.getD_cons_succ] at hJ
                          obtain ⟨j8, j13, -⟩ := hJ
                          have j8 := Eq1.out j8
                          have j13 := Eq1.out j13
                          simp only [j8, j13] at hK ⊢
                          rw [if_pos (by rfl)]
                          go_step
                          exact hK.out _ _ (Below.refl _ _) Eq1.mk Fresh.no
                        · intro p vs w' K hJ hp1 hp2 hS hR hK
                          simp only [DepJ, List.getD_cons_zero, List.getD_cons_succ] at hJ
                          obtain ⟨j14, -⟩ := hJ
                          have j14 := Eq1.out j14
                          simp only [j14] at hK ⊢
                          rw [if_pos (by rfl)]
                          go_step
                          exact hK.out _ _ (Below.refl _ _) Eq1.mk Fresh.no
                        · intro p vs w' K hJ hp1 hp2 hS hR hK
                          simp only [DepJ, List.getD_cons_zero, List.getD_cons_succ] at hJ
                          obtain ⟨j15, -⟩ := hJ
                          have j15 := Eq1.out j15
                          simp only [j15] at hK ⊢
                          rw [if_pos (by rfl)]
                          go_step
                          exact hK.out _ _ (Below.refl _ _) Eq1.mk Fresh.no
                        · intro p vs w' K hJ hp1 hp2 hS hR hK
                          simp only [DepJ, List.getD_cons_zero, List.getD_cons_succ] at hJ
                          obtain ⟨j15, -⟩ := hJ
                          have j15 := Eq1.out j15
                          simp only [j15] at hK ⊢
                          rw [if_pos (by rfl)]
                          go_step
                          exact hK.out _ _ (Below.refl _ _) Eq1.mk Fresh.no
                        · intro p vs w' K hJ hp1 hp2 hS hR hK
                          simp only [DepJ, List.getD_cons_zero, List.getD_cons_succ] at hJ
                          obtain ⟨j15, j17, -⟩ := hJ
                          have j15 := Eq1.out j15
                          have j17 := Eq1.out j17
                          simp only [j15, j17] at hK ⊢
                          rw [if_pos (by rfl)]
                          have C := Hp.facts hS
                          simp only [Facts, factsL, and_true, true_and, List.set_cons_zero, List.set_cons_succ, List.setIfInBounds_toArray] at C
                          have hsz := hR.1
                          go_step
                          exact hK.out _ _ (Below.refl _ _) Eq1.mk Fresh.no
                        · intro p vs w' K hJ hp1 hp2 hS hR hK
                          simp only [DepJ, List.getD_cons_zero, List.getD_cons_succ] at hJ
                          obtain ⟨j15, j16, j18, -⟩ := hJ
                          have j15 := Eq1.out j15
                          have j16 := Eq1.out j16
                          have j18 := Eq1.out j18
                          simp only [j15, j16, j18] at hK ⊢
                          rw [if_pos (by rfl)]
                          have C := Hp.facts hS
                          simp only [Facts, factsL, and_true, true_and, List.set_cons_zero, List.set_cons_succ, List.setIfInBounds_toArray] at C
                          have hsz := hR.1
                          go_step
                          exact hK.out _ _ (Below.refl _ _) Eq1.mk Fresh.no
                        · intro p vs w' K hJ hp1 hp2 hS hR hK
                          simp only [DepJ, List.getD_cons_zero, List.getD_cons_succ] at hJ
                          obtain ⟨j15, -⟩ := hJ
                          have j15 := Eq1.out j15
                          simp only [j15] at hK ⊢
                          rw [if_pos (by rfl)]
                          go_step
                          exact hK.out _ _ (Below.refl _ _) Eq1.mk Fresh.no
                        · intro p vs w' K hJ hp1 hp2 hS hR hK
                          simp only [DepJ, List.getD_cons_zero, List.getD_cons_succ] at hJ
                          obtain ⟨j15, -⟩ := hJ
                          have j15 := Eq1.out j15
                          simp only [j15] at hK ⊢
                          rw [if_pos (by rfl)]
                          go_step
                          exact hK.out _ _ (Below.refl _ _) Eq1.mk Fresh.no
                        · intro p vs w' K hJ hp1 hp2 hS hR hK
                          simp only [DepJ, List.getD_cons_zero, List.getD_cons_succ] at hJ
                          obtain ⟨j15, j21, -⟩ := hJ
                          have j15 := Eq1.out j15
                          have j21 := Eq1.out j21
                          simp only [j15, j21] at hK ⊢
                          rw [if_pos (by rfl)]
                          have C := Hp.facts hS
                          simp only [Facts, factsL, and_true, true_and, List.set_cons_zero, List.set_cons_succ, List.setIfInBounds_toArray] at C
                          have hsz := hR.1
                          go_step
                          exact hK.out _ _ (Below.refl _ _) Eq1.mk Fresh.no
                        · intro p vs w' K hJ hp1 hp2 hS hR hK
                          simp only [DepJ, List.getD_cons_zero, List.getD_cons_succ] at hJ
                          obtain ⟨j15, j20, j22, -⟩ := hJ
                          have j15 := Eq1.out j15
                          have j20 := Eq1.out j20
                          have j22 := Eq1.out j22
                          simp only [j15, j20, j22] at hK ⊢
                          rw [if_pos (by rfl)]
                          have C := Hp.facts hS
                          simp only [Facts, factsL, and_true, true_and, List.set_cons_zero, List.set_cons_succ, List.setIfInBounds_toArray] at C
                          have hsz := hR.1
                          go_step
                          exact hK.out _ _ (Below.refl _ _) Eq1.mk Fresh.no
                        · intro p vs w' K hJ hp1 hp2 hS hR hK
                          simp only [DepJ, List.getD_cons_zero, List.getD_cons_succ] at hJ
                          obtain ⟨j15, j19, j23, -⟩ := hJ
                          have j15 := Eq1.out j15
                          have j19 := Eq1.out j19
                          have j23 := Eq1.out j23
                          simp only [j15, j19, j23] at hK ⊢
                          rw [if_pos (by rfl)]
                          go_step
                          exact hK.out _ _ (Below.refl _ _) (Eq1.of (by first | rfl | rw [hqb] | (simp; exact gq.out))) Fresh.no
                        · intro p vs w' K hJ hp1 hp2 hS hR hK
                          simp only [DepJ, List.getD_cons_zero, List.getD_cons_succ] at hJ
                          obtain ⟨j15, j24, -⟩ := hJ
                          have j15 := Eq1.out j15
                          have j24 := Eq1.out j24
                          simp only [j15, j24] at hK ⊢
                          rw [if_pos (by rfl)]
                          go_step
                          exact hK.out _ _ (Below.refl _ _) Eq1.mk Fresh.no
                      case hst_3 => refine ⟨fun _ _ _ _ h => h, fun _ _ _ _ h => h, fun _ _ _ _ h => h, fun _ _ _ _ h => h, fun _ _ _ _ h => h, fun _ _ _ _ h => h, fun _ _ _ _ h => h, fun _ _ _ _ h => h, fun _ _ _ _ h => h, fun _ _ _ _ h => h, fun _ _ _ _ h => h, fun _ _ _ _ h => h, fun _ _ _ _ h => h, fun _ _ _ _ h => h, fun _ _ _ _ h => h, fun _ _ _ _ h => h, fun _ _ _ _ h => h, fun _ _ _ _ h => h, fun _ _ _ _ h => h, fun _ _ _ _ h => h, fun _ _ _ _ h => h, fun _ _ _ _ h => h, fun _ _ _ _ h => h, fun _ _ _ _ h => h, fun _ _ _ _ h => h, fun _ _ _ _ h => h, trivial⟩
                      intro vs w' hJ hD hS hR
                      simp only [AllJ, Nat.reduceAdd] at hJ
                      obtain ⟨v0, v1, v2, v3, v4, v5, v6, v7, v8, v9, v10, v11, v12, v13, v14, v15, v16, v17, v18, v19, v20, v21, v22, v23, v24, v25, -⟩ := hJ
                      clear C
                      replace v0 := Eq1.out v0
                      replace v1 := Eq1.out v1
                      replace v2 := Eq1.out v2
                      replace v3 := Eq1.out v3
                      replace v4 := Eq1.out v4
                      replace v5 := Eq1.out v5
                      replace v6 := Eq1.out v6
                      replace v7 := Eq1.out v7
                      replace v8 := Eq1.out v8
                      replace v9 := Eq1.out v9
                      replace v10 := Eq1.out v10
                      replace v11 := Eq1.out v11
                      replace v12 := Eq1.out v12
                      replace v13 := Eq1.out v13
                      replace v14 := Eq1.out v14
                      replace v15 := Eq1.out v15
                      replace v16 := Eq1.out v16
                      replace v17 := Eq1.out v17
                      replace v18 := Eq1.out v18
                      replace v19 := Eq1.out v19
                      replace v20 := Eq1.out v20
                      replace v21 := Eq1.out v21
                      replace v22 := Eq1.out v22
                      replace v23 := Eq1.out v23
                      replace v24 := Eq1.out v24
                      replace v25 := Eq1.out v25
                      simp only [v0, v1, v2, v3, v4, v5, v6, v7, v8, v9, v10, v11, v12, v13, v14, v15, v16, v17, v18, v19, v20, v21, v22, v23, v24, v25, List.drop_succ_cons, List.drop_zero]
                      have H' : Hp _ _ _ := hS
                      clear hD hR hS v0 v1 v2 v3 v4 v5 v6 v7 v8 v9 v10 v11 v12 v13 v14 v15 v16 v17 v18 v19 v20 v21 v22 v23 v24 v25
                      clear vs H
                      have H := H'; clear H'; have C := Hp.facts H; simp only [Facts, factsL, and_true, true_and, List.set_cons_zero, List.set_cons_succ, List.setIfInBounds_toArray] at C
                      (repeat' ((fail_if_success (with_reducible show bodyPost _ _ _ _ _ _)); first | ((with_reducible refine Hp.abs_alloc H ?_); intro b' w' H' hb'; (try simp only [hb']); clear hb'; ((try simp only [List.set_cons_zero, List.set_cons_succ, List.setIfInBounds_toArray] at H'); clear C H; have H := H'; clear H'; have C := Hp.facts H; simp only [Facts, factsL, and_true, true_and, List.set_cons_zero, List.set_cons_succ, List.setIfInBounds_toArray] at C)) | ((with_reducible show wpList _ _ _ _ _ (World.setCell _ _ _)); (with_reducible apply Hp.abs_gen H); (first | ((repeat (with_reducible apply Hp.set' 0)); (with_reducible exact H); (repeat rfl); intro w' H') | ((repeat (with_reducible apply Hp.set' 1)); (with_reducible exact H); (repeat rfl); intro w' H') | ((repeat (with_reducible apply Hp.set' 2)); (with_reducible exact H); (repeat rfl); intro w' H') | ((repeat (with_reducible apply Hp.set' 3)); (with_reducible exact H); (repeat rfl); intro w' H') | ((repeat (with_reducible apply Hp.set' 4)); (with_reducible exact H); (repeat rfl); intro w' H') | ((repeat (with_reducible apply Hp.set' 5)); (with_reducible exact H); (repeat rfl); intro w' H') | ((repeat (with_reducible apply Hp.set' 6)); (with_reducible exact H); (repeat rfl); intro w' H') | ((repeat (with_reducible apply Hp.set' 7)); (with_reducible exact H); (repeat rfl); intro w' H')); ((try simp only [List.set_cons_zero, List.set_cons_succ, List.setIfInBounds_toArray] at H'); clear C H; have H := H'; clear H'; have C := Hp.facts H; simp only [Facts, factsL, and_true, true_and, List.set_cons_zero, List.set_cons_succ, List.setIfInBounds_toArray] at C)) | go_values | go_skip | go_guarded | go_step | go_upon | go_back | (simp only [Int.not_lt, Int.not_le] at *; go_simp) | (go_values <;> (try go_simp)) | (go_ite <;> go_prune <;> (try go_simp)) | (split <;> (first | (rename_i hx; exact (hx _ rfl).elim) | go_prune))))
                      refine ⟨ARel.mk (i + 1) true (by omega) (by go_num) rfl (fun _ j hj hji => ?_) H, by simp [intOf]; omega⟩
                      by_cases hji2 : j = i
                      · subst hji2
                        have k1 : n < g.length := by have := gss.out; have := gsx.out; omega
                        have k2 : n < f.length := by have := gsf.out; have := gsx.out; omega
                        refine ⟨hp2, by rw [gg.out]; exact k1, by rw [gL0.out]; exact k2, ?_⟩
                        have e3 : g[n] = f[n] := by
                          obtain ⟨q1, q2⟩ := gssi.out n k1
                          obtain ⟨q3, q4⟩ := gsfi.out n k2
                          rw [← q2, ← q4]
                          apply UInt8.toNat_inj.1
                          have := gq.out
                          simpa only [gsx.out] using this
                        simp only [gg.out, gL0.out]
                        exact e3
                      · exact hup.out (by trivial) j hj (by omega)
                    · have gq := Kp.mk hq
                      have hqb : (((ss[sx.size]'hS1).toNat : Int) == ((sf[sx.size]'hF1).toNat : Int)) = false := by rw [beq_eq_false_iff_ne]; omega
                      clear hq
                      try simp (disch := omega) only [decide_eq_true, decide_eq_false]
                      obtain ⟨wR17ah, rfl⟩ := Hp.nameW H
                      apply region_n (frm wR17ah.heap.size (fun _ => Hp _ _)) (frm_ok ?hfs_4) frm_sz [] [.light 0 0, .light 0 0, .light 0 0, .light 0 0, .light 0 0, .light 0 0, .light 0 0, .light 0 0, .light 0 0, .light 0 0, .light 0 0, .light 0 0, .light 0 0, .light 0 0, .light 0 0, .light 0 0, .light 0 0, .light 0 0, .light 0 0, .light 0 0, .light 0 0, .light 0 0, .light 0 0, .light 0 0, .light 0 0, .light 0 0] [false, false, false, false, false, false, false, false, false, false, false, false, false, false, false, false, false, false, false, false, false, false, false, false, false, false] 26 103 [26, 26, 26, 26, 26, 26, 26, 26, 26, 26, 26, 26, 26, 26, 26, 26, 26, 26, 26, 26, 26, 26, 26, 26, 26, 26] [some 72, some 73, some 74, some 75, some 76, some 77, some 78, some 79, some 80, some 81, some 82, some 83, some 84, some 85, some 86, some 87, some 88, some 89, some 90, some 91, some 92, some 93, some 94, some 95, some 96, some 97] [[], [0], [1], [1, 2], [1], [1, 4], [1, 3, 5], [1, 6], [7], [8], [8, 9], [8], [8, 11], [8, 10, 12], [8, 13], [14], [15], [15], [15, 17], [15, 16, 18], [15], [15], [15, 21], [15, 20, 22], [15, 19, 23], [15, 24]] [Eq1 _, Eq1 (.bool true), Eq1 _, Eq1 _, Eq1 _, Eq1 _, Eq1 (.bool true), Eq1 _, Eq1 _, Eq1 _, Eq1 _, Eq1 _, Eq1 _, Eq1 (.bool true), Eq1 _, Eq1 _, Eq1 _, Eq1 _, Eq1 _, Eq1 _, Eq1 _, Eq1 _, Eq1 _, Eq1 _, Eq1 (.bool false), Eq1 _] ?hq1_4 ?hq2_4 ?hq3_4 ?hq4_4 ?hq5_4 ?hq6_4 _ ?hA_4 ?hst_4 ?h0_4 ?hsteps_4 ?hend_4
                      case hq1_4 => kernel_rfl
                      case hq2_4 => kernel_rfl
                      case hq3_4 => kernel_rfl
                      case hq5_4 => kernel_rfl
                      case hq4_4 => rfl
                      case hq6_4 => rfl
                      case hA_4 => intro vs; simp only [fillD, Nat.reduceAdd, Act.put, List.setIfInBounds_toArray, List.set_cons_zero, List.set_cons_succ]; rfl
                      case h0_4 => exact H.drew
                      case hfs_4 => exact fun _ _ _ hb h => Hp.step h hb
                      case hsteps_4 =>
                        refine ⟨?_, ?_, ?_, ?_, ?_, ?_, ?_, ?_, ?_, ?_, ?_, ?_, ?_, ?_, ?_, ?_, ?_, ?_, ?_, ?_, ?_, ?_, ?_, ?_, ?_, ?_, trivial⟩
                        · intro p vs w' K hJ hp1 hp2 hS hR hK
                          rw [if_pos (by rfl)]
                          go_step
                          exact hK.out _ _ (Below.refl _ _) Eq1.mk Fresh.no
                        · intro p vs w' K hJ hp1 hp2 hS hR hK
                          simp only [DepJ, List.getD_cons_zero, List.getD_cons_succ] at hJ
                          obtain ⟨j0, -⟩ := hJ
                          have j0 := Eq1.out j0
                          simp only [j0] at hK ⊢
                          rw [if_pos (by rfl)]
                          go_step
                          exact hK.out _ _ (Below.refl _ _) (Eq1.of (by first | rfl | (simp; done) | (simp; omega))) Fresh.no
                        · intro p vs w' K hJ hp1 hp2 hS hR hK
                          simp only [DepJ, List.getD_cons_zero, List.getD_cons_succ] at hJ
                          obtain ⟨j1, -⟩ := hJ
                          have j1 := Eq1.out j1
                          simp only [j1] at hK ⊢
                          rw [if_pos (by rfl)]
                          go_step
                          exact hK.out _ _ (Below.refl _ _) Eq1.mk Fresh.no
                        · intro p vs w' K hJ hp1 hp2 hS hR hK
                          simp only [DepJ, List.getD_cons_zero, List.getD_cons_succ] at hJ
                          obtain ⟨j1, j2, -⟩ := hJ
                          have j1 := Eq1.out j1
                          have j2 := Eq1.out j2
                          simp only [j1, j2] at hK ⊢
                          rw [if_pos (by rfl)]
                          have C := Hp.facts hS
                          simp only [Facts, factsL, and_true, true_and, List.set_cons_zero, List.set_cons_succ, List.setIfInBounds_toArray] at C
                          have hsz := hR.1
                          go_step
                          exact hK.out _ _ (Below.refl _ _) Eq1.mk Fresh.no
                        · intro p vs w' K hJ hp1 hp2 hS hR hK
                          simp only [DepJ, List.getD_cons_zero, List.getD_cons_succ] at hJ
                          obtain ⟨j1, -⟩ := hJ
                          have j1 := Eq1.out j1
                          simp only [j1] at hK ⊢
                          rw [if_pos (by rfl)]
                          go_step
                          exact hK.out _ _ (Below.refl _ _) Eq1.mk Fresh.no
                        · intro p vs w' K hJ hp1 hp2 hS hR hK
                          simp only [DepJ, List.getD_cons_zero, List.getD_cons_succ] at hJ
                          obtain ⟨j1, j4, -⟩ := hJ
                          have j1 := Eq1.out j1
                          have j4 := Eq1.out j4
                          simp only [j1, j4] at hK ⊢
                          rw [if_pos (by rfl)]
                          have C := Hp.facts hS
                          simp only [Facts, factsL, and_true, true_and, List.set_cons_zero, List.set_cons_succ, List.setIfInBounds_toArray] at C
                          have hsz := hR.1
                          go_step
                          exact hK.out _ _ (Below.refl _ _) Eq1.mk Fresh.no
                        · intro p vs w' K hJ hp1 hp2 hS hR hK
                          simp only [DepJ, List.getD_cons_zero, List.getD_cons_succ] at hJ
                          obtain ⟨j1, j3, j5, -⟩ := hJ
                          have j1 := Eq1.out j1
                          have j3 := Eq1.out j3
                          have j5 := Eq1.out j5
                          simp only [j1, j3, j5] at hK ⊢
                          rw [if_pos (by rfl)]
                          go_step
                          exact hK.out _ _ (Below.refl _ _) (Eq1.of (by first | rfl | (simp; done) | (simp; omega))) Fresh.no
                        · intro p vs w' K hJ hp1 hp2 hS hR hK
                          simp only [DepJ, List.getD_cons_zero, List.getD_cons_succ] at hJ
                          obtain ⟨j1, j6, -⟩ := hJ
                          have j1 := Eq1.out j1
                          have j6 := Eq1.out j6
                          simp only [j1, j6] at hK ⊢
                          rw [if_pos (by rfl)]
                          go_step
                          exact hK.out _ _ (Below.refl _ _) Eq1.mk Fresh.no
                        · intro p vs w' K hJ hp1 hp2 hS hR hK
                          simp only [DepJ, List.getD_cons_zero, List.getD_cons_succ] at hJ
                          obtain ⟨j7, -⟩ := hJ
                          have j7 := Eq1.out j7
                          simp only [j7] at hK ⊢
                          rw [if_pos (by rfl)]
                          go_step
                          exact hK.out _ _ (Below.refl _ _) Eq1.mk Fresh.no
                        · intro p vs w' K hJ hp1 hp2 hS hR hK
                          simp only [DepJ, List.getD_cons_zero, List.getD_cons_succ] at hJ
                          obtain ⟨j8, -⟩ := hJ
                          have j8 := Eq1.out j8
                          simp only [j8] at hK ⊢
                          rw [if_pos (by rfl)]
                          go_step
                          exact hK.out _ _ (Below.refl _ _) Eq1.mk Fresh.no
                        · intro p vs w' K hJ hp1 hp2 hS hR hK
                          simp only [DepJ, List.getD_cons_zero, List.getD_cons_succ] at hJ
                          obtain ⟨j8, j9, -⟩ := hJ
                          have j8 := Eq1.out j8
                          have j9 := Eq1.out j9
                          simp only [j8, j9] at hK ⊢
                          rw [if_pos (by rfl)]
                          have C := Hp.facts hS
                          simp only [Facts, factsL, and_true, true_and, List.set_cons_zero, List.set_cons_succ, List.setIfInBounds_toArray] at C
                          have hsz := hR.1
                          go_step
                          exact hK.out _ _ (Below.refl _ _) Eq1.mk Fresh.no
                        · intro p vs w' K hJ hp1 hp2 hS hR hK
                          simp only [DepJ, List.getD_cons_zero, List.getD_cons_succ] at hJ
                          obtain ⟨j8, -⟩ := hJ
                          have j8 := Eq1.out j8
                          simp only [j8] at hK ⊢
                          rw [if_pos (by rfl)]
                          go_step
                          exact hK.out _ _ (Below.refl _ _) Eq1.mk Fresh.no
                        · intro p vs w' K hJ hp1 hp2 hS hR hK
                          simp only [DepJ, List.getD_cons_zero, List.getD_cons_succ] at hJ
                          obtain ⟨j8, j11, -⟩ := hJ
                          have j8 := Eq1.out j8
                          have j11 := Eq1.out j11
                          simp only [j8, j11] at hK ⊢
                          rw [if_pos (by rfl)]
                          have C := Hp.facts hS
                          simp only [Facts, factsL, and_true, true_and, List.set_cons_zero, List.set_cons_succ, List.setIfInBounds_toArray] at C
                          have hsz := hR.1
                          go_step
                          exact hK.out _ _ (Below.refl _ _) Eq1.mk Fresh.no
                        · intro p vs w' K hJ hp1 hp2 hS hR hK
                          simp only [DepJ, List.getD_cons_zero, List.getD_cons_succ] at hJ
                          obtain ⟨j8, j10, j12, -⟩ := hJ
                          have j8 := Eq1.out j8
                          have j10 := Eq1.out j10
                          have j12 := Eq1.out j12
                          simp only [j8, j10, j12] at hK ⊢
                          rw [if_pos (by rfl)]
                          go_step
                          exact hK.out _ _ (Below.refl _ _) (Eq1.of (by first | rfl | (simp; done) | (simp; omega))) Fresh.no
                        · intro p vs w' K hJ hp1 hp2 hS hR hK
                          simp only [DepJ, List.getD_cons_zero, List.getD_cons_succ] at hJ
                          obtain ⟨j8, j13, -⟩ := hJ
                          have j8 := Eq1.out j8
                          have j13 := Eq1.out j13
                          simp only [j8, j13] at hK ⊢
                          rw [if_pos (by rfl)]
                          go_step
                          exact hK.out _ _ (Below.refl _ _) Eq1.mk Fresh.no
                        · intro p vs w' K hJ hp1 hp2 hS hR hK
                          simp only [DepJ, List.getD_cons_zero, List.getD_cons_succ] at hJ
                          obtain ⟨j14, -⟩ := hJ
                          have j14 := Eq1.out j14
                          simp only [j14] at hK ⊢
                          rw [if_pos (by rfl)]
                          go_step
                          exact hK.out _ _ (Below.refl _ _) Eq1.mk Fresh.no
                        · intro p vs w' K hJ hp1 hp2 hS hR hK
                          simp only [DepJ, List.getD_cons_zero, List.getD_cons_succ] at hJ
                          obtain ⟨j15, -⟩ := hJ
                          have j15 := Eq1.out j15
                          simp only [j15] at hK ⊢
                          rw [if_pos (by rfl)]
                          go_step
                          exact hK.out _ _ (Below.refl _ _) Eq1.mk Fresh.no
                        · intro p vs w' K hJ hp1 hp2 hS hR hK
                          simp only [DepJ, List.getD_cons_zero, List.getD_cons_succ] at hJ
                          obtain ⟨j15, -⟩ := hJ
                          have j15 := Eq1.out j15
                          simp only [j15] at hK ⊢
                          rw [if_pos (by rfl)]
                          go_step
                          exact hK.out _ _ (Below.refl _ _) Eq1.mk Fresh.no
                        · intro p vs w' K hJ hp1 hp2 hS hR hK
                          simp only [DepJ, List.getD_cons_zero, List.getD_cons_succ] at hJ
                          obtain ⟨j15, j17, -⟩ := hJ
                          have j15 := Eq1.out j15
                          have j17 := Eq1.out j17
                          simp only [j15, j17] at hK ⊢
                          rw [if_pos (by rfl)]
                          have C := Hp.facts hS
                          simp only [Facts, factsL, and_true, true_and, List.set_cons_zero, List.set_cons_succ, List.setIfInBounds_toArray] at C
                          have hsz := hR.1
                          go_step
                          exact hK.out _ _ (Below.refl _ _) Eq1.mk Fresh.no
                        · intro p vs w' K hJ hp1 hp2 hS hR hK
                          simp only [DepJ, List.getD_cons_zero, List.getD_cons_succ] at hJ
                          obtain ⟨j15, j16, j18, -⟩ := hJ
                          have j15 := Eq1.out j15
                          have j16 := Eq1.out j16
                          have j18 := Eq1.out j18
                          simp only [j15, j16, j18] at hK ⊢
                          rw [if_pos (by rfl)]
                          have C := Hp.facts hS
                          simp only [Facts, factsL, and_true, true_and, List.set_cons_zero, List.set_cons_succ, List.setIfInBounds_toArray] at C
                          have hsz := hR.1
                          go_step
                          exact hK.out _ _ (Below.refl _ _) Eq1.mk Fresh.no
                        · intro p vs w' K hJ hp1 hp2 hS hR hK
                          simp only [DepJ, List.getD_cons_zero, List.getD_cons_succ] at hJ
                          obtain ⟨j15, -⟩ := hJ
                          have j15 := Eq1.out j15
                          simp only [j15] at hK ⊢
                          rw [if_pos (by rfl)]
                          go_step
                          exact hK.out _ _ (Below.refl _ _) Eq1.mk Fresh.no
                        · intro p vs w' K hJ hp1 hp2 hS hR hK
                          simp only [DepJ, List.getD_cons_zero, List.getD_cons_succ] at hJ
                          obtain ⟨j15, -⟩ := hJ
                          have j15 := Eq1.out j15
                          simp only [j15] at hK ⊢
                          rw [if_pos (by rfl)]
                          go_step
                          exact hK.out _ _ (Below.refl _ _) Eq1.mk Fresh.no
                        · intro p vs w' K hJ hp1 hp2 hS hR hK
                          simp only [DepJ, List.getD_cons_zero, List.getD_cons_succ] at hJ
                          obtain ⟨j15, j21, -⟩ := hJ
                          have j15 := Eq1.out j15
                          have j21 := Eq1.out j21
                          simp only [j15, j21] at hK ⊢
                          rw [if_pos (by rfl)]
                          have C := Hp.facts hS
                          simp only [Facts, factsL, and_true, true_and, List.set_cons_zero, List.set_cons_succ, List.setIfInBounds_toArray] at C
                          have hsz := hR.1
                          go_step
                          exact hK.out _ _ (Below.refl _ _) Eq1.mk Fresh.no
                        · intro p vs w' K hJ hp1 hp2 hS hR hK
                          simp only [DepJ, List.getD_cons_zero, List.getD_cons_succ] at hJ
                          obtain ⟨j15, j20, j22, -⟩ := hJ
                          have j15 := Eq1.out j15
                          have j20 := Eq1.out j20
                          have j22 := Eq1.out j22
                          simp only [j15, j20, j22] at hK ⊢
                          rw [if_pos (by rfl)]
                          have C := Hp.facts hS
                          simp only [Facts, factsL, and_true, true_and, List.set_cons_zero, List.set_cons_succ, List.setIfInBounds_toArray] at C
                          have hsz := hR.1
                          go_step
                          exact hK.out _ _ (Below.refl _ _) Eq1.mk Fresh.no
                        · intro p vs w' K hJ hp1 hp2 hS hR hK
                          simp only [DepJ, List.getD_cons_zero, List.getD_cons_succ] at hJ
                          obtain ⟨j15, j19, j23, -⟩ := hJ
                          have j15 := Eq1.out j15
                          have j19 := Eq1.out j19
                          have j23 := Eq1.out j23
                          simp only [j15, j19, j23] at hK ⊢
                          rw [if_pos (by rfl)]
                          go_step
                          exact hK.out _ _ (Below.refl _ _) (Eq1.of (by first | rfl | rw [hqb] | (simp; exact gq.out))) Fresh.no
                        · intro p vs w' K hJ hp1 hp2 hS hR hK
                          simp only [DepJ, List.getD_cons_zero, List.getD_cons_succ] at hJ
                          obtain ⟨j15, j24, -⟩ := hJ
                          have j15 := Eq1.out j15
                          have j24 := Eq1.out j24
                          simp only [j15, j24] at hK ⊢
                          rw [if_pos (by rfl)]
                          go_step
                          exact hK.out _ _ (Below.refl _ _) Eq1.mk Fresh.no
                      case hst_4 => refine ⟨fun _ _ _ _ h => h, fun _ _ _ _ h => h, fun _ _ _ _ h => h, fun _ _ _ _ h => h, fun _ _ _ _ h => h, fun _ _ _ _ h => h, fun _ _ _ _ h => h, fun _ _ _ _ h => h, fun _ _ _ _ h => h, fun _ _ _ _ h => h, fun _ _ _ _ h => h, fun _ _ _ _ h => h, fun _ _ _ _ h => h, fun _ _ _ _ h => h, fun _ _ _ _ h => h, fun _ _ _ _ h => h, fun _ _ _ _ h => h, fun _ _ _ _ h => h, fun _ _ _ _ h => h, fun _ _ _ _ h => h, fun _ _ _ _ h => h, fun _ _ _ _ h => h, fun _ _ _ _ h => h, fun _ _ _ _ h => h, fun _ _ _ _ h => h, fun _ _ _ _ h => h, trivial⟩
                      intro vs w' hJ hD hS hR
                      simp only [AllJ, Nat.reduceAdd] at hJ
                      obtain ⟨v0, v1, v2, v3, v4, v5, v6, v7, v8, v9, v10, v11, v12, v13, v14, v15, v16, v17, v18, v19, v20, v21, v22, v23, v24, v25, -⟩ := hJ
                      clear C
                      replace v0 := Eq1.out v0
                      replace v1 := Eq1.out v1
                      replace v2 := Eq1.out v2
                      replace v3 := Eq1.out v3
                      replace v4 := Eq1.out v4
                      replace v5 := Eq1.out v5
                      replace v6 := Eq1.out v6
                      replace v7 := Eq1.out v7
                      replace v8 := Eq1.out v8
                      replace v9 := Eq1.out v9
                      replace v10 := Eq1.out v10
                      replace v11 := Eq1.out v11
                      replace v12 := Eq1.out v12
                      replace v13 := Eq1.out v13
                      replace v14 := Eq1.out v14
                      replace v15 := Eq1.out v15
                      replace v16 := Eq1.out v16
                      replace v17 := Eq1.out v17
                      replace v18 := Eq1.out v18
                      replace v19 := Eq1.out v19
                      replace v20 := Eq1.out v20
                      replace v21 := Eq1.out v21
                      replace v22 := Eq1.out v22
                      replace v23 := Eq1.out v23
                      replace v24 := Eq1.out v24
                      replace v25 := Eq1.out v25
                      simp only [v0, v1, v2, v3, v4, v5, v6, v7, v8, v9, v10, v11, v12, v13, v14, v15, v16, v17, v18, v19, v20, v21, v22, v23, v24, v25, List.drop_succ_cons, List.drop_zero]
                      have H' : Hp _ _ _ := hS
                      clear hD hR hS v0 v1 v2 v3 v4 v5 v6 v7 v8 v9 v10 v11 v12 v13 v14 v15 v16 v17 v18 v19 v20 v21 v22 v23 v24 v25
                      clear vs H
                      have H := H'; clear H'; have C := Hp.facts H; simp only [Facts, factsL, and_true, true_and, List.set_cons_zero, List.set_cons_succ, List.setIfInBounds_toArray] at C
                      (repeat' ((fail_if_success (with_reducible show bodyPost _ _ _ _ _ _)); first | ((with_reducible refine Hp.abs_alloc H ?_); intro b' w' H' hb'; (try simp only [hb']); clear hb'; ((try simp only [List.set_cons_zero, List.set_cons_succ, List.setIfInBounds_toArray] at H'); clear C H; have H := H'; clear H'; have C := Hp.facts H; simp only [Facts, factsL, and_true, true_and, List.set_cons_zero, List.set_cons_succ, List.setIfInBounds_toArray] at C)) | ((with_reducible show wpList _ _ _ _ _ (World.setCell _ _ _)); (with_reducible apply Hp.abs_gen H); (first | ((repeat (with_reducible apply Hp.set' 0)); (with_reducible exact H); (repeat rfl); intro w' H') | ((repeat (with_reducible apply Hp.set' 1)); (with_reducible exact H); (repeat rfl); intro w' H') | ((repeat (with_reducible apply Hp.set' 2)); (with_reducible exact H); (repeat rfl); intro w' H') | ((repeat (with_reducible apply Hp.set' 3)); (with_reducible exact H); (repeat rfl); intro w' H') | ((repeat (with_reducible apply Hp.set' 4)); (with_reducible exact H); (repeat rfl); intro w' H') | ((repeat (with_reducible apply Hp.set' 5)); (with_reducible exact H); (repeat rfl); intro w' H') | ((repeat (with_reducible apply Hp.set' 6)); (with_reducible exact H); (repeat rfl); intro w' H') | ((repeat (with_reducible apply Hp.set' 7)); (with_reducible exact H); (repeat rfl); intro w' H')); ((try simp only [List.set_cons_zero, List.set_cons_succ, List.setIfInBounds_toArray] at H'); clear C H; have H := H'; clear H'; have C := Hp.facts H; simp only [Facts, factsL, and_true, true_and, List.set_cons_zero, List.set_cons_succ, List.setIfInBounds_toArray] at C)) | go_values | go_skip | go_guarded | go_step | go_upon | go_back | (simp only [Int.not_lt, Int.not_le] at *; go_simp) | (go_values <;> (try go_simp)) | (go_ite <;> go_prune <;> (try go_simp)) | (split <;> (first | (rename_i hx; exact (hx _ rfl).elim) | go_prune))))
                      exact ⟨ARel.mk (i + 1) false (by omega) (by go_num) rfl (fun h => by cases h) H, by simp [intOf]; omega⟩
                  · skip
                    try simp (disch := omega) only [decide_eq_true, decide_eq_false]
                    obtain ⟨wR17ai, rfl⟩ := Hp.nameW H
                    apply region_n (frm wR17ai.heap.size (fun _ => Hp _ _)) (frm_ok ?hfs_5) frm_sz [] [.light 0 0, .light 0 0, .light 0 0, .light 0 0, .light 0 0, .light 0 0, .light 0 0, .light 0 0, .light 0 0, .light 0 0, .light 0 0, .light 0 0, .light 0 0, .light 0 0, .light 0 0, .light 0 0, .light 0 0, .light 0 0, .light 0 0, .light 0 0, .light 0 0, .light 0 0, .light 0 0, .light 0 0, .light 0 0, .light 0 0] [false, false, false, false, false, false, false, false, false, false, false, false, false, false, false, false, false, false, false, false, false, false, false, false, false, false] 26 103 [26, 26, 26, 26, 26, 26, 26, 26, 26, 26, 26, 26, 26, 26, 26, 26, 26, 26, 26, 26, 26, 26, 26, 26, 26, 26] [some 72, some 73, some 74, some 75, some 76, some 77, some 78, some 79, some 80, some 81, some 82, some 83, some 84, some 85, some 86, some 87, some 88, some 89, some 90, some 91, some 92, some 93, some 94, some 95, some 96, some 97] [[], [0], [1], [1, 2], [1], [1, 4], [1, 3, 5], [1, 6], [7], [8], [8, 9], [8], [8, 11], [8, 10, 12], [8, 13], [14], [15], [15], [15, 17], [15, 16, 18], [15], [15], [15, 21], [15, 20, 22], [15, 19, 23], [15, 24]] [Eq1 _, Eq1 (.bool true), Eq1 _, Eq1 _, Eq1 _, Eq1 _, Eq1 (.bool true), Eq1 _, Eq1 _, Eq1 _, Eq1 _, Eq1 _, Eq1 _, Eq1 (.bool false), Eq1 _, Eq1 _, Eq1 _, Eq1 _, Eq1 _, Eq1 _, Eq1 _, Eq1 _, Eq1 _, Eq1 _, Eq1 _, Eq1 _] ?hq1_5 ?hq2_5 ?hq3_5 ?hq4_5 ?hq5_5 ?hq6_5 _ ?hA_5 ?hst_5 ?h0_5 ?hsteps_5 ?hend_5
                    case hq1_5 => kernel_rfl
                    case hq2_5 => kernel_rfl
                    case hq3_5 => kernel_rfl
                    case hq5_5 => kernel_rfl
                    case hq4_5 => rfl
                    case hq6_5 => rfl
                    case hA_5 => intro vs; simp only [fillD, Nat.reduceAdd, Act.put, List.setIfInBounds_toArray, List.set_cons_zero, List.set_cons_succ]; rfl
                    case h0_5 => exact H.drew
                    case hfs_5 => exact fun _ _ _ hb h => Hp.step h hb
                    case hsteps_5 =>
                      refine ⟨?_, ?_, ?_, ?_, ?_, ?_, ?_, ?_, ?_, ?_, ?_, ?_, ?_, ?_, ?_, ?_, ?_, ?_, ?_, ?_, ?_, ?_, ?_, ?_, ?_, ?_, trivial⟩
                      · intro p vs w' K hJ hp1 hp2 hS hR hK
                        rw [if_pos (by rfl)]
                        go_step
                        exact hK.out _ _ (Below.refl _ _) Eq1.mk Fresh.no
                      · intro p vs w' K hJ hp1 hp2 hS hR hK
                        simp only [DepJ, List.getD_cons_zero, List.getD_cons_succ] at hJ
                        obtain ⟨j0, -⟩ := hJ
                        have j0 := Eq1.out j0
                        simp only [j0] at hK ⊢
                        rw [if_pos (by rfl)]
                        go_step
                        exact hK.out _ _ (Below.refl _ _) (Eq1.of (by first | rfl | (simp; done) | (simp; omega))) Fresh.no
                      · intro p vs w' K hJ hp1 hp2 hS hR hK
                        simp only [DepJ, List.getD_cons_zero, List.getD_cons_succ] at hJ
                        obtain ⟨j1, -⟩ := hJ
                        have j1 := Eq1.out j1
                        simp only [j1] at hK ⊢
                        rw [if_pos (by rfl)]
                        go_step
                        exact hK.out _ _ (Below.refl _ _) Eq1.mk Fresh.no
                      · intro p vs w' K hJ hp1 hp2 hS hR hK
                        simp only [DepJ, List.getD_cons_zero, List.getD_cons_succ] at hJ
                        obtain ⟨j1, j2, -⟩ := hJ
                        have j1 := Eq1.out j1
                        have j2 := Eq1.out j2
                        simp only [j1, j2] at hK ⊢
                        rw [if_pos (by rfl)]
                        have C := Hp.facts hS
                        simp only [Facts, factsL, and_true, true_and, List.set_cons_zero, List.set_cons_succ, List.setIfInBounds_toArray] at C
                        have hsz := hR.1
                        go_step
                        exact hK.out _ _ (Below.refl _ _) Eq1.mk Fresh.no
                      · intro p vs w' K hJ hp1 hp2 hS hR hK
                        simp only [DepJ, List.getD_cons_zero, List.getD_cons_succ] at hJ
                        obtain ⟨j1, -⟩ := hJ
                        have j1 := Eq1.out j1
                        simp only [j1] at hK ⊢
                        rw [if_pos (by rfl)]
                        go_step
                        exact hK.out _ _ (Below.refl _ _) Eq1.mk Fresh.no
                      · intro p vs w' K hJ hp1 hp2 hS hR hK
                        simp only [DepJ, List.getD_cons_zero, List.getD_cons_succ] at hJ
                        obtain ⟨j1, j4, -⟩ := hJ
                        have j1 := Eq1.out j1
                        have j4 := Eq1.out j4
                        simp only [j1, j4] at hK ⊢
                        rw [if_pos (by rfl)]
                        have C := Hp.facts hS
                        simp only [Facts, factsL, and_true, true_and, List.set_cons_zero, List.set_cons_succ, List.setIfInBounds_toArray] at C
                        have hsz := hR.1
                        go_step
                        exact hK.out _ _ (Below.refl _ _) Eq1.mk Fresh.no
                      · intro p vs w' K hJ hp1 hp2 hS hR hK
                        simp only [DepJ, List.getD_cons_zero, List.getD_cons_succ] at hJ
                        obtain ⟨j1, j3, j5, -⟩ := hJ
                        have j1 := Eq1.out j1
                        have j3 := Eq1.out j3
                        have j5 := Eq1.out j5
                        simp only [j1, j3, j5] at hK ⊢
                        rw [if_pos (by rfl)]
                        go_step
                        exact hK.out _ _ (Below.refl _ _) (Eq1.of (by first | rfl | (simp; done) | (simp; omega))) Fresh.no
                      · intro p vs w' K hJ hp1 hp2 hS hR hK
                        simp only [DepJ, List.getD_cons_zero, List.getD_cons_succ] at hJ
                        obtain ⟨j1, j6, -⟩ := hJ
                        have j1 := Eq1.out j1
                        have j6 := Eq1.out j6
                        simp only [j1, j6] at hK ⊢
                        rw [if_pos (by rfl)]
                        go_step
                        exact hK.out _ _ (Below.refl _ _) Eq1.mk Fresh.no
                      · intro p vs w' K hJ hp1 hp2 hS hR hK
                        simp only [DepJ, List.getD_cons_zero, List.getD_cons_succ] at hJ
                        obtain ⟨j7, -⟩ := hJ
                        have j7 := Eq1.out j7
                        simp only [j7] at hK ⊢
                        rw [if_pos (by rfl)]
                        go_step
                        exact hK.out _ _ (Below.refl _ _) Eq1.mk Fresh.no
                      · intro p vs w' K hJ hp1 hp2 hS hR hK
                        simp only [DepJ, List.getD_cons_zero, List.getD_cons_succ] at hJ
                        obtain ⟨j8, -⟩ := hJ
                        have j8 := Eq1.out j8
                        simp only [j8] at hK ⊢
                        rw [if_pos (by rfl)]
                        go_step
                        exact hK.out _ _ (Below.refl _ _) Eq1.mk Fresh.no
                      · intro p vs w' K hJ hp1 hp2 hS hR hK
                        simp only [DepJ, List.getD_cons_zero, List.getD_cons_succ] at hJ
                        obtain ⟨j8, j9, -⟩ := hJ
                        have j8 := Eq1.out j8
                        have j9 := Eq1.out j9
                        simp only [j8, j9] at hK ⊢
                        rw [if_pos (by rfl)]
                        have C := Hp.facts hS
                        simp only [Facts, factsL, and_true, true_and, List.set_cons_zero, List.set_cons_succ, List.setIfInBounds_toArray] at C
                        have hsz := hR.1
                        go_step
                        exact hK.out _ _ (Below.refl _ _) Eq1.mk Fresh.no
                      · intro p vs w' K hJ hp1 hp2 hS hR hK
                        simp only [DepJ, List.getD_cons_zero, List.getD_cons_succ] at hJ
                        obtain ⟨j8, -⟩ := hJ
                        have j8 := Eq1.out j8
                        simp only [j8] at hK ⊢
                        rw [if_pos (by rfl)]
                        go_step
                        exact hK.out _ _ (Below.refl _ _) Eq1.mk Fresh.no
                      · intro p vs w' K hJ hp1 hp2 hS hR hK
                        simp only [DepJ, List.getD_cons_zero, List.getD_cons_succ] at hJ
                        obtain ⟨j8, j11, -⟩ := hJ
                        have j8 := Eq1.out j8
                        have j11 := Eq1.out j11
                        simp only [j8, j11] at hK ⊢
                        rw [if_pos (by rfl)]
                        have C := Hp.facts hS
                        simp only [Facts, factsL, and_true, true_and, List.set_cons_zero, List.set_cons_succ, List.setIfInBounds_toArray] at C
                        have hsz := hR.1
                        go_step
                        exact hK.out _ _ (Below.refl _ _) Eq1.mk Fresh.no
                      · intro p vs w' K hJ hp1 hp2 hS hR hK
                        simp only [DepJ, List.getD_cons_zero, List.getD_cons_succ] at hJ
                        obtain ⟨j8, j10, j12, -⟩ := hJ
                        have j8 := Eq1.out j8
                        have j10 := Eq1.out j10
                        have j12 := Eq1.out j12
                        simp only [j8, j10, j12] at hK ⊢
                        rw [if_pos (by rfl)]
                        go_step
                        exact hK.out _ _ (Below.refl _ _) (Eq1.of (by first | rfl | (simp; done) | (simp; omega))) Fresh.no
                      · intro p vs w' K hJ hp1 hp2 hS hR hK
                        simp only [DepJ, List.getD_cons_zero, List.getD_cons_succ] at hJ
                        obtain ⟨j8, j13, -⟩ := hJ
                        have j8 := Eq1.out j8
                        have j13 := Eq1.out j13
                        simp only [j8, j13] at hK ⊢
                        rw [if_pos (by rfl)]
                        go_step
                        exact hK.out _ _ (Below.refl _ _) Eq1.mk Fresh.no
                      · intro p vs w' K hJ hp1 hp2 hS hR hK
                        simp only [DepJ, List.getD_cons_zero, List.getD_cons_succ] at hJ
                        obtain ⟨j14, -⟩ := hJ
                        have j14 := Eq1.out j14
                        simp only [j14] at hK ⊢
                        rw [if_pos (by rfl)]
                        go_step
                        exact hK.out _ _ (Below.refl _ _) Eq1.mk Fresh.no
                      · intro p vs w' K hJ hp1 hp2 hS hR hK
                        simp only [DepJ, List.getD_cons_zero, List.getD_cons_succ] at hJ
                        obtain ⟨j15, -⟩ := hJ
                        have j15 := Eq1.out j15
                        simp only [j15] at hK ⊢
                        rw [if_neg (by simp [Region.wanted, yielded, undef])]
                        exact hK.out _ _ (Below.refl _ _) Eq1.mk Fresh.no
                      · intro p vs w' K hJ hp1 hp2 hS hR hK
                        simp only [DepJ, List.getD_cons_zero, List.getD_cons_succ] at hJ
                        obtain ⟨j15, -⟩ := hJ
                        have j15 := Eq1.out j15
                        simp only [j15] at hK ⊢
                        rw [if_neg (by simp [Region.wanted, yielded, undef])]
                        exact hK.out _ _ (Below.refl _ _) Eq1.mk Fresh.no
                      · intro p vs w' K hJ hp1 hp2 hS hR hK
                        simp only [DepJ, List.getD_cons_zero, List.getD_cons_succ] at hJ
                        obtain ⟨j15, j17, -⟩ := hJ
                        have j15 := Eq1.out j15
                        have j17 := Eq1.out j17
                        simp only [j15, j17] at hK ⊢
                        rw [if_neg (by simp [Region.wanted, yielded, undef])]
                        exact hK.out _ _ (Below.refl _ _) Eq1.mk Fresh.no
                      · intro p vs w' K hJ hp1 hp2 hS hR hK
                        simp only [DepJ, List.getD_cons_zero, List.getD_cons_succ] at hJ
                        obtain ⟨j15, j16, j18, -⟩ := hJ
                        have j15 := Eq1.out j15
                        have j16 := Eq1.out j16
                        have j18 := Eq1.out j18
                        simp only [j15, j16, j18] at hK ⊢
                        rw [if_neg (by simp [Region.wanted, yielded, undef])]
                        exact hK.out _ _ (Below.refl _ _) Eq1.mk Fresh.no
                      · intro p vs w' K hJ hp1 hp2 hS hR hK
                        simp only [DepJ, List.getD_cons_zero, List.getD_cons_succ] at hJ
                        obtain ⟨j15, -⟩ := hJ
                        have j15 := Eq1.out j15
                        simp only [j15] at hK ⊢
                        rw [if_neg (by simp [Region.wanted, yielded, undef])]
                        exact hK.out _ _ (Below.refl _ _) Eq1.mk Fresh.no
                      · intro p vs w' K hJ hp1 hp2 hS hR hK
                        simp only [DepJ, List.getD_cons_zero, List.getD_cons_succ] at hJ
                        obtain ⟨j15, -⟩ := hJ
                        have j15 := Eq1.out j15
                        simp only [j15] at hK ⊢
                        rw [if_neg (by simp [Region.wanted, yielded, undef])]
                        exact hK.out _ _ (Below.refl _ _) Eq1.mk Fresh.no
                      · intro p vs w' K hJ hp1 hp2 hS hR hK
                        simp only [DepJ, List.getD_cons_zero, List.getD_cons_succ] at hJ
                        obtain ⟨j15, j21, -⟩ := hJ
                        have j15 := Eq1.out j15
                        have j21 := Eq1.out j21
                        simp only [j15, j21] at hK ⊢
                        rw [if_neg (by simp [Region.wanted, yielded, undef])]
                        exact hK.out _ _ (Below.refl _ _) Eq1.mk Fresh.no
                      · intro p vs w' K hJ hp1 hp2 hS hR hK
                        simp only [DepJ, List.getD_cons_zero, List.getD_cons_succ] at hJ
                        obtain ⟨j15, j20, j22, -⟩ := hJ
                        have j15 := Eq1.out j15
                        have j20 := Eq1.out j20
                        have j22 := Eq1.out j22
                        simp only [j15, j20, j22] at hK ⊢
                        rw [if_neg (by simp [Region.wanted, yielded, undef])]
                        exact hK.out _ _ (Below.refl _ _) Eq1.mk Fresh.no
                      · intro p vs w' K hJ hp1 hp2 hS hR hK
                        simp only [DepJ, List.getD_cons_zero, List.getD_cons_succ] at hJ
                        obtain ⟨j15, j19, j23, -⟩ := hJ
                        have j15 := Eq1.out j15
                        have j19 := Eq1.out j19
                        have j23 := Eq1.out j23
                        simp only [j15, j19, j23] at hK ⊢
                        rw [if_neg (by simp [Region.wanted, yielded, undef])]
                        exact hK.out _ _ (Below.refl _ _) Eq1.mk Fresh.no
                      · intro p vs w' K hJ hp1 hp2 hS hR hK
                        simp only [DepJ, List.getD_cons_zero, List.getD_cons_succ] at hJ
                        obtain ⟨j15, j24, -⟩ := hJ
                        have j15 := Eq1.out j15
                        have j24 := Eq1.out j24
                        simp only [j15, j24] at hK ⊢
                        rw [if_pos (by rfl)]
                        go_step
                        exact hK.out _ _ (Below.refl _ _) Eq1.mk Fresh.no
                    case hst_5 => refine ⟨fun _ _ _ _ h => h, fun _ _ _ _ h => h, fun _ _ _ _ h => h, fun _ _ _ _ h => h, fun _ _ _ _ h => h, fun _ _ _ _ h => h, fun _ _ _ _ h => h, fun _ _ _ _ h => h, fun _ _ _ _ h => h, fun _ _ _ _ h => h, fun _ _ _ _ h => h, fun _ _ _ _ h => h, fun _ _ _ _ h => h, fun _ _ _ _ h => h, fun _ _ _ _ h => h, fun _ _ _ _ h => h, fun _ _ _ _ h => h, fun _ _ _ _ h => h, fun _ _ _ _ h => h, fun _ _ _ _ h => h, fun _ _ _ _ h => h, fun _ _ _ _ h => h, fun _ _ _ _ h => h, fun _ _ _ _ h => h, fun _ _ _ _ h => h, fun _ _ _ _ h => h, trivial⟩
                    intro vs w' hJ hD hS hR
                    simp only [AllJ, Nat.reduceAdd] at hJ
                    obtain ⟨v0, v1, v2, v3, v4, v5, v6, v7, v8, v9, v10, v11, v12, v13, v14, v15, v16, v17, v18, v19, v20, v21, v22, v23, v24, v25, -⟩ := hJ
                    clear C
                    replace v0 := Eq1.out v0
                    replace v1 := Eq1.out v1
                    replace v2 := Eq1.out v2
                    replace v3 := Eq1.out v3
                    replace v4 := Eq1.out v4
                    replace v5 := Eq1.out v5
                    replace v6 := Eq1.out v6
                    replace v7 := Eq1.out v7
                    replace v8 := Eq1.out v8
                    replace v9 := Eq1.out v9
                    replace v10 := Eq1.out v10
                    replace v11 := Eq1.out v11
                    replace v12 := Eq1.out v12
                    replace v13 := Eq1.out v13
                    replace v14 := Eq1.out v14
                    replace v15 := Eq1.out v15
                    replace v16 := Eq1.out v16
                    replace v17 := Eq1.out v17
                    replace v18 := Eq1.out v18
                    replace v19 := Eq1.out v19
                    replace v20 := Eq1.out v20
                    replace v21 := Eq1.out v21
                    replace v22 := Eq1.out v22
                    replace v23 := Eq1.out v23
                    replace v24 := Eq1.out v24
                    replace v25 := Eq1.out v25
                    simp only [v0, v1, v2, v3, v4, v5, v6, v7, v8, v9, v10, v11, v12, v13, v14, v15, v16, v17, v18, v19, v20, v21, v22, v23, v24, v25, List.drop_succ_cons, List.drop_zero]
                    have H' : Hp _ _ _ := hS
                    clear hD hR hS v0 v1 v2 v3 v4 v5 v6 v7 v8 v9 v10 v11 v12 v13 v14 v15 v16 v17 v18 v19 v20 v21 v22 v23 v24 v25
                    clear vs H
                    have H := H'; clear H'; have C := Hp.facts H; simp only [Facts, factsL, and_true, true_and, List.set_cons_zero, List.set_cons_succ, List.setIfInBounds_toArray] at C
                    (repeat' ((fail_if_success (with_reducible show bodyPost _ _ _ _ _ _)); first | ((with_reducible refine Hp.abs_alloc H ?_); intro b' w' H' hb'; (try simp only [hb']); clear hb'; ((try simp only [List.set_cons_zero, List.set_cons_succ, List.setIfInBounds_toArray] at H'); clear C H; have H := H'; clear H'; have C := Hp.facts H; simp only [Facts, factsL, and_true, true_and, List.set_cons_zero, List.set_cons_succ, List.setIfInBounds_toArray] at C)) | ((with_reducible show wpList _ _ _ _ _ (World.setCell _ _ _)); (with_reducible apply Hp.abs_gen H); (first | ((repeat (with_reducible apply Hp.set' 0)); (with_reducible exact H); (repeat rfl); intro w' H') | ((repeat (with_reducible apply Hp.set' 1)); (with_reducible exact H); (repeat rfl); intro w' H') | ((repeat (with_reducible apply Hp.set' 2)); (with_reducible exact H); (repeat rfl); intro w' H') | ((repeat (with_reducible apply Hp.set' 3)); (with_reducible exact H); (repeat rfl); intro w' H') | ((repeat (with_reducible apply Hp.set' 4)); (with_reducible exact H); (repeat rfl); intro w' H') | ((repeat (with_reducible apply Hp.set' 5)); (with_reducible exact H); (repeat rfl); intro w' H') | ((repeat (with_reducible apply Hp.set' 6)); (with_reducible exact H); (repeat rfl); intro w' H') | ((repeat (with_reducible apply Hp.set' 7)); (with_reducible exact H); (repeat rfl); intro w' H')); ((try simp only [List.set_cons_zero, List.set_cons_succ, List.setIfInBounds_toArray] at H'); clear C H; have H := H'; clear H'; have C := Hp.facts H; simp only [Facts, factsL, and_true, true_and, List.set_cons_zero, List.set_cons_succ, List.setIfInBounds_toArray] at C)) | go_values | go_skip | go_guarded | go_step | go_upon | go_back | (simp only [Int.not_lt, Int.not_le] at *; go_simp) | (go_values <;> (try go_simp)) | (go_ite <;> go_prune <;> (try go_simp)) | (split <;> (first | (rename_i hx; exact (hx _ rfl).elim) | go_prune))))
                    exact ⟨ARel.mk (i + 1) false (by omega) (by go_num) rfl (fun h => by cases h) H, by simp [intOf]; omega⟩
                · skip
                  try simp (disch := omega) only [decide_eq_true, decide_eq_false]
                  obtain ⟨wR17aj, rfl⟩ := Hp.nameW H
                  apply region_n (frm wR17aj.heap.size (fun _ => Hp _ _)) (frm_ok ?hfs_6) frm_sz [] [.light 0 0, .light 0 0, .light 0 0, .light 0 0, .light 0 0, .light 0 0, .light 0 0, .light 0 0, .light 0 0, .light 0 0, .light 0 0, .light 0 0, .light 0 0, .light 0 0, .light 0 0, .light 0 0, .light 0 0, .light 0 0, .light 0 0, .light 0 0, .light 0 0, .light 0 0, .light 0 0, .light 0 0, .light 0 0, .light 0 0] [false, false, false, false, false, false, false, false, false, false, false, false, false, false, false, false, false, false, false, false, false, false, false, false, false, false] 26 103 [26, 26, 26, 26, 26, 26, 26, 26, 26, 26, 26, 26, 26, 26, 26, 26, 26, 26, 26, 26, 26, 26, 26, 26, 26, 26] [some 72, some 73, some 74, some 75, some 76, some 77, some 78, some 79, some 80, some 81, some 82, some 83, some 84, some 85, some 86, some 87, some 88, some 89, some 90, some 91, some 92, some 93, some 94, some 95, some 96, some 97] [[], [0], [1], [1, 2], [1], [1, 4], [1, 3, 5], [1, 6], [7], [8], [8, 9], [8], [8, 11], [8, 10, 12], [8, 13], [14], [15], [15], [15, 17], [15, 16, 18], [15], [15], [15, 21], [15, 20, 22], [15, 19, 23], [15, 24]] [Eq1 _, Eq1 (.bool true), Eq1 _, Eq1 _, Eq1 _, Eq1 _, Eq1 (.bool false), Eq1 _, Eq1 _, Eq1 _, Eq1 _, Eq1 _, Eq1 _, Eq1 _, Eq1 _, Eq1 _, Eq1 _, Eq1 _, Eq1 _, Eq1 _, Eq1 _, Eq1 _, Eq1 _, Eq1 _, Eq1 _, Eq1 _] ?hq1_6 ?hq2_6 ?hq3_6 ?hq4_6 ?hq5_6 ?hq6_6 _ ?hA_6 ?hst_6 ?h0_6 ?hsteps_6 ?hend_6
                  case hq1_6 => kernel_rfl
                  case hq2_6 => kernel_rfl
                  case hq3_6 => kernel_rfl
                  case hq5_6 => kernel_rfl
                  case hq4_6 => rfl
                  case hq6_6 => rfl
                  case hA_6 => intro vs; simp only [fillD, Nat.reduceAdd, Act.put, List.setIfInBounds_toArray, List.set_cons_zero, List.set_cons_succ]; rfl
                  case h0_6 => exact H.drew
                  case hfs_6 => exact fun _ _ _ hb h => Hp.step h hb
                  case hsteps_6 =>
                    refine ⟨?_, ?_, ?_, ?_, ?_, ?_, ?_, ?_, ?_, ?_, ?_, ?_, ?_, ?_, ?_, ?_, ?_, ?_, ?_, ?_, ?_, ?_, ?_, ?_, ?_, ?_, trivial⟩
                    · intro p vs w' K hJ hp1 hp2 hS hR hK
                      rw [if_pos (by rfl)]
                      go_step
                      exact hK.out _ _ (Below.refl _ _) Eq1.mk Fresh.no
                    · intro p vs w' K hJ hp1 hp2 hS hR hK
                      simp only [DepJ, List.getD_cons_zero, List.getD_cons_succ] at hJ
                      obtain ⟨j0, -⟩ := hJ
                      have j0 := Eq1.out j0
                      simp only [j0] at hK ⊢
                      rw [if_pos (by rfl)]
                      go_step
                      exact hK.out _ _ (Below.refl _ _) (Eq1.of (by first | rfl | (simp; done) | (simp; omega))) Fresh.no
                    · intro p vs w' K hJ hp1 hp2 hS hR hK
                      simp only [DepJ, List.getD_cons_zero, List.getD_cons_succ] at hJ
                      obtain ⟨j1, -⟩ := hJ
                      have j1 := Eq1.out j1
                      simp only [j1] at hK ⊢
                      rw [if_pos (by rfl)]
                      go_step
                      exact hK.out _ _ (Below.refl _ _) Eq1.mk Fresh.no
                    · intro p vs w' K hJ hp1 hp2 hS hR hK
                      simp only [DepJ, List.getD_cons_zero, List.getD_cons_succ] at hJ
                      obtain ⟨j1, j2, -⟩ := hJ
                      have j1 := Eq1.out j1
                      have j2 := Eq1.out j2
                      simp only [j1, j2] at hK ⊢
                      rw [if_pos (by rfl)]
                      have C := Hp.facts hS
                      simp only [Facts, factsL, and_true, true_and, List.set_cons_zero, List.set_cons_succ, List.setIfInBounds_toArray] at C
                      have hsz := hR.1
                      go_step
                      exact hK.out _ _ (Below.refl _ _) Eq1.mk Fresh.no
                    · intro p vs w' K hJ hp1 hp2 hS hR hK
                      simp only [DepJ, List.getD_cons_zero, List.getD_cons_succ] at hJ
                      obtain ⟨j1, -⟩ := hJ
                      have j1 := Eq1.out j1
                      simp only [j1] at hK ⊢
                      rw [if_pos (by rfl)]
                      go_step
                      exact hK.out _ _ (Below.refl _ _) Eq1.mk Fresh.no
                    · intro p vs w' K hJ hp1 hp2 hS hR hK
                      simp only [DepJ, List.getD_cons_zero, List.getD_cons_succ] at hJ
                      obtain ⟨j1, j4, -⟩ := hJ
                      have j1 := Eq1.out j1
                      have j4 := Eq1.out j4
                      simp only [j1, j4] at hK ⊢
                      rw [if_pos (by rfl)]
                      have C := Hp.facts hS
                      simp only [Facts, factsL, and_true, true_and, List.set_cons_zero, List.set_cons_succ, List.setIfInBounds_toArray] at C
                      have hsz := hR.1
                      go_step
                      exact hK.out _ _ (Below.refl _ _) Eq1.mk Fresh.no
                    · intro p vs w' K hJ hp1 hp2 hS hR hK
                      simp only [DepJ, List.getD_cons_zero, List.getD_cons_succ] at hJ
                      obtain ⟨j1, j3, j5, -⟩ := hJ
                      have j1 := Eq1.out j1
                      have j3 := Eq1.out j3
                      have j5 := Eq1.out j5
                      simp only [j1, j3, j5] at hK ⊢
                      rw [if_pos (by rfl)]
                      go_step
                      exact hK.out _ _ (Below.refl _ _) (Eq1.of (by first | rfl | (simp; done) | (simp; omega))) Fresh.no
                    · intro p vs w' K hJ hp1 hp2 hS hR hK
                      simp only [DepJ, List.getD_cons_zero, List.getD_cons_succ] at hJ
                      obtain ⟨j1, j6, -⟩ := hJ
                      have j1 := Eq1.out j1
                      have j6 := Eq1.out j6
                      simp only [j1, j6] at hK ⊢
                      rw [if_pos (by rfl)]
                      go_step
                      exact hK.out _ _ (Below.refl _ _) Eq1.mk Fresh.no
                    · intro p vs w' K hJ hp1 hp2 hS hR hK
                      simp only [DepJ, List.getD_cons_zero, List.getD_cons_succ] at hJ
                      obtain ⟨j7, -⟩ := hJ
                      have j7 := Eq1.out j7
                      simp only [j7] at hK ⊢
                      rw [if_pos (by rfl)]
                      go_step
                      exact hK.out _ _ (Below.refl _ _) Eq1.mk Fresh.no
                    · intro p vs w' K hJ hp1 hp2 hS hR hK
                      simp only [DepJ, List.getD_cons_zero, List.getD_cons_succ] at hJ
                      obtain ⟨j8, -⟩ := hJ
                      have j8 := Eq1.out j8
                      simp only [j8] at hK ⊢
                      rw [if_neg (by simp [Region.wanted, yielded, undef])]
                      exact hK.out _ _ (Below.refl _ _) Eq1.mk Fresh.no
                    · intro p vs w' K hJ hp1 hp2 hS hR hK
                      simp only [DepJ, List.getD_cons_zero, List.getD_cons_succ] at hJ
                      obtain ⟨j8, j9, -⟩ := hJ
                      have j8 := Eq1.out j8
                      have j9 := Eq1.out j9
                      simp only [j8, j9] at hK ⊢
                      rw [if_neg (by simp [Region.wanted, yielded, undef])]
                      exact hK.out _ _ (Below.refl _ _) Eq1.mk Fresh.no
                    · intro p vs w' K hJ hp1 hp2 hS hR hK
                      simp only [DepJ, List.getD_cons_zero, List.getD_cons_succ] at hJ
                      obtain ⟨j8, -⟩ := hJ
                      have j8 := Eq1.out j8
                      simp only [j8] at hK ⊢
                      rw [if_neg (by simp [Region.wanted, yielded, undef])]
                      exact hK.out _ _ (Below.refl _ _) Eq1.mk Fresh.no
                    · intro p vs w' K hJ hp1 hp2 hS hR hK
                      simp only [DepJ, List.getD_cons_zero, List.getD_cons_succ] at hJ
                      obtain ⟨j8, j11, -⟩ := hJ
                      have j8 := Eq1.out j8
                      have j11 := Eq1.out j11
                      simp only [j8, j11] at hK ⊢
                      rw [if_neg (by simp [Region.wanted, yielded, undef])]
                      exact hK.out _ _ (Below.refl _ _) Eq1.mk Fresh.no
                    · intro p vs w' K hJ hp1 hp2 hS hR hK
                      simp only [DepJ, List.getD_cons_zero, List.getD_cons_succ] at hJ
                      obtain ⟨j8, j10, j12, -⟩ := hJ
                      have j8 := Eq1.out j8
                      have j10 := Eq1.out j10
                      have j12 := Eq1.out j12
                      simp only [j8, j10, j12] at hK ⊢
                      rw [if_neg (by simp [Region.wanted, yielded, undef])]
                      exact hK.out _ _ (Below.refl _ _) Eq1.mk Fresh.no
                    · intro p vs w' K hJ hp1 hp2 hS hR hK
                      simp only [DepJ, List.getD_cons_zero, List.getD_cons_succ] at hJ
                      obtain ⟨j8, j13, -⟩ := hJ
                      have j8 := Eq1.out j8
                      have j13 := Eq1.out j13
                      simp only [j8, j13] at hK ⊢
                      rw [if_pos (by rfl)]
                      go_step
                      exact hK.out _ _ (Below.refl _ _) Eq1.mk Fresh.no
                    · intro p vs w' K hJ hp1 hp2 hS hR hK
                      simp only [DepJ, List.getD_cons_zero, List.getD_cons_succ] at hJ
                      obtain ⟨j14, -⟩ := hJ
                      have j14 := Eq1.out j14
                      simp only [j14] at hK ⊢
                      rw [if_pos (by rfl)]
                      go_step
                      exact hK.out _ _ (Below.refl _ _) Eq1.mk Fresh.no
                    · intro p vs w' K hJ hp1 hp2 hS hR hK
                      simp only [DepJ, List.getD_cons_zero, List.getD_cons_succ] at hJ
                      obtain ⟨j15, -⟩ := hJ
                      have j15 := Eq1.out j15
                      simp only [j15] at hK ⊢
                      rw [if_neg (by simp [Region.wanted, yielded, undef])]
                      exact hK.out _ _ (Below.refl _ _) Eq1.mk Fresh.no
                    · intro p vs w' K hJ hp1 hp2 hS hR hK
                      simp only [DepJ, List.getD_cons_zero, List.getD_cons_succ] at hJ
                      obtain ⟨j15, -⟩ := hJ
                      have j15 := Eq1.out j15
                      simp only [j15] at hK ⊢
                      rw [if_neg (by simp [Region.wanted, yielded, undef])]
                      exact hK.out _ _ (Below.refl _ _) Eq1.mk Fresh.no
                    · intro p vs w' K hJ hp1 hp2 hS hR hK
                      simp only [DepJ, List.getD_cons_zero, List.getD_cons_succ] at hJ
                      obtain ⟨j15, j17, -⟩ := hJ
                      have j15 := Eq1.out j15
                      have j17 := Eq1.out j17
                      simp only [j15, j17] at hK ⊢
                      rw [if_neg (by simp [Region.wanted, yielded, undef])]
                      exact hK.out _ _ (Below.refl _ _) Eq1.mk Fresh.no
                    · intro p vs w' K hJ hp1 hp2 hS hR hK
                      simp only [DepJ, List.getD_cons_zero, List.getD_cons_succ] at hJ
                      obtain ⟨j15, j16, j18, -⟩ := hJ
                      have j15 := Eq1.out j15
                      have j16 := Eq1.out j16
                      have j18 := Eq1.out j18
                      simp only [j15, j16, j18] at hK ⊢
                      rw [if_neg (by simp [Region.wanted, yielded, undef])]
                      exact hK.out _ _ (Below.refl _ _) Eq1.mk Fresh.no
                    · intro p vs w' K hJ hp1 hp2 hS hR hK
                      simp only [DepJ, List.getD_cons_zero, List.getD_cons_succ] at hJ
                      obtain ⟨j15, -⟩ := hJ
                      have j15 := Eq1.out j15
                      simp only [j15] at hK ⊢
                      rw [if_neg (by simp [Region.wanted, yielded, undef])]
                      exact hK.out _ _ (Below.refl _ _) Eq1.mk Fresh.no
                    · intro p vs w' K hJ hp1 hp2 hS hR hK
                      simp only [DepJ, List.getD_cons_zero, List.getD_cons_succ] at hJ
                      obtain ⟨j15, -⟩ := hJ
                      have j15 := Eq1.out j15
                      simp only [j15] at hK ⊢
                      rw [if_neg (by simp [Region.wanted, yielded, undef])]
                      exact hK.out _ _ (Below.refl _ _) Eq1.mk Fresh.no
                    · intro p vs w' K hJ hp1 hp2 hS hR hK
                      simp only [DepJ, List.getD_cons_zero, List.getD_cons_succ] at hJ
                      obtain ⟨j15, j21, -⟩ := hJ
                      have j15 := Eq1.out j15
                      have j21 := Eq1.out j21
                      simp only [j15, j21] at hK ⊢
                      rw [if_neg (by simp [Region.wanted, yielded, undef])]
                      exact hK.out _ _ (Below.refl _ _) Eq1.mk Fresh.no
                    · intro p vs w' K hJ hp1 hp2 hS hR hK
                      simp only [DepJ, List.getD_cons_zero, List.getD_cons_succ] at hJ
                      obtain ⟨j15, j20, j22, -⟩ := hJ
                      have j15 := Eq1.out j15
                      have j20 := Eq1.out j20
                      have j22 := Eq1.out j22
                      simp only [j15, j20, j22] at hK ⊢
                      rw [if_neg (by simp [Region.wanted, yielded, undef])]
                      exact hK.out _ _ (Below.refl _ _) Eq1.mk Fresh.no
                    · intro p vs w' K hJ hp1 hp2 hS hR hK
                      simp only [DepJ, List.getD_cons_zero, List.getD_cons_succ] at hJ
                      obtain ⟨j15, j19, j23, -⟩ := hJ
                      have j15 := Eq1.out j15
                      have j19 := Eq1.out j19
                      have j23 := Eq1.out j23
                      simp only [j15, j19, j23] at hK ⊢
                      rw [if_neg (by simp [Region.wanted, yielded, undef])]
                      exact hK.out _ _ (Below.refl _ _) Eq1.mk Fresh.no
                    · intro p vs w' K hJ hp1 hp2 hS hR hK
                      simp only [DepJ, List.getD_cons_zero, List.getD_cons_succ] at hJ
                      obtain ⟨j15, j24, -⟩ := hJ
                      have j15 := Eq1.out j15
                      have j24 := Eq1.out j24
                      simp only [j15, j24] at hK ⊢
                      rw [if_pos (by rfl)]
                      go_step
                      exact hK.out _ _ (Below.refl _ _) Eq1.mk Fresh.no
                  case hst_6 => refine ⟨fun _ _ _ _ h => h, fun _ _ _ _ h => h, fun _ _ _ _ h => h, fun _ _ _ _ h => h, fun _ _ _ _ h => h, fun _ _ _ _ h => h, fun _ _ _ _ h => h, fun _ _ _ _ h => h, fun _ _ _ _ h => h, fun _ _ _ _ h => h, fun _ _ _ _ h => h, fun _ _ _ _ h => h, fun _ _ _ _ h => h, fun _ _ _ _ h => h, fun _ _ _ _ h => h, fun _ _ _ _ h => h, fun _ _ _ _ h => h, fun _ _ _ _ h => h, fun _ _ _ _ h => h, fun _ _ _ _ h => h, fun _ _ _ _ h => h, fun _ _ _ _ h => h, fun _ _ _ _ h => h, fun _ _ _ _ h => h, fun _ _ _ _ h => h, fun _ _ _ _ h => h, trivial⟩
                  intro vs w' hJ hD hS hR
                  simp only [AllJ, Nat.reduceAdd] at hJ
                  obtain ⟨v0, v1, v2, v3, v4, v5, v6, v7, v8, v9, v10, v11, v12, v13, v14, v15, v16, v17, v18, v19, v20, v21, v22, v23, v24, v25, -⟩ := hJ
                  clear C
                  replace v0 := Eq1.out v0
                  replace v1 := Eq1.out v1
                  replace v2 := Eq1.out v2
                  replace v3 := Eq1.out v3
                  replace v4 := Eq1.out v4
                  replace v5 := Eq1.out v5
                  replace v6 := Eq1.out v6
                  replace v7 := Eq1.out v7
                  replace v8 := Eq1.out v8
                  replace v9 := Eq1.out v9
                  replace v10 := Eq1.out v10
                  replace v11 := Eq1.out v11
                  replace v12 := Eq1.out v12
                  replace v13 := Eq1.out v13
                  replace v14 := Eq1.out v14
                  replace v15 := Eq1.out v15
                  replace v16 := Eq1.out v16
                  replace v17 := Eq1.out v17
                  replace v18 := Eq1.out v18
                  replace v19 := Eq1.out v19
                  replace v20 := Eq1.out v20
                  replace v21 := Eq1.out v21
                  replace v22 := Eq1.out v22
                  replace v23 := Eq1.out v23
                  replace v24 := Eq1.out v24
                  replace v25 := Eq1.out v25
                  simp only [v0, v1, v2, v3, v4, v5, v6, v7, v8, v9, v10, v11, v12, v13, v14, v15, v16, v17, v18, v19, v20, v21, v22, v23, v24, v25, List.drop_succ_cons, List.drop_zero]
                  have H' : Hp _ _ _ := hS
                  clear hD hR hS v0 v1 v2 v3 v4 v5 v6 v7 v8 v9 v10 v11 v12 v13 v14 v15 v16 v17 v18 v19 v20 v21 v22 v23 v24 v25
                  clear vs H
                  have H := H'; clear H'; have C := Hp.facts H; simp only [Facts, factsL, and_true, true_and, List.set_cons_zero, List.set_cons_succ, List.setIfInBounds_toArray] at C
                  (repeat' ((fail_if_success (with_reducible show bodyPost _ _ _ _ _ _)); first | ((with_reducible refine Hp.abs_alloc H ?_); intro b' w' H' hb'; (try simp only [hb']); clear hb'; ((try simp only [List.set_cons_zero, List.set_cons_succ, List.setIfInBounds_toArray] at H'); clear C H; have H := H'; clear H'; have C := Hp.facts H; simp only [Facts, factsL, and_true, true_and, List.set_cons_zero, List.set_cons_succ, List.setIfInBounds_toArray] at C)) | ((with_reducible show wpList _ _ _ _ _ (World.setCell _ _ _)); (with_reducible apply Hp.abs_gen H); (first | ((repeat (with_reducible apply Hp.set' 0)); (with_reducible exact H); (repeat rfl); intro w' H') | ((repeat (with_reducible apply Hp.set' 1)); (with_reducible exact H); (repeat rfl); intro w' H') | ((repeat (with_reducible apply Hp.set' 2)); (with_reducible exact H); (repeat rfl); intro w' H') | ((repeat (with_reducible apply Hp.set' 3)); (with_reducible exact H); (repeat rfl); intro w' H') | ((repeat (with_reducible apply Hp.set' 4)); (with_reducible exact H); (repeat rfl); intro w' H') | ((repeat (with_reducible apply Hp.set' 5)); (with_reducible exact H); (repeat rfl); intro w' H') | ((repeat (with_reducible apply Hp.set' 6)); (with_reducible exact H); (repeat rfl); intro w' H') | ((repeat (with_reducible apply Hp.set' 7)); (with_reducible exact H); (repeat rfl); intro w' H')); ((try simp only [List.set_cons_zero, List.set_cons_succ, List.setIfInBounds_toArray] at H'); clear C H; have H := H'; clear H'; have C := Hp.facts H; simp only [Facts, factsL, and_true, true_and, List.set_cons_zero, List.set_cons_succ, List.setIfInBounds_toArray] at C)) | go_values | go_skip | go_guarded | go_step | go_upon | go_back | (simp only [Int.not_lt, Int.not_le] at *; go_simp) | (go_values <;> (try go_simp)) | (go_ite <;> go_prune <;> (try go_simp)) | (split <;> (first | (rename_i hx; exact (hx _ rfl).elim) | go_prune))))
                  exact ⟨ARel.mk (i + 1) false (by omega) (by go_num) rfl (fun h => by cases h) H, by simp [intOf]; omega⟩
            · obtain rfl : i = M.length := by omega
              have hb0 : bb = false := by
                cases bb with
                | false => rfl
                | true =>
                  exfalso
                  have hl := gls.out
                  exact gno.out hp2 (by have := hup.out rfl; rwa [← hl] at this)
              subst hb0
              (repeat' ((fail_if_success (with_reducible show bodyPost _ _ _ _ _ _)); first | ((with_reducible refine Hp.abs_alloc H ?_); intro b' w' H' hb'; (try simp only [hb']); clear hb'; ((try simp only [List.set_cons_zero, List.set_cons_succ, List.setIfInBounds_toArray] at H'); clear C H; have H := H'; clear H'; have C := Hp.facts H; simp only [Facts, factsL, and_true, true_and, List.set_cons_zero, List.set_cons_succ, List.setIfInBounds_toArray] at C)) | ((with_reducible show wpList _ _ _ _ _ (World.setCell _ _ _)); (with_reducible apply Hp.abs_gen H); (first | ((repeat (with_reducible apply Hp.set' 0)); (with_reducible exact H); (repeat rfl); intro w' H') | ((repeat (with_reducible apply Hp.set' 1)); (with_reducible exact H); (repeat rfl); intro w' H') | ((repeat (with_reducible apply Hp.set' 2)); (with_reducible exact H); (repeat rfl); intro w' H') | ((repeat (with_reducible apply Hp.set' 3)); (with_reducible exact H); (repeat rfl); intro w' H') | ((repeat (with_reducible apply Hp.set' 4)); (with_reducible exact H); (repeat rfl); intro w' H') | ((repeat (with_reducible apply Hp.set' 5)); (with_reducible exact H); (repeat rfl); intro w' H') | ((repeat (with_reducible apply Hp.set' 6)); (with_reducible exact H); (repeat rfl); intro w' H') | ((repeat (with_reducible apply Hp.set' 7)); (with_reducible exact H); (repeat rfl); intro w' H')); ((try simp only [List.set_cons_zero, List.set_cons_succ, List.setIfInBounds_toArray] at H'); clear C H; have H := H'; clear H'; have C := Hp.facts H; simp only [Facts, factsL, and_true, true_and, List.set_cons_zero, List.set_cons_succ, List.setIfInBounds_toArray] at C)) | (go_at_call 14; refine (known13_any _ (hT.below H.low)).mono ?_; rintro e' w' ⟨rfl, hb'⟩; (have H' := Hp.step H hb'; clear hb'; ((try simp only [List.set_cons_zero, List.set_cons_succ, List.setIfInBounds_toArray] at H'); clear C H; have H := H'; clear H'; have C := Hp.facts H; simp only [Facts, factsL, and_true, true_and, List.set_cons_zero, List.set_cons_succ, List.setIfInBounds_toArray] at C))) | go_values | go_skip | go_guarded | go_step | go_upon | go_back | (simp only [Int.not_lt, Int.not_le] at *; go_simp) | (go_values <;> (try go_simp)) | (go_ite <;> go_prune <;> (try go_simp)) | (split <;> (first | (rename_i hx; exact (hx _ rfl).elim) | go_prune))))
              go_ret
              exact ⟨rfl, H.low⟩
      · by_cases h0 : M.length = 0
        · exact absurd d2 (by omega)
        · have e1 : ((M.length : Int) == 0) = false := by rw [beq_eq_false_iff_ne]; omega
          have hp : 0 < M.length := by omega
          have hlo := fun (m : List UInt8) (h : m ∈ M) w => rlower_any m (by have := hMm m h; omega) w
          have hlsl : (M.map lowL).length = M.length := by simp
          have hlsa : ∀ j, (h : j < M.length) → ∃ h2, (M.map lowL)[j]'h2 = lowL M[j] := fun j h => ⟨by rw [hlsl]; exact h, by simp⟩
          have hno := @ups_no (M.map lowL)
          have hla := @longs_at (M.map lowL)
          have hx : longL M = ((M.map lowL).headD []).take (comms (M.map lowL)) := rfl
          generalize M.map lowL = ls at *
          have hp2 : 0 < ls.length := by omega
          rw [head_at ls [] hp2] at hx
          have hxn : (longL M).length = comms ls := by rw [hx, List.length_take, Nat.min_eq_left (hla hp2 hp2).1]
          have hsx := bsize (longL M)
          rw [hxn] at hsx
          have hext := fun j (hj : j < ls.length) => (ext_take ls[j] (comms ls)).trans (by rw [(hla hp2 hj).2, ← hx])
          have hle := fun j (hj : j < ls.length) => (hla hp2 hj).1
          clear hx hxn hla
          generalize comms ls = n at *
          obtain ⟨sx, hsxe⟩ : ∃ s, ByteArray.mk (longL M).toArray = s := ⟨_, rfl⟩
          rw [hsxe] at hLg hsx
          simp only [hsxe] at hext
          clear hsxe
          have gsx := Kp.mk hsx
          have gext := Kp.mk hext
          have gle := Kp.mk hle
          have gno := Kp.mk hno
          have gLo := Kp.mk hlo
          have gls := Kp.mk hlsl
          have gla := Kp.mk hlsa
          clear hsx hext hle hno hlsl hlsa hMm gMl
          clear h0
          (repeat' ((fail_if_success (with_reducible show bodyPost _ _ _ _ _ _)); first | ((with_reducible refine Hp.abs_alloc H ?_); intro b' w' H' hb'; (try simp only [hb']); clear hb'; ((try simp only [List.set_cons_zero, List.set_cons_succ, List.setIfInBounds_toArray] at H'); clear C H; have H := H'; clear H'; have C := Hp.facts H; simp only [Facts, factsL, and_true, true_and, List.set_cons_zero, List.set_cons_succ, List.setIfInBounds_toArray] at C)) | ((with_reducible show wpList _ _ _ _ _ (World.setCell _ _ _)); (with_reducible apply Hp.abs_gen H); (first | ((repeat (with_reducible apply Hp.set' 0)); (with_reducible exact H); (repeat rfl); intro w' H') | ((repeat (with_reducible apply Hp.set' 1)); (with_reducible exact H); (repeat rfl); intro w' H') | ((repeat (with_reducible apply Hp.set' 2)); (with_reducible exact H); (repeat rfl); intro w' H') | ((repeat (with_reducible apply Hp.set' 3)); (with_reducible exact H); (repeat rfl); intro w' H') | ((repeat (with_reducible apply Hp.set' 4)); (with_reducible exact H); (repeat rfl); intro w' H') | ((repeat (with_reducible apply Hp.set' 5)); (with_reducible exact H); (repeat rfl); intro w' H') | ((repeat (with_reducible apply Hp.set' 6)); (with_reducible exact H); (repeat rfl); intro w' H') | ((repeat (with_reducible apply Hp.set' 7)); (with_reducible exact H); (repeat rfl); intro w' H')); ((try simp only [List.set_cons_zero, List.set_cons_succ, List.setIfInBounds_toArray] at H'); clear C H; have H := H'; clear H'; have C := Hp.facts H; simp only [Facts, factsL, and_true, true_and, List.set_cons_zero, List.set_cons_succ, List.setIfInBounds_toArray] at C)) | go_values | go_skip | go_guarded | go_step | go_upon | go_back | (simp only [Int.not_lt, Int.not_le] at *; go_simp) | (go_values <;> (try go_simp)) | (go_ite <;> go_prune <;> (try go_simp)) | (split <;> (first | (rename_i hx; exact (hx _ rfl).elim) | go_prune))))
          refine (hLg _ _ (Hp.row H 0 rfl)).mono ?_
          (rintro e' w' ⟨rfl, hb'⟩; (have H' := Hp.step H hb'; clear hb'; ((try simp only [List.set_cons_zero, List.set_cons_succ, List.setIfInBounds_toArray] at H'); clear C H; have H := H'; clear H'; have C := Hp.facts H; simp only [Facts, factsL, and_true, true_and, List.set_cons_zero, List.set_cons_succ, List.setIfInBounds_toArray] at C)))
          obtain ⟨b1, rfl⟩ := row_base (ownsOf H 0 rfl) hp
          have hgl1 := (Hp.rowCell H 0 rfl).1
          have hq1 := (Hp.rowCell H 0 rfl).2.2.2 0 _ (tvs_at2 hp)
          have hL0 := hlo M[0] (List.getElem_mem hp)
          obtain ⟨f, hf⟩ : ∃ f, lowL M[0] = f := ⟨_, rfl⟩
          rw [hf] at hL0
          have gL0 := Kp.mk (show ls[0] = f by obtain ⟨_, e⟩ := gla.out 0 hp; exact e.trans hf)
          obtain ⟨sf, hsf⟩ : ∃ s, ByteArray.mk f.toArray = s := ⟨_, rfl⟩
          rw [hsf] at hL0
          have gsf := Kp.mk (show sf.size = f.length by rw [← hsf]; exact bsize f)
          have gsfi : Kp (∀ k, (h : k < f.length) → ∃ h', sf[k]'h' = f[k]) := ⟨by subst hsf; exact fun k h => ⟨by rw [bsize]; exact h, by rfl⟩⟩
          generalize (ByteArray.mk M[0].toArray) = s0 at *
          clear hf hsf
          clear hlo d1
          have hnp : (0 : Int) < (M.length : Int) := by omega
          (repeat' ((fail_if_success (with_reducible show bodyPost _ _ _ _ _ _)); first | ((with_reducible refine Hp.abs_alloc H ?_); intro b' w' H' hb'; (try simp only [hb']); clear hb'; ((try simp only [List.set_cons_zero, List.set_cons_succ, List.setIfInBounds_toArray] at H'); clear C H; have H := H'; clear H'; have C := Hp.facts H; simp only [Facts, factsL, and_true, true_and, List.set_cons_zero, List.set_cons_succ, List.setIfInBounds_toArray] at C)) | ((with_reducible show wpList _ _ _ _ _ (World.setCell _ _ _)); (with_reducible apply Hp.abs_gen H); (first | ((repeat (with_reducible apply Hp.set' 0)); (with_reducible exact H); (repeat rfl); intro w' H') | ((repeat (with_reducible apply Hp.set' 1)); (with_reducible exact H); (repeat rfl); intro w' H') | ((repeat (with_reducible apply Hp.set' 2)); (with_reducible exact H); (repeat rfl); intro w' H') | ((repeat (with_reducible apply Hp.set' 3)); (with_reducible exact H); (repeat rfl); intro w' H') | ((repeat (with_reducible apply Hp.set' 4)); (with_reducible exact H); (repeat rfl); intro w' H') | ((repeat (with_reducible apply Hp.set' 5)); (with_reducible exact H); (repeat rfl); intro w' H') | ((repeat (with_reducible apply Hp.set' 6)); (with_reducible exact H); (repeat rfl); intro w' H') | ((repeat (with_reducible apply Hp.set' 7)); (with_reducible exact H); (repeat rfl); intro w' H')); ((try simp only [List.set_cons_zero, List.set_cons_succ, List.setIfInBounds_toArray] at H'); clear C H; have H := H'; clear H'; have C := Hp.facts H; simp only [Facts, factsL, and_true, true_and, List.set_cons_zero, List.set_cons_succ, List.setIfInBounds_toArray] at C)) | go_values | go_skip | go_guarded | go_step | go_upon | go_back | (simp only [Int.not_lt, Int.not_le] at *; go_simp) | (go_values <;> (try go_simp)) | (go_ite <;> go_prune <;> (try go_simp)) | (split <;> (first | (rename_i hx; exact (hx _ rfl).elim) | go_prune))))
          refine (hL0 _).mono ?_
          (rintro e' w' ⟨rfl, hb'⟩; (have H' := Hp.step H hb'; clear hb'; ((try simp only [List.set_cons_zero, List.set_cons_succ, List.setIfInBounds_toArray] at H'); clear C H; have H := H'; clear H'; have C := Hp.facts H; simp only [Facts, factsL, and_true, true_and, List.set_cons_zero, List.set_cons_succ, List.setIfInBounds_toArray] at C)))
          clear hgl1 hq1 hL0
          (repeat' ((fail_if_success (with_reducible show bodyPost _ _ _ _ _ _)); first | ((with_reducible refine Hp.abs_alloc H ?_); intro b' w' H' hb'; (try simp only [hb']); clear hb'; ((try simp only [List.set_cons_zero, List.set_cons_succ, List.setIfInBounds_toArray] at H'); clear C H; have H := H'; clear H'; have C := Hp.facts H; simp only [Facts, factsL, and_true, true_and, List.set_cons_zero, List.set_cons_succ, List.setIfInBounds_toArray] at C)) | ((with_reducible show wpList _ _ _ _ _ (World.setCell _ _ _)); (with_reducible apply Hp.abs_gen H); (first | ((repeat (with_reducible apply Hp.set' 0)); (with_reducible exact H); (repeat rfl); intro w' H') | ((repeat (with_reducible apply Hp.set' 1)); (with_reducible exact H); (repeat rfl); intro w' H') | ((repeat (with_reducible apply Hp.set' 2)); (with_reducible exact H); (repeat rfl); intro w' H') | ((repeat (with_reducible apply Hp.set' 3)); (with_reducible exact H); (repeat rfl); intro w' H') | ((repeat (with_reducible apply Hp.set' 4)); (with_reducible exact H); (repeat rfl); intro w' H') | ((repeat (with_reducible apply Hp.set' 5)); (with_reducible exact H); (repeat rfl); intro w' H') | ((repeat (with_reducible apply Hp.set' 6)); (with_reducible exact H); (repeat rfl); intro w' H') | ((repeat (with_reducible apply Hp.set' 7)); (with_reducible exact H); (repeat rfl); intro w' H')); ((try simp only [List.set_cons_zero, List.set_cons_succ, List.setIfInBounds_toArray] at H'); clear C H; have H := H'; clear H'; have C := Hp.facts H; simp only [Facts, factsL, and_true, true_and, List.set_cons_zero, List.set_cons_succ, List.setIfInBounds_toArray] at C)) | go_values | go_skip | go_guarded | go_step | go_upon | go_back | (simp only [Int.not_lt, Int.not_le] at *; go_simp) | (go_values <;> (try go_simp)) | (go_ite <;> go_prune <;> (try go_simp)) | (split <;> (first | (rename_i hx; exact (hx _ rfl).elim) | go_prune))))
          go_loopw [6, 8, 9] (fun al ix _ wr => ARel w M ls n (.slice (some ⟨b1, 0, none⟩) M.length c2) al ix wr) (fun _ ix _ _ => M.length - (intOf ix).toNat)
          case atStart => exact ARel.mk 0 true (Nat.zero_le _) rfl rfl (fun _ j hj h => by omega) H
          case round =>
            clear H C
            obtain ⟨i, bb, hi2, rfl, rfl, hup, H⟩ := hrel
            have C := Hp.facts H
            simp only [Facts, factsL, and_true, true_and, List.set_cons_zero, List.set_cons_succ, List.setIfInBounds_toArray] at C
            by_cases hlt2 : i < M.length
            · have hgl1 := (Hp.rowCell H 0 rfl).1
              have hq1 := (Hp.rowCell H 0 rfl).2.2.2 i _ (tvs_at2 hlt2)
              have hLi := gLo.out M[i] (List.getElem_mem hlt2)
              obtain ⟨hil, hli⟩ := gla.out i hlt2
              have hex := gext.out i hil
              have hnl := gle.out i hil
              rw [← hli] at hLi
              obtain ⟨g, hg⟩ : ∃ g, ls[i] = g := ⟨_, rfl⟩
              rw [hg] at hex hnl hLi
              have gg := Kp.mk hg
              obtain ⟨ss, hsse⟩ : ∃ s, ByteArray.mk g.toArray = s := ⟨_, rfl⟩
              rw [hsse] at hLi hex
              have gss := Kp.mk (show ss.size = g.length by rw [← hsse]; exact bsize g)
              have gssi : Kp (∀ k, (h : k < g.length) → ∃ h', ss[k]'h' = g[k]) := ⟨by subst hsse; exact fun k h => ⟨by rw [bsize]; exact h, by rfl⟩⟩
              generalize (ByteArray.mk M[i].toArray) = si at *
              have hsize : sx.size ≤ ss.size := by rw [gss.out, gsx.out]; exact hnl
              have hex2 : ss.extract 0 sx.size = sx := by rw [gsx.out]; exact hex
              have hns : ¬ ss.size < sx.size := by omega
              clear hex hnl hli hg hsse
              (repeat' ((fail_if_success (with_reducible show bodyPost _ _ _ _ _ _)); first | ((with_reducible refine Hp.abs_alloc H ?_); intro b' w' H' hb'; (try simp only [hb']); clear hb'; ((try simp only [List.set_cons_zero, List.set_cons_succ, List.setIfInBounds_toArray] at H'); clear C H; have H := H'; clear H'; have C := Hp.facts H; simp only [Facts, factsL, and_true, true_and, List.set_cons_zero, List.set_cons_succ, List.setIfInBounds_toArray] at C)) | ((with_reducible show wpList _ _ _ _ _ (World.setCell _ _ _)); (with_reducible apply Hp.abs_gen H); (first | ((repeat (with_reducible apply Hp.set' 0)); (with_reducible exact H); (repeat rfl); intro w' H') | ((repeat (with_reducible apply Hp.set' 1)); (with_reducible exact H); (repeat rfl); intro w' H') | ((repeat (with_reducible apply Hp.set' 2)); (with_reducible exact H); (repeat rfl); intro w' H') | ((repeat (with_reducible apply Hp.set' 3)); (with_reducible exact H); (repeat rfl); intro w' H') | ((repeat (with_reducible apply Hp.set' 4)); (with_reducible exact H); (repeat rfl); intro w' H') | ((repeat (with_reducible apply Hp.set' 5)); (with_reducible exact H); (repeat rfl); intro w' H') | ((repeat (with_reducible apply Hp.set' 6)); (with_reducible exact H); (repeat rfl); intro w' H') | ((repeat (with_reducible apply Hp.set' 7)); (with_reducible exact H); (repeat rfl); intro w' H')); ((try simp only [List.set_cons_zero, List.set_cons_succ, List.setIfInBounds_toArray] at H'); clear C H; have H := H'; clear H'; have C := Hp.facts H; simp only [Facts, factsL, and_true, true_and, List.set_cons_zero, List.set_cons_succ, List.setIfInBounds_toArray] at C)) | go_values | go_skip | go_guarded | go_step | go_upon | go_back | (simp only [Int.not_lt, Int.not_le] at *; go_simp) | (go_values <;> (try go_simp)) | (go_ite <;> go_prune <;> (try go_simp)) | (split <;> (first | (rename_i hx; exact (hx _ rfl).elim) | go_prune))))
              refine (hLi _).mono ?_
              (rintro e' w' ⟨rfl, hb'⟩; (have H' := Hp.step H hb'; clear hb'; ((try simp only [List.set_cons_zero, List.set_cons_succ, List.setIfInBounds_toArray] at H'); clear C H; have H := H'; clear H'; have C := Hp.facts H; simp only [Facts, factsL, and_true, true_and, List.set_cons_zero, List.set_cons_succ, List.setIfInBounds_toArray] at C)))
              clear hgl1 hq1 hLi
              (repeat' ((fail_if_success (with_reducible show bodyPost _ _ _ _ _ _)); first | ((with_reducible refine Hp.abs_alloc H ?_); intro b' w' H' hb'; (try simp only [hb']); clear hb'; ((try simp only [List.set_cons_zero, List.set_cons_succ, List.setIfInBounds_toArray] at H'); clear C H; have H := H'; clear H'; have C := Hp.facts H; simp only [Facts, factsL, and_true, true_and, List.set_cons_zero, List.set_cons_succ, List.setIfInBounds_toArray] at C)) | ((with_reducible show wpList _ _ _ _ _ (World.setCell _ _ _)); (with_reducible apply Hp.abs_gen H); (first | ((repeat (with_reducible apply Hp.set' 0)); (with_reducible exact H); (repeat rfl); intro w' H') | ((repeat (with_reducible apply Hp.set' 1)); (with_reducible exact H); (repeat rfl); intro w' H') | ((repeat (with_reducible apply Hp.set' 2)); (with_reducible exact H); (repeat rfl); intro w' H') | ((repeat (with_reducible apply Hp.set' 3)); (with_reducible exact H); (repeat rfl); intro w' H') | ((repeat (with_reducible apply Hp.set' 4)); (with_reducible exact H); (repeat rfl); intro w' H') | ((repeat (with_reducible apply Hp.set' 5)); (with_reducible exact H); (repeat rfl); intro w' H') | ((repeat (with_reducible apply Hp.set' 6)); (with_reducible exact H); (repeat rfl); intro w' H') | ((repeat (with_reducible apply Hp.set' 7)); (with_reducible exact H); (repeat rfl); intro w' H')); ((try simp only [List.set_cons_zero, List.set_cons_succ, List.setIfInBounds_toArray] at H'); clear C H; have H := H'; clear H'; have C := Hp.facts H; simp only [Facts, factsL, and_true, true_and, List.set_cons_zero, List.set_cons_succ, List.setIfInBounds_toArray] at C)) | go_values | go_skip | go_guarded | go_step | go_upon | go_back | (simp only [Int.not_lt, Int.not_le] at *; go_simp) | (go_values <;> (try go_simp)) | (go_ite <;> go_prune <;> (try go_simp)) | (split <;> (first | (rename_i hx; exact (hx _ rfl).elim) | go_prune))))
              cases bb with
              | false =>
                try simp (disch := omega) only [decide_eq_true, decide_eq_false]
                obtain ⟨wR17bf, rfl⟩ := Hp.nameW H
                apply region_n (frm wR17bf.heap.size (fun _ => Hp _ _)) (frm_ok ?hfs_7) frm_sz [] [.light 0 0, .light 0 0, .light 0 0, .light 0 0, .light 0 0, .light 0 0, .light 0 0, .light 0 0, .light 0 0, .light 0 0, .light 0 0, .light 0 0, .light 0 0, .light 0 0, .light 0 0, .light 0 0, .light 0 0, .light 0 0, .light 0 0, .light 0 0, .light 0 0, .light 0 0, .light 0 0, .light 0 0, .light 0 0, .light 0 0] [false, false, false, false, false, false, false, false, false, false, false, false, false, false, false, false, false, false, false, false, false, false, false, false, false, false] 26 103 [26, 26, 26, 26, 26, 26, 26, 26, 26, 26, 26, 26, 26, 26, 26, 26, 26, 26, 26, 26, 26, 26, 26, 26, 26, 26] [some 72, some 73, some 74, some 75, some 76, some 77, some 78, some 79, some 80, some 81, some 82, some 83, some 84, some 85, some 86, some 87, some 88, some 89, some 90, some 91, some 92, some 93, some 94, some 95, some 96, some 97] [[], [0], [1], [1, 2], [1], [1, 4], [1, 3, 5], [1, 6], [7], [8], [8, 9], [8], [8, 11], [8, 10, 12], [8, 13], [14], [15], [15], [15, 17], [15, 16, 18], [15], [15], [15, 21], [15, 20, 22], [15, 19, 23], [15, 24]] [Eq1 _, Eq1 (.bool false), Eq1 _, Eq1 _, Eq1 _, Eq1 _, Eq1 _, Eq1 _, Eq1 _, Eq1 _, Eq1 _, Eq1 _, Eq1 _, Eq1 _, Eq1 _, Eq1 _, Eq1 _, Eq1 _, Eq1 _, Eq1 _, Eq1 _, Eq1 _, Eq1 _, Eq1 _, Eq1 _, Eq1 _] ?hq1_7 ?hq2_7 ?hq3_7 ?hq4_7 ?hq5_7 ?hq6_7 _ ?hA_7 ?hst_7 ?h0_7 ?hsteps_7 ?hend_7
                case hq1_7 => kernel_rfl
                case hq2_7 => kernel_rfl
                case hq3_7 => kernel_rfl
                case hq5_7 => kernel_rfl
                case hq4_7 => rfl
                case hq6_7 => rfl
                case hA_7 => intro vs; simp only [fillD, Nat.reduceAdd, Act.put, List.setIfInBounds_toArray, List.set_cons_zero, List.set_cons_succ]; rfl
                case h0_7 => exact H.drew
                case hfs_7 => exact fun _ _ _ hb h => Hp.step h hb
                case hsteps_7 =>
                  refine ⟨?_, ?_, ?_, ?_, ?_, ?_, ?_, ?_, ?_, ?_, ?_, ?_, ?_, ?_, ?_, ?_, ?_, ?_, ?_, ?_, ?_, ?_, ?_, ?_, ?_, ?_, trivial⟩
                  · intro p vs w' K hJ hp1 hp2 hS hR hK
                    rw [if_pos (by rfl)]
                    go_step
                    exact hK.out _ _ (Below.refl _ _) Eq1.mk Fresh.no
                  · intro p vs w' K hJ hp1 hp2 hS hR hK
                    simp only [DepJ, List.getD_cons_zero, List.getD_cons_succ] at hJ
                    obtain ⟨j0, -⟩ := hJ
                    have j0 := Eq1.out j0
                    simp only [j0] at hK ⊢
                    rw [if_pos (by rfl)]
                    go_step
                    exact hK.out _ _ (Below.refl _ _) (Eq1.of (by first | rfl | (simp; done) | (simp; omega))) Fresh.no
                  · intro p vs w' K hJ hp1 hp2 hS hR hK
                    simp only [DepJ, List.getD_cons_zero, List.getD_cons_succ] at hJ
                    obtain ⟨j1, -⟩ := hJ
                    have j1 := Eq1.out j1
                    simp only [j1] at hK ⊢
                    rw [if_neg (by simp [Region.wanted, yielded, undef])]
                    exact hK.out _ _ (Below.refl _ _) Eq1.mk Fresh.no
                  · intro p vs w' K hJ hp1 hp2 hS hR hK
                    simp only [DepJ, List.getD_cons_zero, List.getD_cons_succ] at hJ
                    obtain ⟨j1, j2, -⟩ := hJ
                    have j1 := Eq1.out j1
                    have j2 := Eq1.out j2
                    simp only [j1, j2] at hK ⊢
                    rw [if_neg (by simp [Region.wanted, yielded, undef])]
                    exact hK.out _ _ (Below.refl _ _) Eq1.mk Fresh.no
                  · intro p vs w' K hJ hp1 hp2 hS hR hK
                    simp only [DepJ, List.getD_cons_zero, List.getD_cons_succ] at hJ
                    obtain ⟨j1, -⟩ := hJ
                    have j1 := Eq1.out j1
                    simp only [j1] at hK ⊢
                    rw [if_neg (by simp [Region.wanted, yielded, undef])]
                    exact hK.out _ _ (Below.refl _ _) Eq1.mk Fresh.no
                  · intro p vs w' K hJ hp1 hp2 hS hR hK
                    simp only [DepJ, List.getD_cons_zero, List.getD_cons_succ] at hJ
                    obtain ⟨j1, j4, -⟩ := hJ
                    have j1 := Eq1.out j1
                    have j4 := Eq1.out j4
                    simp only [j1, j4] at hK ⊢
                    rw [if_neg (by simp [Region.wanted, yielded, undef])]
                    exact hK.out _ _ (Below.refl _ _) Eq1.mk Fresh.no
                  · intro p vs w' K hJ hp1 hp2 hS hR hK
                    simp only [DepJ, List.getD_cons_zero, List.getD_cons_succ] at hJ
                    obtain ⟨j1, j3, j5, -⟩ := hJ
                    have j1 := Eq1.out j1
                    have j3 := Eq1.out j3
                    have j5 := Eq1.out j5
                    simp only [j1, j3, j5] at hK ⊢
                    rw [if_neg (by simp [Region.wanted, yielded, undef])]
                    exact hK.out _ _ (Below.refl _ _) Eq1.mk Fresh.no
                  · intro p vs w' K hJ hp1 hp2 hS hR hK
                    simp only [DepJ, List.getD_cons_zero, List.getD_cons_succ] at hJ
                    obtain ⟨j1, j6, -⟩ := hJ
                    have j1 := Eq1.out j1
                    have j6 := Eq1.out j6
                    simp only [j1, j6] at hK ⊢
                    rw [if_pos (by rfl)]
                    go_step
                    exact hK.out _ _ (Below.refl _ _) Eq1.mk Fresh.no
                  · intro p vs w' K hJ hp1 hp2 hS hR hK
                    simp only [DepJ, List.getD_cons_zero, List.getD_cons_succ] at hJ
                    obtain ⟨j7, -⟩ := hJ
                    have j7 := Eq1.out j7
                    simp only [j7] at hK ⊢
                    rw [if_pos (by rfl)]
                    go_step
                    exact hK.out _ _ (Below.refl _ _) Eq1.mk Fresh.no
                  · intro p vs w' K hJ hp1 hp2 hS hR hK
                    simp only [DepJ, List.getD_cons_zero, List.getD_cons_succ] at hJ
                    obtain ⟨j8, -⟩ := hJ
                    have j8 := Eq1.out j8
                    simp only [j8] at hK ⊢
                    rw [if_neg (by simp [Region.wanted, yielded, undef])]
                    exact hK.out _ _ (Below.refl _ _) Eq1.mk Fresh.no
                  · intro p vs w' K hJ hp1 hp2 hS hR hK
                    simp only [DepJ, List.getD_cons_zero, List.getD_cons_succ] at hJ
                    obtain ⟨j8, j9, -⟩ := hJ
                    have j8 := Eq1.out j8
                    have j9 := Eq1.out j9
                    simp only [j8, j9] at hK ⊢
                    rw [if_neg (by simp [Region.wanted, yielded, undef])]
                    exact hK.out _ _ (Below.refl _ _) Eq1.mk Fresh.no
                  · intro p vs w' K hJ hp1 hp2 hS hR hK
                    simp only [DepJ, List.getD_cons_zero, List.getD_cons_succ] at hJ
                    obtain ⟨j8, -⟩ := hJ
                    have j8 := Eq1.out j8
                    simp only [j8] at hK ⊢
                    rw [if_neg (by simp [Region.wanted, yielded, undef])]
                    exact hK.out _ _ (Below.refl _ _) Eq1.mk Fresh.no
                  · intro p vs w' K hJ hp1 hp2 hS hR hK
                    simp only [DepJ, List.getD_cons_zero, List.getD_cons_succ] at hJ
                    obtain ⟨j8, j11, -⟩ := hJ
                    have j8 := Eq1.out j8
                    have j11 := Eq1.out j11
                    simp only [j8, j11] at hK ⊢
                    rw [if_neg (by simp [Region.wanted, yielded, undef])]
                    exact hK.out _ _ (Below.refl _ _) Eq1.mk Fresh.no
                  · intro p vs w' K hJ hp1 hp2 hS hR hK
                    simp only [DepJ, List.getD_cons_zero, List.getD_cons_succ] at hJ
                    obtain ⟨j8, j10, j12, -⟩ := hJ
                    have j8 := Eq1.out j8
                    have j10 := Eq1.out j10
                    have j12 := Eq1.out j12
                    simp only [j8, j10, j12] at hK ⊢
                    rw [if_neg (by simp [Region.wanted, yielded, undef])]
                    exact hK.out _ _ (Below.refl _ _) Eq1.mk Fresh.no
                  · intro p vs w' K hJ hp1 hp2 hS hR hK
                    simp only [DepJ, List.getD_cons_zero, List.getD_cons_succ] at hJ
                    obtain ⟨j8, j13, -⟩ := hJ
                    have j8 := Eq1.out j8
                    have j13 := Eq1.out j13
                    simp only [j8, j13] at hK ⊢
                    rw [if_pos (by rfl)]
                    go_step
                    exact hK.out _ _ (Below.refl _ _) Eq1.mk Fresh.no
                  · intro p vs w' K hJ hp1 hp2 hS hR hK
                    simp only [DepJ, List.getD_cons_zero, List.getD_cons_succ] at hJ
                    obtain ⟨j14, -⟩ := hJ
                    have j14 := Eq1.out j14
                    simp only [j14] at hK ⊢
                    rw [if_pos (by rfl)]
                    go_step
                    exact hK.out _ _ (Below.refl _ _) Eq1.mk Fresh.no
                  · intro p vs w' K hJ hp1 hp2 hS hR hK
                    simp only [DepJ, List.getD_cons_zero, List.getD_cons_succ] at hJ
                    obtain ⟨j15, -⟩ := hJ
                    have j15 := Eq1.out j15
                    simp only [j15] at hK ⊢
                    rw [if_neg (by simp [Region.wanted, yielded, undef])]
                    exact hK.out _ _ (Below.refl _ _) Eq1.mk Fresh.no
                  · intro p vs w' K hJ hp1 hp2 hS hR hK
                    simp only [DepJ, List.getD_cons_zero, List.getD_cons_succ] at hJ
                    obtain ⟨j15, -⟩ := hJ
                    have j15 := Eq1.out j15
                    simp only [j15] at hK ⊢
                    rw [if_neg (by simp [Region.wanted, yielded, undef])]
                    exact hK.out _ _ (Below.refl _ _) Eq1.mk Fresh.no
                  · intro p vs w' K hJ hp1 hp2 hS hR hK
                    simp only [DepJ, List.getD_cons_zero, List.getD_cons_succ] at hJ
                    obtain ⟨j15, j17, -⟩ := hJ
                    have j15 := Eq1.out j15
                    have j17 := Eq1.out j17
                    simp only [j15, j17] at hK ⊢
                    rw [if_neg (by simp [Region.wanted, yielded, undef])]
                    exact hK.out _ _ (Below.refl _ _) Eq1.mk Fresh.no
                  · intro p vs w' K hJ hp1 hp2 hS hR hK
                    simp only [DepJ, List.getD_cons_zero, List.getD_cons_succ] at hJ
                    obtain ⟨j15, j16, j18, -⟩ := hJ
                    have j15 := Eq1.out j15
                    have j16 := Eq1.out j16
                    have j18 := Eq1.out j18
                    simp only [j15, j16, j18] at hK ⊢
                    rw [if_neg (by simp [Region.wanted, yielded, undef])]
                    exact hK.out _ _ (Below.refl _ _) Eq1.mk Fresh.no
                  · intro p vs w' K hJ hp1 hp2 hS hR hK
                    simp only [DepJ, List.getD_cons_zero, List.getD_cons_succ] at hJ
                    obtain ⟨j15, -⟩ := hJ
                    have j15 := Eq1.out j15
                    simp only [j15] at hK ⊢
                    rw [if_neg (by simp [Region.wanted, yielded, undef])]
                    exact hK.out _ _ (Below.refl _ _) Eq1.mk Fresh.no
                  · intro p vs w' K hJ hp1 hp2 hS hR hK
                    simp only [DepJ, List.getD_cons_zero, List.getD_cons_succ] at hJ
                    obtain ⟨j15, -⟩ := hJ
                    have j15 := Eq1.out j15
                    simp only [j15] at hK ⊢
                    rw [if_neg (by simp [Region.wanted, yielded, undef])]
                    exact hK.out _ _ (Below.refl _ _) Eq1.mk Fresh.no
                  · intro p vs w' K hJ hp1 hp2 hS hR hK
                    simp only [DepJ, List.getD_cons_zero, List.getD_cons_succ] at hJ
                    obtain ⟨j15, j21, -⟩ := hJ
                    have j15 := Eq1.out j15
                    have j21 := Eq1.out j21
                    simp only [j15, j21] at hK ⊢
                    rw [if_neg (by simp [Region.wanted, yielded, undef])]
                    exact hK.out _ _ (Below.refl _ _) Eq1.mk Fresh.no
                  · intro p vs w' K hJ hp1 hp2 hS hR hK
                    simp only [DepJ, List.getD_cons_zero, List.getD_cons_succ] at hJ
                    obtain ⟨j15, j20, j22, -⟩ := hJ
                    have j15 := Eq1.out j15
                    have j20 := Eq1.out j20
                    have j22 := Eq1.out j22
                    simp only [j15, j20, j22] at hK ⊢
                    rw [if_neg (by simp [Region.wanted, yielded, undef])]
                    exact hK.out _ _ (Below.refl _ _) Eq1.mk Fresh.no
                  · intro p vs w' K hJ hp1 hp2 hS hR hK
                    simp only [DepJ, List.getD_cons_zero, List.getD_cons_succ] at hJ
                    obtain ⟨j15, j19, j23, -⟩ := hJ
                    have j15 := Eq1.out j15
                    have j19 := Eq1.out j19
                    have j23 := Eq1.out j23
                    simp only [j15, j19, j23] at hK ⊢
                    rw [if_neg (by simp [Region.wanted, yielded, undef])]
                    exact hK.out _ _ (Below.refl _ _) Eq1.mk Fresh.no
                  · intro p vs w' K hJ hp1 hp2 hS hR hK
                    simp only [DepJ, List.getD_cons_zero, List.getD_cons_succ] at hJ
                    obtain ⟨j15, j24, -⟩ := hJ
                    have j15 := Eq1.out j15
                    have j24 := Eq1.out j24
                    simp only [j15, j24] at hK ⊢
                    rw [if_pos (by rfl)]
                    go_step
                    exact hK.out _ _ (Below.refl _ _) Eq1.mk Fresh.no
                case hst_7 => refine ⟨fun _ _ _ _ h => h, fun _ _ _ _ h => h, fun _ _ _ _ h => h, fun _ _ _ _ h => h, fun _ _ _ _ h => h, fun _ _ _ _ h => h, fun _ _ _ _ h => h, fun _ _ _ _ h => h, fun _ _ _ _ h => h, fun _ _ _ _ h => h, fun _ _ _ _ h => h, fun _ _ _ _ h => h, fun _ _ _ _ h => h, fun _ _ _ _ h => h, fun _ _ _ _ h => h, fun _ _ _ _ h => h, fun _ _ _ _ h => h, fun _ _ _ _ h => h, fun _ _ _ _ h => h, fun _ _ _ _ h => h, fun _ _ _ _ h => h, fun _ _ _ _ h => h, fun _ _ _ _ h => h, fun _ _ _ _ h => h, fun _ _ _ _ h => h, fun _ _ _ _ h => h, trivial⟩
                intro vs w' hJ hD hS hR
                simp only [AllJ, Nat.reduceAdd] at hJ
                obtain ⟨v0, v1, v2, v3, v4, v5, v6, v7, v8, v9, v10, v11, v12, v13, v14, v15, v16, v17, v18, v19, v20, v21, v22, v23, v24, v25, -⟩ := hJ
                clear C
                replace v0 := Eq1.out v0
                replace v1 := Eq1.out v1
                replace v2 := Eq1.out v2
                replace v3 := Eq1.out v3
                replace v4 := Eq1.out v4
                replace v5 := Eq1.out v5
                replace v6 := Eq1.out v6
                replace v7 := Eq1.out v7
                replace v8 := Eq1.out v8
                replace v9 := Eq1.out v9
                replace v10 := Eq1.out v10
                replace v11 := Eq1.out v11
                replace v12 := Eq1.out v12
                replace v13 := Eq1.out v13
                replace v14 := Eq1.out v14
                replace v15 := Eq1.out v15
                replace v16 := Eq1.out v16
                replace v17 := Eq1.out v17
                replace v18 := Eq1.out v18
                replace v19 := Eq1.out v19
                replace v20 := Eq1.out v20
                replace v21 := Eq1.out v21
                replace v22 := Eq1.out v22
                replace v23 := Eq1.out v23
                replace v24 := Eq1.out v24
                replace v25 := Eq1.out v25
                simp only [v0, v1, v2, v3, v4, v5, v6, v7, v8, v9, v10, v11, v12, v13, v14, v15, v16, v17, v18, v19, v20, v21, v22, v23, v24, v25, List.drop_succ_cons, List.drop_zero]
                have H' : Hp _ _ _ := hS
                clear hD hR hS v0 v1 v2 v3 v4 v5 v6 v7 v8 v9 v10 v11 v12 v13 v14 v15 v16 v17 v18 v19 v20 v21 v22 v23 v24 v25
                clear vs H
                have H := H'; clear H'; have C := Hp.facts H; simp only [Facts, factsL, and_true, true_and, List.set_cons_zero, List.set_cons_succ, List.setIfInBounds_toArray] at C
                (repeat' ((fail_if_success (with_reducible show bodyPost _ _ _ _ _ _)); first | ((with_reducible refine Hp.abs_alloc H ?_); intro b' w' H' hb'; (try simp only [hb']); clear hb'; ((try simp only [List.set_cons_zero, List.set_cons_succ, List.setIfInBounds_toArray] at H'); clear C H; have H := H'; clear H'; have C := Hp.facts H; simp only [Facts, factsL, and_true, true_and, List.set_cons_zero, List.set_cons_succ, List.setIfInBounds_toArray] at C)) | ((with_reducible show wpList _ _ _ _ _ (World.setCell _ _ _)); (with_reducible apply Hp.abs_gen H); (first | ((repeat (with_reducible apply Hp.set' 0)); (with_reducible exact H); (repeat rfl); intro w' H') | ((repeat (with_reducible apply Hp.set' 1)); (with_reducible exact H); (repeat rfl); intro w' H') | ((repeat (with_reducible apply Hp.set' 2)); (with_reducible exact H); (repeat rfl); intro w' H') | ((repeat (with_reducible apply Hp.set' 3)); (with_reducible exact H); (repeat rfl); intro w' H') | ((repeat (with_reducible apply Hp.set' 4)); (with_reducible exact H); (repeat rfl); intro w' H') | ((repeat (with_reducible apply Hp.set' 5)); (with_reducible exact H); (repeat rfl); intro w' H') | ((repeat (with_reducible apply Hp.set' 6)); (with_reducible exact H); (repeat rfl); intro w' H') | ((repeat (with_reducible apply Hp.set' 7)); (with_reducible exact H); (repeat rfl); intro w' H')); ((try simp only [List.set_cons_zero, List.set_cons_succ, List.setIfInBounds_toArray] at H'); clear C H; have H := H'; clear H'; have C := Hp.facts H; simp only [Facts, factsL, and_true, true_and, List.set_cons_zero, List.set_cons_succ, List.setIfInBounds_toArray] at C)) | go_values | go_skip | go_guarded | go_step | go_upon | go_back | (simp only [Int.not_lt, Int.not_le] at *; go_simp) | (go_values <;> (try go_simp)) | (go_ite <;> go_prune <;> (try go_simp)) | (split <;> (first | (rename_i hx; exact (hx _ rfl).elim) | go_prune))))
                exact ⟨ARel.mk (i + 1) false (by omega) (by go_num) rfl (fun h => by cases h) H, by simp [intOf]; omega⟩
              | true =>
                by_cases hS1 : sx.size < ss.size
                · by_cases hF1 : sx.size < sf.size
                  · by_cases hq : (ss[sx.size]'hS1).toNat = (sf[sx.size]'hF1).toNat
                    · have gq := Kp.mk hq
                      have hqb : (((ss[sx.size]'hS1).toNat : Int) == ((sf[sx.size]'hF1).toNat : Int)) = true := by rw [beq_iff_eq, hq]
                      clear hq
                      try simp (disch := omega) only [decide_eq_true, decide_eq_false]
                      obtain ⟨wR17bg, rfl⟩ := Hp.nameW H
                      apply region_n (frm wR17bg.heap.size (fun _ => Hp _ _)) (frm_ok ?hfs_8) frm_sz [] [.light 0 0, .light 0 0, .light 0 0, .light 0 0, .light 0 0, .light 0 0, .light 0 0, .light 0 0, .light 0 0, .light 0 0, .light 0 0, .light 0 0, .light 0 0, .light 0 0, .light 0 0, .light 0 0, .light 0 0, .light 0 0, .light 0 0, .light 0 0, .light 0 0, .light 0 0, .light 0 0, .light 0 0, .light 0 0, .light 0 0] [false, false, false, false, false, false, false, false, false, false, false, false, false, false, false, false, false, false, false, false, false, false, false, false, false, false] 26 103 [26, 26, 26, 26, 26, 26, 26, 26, 26, 26, 26, 26, 26, 26, 26, 26, 26, 26, 26, 26, 26, 26, 26, 26, 26, 26] [some 72, some 73, some 74, some 75, some 76, some 77, some 78, some 79, some 80, some 81, some 82, some 83, some 84, some 85, some 86, some 87, some 88, some 89, some 90, some 91, some 92, some 93, some 94, some 95, some 96, some 97] [[], [0], [1], [1, 2], [1], [1, 4], [1, 3, 5], [1, 6], [7], [8], [8, 9], [8], [8, 11], [8, 10, 12], [8, 13], [14], [15], [15], [15, 17], [15, 16, 18], [15], [15], [15, 21], [15, 20, 22], [15, 19, 23], [15, 24]] [Eq1 _, Eq1 (.bool true), Eq1 _, Eq1 _, Eq1 _, Eq1 _, Eq1 (.bool true), Eq1 _, Eq1 _, Eq1 _, Eq1 _, Eq1 _, Eq1 _, Eq1 (.bool true), Eq1 _, Eq1 _, Eq1 _, Eq1 _, Eq1 _, Eq1 _, Eq1 _, Eq1 _, Eq1 _, Eq1 _, Eq1 (.bool true), Eq1 _] ?hq1_8 ?hq2_8 ?hq3_8 ?hq4_8 ?hq5_8 ?hq6_8 _ ?hA_8 ?hst_8 ?h0_8 ?hsteps_8 ?hend_8
                      case hq1_8 => kernel_rfl
                      case hq2_8 => kernel_rfl
                      case hq3_8 => kernel_rfl
                      case hq5_8 => kernel_rfl
                      case hq4_8 => rfl
                      case hq6_8 => rfl
                      case hA_8 => intro vs; simp only [fillD, Nat.reduceAdd, Act.put, List.setIfInBounds_toArray, List.set_cons_zero, List.set_cons_succ]; rfl
                      case h0_8 => exact H.drew
                      case hfs_8 => exact fun _ _ _ hb h => Hp.step h hb
                      case hsteps_8 =>
                        refine ⟨?_, ?_, ?_, ?_, ?_, ?_, ?_, ?_, ?_, ?_, ?_, ?_, ?_, ?_, ?_, ?_, ?_, ?_, ?_, ?_, ?_, ?_, ?_, ?_, ?_, ?_, trivial⟩
                        · intro p vs w' K hJ hp1 hp2 hS hR hK
                          rw [if_pos (by rfl)]
                          go_step
                          exact hK.out _ _ (Below.refl _ _) Eq1.mk Fresh.no
                        · intro p vs w' K hJ hp1 hp2 hS hR hK
                          simp only [DepJ, List.getD_cons_zero, List.getD_cons_succ] at hJ
                          obtain ⟨j0, -⟩ := hJ
                          have j0 := Eq1.out j0
                          simp only [j0] at hK ⊢
                          rw [if_pos (by rfl)]
                          go_step
                          exact hK.out _ _ (Below.refl _ _) (Eq1.of (by first | rfl | (simp; done) | (simp; omega))) Fresh.no
                        · intro p vs w' K hJ hp1 hp2 hS hR hK
                          simp only [DepJ, List.getD_cons_zero, List.getD_cons_succ] at hJ
                          obtain ⟨j1, -⟩ := hJ
                          have j1 := Eq1.out j1
                          simp only [j1] at hK ⊢
                          rw [if_pos (by rfl)]
                          go_step
                          exact hK.out _ _ (Below.refl _ _) Eq1.mk Fresh.no
                        · intro p vs w' K hJ hp1 hp2 hS hR hK
                          simp only [DepJ, List.getD_cons_zero, List.getD_cons_succ] at hJ
                          obtain ⟨j1, j2, -⟩ := hJ
                          have j1 := Eq1.out j1
                          have j2 := Eq1.out j2
                          simp only [j1, j2] at hK ⊢
                          rw [if_pos (by rfl)]
                          have C := Hp.facts hS
                          simp only [Facts, factsL, and_true, true_and, List.set_cons_zero, List.set_cons_succ, List.setIfInBounds_toArray] at C
                          have hsz := hR.1
                          go_step
                          exact hK.out _ _ (Below.refl _ _) Eq1.mk Fresh.no
                        · intro p vs w' K hJ hp1 hp2 hS hR hK
                          simp only [DepJ, List.getD_cons_zero, List.getD_cons_succ] at hJ
                          obtain ⟨j1, -⟩ := hJ
                          have j1 := Eq1.out j1
                          simp only [j1] at hK ⊢
                          rw [if_pos (by rfl)]
                          go_step
                          exact hK.out _ _ (Below.refl _ _) Eq1.mk Fresh.no
                        · intro p vs w' K hJ hp1 hp2 hS hR hK
                          simp only [DepJ, List.getD_cons_zero, List.getD_cons_succ] at hJ
                          obtain ⟨j1, j4, -⟩ := hJ
                          have j1 := Eq1.out j1
                          have j4 := Eq1.out j4
                          simp only [j1, j4] at hK ⊢
                          rw [if_pos (by rfl)]
                          have C := Hp.facts hS
                          simp only [Facts, factsL, and_true, true_and, List.set_cons_zero, List.set_cons_succ, List.setIfInBounds_toArray] at C
                          have hsz := hR.1
                          go_step
                          exact hK.out _ _ (Below.refl _ _) Eq1.mk Fresh.no
                        · intro p vs w' K hJ hp1 hp2 hS hR hK
                          simp only [DepJ, List.getD_cons_zero, List.getD_cons_succ] at hJ
                          obtain ⟨j1, j3, j5, -⟩ := hJ
                          have j1 := Eq1.out j1
                          have j3 := Eq1.out j3
                          have j5 := Eq1.out j5
                          simp only [j1, j3, j5] at hK ⊢
                          rw [if_pos (by rfl)]
                          go_step
                          exact hK.out _ _ (Below.refl _ _) (Eq1.of (by first | rfl | (simp; done) | (simp; omega))) Fresh.no
                        · intro p vs w' K hJ hp1 hp2 hS hR hK
                          simp only [DepJ, List.getD_cons_zero, List.getD_cons_succ] at hJ
                          obtain ⟨j1, j6, -⟩ := hJ
                          have j1 := Eq1.out j1
                          have j6 := Eq1.out j6
                          simp only [j1, j6] at hK ⊢
                          rw [if_pos (by rfl)]
                          go_step
                          exact hK.out _ _ (Below.refl _ _) Eq1.mk Fresh.no
                        · intro p vs w' K hJ hp1 hp2 hS hR hK
                          simp only [DepJ, List.getD_cons_zero, List.getD_cons_succ] at hJ
                          obtain ⟨j7, -⟩ := hJ
                          have j7 := Eq1.out j7
                          simp only [j7] at hK ⊢
                          rw [if_pos (by rfl)]
                          go_step
                          exact hK.out _ _ (Below.refl _ _) Eq1.mk Fresh.no
                        · intro p vs w' K hJ hp1 hp2 hS hR hK
                          simp only [DepJ, List.getD_cons_zero, List.getD_cons_succ] at hJ
                          obtain ⟨j8, -⟩ := hJ
                          have j8 := Eq1.out j8
                          simp only [j8] at hK ⊢
                          rw [if_pos (by rfl)]
                          go_step
                          exact hK.out _ _ (Below.refl _ _) Eq1.mk Fresh.no
                        · intro p vs w' K hJ hp1 hp2 hS hR hK
                          simp only [DepJ, List.getD_cons_zero, List.getD_cons_succ] at hJ
                          obtain ⟨j8, j9, -⟩ := hJ
                          have j8 := Eq1.out j8
                          have j9 := Eq1.out j9
                          simp only [j8, j9] at hK ⊢
                          rw [if_pos (by rfl)]
                          have C := Hp.facts hS
                          simp only [Facts, factsL, and_true, true_and, List.set_cons_zero, List.set_cons_succ, List.setIfInBounds_toArray] at C
                          have hsz := hR.1
                          go_step
                          exact hK.out _ _ (Below.refl _ _) Eq1.mk Fresh.no
                        · intro p vs w' K hJ hp1 hp2 hS hR hK
                          simp only [DepJ, List.getD_cons_zero, List.getD_cons_succ] at hJ
                          obtain ⟨j8, -⟩ := hJ
                          have j8 := Eq1.out j8
                          simp only [j8] at hK ⊢
                          rw [if_pos (by rfl)]
                          go_step
                          exact hK.out _ _ (Below.refl _ _) Eq1.mk Fresh.no
                        · intro p vs w' K hJ hp1 hp2 hS hR hK
                          simp only [DepJ, List.getD_cons_zero, List.getD_cons_succ] at hJ
                          obtain ⟨j8, j11, -⟩ := hJ
                          have j8 := Eq1.out j8
                          have j11 := Eq1.out j11
                          simp only [j8, j11] at hK ⊢
                          rw [if_pos (by rfl)]
                          have C := Hp.facts hS
                          simp only [Facts, factsL, and_true, true_and, List.set_cons_zero, List.set_cons_succ, List.setIfInBounds_toArray] at C
                          have hsz := hR.1
                          go_step
                          exact hK.out _ _ (Below.refl _ _) Eq1.mk Fresh.no
                        · intro p vs w' K hJ hp1 hp2 hS hR hK
                          simp only [DepJ, List.getD_cons_zero, List.getD_cons_succ] at hJ
                          obtain ⟨j8, j10, j12, -⟩ := hJ
                          have j8 := Eq1.out j8
                          have j10 := Eq1.out j10
                          have j12 := Eq1.out j12
                          simp only [j8, j10, j12] at hK ⊢
                          rw [if_pos (by rfl)]
                          go_step
                          exact hK.out _ _ (Below.refl _ _) (Eq1.of (by first | rfl | (simp; done) | (simp; omega))) Fresh.no
                        · intro p vs w' K hJ hp1 hp2 hS hR hK
                          simp only [DepJ, List.getD_cons_zero, List.getD_cons_succ] at hJ
                          obtain ⟨j8, j13, -⟩ := hJ
                          have j8 := Eq1.out j8
                          have j13 := Eq1.out j13
                          simp only [j8, j13] at hK ⊢
                          rw [if_pos (by rfl)]
                          go_step
                          exact hK.out _ _ (Below.refl _ _) Eq1.mk Fresh.no
                        · intro p vs w' K hJ hp1 hp2 hS hR hK
                          simp only [DepJ, List.getD_cons_zero, List.getD_cons_succ] at hJ
                          obtain ⟨j14, -⟩ := hJ
                          have j14 := Eq1.out j14
                          simp only [j14] at hK ⊢
                          rw [if_pos (by rfl)]
                          go_step
                          exact hK.out _ _ (Below.refl _ _) Eq1.mk Fresh.no
                        · intro p vs w' K hJ hp1 hp2 hS hR hK
                          simp only [DepJ, List.getD_cons_zero, List.getD_cons_succ] at hJ
                          obtain ⟨j15, -⟩ := hJ
                          have j15 := Eq1.out j15
                          simp only [j15] at hK ⊢
                          rw [if_pos (by rfl)]
                          go_step
                          exact hK.out _ _ (Below.refl _ _) Eq1.mk Fresh.no
                        · intro p vs w' K hJ hp1 hp2 hS hR hK
                          simp only [DepJ, List.getD_cons_zero, List.getD_cons_succ] at hJ
                          obtain ⟨j15, -⟩ := hJ
                          have j15 := Eq1.out j15
                          simp only [j15] at hK ⊢
                          rw [if_pos (by rfl)]
                          go_step
                          exact hK.out _ _ (Below.refl _ _) Eq1.mk Fresh.no
                        · intro p vs w' K hJ hp1 hp2 hS hR hK
                          simp only [DepJ, List.getD_cons_zero, List.getD_cons_succ] at hJ
                          obtain ⟨j15, j17, -⟩ := hJ
                          have j15 := Eq1.out j15
                          have j17 := Eq1.out j17
                          simp only [j15, j17] at hK ⊢
                          rw [if_pos (by rfl)]
                          have C := Hp.facts hS
                          simp only [Facts, factsL, and_true, true_and, List.set_cons_zero, List.set_cons_succ, List.setIfInBounds_toArray] at C
                          have hsz := hR.1
                          go_step
                          exact hK.out _ _ (Below.refl _ _) Eq1.mk Fresh.no
                        · intro p vs w' K hJ hp1 hp2 hS hR hK
                          simp only [DepJ, List.getD_cons_zero, List.getD_cons_succ] at hJ
                          obtain ⟨j15, j16, j18, -⟩ := hJ
                          have j15 := Eq1.out j15
                          have j16 := Eq1.out j16
                          have j18 := Eq1.out j18
                          simp only [j15, j16, j18] at hK ⊢
                          rw [if_pos (by rfl)]
                          have C := Hp.facts hS
                          simp only [Facts, factsL, and_true, true_and, List.set_cons_zero, List.set_cons_succ, List.setIfInBounds_toArray] at C
                          have hsz := hR.1
                          go_step
                          exact hK.out _ _ (Below.refl _ _) Eq1.mk Fresh.no
                        · intro p vs w' K hJ hp1 hp2 hS hR hK
                          simp only [DepJ, List.getD_cons_zero, List.getD_cons_succ] at hJ
                          obtain ⟨j15, -⟩ := hJ
                          have j15 := Eq1.out j15
                          simp only [j15] at hK ⊢
                          rw [if_pos (by rfl)]
                          go_step
                          exact hK.out _ _ (Below.refl _ _) Eq1.mk Fresh.no
                        · intro p vs w' K hJ hp1 hp2 hS hR hK
                          simp only [DepJ, List.getD_cons_zero, List.getD_cons_succ] at hJ
                          obtain ⟨j15, -⟩ := hJ
                          have j15 := Eq1.out j15
                          simp only [j15] at hK ⊢
                          rw [if_pos (by rfl)]
                          go_step
                          exact hK.out _ _ (Below.refl _ _) Eq1.mk Fresh.no
                        · intro p vs w' K hJ hp1 hp2 hS hR hK
                          simp only [DepJ, List.getD_cons_zero, List.getD_cons_succ] at hJ
                          obtain ⟨j15, j21, -⟩ := hJ
                          have j15 := Eq1.out j15
                          have j21 := Eq1.out j21
                          simp only [j15, j21] at hK ⊢
                          rw [if_pos (by rfl)]
                          have C := Hp.facts hS
                          simp only [Facts, factsL, and_true, true_and, List.set_cons_zero, List.set_cons_succ, List.setIfInBounds_toArray] at C
                          have hsz := hR.1
                          go_step
                          exact hK.out _ _ (Below.refl _ _) Eq1.mk Fresh.no
                        · intro p vs w' K hJ hp1 hp2 hS hR hK
                          simp only [DepJ, List.getD_cons_zero, List.getD_cons_succ] at hJ
                          obtain ⟨j15, j20, j22, -⟩ := hJ
                          have j15 := Eq1.out j15
                          have j20 := Eq1.out j20
                          have j22 := Eq1.out j22
                          simp only [j15, j20, j22] at hK ⊢
                          rw [if_pos (by rfl)]
                          have C := Hp.facts hS
                          simp only [Facts, factsL, and_true, true_and, List.set_cons_zero, List.set_cons_succ, List.setIfInBounds_toArray] at C
                          have hsz := hR.1
                          go_step
                          exact hK.out _ _ (Below.refl _ _) Eq1.mk Fresh.no
                        · intro p vs w' K hJ hp1 hp2 hS hR hK
                          simp only [DepJ, List.getD_cons_zero, List.getD_cons_succ] at hJ
                          obtain ⟨j15, j19, j23, -⟩ := hJ
                          have j15 := Eq1.out j15
                          have j19 := Eq1.out j19
                          have j23 := Eq1.out j23
                          simp only [j15, j19, j23] at hK ⊢
                          rw [if_pos (by rfl)]
                          go_step
                          exact hK.out _ _ (Below.refl _ _) (Eq1.of (by first | rfl | rw [hqb] | (simp; exact gq.out))) Fresh.no
                        · intro p vs w' K hJ hp1 hp2 hS hR hK
                          simp only [DepJ, List.getD_cons_zero, List.getD_cons_succ] at hJ
                          obtain ⟨j15, j24, -⟩ := hJ
                          have j15 := Eq1.out j15
                          have j24 := Eq1.out j24
                          simp only [j15, j24] at hK ⊢
                          rw [if_pos (by rfl)]
                          go_step
                          exact hK.out _ _ (Below.refl _ _) Eq1.mk Fresh.no
                      case hst_8 => refine ⟨fun _ _ _ _ h => h, fun _ _ _ _ h => h, fun _ _ _ _ h => h, fun _ _ _ _ h => h, fun _ _ _ _ h => h, fun _ _ _ _ h => h, fun _ _ _ _ h => h, fun _ _ _ _ h => h, fun _ _ _ _ h => h, fun _ _ _ _ h => h, fun _ _ _ _ h => h, fun _ _ _ _ h => h, fun _ _ _ _ h => h, fun _ _ _ _ h => h, fun _ _ _ _ h => h, fun _ _ _ _ h => h, fun _ _ _ _ h => h, fun _ _ _ _ h => h, fun _ _ _ _ h => h, fun _ _ _ _ h => h, fun _ _ _ _ h => h, fun _ _ _ _ h => h, fun _ _ _ _ h => h, fun _ _ _ _ h => h, fun _ _ _ _ h => h, fun _ _ _ _ h => h, trivial⟩
                      intro vs w' hJ hD hS hR
                      simp only [AllJ, Nat.reduceAdd] at hJ
                      obtain ⟨v0, v1, v2, v3, v4, v5, v6, v7, v8, v9, v10, v11, v12, v13, v14, v15, v16, v17, v18, v19, v20, v21, v22, v23, v24, v25, -⟩ := hJ
                      clear C
                      replace v0 := Eq1.out v0
                      replace v1 := Eq1.out v1
                      replace v2 := Eq1.out v2
                      replace v3 := Eq1.out v3
                      replace v4 := Eq1.out v4
                      replace v5 := Eq1.out v5
                      replace v6 := Eq1.out v6
                      replace v7 := Eq1.out v7
                      replace v8 := Eq1.out v8
                      replace v9 := Eq1.out v9
                      replace v10 := Eq1.out v10
                      replace v11 := Eq1.out v11
                      replace v12 := Eq1.out v12
                      replace v13 := Eq1.out v13
                      replace v14 := Eq1.out v14
                      replace v15 := Eq1.out v15
                      replace v16 := Eq1.out v16
                      replace v17 := Eq1.out v17
                      replace v18 := Eq1.out v18
                      replace v19 := Eq1.out v19
                      replace v20 := Eq1.out v20
                      replace v21 := Eq1.out v21
                      replace v22 := Eq1.out v22
                      replace v23 := Eq1.out v23
                      replace v24 := Eq1.out v24
                      replace v25 := Eq1.out v25
                      simp only [v0, v1, v2, v3, v4, v5, v6, v7, v8, v9, v10, v11, v12, v13, v14, v15, v16, v17, v18, v19, v20, v21, v22, v23, v24, v25, List.drop_succ_cons, List.drop_zero]
                      have H' : Hp _ _ _ := hS
                      clear hD hR hS v0 v1 v2 v3 v4 v5 v6 v7 v8 v9 v10 v11 v12 v13 v14 v15 v16 v17 v18 v19 v20 v21 v22 v23 v24 v25
                      clear vs H
                      have H := H'; clear H'; have C := Hp.facts H; simp only [Facts, factsL, and_true, true_and, List.set_cons_zero, List.set_cons_succ, List.setIfInBounds_toArray] at C
                      (repeat' ((fail_if_success (with_reducible show bodyPost _ _ _ _ _ _)); first | ((with_reducible refine Hp.abs_alloc H ?_); intro b' w' H' hb'; (try simp only [hb']); clear hb'; ((try simp only [List.set_cons_zero, List.set_cons_succ, List.setIfInBounds_toArray] at H'); clear C H; have H := H'; clear H'; have C := Hp.facts H; simp only [Facts, factsL, and_true, true_and, List.set_cons_zero, List.set_cons_succ, List.setIfInBounds_toArray] at C)) | ((with_reducible show wpList _ _ _ _ _ (World.setCell _ _ _)); (with_reducible apply Hp.abs_gen H); (first | ((repeat (with_reducible apply Hp.set' 0)); (with_reducible exact H); (repeat rfl); intro w' H') | ((repeat (with_reducible apply Hp.set' 1)); (with_reducible exact H); (repeat rfl); intro w' H') | ((repeat (with_reducible apply Hp.set' 2)); (with_reducible exact H); (repeat rfl); intro w' H') | ((repeat (with_reducible apply Hp.set' 3)); (with_reducible exact H); (repeat rfl); intro w' H') | ((repeat (with_reducible apply Hp.set' 4)); (with_reducible exact H); (repeat rfl); intro w' H') | ((repeat (with_reducible apply Hp.set' 5)); (with_reducible exact H); (repeat rfl); intro w' H') | ((repeat (with_reducible apply Hp.set' 6)); (with_reducible exact H); (repeat rfl); intro w' H') | ((repeat (with_reducible apply Hp.set' 7)); (with_reducible exact H); (repeat rfl); intro w' H')); ((try simp only [List.set_cons_zero, List.set_cons_succ, List.setIfInBounds_toArray] at H'); clear C H; have H := H'; clear H'; have C := Hp.facts H; simp only [Facts, factsL, and_true, true_and, List.set_cons_zero, List.set_cons_succ, List.setIfInBounds_toArray] at C)) | go_values | go_skip | go_guarded | go_step | go_upon | go_back | (simp only [Int.not_lt, Int.not_le] at *; go_simp) | (go_values <;> (try go_simp)) | (go_ite <;> go_prune <;> (try go_simp)) | (split <;> (first | (rename_i hx; exact (hx _ rfl).elim) | go_prune))))
                      refine ⟨ARel.mk (i + 1) true (by omega) (by go_num) rfl (fun _ j hj hji => ?_) H, by simp [intOf]; omega⟩
                      by_cases hji2 : j = i
                      · subst hji2
                        have k1 : n < g.length := by have := gss.out; have := gsx.out; omega
                        have k2 : n < f.length := by have := gsf.out; have := gsx.out; omega
                        refine ⟨hp2, by rw [gg.out]; exact k1, by rw [gL0.out]; exact k2, ?_⟩
                        have e3 : g[n] = f[n] := by
                          obtain ⟨q1, q2⟩ := gssi.out n k1
                          obtain ⟨q3, q4⟩ := gsfi.out n k2
                          rw [← q2, ← q4]
                          apply UInt8.toNat_inj.1
                          have := gq.out
                          simpa only [gsx.out] using this
                        simp only [gg.out, gL0.out]
                        exact e3
                      · exact hup.out (by trivial) j hj (by omega)
                    · have gq := Kp.mk hq
                      have hqb : (((ss[sx.size]'hS1).toNat : Int) == ((sf[sx.size]'hF1).toNat : Int)) = false := by rw [beq_eq_false_iff_ne]; omega
                      clear hq
                      try simp (disch := omega) only [decide_eq_true, decide_eq_false]
                      obtain ⟨wR17bh, rfl⟩ := Hp.nameW H
                      apply region_n (frm wR17bh.heap.size (fun _ => Hp _ _)) (frm_ok ?hfs_9) frm_sz [] [.light 0 0, .light 0 0, .light 0 0, .light 0 0, .light 0 0, .light 0 0, .light 0 0, .light 0 0, .light 0 0, .light 0 0, .light 0 0, .light 0 0, .light 0 0, .light 0 0, .light 0 0, .light 0 0, .light 0 0, .light 0 0, .light 0 0, .light 0 0, .light 0 0, .light 0 0, .light 0 0, .light 0 0, .light 0 0, .light 0 0] [false, false, false, false, false, false, false, false, false, false, false, false, false, false, false, false, false, false, false, false, false, false, false, false, false, false] 26 103 [26, 26, 26, 26, 26, 26, 26, 26, 26, 26, 26, 26, 26, 26, 26, 26, 26, 26, 26, 26, 26, 26, 26, 26, 26, 26] [some 72, some 73, some 74, some 75, some 76, some 77, some 78, some 79, some 80, some 81, some 82, some 83, some 84, some 85, some 86, some 87, some 88, some 89, some 90, some 91, some 92, some 93, some 94, some 95, some 96, some 97] [[], [0], [1], [1, 2], [1], [1, 4], [1, 3, 5], [1, 6], [7], [8], [8, 9], [8], [8, 11], [8, 10, 12], [8, 13], [14], [15], [15], [15, 17], [15, 16, 18], [15], [15], [15, 21], [15, 20, 22], [15, 19, 23], [15, 24]] [Eq1 _, Eq1 (.bool true), Eq1 _, Eq1 _, Eq1 _, Eq1 _, Eq1 (.bool true), Eq1 _, Eq1 _, Eq1 _, Eq1 _, Eq1 _, Eq1 _, Eq1 (.bool true), Eq1 _, Eq1 _, Eq1 _, Eq1 _, Eq1 _, Eq1 _, Eq1 _, Eq1 _, Eq1 _, Eq1 _, Eq1 (.bool false), Eq1 _] ?hq1_9 ?hq2_9 ?hq3_9 ?hq4_9 ?hq5_9 ?hq6_9 _ ?hA_9 ?hst_9 ?h0_9 ?hsteps_9 ?hend_9
                      case hq1_9 => kernel_rfl
                      case hq2_9 => kernel_rfl
                      case hq3_9 => kernel_rfl
                      case hq5_9 => kernel_rfl
                      case hq4_9 => rfl
                      case hq6_9 => rfl
                      case hA_9 => intro vs; simp only [fillD, Nat.reduceAdd, Act.put, List.setIfInBounds_toArray, List.set_cons_zero, List.set_cons_succ]; rfl
                      case h0_9 => exact H.drew
                      case hfs_9 => exact fun _ _ _ hb h => Hp.step h hb
                      case hsteps_9 =>
                        refine ⟨?_, ?_, ?_, ?_, ?_, ?_, ?_, ?_, ?_, ?_, ?_, ?_, ?_, ?_, ?_, ?_, ?_, ?_, ?_, ?_, ?_, ?_, ?_, ?_, ?_, ?_, trivial⟩
                        · intro p vs w' K hJ hp1 hp2 hS hR hK
                          rw [if_pos (by rfl)]
                          go_step
                          exact hK.out _ _ (Below.refl _ _) Eq1.mk Fresh.no
                        · intro p vs w' K hJ hp1 hp2 hS hR hK
                          simp only [DepJ, List.getD_cons_zero, List.getD_cons_succ] at hJ
                          obtain ⟨j0, -⟩ := hJ
                          have j0 := Eq1.out j0
                          simp only [j0] at hK ⊢
                          rw [if_pos (by rfl)]
                          go_step
                          exact hK.out _ _ (Below.refl _ _) (Eq1.of (by first | rfl | (simp; done) | (simp; omega))) Fresh.no
                        · intro p vs w' K hJ hp1 hp2 hS hR hK
                          simp only [DepJ, List.getD_cons_zero, List.getD_cons_succ] at hJ
                          obtain ⟨j1, -⟩ := hJ
                          have j1 := Eq1.out j1
                          simp only [j1] at hK ⊢
                          rw [if_pos (by rfl)]
                          go_step
                          exact hK.out _ _ (Below.refl _ _) Eq1.mk Fresh.no
                        · intro p vs w' K hJ hp1 hp2 hS hR hK
                          simp only [DepJ, List.getD_cons_zero, List.getD_cons_succ] at hJ
                          obtain ⟨j1, j2, -⟩ := hJ
                          have j1 := Eq1.out j1
                          have j2 := Eq1.out j2
                          simp only [j1, j2] at hK ⊢
                          rw [if_pos (by rfl)]
                          have C := Hp.facts hS
                          simp only [Facts, factsL, and_true, true_and, List.set_cons_zero, List.set_cons_succ, List.setIfInBounds_toArray] at C
                          have hsz := hR.1
                          go_step
                          exact hK.out _ _ (Below.refl _ _) Eq1.mk Fresh.no
                        · intro p vs w' K hJ hp1 hp2 hS hR hK
                          simp only [DepJ, List.getD_cons_zero, List.getD_cons_succ] at hJ
                          obtain ⟨j1, -⟩ := hJ
                          have j1 := Eq1.out j1
                          simp only [j1] at hK ⊢
                          rw [if_pos (by rfl)]
                          go_step
                          exact hK.out _ _ (Below.refl _ _) Eq1.mk Fresh.no
                        · intro p vs w' K hJ hp1 hp2 hS hR hK
                          simp only [DepJ, List.getD_cons_zero, List.getD_cons_succ] at hJ
                          obtain ⟨j1, j4, -⟩ := hJ
                          have j1 := Eq1.out j1
                          have j4 := Eq1.out j4
                          simp only [j1, j4] at hK ⊢
                          rw [if_pos (by rfl)]
                          have C := Hp.facts hS
                          simp only [Facts, factsL, and_true, true_and, List.set_cons_zero, List.set_cons_succ, List.setIfInBounds_toArray] at C
                          have hsz := hR.1
                          go_step
                          exact hK.out _ _ (Below.refl _ _) Eq1.mk Fresh.no
                        · intro p vs w' K hJ hp1 hp2 hS hR hK
                          simp only [DepJ, List.getD_cons_zero, List.getD_cons_succ] at hJ
                          obtain ⟨j1, j3, j5, -⟩ := hJ
                          have j1 := Eq1.out j1
                          have j3 := Eq1.out j3
                          have j5 := Eq1.out j5
                          simp only [j1, j3, j5] at hK ⊢
                          rw [if_pos (by rfl)]
                          go_step
                          exact hK.out _ _ (Below.refl _ _) (Eq1.of (by first | rfl | (simp; done) | (simp; omega))) Fresh.no
                        · intro p vs w' K hJ hp1 hp2 hS hR hK
                          simp only [DepJ, List.getD_cons_zero, List.getD_cons_succ] at hJ
                          obtain ⟨j1, j6, -⟩ := hJ
                          have j1 := Eq1.out j1
                          have j6 := Eq1.out j6
                          simp only [j1, j6] at hK ⊢
                          rw [if_pos (by rfl)]
                          go_step
                          exact hK.out _ _ (Below.refl _ _) Eq1.mk Fresh.no
                        · intro p vs w' K hJ hp1 hp2 hS hR hK
                          simp only [DepJ, List.getD_cons_zero, List.getD_cons_succ] at hJ
                          obtain ⟨j7, -⟩ := hJ
                          have j7 := Eq1.out j7
                          simp only [j7] at hK ⊢
                          rw [if_pos (by rfl)]
                          go_step
                          exact hK.out _ _ (Below.refl _ _) Eq1.mk Fresh.no
                        · intro p vs w' K hJ hp1 hp2 hS hR hK
                          simp only [DepJ, List.getD_cons_zero, List.getD_cons_succ] at hJ
                          obtain ⟨j8, -⟩ := hJ
                          have j8 := Eq1.out j8
                          simp only [j8] at hK ⊢
                          rw [if_pos (by rfl)]
                          go_step
                          exact hK.out _ _ (Below.refl _ _) Eq1.mk Fresh.no
                        · intro p vs w' K hJ hp1 hp2 hS hR hK
                          simp only [DepJ, List.getD_cons_zero, List.getD_cons_succ] at hJ
                          obtain ⟨j8, j9, -⟩ := hJ
                          have j8 := Eq1.out j8
                          have j9 := Eq1.out j9
                          simp only [j8, j9] at hK ⊢
                          rw [if_pos (by rfl)]
                          have C := Hp.facts hS
                          simp only [Facts, factsL, and_true, true_and, List.set_cons_zero, List.set_cons_succ, List.setIfInBounds_toArray] at C
                          have hsz := hR.1
                          go_step
                          exact hK.out _ _ (Below.refl _ _) Eq1.mk Fresh.no
                        · intro p vs w' K hJ hp1 hp2 hS hR hK
                          simp only [DepJ, List.getD_cons_zero, List.getD_cons_succ] at hJ
                          obtain ⟨j8, -⟩ := hJ
                          have j8 := Eq1.out j8
                          simp only [j8] at hK ⊢
                          rw [if_pos (by rfl)]
                          go_step
                          exact hK.out _ _ (Below.refl _ _) Eq1.mk Fresh.no
                        · intro p vs w' K hJ hp1 hp2 hS hR hK
                          simp only [DepJ, List.getD_cons_zero, List.getD_cons_succ] at hJ
                          obtain ⟨j8, j11, -⟩ := hJ
                          have j8 := Eq1.out j8
                          have j11 := Eq1.out j11
                          simp only [j8, j11] at hK ⊢
                          rw [if_pos (by rfl)]
                          have C := Hp.facts hS
                          simp only [Facts, factsL, and_true, true_and, List.set_cons_zero, List.set_cons_succ, List.setIfInBounds_toArray] at C
                          have hsz := hR.1
                          go_step
                          exact hK.out _ _ (Below.refl _ _) Eq1.mk Fresh.no
                        · intro p vs w' K hJ hp1 hp2 hS hR hK
                          simp only [DepJ, List.getD_cons_zero, List.getD_cons_succ] at hJ
                          obtain ⟨j8, j10, j12, -⟩ := hJ
                          have j8 := Eq1.out j8
                          have j10 := Eq1.out j10
                          have j12 := Eq1.out j12
                          simp only [j8, j10, j12] at hK ⊢
                          rw [if_pos (by rfl)]
                          go_step
                          exact hK.out _ _ (Below.refl _ _) (Eq1.of (by first | rfl | (simp; done) | (simp; omega))) Fresh.no
                        · intro p vs w' K hJ hp1 hp2 hS hR hK
                          simp only [DepJ, List.getD_cons_zero, List.getD_cons_succ] at hJ
                          obtain ⟨j8, j13, -⟩ := hJ
                          have j8 := Eq1.out j8
                          have j13 := Eq1.out j13
                          simp only [j8, j13] at hK ⊢
                          rw [if_pos (by rfl)]
                          go_step
                          exact hK.out _ _ (Below.refl _ _) Eq1.mk Fresh.no
                        · intro p vs w' K hJ hp1 hp2 hS hR hK
                          simp only [DepJ, List.getD_cons_zero, List.getD_cons_succ] at hJ
                          obtain ⟨j14, -⟩ := hJ
                          have j14 := Eq1.out j14
                          simp only [j14] at hK ⊢
                          rw [if_pos (by rfl)]
                          go_step
                          exact hK.out _ _ (Below.refl _ _) Eq1.mk Fresh.no
                        · intro p vs w' K hJ hp1 hp2 hS hR hK
                          simp only [DepJ, List.getD_cons_zero, List.getD_cons_succ] at hJ
                          obtain ⟨j15, -⟩ := hJ
                          have j15 := Eq1.out j15
                          simp only [j15] at hK ⊢
                          rw [if_pos (by rfl)]
                          go_step
                          exact hK.out _ _ (Below.refl _ _) Eq1.mk Fresh.no
                        · intro p vs w' K hJ hp1 hp2 hS hR hK
                          simp only [DepJ, List.getD_cons_zero, List.getD_cons_succ] at hJ
                          obtain ⟨j15, -⟩ := hJ
                          have j15 := Eq1.out j15
                          simp only [j15] at hK ⊢
                          rw [if_pos (by rfl)]
                          go_step
                          exact hK.out _ _ (Below.refl _ _) Eq1.mk Fresh.no
                        · intro p vs w' K hJ hp1 hp2 hS hR hK
                          simp only [DepJ, List.getD_cons_zero, List.getD_cons_succ] at hJ
                          obtain ⟨j15, j17, -⟩ := hJ
                          have j15 := Eq1.out j15
                          have j17 := Eq1.out j17
                          simp only [j15, j17] at hK ⊢
                          rw [if_pos (by rfl)]
                          have C := Hp.facts hS
                          simp only [Facts, factsL, and_true, true_and, List.set_cons_zero, List.set_cons_succ, List.setIfInBounds_toArray] at C
                          have hsz := hR.1
                          go_step
                          exact hK.out _ _ (Below.refl _ _) Eq1.mk Fresh.no
                        · intro p vs w' K hJ hp1 hp2 hS hR hK
                          simp only [DepJ, List.getD_cons_zero, List.getD_cons_succ] at hJ
                          obtain ⟨j15, j16, j18, -⟩ := hJ
                          have j15 := Eq1.out j15
                          have j16 := Eq1.out j16
                          have j18 := Eq1.out j18
                          simp only [j15, j16, j18] at hK ⊢
                          rw [if_pos (by rfl)]
                          have C := Hp.facts hS
                          simp only [Facts, factsL, and_true, true_and, List.set_cons_zero, List.set_cons_succ, List.setIfInBounds_toArray] at C
                          have hsz := hR.1
                          go_step
                          exact hK.out _ _ (Below.refl _ _) Eq1.mk Fresh.no
                        · intro p vs w' K hJ hp1 hp2 hS hR hK
                          simp only [DepJ, List.getD_cons_zero, List.getD_cons_succ] at hJ
                          obtain ⟨j15, -⟩ := hJ
                          have j15 := Eq1.out j15
                          simp only [j15] at hK ⊢
                          rw [if_pos (by rfl)]
                          go_step
                          exact hK.out _ _ (Below.refl _ _) Eq1.mk Fresh.no
                        · intro p vs w' K hJ hp1 hp2 hS hR hK
                          simp only [DepJ, List.getD_cons_zero, List.getD_cons_succ] at hJ
                          obtain ⟨j15, -⟩ := hJ
                          have j15 := Eq1.out j15
                          simp only [j15] at hK ⊢
                          rw [if_pos (by rfl)]
                          go_step
                          exact hK.out _ _ (Below.refl _ _) Eq1.mk Fresh.no
                        · intro p vs w' K hJ hp1 hp2 hS hR hK
                          simp only [DepJ, List.getD_cons_zero, List.getD_cons_succ] at hJ
                          obtain ⟨j15, j21, -⟩ := hJ
                          have j15 := Eq1.out j15
                          have j21 := Eq1.out j21
                          simp only [j15, j21] at hK ⊢
                          rw [if_pos (by rfl)]
                          have C := Hp.facts hS
                          simp only [Facts, factsL, and_true, true_and, List.set_cons_zero, List.set_cons_succ, List.setIfInBounds_toArray] at C
                          have hsz := hR.1
                          go_step
                          exact hK.out _ _ (Below.refl _ _) Eq1.mk Fresh.no
                        · intro p vs w' K hJ hp1 hp2 hS hR hK
                          simp only [DepJ, List.getD_cons_zero, List.getD_cons_succ] at hJ
                          obtain ⟨j15, j20, j22, -⟩ := hJ
                          have j15 := Eq1.out j15
                          have j20 := Eq1.out j20
                          have j22 := Eq1.out j22
                          simp only [j15, j20, j22] at hK ⊢
                          rw [if_pos (by rfl)]
                          have C := Hp.facts hS
                          simp only [Facts, factsL, and_true, true_and, List.set_cons_zero, List.set_cons_succ, List.setIfInBounds_toArray] at C
                          have hsz := hR.1
                          go_step
                          exact hK.out _ _ (Below.refl _ _) Eq1.mk Fresh.no
                        · intro p vs w' K hJ hp1 hp2 hS hR hK
                          simp only [DepJ, List.getD_cons_zero, List.getD_cons_succ] at hJ
                          obtain ⟨j15, j19, j23, -⟩ := hJ
                          have j15 := Eq1.out j15
                          have j19 := Eq1.out j19
                          have j23 := Eq1.out j23
                          simp only [j15, j19, j23] at hK ⊢
                          rw [if_pos (by rfl)]
                          go_step
                          exact hK.out _ _ (Below.refl _ _) (Eq1.of (by first | rfl | rw [hqb] | (simp; exact gq.out))) Fresh.no
                        · intro p vs w' K hJ hp1 hp2 hS hR hK
                          simp only [DepJ, List.getD_cons_zero, List.getD_cons_succ] at hJ
                          obtain ⟨j15, j24, -⟩ := hJ
                          have j15 := Eq1.out j15
                          have j24 := Eq1.out j24
                          simp only [j15, j24] at hK ⊢
                          rw [if_pos (by rfl)]
                          go_step
                          exact hK.out _ _ (Below.refl _ _) Eq1.mk Fresh.no
                      case hst_9 => refine ⟨fun _ _ _ _ h => h, fun _ _ _ _ h => h, fun _ _ _ _ h => h, fun _ _ _ _ h => h, fun _ _ _ _ h => h, fun _ _ _ _ h => h, fun _ _ _ _ h => h, fun _ _ _ _ h => h, fun _ _ _ _ h => h, fun _ _ _ _ h => h, fun _ _ _ _ h => h, fun _ _ _ _ h => h, fun _ _ _ _ h => h, fun _ _ _ _ h => h, fun _ _ _ _ h => h, fun _ _ _ _ h => h, fun _ _ _ _ h => h, fun _ _ _ _ h => h, fun _ _ _ _ h => h, fun _ _ _ _ h => h, fun _ _ _ _ h => h, fun _ _ _ _ h => h, fun _ _ _ _ h => h, fun _ _ _ _ h => h, fun _ _ _ _ h => h, fun _ _ _ _ h => h, trivial⟩
                      intro vs w' hJ hD hS hR
                      simp only [AllJ, Nat.reduceAdd] at hJ
                      obtain ⟨v0, v1, v2, v3, v4, v5, v6, v7, v8, v9, v10, v11, v12, v13, v14, v15, v16, v17, v18, v19, v20, v21, v22, v23, v24, v25, -⟩ := hJ
                      clear C
                      replace v0 := Eq1.out v0
                      replace v1 := Eq1.out v1
                      replace v2 := Eq1.out v2
                      replace v3 := Eq1.out v3
                      replace v4 := Eq1.out v4
                      replace v5 := Eq1.out v5
                      replace v6 := Eq1.out v6
                      replace v7 := Eq1.out v7
                      replace v8 := Eq1.out v8
                      replace v9 := Eq1.out v9
                      replace v10 := Eq1.out v10
                      replace v11 := Eq1.out v11
                      replace v12 := Eq1.out v12
                      replace v13 := Eq1.out v13
                      replace v14 := Eq1.out v14
                      replace v15 := Eq1.out v15
                      replace v16 := Eq1.out v16
                      replace v17 := Eq1.out v17
                      replace v18 := Eq1.out v18
                      replace v19 := Eq1.out v19
                      replace v20 := Eq1.out v20
                      replace v21 := Eq1.out v21
                      replace v22 := Eq1.out v22
                      replace v23 := Eq1.out v23
                      replace v24 := Eq1.out v24
                      replace v25 := Eq1.out v25
                      simp only [v0, v1, v2, v3, v4, v5, v6, v7, v8, v9, v10, v11, v12, v13, v14, v15, v16, v17, v18, v19, v20, v21, v22, v23, v24, v25, List.drop_succ_cons, List.drop_zero]
                      have H' : Hp _ _ _ := hS
                      clear hD hR hS v0 v1 v2 v3 v4 v5 v6 v7 v8 v9 v10 v11 v12 v13 v14 v15 v16 v17 v18 v19 v20 v21 v22 v23 v24 v25
                      clear vs H
                      have H := H'; clear H'; have C := Hp.facts H; simp only [Facts, factsL, and_true, true_and, List.set_cons_zero, List.set_cons_succ, List.setIfInBounds_toArray] at C
                      (repeat' ((fail_if_success (with_reducible show bodyPost _ _ _ _ _ _)); first | ((with_reducible refine Hp.abs_alloc H ?_); intro b' w' H' hb'; (try simp only [hb']); clear hb'; ((try simp only [List.set_cons_zero, List.set_cons_succ, List.setIfInBounds_toArray] at H'); clear C H; have H := H'; clear H'; have C := Hp.facts H; simp only [Facts, factsL, and_true, true_and, List.set_cons_zero, List.set_cons_succ, List.setIfInBounds_toArray] at C)) | ((with_reducible show wpList _ _ _ _ _ (World.setCell _ _ _)); (with_reducible apply Hp.abs_gen H); (first | ((repeat (with_reducible apply Hp.set' 0)); (with_reducible exact H); (repeat rfl); intro w' H') | ((repeat (with_reducible apply Hp.set' 1)); (with_reducible exact H); (repeat rfl); intro w' H') | ((repeat (with_reducible apply Hp.set' 2)); (with_reducible exact H); (repeat rfl); intro w' H') | ((repeat (with_reducible apply Hp.set' 3)); (with_reducible exact H); (repeat rfl); intro w' H') | ((repeat (with_reducible apply Hp.set' 4)); (with_reducible exact H); (repeat rfl); intro w' H') | ((repeat (with_reducible apply Hp.set' 5)); (with_reducible exact H); (repeat rfl); intro w' H') | ((repeat (with_reducible apply Hp.set' 6)); (with_reducible exact H); (repeat rfl); intro w' H') | ((repeat (with_reducible apply Hp.set' 7)); (with_reducible exact H); (repeat rfl); intro w' H')); ((try simp only [List.set_cons_zero, List.set_cons_succ, List.setIfInBounds_toArray] at H'); clear C H; have H := H'; clear H'; have C := Hp.facts H; simp only [Facts, factsL, and_true, true_and, List.set_cons_zero, List.set_cons_succ, List.setIfInBounds_toArray] at C)) | go_values | go_skip | go_guarded | go_step | go_upon | go_back | (simp only [Int.not_lt, Int.not_le] at *; go_simp) | (go_values <;> (try go_simp)) | (go_ite <;> go_prune <;> (try go_simp)) | (split <;> (first | (rename_i hx; exact (hx _ rfl).elim) | go_prune))))
                      exact ⟨ARel.mk (i + 1) false (by omega) (by go_num) rfl (fun h => by cases h) H, by simp [intOf]; omega⟩
                  · skip
                    try simp (disch := omega) only [decide_eq_true, decide_eq_false]
                    obtain ⟨wR17bi, rfl⟩ := Hp.nameW H
                    apply region_n (frm wR17bi.heap.size (fun _ => Hp _ _)) (frm_ok ?hfs_10) frm_sz [] [.light 0 0, .light 0 0, .light 0 0, .light 0 0, .light 0 0, .light 0 0, .light 0 0, .light 0 0, .light 0 0, .light 0 0, .light 0 0, .light 0 0, .light 0 0, .light 0 0, .light 0 0, .light 0 0, .light 0 0, .light 0 0, .light 0 0, .light 0 0, .light 0 0, .light 0 0, .light 0 0, .light 0 0, .light 0 0, .light 0 0] [false, false, false, false, false, false, false, false, false, false, false, false, false, false, false, false, false, false, false, false, false, false, false, false, false, false] 26 103 [26, 26, 26, 26, 26, 26, 26, 26, 26, 26, 26, 26, 26, 26, 26, 26, 26, 26, 26, 26, 26, 26, 26, 26, 26, 26] [some 72, some 73, some 74, some 75, some 76, some 77, some 78, some 79, some 80, some 81, some 82, some 83, some 84, some 85, some 86, some 87, some 88, some 89, some 90, some 91, some 92, some 93, some 94, some 95, some 96, some 97] [[], [0], [1], [1, 2], [1], [1, 4], [1, 3, 5], [1, 6], [7], [8], [8, 9], [8], [8, 11], [8, 10, 12], [8, 13], [14], [15], [15], [15, 17], [15, 16, 18], [15], [15], [15, 21], [15, 20, 22], [15, 19, 23], [15, 24]] [Eq1 _, Eq1 (.bool true), Eq1 _, Eq1 _, Eq1 _, Eq1 _, Eq1 (.bool true), Eq1 _, Eq1 _, Eq1 _, Eq1 _, Eq1 _, Eq1 _, Eq1 (.bool false), Eq1 _, Eq1 _, Eq1 _, Eq1 _, Eq1 _, Eq1 _, Eq1 _, Eq1 _, Eq1 _, Eq1 _, Eq1 _, Eq1 _] ?hq1_10 ?hq2_10 ?hq3_10 ?hq4_10 ?hq5_10 ?hq6_10 _ ?hA_10 ?hst_10 ?h0_10 ?hsteps_10 ?hend_10
                    case hq1_10 => kernel_rfl
                    case hq2_10 => kernel_rfl
                    case hq3_10 => kernel_rfl
                    case hq5_10 => kernel_rfl
                    case hq4_10 => rfl
                    case hq6_10 => rfl
                    case hA_10 => intro vs; simp only [fillD, Nat.reduceAdd, Act.put, List.setIfInBounds_toArray, List.set_cons_zero, List.set_cons_succ]; rfl
                    case h0_10 => exact H.drew
                    case hfs_10 => exact fun _ _ _ hb h => Hp.step h hb
                    case hsteps_10 =>
                      refine ⟨?_, ?_, ?_, ?_, ?_, ?_, ?_, ?_, ?_, ?_, ?_, ?_, ?_, ?_, ?_, ?_, ?_, ?_, ?_, ?_, ?_, ?_, ?_, ?_, ?_, ?_, trivial⟩
                      · intro p vs w' K hJ hp1 hp2 hS hR hK
                        rw [if_pos (by rfl)]
                        go_step
                        exact hK.out _ _ (Below.refl _ _) Eq1.mk Fresh.no
                      · intro p vs w' K hJ hp1 hp2 hS hR hK
                        simp only [DepJ, List.getD_cons_zero, List.getD_cons_succ] at hJ
                        obtain ⟨j0, -⟩ := hJ
                        have j0 := Eq1.out j0
                        simp only [j0] at hK ⊢
                        rw [if_pos (by rfl)]
                        go_step
                        exact hK.out _ _ (Below.refl _ _) (Eq1.of (by first | rfl | (simp; done) | (simp; omega))) Fresh.no
                      · intro p vs w' K hJ hp1 hp2 hS hR hK
                        simp only [DepJ, List.getD_cons_zero, List.getD_cons_succ] at hJ
                        obtain ⟨j1, -⟩ := hJ
                        have j1 := Eq1.out j1
                        simp only [j1] at hK ⊢
                        rw [if_pos (by rfl)]
                        go_step
                        exact hK.out _ _ (Below.refl _ _) Eq1.mk Fresh.no
                      · intro p vs w' K hJ hp1 hp2 hS hR hK
                        simp only [DepJ, List.getD_cons_zero, List.getD_cons_succ] at hJ
                        obtain ⟨j1, j2, -⟩ := hJ
                        have j1 := Eq1.out j1
                        have j2 := Eq1.out j2
                        simp only [j1, j2] at hK ⊢
                        rw [if_pos (by rfl)]
                        have C := Hp.facts hS
                        simp only [Facts, factsL, and_true, true_and, List.set_cons_zero, List.set_cons_succ, List.setIfInBounds_toArray] at C
                        have hsz := hR.1
                        go_step
                        exact hK.out _ _ (Below.refl _ _) Eq1.mk Fresh.no
                      · intro p vs w' K hJ hp1 hp2 hS hR hK
                        simp only [DepJ, List.getD_cons_zero, List.getD_cons_succ] at hJ
                        obtain ⟨j1, -⟩ := hJ
                        have j1 := Eq1.out j1
                        simp only [j1] at hK ⊢
                        rw [if_pos (by rfl)]
                        go_step
                        exact hK.out _ _ (Below.refl _ _) Eq1.mk Fresh.no
                      · intro p vs w' K hJ hp1 hp2 hS hR hK
                        simp only [DepJ, List.getD_cons_zero, List.getD_cons_succ] at hJ
                        obtain ⟨j1, j4, -⟩ := hJ
                        have j1 := Eq1.out j1
                        have j4 := Eq1.out j4
                        simp only [j1, j4] at hK ⊢
                        rw [if_pos (by rfl)]
                        have C := Hp.facts hS
                        simp only [Facts, factsL, and_true, true_and, List.set_cons_zero, List.set_cons_succ, List.setIfInBounds_toArray] at C
                        have hsz := hR.1
                        go_step
                        exact hK.out _ _ (Below.refl _ _) Eq1.mk Fresh.no
                      · intro p vs w' K hJ hp1 hp2 hS hR hK
                        simp only [DepJ, List.getD_cons_zero, List.getD_cons_succ] at hJ
                        obtain ⟨j1, j3, j5, -⟩ := hJ
                        have j1 := Eq1.out j1
                        have j3 := Eq1.out j3
                        have j5 := Eq1.out j5
                        simp only [j1, j3, j5] at hK ⊢
                        rw [if_pos (by rfl)]
                        go_step
                        exact hK.out _ _ (Below.refl _ _) (Eq1.of (by first | rfl | (simp; done) | (simp; omega))) Fresh.no
                      · intro p vs w' K hJ hp1 hp2 hS hR hK
                        simp only [DepJ, List.getD_cons_zero, List.getD_cons_succ] at hJ
                        obtain ⟨j1, j6, -⟩ := hJ
                        have j1 := Eq1.out j1
                        have j6 := Eq1.out j6
                        simp only [j1, j6] at hK ⊢
                        rw [if_pos (by rfl)]
                        go_step
                        exact hK.out _ _ (Below.refl _ _) Eq1.mk Fresh.no
                      · intro p vs w' K hJ hp1 hp2 hS hR hK
                        simp only [DepJ, List.getD_cons_zero, List.getD_cons_succ] at hJ
                        obtain ⟨j7, -⟩ := hJ
                        have j7 := Eq1.out j7
                        simp only [j7] at hK ⊢
                        rw [if_pos (by rfl)]
                        go_step
                        exact hK.out _ _ (Below.refl _ _) Eq1.mk Fresh.no
                      · intro p vs w' K hJ hp1 hp2 hS hR hK
                        simp only [DepJ, List.getD_cons_zero, List.getD_cons_succ] at hJ
                        obtain ⟨j8, -⟩ := hJ
                        have j8 := Eq1.out j8
                        simp only [j8] at hK ⊢
                        rw [if_pos (by rfl)]
                        go_step
                        exact hK.out _ _ (Below.refl _ _) Eq1.mk Fresh.no
                      · intro p vs w' K hJ hp1 hp2 hS hR hK
                        simp only [DepJ, List.getD_cons_zero, List.getD_cons_succ] at hJ
                        obtain ⟨j8, j9, -⟩ := hJ
                        have j8 := Eq1.out j8
                        have j9 := Eq1.out j9
                        simp only [j8, j9] at hK ⊢
                        rw [if_pos (by rfl)]
                        have C := Hp.facts hS
                        simp only [Facts, factsL, and_true, true_and, List.set_cons_zero, List.set_cons_succ, List.setIfInBounds_toArray] at C
                        have hsz := hR.1
                        go_step
                        exact hK.out _ _ (Below.refl _ _) Eq1.mk Fresh.no
                      · intro p vs w' K hJ hp1 hp2 hS hR hK
                        simp only [DepJ, List.getD_cons_zero, List.getD_cons_succ] at hJ
                        obtain ⟨j8, -⟩ := hJ
                        have j8 := Eq1.out j8
                        simp only [j8] at hK ⊢
                        rw [if_pos (by rfl)]
                        go_step
                        exact hK.out _ _ (Below.refl _ _) Eq1.mk Fresh.no
                      · intro p vs w' K hJ hp1 hp2 hS hR hK
                        simp only [DepJ, List.getD_cons_zero, List.getD_cons_succ] at hJ
                        obtain ⟨j8, j11, -⟩ := hJ
                        have j8 := Eq1.out j8
                        have j11 := Eq1.out j11
                        simp only [j8, j11] at hK ⊢
                        rw [if_pos (by rfl)]
                        have C := Hp.facts hS
                        simp only [Facts, factsL, and_true, true_and, List.set_cons_zero, List.set_cons_succ, List.setIfInBounds_toArray] at C
                        have hsz := hR.1
                        go_step
                        exact hK.out _ _ (Below.refl _ _) Eq1.mk Fresh.no
                      · intro p vs w' K hJ hp1 hp2 hS hR hK
                        simp only [DepJ, List.getD_cons_zero, List.getD_cons_succ] at hJ
                        obtain ⟨j8, j10, j12, -⟩ := hJ
                        have j8 := Eq1.out j8
                        have j10 := Eq1.out j10
                        have j12 := Eq1.out j12
                        simp only [j8, j10, j12] at hK ⊢
                        rw [if_pos (by rfl)]
                        go_step
                        exact hK.out _ _ (Below.refl _ _) (Eq1.of (by first | rfl | (simp; done) | (simp; omega))) Fresh.no
                      · intro p vs w' K hJ hp1 hp2 hS hR hK
                        simp only [DepJ, List.getD_cons_zero, List.getD_cons_succ] at hJ
                        obtain ⟨j8, j13, -⟩ := hJ
                        have j8 := Eq1.out j8
                        have j13 := Eq1.out j13
                        simp only [j8, j13] at hK ⊢
                        rw [if_pos (by rfl)]
                        go_step
                        exact hK.out _ _ (Below.refl _ _) Eq1.mk Fresh.no
                      · intro p vs w' K hJ hp1 hp2 hS hR hK
                        simp only [DepJ, List.getD_cons_zero, List.getD_cons_succ] at hJ
                        obtain ⟨j14, -⟩ := hJ
                        have j14 := Eq1.out j14
                        simp only [j14] at hK ⊢
                        rw [if_pos (by rfl)]
                        go_step
                        exact hK.out _ _ (Below.refl _ _) Eq1.mk Fresh.no
                      · intro p vs w' K hJ hp1 hp2 hS hR hK
                        simp only [DepJ, List.getD_cons_zero, List.getD_cons_succ] at hJ
                        obtain ⟨j15, -⟩ := hJ
                        have j15 := Eq1.out j15
                        simp only [j15] at hK ⊢
                        rw [if_neg (by simp [Region.wanted, yielded, undef])]
                        exact hK.out _ _ (Below.refl _ _) Eq1.mk Fresh.no
                      · intro p vs w' K hJ hp1 hp2 hS hR hK
                        simp only [DepJ, List.getD_cons_zero, List.getD_cons_succ] at hJ
                        obtain ⟨j15, -⟩ := hJ
                        have j15 := Eq1.out j15
                        simp only [j15] at hK ⊢
                        rw [if_neg (by simp [Region.wanted, yielded, undef])]
                        exact hK.out _ _ (Below.refl _ _) Eq1.mk Fresh.no
                      · intro p vs w' K hJ hp1 hp2 hS hR hK
                        simp only [DepJ, List.getD_cons_zero, List.getD_cons_succ] at hJ
                        obtain ⟨j15, j17, -⟩ := hJ
                        have j15 := Eq1.out j15
                        have j17 := Eq1.out j17
                        simp only [j15, j17] at hK ⊢
                        rw [if_neg (by simp [Region.wanted, yielded, undef])]
                        exact hK.out _ _ (Below.refl _ _) Eq1.mk Fresh.no
                      · intro p vs w' K hJ hp1 hp2 hS hR hK
                        simp only [DepJ, List.getD_cons_zero, List.getD_cons_succ] at hJ
                        obtain ⟨j15, j16, j18, -⟩ := hJ
                        have j15 := Eq1.out j15
                        have j16 := Eq1.out j16
                        have j18 := Eq1.out j18
                        simp only [j15, j16, j18] at hK ⊢
                        rw [if_neg (by simp [Region.wanted, yielded, undef])]
                        exact hK.out _ _ (Below.refl _ _) Eq1.mk Fresh.no
                      · intro p vs w' K hJ hp1 hp2 hS hR hK
                        simp only [DepJ, List.getD_cons_zero, List.getD_cons_succ] at hJ
                        obtain ⟨j15, -⟩ := hJ
                        have j15 := Eq1.out j15
                        simp only [j15] at hK ⊢
                        rw [if_neg (by simp [Region.wanted, yielded, undef])]
                        exact hK.out _ _ (Below.refl _ _) Eq1.mk Fresh.no
                      · intro p vs w' K hJ hp1 hp2 hS hR hK
                        simp only [DepJ, List.getD_cons_zero, List.getD_cons_succ] at hJ
                        obtain ⟨j15, -⟩ := hJ
                        have j15 := Eq1.out j15
                        simp only [j15] at hK ⊢
                        rw [if_neg (by simp [Region.wanted, yielded, undef])]
                        exact hK.out _ _ (Below.refl _ _) Eq1.mk Fresh.no
                      · intro p vs w' K hJ hp1 hp2 hS hR hK
                        simp only [DepJ, List.getD_cons_zero, List.getD_cons_succ] at hJ
                        obtain ⟨j15, j21, -⟩ := hJ
                        have j15 := Eq1.out j15
                        have j21 := Eq1.out j21
                        simp only [j15, j21] at hK ⊢
                        rw [if_neg (by simp [Region.wanted, yielded, undef])]
                        exact hK.out _ _ (Below.refl _ _) Eq1.mk Fresh.no
                      · intro p vs w' K hJ hp1 hp2 hS hR hK
                        simp only [DepJ, List.getD_cons_zero, List.getD_cons_succ] at hJ
                        obtain ⟨j15, j20, j22, -⟩ := hJ
                        have j15 := Eq1.out j15
                        have j20 := Eq1.out j20
                        have j22 := Eq1.out j22
                        simp only [j15, j20, j22] at hK ⊢
                        rw [if_neg (by simp [Region.wanted, yielded, undef])]
                        exact hK.out _ _ (Below.refl _ _) Eq1.mk Fresh.no
                      · intro p vs w' K hJ hp1 hp2 hS hR hK
                        simp only [DepJ, List.getD_cons_zero, List.getD_cons_succ] at hJ
                        obtain ⟨j15, j19, j23, -⟩ := hJ
                        have j15 := Eq1.out j15
                        have j19 := Eq1.out j19
                        have j23 := Eq1.out j23
                        simp only [j15, j19, j23] at hK ⊢
                        rw [if_neg (by simp [Region.wanted, yielded, undef])]
                        exact hK.out _ _ (Below.refl _ _) Eq1.mk Fresh.no
                      · intro p vs w' K hJ hp1 hp2 hS hR hK
                        simp only [DepJ, List.getD_cons_zero, List.getD_cons_succ] at hJ
                        obtain ⟨j15, j24, -⟩ := hJ
                        have j15 := Eq1.out j15
                        have j24 := Eq1.out j24
                        simp only [j15, j24] at hK ⊢
                        rw [if_pos (by rfl)]
                        go_step
                        exact hK.out _ _ (Below.refl _ _) Eq1.mk Fresh.no
                    case hst_10 => refine ⟨fun _ _ _ _ h => h, fun _ _ _ _ h => h, fun _ _ _ _ h => h, fun _ _ _ _ h => h, fun _ _ _ _ h => h, fun _ _ _ _ h => h, fun _ _ _ _ h => h, fun _ _ _ _ h => h, fun _ _ _ _ h => h, fun _ _ _ _ h => h, fun _ _ _ _ h => h, fun _ _ _ _ h => h, fun _ _ _ _ h => h, fun _ _ _ _ h => h, fun _ _ _ _ h => h, fun _ _ _ _ h => h, fun _ _ _ _ h => h, fun _ _ _ _ h => h, fun _ _ _ _ h => h, fun _ _ _ _ h => h, fun _ _ _ _ h => h, fun _ _ _ _ h => h, fun _ _ _ _ h => h, fun _ _ _ _ h => h, fun _ _ _ _ h => h, fun _ _ _ _ h => h, trivial⟩
                    intro vs w' hJ hD hS hR
                    simp only [AllJ, Nat.reduceAdd] at hJ
                    obtain ⟨v0, v1, v2, v3, v4, v5, v6, v7, v8, v9, v10, v11, v12, v13, v14, v15, v16, v17, v18, v19, v20, v21, v22, v23, v24, v25, -⟩ := hJ
                    clear C
                    replace v0 := Eq1.out v0
                    replace v1 := Eq1.out v1
                    replace v2 := Eq1.out v2
                    replace v3 := Eq1.out v3
                    replace v4 := Eq1.out v4
                    replace v5 := Eq1.out v5
                    replace v6 := Eq1.out v6
                    replace v7 := Eq1.out v7
                    replace v8 := Eq1.out v8
                    replace v9 := Eq1.out v9
                    replace v10 := Eq1.out v10
                    replace v11 := Eq1.out v11
                    replace v12 := Eq1.out v12
                    replace v13 := Eq1.out v13
                    replace v14 := Eq1.out v14
                    replace v15 := Eq1.out v15
                    replace v16 := Eq1.out v16
                    replace v17 := Eq1.out v17
                    replace v18 := Eq1.out v18
                    replace v19 := Eq1.out v19
                    replace v20 := Eq1.out v20
                    replace v21 := Eq1.out v21
                    replace v22 := Eq1.out v22
                    replace v23 := Eq1.out v23
                    replace v24 := Eq1.out v24
                    replace v25 := Eq1.out v25
                    simp only [v0, v1, v2, v3, v4, v5, v6, v7, v8, v9, v10, v11, v12, v13, v14, v15, v16, v17, v18, v19, v20, v21, v22, v23, v24, v25, List.drop_succ_cons, List.drop_zero]
                    have H' : Hp _ _ _ := hS
                    clear hD hR hS v0 v1 v2 v3 v4 v5 v6 v7 v8 v9 v10 v11 v12 v13 v14 v15 v16 v17 v18 v19 v20 v21 v22 v23 v24 v25
                    clear vs H
                    have H := H'; clear H'; have C := Hp.facts H; simp only [Facts, factsL, and_true, true_and, List.set_cons_zero, List.set_cons_succ, List.setIfInBounds_toArray] at C
                    (repeat' ((fail_if_success (with_reducible show bodyPost _ _ _ _ _ _)); first | ((with_reducible refine Hp.abs_alloc H ?_); intro b' w' H' hb'; (try simp only [hb']); clear hb'; ((try simp only [List.set_cons_zero, List.set_cons_succ, List.setIfInBounds_toArray] at H'); clear C H; have H := H'; clear H'; have C := Hp.facts H; simp only [Facts, factsL, and_true, true_and, List.set_cons_zero, List.set_cons_succ, List.setIfInBounds_toArray] at C)) | ((with_reducible show wpList _ _ _ _ _ (World.setCell _ _ _)); (with_reducible apply Hp.abs_gen H); (first | ((repeat (with_reducible apply Hp.set' 0)); (with_reducible exact H); (repeat rfl); intro w' H') | ((repeat (with_reducible apply Hp.set' 1)); (with_reducible exact H); (repeat rfl); intro w' H') | ((repeat (with_reducible apply Hp.set' 2)); (with_reducible exact H); (repeat rfl); intro w' H') | ((repeat (with_reducible apply Hp.set' 3)); (with_reducible exact H); (repeat rfl); intro w' H') | ((repeat (with_reducible apply Hp.set' 4)); (with_reducible exact H); (repeat rfl); intro w' H') | ((repeat (with_reducible apply Hp.set' 5)); (with_reducible exact H); (repeat rfl); intro w' H') | ((repeat (with_reducible apply Hp.set' 6)); (with_reducible exact H); (repeat rfl); intro w' H') | ((repeat (with_reducible apply Hp.set' 7)); (with_reducible exact H); (repeat rfl); intro w' H')); ((try simp only [List.set_cons_zero, List.set_cons_succ, List.setIfInBounds_toArray] at H'); clear C H; have H := H'; clear H'; have C := Hp.facts H; simp only [Facts, factsL, and_true, true_and, List.set_cons_zero, List.set_cons_succ, List.setIfInBounds_toArray] at C)) | go_values | go_skip | go_guarded | go_step | go_upon | go_back | (simp only [Int.not_lt, Int.not_le] at *; go_simp) | (go_values <;> (try go_simp)) | (go_ite <;> go_prune <;> (try go_simp)) | (split <;> (first | (rename_i hx; exact (hx _ rfl).elim) | go_prune))))
                    exact ⟨ARel.mk (i + 1) false (by omega) (by go_num) rfl (fun h => by cases h) H, by simp [intOf]; omega⟩
                · skip
                  try simp (disch := omega) only [decide_eq_true, decide_eq_false]
                  obtain ⟨wR17bj, rfl⟩ := Hp.nameW H
                  apply region_n (frm wR17bj.heap.size (fun _ => Hp _ _)) (frm_ok ?hfs_11) frm_sz [] [.light 0 0, .light 0 0, .light 0 0, .light 0 0, .light 0 0, .light 0 0, .light 0 0, .light 0 0, .light 0 0, .light 0 0, .light 0 0, .light 0 0, .light 0 0, .light 0 0, .light 0 0, .light 0 0, .light 0 0, .light 0 0, .light 0 0, .light 0 0, .light 0 0, .light 0 0, .light 0 0, .light 0 0, .light 0 0, .light 0 0] [false, false, false, false, false, false, false, false, false, false, false, false, false, false, false, false, false, false, false, false, false, false, false, false, false, false] 26 103 [26, 26, 26, 26, 26, 26, 26, 26, 26, 26, 26, 26, 26, 26, 26, 26, 26, 26, 26, 26, 26, 26, 26, 26, 26, 26] [some 72, some 73, some 74, some 75, some 76, some 77, some 78, some 79, some 80, some 81, some 82, some 83, some 84, some 85, some 86, some 87, some 88, some 89, some 90, some 91, some 92, some 93, some 94, some 95, some 96, some 97] [[], [0], [1], [1, 2], [1], [1, 4], [1, 3, 5], [1, 6], [7], [8], [8, 9], [8], [8, 11], [8, 10, 12], [8, 13], [14], [15], [15], [15, 17], [15, 16, 18], [15], [15], [15, 21], [15, 20, 22], [15, 19, 23], [15, 24]] [Eq1 _, Eq1 (.bool true), Eq1 _, Eq1 _, Eq1 _, Eq1 _, Eq1 (.bool false), Eq1 _, Eq1 _, Eq1 _, Eq1 _, Eq1 _, Eq1 _, Eq1 _, Eq1 _, Eq1 _, Eq1 _, Eq1 _, Eq1 _, Eq1 _, Eq1 _, Eq1 _, Eq1 _, Eq1 _, Eq1 _, Eq1 _] ?hq1_11 ?hq2_11 ?hq3_11 ?hq4_11 ?hq5_11 ?hq6_11 _ ?hA_11 ?hst_11 ?h0_11 ?hsteps_11 ?hend_11
                  case hq1_11 => kernel_rfl
                  case hq2_11 => kernel_rfl
                  case hq3_11 => kernel_rfl
                  case hq5_11 => kernel_rfl
                  case hq4_11 => rfl
                  case hq6_11 => rfl
                  case hA_11 => intro vs; simp only [fillD, Nat.reduceAdd, Act.put, List.setIfInBounds_toArray, List.set_cons_zero, List.set_cons_succ]; rfl
                  case h0_11 => exact H.drew
                  case hfs_11 => exact fun _ _ _ hb h => Hp.step h hb
                  case hsteps_11 =>
                    refine ⟨?_, ?_, ?_, ?_, ?_, ?_, ?_, ?_, ?_, ?_, ?_, ?_, ?_, ?_, ?_, ?_, ?_, ?_, ?_, ?_, ?_, ?_, ?_, ?_, ?_, ?_, trivial⟩
                    · intro p vs w' K hJ hp1 hp2 hS hR hK
                      rw [if_pos (by rfl)]
                      go_step
                      exact hK.out _ _ (Below.refl _ _) Eq1.mk Fresh.no
                    · intro p vs w' K hJ hp1 hp2 hS hR hK
                      simp only [DepJ, List.getD_cons_zero, List.getD_cons_succ] at hJ
                      obtain ⟨j0, -⟩ := hJ
                      have j0 := Eq1.out j0
                      simp only [j0] at hK ⊢
                      rw [if_pos (by rfl)]
                      go_step
                      exact hK.out _ _ (Below.refl _ _) (Eq1.of (by first | rfl | (simp; done) | (simp; omega))) Fresh.no
                    · intro p vs w' K hJ hp1 hp2 hS hR hK
                      simp only [DepJ, List.getD_cons_zero, List.getD_cons_succ] at hJ
                      obtain ⟨j1, -⟩ := hJ
                      have j1 := Eq1.out j1
                      simp only [j1] at hK ⊢
                      rw [if_pos (by rfl)]
                      go_step
                      exact hK.out _ _ (Below.refl _ _) Eq1.mk Fresh.no
                    · intro p vs w' K hJ hp1 hp2 hS hR hK
                      simp only [DepJ, List.getD_cons_zero, List.getD_cons_succ] at hJ
                      obtain ⟨j1, j2, -⟩ := hJ
                      have j1 := Eq1.out j1
                      have j2 := Eq1.out j2
                      simp only [j1, j2] at hK ⊢
                      rw [if_pos (by rfl)]
                      have C := Hp.facts hS
                      simp only [Facts, factsL, and_true, true_and, List.set_cons_zero, List.set_cons_succ, List.setIfInBounds_toArray] at C
                      have hsz := hR.1
                      go_step
                      exact hK.out _ _ (Below.refl _ _) Eq1.mk Fresh.no
                    · intro p vs w' K hJ hp1 hp2 hS hR hK
                      simp only [DepJ, List.getD_cons_zero, List.getD_cons_succ] at hJ
                      obtain ⟨j1, -⟩ := hJ
                      have j1 := Eq1.out j1
                      simp only [j1] at hK ⊢
                      rw [if_pos (by rfl)]
                      go_step
                      exact hK.out _ _ (Below.refl _ _) Eq1.mk Fresh.no
                    · intro p vs w' K hJ hp1 hp2 hS hR hK
                      simp only [DepJ, List.getD_cons_zero, List.getD_cons_succ] at hJ
                      obtain ⟨j1, j4, -⟩ := hJ
                      have j1 := Eq1.out j1
                      have j4 := Eq1.out j4
                      simp only [j1, j4] at hK ⊢
                      rw [if_pos (by rfl)]
                      have C := Hp.facts hS
                      simp only [Facts, factsL, and_true, true_and, List.set_cons_zero, List.set_cons_succ, List.setIfInBounds_toArray] at C
                      have hsz := hR.1
                      go_step
                      exact hK.out _ _ (Below.refl _ _) Eq1.mk Fresh.no
                    · intro p vs w' K hJ hp1 hp2 hS hR hK
                      simp only [DepJ, List.getD_cons_zero, List.getD_cons_succ] at hJ
                      obtain ⟨j1, j3, j5, -⟩ := hJ
                      have j1 := Eq1.out j1
                      have j3 := Eq1.out j3
                      have j5 := Eq1.out j5
                      simp only [j1, j3, j5] at hK ⊢
                      rw [if_pos (by rfl)]
                      go_step
                      exact hK.out _ _ (Below.refl _ _) (Eq1.of (by first | rfl | (simp; done) | (simp; omega))) Fresh.no
                    · intro p vs w' K hJ hp1 hp2 hS hR hK
                      simp only [DepJ, List.getD_cons_zero, List.getD_cons_succ] at hJ
                      obtain ⟨j1, j6, -⟩ := hJ
                      have j1 := Eq1.out j1
                      have j6 := Eq1.out j6
                      simp only [j1, j6] at hK ⊢
                      rw [if_pos (by rfl)]
                      go_step
                      exact hK.out _ _ (Below.refl _ _) Eq1.mk Fresh.no
                    · intro p vs w' K hJ hp1 hp2 hS hR hK
                      simp only [DepJ, List.getD_cons_zero, List.getD_cons_succ] at hJ
                      obtain ⟨j7, -⟩ := hJ
                      have j7 := Eq1.out j7
                      simp only [j7] at hK ⊢
                      rw [if_pos (by rfl)]
                      go_step
                      exact hK.out _ _ (Below.refl _ _) Eq1.mk Fresh.no
                    · intro p vs w' K hJ hp1 hp2 hS hR hK
                      simp only [DepJ, List.getD_cons_zero, List.getD_cons_succ] at hJ
                      obtain ⟨j8, -⟩ := hJ
                      have j8 := Eq1.out j8
                      simp only [j8] at hK ⊢
                      rw [if_neg (by simp [Region.wanted, yielded, undef])]
                      exact hK.out _ _ (Below.refl _ _) Eq1.mk Fresh.no
                    · intro p vs w' K hJ hp1 hp2 hS hR hK
                      simp only [DepJ, List.getD_cons_zero, List.getD_cons_succ] at hJ
                      obtain ⟨j8, j9, -⟩ := hJ
                      have j8 := Eq1.out j8
                      have j9 := Eq1.out j9
                      simp only [j8, j9] at hK ⊢
                      rw [if_neg (by simp [Region.wanted, yielded, undef])]
                      exact hK.out _ _ (Below.refl _ _) Eq1.mk Fresh.no
                    · intro p vs w' K hJ hp1 hp2 hS hR hK
                      simp only [DepJ, List.getD_cons_zero, List.getD_cons_succ] at hJ
                      obtain ⟨j8, -⟩ := hJ
                      have j8 := Eq1.out j8
                      simp only [j8] at hK ⊢
                      rw [if_neg (by simp [Region.wanted, yielded, undef])]
                      exact hK.out _ _ (Below.refl _ _) Eq1.mk Fresh.no
                    · intro p vs w' K hJ hp1 hp2 hS hR hK
                      simp only [DepJ, List.getD_cons_zero, List.getD_cons_succ] at hJ
                      obtain ⟨j8, j11, -⟩ := hJ
                      have j8 := Eq1.out j8
                      have j11 := Eq1.out j11
                      simp only [j8, j11] at hK ⊢
                      rw [if_neg (by simp [Region.wanted, yielded, undef])]
                      exact hK.out _ _ (Below.refl _ _) Eq1.mk Fresh.no
                    · intro p vs w' K hJ hp1 hp2 hS hR hK
                      simp only [DepJ, List.getD_cons_zero, List.getD_cons_succ] at hJ
                      obtain ⟨j8, j10, j12, -⟩ := hJ
                      have j8 := Eq1.out j8
                      have j10 := Eq1.out j10
                      have j12 := Eq1.out j12
                      simp only [j8, j10, j12] at hK ⊢
                      rw [if_neg (by simp [Region.wanted, yielded, undef])]
                      exact hK.out _ _ (Below.refl _ _) Eq1.mk Fresh.no
                    · intro p vs w' K hJ hp1 hp2 hS hR hK
                      simp only [DepJ, List.getD_cons_zero, List.getD_cons_succ] at hJ
                      obtain ⟨j8, j13, -⟩ := hJ
                      have j8 := Eq1.out j8
                      have j13 := Eq1.out j13
                      simp only [j8, j13] at hK ⊢
                      rw [if_pos (by rfl)]
                      go_step
                      exact hK.out _ _ (Below.refl _ _) Eq1.mk Fresh.no
                    · intro p vs w' K hJ hp1 hp2 hS hR hK
                      simp only [DepJ, List.getD_cons_zero, List.getD_cons_succ] at hJ
                      obtain ⟨j14, -⟩ := hJ
                      have j14 := Eq1.out j14
                      simp only [j14] at hK ⊢
                      rw [if_pos (by rfl)]
                      go_step
                      exact hK.out _ _ (Below.refl _ _) Eq1.mk Fresh.no
                    · intro p vs w' K hJ hp1 hp2 hS hR hK
                      simp only [DepJ, List.getD_cons_zero, List.getD_cons_succ] at hJ
                      obtain ⟨j15, -⟩ := hJ
                      have j15 := Eq1.out j15
                      simp only [j15] at hK ⊢
                      rw [if_neg (by simp [Region.wanted, yielded, undef])]
                      exact hK.out _ _ (Below.refl _ _) Eq1.mk Fresh.no
                    · intro p vs w' K hJ hp1 hp2 hS hR hK
                      simp only [DepJ, List.getD_cons_zero, List.getD_cons_succ] at hJ
                      obtain ⟨j15, -⟩ := hJ
                      have j15 := Eq1.out j15
                      simp only [j15] at hK ⊢
                      rw [if_neg (by simp [Region.wanted, yielded, undef])]
                      exact hK.out _ _ (Below.refl _ _) Eq1.mk Fresh.no
                    · intro p vs w' K hJ hp1 hp2 hS hR hK
                      simp only [DepJ, List.getD_cons_zero, List.getD_cons_succ] at hJ
                      obtain ⟨j15, j17, -⟩ := hJ
                      have j15 := Eq1.out j15
                      have j17 := Eq1.out j17
                      simp only [j15, j17] at hK ⊢
                      rw [if_neg (by simp [Region.wanted, yielded, undef])]
                      exact hK.out _ _ (Below.refl _ _) Eq1.mk Fresh.no
                    · intro p vs w' K hJ hp1 hp2 hS hR hK
                      simp only [DepJ, List.getD_cons_zero, List.getD_cons_succ] at hJ
                      obtain ⟨j15, j16, j18, -⟩ := hJ
                      have j15 := Eq1.out j15
                      have j16 := Eq1.out j16
                      have j18 := Eq1.out j18
                      simp only [j15, j16, j18] at hK ⊢
                      rw [if_neg (by simp [Region.wanted, yielded, undef])]
                      exact hK.out _ _ (Below.refl _ _) Eq1.mk Fresh.no
                    · intro p vs w' K hJ hp1 hp2 hS hR hK
                      simp only [DepJ, List.getD_cons_zero, List.getD_cons_succ] at hJ
                      obtain ⟨j15, -⟩ := hJ
                      have j15 := Eq1.out j15
                      simp only [j15] at hK ⊢
                      rw [if_neg (by simp [Region.wanted, yielded, undef])]
                      exact hK.out _ _ (Below.refl _ _) Eq1.mk Fresh.no
                    · intro p vs w' K hJ hp1 hp2 hS hR hK
                      simp only [DepJ, List.getD_cons_zero, List.getD_cons_succ] at hJ
                      obtain ⟨j15, -⟩ := hJ
                      have j15 := Eq1.out j15
                      simp only [j15] at hK ⊢
                      rw [if_neg (by simp [Region.wanted, yielded, undef])]
                      exact hK.out _ _ (Below.refl _ _) Eq1.mk Fresh.no
                    · intro p vs w' K hJ hp1 hp2 hS hR hK
                      simp only [DepJ, List.getD_cons_zero, List.getD_cons_succ] at hJ
                      obtain ⟨j15, j21, -⟩ := hJ
                      have j15 := Eq1.out j15
                      have j21 := Eq1.out j21
                      simp only [j15, j21] at hK ⊢
                      rw [if_neg (by simp [Region.wanted, yielded, undef])]
                      exact hK.out _ _ (Below.refl _ _) Eq1.mk Fresh.no
                    · intro p vs w' K hJ hp1 hp2 hS hR hK
                      simp only [DepJ, List.getD_cons_zero, List.getD_cons_succ] at hJ
                      obtain ⟨j15, j20, j22, -⟩ := hJ
                      have j15 := Eq1.out j15
                      have j20 := Eq1.out j20
                      have j22 := Eq1.out j22
                      simp only [j15, j20, j22] at hK ⊢
                      rw [if_neg (by simp [Region.wanted, yielded, undef])]
                      exact hK.out _ _ (Below.refl _ _) Eq1.mk Fresh.no
                    · intro p vs w' K hJ hp1 hp2 hS hR hK
                      simp only [DepJ, List.getD_cons_zero, List.getD_cons_succ] at hJ
                      obtain ⟨j15, j19, j23, -⟩ := hJ
                      have j15 := Eq1.out j15
                      have j19 := Eq1.out j19
                      have j23 := Eq1.out j23
                      simp only [j15, j19, j23] at hK ⊢
                      rw [if_neg (by simp [Region.wanted, yielded, undef])]
                      exact hK.out _ _ (Below.refl _ _) Eq1.mk Fresh.no
                    · intro p vs w' K hJ hp1 hp2 hS hR hK
                      simp only [DepJ, List.getD_cons_zero, List.getD_cons_succ] at hJ
                      obtain ⟨j15, j24, -⟩ := hJ
                      have j15 := Eq1.out j15
                      have j24 := Eq1.out j24
                      simp only [j15, j24] at hK ⊢
                      rw [if_pos (by rfl)]
                      go_step
                      exact hK.out _ _ (Below.refl _ _) Eq1.mk Fresh.no
                  case hst_11 => refine ⟨fun _ _ _ _ h => h, fun _ _ _ _ h => h, fun _ _ _ _ h => h, fun _ _ _ _ h => h, fun _ _ _ _ h => h, fun _ _ _ _ h => h, fun _ _ _ _ h => h, fun _ _ _ _ h => h, fun _ _ _ _ h => h, fun _ _ _ _ h => h, fun _ _ _ _ h => h, fun _ _ _ _ h => h, fun _ _ _ _ h => h, fun _ _ _ _ h => h, fun _ _ _ _ h => h, fun _ _ _ _ h => h, fun _ _ _ _ h => h, fun _ _ _ _ h => h, fun _ _ _ _ h => h, fun _ _ _ _ h => h, fun _ _ _ _ h => h, fun _ _ _ _ h => h, fun _ _ _ _ h => h, fun _ _ _ _ h => h, fun _ _ _ _ h => h, fun _ _ _ _ h => h, trivial⟩
                  intro vs w' hJ hD hS hR
                  simp only [AllJ, Nat.reduceAdd] at hJ
                  obtain ⟨v0, v1, v2, v3, v4, v5, v6, v7, v8, v9, v10, v11, v12, v13, v14, v15, v16, v17, v18, v19, v20, v21, v22, v23, v24, v25, -⟩ := hJ
                  clear C
                  replace v0 := Eq1.out v0
                  replace v1 := Eq1.out v1
                  replace v2 := Eq1.out v2
                  replace v3 := Eq1.out v3
                  replace v4 := Eq1.out v4
                  replace v5 := Eq1.out v5
                  replace v6 := Eq1.out v6
                  replace v7 := Eq1.out v7
                  replace v8 := Eq1.out v8
                  replace v9 := Eq1.out v9
                  replace v10 := Eq1.out v10
                  replace v11 := Eq1.out v11
                  replace v12 := Eq1.out v12
                  replace v13 := Eq1.out v13
                  replace v14 := Eq1.out v14
                  replace v15 := Eq1.out v15
                  replace v16 := Eq1.out v16
                  replace v17 := Eq1.out v17
                  replace v18 := Eq1.out v18
                  replace v19 := Eq1.out v19
                  replace v20 := Eq1.out v20
                  replace v21 := Eq1.out v21
                  replace v22 := Eq1.out v22
                  replace v23 := Eq1.out v23
                  replace v24 := Eq1.out v24
                  replace v25 := Eq1.out v25
                  simp only [v0, v1, v2, v3, v4, v5, v6, v7, v8, v9, v10, v11, v12, v13, v14, v15, v16, v17, v18, v19, v20, v21, v22, v23, v24, v25, List.drop_succ_cons, List.drop_zero]
                  have H' : Hp _ _ _ := hS
                  clear hD hR hS v0 v1 v2 v3 v4 v5 v6 v7 v8 v9 v10 v11 v12 v13 v14 v15 v16 v17 v18 v19 v20 v21 v22 v23 v24 v25
                  clear vs H
                  have H := H'; clear H'; have C := Hp.facts H; simp only [Facts, factsL, and_true, true_and, List.set_cons_zero, List.set_cons_succ, List.setIfInBounds_toArray] at C
                  (repeat' ((fail_if_success (with_reducible show bodyPost _ _ _ _ _ _)); first | ((with_reducible refine Hp.abs_alloc H ?_); intro b' w' H' hb'; (try simp only [hb']); clear hb'; ((try simp only [List.set_cons_zero, List.set_cons_succ, List.setIfInBounds_toArray] at H'); clear C H; have H := H'; clear H'; have C := Hp.facts H; simp only [Facts, factsL, and_true, true_and, List.set_cons_zero, List.set_cons_succ, List.setIfInBounds_toArray] at C)) | ((with_reducible show wpList _ _ _ _ _ (World.setCell _ _ _)); (with_reducible apply Hp.abs_gen H); (first | ((repeat (with_reducible apply Hp.set' 0)); (with_reducible exact H); (repeat rfl); intro w' H') | ((repeat (with_reducible apply Hp.set' 1)); (with_reducible exact H); (repeat rfl); intro w' H') | ((repeat (with_reducible apply Hp.set' 2)); (with_reducible exact H); (repeat rfl); intro w' H') | ((repeat (with_reducible apply Hp.set' 3)); (with_reducible exact H); (repeat rfl); intro w' H') | ((repeat (with_reducible apply Hp.set' 4)); (with_reducible exact H); (repeat rfl); intro w' H') | ((repeat (with_reducible apply Hp.set' 5)); (with_reducible exact H); (repeat rfl); intro w' H') | ((repeat (with_reducible apply Hp.set' 6)); (with_reducible exact H); (repeat rfl); intro w' H') | ((repeat (with_reducible apply Hp.set' 7)); (with_reducible exact H); (repeat rfl); intro w' H')); ((try simp only [List.set_cons_zero, List.set_cons_succ, List.setIfInBounds_toArray] at H'); clear C H; have H := H'; clear H'; have C := Hp.facts H; simp only [Facts, factsL, and_true, true_and, List.set_cons_zero, List.set_cons_succ, List.setIfInBounds_toArray] at C)) | go_values | go_skip | go_guarded | go_step | go_upon | go_back | (simp only [Int.not_lt, Int.not_le] at *; go_simp) | (go_values <;> (try go_simp)) | (go_ite <;> go_prune <;> (try go_simp)) | (split <;> (first | (rename_i hx; exact (hx _ rfl).elim) | go_prune))))
                  exact ⟨ARel.mk (i + 1) false (by omega) (by go_num) rfl (fun h => by cases h) H, by simp [intOf]; omega⟩
            · obtain rfl : i = M.length := by omega
              have hb0 : bb = false := by
                cases bb with
                | false => rfl
                | true =>
                  exfalso
                  have hl := gls.out
                  exact gno.out hp2 (by have := hup.out rfl; rwa [← hl] at this)
              subst hb0
              (repeat' ((fail_if_success (with_reducible show bodyPost _ _ _ _ _ _)); first | ((with_reducible refine Hp.abs_alloc H ?_); intro b' w' H' hb'; (try simp only [hb']); clear hb'; ((try simp only [List.set_cons_zero, List.set_cons_succ, List.setIfInBounds_toArray] at H'); clear C H; have H := H'; clear H'; have C := Hp.facts H; simp only [Facts, factsL, and_true, true_and, List.set_cons_zero, List.set_cons_succ, List.setIfInBounds_toArray] at C)) | ((with_reducible show wpList _ _ _ _ _ (World.setCell _ _ _)); (with_reducible apply Hp.abs_gen H); (first | ((repeat (with_reducible apply Hp.set' 0)); (with_reducible exact H); (repeat rfl); intro w' H') | ((repeat (with_reducible apply Hp.set' 1)); (with_reducible exact H); (repeat rfl); intro w' H') | ((repeat (with_reducible apply Hp.set' 2)); (with_reducible exact H); (repeat rfl); intro w' H') | ((repeat (with_reducible apply Hp.set' 3)); (with_reducible exact H); (repeat rfl); intro w' H') | ((repeat (with_reducible apply Hp.set' 4)); (with_reducible exact H); (repeat rfl); intro w' H') | ((repeat (with_reducible apply Hp.set' 5)); (with_reducible exact H); (repeat rfl); intro w' H') | ((repeat (with_reducible apply Hp.set' 6)); (with_reducible exact H); (repeat rfl); intro w' H') | ((repeat (with_reducible apply Hp.set' 7)); (with_reducible exact H); (repeat rfl); intro w' H')); ((try simp only [List.set_cons_zero, List.set_cons_succ, List.setIfInBounds_toArray] at H'); clear C H; have H := H'; clear H'; have C := Hp.facts H; simp only [Facts, factsL, and_true, true_and, List.set_cons_zero, List.set_cons_succ, List.setIfInBounds_toArray] at C)) | (go_at_call 14; refine (known13_any _ (hT.below H.low)).mono ?_; rintro e' w' ⟨rfl, hb'⟩; (have H' := Hp.step H hb'; clear hb'; ((try simp only [List.set_cons_zero, List.set_cons_succ, List.setIfInBounds_toArray] at H'); clear C H; have H := H'; clear H'; have C := Hp.facts H; simp only [Facts, factsL, and_true, true_and, List.set_cons_zero, List.set_cons_succ, List.setIfInBounds_toArray] at C))) | go_values | go_skip | go_guarded | go_step | go_upon | go_back | (simp only [Int.not_lt, Int.not_le] at *; go_simp) | (go_values <;> (try go_simp)) | (go_ite <;> go_prune <;> (try go_simp)) | (split <;> (first | (rename_i hx; exact (hx _ rfl).elim) | go_prune))))
              go_ret
              exact ⟨rfl, H.low⟩
end Go.Proofs.YtmmjghdobdendaaDoor

