/- Lemmas and walks on the way to the seat's laws; each theorem says its own conditions. -/
import Derived.Test.YtogliinfdfkobaaO5
set_option linter.unusedSimpArgs false
set_option linter.unusedVariables false
set_option linter.unusedSimpArgs false
set_option linter.unusedVariables false
set_option maxRecDepth 100000
namespace Go.Proofs.Ytogliinfdfkobaa
open Go.RowKit Go.Mem Go.Reg Oct
set_option maxHeartbeats 4000000 in
theorem rcompare_any (l m : List UInt8) (v u : Value) (w : World) (hb : Bs w v l) (hd : Bs w u m) (hl : l.length ≤ 1000000) (hm : m.length ≤ 1000000) :
    Calls Try.prog 40 #[v, u] w fun e w' => e = .returned (.int .i64 (cmpL l m)) ∧ Below w.heap.size w w' := by
  obtain ⟨A, c, rfl, hlc, hcm, hA, hcell⟩ := hb.open
  obtain ⟨A2, c2, rfl, hlc2, hcm2, hA2, hcell2⟩ := hd.open
  have H := Hp.start w
  have C : True := trivial
  go_enter Try.func40, Try.ntmps40
  (repeat' ((fail_if_success (with_reducible show bodyPost _ _ _ _ _ _)); first | ((with_reducible refine Hp.abs_alloc H ?_); intro b' w' H' hb'; (try simp only [hb']); clear hb'; ((try simp only [List.set_cons_zero, List.set_cons_succ, List.setIfInBounds_toArray] at H'); clear C H; have H := H'; clear H'; have C := Hp.facts H; simp only [Facts, factsL, and_true, true_and, List.set_cons_zero, List.set_cons_succ, List.setIfInBounds_toArray] at C)) | ((with_reducible show wpList _ _ _ _ _ (World.setCell _ _ _)); (with_reducible apply Hp.abs_gen H); (first | ((repeat (with_reducible apply Hp.set' 0)); (with_reducible exact H); (repeat rfl); intro w' H') | ((repeat (with_reducible apply Hp.set' 1)); (with_reducible exact H); (repeat rfl); intro w' H') | ((repeat (with_reducible apply Hp.set' 2)); (with_reducible exact H); (repeat rfl); intro w' H') | ((repeat (with_reducible apply Hp.set' 3)); (with_reducible exact H); (repeat rfl); intro w' H') | ((repeat (with_reducible apply Hp.set' 4)); (with_reducible exact H); (repeat rfl); intro w' H') | ((repeat (with_reducible apply Hp.set' 5)); (with_reducible exact H); (repeat rfl); intro w' H') | ((repeat (with_reducible apply Hp.set' 6)); (with_reducible exact H); (repeat rfl); intro w' H') | ((repeat (with_reducible apply Hp.set' 7)); (with_reducible exact H); (repeat rfl); intro w' H')); ((try simp only [List.set_cons_zero, List.set_cons_succ, List.setIfInBounds_toArray] at H'); clear C H; have H := H'; clear H'; have C := Hp.facts H; simp only [Facts, factsL, and_true, true_and, List.set_cons_zero, List.set_cons_succ, List.setIfInBounds_toArray] at C)) | go_values | go_skip | go_guarded | go_step | go_upon | go_back | (simp only [Int.not_lt, Int.not_le] at *; go_simp) | (go_values <;> (try go_simp)) | (go_ite <;> go_prune <;> (try go_simp)) | (split <;> (first | (rename_i hx; exact (hx _ rfl).elim) | go_prune))))
  go_loopw [5] (fun ix wr => ∃ n : Nat, n ≤ l.length ∧ n ≤ m.length ∧ ix = .int .i64 n ∧ Hid (l.take n = m.take n) ∧ Hp w [] wr) (fun ix _ => l.length - (intOf ix).toNat)
  case atStart => exact ⟨0, Nat.zero_le _, Nat.zero_le _, rfl, rfl, H⟩
  case round =>
    clear H C
    obtain ⟨n, n1, n2, rfl, HK, H⟩ := hrel
    have C := Hp.facts H
    simp only [Facts, factsL, and_true, true_and, List.set_cons_zero, List.set_cons_succ, List.setIfInBounds_toArray] at C
    by_cases h1 : n < l.length
    · by_cases h2 : n < m.length
      · obtain ⟨b, o, rfl, hbl, hc⟩ := hcell n h1
        obtain ⟨b2, o2, rfl, hbl2, hc2⟩ := hcell2 n h2
        have hcs : (l[n].toNat : Int) < (m[n].toNat : Int) ∨ (m[n].toNat : Int) < (l[n].toNat : Int) ∨ l[n] = m[n] := by
          have : l[n].toNat = m[n].toNat → l[n] = m[n] := UInt8.toNat_inj.1
          rcases Nat.lt_trichotomy l[n].toNat m[n].toNat with h | h | h
          · left; omega
          · right; right; exact this h
          · right; left; omega
        rcases hcs with hcs | hcs | hcs
        · have gc := Lib.hid hcs
          clear hcs
          (repeat' ((fail_if_success (with_reducible show bodyPost _ _ _ _ _ _)); first | ((with_reducible refine Hp.abs_alloc H ?_); intro b' w' H' hb'; (try simp only [hb']); clear hb'; ((try simp only [List.set_cons_zero, List.set_cons_succ, List.setIfInBounds_toArray] at H'); clear C H; have H := H'; clear H'; have C := Hp.facts H; simp only [Facts, factsL, and_true, true_and, List.set_cons_zero, List.set_cons_succ, List.setIfInBounds_toArray] at C)) | ((with_reducible show wpList _ _ _ _ _ (World.setCell _ _ _)); (with_reducible apply Hp.abs_gen H); (first | ((repeat (with_reducible apply Hp.set' 0)); (with_reducible exact H); (repeat rfl); intro w' H') | ((repeat (with_reducible apply Hp.set' 1)); (with_reducible exact H); (repeat rfl); intro w' H') | ((repeat (with_reducible apply Hp.set' 2)); (with_reducible exact H); (repeat rfl); intro w' H') | ((repeat (with_reducible apply Hp.set' 3)); (with_reducible exact H); (repeat rfl); intro w' H') | ((repeat (with_reducible apply Hp.set' 4)); (with_reducible exact H); (repeat rfl); intro w' H') | ((repeat (with_reducible apply Hp.set' 5)); (with_reducible exact H); (repeat rfl); intro w' H') | ((repeat (with_reducible apply Hp.set' 6)); (with_reducible exact H); (repeat rfl); intro w' H') | ((repeat (with_reducible apply Hp.set' 7)); (with_reducible exact H); (repeat rfl); intro w' H')); ((try simp only [List.set_cons_zero, List.set_cons_succ, List.setIfInBounds_toArray] at H'); clear C H; have H := H'; clear H'; have C := Hp.facts H; simp only [Facts, factsL, and_true, true_and, List.set_cons_zero, List.set_cons_succ, List.setIfInBounds_toArray] at C)) | go_values | go_skip | go_guarded | go_step | go_upon | go_back | (simp only [Int.not_lt, Int.not_le] at *; go_simp) | (go_values <;> (try go_simp)) | (go_ite <;> go_prune <;> (try go_simp)) | (split <;> (first | (rename_i hx; exact (hx _ rfl).elim) | go_prune))))
          refine region_b 54 [some 18, some 19, some 20, some 21, some 22, some 23, some 24, some 25, some 26, some 27, some 28, some 29, some 30, some 31, some 32, some 33, some 34, some 35, some 36, some 37, some 38] [[], [], [1], [0, 2], [3], [4], [4], [4, 6], [4, 5, 7], [4, 8], [9], [9], [9, 10, 11], [9, 12], [9], [9], [9, 14, 15], [9, 16], [9, 13, 17], [4, 9, 18], [4, 19]] [fun v _ => v = .int .i64 (n : Int), fun v _ => v = .slice (some ⟨b, o, none⟩) l.length c, fun v _ => v = .int .i64 l.length, fun v _ => v = .bool false, fun v _ => v = .bool false, fun v _ => v = .int .i64 (n : Int), fun v _ => v = .slice (some ⟨b2, o2, none⟩) m.length c2, fun v _ => v = .int .i64 m.length, fun v _ => v = .bool true, fun v _ => v = .bool true, fun v _ => v = .slice (some ⟨b, o, none⟩) l.length c, fun v _ => v = .int .i64 (n : Int), fun v _ => v = .pointer (some ⟨b, o + n, none⟩), fun v _ => v = .int .u8 (l[n].toNat : Int), fun v _ => v = .slice (some ⟨b2, o2, none⟩) m.length c2, fun v _ => v = .int .i64 (n : Int), fun v _ => v = .pointer (some ⟨b2, o2 + n, none⟩), fun v _ => v = .int .u8 (m[n].toNat : Int), fun v _ => v = .bool true, fun v _ => v = .bool true, fun v _ => v = .bool true] (by kernel_rfl) (by kernel_rfl) rfl (by kernel_rfl) rfl _ (fun vs => (by simp only [fillD, Nat.reduceAdd, Act.put, List.setIfInBounds_toArray, List.set_cons_zero, List.set_cons_succ]; rfl)) ?_ ?_ ?_
          · refine ⟨fun _ _ _ _ h => h, fun _ _ _ _ h => h, fun _ _ _ _ h => h, fun _ _ _ _ h => h, fun _ _ _ _ h => h, fun _ _ _ _ h => h, fun _ _ _ _ h => h, fun _ _ _ _ h => h, fun _ _ _ _ h => h, fun _ _ _ _ h => h, fun _ _ _ _ h => h, fun _ _ _ _ h => h, fun _ _ _ _ h => h, fun _ _ _ _ h => h, fun _ _ _ _ h => h, fun _ _ _ _ h => h, fun _ _ _ _ h => h, fun _ _ _ _ h => h, fun _ _ _ _ h => h, fun _ _ _ _ h => h, fun _ _ _ _ h => h, trivial⟩
          · refine ⟨?_, ?_, ?_, ?_, ?_, ?_, ?_, ?_, ?_, ?_, ?_, ?_, ?_, ?_, ?_, ?_, ?_, ?_, ?_, ?_, ?_, trivial⟩
            · intro vs w' K hJ hR hK
              rw [if_pos (by rfl)]
              go_step
              exact hK.out _ _ (Below.refl _ _) (rfl)
            · intro vs w' K hJ hR hK
              rw [if_pos (by rfl)]
              go_step
              exact hK.out _ _ (Below.refl _ _) (rfl)
            · intro vs w' K hJ hR hK
              simp only [DepJ, List.getD_cons_zero, List.getD_cons_succ] at hJ
              obtain ⟨j1, -⟩ := hJ
              simp only [j1] at hK ⊢
              rw [if_pos (by rfl)]
              go_step
              exact hK.out _ _ (Below.refl _ _) (rfl)
            · intro vs w' K hJ hR hK
              simp only [DepJ, List.getD_cons_zero, List.getD_cons_succ] at hJ
              obtain ⟨j0, j2, -⟩ := hJ
              simp only [j0, j2] at hK ⊢
              rw [if_pos (by rfl)]
              go_step
              exact hK.out _ _ (Below.refl _ _) (by first | (simp; done) | (simp; omega))
            · intro vs w' K hJ hR hK
              simp only [DepJ, List.getD_cons_zero, List.getD_cons_succ] at hJ
              obtain ⟨j3, -⟩ := hJ
              simp only [j3] at hK ⊢
              rw [if_pos (by rfl)]
              go_step
              exact hK.out _ _ (Below.refl _ _) (rfl)
            · intro vs w' K hJ hR hK
              simp only [DepJ, List.getD_cons_zero, List.getD_cons_succ] at hJ
              obtain ⟨j4, -⟩ := hJ
              simp only [j4] at hK ⊢
              rw [if_pos (by rfl)]
              go_step
              exact hK.out _ _ (Below.refl _ _) (rfl)
            · intro vs w' K hJ hR hK
              simp only [DepJ, List.getD_cons_zero, List.getD_cons_succ] at hJ
              obtain ⟨j4, -⟩ := hJ
              simp only [j4] at hK ⊢
              rw [if_pos (by rfl)]
              go_step
              exact hK.out _ _ (Below.refl _ _) (rfl)
            · intro vs w' K hJ hR hK
              simp only [DepJ, List.getD_cons_zero, List.getD_cons_succ] at hJ
              obtain ⟨j4, j6, -⟩ := hJ
              simp only [j4, j6] at hK ⊢
              rw [if_pos (by rfl)]
              go_step
              exact hK.out _ _ (Below.refl _ _) (rfl)
            · intro vs w' K hJ hR hK
              simp only [DepJ, List.getD_cons_zero, List.getD_cons_succ] at hJ
              obtain ⟨j4, j5, j7, -⟩ := hJ
              simp only [j4, j5, j7] at hK ⊢
              rw [if_pos (by rfl)]
              go_step
              exact hK.out _ _ (Below.refl _ _) (by first | (simp; done) | (simp; omega))
            · intro vs w' K hJ hR hK
              simp only [DepJ, List.getD_cons_zero, List.getD_cons_succ] at hJ
              obtain ⟨j4, j8, -⟩ := hJ
              simp only [j4, j8] at hK ⊢
              rw [if_pos (by rfl)]
              go_step
              exact hK.out _ _ (Below.refl _ _) (rfl)
            · intro vs w' K hJ hR hK
              simp only [DepJ, List.getD_cons_zero, List.getD_cons_succ] at hJ
              obtain ⟨j9, -⟩ := hJ
              simp only [j9] at hK ⊢
              rw [if_pos (by rfl)]
              go_step
              exact hK.out _ _ (Below.refl _ _) (rfl)
            · intro vs w' K hJ hR hK
              simp only [DepJ, List.getD_cons_zero, List.getD_cons_succ] at hJ
              obtain ⟨j9, -⟩ := hJ
              simp only [j9] at hK ⊢
              rw [if_pos (by rfl)]
              go_step
              exact hK.out _ _ (Below.refl _ _) (rfl)
            · intro vs w' K hJ hR hK
              simp only [DepJ, List.getD_cons_zero, List.getD_cons_succ] at hJ
              obtain ⟨j9, j10, j11, -⟩ := hJ
              simp only [j9, j10, j11] at hK ⊢
              rw [if_pos (by rfl)]
              go_step
              exact hK.out _ _ (Below.refl _ _) (rfl)
            · intro vs w' K hJ hR hK
              simp only [DepJ, List.getD_cons_zero, List.getD_cons_succ] at hJ
              obtain ⟨j9, j12, -⟩ := hJ
              simp only [j9, j12] at hK ⊢
              rw [if_pos (by rfl)]
              have C := Hp.facts (Hp.step H.drew hR)
              simp only [Facts, factsL, and_true, true_and, List.set_cons_zero, List.set_cons_succ, List.setIfInBounds_toArray] at C
              go_step
              exact hK.out _ _ (Below.refl _ _) rfl
            · intro vs w' K hJ hR hK
              simp only [DepJ, List.getD_cons_zero, List.getD_cons_succ] at hJ
              obtain ⟨j9, -⟩ := hJ
              simp only [j9] at hK ⊢
              rw [if_pos (by rfl)]
              go_step
              exact hK.out _ _ (Below.refl _ _) (rfl)
            · intro vs w' K hJ hR hK
              simp only [DepJ, List.getD_cons_zero, List.getD_cons_succ] at hJ
              obtain ⟨j9, -⟩ := hJ
              simp only [j9] at hK ⊢
              rw [if_pos (by rfl)]
              go_step
              exact hK.out _ _ (Below.refl _ _) (rfl)
            · intro vs w' K hJ hR hK
              simp only [DepJ, List.getD_cons_zero, List.getD_cons_succ] at hJ
              obtain ⟨j9, j14, j15, -⟩ := hJ
              simp only [j9, j14, j15] at hK ⊢
              rw [if_pos (by rfl)]
              go_step
              exact hK.out _ _ (Below.refl _ _) (rfl)
            · intro vs w' K hJ hR hK
              simp only [DepJ, List.getD_cons_zero, List.getD_cons_succ] at hJ
              obtain ⟨j9, j16, -⟩ := hJ
              simp only [j9, j16] at hK ⊢
              rw [if_pos (by rfl)]
              have C := Hp.facts (Hp.step H.drew hR)
              simp only [Facts, factsL, and_true, true_and, List.set_cons_zero, List.set_cons_succ, List.setIfInBounds_toArray] at C
              go_step
              exact hK.out _ _ (Below.refl _ _) rfl
            · intro vs w' K hJ hR hK
              simp only [DepJ, List.getD_cons_zero, List.getD_cons_succ] at hJ
              obtain ⟨j9, j13, j17, -⟩ := hJ
              simp only [j9, j13, j17] at hK ⊢
              rw [if_pos (by rfl)]
              go_step
              exact hK.out _ _ (Below.refl _ _) (by have h := gc.out; first | (simp; done) | (simp; omega))
            · intro vs w' K hJ hR hK
              simp only [DepJ, List.getD_cons_zero, List.getD_cons_succ] at hJ
              obtain ⟨j4, j9, j18, -⟩ := hJ
              simp only [j4, j9, j18] at hK ⊢
              rw [if_pos (by rfl)]
              go_step
              exact hK.out _ _ (Below.refl _ _) (rfl)
            · intro vs w' K hJ hR hK
              simp only [DepJ, List.getD_cons_zero, List.getD_cons_succ] at hJ
              obtain ⟨j4, j19, -⟩ := hJ
              simp only [j4, j19] at hK ⊢
              rw [if_pos (by rfl)]
              go_step
              exact hK.out _ _ (Below.refl _ _) (rfl)
          intro vs w' hJ hR
          simp only [AllJ, Nat.reduceAdd] at hJ
          obtain ⟨v0, v1, v2, v3, v4, v5, v6, v7, v8, v9, v10, v11, v12, v13, v14, v15, v16, v17, v18, v19, v20, -⟩ := hJ
          simp only [v20]
          have H' := Hp.step H.drew hR
          ((try simp only [List.set_cons_zero, List.set_cons_succ, List.setIfInBounds_toArray] at H'); clear C H; have H := H'; clear H'; have C := Hp.facts H; simp only [Facts, factsL, and_true, true_and, List.set_cons_zero, List.set_cons_succ, List.setIfInBounds_toArray] at C)
          clear v0 v1 v2 v3 v4 v5 v6 v7 v8 v9 v10 v11 v12 v13 v14 v15 v16 v17 v18 v19 v20
          (repeat' ((fail_if_success (with_reducible show bodyPost _ _ _ _ _ _)); first | ((with_reducible refine Hp.abs_alloc H ?_); intro b' w' H' hb'; (try simp only [hb']); clear hb'; ((try simp only [List.set_cons_zero, List.set_cons_succ, List.setIfInBounds_toArray] at H'); clear C H; have H := H'; clear H'; have C := Hp.facts H; simp only [Facts, factsL, and_true, true_and, List.set_cons_zero, List.set_cons_succ, List.setIfInBounds_toArray] at C)) | ((with_reducible show wpList _ _ _ _ _ (World.setCell _ _ _)); (with_reducible apply Hp.abs_gen H); (first | ((repeat (with_reducible apply Hp.set' 0)); (with_reducible exact H); (repeat rfl); intro w' H') | ((repeat (with_reducible apply Hp.set' 1)); (with_reducible exact H); (repeat rfl); intro w' H') | ((repeat (with_reducible apply Hp.set' 2)); (with_reducible exact H); (repeat rfl); intro w' H') | ((repeat (with_reducible apply Hp.set' 3)); (with_reducible exact H); (repeat rfl); intro w' H') | ((repeat (with_reducible apply Hp.set' 4)); (with_reducible exact H); (repeat rfl); intro w' H') | ((repeat (with_reducible apply Hp.set' 5)); (with_reducible exact H); (repeat rfl); intro w' H') | ((repeat (with_reducible apply Hp.set' 6)); (with_reducible exact H); (repeat rfl); intro w' H') | ((repeat (with_reducible apply Hp.set' 7)); (with_reducible exact H); (repeat rfl); intro w' H')); ((try simp only [List.set_cons_zero, List.set_cons_succ, List.setIfInBounds_toArray] at H'); clear C H; have H := H'; clear H'; have C := Hp.facts H; simp only [Facts, factsL, and_true, true_and, List.set_cons_zero, List.set_cons_succ, List.setIfInBounds_toArray] at C)) | go_values | go_skip | go_guarded | go_step | go_upon | go_back | (simp only [Int.not_lt, Int.not_le] at *; go_simp) | (go_values <;> (try go_simp)) | (go_ite <;> go_prune <;> (try go_simp)) | (split <;> (first | (rename_i hx; exact (hx _ rfl).elim) | go_prune))))
          go_ret
          refine ⟨ret_int ?_, H.low⟩
          have g := gc.out
          rw [cmpL_both h1 h2 HK.out, if_pos (by omega)]
        · have gc := Lib.hid hcs
          clear hcs
          (repeat' ((fail_if_success (with_reducible show bodyPost _ _ _ _ _ _)); first | ((with_reducible refine Hp.abs_alloc H ?_); intro b' w' H' hb'; (try simp only [hb']); clear hb'; ((try simp only [List.set_cons_zero, List.set_cons_succ, List.setIfInBounds_toArray] at H'); clear C H; have H := H'; clear H'; have C := Hp.facts H; simp only [Facts, factsL, and_true, true_and, List.set_cons_zero, List.set_cons_succ, List.setIfInBounds_toArray] at C)) | ((with_reducible show wpList _ _ _ _ _ (World.setCell _ _ _)); (with_reducible apply Hp.abs_gen H); (first | ((repeat (with_reducible apply Hp.set' 0)); (with_reducible exact H); (repeat rfl); intro w' H') | ((repeat (with_reducible apply Hp.set' 1)); (with_reducible exact H); (repeat rfl); intro w' H') | ((repeat (with_reducible apply Hp.set' 2)); (with_reducible exact H); (repeat rfl); intro w' H') | ((repeat (with_reducible apply Hp.set' 3)); (with_reducible exact H); (repeat rfl); intro w' H') | ((repeat (with_reducible apply Hp.set' 4)); (with_reducible exact H); (repeat rfl); intro w' H') | ((repeat (with_reducible apply Hp.set' 5)); (with_reducible exact H); (repeat rfl); intro w' H') | ((repeat (with_reducible apply Hp.set' 6)); (with_reducible exact H); (repeat rfl); intro w' H') | ((repeat (with_reducible apply Hp.set' 7)); (with_reducible exact H); (repeat rfl); intro w' H')); ((try simp only [List.set_cons_zero, List.set_cons_succ, List.setIfInBounds_toArray] at H'); clear C H; have H := H'; clear H'; have C := Hp.facts H; simp only [Facts, factsL, and_true, true_and, List.set_cons_zero, List.set_cons_succ, List.setIfInBounds_toArray] at C)) | go_values | go_skip | go_guarded | go_step | go_upon | go_back | (simp only [Int.not_lt, Int.not_le] at *; go_simp) | (go_values <;> (try go_simp)) | (go_ite <;> go_prune <;> (try go_simp)) | (split <;> (first | (rename_i hx; exact (hx _ rfl).elim) | go_prune))))
          refine region_b 54 [some 18, some 19, some 20, some 21, some 22, some 23, some 24, some 25, some 26, some 27, some 28, some 29, some 30, some 31, some 32, some 33, some 34, some 35, some 36, some 37, some 38] [[], [], [1], [0, 2], [3], [4], [4], [4, 6], [4, 5, 7], [4, 8], [9], [9], [9, 10, 11], [9, 12], [9], [9], [9, 14, 15], [9, 16], [9, 13, 17], [4, 9, 18], [4, 19]] [fun v _ => v = .int .i64 (n : Int), fun v _ => v = .slice (some ⟨b, o, none⟩) l.length c, fun v _ => v = .int .i64 l.length, fun v _ => v = .bool false, fun v _ => v = .bool false, fun v _ => v = .int .i64 (n : Int), fun v _ => v = .slice (some ⟨b2, o2, none⟩) m.length c2, fun v _ => v = .int .i64 m.length, fun v _ => v = .bool true, fun v _ => v = .bool true, fun v _ => v = .slice (some ⟨b, o, none⟩) l.length c, fun v _ => v = .int .i64 (n : Int), fun v _ => v = .pointer (some ⟨b, o + n, none⟩), fun v _ => v = .int .u8 (l[n].toNat : Int), fun v _ => v = .slice (some ⟨b2, o2, none⟩) m.length c2, fun v _ => v = .int .i64 (n : Int), fun v _ => v = .pointer (some ⟨b2, o2 + n, none⟩), fun v _ => v = .int .u8 (m[n].toNat : Int), fun v _ => v = .bool false, fun v _ => v = .bool false, fun v _ => v = .bool false] (by kernel_rfl) (by kernel_rfl) rfl (by kernel_rfl) rfl _ (fun vs => (by simp only [fillD, Nat.reduceAdd, Act.put, List.setIfInBounds_toArray, List.set_cons_zero, List.set_cons_succ]; rfl)) ?_ ?_ ?_
          · refine ⟨fun _ _ _ _ h => h, fun _ _ _ _ h => h, fun _ _ _ _ h => h, fun _ _ _ _ h => h, fun _ _ _ _ h => h, fun _ _ _ _ h => h, fun _ _ _ _ h => h, fun _ _ _ _ h => h, fun _ _ _ _ h => h, fun _ _ _ _ h => h, fun _ _ _ _ h => h, fun _ _ _ _ h => h, fun _ _ _ _ h => h, fun _ _ _ _ h => h, fun _ _ _ _ h => h, fun _ _ _ _ h => h, fun _ _ _ _ h => h, fun _ _ _ _ h => h, fun _ _ _ _ h => h, fun _ _ _ _ h => h, fun _ _ _ _ h => h, trivial⟩
          · refine ⟨?_, ?_, ?_, ?_, ?_, ?_, ?_, ?_, ?_, ?_, ?_, ?_, ?_, ?_, ?_, ?_, ?_, ?_, ?_, ?_, ?_, trivial⟩
            · intro vs w' K hJ hR hK
              rw [if_pos (by rfl)]
              go_step
              exact hK.out _ _ (Below.refl _ _) (rfl)
            · intro vs w' K hJ hR hK
              rw [if_pos (by rfl)]
              go_step
              exact hK.out _ _ (Below.refl _ _) (rfl)
            · intro vs w' K hJ hR hK
              simp only [DepJ, List.getD_cons_zero, List.getD_cons_succ] at hJ
              obtain ⟨j1, -⟩ := hJ
              simp only [j1] at hK ⊢
              rw [if_pos (by rfl)]
              go_step
              exact hK.out _ _ (Below.refl _ _) (rfl)
            · intro vs w' K hJ hR hK
              simp only [DepJ, List.getD_cons_zero, List.getD_cons_succ] at hJ
              obtain ⟨j0, j2, -⟩ := hJ
              simp only [j0, j2] at hK ⊢
              rw [if_pos (by rfl)]
              go_step
              exact hK.out _ _ (Below.refl _ _) (by first | (simp; done) | (simp; omega))
            · intro vs w' K hJ hR hK
              simp only [DepJ, List.getD_cons_zero, List.getD_cons_succ] at hJ
              obtain ⟨j3, -⟩ := hJ
              simp only [j3] at hK ⊢
              rw [if_pos (by rfl)]
              go_step
              exact hK.out _ _ (Below.refl _ _) (rfl)
            · intro vs w' K hJ hR hK
              simp only [DepJ, List.getD_cons_zero, List.getD_cons_succ] at hJ
              obtain ⟨j4, -⟩ := hJ
              simp only [j4] at hK ⊢
              rw [if_pos (by rfl)]
              go_step
              exact hK.out _ _ (Below.refl _ _) (rfl)
            · intro vs w' K hJ hR hK
              simp only [DepJ, List.getD_cons_zero, List.getD_cons_succ] at hJ
              obtain ⟨j4, -⟩ := hJ
              simp only [j4] at hK ⊢
              rw [if_pos (by rfl)]
              go_step
              exact hK.out _ _ (Below.refl _ _) (rfl)
            · intro vs w' K hJ hR hK
              simp only [DepJ, List.getD_cons_zero, List.getD_cons_succ] at hJ
              obtain ⟨j4, j6, -⟩ := hJ
              simp only [j4, j6] at hK ⊢
              rw [if_pos (by rfl)]
              go_step
              exact hK.out _ _ (Below.refl _ _) (rfl)
            · intro vs w' K hJ hR hK
              simp only [DepJ, List.getD_cons_zero, List.getD_cons_succ] at hJ
              obtain ⟨j4, j5, j7, -⟩ := hJ
              simp only [j4, j5, j7] at hK ⊢
              rw [if_pos (by rfl)]
              go_step
              exact hK.out _ _ (Below.refl _ _) (by first | (simp; done) | (simp; omega))
            · intro vs w' K hJ hR hK
              simp only [DepJ, List.getD_cons_zero, List.getD_cons_succ] at hJ
              obtain ⟨j4, j8, -⟩ := hJ
              simp only [j4, j8] at hK ⊢
              rw [if_pos (by rfl)]
              go_step
              exact hK.out _ _ (Below.refl _ _) (rfl)
            · intro vs w' K hJ hR hK
              simp only [DepJ, List.getD_cons_zero, List.getD_cons_succ] at hJ
              obtain ⟨j9, -⟩ := hJ
              simp only [j9] at hK ⊢
              rw [if_pos (by rfl)]
              go_step
              exact hK.out _ _ (Below.refl _ _) (rfl)
            · intro vs w' K hJ hR hK
              simp only [DepJ, List.getD_cons_zero, List.getD_cons_succ] at hJ
              obtain ⟨j9, -⟩ := hJ
              simp only [j9] at hK ⊢
              rw [if_pos (by rfl)]
              go_step
              exact hK.out _ _ (Below.refl _ _) (rfl)
            · intro vs w' K hJ hR hK
              simp only [DepJ, List.getD_cons_zero, List.getD_cons_succ] at hJ
              obtain ⟨j9, j10, j11, -⟩ := hJ
              simp only [j9, j10, j11] at hK ⊢
              rw [if_pos (by rfl)]
              go_step
              exact hK.out _ _ (Below.refl _ _) (rfl)
            · intro vs w' K hJ hR hK
              simp only [DepJ, List.getD_cons_zero, List.getD_cons_succ] at hJ
              obtain ⟨j9, j12, -⟩ := hJ
              simp only [j9, j12] at hK ⊢
              rw [if_pos (by rfl)]
              have C := Hp.facts (Hp.step H.drew hR)
              simp only [Facts, factsL, and_true, true_and, List.set_cons_zero, List.set_cons_succ, List.setIfInBounds_toArray] at C
              go_step
              exact hK.out _ _ (Below.refl _ _) rfl
            · intro vs w' K hJ hR hK
              simp only [DepJ, List.getD_cons_zero, List.getD_cons_succ] at hJ
              obtain ⟨j9, -⟩ := hJ
              simp only [j9] at hK ⊢
              rw [if_pos (by rfl)]
              go_step
              exact hK.out _ _ (Below.refl _ _) (rfl)
            · intro vs w' K hJ hR hK
              simp only [DepJ, List.getD_cons_zero, List.getD_cons_succ] at hJ
              obtain ⟨j9, -⟩ := hJ
              simp only [j9] at hK ⊢
              rw [if_pos (by rfl)]
              go_step
              exact hK.out _ _ (Below.refl _ _) (rfl)
            · intro vs w' K hJ hR hK
              simp only [DepJ, List.getD_cons_zero, List.getD_cons_succ] at hJ
              obtain ⟨j9, j14, j15, -⟩ := hJ
              simp only [j9, j14, j15] at hK ⊢
              rw [if_pos (by rfl)]
              go_step
              exact hK.out _ _ (Below.refl _ _) (rfl)
            · intro vs w' K hJ hR hK
              simp only [DepJ, List.getD_cons_zero, List.getD_cons_succ] at hJ
              obtain ⟨j9, j16, -⟩ := hJ
              simp only [j9, j16] at hK ⊢
              rw [if_pos (by rfl)]
              have C := Hp.facts (Hp.step H.drew hR)
              simp only [Facts, factsL, and_true, true_and, List.set_cons_zero, List.set_cons_succ, List.setIfInBounds_toArray] at C
              go_step
              exact hK.out _ _ (Below.refl _ _) rfl
            · intro vs w' K hJ hR hK
              simp only [DepJ, List.getD_cons_zero, List.getD_cons_succ] at hJ
              obtain ⟨j9, j13, j17, -⟩ := hJ
              simp only [j9, j13, j17] at hK ⊢
              rw [if_pos (by rfl)]
              go_step
              exact hK.out _ _ (Below.refl _ _) (by have h := gc.out; first | (simp; done) | (simp; omega))
            · intro vs w' K hJ hR hK
              simp only [DepJ, List.getD_cons_zero, List.getD_cons_succ] at hJ
              obtain ⟨j4, j9, j18, -⟩ := hJ
              simp only [j4, j9, j18] at hK ⊢
              rw [if_pos (by rfl)]
              go_step
              exact hK.out _ _ (Below.refl _ _) (rfl)
            · intro vs w' K hJ hR hK
              simp only [DepJ, List.getD_cons_zero, List.getD_cons_succ] at hJ
              obtain ⟨j4, j19, -⟩ := hJ
              simp only [j4, j19] at hK ⊢
              rw [if_pos (by rfl)]
              go_step
              exact hK.out _ _ (Below.refl _ _) (rfl)
          intro vs w' hJ hR
          simp only [AllJ, Nat.reduceAdd] at hJ
          obtain ⟨v0, v1, v2, v3, v4, v5, v6, v7, v8, v9, v10, v11, v12, v13, v14, v15, v16, v17, v18, v19, v20, -⟩ := hJ
          simp only [v20]
          have H' := Hp.step H.drew hR
          ((try simp only [List.set_cons_zero, List.set_cons_succ, List.setIfInBounds_toArray] at H'); clear C H; have H := H'; clear H'; have C := Hp.facts H; simp only [Facts, factsL, and_true, true_and, List.set_cons_zero, List.set_cons_succ, List.setIfInBounds_toArray] at C)
          clear v0 v1 v2 v3 v4 v5 v6 v7 v8 v9 v10 v11 v12 v13 v14 v15 v16 v17 v18 v19 v20
          (repeat' ((fail_if_success (with_reducible show bodyPost _ _ _ _ _ _)); first | ((with_reducible refine Hp.abs_alloc H ?_); intro b' w' H' hb'; (try simp only [hb']); clear hb'; ((try simp only [List.set_cons_zero, List.set_cons_succ, List.setIfInBounds_toArray] at H'); clear C H; have H := H'; clear H'; have C := Hp.facts H; simp only [Facts, factsL, and_true, true_and, List.set_cons_zero, List.set_cons_succ, List.setIfInBounds_toArray] at C)) | ((with_reducible show wpList _ _ _ _ _ (World.setCell _ _ _)); (with_reducible apply Hp.abs_gen H); (first | ((repeat (with_reducible apply Hp.set' 0)); (with_reducible exact H); (repeat rfl); intro w' H') | ((repeat (with_reducible apply Hp.set' 1)); (with_reducible exact H); (repeat rfl); intro w' H') | ((repeat (with_reducible apply Hp.set' 2)); (with_reducible exact H); (repeat rfl); intro w' H') | ((repeat (with_reducible apply Hp.set' 3)); (with_reducible exact H); (repeat rfl); intro w' H') | ((repeat (with_reducible apply Hp.set' 4)); (with_reducible exact H); (repeat rfl); intro w' H') | ((repeat (with_reducible apply Hp.set' 5)); (with_reducible exact H); (repeat rfl); intro w' H') | ((repeat (with_reducible apply Hp.set' 6)); (with_reducible exact H); (repeat rfl); intro w' H') | ((repeat (with_reducible apply Hp.set' 7)); (with_reducible exact H); (repeat rfl); intro w' H')); ((try simp only [List.set_cons_zero, List.set_cons_succ, List.setIfInBounds_toArray] at H'); clear C H; have H := H'; clear H'; have C := Hp.facts H; simp only [Facts, factsL, and_true, true_and, List.set_cons_zero, List.set_cons_succ, List.setIfInBounds_toArray] at C)) | go_values | go_skip | go_guarded | go_step | go_upon | go_back | (simp only [Int.not_lt, Int.not_le] at *; go_simp) | (go_values <;> (try go_simp)) | (go_ite <;> go_prune <;> (try go_simp)) | (split <;> (first | (rename_i hx; exact (hx _ rfl).elim) | go_prune))))
          refine region_b 54 [some 39, some 40, some 41, some 42, some 43, some 44, some 45, some 46, some 47, some 48, some 49, some 50, some 51, some 52, some 53] [[], [], [1], [0, 2], [3], [4], [4], [4, 5, 6], [4, 7], [4], [4], [4, 9, 10], [4, 11], [4, 8, 12], [4, 13]] [fun v _ => v = .int .i64 (n : Int), fun v _ => v = .slice (some ⟨b2, o2, none⟩) m.length c2, fun v _ => v = .int .i64 m.length, fun v _ => v = .bool false, fun v _ => v = .bool false, fun v _ => v = .slice (some ⟨b, o, none⟩) l.length c, fun v _ => v = .int .i64 (n : Int), fun v _ => v = .pointer (some ⟨b, o + n, none⟩), fun v _ => v = .int .u8 (l[n].toNat : Int), fun v _ => v = .slice (some ⟨b2, o2, none⟩) m.length c2, fun v _ => v = .int .i64 (n : Int), fun v _ => v = .pointer (some ⟨b2, o2 + n, none⟩), fun v _ => v = .int .u8 (m[n].toNat : Int), fun v _ => v = .bool true, fun v _ => v = .bool true] (by kernel_rfl) (by kernel_rfl) rfl (by kernel_rfl) rfl _ (fun vs => (by simp only [fillD, Nat.reduceAdd, Act.put, List.setIfInBounds_toArray, List.set_cons_zero, List.set_cons_succ]; rfl)) ?_ ?_ ?_
          · refine ⟨fun _ _ _ _ h => h, fun _ _ _ _ h => h, fun _ _ _ _ h => h, fun _ _ _ _ h => h, fun _ _ _ _ h => h, fun _ _ _ _ h => h, fun _ _ _ _ h => h, fun _ _ _ _ h => h, fun _ _ _ _ h => h, fun _ _ _ _ h => h, fun _ _ _ _ h => h, fun _ _ _ _ h => h, fun _ _ _ _ h => h, fun _ _ _ _ h => h, fun _ _ _ _ h => h, trivial⟩
          · refine ⟨?_, ?_, ?_, ?_, ?_, ?_, ?_, ?_, ?_, ?_, ?_, ?_, ?_, ?_, ?_, trivial⟩
            · intro vs w' K hJ hR hK
              rw [if_pos (by rfl)]
              go_step
              exact hK.out _ _ (Below.refl _ _) (rfl)
            · intro vs w' K hJ hR hK
              rw [if_pos (by rfl)]
              go_step
              exact hK.out _ _ (Below.refl _ _) (rfl)
            · intro vs w' K hJ hR hK
              simp only [DepJ, List.getD_cons_zero, List.getD_cons_succ] at hJ
              obtain ⟨j1, -⟩ := hJ
              simp only [j1] at hK ⊢
              rw [if_pos (by rfl)]
              go_step
              exact hK.out _ _ (Below.refl _ _) (rfl)
            · intro vs w' K hJ hR hK
              simp only [DepJ, List.getD_cons_zero, List.getD_cons_succ] at hJ
              obtain ⟨j0, j2, -⟩ := hJ
              simp only [j0, j2] at hK ⊢
              rw [if_pos (by rfl)]
              go_step
              exact hK.out _ _ (Below.refl _ _) (by first | (simp; done) | (simp; omega))
            · intro vs w' K hJ hR hK
              simp only [DepJ, List.getD_cons_zero, List.getD_cons_succ] at hJ
              obtain ⟨j3, -⟩ := hJ
              simp only [j3] at hK ⊢
              rw [if_pos (by rfl)]
              go_step
              exact hK.out _ _ (Below.refl _ _) (rfl)
            · intro vs w' K hJ hR hK
              simp only [DepJ, List.getD_cons_zero, List.getD_cons_succ] at hJ
              obtain ⟨j4, -⟩ := hJ
              simp only [j4] at hK ⊢
              rw [if_pos (by rfl)]
              go_step
              exact hK.out _ _ (Below.refl _ _) (rfl)
            · intro vs w' K hJ hR hK
              simp only [DepJ, List.getD_cons_zero, List.getD_cons_succ] at hJ
              obtain ⟨j4, -⟩ := hJ
              simp only [j4] at hK ⊢
              rw [if_pos (by rfl)]
              go_step
              exact hK.out _ _ (Below.refl _ _) (rfl)
            · intro vs w' K hJ hR hK
              simp only [DepJ, List.getD_cons_zero, List.getD_cons_succ] at hJ
              obtain ⟨j4, j5, j6, -⟩ := hJ
              simp only [j4, j5, j6] at hK ⊢
              rw [if_pos (by rfl)]
              go_step
              exact hK.out _ _ (Below.refl _ _) (rfl)
            · intro vs w' K hJ hR hK
              simp only [DepJ, List.getD_cons_zero, List.getD_cons_succ] at hJ
              obtain ⟨j4, j7, -⟩ := hJ
              simp only [j4, j7] at hK ⊢
              rw [if_pos (by rfl)]
              have C := Hp.facts (Hp.step H.drew hR)
              simp only [Facts, factsL, and_true, true_and, List.set_cons_zero, List.set_cons_succ, List.setIfInBounds_toArray] at C
              go_step
              exact hK.out _ _ (Below.refl _ _) rfl
            · intro vs w' K hJ hR hK
              simp only [DepJ, List.getD_cons_zero, List.getD_cons_succ] at hJ
              obtain ⟨j4, -⟩ := hJ
              simp only [j4] at hK ⊢
              rw [if_pos (by rfl)]
              go_step
              exact hK.out _ _ (Below.refl _ _) (rfl)
            · intro vs w' K hJ hR hK
              simp only [DepJ, List.getD_cons_zero, List.getD_cons_succ] at hJ
              obtain ⟨j4, -⟩ := hJ
              simp only [j4] at hK ⊢
              rw [if_pos (by rfl)]
              go_step
              exact hK.out _ _ (Below.refl _ _) (rfl)
            · intro vs w' K hJ hR hK
              simp only [DepJ, List.getD_cons_zero, List.getD_cons_succ] at hJ
              obtain ⟨j4, j9, j10, -⟩ := hJ
              simp only [j4, j9, j10] at hK ⊢
              rw [if_pos (by rfl)]
              go_step
              exact hK.out _ _ (Below.refl _ _) (rfl)
            · intro vs w' K hJ hR hK
              simp only [DepJ, List.getD_cons_zero, List.getD_cons_succ] at hJ
              obtain ⟨j4, j11, -⟩ := hJ
              simp only [j4, j11] at hK ⊢
              rw [if_pos (by rfl)]
              have C := Hp.facts (Hp.step H.drew hR)
              simp only [Facts, factsL, and_true, true_and, List.set_cons_zero, List.set_cons_succ, List.setIfInBounds_toArray] at C
              go_step
              exact hK.out _ _ (Below.refl _ _) rfl
            · intro vs w' K hJ hR hK
              simp only [DepJ, List.getD_cons_zero, List.getD_cons_succ] at hJ
              obtain ⟨j4, j8, j12, -⟩ := hJ
              simp only [j4, j8, j12] at hK ⊢
              rw [if_pos (by rfl)]
              go_step
              exact hK.out _ _ (Below.refl _ _) (by have h := gc.out; first | (simp; done) | (simp; omega))
            · intro vs w' K hJ hR hK
              simp only [DepJ, List.getD_cons_zero, List.getD_cons_succ] at hJ
              obtain ⟨j4, j13, -⟩ := hJ
              simp only [j4, j13] at hK ⊢
              rw [if_pos (by rfl)]
              go_step
              exact hK.out _ _ (Below.refl _ _) (rfl)
          intro vs w' hJ hR
          simp only [AllJ, Nat.reduceAdd] at hJ
          obtain ⟨v0, v1, v2, v3, v4, v5, v6, v7, v8, v9, v10, v11, v12, v13, v14, -⟩ := hJ
          simp only [v14]
          have H' := Hp.step H.drew hR
          ((try simp only [List.set_cons_zero, List.set_cons_succ, List.setIfInBounds_toArray] at H'); clear C H; have H := H'; clear H'; have C := Hp.facts H; simp only [Facts, factsL, and_true, true_and, List.set_cons_zero, List.set_cons_succ, List.setIfInBounds_toArray] at C)
          clear v0 v1 v2 v3 v4 v5 v6 v7 v8 v9 v10 v11 v12 v13 v14
          (repeat' ((fail_if_success (with_reducible show bodyPost _ _ _ _ _ _)); first | ((with_reducible refine Hp.abs_alloc H ?_); intro b' w' H' hb'; (try simp only [hb']); clear hb'; ((try simp only [List.set_cons_zero, List.set_cons_succ, List.setIfInBounds_toArray] at H'); clear C H; have H := H'; clear H'; have C := Hp.facts H; simp only [Facts, factsL, and_true, true_and, List.set_cons_zero, List.set_cons_succ, List.setIfInBounds_toArray] at C)) | ((with_reducible show wpList _ _ _ _ _ (World.setCell _ _ _)); (with_reducible apply Hp.abs_gen H); (first | ((repeat (with_reducible apply Hp.set' 0)); (with_reducible exact H); (repeat rfl); intro w' H') | ((repeat (with_reducible apply Hp.set' 1)); (with_reducible exact H); (repeat rfl); intro w' H') | ((repeat (with_reducible apply Hp.set' 2)); (with_reducible exact H); (repeat rfl); intro w' H') | ((repeat (with_reducible apply Hp.set' 3)); (with_reducible exact H); (repeat rfl); intro w' H') | ((repeat (with_reducible apply Hp.set' 4)); (with_reducible exact H); (repeat rfl); intro w' H') | ((repeat (with_reducible apply Hp.set' 5)); (with_reducible exact H); (repeat rfl); intro w' H') | ((repeat (with_reducible apply Hp.set' 6)); (with_reducible exact H); (repeat rfl); intro w' H') | ((repeat (with_reducible apply Hp.set' 7)); (with_reducible exact H); (repeat rfl); intro w' H')); ((try simp only [List.set_cons_zero, List.set_cons_succ, List.setIfInBounds_toArray] at H'); clear C H; have H := H'; clear H'; have C := Hp.facts H; simp only [Facts, factsL, and_true, true_and, List.set_cons_zero, List.set_cons_succ, List.setIfInBounds_toArray] at C)) | go_values | go_skip | go_guarded | go_step | go_upon | go_back | (simp only [Int.not_lt, Int.not_le] at *; go_simp) | (go_values <;> (try go_simp)) | (go_ite <;> go_prune <;> (try go_simp)) | (split <;> (first | (rename_i hx; exact (hx _ rfl).elim) | go_prune))))
          go_ret
          refine ⟨ret_int ?_, H.low⟩
          have g := gc.out
          rw [cmpL_both h1 h2 HK.out, if_neg (by omega), if_pos (by omega)]
        · have gc := Lib.hid hcs
          clear hcs
          (repeat' ((fail_if_success (with_reducible show bodyPost _ _ _ _ _ _)); first | ((with_reducible refine Hp.abs_alloc H ?_); intro b' w' H' hb'; (try simp only [hb']); clear hb'; ((try simp only [List.set_cons_zero, List.set_cons_succ, List.setIfInBounds_toArray] at H'); clear C H; have H := H'; clear H'; have C := Hp.facts H; simp only [Facts, factsL, and_true, true_and, List.set_cons_zero, List.set_cons_succ, List.setIfInBounds_toArray] at C)) | ((with_reducible show wpList _ _ _ _ _ (World.setCell _ _ _)); (with_reducible apply Hp.abs_gen H); (first | ((repeat (with_reducible apply Hp.set' 0)); (with_reducible exact H); (repeat rfl); intro w' H') | ((repeat (with_reducible apply Hp.set' 1)); (with_reducible exact H); (repeat rfl); intro w' H') | ((repeat (with_reducible apply Hp.set' 2)); (with_reducible exact H); (repeat rfl); intro w' H') | ((repeat (with_reducible apply Hp.set' 3)); (with_reducible exact H); (repeat rfl); intro w' H') | ((repeat (with_reducible apply Hp.set' 4)); (with_reducible exact H); (repeat rfl); intro w' H') | ((repeat (with_reducible apply Hp.set' 5)); (with_reducible exact H); (repeat rfl); intro w' H') | ((repeat (with_reducible apply Hp.set' 6)); (with_reducible exact H); (repeat rfl); intro w' H') | ((repeat (with_reducible apply Hp.set' 7)); (with_reducible exact H); (repeat rfl); intro w' H')); ((try simp only [List.set_cons_zero, List.set_cons_succ, List.setIfInBounds_toArray] at H'); clear C H; have H := H'; clear H'; have C := Hp.facts H; simp only [Facts, factsL, and_true, true_and, List.set_cons_zero, List.set_cons_succ, List.setIfInBounds_toArray] at C)) | go_values | go_skip | go_guarded | go_step | go_upon | go_back | (simp only [Int.not_lt, Int.not_le] at *; go_simp) | (go_values <;> (try go_simp)) | (go_ite <;> go_prune <;> (try go_simp)) | (split <;> (first | (rename_i hx; exact (hx _ rfl).elim) | go_prune))))
          refine region_b 54 [some 18, some 19, some 20, some 21, some 22, some 23, some 24, some 25, some 26, some 27, some 28, some 29, some 30, some 31, some 32, some 33, some 34, some 35, some 36, some 37, some 38] [[], [], [1], [0, 2], [3], [4], [4], [4, 6], [4, 5, 7], [4, 8], [9], [9], [9, 10, 11], [9, 12], [9], [9], [9, 14, 15], [9, 16], [9, 13, 17], [4, 9, 18], [4, 19]] [fun v _ => v = .int .i64 (n : Int), fun v _ => v = .slice (some ⟨b, o, none⟩) l.length c, fun v _ => v = .int .i64 l.length, fun v _ => v = .bool false, fun v _ => v = .bool false, fun v _ => v = .int .i64 (n : Int), fun v _ => v = .slice (some ⟨b2, o2, none⟩) m.length c2, fun v _ => v = .int .i64 m.length, fun v _ => v = .bool true, fun v _ => v = .bool true, fun v _ => v = .slice (some ⟨b, o, none⟩) l.length c, fun v _ => v = .int .i64 (n : Int), fun v _ => v = .pointer (some ⟨b, o + n, none⟩), fun v _ => v = .int .u8 (l[n].toNat : Int), fun v _ => v = .slice (some ⟨b2, o2, none⟩) m.length c2, fun v _ => v = .int .i64 (n : Int), fun v _ => v = .pointer (some ⟨b2, o2 + n, none⟩), fun v _ => v = .int .u8 (m[n].toNat : Int), fun v _ => v = .bool false, fun v _ => v = .bool false, fun v _ => v = .bool false] (by kernel_rfl) (by kernel_rfl) rfl (by kernel_rfl) rfl _ (fun vs => (by simp only [fillD, Nat.reduceAdd, Act.put, List.setIfInBounds_toArray, List.set_cons_zero, List.set_cons_succ]; rfl)) ?_ ?_ ?_
          · refine ⟨fun _ _ _ _ h => h, fun _ _ _ _ h => h, fun _ _ _ _ h => h, fun _ _ _ _ h => h, fun _ _ _ _ h => h, fun _ _ _ _ h => h, fun _ _ _ _ h => h, fun _ _ _ _ h => h, fun _ _ _ _ h => h, fun _ _ _ _ h => h, fun _ _ _ _ h => h, fun _ _ _ _ h => h, fun _ _ _ _ h => h, fun _ _ _ _ h => h, fun _ _ _ _ h => h, fun _ _ _ _ h => h, fun _ _ _ _ h => h, fun _ _ _ _ h => h, fun _ _ _ _ h => h, fun _ _ _ _ h => h, fun _ _ _ _ h => h, trivial⟩
          · refine ⟨?_, ?_, ?_, ?_, ?_, ?_, ?_, ?_, ?_, ?_, ?_, ?_, ?_, ?_, ?_, ?_, ?_, ?_, ?_, ?_, ?_, trivial⟩
            · intro vs w' K hJ hR hK
              rw [if_pos (by rfl)]
              go_step
              exact hK.out _ _ (Below.refl _ _) (rfl)
            · intro vs w' K hJ hR hK
              rw [if_pos (by rfl)]
              go_step
              exact hK.out _ _ (Below.refl _ _) (rfl)
            · intro vs w' K hJ hR hK
              simp only [DepJ, List.getD_cons_zero, List.getD_cons_succ] at hJ
              obtain ⟨j1, -⟩ := hJ
              simp only [j1] at hK ⊢
              rw [if_pos (by rfl)]
              go_step
              exact hK.out _ _ (Below.refl _ _) (rfl)
            · intro vs w' K hJ hR hK
              simp only [DepJ, List.getD_cons_zero, List.getD_cons_succ] at hJ
              obtain ⟨j0, j2, -⟩ := hJ
              simp only [j0, j2] at hK ⊢
              rw [if_pos (by rfl)]
              go_step
              exact hK.out _ _ (Below.refl _ _) (by first | (simp; done) | (simp; omega))
            · intro vs w' K hJ hR hK
              simp only [DepJ, List.getD_cons_zero, List.getD_cons_succ] at hJ
              obtain ⟨j3, -⟩ := hJ
              simp only [j3] at hK ⊢
              rw [if_pos (by rfl)]
              go_step
              exact hK.out _ _ (Below.refl _ _) (rfl)
            · intro vs w' K hJ hR hK
              simp only [DepJ, List.getD_cons_zero, List.getD_cons_succ] at hJ
              obtain ⟨j4, -⟩ := hJ
              simp only [j4] at hK ⊢
              rw [if_pos (by rfl)]
              go_step
              exact hK.out _ _ (Below.refl _ _) (rfl)
            · intro vs w' K hJ hR hK
              simp only [DepJ, List.getD_cons_zero, List.getD_cons_succ] at hJ
              obtain ⟨j4, -⟩ := hJ
              simp only [j4] at hK ⊢
              rw [if_pos (by rfl)]
              go_step
              exact hK.out _ _ (Below.refl _ _) (rfl)
            · intro vs w' K hJ hR hK
              simp only [DepJ, List.getD_cons_zero, List.getD_cons_succ] at hJ
              obtain ⟨j4, j6, -⟩ := hJ
              simp only [j4, j6] at hK ⊢
              rw [if_pos (by rfl)]
              go_step
              exact hK.out _ _ (Below.refl _ _) (rfl)
            · intro vs w' K hJ hR hK
              simp only [DepJ, List.getD_cons_zero, List.getD_cons_succ] at hJ
              obtain ⟨j4, j5, j7, -⟩ := hJ
              simp only [j4, j5, j7] at hK ⊢
              rw [if_pos (by rfl)]
              go_step
              exact hK.out _ _ (Below.refl _ _) (by first | (simp; done) | (simp; omega))
            · intro vs w' K hJ hR hK
              simp only [DepJ, List.getD_cons_zero, List.getD_cons_succ] at hJ
              obtain ⟨j4, j8, -⟩ := hJ
              simp only [j4, j8] at hK ⊢
              rw [if_pos (by rfl)]
              go_step
              exact hK.out _ _ (Below.refl _ _) (rfl)
            · intro vs w' K hJ hR hK
              simp only [DepJ, List.getD_cons_zero, List.getD_cons_succ] at hJ
              obtain ⟨j9, -⟩ := hJ
              simp only [j9] at hK ⊢
              rw [if_pos (by rfl)]
              go_step
              exact hK.out _ _ (Below.refl _ _) (rfl)
            · intro vs w' K hJ hR hK
              simp only [DepJ, List.getD_cons_zero, List.getD_cons_succ] at hJ
              obtain ⟨j9, -⟩ := hJ
              simp only [j9] at hK ⊢
              rw [if_pos (by rfl)]
              go_step
              exact hK.out _ _ (Below.refl _ _) (rfl)
            · intro vs w' K hJ hR hK
              simp only [DepJ, List.getD_cons_zero, List.getD_cons_succ] at hJ
              obtain ⟨j9, j10, j11, -⟩ := hJ
              simp only [j9, j10, j11] at hK ⊢
              rw [if_pos (by rfl)]
              go_step
              exact hK.out _ _ (Below.refl _ _) (rfl)
            · intro vs w' K hJ hR hK
              simp only [DepJ, List.getD_cons_zero, List.getD_cons_succ] at hJ
              obtain ⟨j9, j12, -⟩ := hJ
              simp only [j9, j12] at hK ⊢
              rw [if_pos (by rfl)]
              have C := Hp.facts (Hp.step H.drew hR)
              simp only [Facts, factsL, and_true, true_and, List.set_cons_zero, List.set_cons_succ, List.setIfInBounds_toArray] at C
              go_step
              exact hK.out _ _ (Below.refl _ _) rfl
            · intro vs w' K hJ hR hK
              simp only [DepJ, List.getD_cons_zero, List.getD_cons_succ] at hJ
              obtain ⟨j9, -⟩ := hJ
              simp only [j9] at hK ⊢
              rw [if_pos (by rfl)]
              go_step
              exact hK.out _ _ (Below.refl _ _) (rfl)
            · intro vs w' K hJ hR hK
              simp only [DepJ, List.getD_cons_zero, List.getD_cons_succ] at hJ
              obtain ⟨j9, -⟩ := hJ
              simp only [j9] at hK ⊢
              rw [if_pos (by rfl)]
              go_step
              exact hK.out _ _ (Below.refl _ _) (rfl)
            · intro vs w' K hJ hR hK
              simp only [DepJ, List.getD_cons_zero, List.getD_cons_succ] at hJ
              obtain ⟨j9, j14, j15, -⟩ := hJ
              simp only [j9, j14, j15] at hK ⊢
              rw [if_pos (by rfl)]
              go_step
              exact hK.out _ _ (Below.refl _ _) (rfl)
            · intro vs w' K hJ hR hK
              simp only [DepJ, List.getD_cons_zero, List.getD_cons_succ] at hJ
              obtain ⟨j9, j16, -⟩ := hJ
              simp only [j9, j16] at hK ⊢
              rw [if_pos (by rfl)]
              have C := Hp.facts (Hp.step H.drew hR)
              simp only [Facts, factsL, and_true, true_and, List.set_cons_zero, List.set_cons_succ, List.setIfInBounds_toArray] at C
              go_step
              exact hK.out _ _ (Below.refl _ _) rfl
            · intro vs w' K hJ hR hK
              simp only [DepJ, List.getD_cons_zero, List.getD_cons_succ] at hJ
              obtain ⟨j9, j13, j17, -⟩ := hJ
              simp only [j9, j13, j17] at hK ⊢
              rw [if_pos (by rfl)]
              go_step
              exact hK.out _ _ (Below.refl _ _) (by rw [gc.out]; simp)
            · intro vs w' K hJ hR hK
              simp only [DepJ, List.getD_cons_zero, List.getD_cons_succ] at hJ
              obtain ⟨j4, j9, j18, -⟩ := hJ
              simp only [j4, j9, j18] at hK ⊢
              rw [if_pos (by rfl)]
              go_step
              exact hK.out _ _ (Below.refl _ _) (rfl)
            · intro vs w' K hJ hR hK
              simp only [DepJ, List.getD_cons_zero, List.getD_cons_succ] at hJ
              obtain ⟨j4, j19, -⟩ := hJ
              simp only [j4, j19] at hK ⊢
              rw [if_pos (by rfl)]
              go_step
              exact hK.out _ _ (Below.refl _ _) (rfl)
          intro vs w' hJ hR
          simp only [AllJ, Nat.reduceAdd] at hJ
          obtain ⟨v0, v1, v2, v3, v4, v5, v6, v7, v8, v9, v10, v11, v12, v13, v14, v15, v16, v17, v18, v19, v20, -⟩ := hJ
          simp only [v20]
          have H' := Hp.step H.drew hR
          ((try simp only [List.set_cons_zero, List.set_cons_succ, List.setIfInBounds_toArray] at H'); clear C H; have H := H'; clear H'; have C := Hp.facts H; simp only [Facts, factsL, and_true, true_and, List.set_cons_zero, List.set_cons_succ, List.setIfInBounds_toArray] at C)
          clear v0 v1 v2 v3 v4 v5 v6 v7 v8 v9 v10 v11 v12 v13 v14 v15 v16 v17 v18 v19 v20
          (repeat' ((fail_if_success (with_reducible show bodyPost _ _ _ _ _ _)); first | ((with_reducible refine Hp.abs_alloc H ?_); intro b' w' H' hb'; (try simp only [hb']); clear hb'; ((try simp only [List.set_cons_zero, List.set_cons_succ, List.setIfInBounds_toArray] at H'); clear C H; have H := H'; clear H'; have C := Hp.facts H; simp only [Facts, factsL, and_true, true_and, List.set_cons_zero, List.set_cons_succ, List.setIfInBounds_toArray] at C)) | ((with_reducible show wpList _ _ _ _ _ (World.setCell _ _ _)); (with_reducible apply Hp.abs_gen H); (first | ((repeat (with_reducible apply Hp.set' 0)); (with_reducible exact H); (repeat rfl); intro w' H') | ((repeat (with_reducible apply Hp.set' 1)); (with_reducible exact H); (repeat rfl); intro w' H') | ((repeat (with_reducible apply Hp.set' 2)); (with_reducible exact H); (repeat rfl); intro w' H') | ((repeat (with_reducible apply Hp.set' 3)); (with_reducible exact H); (repeat rfl); intro w' H') | ((repeat (with_reducible apply Hp.set' 4)); (with_reducible exact H); (repeat rfl); intro w' H') | ((repeat (with_reducible apply Hp.set' 5)); (with_reducible exact H); (repeat rfl); intro w' H') | ((repeat (with_reducible apply Hp.set' 6)); (with_reducible exact H); (repeat rfl); intro w' H') | ((repeat (with_reducible apply Hp.set' 7)); (with_reducible exact H); (repeat rfl); intro w' H')); ((try simp only [List.set_cons_zero, List.set_cons_succ, List.setIfInBounds_toArray] at H'); clear C H; have H := H'; clear H'; have C := Hp.facts H; simp only [Facts, factsL, and_true, true_and, List.set_cons_zero, List.set_cons_succ, List.setIfInBounds_toArray] at C)) | go_values | go_skip | go_guarded | go_step | go_upon | go_back | (simp only [Int.not_lt, Int.not_le] at *; go_simp) | (go_values <;> (try go_simp)) | (go_ite <;> go_prune <;> (try go_simp)) | (split <;> (first | (rename_i hx; exact (hx _ rfl).elim) | go_prune))))
          refine region_b 54 [some 39, some 40, some 41, some 42, some 43, some 44, some 45, some 46, some 47, some 48, some 49, some 50, some 51, some 52, some 53] [[], [], [1], [0, 2], [3], [4], [4], [4, 5, 6], [4, 7], [4], [4], [4, 9, 10], [4, 11], [4, 8, 12], [4, 13]] [fun v _ => v = .int .i64 (n : Int), fun v _ => v = .slice (some ⟨b2, o2, none⟩) m.length c2, fun v _ => v = .int .i64 m.length, fun v _ => v = .bool false, fun v _ => v = .bool false, fun v _ => v = .slice (some ⟨b, o, none⟩) l.length c, fun v _ => v = .int .i64 (n : Int), fun v _ => v = .pointer (some ⟨b, o + n, none⟩), fun v _ => v = .int .u8 (l[n].toNat : Int), fun v _ => v = .slice (some ⟨b2, o2, none⟩) m.length c2, fun v _ => v = .int .i64 (n : Int), fun v _ => v = .pointer (some ⟨b2, o2 + n, none⟩), fun v _ => v = .int .u8 (m[n].toNat : Int), fun v _ => v = .bool false, fun v _ => v = .bool false] (by kernel_rfl) (by kernel_rfl) rfl (by kernel_rfl) rfl _ (fun vs => (by simp only [fillD, Nat.reduceAdd, Act.put, List.setIfInBounds_toArray, List.set_cons_zero, List.set_cons_succ]; rfl)) ?_ ?_ ?_
          · refine ⟨fun _ _ _ _ h => h, fun _ _ _ _ h => h, fun _ _ _ _ h => h, fun _ _ _ _ h => h, fun _ _ _ _ h => h, fun _ _ _ _ h => h, fun _ _ _ _ h => h, fun _ _ _ _ h => h, fun _ _ _ _ h => h, fun _ _ _ _ h => h, fun _ _ _ _ h => h, fun _ _ _ _ h => h, fun _ _ _ _ h => h, fun _ _ _ _ h => h, fun _ _ _ _ h => h, trivial⟩
          · refine ⟨?_, ?_, ?_, ?_, ?_, ?_, ?_, ?_, ?_, ?_, ?_, ?_, ?_, ?_, ?_, trivial⟩
            · intro vs w' K hJ hR hK
              rw [if_pos (by rfl)]
              go_step
              exact hK.out _ _ (Below.refl _ _) (rfl)
            · intro vs w' K hJ hR hK
              rw [if_pos (by rfl)]
              go_step
              exact hK.out _ _ (Below.refl _ _) (rfl)
            · intro vs w' K hJ hR hK
              simp only [DepJ, List.getD_cons_zero, List.getD_cons_succ] at hJ
              obtain ⟨j1, -⟩ := hJ
              simp only [j1] at hK ⊢
              rw [if_pos (by rfl)]
              go_step
              exact hK.out _ _ (Below.refl _ _) (rfl)
            · intro vs w' K hJ hR hK
              simp only [DepJ, List.getD_cons_zero, List.getD_cons_succ] at hJ
              obtain ⟨j0, j2, -⟩ := hJ
              simp only [j0, j2] at hK ⊢
              rw [if_pos (by rfl)]
              go_step
              exact hK.out _ _ (Below.refl _ _) (by first | (simp; done) | (simp; omega))
            · intro vs w' K hJ hR hK
              simp only [DepJ, List.getD_cons_zero, List.getD_cons_succ] at hJ
              obtain ⟨j3, -⟩ := hJ
              simp only [j3] at hK ⊢
              rw [if_pos (by rfl)]
              go_step
              exact hK.out _ _ (Below.refl _ _) (rfl)
            · intro vs w' K hJ hR hK
              simp only [DepJ, List.getD_cons_zero, List.getD_cons_succ] at hJ
              obtain ⟨j4, -⟩ := hJ
              simp only [j4] at hK ⊢
              rw [if_pos (by rfl)]
              go_step
              exact hK.out _ _ (Below.refl _ _) (rfl)
            · intro vs w' K hJ hR hK
              simp only [DepJ, List.getD_cons_zero, List.getD_cons_succ] at hJ
              obtain ⟨j4, -⟩ := hJ
              simp only [j4] at hK ⊢
              rw [if_pos (by rfl)]
              go_step
              exact hK.out _ _ (Below.refl _ _) (rfl)
            · intro vs w' K hJ hR hK
              simp only [DepJ, List.getD_cons_zero, List.getD_cons_succ] at hJ
              obtain ⟨j4, j5, j6, -⟩ := hJ
              simp only [j4, j5, j6] at hK ⊢
              rw [if_pos (by rfl)]
              go_step
              exact hK.out _ _ (Below.refl _ _) (rfl)
            · intro vs w' K hJ hR hK
              simp only [DepJ, List.getD_cons_zero, List.getD_cons_succ] at hJ
              obtain ⟨j4, j7, -⟩ := hJ
              simp only [j4, j7] at hK ⊢
              rw [if_pos (by rfl)]
              have C := Hp.facts (Hp.step H.drew hR)
              simp only [Facts, factsL, and_true, true_and, List.set_cons_zero, List.set_cons_succ, List.setIfInBounds_toArray] at C
              go_step
              exact hK.out _ _ (Below.refl _ _) rfl
            · intro vs w' K hJ hR hK
              simp only [DepJ, List.getD_cons_zero, List.getD_cons_succ] at hJ
              obtain ⟨j4, -⟩ := hJ
              simp only [j4] at hK ⊢
              rw [if_pos (by rfl)]
              go_step
              exact hK.out _ _ (Below.refl _ _) (rfl)
            · intro vs w' K hJ hR hK
              simp only [DepJ, List.getD_cons_zero, List.getD_cons_succ] at hJ
              obtain ⟨j4, -⟩ := hJ
              simp only [j4] at hK ⊢
              rw [if_pos (by rfl)]
              go_step
              exact hK.out _ _ (Below.refl _ _) (rfl)
            · intro vs w' K hJ hR hK
              simp only [DepJ, List.getD_cons_zero, List.getD_cons_succ] at hJ
              obtain ⟨j4, j9, j10, -⟩ := hJ
              simp only [j4, j9, j10] at hK ⊢
              rw [if_pos (by rfl)]
              go_step
              exact hK.out _ _ (Below.refl _ _) (rfl)
            · intro vs w' K hJ hR hK
              simp only [DepJ, List.getD_cons_zero, List.getD_cons_succ] at hJ
              obtain ⟨j4, j11, -⟩ := hJ
              simp only [j4, j11] at hK ⊢
              rw [if_pos (by rfl)]
              have C := Hp.facts (Hp.step H.drew hR)
              simp only [Facts, factsL, and_true, true_and, List.set_cons_zero, List.set_cons_succ, List.setIfInBounds_toArray] at C
              go_step
              exact hK.out _ _ (Below.refl _ _) rfl
            · intro vs w' K hJ hR hK
              simp only [DepJ, List.getD_cons_zero, List.getD_cons_succ] at hJ
              obtain ⟨j4, j8, j12, -⟩ := hJ
              simp only [j4, j8, j12] at hK ⊢
              rw [if_pos (by rfl)]
              go_step
              exact hK.out _ _ (Below.refl _ _) (by rw [gc.out]; simp)
            · intro vs w' K hJ hR hK
              simp only [DepJ, List.getD_cons_zero, List.getD_cons_succ] at hJ
              obtain ⟨j4, j13, -⟩ := hJ
              simp only [j4, j13] at hK ⊢
              rw [if_pos (by rfl)]
              go_step
              exact hK.out _ _ (Below.refl _ _) (rfl)
          intro vs w' hJ hR
          simp only [AllJ, Nat.reduceAdd] at hJ
          obtain ⟨v0, v1, v2, v3, v4, v5, v6, v7, v8, v9, v10, v11, v12, v13, v14, -⟩ := hJ
          simp only [v14]
          have H' := Hp.step H.drew hR
          ((try simp only [List.set_cons_zero, List.set_cons_succ, List.setIfInBounds_toArray] at H'); clear C H; have H := H'; clear H'; have C := Hp.facts H; simp only [Facts, factsL, and_true, true_and, List.set_cons_zero, List.set_cons_succ, List.setIfInBounds_toArray] at C)
          clear v0 v1 v2 v3 v4 v5 v6 v7 v8 v9 v10 v11 v12 v13 v14
          (repeat' ((fail_if_success (with_reducible show bodyPost _ _ _ _ _ _)); first | ((with_reducible refine Hp.abs_alloc H ?_); intro b' w' H' hb'; (try simp only [hb']); clear hb'; ((try simp only [List.set_cons_zero, List.set_cons_succ, List.setIfInBounds_toArray] at H'); clear C H; have H := H'; clear H'; have C := Hp.facts H; simp only [Facts, factsL, and_true, true_and, List.set_cons_zero, List.set_cons_succ, List.setIfInBounds_toArray] at C)) | ((with_reducible show wpList _ _ _ _ _ (World.setCell _ _ _)); (with_reducible apply Hp.abs_gen H); (first | ((repeat (with_reducible apply Hp.set' 0)); (with_reducible exact H); (repeat rfl); intro w' H') | ((repeat (with_reducible apply Hp.set' 1)); (with_reducible exact H); (repeat rfl); intro w' H') | ((repeat (with_reducible apply Hp.set' 2)); (with_reducible exact H); (repeat rfl); intro w' H') | ((repeat (with_reducible apply Hp.set' 3)); (with_reducible exact H); (repeat rfl); intro w' H') | ((repeat (with_reducible apply Hp.set' 4)); (with_reducible exact H); (repeat rfl); intro w' H') | ((repeat (with_reducible apply Hp.set' 5)); (with_reducible exact H); (repeat rfl); intro w' H') | ((repeat (with_reducible apply Hp.set' 6)); (with_reducible exact H); (repeat rfl); intro w' H') | ((repeat (with_reducible apply Hp.set' 7)); (with_reducible exact H); (repeat rfl); intro w' H')); ((try simp only [List.set_cons_zero, List.set_cons_succ, List.setIfInBounds_toArray] at H'); clear C H; have H := H'; clear H'; have C := Hp.facts H; simp only [Facts, factsL, and_true, true_and, List.set_cons_zero, List.set_cons_succ, List.setIfInBounds_toArray] at C)) | go_values | go_skip | go_guarded | go_step | go_upon | go_back | (simp only [Int.not_lt, Int.not_le] at *; go_simp) | (go_values <;> (try go_simp)) | (go_ite <;> go_prune <;> (try go_simp)) | (split <;> (first | (rename_i hx; exact (hx _ rfl).elim) | go_prune))))
          exact ⟨⟨n + 1, by omega, by omega, by go_num, take_alike l m n h1 h2 HK.out gc.out, H⟩, by simp [intOf]; omega⟩
      · obtain ⟨b, o, rfl, hbl, hc⟩ := hcell n h1
        (repeat' ((fail_if_success (with_reducible show bodyPost _ _ _ _ _ _)); first | ((with_reducible refine Hp.abs_alloc H ?_); intro b' w' H' hb'; (try simp only [hb']); clear hb'; ((try simp only [List.set_cons_zero, List.set_cons_succ, List.setIfInBounds_toArray] at H'); clear C H; have H := H'; clear H'; have C := Hp.facts H; simp only [Facts, factsL, and_true, true_and, List.set_cons_zero, List.set_cons_succ, List.setIfInBounds_toArray] at C)) | ((with_reducible show wpList _ _ _ _ _ (World.setCell _ _ _)); (with_reducible apply Hp.abs_gen H); (first | ((repeat (with_reducible apply Hp.set' 0)); (with_reducible exact H); (repeat rfl); intro w' H') | ((repeat (with_reducible apply Hp.set' 1)); (with_reducible exact H); (repeat rfl); intro w' H') | ((repeat (with_reducible apply Hp.set' 2)); (with_reducible exact H); (repeat rfl); intro w' H') | ((repeat (with_reducible apply Hp.set' 3)); (with_reducible exact H); (repeat rfl); intro w' H') | ((repeat (with_reducible apply Hp.set' 4)); (with_reducible exact H); (repeat rfl); intro w' H') | ((repeat (with_reducible apply Hp.set' 5)); (with_reducible exact H); (repeat rfl); intro w' H') | ((repeat (with_reducible apply Hp.set' 6)); (with_reducible exact H); (repeat rfl); intro w' H') | ((repeat (with_reducible apply Hp.set' 7)); (with_reducible exact H); (repeat rfl); intro w' H')); ((try simp only [List.set_cons_zero, List.set_cons_succ, List.setIfInBounds_toArray] at H'); clear C H; have H := H'; clear H'; have C := Hp.facts H; simp only [Facts, factsL, and_true, true_and, List.set_cons_zero, List.set_cons_succ, List.setIfInBounds_toArray] at C)) | go_values | go_skip | go_guarded | go_step | go_upon | go_back | (simp only [Int.not_lt, Int.not_le] at *; go_simp) | (go_values <;> (try go_simp)) | (go_ite <;> go_prune <;> (try go_simp)) | (split <;> (first | (rename_i hx; exact (hx _ rfl).elim) | go_prune))))
        refine region_b 54 [some 18, some 19, some 20, some 21, some 22, some 23, some 24, some 25, some 26, some 27, some 28, some 29, some 30, some 31, some 32, some 33, some 34, some 35, some 36, some 37, some 38] [[], [], [1], [0, 2], [3], [4], [4], [4, 6], [4, 5, 7], [4, 8], [9], [9], [9, 10, 11], [9, 12], [9], [9], [9, 14, 15], [9, 16], [9, 13, 17], [4, 9, 18], [4, 19]] [fun v _ => v = .int .i64 (n : Int), fun v _ => v = .slice (some ⟨b, o, none⟩) l.length c, fun v _ => v = .int .i64 l.length, fun v _ => v = .bool false, fun v _ => v = .bool false, fun v _ => v = .int .i64 (n : Int), fun v _ => v = .slice A2 m.length c2, fun v _ => v = .int .i64 m.length, fun v _ => v = .bool false, fun v _ => v = .bool false, fun v _ => v = undef, fun v _ => v = undef, fun v _ => v = undef, fun v _ => v = undef, fun v _ => v = undef, fun v _ => v = undef, fun v _ => v = undef, fun v _ => v = undef, fun v _ => v = undef, fun v _ => v = .bool false, fun v _ => v = .bool false] (by kernel_rfl) (by kernel_rfl) rfl (by kernel_rfl) rfl _ (fun vs => (by simp only [fillD, Nat.reduceAdd, Act.put, List.setIfInBounds_toArray, List.set_cons_zero, List.set_cons_succ]; rfl)) ?_ ?_ ?_
        · refine ⟨fun _ _ _ _ h => h, fun _ _ _ _ h => h, fun _ _ _ _ h => h, fun _ _ _ _ h => h, fun _ _ _ _ h => h, fun _ _ _ _ h => h, fun _ _ _ _ h => h, fun _ _ _ _ h => h, fun _ _ _ _ h => h, fun _ _ _ _ h => h, fun _ _ _ _ h => h, fun _ _ _ _ h => h, fun _ _ _ _ h => h, fun _ _ _ _ h => h, fun _ _ _ _ h => h, fun _ _ _ _ h => h, fun _ _ _ _ h => h, fun _ _ _ _ h => h, fun _ _ _ _ h => h, fun _ _ _ _ h => h, fun _ _ _ _ h => h, trivial⟩
        · refine ⟨?_, ?_, ?_, ?_, ?_, ?_, ?_, ?_, ?_, ?_, ?_, ?_, ?_, ?_, ?_, ?_, ?_, ?_, ?_, ?_, ?_, trivial⟩
          · intro vs w' K hJ hR hK
            rw [if_pos (by rfl)]
            go_step
            exact hK.out _ _ (Below.refl _ _) (rfl)
          · intro vs w' K hJ hR hK
            rw [if_pos (by rfl)]
            go_step
            exact hK.out _ _ (Below.refl _ _) (rfl)
          · intro vs w' K hJ hR hK
            simp only [DepJ, List.getD_cons_zero, List.getD_cons_succ] at hJ
            obtain ⟨j1, -⟩ := hJ
            simp only [j1] at hK ⊢
            rw [if_pos (by rfl)]
            go_step
            exact hK.out _ _ (Below.refl _ _) (rfl)
          · intro vs w' K hJ hR hK
            simp only [DepJ, List.getD_cons_zero, List.getD_cons_succ] at hJ
            obtain ⟨j0, j2, -⟩ := hJ
            simp only [j0, j2] at hK ⊢
            rw [if_pos (by rfl)]
            go_step
            exact hK.out _ _ (Below.refl _ _) (by first | (simp; done) | (simp; omega))
          · intro vs w' K hJ hR hK
            simp only [DepJ, List.getD_cons_zero, List.getD_cons_succ] at hJ
            obtain ⟨j3, -⟩ := hJ
            simp only [j3] at hK ⊢
            rw [if_pos (by rfl)]
            go_step
            exact hK.out _ _ (Below.refl _ _) (rfl)
          · intro vs w' K hJ hR hK
            simp only [DepJ, List.getD_cons_zero, List.getD_cons_succ] at hJ
            obtain ⟨j4, -⟩ := hJ
            simp only [j4] at hK ⊢
            rw [if_pos (by rfl)]
            go_step
            exact hK.out _ _ (Below.refl _ _) (rfl)
          · intro vs w' K hJ hR hK
            simp only [DepJ, List.getD_cons_zero, List.getD_cons_succ] at hJ
            obtain ⟨j4, -⟩ := hJ
            simp only [j4] at hK ⊢
            rw [if_pos (by rfl)]
            go_step
            exact hK.out _ _ (Below.refl _ _) (rfl)
          · intro vs w' K hJ hR hK
            simp only [DepJ, List.getD_cons_zero, List.getD_cons_succ] at hJ
            obtain ⟨j4, j6, -⟩ := hJ
            simp only [j4, j6] at hK ⊢
            rw [if_pos (by rfl)]
            go_step
            exact hK.out _ _ (Below.refl _ _) (rfl)
          · intro vs w' K hJ hR hK
            simp only [DepJ, List.getD_cons_zero, List.getD_cons_succ] at hJ
            obtain ⟨j4, j5, j7, -⟩ := hJ
            simp only [j4, j5, j7] at hK ⊢
            rw [if_pos (by rfl)]
            go_step
            exact hK.out _ _ (Below.refl _ _) (by first | (simp; done) | (simp; omega))
          · intro vs w' K hJ hR hK
            simp only [DepJ, List.getD_cons_zero, List.getD_cons_succ] at hJ
            obtain ⟨j4, j8, -⟩ := hJ
            simp only [j4, j8] at hK ⊢
            rw [if_pos (by rfl)]
            go_step
            exact hK.out _ _ (Below.refl _ _) (rfl)
          · intro vs w' K hJ hR hK
            simp only [DepJ, List.getD_cons_zero, List.getD_cons_succ] at hJ
            obtain ⟨j9, -⟩ := hJ
            simp only [j9] at hK ⊢
            rw [if_neg (by simp [Region.wanted, yielded, undef])]
            exact hK.out _ _ (Below.refl _ _) (rfl)
          · intro vs w' K hJ hR hK
            simp only [DepJ, List.getD_cons_zero, List.getD_cons_succ] at hJ
            obtain ⟨j9, -⟩ := hJ
            simp only [j9] at hK ⊢
            rw [if_neg (by simp [Region.wanted, yielded, undef])]
            exact hK.out _ _ (Below.refl _ _) (rfl)
          · intro vs w' K hJ hR hK
            simp only [DepJ, List.getD_cons_zero, List.getD_cons_succ] at hJ
            obtain ⟨j9, j10, j11, -⟩ := hJ
            simp only [j9, j10, j11] at hK ⊢
            rw [if_neg (by simp [Region.wanted, yielded, undef])]
            exact hK.out _ _ (Below.refl _ _) (rfl)
          · intro vs w' K hJ hR hK
            simp only [DepJ, List.getD_cons_zero, List.getD_cons_succ] at hJ
            obtain ⟨j9, j12, -⟩ := hJ
            simp only [j9, j12] at hK ⊢
            rw [if_neg (by simp [Region.wanted, yielded, undef])]
            exact hK.out _ _ (Below.refl _ _) (rfl)
          · intro vs w' K hJ hR hK
            simp only [DepJ, List.getD_cons_zero, List.getD_cons_succ] at hJ
            obtain ⟨j9, -⟩ := hJ
            simp only [j9] at hK ⊢
            rw [if_neg (by simp [Region.wanted, yielded, undef])]
            exact hK.out _ _ (Below.refl _ _) (rfl)
          · intro vs w' K hJ hR hK
            simp only [DepJ, List.getD_cons_zero, List.getD_cons_succ] at hJ
            obtain ⟨j9, -⟩ := hJ
            simp only [j9] at hK ⊢
            rw [if_neg (by simp [Region.wanted, yielded, undef])]
            exact hK.out _ _ (Below.refl _ _) (rfl)
          · intro vs w' K hJ hR hK
            simp only [DepJ, List.getD_cons_zero, List.getD_cons_succ] at hJ
            obtain ⟨j9, j14, j15, -⟩ := hJ
            simp only [j9, j14, j15] at hK ⊢
            rw [if_neg (by simp [Region.wanted, yielded, undef])]
            exact hK.out _ _ (Below.refl _ _) (rfl)
          · intro vs w' K hJ hR hK
            simp only [DepJ, List.getD_cons_zero, List.getD_cons_succ] at hJ
            obtain ⟨j9, j16, -⟩ := hJ
            simp only [j9, j16] at hK ⊢
            rw [if_neg (by simp [Region.wanted, yielded, undef])]
            exact hK.out _ _ (Below.refl _ _) (rfl)
          · intro vs w' K hJ hR hK
            simp only [DepJ, List.getD_cons_zero, List.getD_cons_succ] at hJ
            obtain ⟨j9, j13, j17, -⟩ := hJ
            simp only [j9, j13, j17] at hK ⊢
            rw [if_neg (by simp [Region.wanted, yielded, undef])]
            exact hK.out _ _ (Below.refl _ _) (rfl)
          · intro vs w' K hJ hR hK
            simp only [DepJ, List.getD_cons_zero, List.getD_cons_succ] at hJ
            obtain ⟨j4, j9, j18, -⟩ := hJ
            simp only [j4, j9, j18] at hK ⊢
            rw [if_pos (by rfl)]
            go_step
            exact hK.out _ _ (Below.refl _ _) (rfl)
          · intro vs w' K hJ hR hK
            simp only [DepJ, List.getD_cons_zero, List.getD_cons_succ] at hJ
            obtain ⟨j4, j19, -⟩ := hJ
            simp only [j4, j19] at hK ⊢
            rw [if_pos (by rfl)]
            go_step
            exact hK.out _ _ (Below.refl _ _) (rfl)
        intro vs w' hJ hR
        simp only [AllJ, Nat.reduceAdd] at hJ
        obtain ⟨v0, v1, v2, v3, v4, v5, v6, v7, v8, v9, v10, v11, v12, v13, v14, v15, v16, v17, v18, v19, v20, -⟩ := hJ
        simp only [v20]
        have H' := Hp.step H.drew hR
        ((try simp only [List.set_cons_zero, List.set_cons_succ, List.setIfInBounds_toArray] at H'); clear C H; have H := H'; clear H'; have C := Hp.facts H; simp only [Facts, factsL, and_true, true_and, List.set_cons_zero, List.set_cons_succ, List.setIfInBounds_toArray] at C)
        clear v0 v1 v2 v3 v4 v5 v6 v7 v8 v9 v10 v11 v12 v13 v14 v15 v16 v17 v18 v19 v20
        (repeat' ((fail_if_success (with_reducible show bodyPost _ _ _ _ _ _)); first | ((with_reducible refine Hp.abs_alloc H ?_); intro b' w' H' hb'; (try simp only [hb']); clear hb'; ((try simp only [List.set_cons_zero, List.set_cons_succ, List.setIfInBounds_toArray] at H'); clear C H; have H := H'; clear H'; have C := Hp.facts H; simp only [Facts, factsL, and_true, true_and, List.set_cons_zero, List.set_cons_succ, List.setIfInBounds_toArray] at C)) | ((with_reducible show wpList _ _ _ _ _ (World.setCell _ _ _)); (with_reducible apply Hp.abs_gen H); (first | ((repeat (with_reducible apply Hp.set' 0)); (with_reducible exact H); (repeat rfl); intro w' H') | ((repeat (with_reducible apply Hp.set' 1)); (with_reducible exact H); (repeat rfl); intro w' H') | ((repeat (with_reducible apply Hp.set' 2)); (with_reducible exact H); (repeat rfl); intro w' H') | ((repeat (with_reducible apply Hp.set' 3)); (with_reducible exact H); (repeat rfl); intro w' H') | ((repeat (with_reducible apply Hp.set' 4)); (with_reducible exact H); (repeat rfl); intro w' H') | ((repeat (with_reducible apply Hp.set' 5)); (with_reducible exact H); (repeat rfl); intro w' H') | ((repeat (with_reducible apply Hp.set' 6)); (with_reducible exact H); (repeat rfl); intro w' H') | ((repeat (with_reducible apply Hp.set' 7)); (with_reducible exact H); (repeat rfl); intro w' H')); ((try simp only [List.set_cons_zero, List.set_cons_succ, List.setIfInBounds_toArray] at H'); clear C H; have H := H'; clear H'; have C := Hp.facts H; simp only [Facts, factsL, and_true, true_and, List.set_cons_zero, List.set_cons_succ, List.setIfInBounds_toArray] at C)) | go_values | go_skip | go_guarded | go_step | go_upon | go_back | (simp only [Int.not_lt, Int.not_le] at *; go_simp) | (go_values <;> (try go_simp)) | (go_ite <;> go_prune <;> (try go_simp)) | (split <;> (first | (rename_i hx; exact (hx _ rfl).elim) | go_prune))))
        refine region_b 54 [some 39, some 40, some 41, some 42, some 43, some 44, some 45, some 46, some 47, some 48, some 49, some 50, some 51, some 52, some 53] [[], [], [1], [0, 2], [3], [4], [4], [4, 5, 6], [4, 7], [4], [4], [4, 9, 10], [4, 11], [4, 8, 12], [4, 13]] [fun v _ => v = .int .i64 (n : Int), fun v _ => v = .slice A2 m.length c2, fun v _ => v = .int .i64 m.length, fun v _ => v = .bool true, fun v _ => v = .bool true, fun v _ => v = undef, fun v _ => v = undef, fun v _ => v = undef, fun v _ => v = undef, fun v _ => v = undef, fun v _ => v = undef, fun v _ => v = undef, fun v _ => v = undef, fun v _ => v = undef, fun v _ => v = .bool true] (by kernel_rfl) (by kernel_rfl) rfl (by kernel_rfl) rfl _ (fun vs => (by simp only [fillD, Nat.reduceAdd, Act.put, List.setIfInBounds_toArray, List.set_cons_zero, List.set_cons_succ]; rfl)) ?_ ?_ ?_
        · refine ⟨fun _ _ _ _ h => h, fun _ _ _ _ h => h, fun _ _ _ _ h => h, fun _ _ _ _ h => h, fun _ _ _ _ h => h, fun _ _ _ _ h => h, fun _ _ _ _ h => h, fun _ _ _ _ h => h, fun _ _ _ _ h => h, fun _ _ _ _ h => h, fun _ _ _ _ h => h, fun _ _ _ _ h => h, fun _ _ _ _ h => h, fun _ _ _ _ h => h, fun _ _ _ _ h => h, trivial⟩
        · refine ⟨?_, ?_, ?_, ?_, ?_, ?_, ?_, ?_, ?_, ?_, ?_, ?_, ?_, ?_, ?_, trivial⟩
          · intro vs w' K hJ hR hK
            rw [if_pos (by rfl)]
            go_step
            exact hK.out _ _ (Below.refl _ _) (rfl)
          · intro vs w' K hJ hR hK
            rw [if_pos (by rfl)]
            go_step
            exact hK.out _ _ (Below.refl _ _) (rfl)
          · intro vs w' K hJ hR hK
            simp only [DepJ, List.getD_cons_zero, List.getD_cons_succ] at hJ
            obtain ⟨j1, -⟩ := hJ
            simp only [j1] at hK ⊢
            rw [if_pos (by rfl)]
            go_step
            exact hK.out _ _ (Below.refl _ _) (rfl)
          · intro vs w' K hJ hR hK
            simp only [DepJ, List.getD_cons_zero, List.getD_cons_succ] at hJ
            obtain ⟨j0, j2, -⟩ := hJ
            simp only [j0, j2] at hK ⊢
            rw [if_pos (by rfl)]
            go_step
            exact hK.out _ _ (Below.refl _ _) (by first | (simp; done) | (simp; omega))
          · intro vs w' K hJ hR hK
            simp only [DepJ, List.getD_cons_zero, List.getD_cons_succ] at hJ
            obtain ⟨j3, -⟩ := hJ
            simp only [j3] at hK ⊢
            rw [if_pos (by rfl)]
            go_step
            exact hK.out _ _ (Below.refl _ _) (rfl)
          · intro vs w' K hJ hR hK
            simp only [DepJ, List.getD_cons_zero, List.getD_cons_succ] at hJ
            obtain ⟨j4, -⟩ := hJ
            simp only [j4] at hK ⊢
            rw [if_neg (by simp [Region.wanted, yielded, undef])]
            exact hK.out _ _ (Below.refl _ _) (rfl)
          · intro vs w' K hJ hR hK
            simp only [DepJ, List.getD_cons_zero, List.getD_cons_succ] at hJ
            obtain ⟨j4, -⟩ := hJ
            simp only [j4] at hK ⊢
            rw [if_neg (by simp [Region.wanted, yielded, undef])]
            exact hK.out _ _ (Below.refl _ _) (rfl)
          · intro vs w' K hJ hR hK
            simp only [DepJ, List.getD_cons_zero, List.getD_cons_succ] at hJ
            obtain ⟨j4, j5, j6, -⟩ := hJ
            simp only [j4, j5, j6] at hK ⊢
            rw [if_neg (by simp [Region.wanted, yielded, undef])]
            exact hK.out _ _ (Below.refl _ _) (rfl)
          · intro vs w' K hJ hR hK
            simp only [DepJ, List.getD_cons_zero, List.getD_cons_succ] at hJ
            obtain ⟨j4, j7, -⟩ := hJ
            simp only [j4, j7] at hK ⊢
            rw [if_neg (by simp [Region.wanted, yielded, undef])]
            exact hK.out _ _ (Below.refl _ _) (rfl)
          · intro vs w' K hJ hR hK
            simp only [DepJ, List.getD_cons_zero, List.getD_cons_succ] at hJ
            obtain ⟨j4, -⟩ := hJ
            simp only [j4] at hK ⊢
            rw [if_neg (by simp [Region.wanted, yielded, undef])]
            exact hK.out _ _ (Below.refl _ _) (rfl)
          · intro vs w' K hJ hR hK
            simp only [DepJ, List.getD_cons_zero, List.getD_cons_succ] at hJ
            obtain ⟨j4, -⟩ := hJ
            simp only [j4] at hK ⊢
            rw [if_neg (by simp [Region.wanted, yielded, undef])]
            exact hK.out _ _ (Below.refl _ _) (rfl)
          · intro vs w' K hJ hR hK
            simp only [DepJ, List.getD_cons_zero, List.getD_cons_succ] at hJ
            obtain ⟨j4, j9, j10, -⟩ := hJ
            simp only [j4, j9, j10] at hK ⊢
            rw [if_neg (by simp [Region.wanted, yielded, undef])]
            exact hK.out _ _ (Below.refl _ _) (rfl)
          · intro vs w' K hJ hR hK
            simp only [DepJ, List.getD_cons_zero, List.getD_cons_succ] at hJ
            obtain ⟨j4, j11, -⟩ := hJ
            simp only [j4, j11] at hK ⊢
            rw [if_neg (by simp [Region.wanted, yielded, undef])]
            exact hK.out _ _ (Below.refl _ _) (rfl)
          · intro vs w' K hJ hR hK
            simp only [DepJ, List.getD_cons_zero, List.getD_cons_succ] at hJ
            obtain ⟨j4, j8, j12, -⟩ := hJ
            simp only [j4, j8, j12] at hK ⊢
            rw [if_neg (by simp [Region.wanted, yielded, undef])]
            exact hK.out _ _ (Below.refl _ _) (rfl)
          · intro vs w' K hJ hR hK
            simp only [DepJ, List.getD_cons_zero, List.getD_cons_succ] at hJ
            obtain ⟨j4, j13, -⟩ := hJ
            simp only [j4, j13] at hK ⊢
            rw [if_pos (by rfl)]
            go_step
            exact hK.out _ _ (Below.refl _ _) (rfl)
        intro vs w' hJ hR
        simp only [AllJ, Nat.reduceAdd] at hJ
        obtain ⟨v0, v1, v2, v3, v4, v5, v6, v7, v8, v9, v10, v11, v12, v13, v14, -⟩ := hJ
        simp only [v14]
        have H' := Hp.step H.drew hR
        ((try simp only [List.set_cons_zero, List.set_cons_succ, List.setIfInBounds_toArray] at H'); clear C H; have H := H'; clear H'; have C := Hp.facts H; simp only [Facts, factsL, and_true, true_and, List.set_cons_zero, List.set_cons_succ, List.setIfInBounds_toArray] at C)
        clear v0 v1 v2 v3 v4 v5 v6 v7 v8 v9 v10 v11 v12 v13 v14
        (repeat' ((fail_if_success (with_reducible show bodyPost _ _ _ _ _ _)); first | ((with_reducible refine Hp.abs_alloc H ?_); intro b' w' H' hb'; (try simp only [hb']); clear hb'; ((try simp only [List.set_cons_zero, List.set_cons_succ, List.setIfInBounds_toArray] at H'); clear C H; have H := H'; clear H'; have C := Hp.facts H; simp only [Facts, factsL, and_true, true_and, List.set_cons_zero, List.set_cons_succ, List.setIfInBounds_toArray] at C)) | ((with_reducible show wpList _ _ _ _ _ (World.setCell _ _ _)); (with_reducible apply Hp.abs_gen H); (first | ((repeat (with_reducible apply Hp.set' 0)); (with_reducible exact H); (repeat rfl); intro w' H') | ((repeat (with_reducible apply Hp.set' 1)); (with_reducible exact H); (repeat rfl); intro w' H') | ((repeat (with_reducible apply Hp.set' 2)); (with_reducible exact H); (repeat rfl); intro w' H') | ((repeat (with_reducible apply Hp.set' 3)); (with_reducible exact H); (repeat rfl); intro w' H') | ((repeat (with_reducible apply Hp.set' 4)); (with_reducible exact H); (repeat rfl); intro w' H') | ((repeat (with_reducible apply Hp.set' 5)); (with_reducible exact H); (repeat rfl); intro w' H') | ((repeat (with_reducible apply Hp.set' 6)); (with_reducible exact H); (repeat rfl); intro w' H') | ((repeat (with_reducible apply Hp.set' 7)); (with_reducible exact H); (repeat rfl); intro w' H')); ((try simp only [List.set_cons_zero, List.set_cons_succ, List.setIfInBounds_toArray] at H'); clear C H; have H := H'; clear H'; have C := Hp.facts H; simp only [Facts, factsL, and_true, true_and, List.set_cons_zero, List.set_cons_succ, List.setIfInBounds_toArray] at C)) | go_values | go_skip | go_guarded | go_step | go_upon | go_back | (simp only [Int.not_lt, Int.not_le] at *; go_simp) | (go_values <;> (try go_simp)) | (go_ite <;> go_prune <;> (try go_simp)) | (split <;> (first | (rename_i hx; exact (hx _ rfl).elim) | go_prune))))
        go_ret
        exact ⟨ret_int (by rw [cmpL_right h1 (by omega) HK.out]), H.low⟩
    · by_cases h2 : n < m.length
      · (repeat' ((fail_if_success (with_reducible show bodyPost _ _ _ _ _ _)); first | ((with_reducible refine Hp.abs_alloc H ?_); intro b' w' H' hb'; (try simp only [hb']); clear hb'; ((try simp only [List.set_cons_zero, List.set_cons_succ, List.setIfInBounds_toArray] at H'); clear C H; have H := H'; clear H'; have C := Hp.facts H; simp only [Facts, factsL, and_true, true_and, List.set_cons_zero, List.set_cons_succ, List.setIfInBounds_toArray] at C)) | ((with_reducible show wpList _ _ _ _ _ (World.setCell _ _ _)); (with_reducible apply Hp.abs_gen H); (first | ((repeat (with_reducible apply Hp.set' 0)); (with_reducible exact H); (repeat rfl); intro w' H') | ((repeat (with_reducible apply Hp.set' 1)); (with_reducible exact H); (repeat rfl); intro w' H') | ((repeat (with_reducible apply Hp.set' 2)); (with_reducible exact H); (repeat rfl); intro w' H') | ((repeat (with_reducible apply Hp.set' 3)); (with_reducible exact H); (repeat rfl); intro w' H') | ((repeat (with_reducible apply Hp.set' 4)); (with_reducible exact H); (repeat rfl); intro w' H') | ((repeat (with_reducible apply Hp.set' 5)); (with_reducible exact H); (repeat rfl); intro w' H') | ((repeat (with_reducible apply Hp.set' 6)); (with_reducible exact H); (repeat rfl); intro w' H') | ((repeat (with_reducible apply Hp.set' 7)); (with_reducible exact H); (repeat rfl); intro w' H')); ((try simp only [List.set_cons_zero, List.set_cons_succ, List.setIfInBounds_toArray] at H'); clear C H; have H := H'; clear H'; have C := Hp.facts H; simp only [Facts, factsL, and_true, true_and, List.set_cons_zero, List.set_cons_succ, List.setIfInBounds_toArray] at C)) | go_values | go_skip | go_guarded | go_step | go_upon | go_back | (simp only [Int.not_lt, Int.not_le] at *; go_simp) | (go_values <;> (try go_simp)) | (go_ite <;> go_prune <;> (try go_simp)) | (split <;> (first | (rename_i hx; exact (hx _ rfl).elim) | go_prune))))
        refine region_b 54 [some 18, some 19, some 20, some 21, some 22, some 23, some 24, some 25, some 26, some 27, some 28, some 29, some 30, some 31, some 32, some 33, some 34, some 35, some 36, some 37, some 38] [[], [], [1], [0, 2], [3], [4], [4], [4, 6], [4, 5, 7], [4, 8], [9], [9], [9, 10, 11], [9, 12], [9], [9], [9, 14, 15], [9, 16], [9, 13, 17], [4, 9, 18], [4, 19]] [fun v _ => v = .int .i64 (n : Int), fun v _ => v = .slice A l.length c, fun v _ => v = .int .i64 l.length, fun v _ => v = .bool true, fun v _ => v = .bool true, fun v _ => v = undef, fun v _ => v = undef, fun v _ => v = undef, fun v _ => v = undef, fun v _ => v = undef, fun v _ => v = undef, fun v _ => v = undef, fun v _ => v = undef, fun v _ => v = undef, fun v _ => v = undef, fun v _ => v = undef, fun v _ => v = undef, fun v _ => v = undef, fun v _ => v = undef, fun v _ => v = undef, fun v _ => v = .bool true] (by kernel_rfl) (by kernel_rfl) rfl (by kernel_rfl) rfl _ (fun vs => (by simp only [fillD, Nat.reduceAdd, Act.put, List.setIfInBounds_toArray, List.set_cons_zero, List.set_cons_succ]; rfl)) ?_ ?_ ?_
        · refine ⟨fun _ _ _ _ h => h, fun _ _ _ _ h => h, fun _ _ _ _ h => h, fun _ _ _ _ h => h, fun _ _ _ _ h => h, fun _ _ _ _ h => h, fun _ _ _ _ h => h, fun _ _ _ _ h => h, fun _ _ _ _ h => h, fun _ _ _ _ h => h, fun _ _ _ _ h => h, fun _ _ _ _ h => h, fun _ _ _ _ h => h, fun _ _ _ _ h => h, fun _ _ _ _ h => h, fun _ _ _ _ h => h, fun _ _ _ _ h => h, fun _ _ _ _ h => h, fun _ _ _ _ h => h, fun _ _ _ _ h => h, fun _ _ _ _ h => h, trivial⟩
        · refine ⟨?_, ?_, ?_, ?_, ?_, ?_, ?_, ?_, ?_, ?_, ?_, ?_, ?_, ?_, ?_, ?_, ?_, ?_, ?_, ?_, ?_, trivial⟩
          · intro vs w' K hJ hR hK
            rw [if_pos (by rfl)]
            go_step
            exact hK.out _ _ (Below.refl _ _) (rfl)
          · intro vs w' K hJ hR hK
            rw [if_pos (by rfl)]
            go_step
            exact hK.out _ _ (Below.refl _ _) (rfl)
          · intro vs w' K hJ hR hK
            simp only [DepJ, List.getD_cons_zero, List.getD_cons_succ] at hJ
            obtain ⟨j1, -⟩ := hJ
            simp only [j1] at hK ⊢
            rw [if_pos (by rfl)]
            go_step
            exact hK.out _ _ (Below.refl _ _) (rfl)
          · intro vs w' K hJ hR hK
            simp only [DepJ, List.getD_cons_zero, List.getD_cons_succ] at hJ
            obtain ⟨j0, j2, -⟩ := hJ
            simp only [j0, j2] at hK ⊢
            rw [if_pos (by rfl)]
            go_step
            exact hK.out _ _ (Below.refl _ _) (by first | (simp; done) | (simp; omega))
          · intro vs w' K hJ hR hK
            simp only [DepJ, List.getD_cons_zero, List.getD_cons_succ] at hJ
            obtain ⟨j3, -⟩ := hJ
            simp only [j3] at hK ⊢
            rw [if_pos (by rfl)]
            go_step
            exact hK.out _ _ (Below.refl _ _) (rfl)
          · intro vs w' K hJ hR hK
            simp only [DepJ, List.getD_cons_zero, List.getD_cons_succ] at hJ
            obtain ⟨j4, -⟩ := hJ
            simp only [j4] at hK ⊢
            rw [if_neg (by simp [Region.wanted, yielded, undef])]
            exact hK.out _ _ (Below.refl _ _) (rfl)
          · intro vs w' K hJ hR hK
            simp only [DepJ, List.getD_cons_zero, List.getD_cons_succ] at hJ
            obtain ⟨j4, -⟩ := hJ
            simp only [j4] at hK ⊢
            rw [if_neg (by simp [Region.wanted, yielded, undef])]
            exact hK.out _ _ (Below.refl _ _) (rfl)
          · intro vs w' K hJ hR hK
            simp only [DepJ, List.getD_cons_zero, List.getD_cons_succ] at hJ
            obtain ⟨j4, j6, -⟩ := hJ
            simp only [j4, j6] at hK ⊢
            rw [if_neg (by simp [Region.wanted, yielded, undef])]
            exact hK.out _ _ (Below.refl _ _) (rfl)
          · intro vs w' K hJ hR hK
            simp only [DepJ, List.getD_cons_zero, List.getD_cons_succ] at hJ
            obtain ⟨j4, j5, j7, -⟩ := hJ
            simp only [j4, j5, j7] at hK ⊢
            rw [if_neg (by simp [Region.wanted, yielded, undef])]
            exact hK.out _ _ (Below.refl _ _) (rfl)
          · intro vs w' K hJ hR hK
            simp only [DepJ, List.getD_cons_zero, List.getD_cons_succ] at hJ
            obtain ⟨j4, j8, -⟩ := hJ
            simp only [j4, j8] at hK ⊢
            rw [if_neg (by simp [Region.wanted, yielded, undef])]
            exact hK.out _ _ (Below.refl _ _) (rfl)
          · intro vs w' K hJ hR hK
            simp only [DepJ, List.getD_cons_zero, List.getD_cons_succ] at hJ
            obtain ⟨j9, -⟩ := hJ
            simp only [j9] at hK ⊢
            rw [if_neg (by simp [Region.wanted, yielded, undef])]
            exact hK.out _ _ (Below.refl _ _) (rfl)
          · intro vs w' K hJ hR hK
            simp only [DepJ, List.getD_cons_zero, List.getD_cons_succ] at hJ
            obtain ⟨j9, -⟩ := hJ
            simp only [j9] at hK ⊢
            rw [if_neg (by simp [Region.wanted, yielded, undef])]
            exact hK.out _ _ (Below.refl _ _) (rfl)
          · intro vs w' K hJ hR hK
            simp only [DepJ, List.getD_cons_zero, List.getD_cons_succ] at hJ
            obtain ⟨j9, j10, j11, -⟩ := hJ
            simp only [j9, j10, j11] at hK ⊢
            rw [if_neg (by simp [Region.wanted, yielded, undef])]
            exact hK.out _ _ (Below.refl _ _) (rfl)
          · intro vs w' K hJ hR hK
            simp only [DepJ, List.getD_cons_zero, List.getD_cons_succ] at hJ
            obtain ⟨j9, j12, -⟩ := hJ
            simp only [j9, j12] at hK ⊢
            rw [if_neg (by simp [Region.wanted, yielded, undef])]
            exact hK.out _ _ (Below.refl _ _) (rfl)
          · intro vs w' K hJ hR hK
            simp only [DepJ, List.getD_cons_zero, List.getD_cons_succ] at hJ
            obtain ⟨j9, -⟩ := hJ
            simp only [j9] at hK ⊢
            rw [if_neg (by simp [Region.wanted, yielded, undef])]
            exact hK.out _ _ (Below.refl _ _) (rfl)
          · intro vs w' K hJ hR hK
            simp only [DepJ, List.getD_cons_zero, List.getD_cons_succ] at hJ
            obtain ⟨j9, -⟩ := hJ
            simp only [j9] at hK ⊢
            rw [if_neg (by simp [Region.wanted, yielded, undef])]
            exact hK.out _ _ (Below.refl _ _) (rfl)
          · intro vs w' K hJ hR hK
            simp only [DepJ, List.getD_cons_zero, List.getD_cons_succ] at hJ
            obtain ⟨j9, j14, j15, -⟩ := hJ
            simp only [j9, j14, j15] at hK ⊢
            rw [if_neg (by simp [Region.wanted, yielded, undef])]
            exact hK.out _ _ (Below.refl _ _) (rfl)
          · intro vs w' K hJ hR hK
            simp only [DepJ, List.getD_cons_zero, List.getD_cons_succ] at hJ
            obtain ⟨j9, j16, -⟩ := hJ
            simp only [j9, j16] at hK ⊢
            rw [if_neg (by simp [Region.wanted, yielded, undef])]
            exact hK.out _ _ (Below.refl _ _) (rfl)
          · intro vs w' K hJ hR hK
            simp only [DepJ, List.getD_cons_zero, List.getD_cons_succ] at hJ
            obtain ⟨j9, j13, j17, -⟩ := hJ
            simp only [j9, j13, j17] at hK ⊢
            rw [if_neg (by simp [Region.wanted, yielded, undef])]
            exact hK.out _ _ (Below.refl _ _) (rfl)
          · intro vs w' K hJ hR hK
            simp only [DepJ, List.getD_cons_zero, List.getD_cons_succ] at hJ
            obtain ⟨j4, j9, j18, -⟩ := hJ
            simp only [j4, j9, j18] at hK ⊢
            rw [if_neg (by simp [Region.wanted, yielded, undef])]
            exact hK.out _ _ (Below.refl _ _) (rfl)
          · intro vs w' K hJ hR hK
            simp only [DepJ, List.getD_cons_zero, List.getD_cons_succ] at hJ
            obtain ⟨j4, j19, -⟩ := hJ
            simp only [j4, j19] at hK ⊢
            rw [if_pos (by rfl)]
            go_step
            exact hK.out _ _ (Below.refl _ _) (rfl)
        intro vs w' hJ hR
        simp only [AllJ, Nat.reduceAdd] at hJ
        obtain ⟨v0, v1, v2, v3, v4, v5, v6, v7, v8, v9, v10, v11, v12, v13, v14, v15, v16, v17, v18, v19, v20, -⟩ := hJ
        simp only [v20]
        have H' := Hp.step H.drew hR
        ((try simp only [List.set_cons_zero, List.set_cons_succ, List.setIfInBounds_toArray] at H'); clear C H; have H := H'; clear H'; have C := Hp.facts H; simp only [Facts, factsL, and_true, true_and, List.set_cons_zero, List.set_cons_succ, List.setIfInBounds_toArray] at C)
        clear v0 v1 v2 v3 v4 v5 v6 v7 v8 v9 v10 v11 v12 v13 v14 v15 v16 v17 v18 v19 v20
        (repeat' ((fail_if_success (with_reducible show bodyPost _ _ _ _ _ _)); first | ((with_reducible refine Hp.abs_alloc H ?_); intro b' w' H' hb'; (try simp only [hb']); clear hb'; ((try simp only [List.set_cons_zero, List.set_cons_succ, List.setIfInBounds_toArray] at H'); clear C H; have H := H'; clear H'; have C := Hp.facts H; simp only [Facts, factsL, and_true, true_and, List.set_cons_zero, List.set_cons_succ, List.setIfInBounds_toArray] at C)) | ((with_reducible show wpList _ _ _ _ _ (World.setCell _ _ _)); (with_reducible apply Hp.abs_gen H); (first | ((repeat (with_reducible apply Hp.set' 0)); (with_reducible exact H); (repeat rfl); intro w' H') | ((repeat (with_reducible apply Hp.set' 1)); (with_reducible exact H); (repeat rfl); intro w' H') | ((repeat (with_reducible apply Hp.set' 2)); (with_reducible exact H); (repeat rfl); intro w' H') | ((repeat (with_reducible apply Hp.set' 3)); (with_reducible exact H); (repeat rfl); intro w' H') | ((repeat (with_reducible apply Hp.set' 4)); (with_reducible exact H); (repeat rfl); intro w' H') | ((repeat (with_reducible apply Hp.set' 5)); (with_reducible exact H); (repeat rfl); intro w' H') | ((repeat (with_reducible apply Hp.set' 6)); (with_reducible exact H); (repeat rfl); intro w' H') | ((repeat (with_reducible apply Hp.set' 7)); (with_reducible exact H); (repeat rfl); intro w' H')); ((try simp only [List.set_cons_zero, List.set_cons_succ, List.setIfInBounds_toArray] at H'); clear C H; have H := H'; clear H'; have C := Hp.facts H; simp only [Facts, factsL, and_true, true_and, List.set_cons_zero, List.set_cons_succ, List.setIfInBounds_toArray] at C)) | go_values | go_skip | go_guarded | go_step | go_upon | go_back | (simp only [Int.not_lt, Int.not_le] at *; go_simp) | (go_values <;> (try go_simp)) | (go_ite <;> go_prune <;> (try go_simp)) | (split <;> (first | (rename_i hx; exact (hx _ rfl).elim) | go_prune))))
        go_ret
        exact ⟨ret_int (by rw [cmpL_left (by omega) h2 HK.out]), H.low⟩
      · (repeat' ((fail_if_success (with_reducible show bodyPost _ _ _ _ _ _)); first | ((with_reducible refine Hp.abs_alloc H ?_); intro b' w' H' hb'; (try simp only [hb']); clear hb'; ((try simp only [List.set_cons_zero, List.set_cons_succ, List.setIfInBounds_toArray] at H'); clear C H; have H := H'; clear H'; have C := Hp.facts H; simp only [Facts, factsL, and_true, true_and, List.set_cons_zero, List.set_cons_succ, List.setIfInBounds_toArray] at C)) | ((with_reducible show wpList _ _ _ _ _ (World.setCell _ _ _)); (with_reducible apply Hp.abs_gen H); (first | ((repeat (with_reducible apply Hp.set' 0)); (with_reducible exact H); (repeat rfl); intro w' H') | ((repeat (with_reducible apply Hp.set' 1)); (with_reducible exact H); (repeat rfl); intro w' H') | ((repeat (with_reducible apply Hp.set' 2)); (with_reducible exact H); (repeat rfl); intro w' H') | ((repeat (with_reducible apply Hp.set' 3)); (with_reducible exact H); (repeat rfl); intro w' H') | ((repeat (with_reducible apply Hp.set' 4)); (with_reducible exact H); (repeat rfl); intro w' H') | ((repeat (with_reducible apply Hp.set' 5)); (with_reducible exact H); (repeat rfl); intro w' H') | ((repeat (with_reducible apply Hp.set' 6)); (with_reducible exact H); (repeat rfl); intro w' H') | ((repeat (with_reducible apply Hp.set' 7)); (with_reducible exact H); (repeat rfl); intro w' H')); ((try simp only [List.set_cons_zero, List.set_cons_succ, List.setIfInBounds_toArray] at H'); clear C H; have H := H'; clear H'; have C := Hp.facts H; simp only [Facts, factsL, and_true, true_and, List.set_cons_zero, List.set_cons_succ, List.setIfInBounds_toArray] at C)) | go_values | go_skip | go_guarded | go_step | go_upon | go_back | (simp only [Int.not_lt, Int.not_le] at *; go_simp) | (go_values <;> (try go_simp)) | (go_ite <;> go_prune <;> (try go_simp)) | (split <;> (first | (rename_i hx; exact (hx _ rfl).elim) | go_prune))))
        go_ret
        exact ⟨ret_int (by rw [cmpL_none (by omega) (by omega) HK.out]), H.low⟩
end Go.Proofs.Ytogliinfdfkobaa

