/- Lemmas and walks on the way to the seat's laws; each theorem says its own conditions. -/
import Derived.Test.YtmmjghdobdendaaDoorO1
import Derived.Test.YtmmjghdobdendaaDoorRegT
set_option linter.unusedSimpArgs false
set_option linter.unusedVariables false
set_option linter.unusedSimpArgs false
set_option linter.unusedVariables false
set_option maxRecDepth 100000
namespace Go.Proofs.YtmmjghdobdendaaDoor
open Go.RowKit Go.Mem Go.Reg Oct
theorem u8_same {x y : UInt8} (h : x = y) : ((x.toNat : Int) != (y.toNat : Int)) = false := by subst h; simp
theorem u8_differ {x y : UInt8} (h : ¬ x = y) : ((x.toNat : Int) != (y.toNat : Int)) = true := by
  have : ¬ (x.toNat : Int) = (y.toNat : Int) := fun e => h (UInt8.toNat_inj.1 (by omega))
  simpa using this
set_option maxHeartbeats 2000000 in
theorem parted_any (l m : List UInt8) (v u : Value) (w : World) (hb : Bs w v l) (hd : Bs w u m) (hl : l.length ≤ 1000000) (hm : m.length ≤ 1000000) :
    Calls Tryd.prog 62 #[v, u] w fun e w' => e = .returned (.int .i64 (comm l m : Nat)) ∧ Below w.heap.size w w' := by
  obtain ⟨A, c, rfl, hlc, hcm, hA, hcell⟩ := hb.open
  obtain ⟨A2, c2, rfl, hlc2, hcm2, hA2, hcell2⟩ := hd.open
  have H := Hp.start w
  have C : True := trivial
  go_enter Tryd.func62, Tryd.ntmps62
  rcases Nat.lt_or_ge m.length l.length with hml | hml
  · (repeat' ((fail_if_success (with_reducible show bodyPost _ _ _ _ _ _)); first | ((with_reducible refine Hp.abs_alloc H ?_); intro b' w' H' hb'; (try simp only [hb']); clear hb'; ((try simp only [List.set_cons_zero, List.set_cons_succ, List.setIfInBounds_toArray] at H'); clear C H; have H := H'; clear H'; have C := Hp.facts H; simp only [Facts, factsL, and_true, true_and, List.set_cons_zero, List.set_cons_succ, List.setIfInBounds_toArray] at C)) | ((with_reducible show wpList _ _ _ _ _ (World.setCell _ _ _)); (with_reducible apply Hp.abs_gen H); (first | ((repeat (with_reducible apply Hp.set' 0)); (with_reducible exact H); (repeat rfl); intro w' H') | ((repeat (with_reducible apply Hp.set' 1)); (with_reducible exact H); (repeat rfl); intro w' H') | ((repeat (with_reducible apply Hp.set' 2)); (with_reducible exact H); (repeat rfl); intro w' H') | ((repeat (with_reducible apply Hp.set' 3)); (with_reducible exact H); (repeat rfl); intro w' H') | ((repeat (with_reducible apply Hp.set' 4)); (with_reducible exact H); (repeat rfl); intro w' H') | ((repeat (with_reducible apply Hp.set' 5)); (with_reducible exact H); (repeat rfl); intro w' H') | ((repeat (with_reducible apply Hp.set' 6)); (with_reducible exact H); (repeat rfl); intro w' H') | ((repeat (with_reducible apply Hp.set' 7)); (with_reducible exact H); (repeat rfl); intro w' H')); ((try simp only [List.set_cons_zero, List.set_cons_succ, List.setIfInBounds_toArray] at H'); clear C H; have H := H'; clear H'; have C := Hp.facts H; simp only [Facts, factsL, and_true, true_and, List.set_cons_zero, List.set_cons_succ, List.setIfInBounds_toArray] at C)) | go_values | go_skip | go_guarded | go_step | go_upon | go_back | (simp only [Int.not_lt, Int.not_le] at *; go_simp) | (go_values <;> (try go_simp)) | (go_ite <;> go_prune <;> (try go_simp)) | (split <;> (first | (rename_i hx; exact (hx _ rfl).elim) | go_prune))))
    go_loopw [13] (fun ix wr => ∃ k : Nat, k ≤ m.length ∧ ix = .int .i64 k ∧ Hid (l.take k = m.take k) ∧ Hp w [] wr) (fun ix _ => m.length - (intOf ix).toNat)
    case atStart => exact ⟨0, Nat.zero_le _, rfl, rfl, H⟩
    case round =>
      clear H C
      obtain ⟨k, hk, rfl, HK, H⟩ := hrel
      have C := Hp.facts H
      simp only [Facts, factsL, and_true, true_and, List.set_cons_zero, List.set_cons_succ, List.setIfInBounds_toArray] at C
      by_cases hlt : k < m.length
      · have k1 : k < l.length := by omega
        have k2 : k < m.length := by omega
        obtain ⟨b, o, rfl, hbl, hc⟩ := hcell k k1
        obtain ⟨b2, o2, rfl, hbl2, hc2⟩ := hcell2 k k2
        (repeat' ((fail_if_success (with_reducible show bodyPost _ _ _ _ _ _)); first | ((with_reducible refine Hp.abs_alloc H ?_); intro b' w' H' hb'; (try simp only [hb']); clear hb'; ((try simp only [List.set_cons_zero, List.set_cons_succ, List.setIfInBounds_toArray] at H'); clear C H; have H := H'; clear H'; have C := Hp.facts H; simp only [Facts, factsL, and_true, true_and, List.set_cons_zero, List.set_cons_succ, List.setIfInBounds_toArray] at C)) | ((with_reducible show wpList _ _ _ _ _ (World.setCell _ _ _)); (with_reducible apply Hp.abs_gen H); (first | ((repeat (with_reducible apply Hp.set' 0)); (with_reducible exact H); (repeat rfl); intro w' H') | ((repeat (with_reducible apply Hp.set' 1)); (with_reducible exact H); (repeat rfl); intro w' H') | ((repeat (with_reducible apply Hp.set' 2)); (with_reducible exact H); (repeat rfl); intro w' H') | ((repeat (with_reducible apply Hp.set' 3)); (with_reducible exact H); (repeat rfl); intro w' H') | ((repeat (with_reducible apply Hp.set' 4)); (with_reducible exact H); (repeat rfl); intro w' H') | ((repeat (with_reducible apply Hp.set' 5)); (with_reducible exact H); (repeat rfl); intro w' H') | ((repeat (with_reducible apply Hp.set' 6)); (with_reducible exact H); (repeat rfl); intro w' H') | ((repeat (with_reducible apply Hp.set' 7)); (with_reducible exact H); (repeat rfl); intro w' H')); ((try simp only [List.set_cons_zero, List.set_cons_succ, List.setIfInBounds_toArray] at H'); clear C H; have H := H'; clear H'; have C := Hp.facts H; simp only [Facts, factsL, and_true, true_and, List.set_cons_zero, List.set_cons_succ, List.setIfInBounds_toArray] at C)) | go_values | go_skip | go_guarded | go_step | go_upon | go_back | (simp only [Int.not_lt, Int.not_le] at *; go_simp) | (go_values <;> (try go_simp)) | (go_ite <;> go_prune <;> (try go_simp)) | (split <;> (first | (rename_i hx; exact (hx _ rfl).elim) | go_prune))))
        by_cases he : l[k] = m[k]
        · have ge := Lib.hid he
          clear he
          refine region_b 28 [some 16, some 17, some 18, some 19, some 20, some 21, some 22, some 23, some 24] [[], [], [0, 1], [2], [], [], [4, 5], [6], [3, 7]] [fun v _ => v = .slice (some ⟨b, o, none⟩) l.length c, fun v _ => v = .int .i64 (k : Int), fun v _ => v = .pointer (some ⟨b, o + k, none⟩), fun v _ => v = .int .u8 (l[k].toNat : Int), fun v _ => v = .slice (some ⟨b2, o2, none⟩) m.length c2, fun v _ => v = .int .i64 (k : Int), fun v _ => v = .pointer (some ⟨b2, o2 + k, none⟩), fun v _ => v = .int .u8 (m[k].toNat : Int), fun v _ => v = .bool false] (by kernel_rfl) (by kernel_rfl) rfl (by kernel_rfl) rfl _ (fun vs => (by simp only [fillD, Nat.reduceAdd, Act.put, List.setIfInBounds_toArray, List.set_cons_zero, List.set_cons_succ]; rfl)) ?_ ?_ ?_
          · refine ⟨fun _ _ _ _ h => h, fun _ _ _ _ h => h, fun _ _ _ _ h => h, fun _ _ _ _ h => h, fun _ _ _ _ h => h, fun _ _ _ _ h => h, fun _ _ _ _ h => h, fun _ _ _ _ h => h, fun _ _ _ _ h => h, trivial⟩
          · refine ⟨?_, ?_, ?_, ?_, ?_, ?_, ?_, ?_, ?_, trivial⟩
            · intro vs w' K hJ hR hK
              rw [if_pos (by rfl)]
              go_step
              exact hK.out _ _ (Below.refl _ _) (rfl)
            · intro vs w' K hJ hR hK
              rw [if_pos (by rfl)]
              go_step
              exact hK.out _ _ (Below.refl _ _) (rfl)
            · intro vs w' K hJ hR hK
              simp only [DepJ, List.getD_cons_zero, List.getD_cons_succ] at hJ
              obtain ⟨j0, j1, -⟩ := hJ
              simp only [j0, j1] at hK ⊢
              rw [if_pos (by rfl)]
              go_step
              exact hK.out _ _ (Below.refl _ _) (rfl)
            · intro vs w' K hJ hR hK
              simp only [DepJ, List.getD_cons_zero, List.getD_cons_succ] at hJ
              obtain ⟨j2, -⟩ := hJ
              simp only [j2] at hK ⊢
              rw [if_pos (by rfl)]
              have C := Hp.facts (Hp.step H.drew hR)
              simp only [Facts, factsL, and_true, true_and, List.set_cons_zero, List.set_cons_succ, List.setIfInBounds_toArray] at C
              go_step
              exact hK.out _ _ (Below.refl _ _) rfl
            · intro vs w' K hJ hR hK
              rw [if_pos (by rfl)]
              go_step
              exact hK.out _ _ (Below.refl _ _) (rfl)
            · intro vs w' K hJ hR hK
              rw [if_pos (by rfl)]
              go_step
              exact hK.out _ _ (Below.refl _ _) (rfl)
            · intro vs w' K hJ hR hK
              simp only [DepJ, List.getD_cons_zero, List.getD_cons_succ] at hJ
              obtain ⟨j4, j5, -⟩ := hJ
              simp only [j4, j5] at hK ⊢
              rw [if_pos (by rfl)]
              go_step
              exact hK.out _ _ (Below.refl _ _) (rfl)
            · intro vs w' K hJ hR hK
              simp only [DepJ, List.getD_cons_zero, List.getD_cons_succ] at hJ
              obtain ⟨j6, -⟩ := hJ
              simp only [j6] at hK ⊢
              rw [if_pos (by rfl)]
              have C := Hp.facts (Hp.step H.drew hR)
              simp only [Facts, factsL, and_true, true_and, List.set_cons_zero, List.set_cons_succ, List.setIfInBounds_toArray] at C
              go_step
              exact hK.out _ _ (Below.refl _ _) rfl
            · intro vs w' K hJ hR hK
              simp only [DepJ, List.getD_cons_zero, List.getD_cons_succ] at hJ
              obtain ⟨j3, j7, -⟩ := hJ
              simp only [j3, j7] at hK ⊢
              rw [if_pos (by rfl)]
              go_step
              exact hK.out _ _ (Below.refl _ _) (by rw [u8_same ge.out])
          intro vs w' hJ hR
          simp only [AllJ, Nat.reduceAdd] at hJ
          obtain ⟨v0, v1, v2, v3, v4, v5, v6, v7, v8, -⟩ := hJ
          simp only [v8]
          have H' := Hp.step H.drew hR
          ((try simp only [List.set_cons_zero, List.set_cons_succ, List.setIfInBounds_toArray] at H'); clear C H; have H := H'; clear H'; have C := Hp.facts H; simp only [Facts, factsL, and_true, true_and, List.set_cons_zero, List.set_cons_succ, List.setIfInBounds_toArray] at C)
          clear v0 v1 v2 v3 v4 v5 v6 v7 v8
          (repeat' ((fail_if_success (with_reducible show bodyPost _ _ _ _ _ _)); first | ((with_reducible refine Hp.abs_alloc H ?_); intro b' w' H' hb'; (try simp only [hb']); clear hb'; ((try simp only [List.set_cons_zero, List.set_cons_succ, List.setIfInBounds_toArray] at H'); clear C H; have H := H'; clear H'; have C := Hp.facts H; simp only [Facts, factsL, and_true, true_and, List.set_cons_zero, List.set_cons_succ, List.setIfInBounds_toArray] at C)) | ((with_reducible show wpList _ _ _ _ _ (World.setCell _ _ _)); (with_reducible apply Hp.abs_gen H); (first | ((repeat (with_reducible apply Hp.set' 0)); (with_reducible exact H); (repeat rfl); intro w' H') | ((repeat (with_reducible apply Hp.set' 1)); (with_reducible exact H); (repeat rfl); intro w' H') | ((repeat (with_reducible apply Hp.set' 2)); (with_reducible exact H); (repeat rfl); intro w' H') | ((repeat (with_reducible apply Hp.set' 3)); (with_reducible exact H); (repeat rfl); intro w' H') | ((repeat (with_reducible apply Hp.set' 4)); (with_reducible exact H); (repeat rfl); intro w' H') | ((repeat (with_reducible apply Hp.set' 5)); (with_reducible exact H); (repeat rfl); intro w' H') | ((repeat (with_reducible apply Hp.set' 6)); (with_reducible exact H); (repeat rfl); intro w' H') | ((repeat (with_reducible apply Hp.set' 7)); (with_reducible exact H); (repeat rfl); intro w' H')); ((try simp only [List.set_cons_zero, List.set_cons_succ, List.setIfInBounds_toArray] at H'); clear C H; have H := H'; clear H'; have C := Hp.facts H; simp only [Facts, factsL, and_true, true_and, List.set_cons_zero, List.set_cons_succ, List.setIfInBounds_toArray] at C)) | go_values | go_skip | go_guarded | go_step | go_upon | go_back | (simp only [Int.not_lt, Int.not_le] at *; go_simp) | (go_values <;> (try go_simp)) | (go_ite <;> go_prune <;> (try go_simp)) | (split <;> (first | (rename_i hx; exact (hx _ rfl).elim) | go_prune))))
          exact ⟨⟨k + 1, by omega, by go_num, take_alike l m k k1 k2 HK.out ge.out, H⟩, by simp [intOf]; omega⟩
        · have ge := Lib.hid he
          clear he
          refine region_b 28 [some 16, some 17, some 18, some 19, some 20, some 21, some 22, some 23, some 24] [[], [], [0, 1], [2], [], [], [4, 5], [6], [3, 7]] [fun v _ => v = .slice (some ⟨b, o, none⟩) l.length c, fun v _ => v = .int .i64 (k : Int), fun v _ => v = .pointer (some ⟨b, o + k, none⟩), fun v _ => v = .int .u8 (l[k].toNat : Int), fun v _ => v = .slice (some ⟨b2, o2, none⟩) m.length c2, fun v _ => v = .int .i64 (k : Int), fun v _ => v = .pointer (some ⟨b2, o2 + k, none⟩), fun v _ => v = .int .u8 (m[k].toNat : Int), fun v _ => v = .bool true] (by kernel_rfl) (by kernel_rfl) rfl (by kernel_rfl) rfl _ (fun vs => (by simp only [fillD, Nat.reduceAdd, Act.put, List.setIfInBounds_toArray, List.set_cons_zero, List.set_cons_succ]; rfl)) ?_ ?_ ?_
          · refine ⟨fun _ _ _ _ h => h, fun _ _ _ _ h => h, fun _ _ _ _ h => h, fun _ _ _ _ h => h, fun _ _ _ _ h => h, fun _ _ _ _ h => h, fun _ _ _ _ h => h, fun _ _ _ _ h => h, fun _ _ _ _ h => h, trivial⟩
          · refine ⟨?_, ?_, ?_, ?_, ?_, ?_, ?_, ?_, ?_, trivial⟩
            · intro vs w' K hJ hR hK
              rw [if_pos (by rfl)]
              go_step
              exact hK.out _ _ (Below.refl _ _) (rfl)
            · intro vs w' K hJ hR hK
              rw [if_pos (by rfl)]
              go_step
              exact hK.out _ _ (Below.refl _ _) (rfl)
            · intro vs w' K hJ hR hK
              simp only [DepJ, List.getD_cons_zero, List.getD_cons_succ] at hJ
              obtain ⟨j0, j1, -⟩ := hJ
              simp only [j0, j1] at hK ⊢
              rw [if_pos (by rfl)]
              go_step
              exact hK.out _ _ (Below.refl _ _) (rfl)
            · intro vs w' K hJ hR hK
              simp only [DepJ, List.getD_cons_zero, List.getD_cons_succ] at hJ
              obtain ⟨j2, -⟩ := hJ
              simp only [j2] at hK ⊢
              rw [if_pos (by rfl)]
              have C := Hp.facts (Hp.step H.drew hR)
              simp only [Facts, factsL, and_true, true_and, List.set_cons_zero, List.set_cons_succ, List.setIfInBounds_toArray] at C
              go_step
              exact hK.out _ _ (Below.refl _ _) rfl
            · intro vs w' K hJ hR hK
              rw [if_pos (by rfl)]
              go_step
              exact hK.out _ _ (Below.refl _ _) (rfl)
            · intro vs w' K hJ hR hK
              rw [if_pos (by rfl)]
              go_step
              exact hK.out _ _ (Below.refl _ _) (rfl)
            · intro vs w' K hJ hR hK
              simp only [DepJ, List.getD_cons_zero, List.getD_cons_succ] at hJ
              obtain ⟨j4, j5, -⟩ := hJ
              simp only [j4, j5] at hK ⊢
              rw [if_pos (by rfl)]
              go_step
              exact hK.out _ _ (Below.refl _ _) (rfl)
            · intro vs w' K hJ hR hK
              simp only [DepJ, List.getD_cons_zero, List.getD_cons_succ] at hJ
              obtain ⟨j6, -⟩ := hJ
              simp only [j6] at hK ⊢
              rw [if_pos (by rfl)]
              have C := Hp.facts (Hp.step H.drew hR)
              simp only [Facts, factsL, and_true, true_and, List.set_cons_zero, List.set_cons_succ, List.setIfInBounds_toArray] at C
              go_step
              exact hK.out _ _ (Below.refl _ _) rfl
            · intro vs w' K hJ hR hK
              simp only [DepJ, List.getD_cons_zero, List.getD_cons_succ] at hJ
              obtain ⟨j3, j7, -⟩ := hJ
              simp only [j3, j7] at hK ⊢
              rw [if_pos (by rfl)]
              go_step
              exact hK.out _ _ (Below.refl _ _) (by rw [u8_differ ge.out])
          intro vs w' hJ hR
          simp only [AllJ, Nat.reduceAdd] at hJ
          obtain ⟨v0, v1, v2, v3, v4, v5, v6, v7, v8, -⟩ := hJ
          simp only [v8]
          have H' := Hp.step H.drew hR
          ((try simp only [List.set_cons_zero, List.set_cons_succ, List.setIfInBounds_toArray] at H'); clear C H; have H := H'; clear H'; have C := Hp.facts H; simp only [Facts, factsL, and_true, true_and, List.set_cons_zero, List.set_cons_succ, List.setIfInBounds_toArray] at C)
          clear v0 v1 v2 v3 v4 v5 v6 v7 v8
          (repeat' ((fail_if_success (with_reducible show bodyPost _ _ _ _ _ _)); first | ((with_reducible refine Hp.abs_alloc H ?_); intro b' w' H' hb'; (try simp only [hb']); clear hb'; ((try simp only [List.set_cons_zero, List.set_cons_succ, List.setIfInBounds_toArray] at H'); clear C H; have H := H'; clear H'; have C := Hp.facts H; simp only [Facts, factsL, and_true, true_and, List.set_cons_zero, List.set_cons_succ, List.setIfInBounds_toArray] at C)) | ((with_reducible show wpList _ _ _ _ _ (World.setCell _ _ _)); (with_reducible apply Hp.abs_gen H); (first | ((repeat (with_reducible apply Hp.set' 0)); (with_reducible exact H); (repeat rfl); intro w' H') | ((repeat (with_reducible apply Hp.set' 1)); (with_reducible exact H); (repeat rfl); intro w' H') | ((repeat (with_reducible apply Hp.set' 2)); (with_reducible exact H); (repeat rfl); intro w' H') | ((repeat (with_reducible apply Hp.set' 3)); (with_reducible exact H); (repeat rfl); intro w' H') | ((repeat (with_reducible apply Hp.set' 4)); (with_reducible exact H); (repeat rfl); intro w' H') | ((repeat (with_reducible apply Hp.set' 5)); (with_reducible exact H); (repeat rfl); intro w' H') | ((repeat (with_reducible apply Hp.set' 6)); (with_reducible exact H); (repeat rfl); intro w' H') | ((repeat (with_reducible apply Hp.set' 7)); (with_reducible exact H); (repeat rfl); intro w' H')); ((try simp only [List.set_cons_zero, List.set_cons_succ, List.setIfInBounds_toArray] at H'); clear C H; have H := H'; clear H'; have C := Hp.facts H; simp only [Facts, factsL, and_true, true_and, List.set_cons_zero, List.set_cons_succ, List.setIfInBounds_toArray] at C)) | go_values | go_skip | go_guarded | go_step | go_upon | go_back | (simp only [Int.not_lt, Int.not_le] at *; go_simp) | (go_values <;> (try go_simp)) | (go_ite <;> go_prune <;> (try go_simp)) | (split <;> (first | (rename_i hx; exact (hx _ rfl).elim) | go_prune))))
          go_ret
          exact ⟨ret_int (by rw [comm_at l m k (by omega) (by omega) HK.out (.inr (.inr ⟨k1, k2, ge.out⟩))]), H.low⟩
      · obtain rfl : k = m.length := by omega
        (repeat' ((fail_if_success (with_reducible show bodyPost _ _ _ _ _ _)); first | ((with_reducible refine Hp.abs_alloc H ?_); intro b' w' H' hb'; (try simp only [hb']); clear hb'; ((try simp only [List.set_cons_zero, List.set_cons_succ, List.setIfInBounds_toArray] at H'); clear C H; have H := H'; clear H'; have C := Hp.facts H; simp only [Facts, factsL, and_true, true_and, List.set_cons_zero, List.set_cons_succ, List.setIfInBounds_toArray] at C)) | ((with_reducible show wpList _ _ _ _ _ (World.setCell _ _ _)); (with_reducible apply Hp.abs_gen H); (first | ((repeat (with_reducible apply Hp.set' 0)); (with_reducible exact H); (repeat rfl); intro w' H') | ((repeat (with_reducible apply Hp.set' 1)); (with_reducible exact H); (repeat rfl); intro w' H') | ((repeat (with_reducible apply Hp.set' 2)); (with_reducible exact H); (repeat rfl); intro w' H') | ((repeat (with_reducible apply Hp.set' 3)); (with_reducible exact H); (repeat rfl); intro w' H') | ((repeat (with_reducible apply Hp.set' 4)); (with_reducible exact H); (repeat rfl); intro w' H') | ((repeat (with_reducible apply Hp.set' 5)); (with_reducible exact H); (repeat rfl); intro w' H') | ((repeat (with_reducible apply Hp.set' 6)); (with_reducible exact H); (repeat rfl); intro w' H') | ((repeat (with_reducible apply Hp.set' 7)); (with_reducible exact H); (repeat rfl); intro w' H')); ((try simp only [List.set_cons_zero, List.set_cons_succ, List.setIfInBounds_toArray] at H'); clear C H; have H := H'; clear H'; have C := Hp.facts H; simp only [Facts, factsL, and_true, true_and, List.set_cons_zero, List.set_cons_succ, List.setIfInBounds_toArray] at C)) | go_values | go_skip | go_guarded | go_step | go_upon | go_back | (simp only [Int.not_lt, Int.not_le] at *; go_simp) | (go_values <;> (try go_simp)) | (go_ite <;> go_prune <;> (try go_simp)) | (split <;> (first | (rename_i hx; exact (hx _ rfl).elim) | go_prune))))
        go_ret
        exact ⟨ret_int (by rw [comm_at l m _ (by omega) (by omega) HK.out (.inr (.inl rfl))]), H.low⟩
  · (repeat' ((fail_if_success (with_reducible show bodyPost _ _ _ _ _ _)); first | ((with_reducible refine Hp.abs_alloc H ?_); intro b' w' H' hb'; (try simp only [hb']); clear hb'; ((try simp only [List.set_cons_zero, List.set_cons_succ, List.setIfInBounds_toArray] at H'); clear C H; have H := H'; clear H'; have C := Hp.facts H; simp only [Facts, factsL, and_true, true_and, List.set_cons_zero, List.set_cons_succ, List.setIfInBounds_toArray] at C)) | ((with_reducible show wpList _ _ _ _ _ (World.setCell _ _ _)); (with_reducible apply Hp.abs_gen H); (first | ((repeat (with_reducible apply Hp.set' 0)); (with_reducible exact H); (repeat rfl); intro w' H') | ((repeat (with_reducible apply Hp.set' 1)); (with_reducible exact H); (repeat rfl); intro w' H') | ((repeat (with_reducible apply Hp.set' 2)); (with_reducible exact H); (repeat rfl); intro w' H') | ((repeat (with_reducible apply Hp.set' 3)); (with_reducible exact H); (repeat rfl); intro w' H') | ((repeat (with_reducible apply Hp.set' 4)); (with_reducible exact H); (repeat rfl); intro w' H') | ((repeat (with_reducible apply Hp.set' 5)); (with_reducible exact H); (repeat rfl); intro w' H') | ((repeat (with_reducible apply Hp.set' 6)); (with_reducible exact H); (repeat rfl); intro w' H') | ((repeat (with_reducible apply Hp.set' 7)); (with_reducible exact H); (repeat rfl); intro w' H')); ((try simp only [List.set_cons_zero, List.set_cons_succ, List.setIfInBounds_toArray] at H'); clear C H; have H := H'; clear H'; have C := Hp.facts H; simp only [Facts, factsL, and_true, true_and, List.set_cons_zero, List.set_cons_succ, List.setIfInBounds_toArray] at C)) | go_values | go_skip | go_guarded | go_step | go_upon | go_back | (simp only [Int.not_lt, Int.not_le] at *; go_simp) | (go_values <;> (try go_simp)) | (go_ite <;> go_prune <;> (try go_simp)) | (split <;> (first | (rename_i hx; exact (hx _ rfl).elim) | go_prune))))
    go_loopw [13] (fun ix wr => ∃ k : Nat, k ≤ l.length ∧ ix = .int .i64 k ∧ Hid (l.take k = m.take k) ∧ Hp w [] wr) (fun ix _ => l.length - (intOf ix).toNat)
    case atStart => exact ⟨0, Nat.zero_le _, rfl, rfl, H⟩
    case round =>
      clear H C
      obtain ⟨k, hk, rfl, HK, H⟩ := hrel
      have C := Hp.facts H
      simp only [Facts, factsL, and_true, true_and, List.set_cons_zero, List.set_cons_succ, List.setIfInBounds_toArray] at C
      by_cases hlt : k < l.length
      · have k1 : k < l.length := by omega
        have k2 : k < m.length := by omega
        obtain ⟨b, o, rfl, hbl, hc⟩ := hcell k k1
        obtain ⟨b2, o2, rfl, hbl2, hc2⟩ := hcell2 k k2
        (repeat' ((fail_if_success (with_reducible show bodyPost _ _ _ _ _ _)); first | ((with_reducible refine Hp.abs_alloc H ?_); intro b' w' H' hb'; (try simp only [hb']); clear hb'; ((try simp only [List.set_cons_zero, List.set_cons_succ, List.setIfInBounds_toArray] at H'); clear C H; have H := H'; clear H'; have C := Hp.facts H; simp only [Facts, factsL, and_true, true_and, List.set_cons_zero, List.set_cons_succ, List.setIfInBounds_toArray] at C)) | ((with_reducible show wpList _ _ _ _ _ (World.setCell _ _ _)); (with_reducible apply Hp.abs_gen H); (first | ((repeat (with_reducible apply Hp.set' 0)); (with_reducible exact H); (repeat rfl); intro w' H') | ((repeat (with_reducible apply Hp.set' 1)); (with_reducible exact H); (repeat rfl); intro w' H') | ((repeat (with_reducible apply Hp.set' 2)); (with_reducible exact H); (repeat rfl); intro w' H') | ((repeat (with_reducible apply Hp.set' 3)); (with_reducible exact H); (repeat rfl); intro w' H') | ((repeat (with_reducible apply Hp.set' 4)); (with_reducible exact H); (repeat rfl); intro w' H') | ((repeat (with_reducible apply Hp.set' 5)); (with_reducible exact H); (repeat rfl); intro w' H') | ((repeat (with_reducible apply Hp.set' 6)); (with_reducible exact H); (repeat rfl); intro w' H') | ((repeat (with_reducible apply Hp.set' 7)); (with_reducible exact H); (repeat rfl); intro w' H')); ((try simp only [List.set_cons_zero, List.set_cons_succ, List.setIfInBounds_toArray] at H'); clear C H; have H := H'; clear H'; have C := Hp.facts H; simp only [Facts, factsL, and_true, true_and, List.set_cons_zero, List.set_cons_succ, List.setIfInBounds_toArray] at C)) | go_values | go_skip | go_guarded | go_step | go_upon | go_back | (simp only [Int.not_lt, Int.not_le] at *; go_simp) | (go_values <;> (try go_simp)) | (go_ite <;> go_prune <;> (try go_simp)) | (split <;> (first | (rename_i hx; exact (hx _ rfl).elim) | go_prune))))
        by_cases he : l[k] = m[k]
        · have ge := Lib.hid he
          clear he
          refine region_b 28 [some 16, some 17, some 18, some 19, some 20, some 21, some 22, some 23, some 24] [[], [], [0, 1], [2], [], [], [4, 5], [6], [3, 7]] [fun v _ => v = .slice (some ⟨b, o, none⟩) l.length c, fun v _ => v = .int .i64 (k : Int), fun v _ => v = .pointer (some ⟨b, o + k, none⟩), fun v _ => v = .int .u8 (l[k].toNat : Int), fun v _ => v = .slice (some ⟨b2, o2, none⟩) m.length c2, fun v _ => v = .int .i64 (k : Int), fun v _ => v = .pointer (some ⟨b2, o2 + k, none⟩), fun v _ => v = .int .u8 (m[k].toNat : Int), fun v _ => v = .bool false] (by kernel_rfl) (by kernel_rfl) rfl (by kernel_rfl) rfl _ (fun vs => (by simp only [fillD, Nat.reduceAdd, Act.put, List.setIfInBounds_toArray, List.set_cons_zero, List.set_cons_succ]; rfl)) ?_ ?_ ?_
          · refine ⟨fun _ _ _ _ h => h, fun _ _ _ _ h => h, fun _ _ _ _ h => h, fun _ _ _ _ h => h, fun _ _ _ _ h => h, fun _ _ _ _ h => h, fun _ _ _ _ h => h, fun _ _ _ _ h => h, fun _ _ _ _ h => h, trivial⟩
          · refine ⟨?_, ?_, ?_, ?_, ?_, ?_, ?_, ?_, ?_, trivial⟩
            · intro vs w' K hJ hR hK
              rw [if_pos (by rfl)]
              go_step
              exact hK.out _ _ (Below.refl _ _) (rfl)
            · intro vs w' K hJ hR hK
              rw [if_pos (by rfl)]
              go_step
              exact hK.out _ _ (Below.refl _ _) (rfl)
            · intro vs w' K hJ hR hK
              simp only [DepJ, List.getD_cons_zero, List.getD_cons_succ] at hJ
              obtain ⟨j0, j1, -⟩ := hJ
              simp only [j0, j1] at hK ⊢
              rw [if_pos (by rfl)]
              go_step
              exact hK.out _ _ (Below.refl _ _) (rfl)
            · intro vs w' K hJ hR hK
              simp only [DepJ, List.getD_cons_zero, List.getD_cons_succ] at hJ
              obtain ⟨j2, -⟩ := hJ
              simp only [j2] at hK ⊢
              rw [if_pos (by rfl)]
              have C := Hp.facts (Hp.step H.drew hR)
              simp only [Facts, factsL, and_true, true_and, List.set_cons_zero, List.set_cons_succ, List.setIfInBounds_toArray] at C
              go_step
              exact hK.out _ _ (Below.refl _ _) rfl
            · intro vs w' K hJ hR hK
              rw [if_pos (by rfl)]
              go_step
              exact hK.out _ _ (Below.refl _ _) (rfl)
            · intro vs w' K hJ hR hK
              rw [if_pos (by rfl)]
              go_step
              exact hK.out _ _ (Below.refl _ _) (rfl)
            · intro vs w' K hJ hR hK
              simp only [DepJ, List.getD_cons_zero, List.getD_cons_succ] at hJ
              obtain ⟨j4, j5, -⟩ := hJ
              simp only [j4, j5] at hK ⊢
              rw [if_pos (by rfl)]
              go_step
              exact hK.out _ _ (Below.refl _ _) (rfl)
            · intro vs w' K hJ hR hK
              simp only [DepJ, List.getD_cons_zero, List.getD_cons_succ] at hJ
              obtain ⟨j6, -⟩ := hJ
              simp only [j6] at hK ⊢
              rw [if_pos (by rfl)]
              have C := Hp.facts (Hp.step H.drew hR)
              simp only [Facts, factsL, and_true, true_and, List.set_cons_zero, List.set_cons_succ, List.setIfInBounds_toArray] at C
              go_step
              exact hK.out _ _ (Below.refl _ _) rfl
            · intro vs w' K hJ hR hK
              simp only [DepJ, List.getD_cons_zero, List.getD_cons_succ] at hJ
              obtain ⟨j3, j7, -⟩ := hJ
              simp only [j3, j7] at hK ⊢
              rw [if_pos (by rfl)]
              go_step
              exact hK.out _ _ (Below.refl _ _) (by rw [u8_same ge.out])
          intro vs w' hJ hR
          simp only [AllJ, Nat.reduceAdd] at hJ
          obtain ⟨v0, v1, v2, v3, v4, v5, v6, v7, v8, -⟩ := hJ
          simp only [v8]
          have H' := Hp.step H.drew hR
          ((try simp only [List.set_cons_zero, List.set_cons_succ, List.setIfInBounds_toArray] at H'); clear C H; have H := H'; clear H'; have C := Hp.facts H; simp only [Facts, factsL, and_true, true_and, List.set_cons_zero, List.set_cons_succ, List.setIfInBounds_toArray] at C)
          clear v0 v1 v2 v3 v4 v5 v6 v7 v8
          (repeat' ((fail_if_success (with_reducible show bodyPost _ _ _ _ _ _)); first | ((with_reducible refine Hp.abs_alloc H ?_); intro b' w' H' hb'; (try simp only [hb']); clear hb'; ((try simp only [List.set_cons_zero, List.set_cons_succ, List.setIfInBounds_toArray] at H'); clear C H; have H := H'; clear H'; have C := Hp.facts H; simp only [Facts, factsL, and_true, true_and, List.set_cons_zero, List.set_cons_succ, List.setIfInBounds_toArray] at C)) | ((with_reducible show wpList _ _ _ _ _ (World.setCell _ _ _)); (with_reducible apply Hp.abs_gen H); (first | ((repeat (with_reducible apply Hp.set' 0)); (with_reducible exact H); (repeat rfl); intro w' H') | ((repeat (with_reducible apply Hp.set' 1)); (with_reducible exact H); (repeat rfl); intro w' H') | ((repeat (with_reducible apply Hp.set' 2)); (with_reducible exact H); (repeat rfl); intro w' H') | ((repeat (with_reducible apply Hp.set' 3)); (with_reducible exact H); (repeat rfl); intro w' H') | ((repeat (with_reducible apply Hp.set' 4)); (with_reducible exact H); (repeat rfl); intro w' H') | ((repeat (with_reducible apply Hp.set' 5)); (with_reducible exact H); (repeat rfl); intro w' H') | ((repeat (with_reducible apply Hp.set' 6)); (with_reducible exact H); (repeat rfl); intro w' H') | ((repeat (with_reducible apply Hp.set' 7)); (with_reducible exact H); (repeat rfl); intro w' H')); ((try simp only [List.set_cons_zero, List.set_cons_succ, List.setIfInBounds_toArray] at H'); clear C H; have H := H'; clear H'; have C := Hp.facts H; simp only [Facts, factsL, and_true, true_and, List.set_cons_zero, List.set_cons_succ, List.setIfInBounds_toArray] at C)) | go_values | go_skip | go_guarded | go_step | go_upon | go_back | (simp only [Int.not_lt, Int.not_le] at *; go_simp) | (go_values <;> (try go_simp)) | (go_ite <;> go_prune <;> (try go_simp)) | (split <;> (first | (rename_i hx; exact (hx _ rfl).elim) | go_prune))))
          exact ⟨⟨k + 1, by omega, by go_num, take_alike l m k k1 k2 HK.out ge.out, H⟩, by simp [intOf]; omega⟩
        · have ge := Lib.hid he
          clear he
          refine region_b 28 [some 16, some 17, some 18, some 19, some 20, some 21, some 22, some 23, some 24] [[], [], [0, 1], [2], [], [], [4, 5], [6], [3, 7]] [fun v _ => v = .slice (some ⟨b, o, none⟩) l.length c, fun v _ => v = .int .i64 (k : Int), fun v _ => v = .pointer (some ⟨b, o + k, none⟩), fun v _ => v = .int .u8 (l[k].toNat : Int), fun v _ => v = .slice (some ⟨b2, o2, none⟩) m.length c2, fun v _ => v = .int .i64 (k : Int), fun v _ => v = .pointer (some ⟨b2, o2 + k, none⟩), fun v _ => v = .int .u8 (m[k].toNat : Int), fun v _ => v = .bool true] (by kernel_rfl) (by kernel_rfl) rfl (by kernel_rfl) rfl _ (fun vs => (by simp only [fillD, Nat.reduceAdd, Act.put, List.setIfInBounds_toArray, List.set_cons_zero, List.set_cons_succ]; rfl)) ?_ ?_ ?_
          · refine ⟨fun _ _ _ _ h => h, fun _ _ _ _ h => h, fun _ _ _ _ h => h, fun _ _ _ _ h => h, fun _ _ _ _ h => h, fun _ _ _ _ h => h, fun _ _ _ _ h => h, fun _ _ _ _ h => h, fun _ _ _ _ h => h, trivial⟩
          · refine ⟨?_, ?_, ?_, ?_, ?_, ?_, ?_, ?_, ?_, trivial⟩
            · intro vs w' K hJ hR hK
              rw [if_pos (by rfl)]
              go_step
              exact hK.out _ _ (Below.refl _ _) (rfl)
            · intro vs w' K hJ hR hK
              rw [if_pos (by rfl)]
              go_step
              exact hK.out _ _ (Below.refl _ _) (rfl)
            · intro vs w' K hJ hR hK
              simp only [DepJ, List.getD_cons_zero, List.getD_cons_succ] at hJ
              obtain ⟨j0, j1, -⟩ := hJ
              simp only [j0, j1] at hK ⊢
              rw [if_pos (by rfl)]
              go_step
              exact hK.out _ _ (Below.refl _ _) (rfl)
            · intro vs w' K hJ hR hK
              simp only [DepJ, List.getD_cons_zero, List.getD_cons_succ] at hJ
              obtain ⟨j2, -⟩ := hJ
              simp only [j2] at hK ⊢
              rw [if_pos (by rfl)]
              have C := Hp.facts (Hp.step H.drew hR)
              simp only [Facts, factsL, and_true, true_and, List.set_cons_zero, List.set_cons_succ, List.setIfInBounds_toArray] at C
              go_step
              exact hK.out _ _ (Below.refl _ _) rfl
            · intro vs w' K hJ hR hK
              rw [if_pos (by rfl)]
              go_step
              exact hK.out _ _ (Below.refl _ _) (rfl)
            · intro vs w' K hJ hR hK
              rw [if_pos (by rfl)]
              go_step
              exact hK.out _ _ (Below.refl _ _) (rfl)
            · intro vs w' K hJ hR hK
              simp only [DepJ, List.getD_cons_zero, List.getD_cons_succ] at hJ
              obtain ⟨j4, j5, -⟩ := hJ
              simp only [j4, j5] at hK ⊢
              rw [if_pos (by rfl)]
              go_step
              exact hK.out _ _ (Below.refl _ _) (rfl)
            · intro vs w' K hJ hR hK
              simp only [DepJ, List.getD_cons_zero, List.getD_cons_succ] at hJ
              obtain ⟨j6, -⟩ := hJ
              simp only [j6] at hK ⊢
              rw [if_pos (by rfl)]
              have C := Hp.facts (Hp.step H.drew hR)
              simp only [Facts, factsL, and_true, true_and, List.set_cons_zero, List.set_cons_succ, List.setIfInBounds_toArray] at C
              go_step
              exact hK.out _ _ (Below.refl _ _) rfl
            · intro vs w' K hJ hR hK
              simp only [DepJ, List.getD_cons_zero, List.getD_cons_succ] at hJ
              obtain ⟨j3, j7, -⟩ := hJ
              simp only [j3, j7] at hK ⊢
              rw [if_pos (by rfl)]
              go_step
              exact hK.out _ _ (Below.refl _ _) (by rw [u8_differ ge.out])
          intro vs w' hJ hR
          simp only [AllJ, Nat.reduceAdd] at hJ
          obtain ⟨v0, v1, v2, v3, v4, v5, v6, v7, v8, -⟩ := hJ
          simp only [v8]
          have H' := Hp.step H.drew hR
          ((try simp only [List.set_cons_zero, List.set_cons_succ, List.setIfInBounds_toArray] at H'); clear C H; have H := H'; clear H'; have C := Hp.facts H; simp only [Facts, factsL, and_true, true_and, List.set_cons_zero, List.set_cons_succ, List.setIfInBounds_toArray] at C)
          clear v0 v1 v2 v3 v4 v5 v6 v7 v8
          (repeat' ((fail_if_success (with_reducible show bodyPost _ _ _ _ _ _)); first | ((with_reducible refine Hp.abs_alloc H ?_); intro b' w' H' hb'; (try simp only [hb']); clear hb'; ((try simp only [List.set_cons_zero, List.set_cons_succ, List.setIfInBounds_toArray] at H'); clear C H; have H := H'; clear H'; have C := Hp.facts H; simp only [Facts, factsL, and_true, true_and, List.set_cons_zero, List.set_cons_succ, List.setIfInBounds_toArray] at C)) | ((with_reducible show wpList _ _ _ _ _ (World.setCell _ _ _)); (with_reducible apply Hp.abs_gen H); (first | ((repeat (with_reducible apply Hp.set' 0)); (with_reducible exact H); (repeat rfl); intro w' H') | ((repeat (with_reducible apply Hp.set' 1)); (with_reducible exact H); (repeat rfl); intro w' H') | ((repeat (with_reducible apply Hp.set' 2)); (with_reducible exact H); (repeat rfl); intro w' H') | ((repeat (with_reducible apply Hp.set' 3)); (with_reducible exact H); (repeat rfl); intro w' H') | ((repeat (with_reducible apply Hp.set' 4)); (with_reducible exact H); (repeat rfl); intro w' H') | ((repeat (with_reducible apply Hp.set' 5)); (with_reducible exact H); (repeat rfl); intro w' H') | ((repeat (with_reducible apply Hp.set' 6)); (with_reducible exact H); (repeat rfl); intro w' H') | ((repeat (with_reducible apply Hp.set' 7)); (with_reducible exact H); (repeat rfl); intro w' H')); ((try simp only [List.set_cons_zero, List.set_cons_succ, List.setIfInBounds_toArray] at H'); clear C H; have H := H'; clear H'; have C := Hp.facts H; simp only [Facts, factsL, and_true, true_and, List.set_cons_zero, List.set_cons_succ, List.setIfInBounds_toArray] at C)) | go_values | go_skip | go_guarded | go_step | go_upon | go_back | (simp only [Int.not_lt, Int.not_le] at *; go_simp) | (go_values <;> (try go_simp)) | (go_ite <;> go_prune <;> (try go_simp)) | (split <;> (first | (rename_i hx; exact (hx _ rfl).elim) | go_prune))))
          go_ret
          exact ⟨ret_int (by rw [comm_at l m k (by omega) (by omega) HK.out (.inr (.inr ⟨k1, k2, ge.out⟩))]), H.low⟩
      · obtain rfl : k = l.length := by omega
        (repeat' ((fail_if_success (with_reducible show bodyPost _ _ _ _ _ _)); first | ((with_reducible refine Hp.abs_alloc H ?_); intro b' w' H' hb'; (try simp only [hb']); clear hb'; ((try simp only [List.set_cons_zero, List.set_cons_succ, List.setIfInBounds_toArray] at H'); clear C H; have H := H'; clear H'; have C := Hp.facts H; simp only [Facts, factsL, and_true, true_and, List.set_cons_zero, List.set_cons_succ, List.setIfInBounds_toArray] at C)) | ((with_reducible show wpList _ _ _ _ _ (World.setCell _ _ _)); (with_reducible apply Hp.abs_gen H); (first | ((repeat (with_reducible apply Hp.set' 0)); (with_reducible exact H); (repeat rfl); intro w' H') | ((repeat (with_reducible apply Hp.set' 1)); (with_reducible exact H); (repeat rfl); intro w' H') | ((repeat (with_reducible apply Hp.set' 2)); (with_reducible exact H); (repeat rfl); intro w' H') | ((repeat (with_reducible apply Hp.set' 3)); (with_reducible exact H); (repeat rfl); intro w' H') | ((repeat (with_reducible apply Hp.set' 4)); (with_reducible exact H); (repeat rfl); intro w' H') | ((repeat (with_reducible apply Hp.set' 5)); (with_reducible exact H); (repeat rfl); intro w' H') | ((repeat (with_reducible apply Hp.set' 6)); (with_reducible exact H); (repeat rfl); intro w' H') | ((repeat (with_reducible apply Hp.set' 7)); (with_reducible exact H); (repeat rfl); intro w' H')); ((try simp only [List.set_cons_zero, List.set_cons_succ, List.setIfInBounds_toArray] at H'); clear C H; have H := H'; clear H'; have C := Hp.facts H; simp only [Facts, factsL, and_true, true_and, List.set_cons_zero, List.set_cons_succ, List.setIfInBounds_toArray] at C)) | go_values | go_skip | go_guarded | go_step | go_upon | go_back | (simp only [Int.not_lt, Int.not_le] at *; go_simp) | (go_values <;> (try go_simp)) | (go_ite <;> go_prune <;> (try go_simp)) | (split <;> (first | (rename_i hx; exact (hx _ rfl).elim) | go_prune))))
        go_ret
        exact ⟨ret_int (by rw [comm_at l m _ (by omega) (by omega) HK.out (.inl rfl)]), H.low⟩
end Go.Proofs.YtmmjghdobdendaaDoor

