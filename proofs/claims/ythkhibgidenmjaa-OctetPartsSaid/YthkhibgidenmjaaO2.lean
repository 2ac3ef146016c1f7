/- Lemmas and walks on the way to the seat's laws; each theorem says its own conditions. -/
import Derived.Test.YthkhibgidenmjaaO1
import Derived.Test.YthkhibgidenmjaaRegT
set_option linter.unusedSimpArgs false
set_option linter.unusedVariables false
namespace Go.Proofs.Ythkhibgidenmjaa
open Go.RowKit Go.Mem Go.Reg Oct
theorem hexS_at : ∀ (n : Nat) (h : n < 16), (((⟨#[48, 49, 50, 51, 52, 53, 54, 55, 56, 57, 97, 98, 99, 100, 101, 102]⟩ : ByteArray)[n]'h).toNat : Int) = digI n := by decide
set_option maxHeartbeats 1000000 in
theorem rhex_any (l : List UInt8) (v : Value) (w : World) (hb : Bs w v l) (hl : l.length ≤ 100000) :
    Calls Try.prog 14 #[v] w fun e w' => e = .returned (.string ⟨(hexL l).toArray⟩) ∧ Below w.heap.size w w' := by
  obtain ⟨i0, hi, hz0, hz1, hz2⟩ := info_parts info_u8
  obtain ⟨A, c, rfl, hlc, hcm, hA, hcell⟩ := hb.open
  have H := Hp.start w
  have C : True := trivial
  go_enter Try.func14, Try.ntmps14
  (repeat' ((fail_if_success (with_reducible show bodyPost _ _ _ _ _ _)); first | ((with_reducible refine Hp.abs_alloc H ?_); intro b' w' H' hb'; (try simp only [hb']); clear hb'; ((try simp only [List.set_cons_zero, List.set_cons_succ, List.setIfInBounds_toArray] at H'); clear C H; have H := H'; clear H'; have C := Hp.facts H; simp only [Facts, factsL, and_true, true_and, List.set_cons_zero, List.set_cons_succ, List.setIfInBounds_toArray] at C)) | ((with_reducible show wpList _ _ _ _ _ (World.setCell _ _ _)); first | ((with_reducible apply Hp.abs_gen H); (repeat (with_reducible apply Hp.set' 0)); (with_reducible exact H); (repeat rfl); intro w' H'; ((try simp only [List.set_cons_zero, List.set_cons_succ, List.setIfInBounds_toArray] at H'); clear C H; have H := H'; clear H'; have C := Hp.facts H; simp only [Facts, factsL, and_true, true_and, List.set_cons_zero, List.set_cons_succ, List.setIfInBounds_toArray] at C)) | ((with_reducible apply Hp.abs_gen H); (repeat (with_reducible apply Hp.set' 1)); (with_reducible exact H); (repeat rfl); intro w' H'; ((try simp only [List.set_cons_zero, List.set_cons_succ, List.setIfInBounds_toArray] at H'); clear C H; have H := H'; clear H'; have C := Hp.facts H; simp only [Facts, factsL, and_true, true_and, List.set_cons_zero, List.set_cons_succ, List.setIfInBounds_toArray] at C)) | ((with_reducible apply Hp.abs_gen H); (repeat (with_reducible apply Hp.set' 2)); (with_reducible exact H); (repeat rfl); intro w' H'; ((try simp only [List.set_cons_zero, List.set_cons_succ, List.setIfInBounds_toArray] at H'); clear C H; have H := H'; clear H'; have C := Hp.facts H; simp only [Facts, factsL, and_true, true_and, List.set_cons_zero, List.set_cons_succ, List.setIfInBounds_toArray] at C)) | ((with_reducible apply Hp.abs_gen H); (repeat (with_reducible apply Hp.set' 3)); (with_reducible exact H); (repeat rfl); intro w' H'; ((try simp only [List.set_cons_zero, List.set_cons_succ, List.setIfInBounds_toArray] at H'); clear C H; have H := H'; clear H'; have C := Hp.facts H; simp only [Facts, factsL, and_true, true_and, List.set_cons_zero, List.set_cons_succ, List.setIfInBounds_toArray] at C)) | ((with_reducible apply Hp.abs_gen H); (repeat (with_reducible apply Hp.set' 4)); (with_reducible exact H); (repeat rfl); intro w' H'; ((try simp only [List.set_cons_zero, List.set_cons_succ, List.setIfInBounds_toArray] at H'); clear C H; have H := H'; clear H'; have C := Hp.facts H; simp only [Facts, factsL, and_true, true_and, List.set_cons_zero, List.set_cons_succ, List.setIfInBounds_toArray] at C)) | ((with_reducible apply Hp.abs_gen H); (repeat (with_reducible apply Hp.set' 5)); (with_reducible exact H); (repeat rfl); intro w' H'; ((try simp only [List.set_cons_zero, List.set_cons_succ, List.setIfInBounds_toArray] at H'); clear C H; have H := H'; clear H'; have C := Hp.facts H; simp only [Facts, factsL, and_true, true_and, List.set_cons_zero, List.set_cons_succ, List.setIfInBounds_toArray] at C)) | ((with_reducible apply Hp.abs_gen H); (repeat (with_reducible apply Hp.set' 6)); (with_reducible exact H); (repeat rfl); intro w' H'; ((try simp only [List.set_cons_zero, List.set_cons_succ, List.setIfInBounds_toArray] at H'); clear C H; have H := H'; clear H'; have C := Hp.facts H; simp only [Facts, factsL, and_true, true_and, List.set_cons_zero, List.set_cons_succ, List.setIfInBounds_toArray] at C)) | ((with_reducible apply Hp.abs_gen H); (repeat (with_reducible apply Hp.set' 7)); (with_reducible exact H); (repeat rfl); intro w' H'; ((try simp only [List.set_cons_zero, List.set_cons_succ, List.setIfInBounds_toArray] at H'); clear C H; have H := H'; clear H'; have C := Hp.facts H; simp only [Facts, factsL, and_true, true_and, List.set_cons_zero, List.set_cons_succ, List.setIfInBounds_toArray] at C))) | go_values | go_skip | go_guarded | go_step | go_upon | go_back | (simp only [Int.not_lt, Int.not_le] at *; go_simp) | (go_values <;> (try go_simp)) | (go_ite <;> go_prune <;> (try go_simp)) | (split <;> (first | (rename_i hx; exact (hx _ rfl).elim) | go_prune))))
  have H := H.nilRow 5 1
  go_loopw [3, 4] (fun out ix wr => ∃ k : Nat, k ≤ l.length ∧ ix = .int .i64 k ∧ Hp w [.row 5 1 out (2 * k) ((hexL (l.take k)).map u8c)] wr) (fun _ ix _ => l.length - (intOf ix).toNat)
  case atStart => exact ⟨0, Nat.zero_le _, rfl, by simpa [hexL] using H⟩
  case round =>
    clear H C
    obtain ⟨k, hk, rfl, H⟩ := hrel
    have C := Hp.facts H
    simp only [Facts, factsL, and_true, true_and, List.set_cons_zero, List.set_cons_succ, List.setIfInBounds_toArray] at C
    by_cases hlt : k < l.length
    · obtain ⟨b, o, rfl, hbl, hc⟩ := hcell k hlt
      have hu := l[k].toNat_lt
      have q1 : (0 : Int) ≤ (l[k].toNat : Int) / 16 := by omega
      have q2 : (l[k].toNat : Int) / 16 < 16 := by omega
      have q3 : (0 : Int) ≤ (l[k].toNat : Int) % 16 := by omega
      have q4 : (l[k].toNat : Int) % 16 < 16 := by omega
      have eS := Lib.hid (hexL_snoc l k hlt)
      have eX := Lib.hid (hex1_cells l[k])
      (repeat' ((fail_if_success (with_reducible show bodyPost _ _ _ _ _ _)); first | ((with_reducible refine Hp.abs_alloc H ?_); intro b' w' H' hb'; (try simp only [hb']); clear hb'; ((try simp only [List.set_cons_zero, List.set_cons_succ, List.setIfInBounds_toArray] at H'); clear C H; have H := H'; clear H'; have C := Hp.facts H; simp only [Facts, factsL, and_true, true_and, List.set_cons_zero, List.set_cons_succ, List.setIfInBounds_toArray] at C)) | ((with_reducible show wpList _ _ _ _ _ (World.setCell _ _ _)); first | ((with_reducible apply Hp.abs_gen H); (repeat (with_reducible apply Hp.set' 0)); (with_reducible exact H); (repeat rfl); intro w' H'; ((try simp only [List.set_cons_zero, List.set_cons_succ, List.setIfInBounds_toArray] at H'); clear C H; have H := H'; clear H'; have C := Hp.facts H; simp only [Facts, factsL, and_true, true_and, List.set_cons_zero, List.set_cons_succ, List.setIfInBounds_toArray] at C)) | ((with_reducible apply Hp.abs_gen H); (repeat (with_reducible apply Hp.set' 1)); (with_reducible exact H); (repeat rfl); intro w' H'; ((try simp only [List.set_cons_zero, List.set_cons_succ, List.setIfInBounds_toArray] at H'); clear C H; have H := H'; clear H'; have C := Hp.facts H; simp only [Facts, factsL, and_true, true_and, List.set_cons_zero, List.set_cons_succ, List.setIfInBounds_toArray] at C)) | ((with_reducible apply Hp.abs_gen H); (repeat (with_reducible apply Hp.set' 2)); (with_reducible exact H); (repeat rfl); intro w' H'; ((try simp only [List.set_cons_zero, List.set_cons_succ, List.setIfInBounds_toArray] at H'); clear C H; have H := H'; clear H'; have C := Hp.facts H; simp only [Facts, factsL, and_true, true_and, List.set_cons_zero, List.set_cons_succ, List.setIfInBounds_toArray] at C)) | ((with_reducible apply Hp.abs_gen H); (repeat (with_reducible apply Hp.set' 3)); (with_reducible exact H); (repeat rfl); intro w' H'; ((try simp only [List.set_cons_zero, List.set_cons_succ, List.setIfInBounds_toArray] at H'); clear C H; have H := H'; clear H'; have C := Hp.facts H; simp only [Facts, factsL, and_true, true_and, List.set_cons_zero, List.set_cons_succ, List.setIfInBounds_toArray] at C)) | ((with_reducible apply Hp.abs_gen H); (repeat (with_reducible apply Hp.set' 4)); (with_reducible exact H); (repeat rfl); intro w' H'; ((try simp only [List.set_cons_zero, List.set_cons_succ, List.setIfInBounds_toArray] at H'); clear C H; have H := H'; clear H'; have C := Hp.facts H; simp only [Facts, factsL, and_true, true_and, List.set_cons_zero, List.set_cons_succ, List.setIfInBounds_toArray] at C)) | ((with_reducible apply Hp.abs_gen H); (repeat (with_reducible apply Hp.set' 5)); (with_reducible exact H); (repeat rfl); intro w' H'; ((try simp only [List.set_cons_zero, List.set_cons_succ, List.setIfInBounds_toArray] at H'); clear C H; have H := H'; clear H'; have C := Hp.facts H; simp only [Facts, factsL, and_true, true_and, List.set_cons_zero, List.set_cons_succ, List.setIfInBounds_toArray] at C)) | ((with_reducible apply Hp.abs_gen H); (repeat (with_reducible apply Hp.set' 6)); (with_reducible exact H); (repeat rfl); intro w' H'; ((try simp only [List.set_cons_zero, List.set_cons_succ, List.setIfInBounds_toArray] at H'); clear C H; have H := H'; clear H'; have C := Hp.facts H; simp only [Facts, factsL, and_true, true_and, List.set_cons_zero, List.set_cons_succ, List.setIfInBounds_toArray] at C)) | ((with_reducible apply Hp.abs_gen H); (repeat (with_reducible apply Hp.set' 7)); (with_reducible exact H); (repeat rfl); intro w' H'; ((try simp only [List.set_cons_zero, List.set_cons_succ, List.setIfInBounds_toArray] at H'); clear C H; have H := H'; clear H'; have C := Hp.facts H; simp only [Facts, factsL, and_true, true_and, List.set_cons_zero, List.set_cons_succ, List.setIfInBounds_toArray] at C))) | go_values | go_skip | go_guarded | go_step | go_upon | go_back | (simp only [Int.not_lt, Int.not_le] at *; go_simp) | (go_values <;> (try go_simp)) | (go_ite <;> go_prune <;> (try go_simp)) | (split <;> (first | (rename_i hx; exact (hx _ rfl).elim) | go_prune))))
      obtain ⟨w3, rfl⟩ := Hp.nameW H
      refine region_bt 14 28 [14, 3, 3, 4, 5, 6, 13, 9, 9, 10, 11, 12, 13, 14] [some 11, some 12, some 13, some 14, some 15, some 16, some 17, some 18, some 19, some 20, some 21, some 22, some 23, some 24] [[], [], [], [1, 2], [3], [4], [5], [], [], [7, 8], [9], [10], [11], [6, 12]] [fun v _ => v = u3, fun v _ => v = .slice (some ⟨b, o, none⟩) l.length c, fun v _ => v = .int .i64 (k : Int), fun v _ => v = .pointer (some ⟨b, o + k, none⟩), fun v _ => v = .int .u8 (l[k].toNat : Int), fun v _ => v = .int .u8 ((l[k].toNat : Int) / 16), fun v _ => v = .int .u8 (digI ((l[k].toNat : Int) / 16)), fun v _ => v = .slice (some ⟨b, o, none⟩) l.length c, fun v _ => v = .int .i64 (k : Int), fun v _ => v = .pointer (some ⟨b, o + k, none⟩), fun v _ => v = .int .u8 (l[k].toNat : Int), fun v _ => v = .int .u8 ((l[k].toNat : Int) % 16), fun v _ => v = .int .u8 (digI ((l[k].toNat : Int) % 16)), NewSl w3.heap.size 2 #[.int .u8 (digI ((l[k].toNat : Int) / 16)), .int .u8 (digI ((l[k].toNat : Int) % 16))] 5] (by kernel_rfl) (by kernel_rfl) (by kernel_rfl) rfl (by kernel_rfl) rfl _ (fun vs => (by simp only [fillD, Nat.reduceAdd, Act.put, List.setIfInBounds_toArray, List.set_cons_zero, List.set_cons_succ]; rfl)) ?_ ?_ ?_
      · refine ⟨fun _ _ _ _ h => h, fun _ _ _ _ h => h, fun _ _ _ _ h => h, fun _ _ _ _ h => h, fun _ _ _ _ h => h, fun _ _ _ _ h => h, fun _ _ _ _ h => h, fun _ _ _ _ h => h, fun _ _ _ _ h => h, fun _ _ _ _ h => h, fun _ _ _ _ h => h, fun _ _ _ _ h => h, fun _ _ _ _ h => h, fun _ _ _ hr h => h.stay fun k _ hl => hr.block k hl, trivial⟩
      · refine ⟨?_, ?_, ?_, ?_, ?_, ?_, ?_, ?_, ?_, ?_, ?_, ?_, ?_, ?_, trivial⟩
        · intro vs w' K hJ hR hK
          rw [if_pos (by rfl)]
          go_step
          exact hK.out _ _ (Below.refl _ _) (rfl)
        · intro vs w' K hJ hR hK
          rw [if_pos (by rfl)]
          go_step
          exact hK.out _ _ (Below.refl _ _) (rfl)
        · intro vs w' K hJ hR hK
          rw [if_pos (by rfl)]
          go_step
          exact hK.out _ _ (Below.refl _ _) (rfl)
        · intro vs w' K hJ hR hK
          simp only [DepJ, List.getD_cons_zero, List.getD_cons_succ] at hJ
          obtain ⟨j1, j2, -⟩ := hJ
          simp only [j1, j2] at hK ⊢
          rw [if_pos (by rfl)]
          go_step
          exact hK.out _ _ (Below.refl _ _) (rfl)
        · intro vs w' K hJ hR hK
          simp only [DepJ, List.getD_cons_zero, List.getD_cons_succ] at hJ
          obtain ⟨j3, -⟩ := hJ
          simp only [j3] at hK ⊢
          rw [if_pos (by rfl)]
          have C := Hp.facts (Hp.step H.drew hR)
          simp only [Facts, factsL, and_true, true_and, List.set_cons_zero, List.set_cons_succ, List.setIfInBounds_toArray] at C
          go_step
          exact hK.out _ _ (Below.refl _ _) rfl
        · intro vs w' K hJ hR hK
          simp only [DepJ, List.getD_cons_zero, List.getD_cons_succ] at hJ
          obtain ⟨j4, -⟩ := hJ
          simp only [j4] at hK ⊢
          rw [if_pos (by rfl)]
          go_step
          exact hK.out _ _ (Below.refl _ _) (rfl)
        · intro vs w' K hJ hR hK
          simp only [DepJ, List.getD_cons_zero, List.getD_cons_succ] at hJ
          obtain ⟨j5, -⟩ := hJ
          simp only [j5] at hK ⊢
          rw [if_pos (by rfl)]
          go_step
          exact hK.out _ _ (Below.refl _ _) (congrArg (Value.int .u8) (hexS_at _ (by omega)))
        · intro vs w' K hJ hR hK
          rw [if_pos (by rfl)]
          go_step
          exact hK.out _ _ (Below.refl _ _) (rfl)
        · intro vs w' K hJ hR hK
          rw [if_pos (by rfl)]
          go_step
          exact hK.out _ _ (Below.refl _ _) (rfl)
        · intro vs w' K hJ hR hK
          simp only [DepJ, List.getD_cons_zero, List.getD_cons_succ] at hJ
          obtain ⟨j7, j8, -⟩ := hJ
          simp only [j7, j8] at hK ⊢
          rw [if_pos (by rfl)]
          go_step
          exact hK.out _ _ (Below.refl _ _) (rfl)
        · intro vs w' K hJ hR hK
          simp only [DepJ, List.getD_cons_zero, List.getD_cons_succ] at hJ
          obtain ⟨j9, -⟩ := hJ
          simp only [j9] at hK ⊢
          rw [if_pos (by rfl)]
          have C := Hp.facts (Hp.step H.drew hR)
          simp only [Facts, factsL, and_true, true_and, List.set_cons_zero, List.set_cons_succ, List.setIfInBounds_toArray] at C
          go_step
          exact hK.out _ _ (Below.refl _ _) rfl
        · intro vs w' K hJ hR hK
          simp only [DepJ, List.getD_cons_zero, List.getD_cons_succ] at hJ
          obtain ⟨j10, -⟩ := hJ
          simp only [j10] at hK ⊢
          rw [if_pos (by rfl)]
          go_step
          exact hK.out _ _ (Below.refl _ _) (rfl)
        · intro vs w' K hJ hR hK
          simp only [DepJ, List.getD_cons_zero, List.getD_cons_succ] at hJ
          obtain ⟨j11, -⟩ := hJ
          simp only [j11] at hK ⊢
          rw [if_pos (by rfl)]
          go_step
          exact hK.out _ _ (Below.refl _ _) (congrArg (Value.int .u8) (hexS_at _ (by omega)))
        · intro vs w' K hJ hR hK
          simp only [DepJ, List.getD_cons_zero, List.getD_cons_succ] at hJ
          obtain ⟨j6, j12, -⟩ := hJ
          simp only [j6, j12] at hK ⊢
          rw [if_pos (by rfl)]
          go_step
          exact hK.out _ _ ((Below.refl _ _).alloc (Nat.le_refl _) _) (NewSl.mk _ _ _ _ _ hR.size)
      intro vs w' hJ hR
      simp only [AllJ, Nat.reduceAdd] at hJ
      obtain ⟨v0, v1, v2, v3, v4, v5, v6, v7, v8, v9, v10, v11, v12, v13, -⟩ := hJ
      simp only [List.drop_succ_cons, List.drop_zero]
      obtain ⟨b24, e13, hB13, hh13⟩ := v13
      have H' := Hp.adopt H.drew hR (.blk b24 #[.int .u8 (digI ((l[k].toNat : Int) / 16)), .int .u8 (digI ((l[k].toNat : Int) % 16))] 5) ⟨hh13, hB13⟩
      ((try simp only [List.set_cons_zero, List.set_cons_succ, List.setIfInBounds_toArray] at H'); clear C H; have H := H'; clear H'; have C := Hp.facts H; simp only [Facts, factsL, and_true, true_and, List.set_cons_zero, List.set_cons_succ, List.setIfInBounds_toArray] at C)
      simp only [v0, e13]
      (repeat' ((fail_if_success (with_reducible show bodyPost _ _ _ _ _ _)); first | ((with_reducible refine Hp.abs_alloc H ?_); intro b' w' H' hb'; (try simp only [hb']); clear hb'; ((try simp only [List.set_cons_zero, List.set_cons_succ, List.setIfInBounds_toArray] at H'); clear C H; have H := H'; clear H'; have C := Hp.facts H; simp only [Facts, factsL, and_true, true_and, List.set_cons_zero, List.set_cons_succ, List.setIfInBounds_toArray] at C)) | ((with_reducible show wpList _ _ _ _ _ (World.setCell _ _ _)); first | ((with_reducible apply Hp.abs_gen H); (repeat (with_reducible apply Hp.set' 0)); (with_reducible exact H); (repeat rfl); intro w' H'; ((try simp only [List.set_cons_zero, List.set_cons_succ, List.setIfInBounds_toArray] at H'); clear C H; have H := H'; clear H'; have C := Hp.facts H; simp only [Facts, factsL, and_true, true_and, List.set_cons_zero, List.set_cons_succ, List.setIfInBounds_toArray] at C)) | ((with_reducible apply Hp.abs_gen H); (repeat (with_reducible apply Hp.set' 1)); (with_reducible exact H); (repeat rfl); intro w' H'; ((try simp only [List.set_cons_zero, List.set_cons_succ, List.setIfInBounds_toArray] at H'); clear C H; have H := H'; clear H'; have C := Hp.facts H; simp only [Facts, factsL, and_true, true_and, List.set_cons_zero, List.set_cons_succ, List.setIfInBounds_toArray] at C)) | ((with_reducible apply Hp.abs_gen H); (repeat (with_reducible apply Hp.set' 2)); (with_reducible exact H); (repeat rfl); intro w' H'; ((try simp only [List.set_cons_zero, List.set_cons_succ, List.setIfInBounds_toArray] at H'); clear C H; have H := H'; clear H'; have C := Hp.facts H; simp only [Facts, factsL, and_true, true_and, List.set_cons_zero, List.set_cons_succ, List.setIfInBounds_toArray] at C)) | ((with_reducible apply Hp.abs_gen H); (repeat (with_reducible apply Hp.set' 3)); (with_reducible exact H); (repeat rfl); intro w' H'; ((try simp only [List.set_cons_zero, List.set_cons_succ, List.setIfInBounds_toArray] at H'); clear C H; have H := H'; clear H'; have C := Hp.facts H; simp only [Facts, factsL, and_true, true_and, List.set_cons_zero, List.set_cons_succ, List.setIfInBounds_toArray] at C)) | ((with_reducible apply Hp.abs_gen H); (repeat (with_reducible apply Hp.set' 4)); (with_reducible exact H); (repeat rfl); intro w' H'; ((try simp only [List.set_cons_zero, List.set_cons_succ, List.setIfInBounds_toArray] at H'); clear C H; have H := H'; clear H'; have C := Hp.facts H; simp only [Facts, factsL, and_true, true_and, List.set_cons_zero, List.set_cons_succ, List.setIfInBounds_toArray] at C)) | ((with_reducible apply Hp.abs_gen H); (repeat (with_reducible apply Hp.set' 5)); (with_reducible exact H); (repeat rfl); intro w' H'; ((try simp only [List.set_cons_zero, List.set_cons_succ, List.setIfInBounds_toArray] at H'); clear C H; have H := H'; clear H'; have C := Hp.facts H; simp only [Facts, factsL, and_true, true_and, List.set_cons_zero, List.set_cons_succ, List.setIfInBounds_toArray] at C)) | ((with_reducible apply Hp.abs_gen H); (repeat (with_reducible apply Hp.set' 6)); (with_reducible exact H); (repeat rfl); intro w' H'; ((try simp only [List.set_cons_zero, List.set_cons_succ, List.setIfInBounds_toArray] at H'); clear C H; have H := H'; clear H'; have C := Hp.facts H; simp only [Facts, factsL, and_true, true_and, List.set_cons_zero, List.set_cons_succ, List.setIfInBounds_toArray] at C)) | ((with_reducible apply Hp.abs_gen H); (repeat (with_reducible apply Hp.set' 7)); (with_reducible exact H); (repeat rfl); intro w' H'; ((try simp only [List.set_cons_zero, List.set_cons_succ, List.setIfInBounds_toArray] at H'); clear C H; have H := H'; clear H'; have C := Hp.facts H; simp only [Facts, factsL, and_true, true_and, List.set_cons_zero, List.set_cons_succ, List.setIfInBounds_toArray] at C))) | (at_builtin; refine wpList_append_hp H 1 rfl _ _ _ rfl Try.underlying22 hi hz0 hz1 hz2 rfl (by decide) rfl rfl rfl (news := [_, _]) rfl (fun h => by cases h) (fun _ => ⟨_, rfl, blk_news (H.get 0 rfl)⟩) (by simp [Value.oneCell']) (by unfold maxLen; omega) (by omega) ?_; intro v' w' H'; ((try simp only [List.set_cons_zero, List.set_cons_succ, List.setIfInBounds_toArray] at H'); clear C H; have H := H'; clear H'; have C := Hp.facts H; simp only [Facts, factsL, and_true, true_and, List.set_cons_zero, List.set_cons_succ, List.setIfInBounds_toArray] at C)) | go_values | go_skip | go_guarded | go_step | go_upon | go_back | (simp only [Int.not_lt, Int.not_le] at *; go_simp) | (go_values <;> (try go_simp)) | (go_ite <;> go_prune <;> (try go_simp)) | (split <;> (first | (rename_i hx; exact (hx _ rfl).elim) | go_prune))))
      refine ⟨⟨k + 1, by omega, by go_num, ?_⟩, by simp [intOf]; omega⟩
      rw [eS.out, List.map_append, eX.out, show 2 * (k + 1) = 2 * k + 2 by omega]
      exact H.tail
    · obtain rfl : k = l.length := by omega
      rw [List.take_length] at H
      have hcv := run_str (P := Try.prog) (H.row 0 rfl) 22 9 5 Try.underlying22 Try.underlying5 Try.underlying9
      (repeat' ((fail_if_success (with_reducible show bodyPost _ _ _ _ _ _)); first | ((with_reducible refine Hp.abs_alloc H ?_); intro b' w' H' hb'; (try simp only [hb']); clear hb'; ((try simp only [List.set_cons_zero, List.set_cons_succ, List.setIfInBounds_toArray] at H'); clear C H; have H := H'; clear H'; have C := Hp.facts H; simp only [Facts, factsL, and_true, true_and, List.set_cons_zero, List.set_cons_succ, List.setIfInBounds_toArray] at C)) | ((with_reducible show wpList _ _ _ _ _ (World.setCell _ _ _)); first | ((with_reducible apply Hp.abs_gen H); (repeat (with_reducible apply Hp.set' 0)); (with_reducible exact H); (repeat rfl); intro w' H'; ((try simp only [List.set_cons_zero, List.set_cons_succ, List.setIfInBounds_toArray] at H'); clear C H; have H := H'; clear H'; have C := Hp.facts H; simp only [Facts, factsL, and_true, true_and, List.set_cons_zero, List.set_cons_succ, List.setIfInBounds_toArray] at C)) | ((with_reducible apply Hp.abs_gen H); (repeat (with_reducible apply Hp.set' 1)); (with_reducible exact H); (repeat rfl); intro w' H'; ((try simp only [List.set_cons_zero, List.set_cons_succ, List.setIfInBounds_toArray] at H'); clear C H; have H := H'; clear H'; have C := Hp.facts H; simp only [Facts, factsL, and_true, true_and, List.set_cons_zero, List.set_cons_succ, List.setIfInBounds_toArray] at C)) | ((with_reducible apply Hp.abs_gen H); (repeat (with_reducible apply Hp.set' 2)); (with_reducible exact H); (repeat rfl); intro w' H'; ((try simp only [List.set_cons_zero, List.set_cons_succ, List.setIfInBounds_toArray] at H'); clear C H; have H := H'; clear H'; have C := Hp.facts H; simp only [Facts, factsL, and_true, true_and, List.set_cons_zero, List.set_cons_succ, List.setIfInBounds_toArray] at C)) | ((with_reducible apply Hp.abs_gen H); (repeat (with_reducible apply Hp.set' 3)); (with_reducible exact H); (repeat rfl); intro w' H'; ((try simp only [List.set_cons_zero, List.set_cons_succ, List.setIfInBounds_toArray] at H'); clear C H; have H := H'; clear H'; have C := Hp.facts H; simp only [Facts, factsL, and_true, true_and, List.set_cons_zero, List.set_cons_succ, List.setIfInBounds_toArray] at C)) | ((with_reducible apply Hp.abs_gen H); (repeat (with_reducible apply Hp.set' 4)); (with_reducible exact H); (repeat rfl); intro w' H'; ((try simp only [List.set_cons_zero, List.set_cons_succ, List.setIfInBounds_toArray] at H'); clear C H; have H := H'; clear H'; have C := Hp.facts H; simp only [Facts, factsL, and_true, true_and, List.set_cons_zero, List.set_cons_succ, List.setIfInBounds_toArray] at C)) | ((with_reducible apply Hp.abs_gen H); (repeat (with_reducible apply Hp.set' 5)); (with_reducible exact H); (repeat rfl); intro w' H'; ((try simp only [List.set_cons_zero, List.set_cons_succ, List.setIfInBounds_toArray] at H'); clear C H; have H := H'; clear H'; have C := Hp.facts H; simp only [Facts, factsL, and_true, true_and, List.set_cons_zero, List.set_cons_succ, List.setIfInBounds_toArray] at C)) | ((with_reducible apply Hp.abs_gen H); (repeat (with_reducible apply Hp.set' 6)); (with_reducible exact H); (repeat rfl); intro w' H'; ((try simp only [List.set_cons_zero, List.set_cons_succ, List.setIfInBounds_toArray] at H'); clear C H; have H := H'; clear H'; have C := Hp.facts H; simp only [Facts, factsL, and_true, true_and, List.set_cons_zero, List.set_cons_succ, List.setIfInBounds_toArray] at C)) | ((with_reducible apply Hp.abs_gen H); (repeat (with_reducible apply Hp.set' 7)); (with_reducible exact H); (repeat rfl); intro w' H'; ((try simp only [List.set_cons_zero, List.set_cons_succ, List.setIfInBounds_toArray] at H'); clear C H; have H := H'; clear H'; have C := Hp.facts H; simp only [Facts, factsL, and_true, true_and, List.set_cons_zero, List.set_cons_succ, List.setIfInBounds_toArray] at C))) | go_values | go_skip | go_guarded | go_step | go_upon | go_back | (simp only [Int.not_lt, Int.not_le] at *; go_simp) | (go_values <;> (try go_simp)) | (go_ite <;> go_prune <;> (try go_simp)) | (split <;> (first | (rename_i hx; exact (hx _ rfl).elim) | go_prune))))
      go_ret
      exact ⟨rfl, H.low⟩
end Go.Proofs.Ythkhibgidenmjaa
