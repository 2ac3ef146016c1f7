/- Lemmas and walks on the way to the seat's laws; each theorem says its own conditions. -/
import Derived.Test.YtmfadhnfmkbbfaaF2
set_option linter.unusedSimpArgs false
set_option linter.unusedVariables false
namespace Go.Proofs.Ytmfadhnfmkbbfaa
open Go.RowKit Go.Mem Go.Reg
set_option maxHeartbeats 2000000 in
theorem fresh_01 (sk la ra : Int) (x z : Bool) (f age : Int) (hf : Sp.ok f) (hs : Sp.ok sk) (ha : Sp.ok age) (hR : (decide (0 ≤ sk) && decide (0 ≤ la) && decide (0 ≤ ra)) = true) (ha0 : 0 < age) (w : World) :
    Calls Try.prog 5 #[polV sk la ra x false z, .int .i64 f, .pointer none, .int .i64 age] w fun e w' => e = .returned (freshV (((!Sp.endB (Sp.ssub f sk)) && !Sp.endB (Sp.sadd f age)) && !Sp.endB (Sp.sadd (Sp.sadd f age) sk)) (Sp.ssub f sk) (Sp.sadd (Sp.sadd f age) sk)) ∧ Below w.heap.size w w' := by
  have H := Hp.start w
  have C : True := trivial
  have hmf : ∀ (fn : Fn) (first cap : Array Value) (w : World), (Instr.makeFunc fn first cap).run Try.prog w = .ok (.func fn first cap) w := fun _ _ _ _ => rfl
  have gY := sadd_ok (Sp.sadd f age) sk
  have gX := sadd_ok f age
  have gF := ssub_ok f sk
  generalize hY : Sp.sadd (Sp.sadd f age) sk = Y at *
  generalize hX : Sp.sadd f age = X at *
  generalize hF : Sp.ssub f sk = F at *
  have eY := Lib.hid hY; have eX := Lib.hid hX; have eF := Lib.hid hF
  clear hY hX hF
  go_enter Try.func5, Try.ntmps5
  (repeat' (first | ((with_reducible refine Hp.abs_alloc H ?_); intro b' w' H' hb'; (try simp only [hb']); clear hb'; ((try simp only [List.set_cons_zero, List.set_cons_succ, List.setIfInBounds_toArray] at H'); clear C H; have H := H'; clear H'; have C := Hp.facts H; simp only [Facts, factsL, and_true, true_and, List.set_cons_zero, List.set_cons_succ, List.setIfInBounds_toArray] at C)) | ((with_reducible show wpList _ _ _ _ _ (World.setCell _ _ _)); first | ((with_reducible apply Hp.abs_gen H); (repeat (with_reducible apply Hp.set' 0)); (with_reducible exact H); (repeat rfl); intro w' H'; ((try simp only [List.set_cons_zero, List.set_cons_succ, List.setIfInBounds_toArray] at H'); clear C H; have H := H'; clear H'; have C := Hp.facts H; simp only [Facts, factsL, and_true, true_and, List.set_cons_zero, List.set_cons_succ, List.setIfInBounds_toArray] at C)) | ((with_reducible apply Hp.abs_gen H); (repeat (with_reducible apply Hp.set' 1)); (with_reducible exact H); (repeat rfl); intro w' H'; ((try simp only [List.set_cons_zero, List.set_cons_succ, List.setIfInBounds_toArray] at H'); clear C H; have H := H'; clear H'; have C := Hp.facts H; simp only [Facts, factsL, and_true, true_and, List.set_cons_zero, List.set_cons_succ, List.setIfInBounds_toArray] at C)) | ((with_reducible apply Hp.abs_gen H); (repeat (with_reducible apply Hp.set' 2)); (with_reducible exact H); (repeat rfl); intro w' H'; ((try simp only [List.set_cons_zero, List.set_cons_succ, List.setIfInBounds_toArray] at H'); clear C H; have H := H'; clear H'; have C := Hp.facts H; simp only [Facts, factsL, and_true, true_and, List.set_cons_zero, List.set_cons_succ, List.setIfInBounds_toArray] at C)) | ((with_reducible apply Hp.abs_gen H); (repeat (with_reducible apply Hp.set' 3)); (with_reducible exact H); (repeat rfl); intro w' H'; ((try simp only [List.set_cons_zero, List.set_cons_succ, List.setIfInBounds_toArray] at H'); clear C H; have H := H'; clear H'; have C := Hp.facts H; simp only [Facts, factsL, and_true, true_and, List.set_cons_zero, List.set_cons_succ, List.setIfInBounds_toArray] at C)) | ((with_reducible apply Hp.abs_gen H); (repeat (with_reducible apply Hp.set' 4)); (with_reducible exact H); (repeat rfl); intro w' H'; ((try simp only [List.set_cons_zero, List.set_cons_succ, List.setIfInBounds_toArray] at H'); clear C H; have H := H'; clear H'; have C := Hp.facts H; simp only [Facts, factsL, and_true, true_and, List.set_cons_zero, List.set_cons_succ, List.setIfInBounds_toArray] at C)) | ((with_reducible apply Hp.abs_gen H); (repeat (with_reducible apply Hp.set' 5)); (with_reducible exact H); (repeat rfl); intro w' H'; ((try simp only [List.set_cons_zero, List.set_cons_succ, List.setIfInBounds_toArray] at H'); clear C H; have H := H'; clear H'; have C := Hp.facts H; simp only [Facts, factsL, and_true, true_and, List.set_cons_zero, List.set_cons_succ, List.setIfInBounds_toArray] at C)) | ((with_reducible apply Hp.abs_gen H); (repeat (with_reducible apply Hp.set' 6)); (with_reducible exact H); (repeat rfl); intro w' H'; ((try simp only [List.set_cons_zero, List.set_cons_succ, List.setIfInBounds_toArray] at H'); clear C H; have H := H'; clear H'; have C := Hp.facts H; simp only [Facts, factsL, and_true, true_and, List.set_cons_zero, List.set_cons_succ, List.setIfInBounds_toArray] at C)) | ((with_reducible apply Hp.abs_gen H); (repeat (with_reducible apply Hp.set' 7)); (with_reducible exact H); (repeat rfl); intro w' H'; ((try simp only [List.set_cons_zero, List.set_cons_succ, List.setIfInBounds_toArray] at H'); clear C H; have H := H'; clear H'; have C := Hp.facts H; simp only [Facts, factsL, and_true, true_and, List.set_cons_zero, List.set_cons_succ, List.setIfInBounds_toArray] at C))) | (go_at_call 12; refine (right_any _ _ _ _ _ _ _).mono ?_; rintro e' w' ⟨rfl, hb'⟩; rw [hR]; (have H' := Hp.step H hb'; clear hb'; ((try simp only [List.set_cons_zero, List.set_cons_succ, List.setIfInBounds_toArray] at H'); clear C H; have H := H'; clear H'; have C := Hp.facts H; simp only [Facts, factsL, and_true, true_and, List.set_cons_zero, List.set_cons_succ, List.setIfInBounds_toArray] at C))) | (go_at_call 9; refine (sub_any _ _ hf hs _).mono ?_; rintro e' w' ⟨rfl, rfl⟩; rw [eF.out]) | (go_at_call 14; refine (kept_hp _ _ _ 0 H rfl).mono ?_; rintro e' w' ⟨rfl, -, H'⟩; ((try simp only [List.set_cons_zero, List.set_cons_succ, List.setIfInBounds_toArray] at H'); clear C H; have H := H'; clear H'; have C := Hp.facts H; simp only [Facts, factsL, and_true, true_and, List.set_cons_zero, List.set_cons_succ, List.setIfInBounds_toArray] at C)) | go_values | go_skip | go_guarded | go_step | go_upon | go_back | (simp only [Int.not_lt, Int.not_le] at *; go_simp) | (go_values <;> (try go_simp)) | (go_ite <;> go_prune <;> (try go_simp)) | (split <;> (first | (rename_i hx; exact (hx _ rfl).elim) | go_prune))))
  (obtain ⟨b11, rfl⟩ := Hp.name H 0 rfl; obtain ⟨b9, rfl⟩ := Hp.name H 1 rfl; obtain ⟨b8, rfl⟩ := Hp.name H 2 rfl; obtain ⟨b4, rfl⟩ := Hp.name H 3 rfl)
  obtain ⟨w5, rfl⟩ := Hp.nameW H
  refine region_chain (frm w5.heap.size (fun p0 w' => Hp w (match p0 with | 0 => [.blk b11 #[.int .i64 F, .int .i64 9223372036854775807] 28, .blk b9 #[.bool (true && !Sp.endB F)] 4, .blk b8 #[.int .i64 0, .int .i64 0] 28, .blk b4 #[.int .i64 sk, .int .i64 la, .int .i64 ra, .bool x, .bool false, .bool z] 24] | 1 => [.blk b11 #[.int .i64 F, .int .i64 9223372036854775807] 28, .blk b9 #[.bool (true && !Sp.endB F)] 4, .blk b8 #[.int .i64 0, .int .i64 0] 28, .blk b4 #[.int .i64 sk, .int .i64 la, .int .i64 ra, .bool x, .bool false, .bool z] 24] | 2 => [.blk b11 #[.int .i64 F, .int .i64 9223372036854775807] 28, .blk b9 #[.bool ((true && !Sp.endB F) && !Sp.endB X)] 4, .blk b8 #[.int .i64 0, .int .i64 0] 28, .blk b4 #[.int .i64 sk, .int .i64 la, .int .i64 ra, .bool x, .bool false, .bool z] 24] | 3 => [.blk b11 #[.int .i64 F, .int .i64 9223372036854775807] 28, .blk b9 #[.bool ((true && !Sp.endB F) && !Sp.endB X)] 4, .blk b8 #[.int .i64 0, .int .i64 0] 28, .blk b4 #[.int .i64 sk, .int .i64 la, .int .i64 ra, .bool x, .bool false, .bool z] 24] | 4 => [.blk b11 #[.int .i64 F, .int .i64 9223372036854775807] 28, .blk b9 #[.bool (((true && !Sp.endB F) && !Sp.endB X) && !Sp.endB Y)] 4, .blk b8 #[.int .i64 0, .int .i64 0] 28, .blk b4 #[.int .i64 sk, .int .i64 la, .int .i64 ra, .bool x, .bool false, .bool z] 24] | _ => [.blk b11 #[.int .i64 F, .int .i64 Y] 28, .blk b9 #[.bool (((true && !Sp.endB F) && !Sp.endB X) && !Sp.endB Y)] 4, .blk b8 #[.int .i64 0, .int .i64 0] 28, .blk b4 #[.int .i64 sk, .int .i64 la, .int .i64 ra, .bool x, .bool false, .bool z] 24]) w')) (frm_ok (fun _ _ _ h hS => hS.step h)) [7, 8, 12, 13, 16] [.light 0 4, .light 0 4, .light 0 4, .light 0 4, .light 0 4, .light 0 4, .light 0 4, .turns 0, .turns 1, .light 0 4, .light 0 4, .light 0 4, .turns 2, .turns 3, .light 0 4, .light 0 4, .turns 4] 84 [some 64, some 65, some 66, some 67, some 68, some 69, some 70, some 71, some 72, some 73, some 74, some 75, some 76, some 77, some 78, some 79, none] [[], [0], [], [], [], [], [5], [4, 6], [3, 7], [], [9], [10], [8, 11], [2, 12], [1, 13], [], [14, 15]] [fun v _ => v = .pointer (some ⟨b11, 1, none⟩), fun v _ => v = .int .i64 9223372036854775807, fun v _ => v = .func (.func 14) #[] #[.pointer (some ⟨b9, 0, none⟩)], fun v _ => v = .func (.func 14) #[] #[.pointer (some ⟨b9, 0, none⟩)], fun v _ => v = .int .i64 f, fun v _ => v = .int .i64 age, NewSl w5.heap.size 1 #[.int .i64 age] 3, fun v _ => v = .int .i64 X, fun v _ => v = .int .i64 X, fun v _ => v = .pointer (some ⟨b4, 0, none⟩), fun v _ => v = .int .i64 sk, NewSl w5.heap.size 1 #[.int .i64 sk] 3, fun v _ => v = .int .i64 Y, fun v _ => v = .int .i64 Y, fun v _ => v = .int .i64 Y, fun v _ => v = .pointer (some ⟨b11, 1, none⟩), fun _ _ => True] (by kernel_rfl) (by kernel_rfl) (by kernel_rfl) rfl (by kernel_rfl) rfl _ (fun vs => (by simp only [fillD, Nat.reduceAdd, Act.put, List.setIfInBounds_toArray, List.set_cons_zero, List.set_cons_succ]; rfl)) ?_ ?_ ?_ ?_
  · refine ⟨fun _ _ _ _ h => h, fun _ _ _ _ h => h, fun _ _ _ _ h => h, fun _ _ _ _ h => h, fun _ _ _ _ h => h, fun _ _ _ _ h => h, fun _ _ _ hr h => h.stay hr.2, fun _ _ _ _ h => h, fun _ _ _ _ h => h, fun _ _ _ _ h => h, fun _ _ _ _ h => h, fun _ _ _ hr h => h.stay hr.2, fun _ _ _ _ h => h, fun _ _ _ _ h => h, fun _ _ _ _ h => h, fun _ _ _ _ h => h, fun _ _ _ _ h => h, trivial⟩
  · exact H.drew
  · refine ⟨?_, ?_, ?_, ?_, ?_, ?_, ?_, ?_, ?_, ?_, ?_, ?_, ?_, ?_, ?_, ?_, ?_, trivial⟩
    · intro p0 vs w' K hJ hp1 hp2 hS hR hK
      rw [if_pos (by rfl)]
      go_step
      exact hK.out _ _ (Below.refl _ _) (rfl)
    · intro p0 vs w' K hJ hp1 hp2 hS hR hK
      simp only [DepJ, List.getD_cons_zero, List.getD_cons_succ] at hJ
      obtain ⟨j0, -⟩ := hJ
      simp only [j0] at hK ⊢
      rw [if_pos (by rfl)]
      have hp : p0 = 0 ∨ p0 = 1 ∨ p0 = 2 ∨ p0 = 3 ∨ p0 = 4 := by omega
      have hc : w'.cell? ⟨b11, 1, none⟩ = some (.int .i64 9223372036854775807) := by rcases hp with rfl | rfl | rfl | rfl | rfl <;> exact Hp.cell hS 0 rfl rfl
      go_step
      exact hK.out _ _ (Below.refl _ _) rfl
    · intro p0 vs w' K hJ hp1 hp2 hS hR hK
      rw [if_pos (by rfl)]
      go_step
      exact hK.out _ _ (Below.refl _ _) (rfl)
    · intro p0 vs w' K hJ hp1 hp2 hS hR hK
      rw [if_pos (by rfl)]
      go_step
      exact hK.out _ _ (Below.refl _ _) (rfl)
    · intro p0 vs w' K hJ hp1 hp2 hS hR hK
      rw [if_pos (by rfl)]
      go_step
      exact hK.out _ _ (Below.refl _ _) (rfl)
    · intro p0 vs w' K hJ hp1 hp2 hS hR hK
      rw [if_pos (by rfl)]
      go_step
      exact hK.out _ _ (Below.refl _ _) (rfl)
    · intro p0 vs w' K hJ hp1 hp2 hS hR hK
      simp only [DepJ, List.getD_cons_zero, List.getD_cons_succ] at hJ
      obtain ⟨j5, -⟩ := hJ
      simp only [j5] at hK ⊢
      rw [if_pos (by rfl)]
      go_step
      exact hK.out _ _ ((Below.refl _ _).alloc (Nat.le_refl _) _) (NewSl.mk _ _ _ _ _ hR.1)
    · intro vs w' K hJ hS hR hK
      simp only [DepJ, List.getD_cons_zero, List.getD_cons_succ] at hJ
      obtain ⟨j4, j6, -⟩ := hJ
      obtain ⟨k6, j6, hB6, hh6⟩ := j6
      simp only [j4, j6] at hK ⊢
      rw [if_pos (by rfl)]
      go_step
      refine (add_blk _ _ hf ha _ _ _ hh6).mono ?_
      rintro e' w'' ⟨rfl, rfl⟩
      rw [eX.out]
      exact hK.out _ _ (AboveR.refl _ _) hS rfl
    · intro vs w' K hJ hS hR hK
      simp only [DepJ, List.getD_cons_zero, List.getD_cons_succ] at hJ
      obtain ⟨j3, j7, -⟩ := hJ
      simp only [j3, j7] at hK ⊢
      rw [if_pos (by rfl)]
      go_step
      refine (kept_hp _ _ _ 1 hS rfl).mono ?_
      rintro e' w'' ⟨rfl, ho, H'⟩
      exact hK.out _ _ (AboveR.only ho (H.lt 1 rfl)) H' rfl
    · intro p0 vs w' K hJ hp1 hp2 hS hR hK
      rw [if_pos (by rfl)]
      go_step
      exact hK.out _ _ (Below.refl _ _) (rfl)
    · intro p0 vs w' K hJ hp1 hp2 hS hR hK
      simp only [DepJ, List.getD_cons_zero, List.getD_cons_succ] at hJ
      obtain ⟨j9, -⟩ := hJ
      simp only [j9] at hK ⊢
      rw [if_pos (by rfl)]
      have hp : p0 = 0 ∨ p0 = 1 ∨ p0 = 2 ∨ p0 = 3 ∨ p0 = 4 := by omega
      have hc : w'.cell? ⟨b4, 0, none⟩ = some (.int .i64 sk) := by rcases hp with rfl | rfl | rfl | rfl | rfl <;> exact Hp.cell hS 3 rfl rfl
      go_step
      exact hK.out _ _ (Below.refl _ _) rfl
    · intro p0 vs w' K hJ hp1 hp2 hS hR hK
      simp only [DepJ, List.getD_cons_zero, List.getD_cons_succ] at hJ
      obtain ⟨j10, -⟩ := hJ
      simp only [j10] at hK ⊢
      rw [if_pos (by rfl)]
      go_step
      exact hK.out _ _ ((Below.refl _ _).alloc (Nat.le_refl _) _) (NewSl.mk _ _ _ _ _ hR.1)
    · intro vs w' K hJ hS hR hK
      simp only [DepJ, List.getD_cons_zero, List.getD_cons_succ] at hJ
      obtain ⟨j8, j11, -⟩ := hJ
      obtain ⟨k11, j11, hB11, hh11⟩ := j11
      simp only [j8, j11] at hK ⊢
      rw [if_pos (by rfl)]
      go_step
      refine (add_blk _ _ gX hs _ _ _ hh11).mono ?_
      rintro e' w'' ⟨rfl, rfl⟩
      rw [eY.out]
      exact hK.out _ _ (AboveR.refl _ _) hS rfl
    · intro vs w' K hJ hS hR hK
      simp only [DepJ, List.getD_cons_zero, List.getD_cons_succ] at hJ
      obtain ⟨j2, j12, -⟩ := hJ
      simp only [j2, j12] at hK ⊢
      rw [if_pos (by rfl)]
      go_step
      refine (kept_hp _ _ _ 1 hS rfl).mono ?_
      rintro e' w'' ⟨rfl, ho, H'⟩
      exact hK.out _ _ (AboveR.only ho (H.lt 1 rfl)) H' rfl
    · intro p0 vs w' K hJ hp1 hp2 hS hR hK
      simp only [DepJ, List.getD_cons_zero, List.getD_cons_succ] at hJ
      obtain ⟨j1, j13, -⟩ := hJ
      simp only [j1, j13] at hK ⊢
      rw [if_pos (by rfl)]
      go_step
      exact hK.out _ _ (Below.refl _ _) (by simp only [Value.int.injEq, true_and]; have := gY.2; split <;> omega)
    · intro p0 vs w' K hJ hp1 hp2 hS hR hK
      rw [if_pos (by rfl)]
      go_step
      exact hK.out _ _ (Below.refl _ _) (rfl)
    · intro vs w' K hJ hS hR hK
      simp only [DepJ, List.getD_cons_zero, List.getD_cons_succ] at hJ
      obtain ⟨j14, j15, -⟩ := hJ
      simp only [j14, j15] at hK ⊢
      rw [if_pos (by rfl)]
      have hc := Hp.cell (j := 1) hS 0 rfl rfl
      have hz := Hp.frozen hS 0 rfl 1
      go_step
      exact hK.out undef _ (AboveR.set _ _ _ (H.lt 0 rfl)) (hS.set 0 rfl 1 (.int .i64 Y)) trivial
  intro vs w' hJ hS hR
  simp only [AllJ, Nat.reduceAdd] at hJ
  obtain ⟨v0, v1, v2, v3, v4, v5, v6, v7, v8, v9, v10, v11, v12, v13, v14, v15, v16, -⟩ := hJ
  simp only [v7, v8, v12, v13]
  clear H C
  have H : Hp w [.blk b11 #[.int .i64 F, .int .i64 Y] 28, .blk b9 #[.bool (((true && !Sp.endB F) && !Sp.endB X) && !Sp.endB Y)] 4, .blk b8 #[.int .i64 0, .int .i64 0] 28, .blk b4 #[.int .i64 sk, .int .i64 la, .int .i64 ra, .bool x, .bool false, .bool z] 24] w' := hS
  clear hS hR
  have C := Hp.facts H
  simp only [Facts, factsL, and_true, true_and, List.set_cons_zero, List.set_cons_succ, List.setIfInBounds_toArray] at C
  clear v0 v1 v2 v3 v4 v5 v6 v7 v8 v9 v10 v11 v12 v13 v14 v15 v16
  obtain ⟨B, hB⟩ : ∃ B : Bool, B = (((true && !Sp.endB F) && !Sp.endB X) && !Sp.endB Y) := ⟨_, rfl⟩
  have eB := Lib.hid hB
  rw [← hB] at H
  clear hB C
  have C := Hp.facts H
  simp only [Facts, factsL, and_true, true_and, List.set_cons_zero, List.set_cons_succ, List.setIfInBounds_toArray] at C
  cases B
  · (repeat' (first | ((with_reducible refine Hp.abs_alloc H ?_); intro b' w' H' hb'; (try simp only [hb']); clear hb'; ((try simp only [List.set_cons_zero, List.set_cons_succ, List.setIfInBounds_toArray] at H'); clear C H; have H := H'; clear H'; have C := Hp.facts H; simp only [Facts, factsL, and_true, true_and, List.set_cons_zero, List.set_cons_succ, List.setIfInBounds_toArray] at C)) | ((with_reducible show wpList _ _ _ _ _ (World.setCell _ _ _)); first | ((with_reducible apply Hp.abs_gen H); (repeat (with_reducible apply Hp.set' 0)); (with_reducible exact H); (repeat rfl); intro w' H'; ((try simp only [List.set_cons_zero, List.set_cons_succ, List.setIfInBounds_toArray] at H'); clear C H; have H := H'; clear H'; have C := Hp.facts H; simp only [Facts, factsL, and_true, true_and, List.set_cons_zero, List.set_cons_succ, List.setIfInBounds_toArray] at C)) | ((with_reducible apply Hp.abs_gen H); (repeat (with_reducible apply Hp.set' 1)); (with_reducible exact H); (repeat rfl); intro w' H'; ((try simp only [List.set_cons_zero, List.set_cons_succ, List.setIfInBounds_toArray] at H'); clear C H; have H := H'; clear H'; have C := Hp.facts H; simp only [Facts, factsL, and_true, true_and, List.set_cons_zero, List.set_cons_succ, List.setIfInBounds_toArray] at C)) | ((with_reducible apply Hp.abs_gen H); (repeat (with_reducible apply Hp.set' 2)); (with_reducible exact H); (repeat rfl); intro w' H'; ((try simp only [List.set_cons_zero, List.set_cons_succ, List.setIfInBounds_toArray] at H'); clear C H; have H := H'; clear H'; have C := Hp.facts H; simp only [Facts, factsL, and_true, true_and, List.set_cons_zero, List.set_cons_succ, List.setIfInBounds_toArray] at C)) | ((with_reducible apply Hp.abs_gen H); (repeat (with_reducible apply Hp.set' 3)); (with_reducible exact H); (repeat rfl); intro w' H'; ((try simp only [List.set_cons_zero, List.set_cons_succ, List.setIfInBounds_toArray] at H'); clear C H; have H := H'; clear H'; have C := Hp.facts H; simp only [Facts, factsL, and_true, true_and, List.set_cons_zero, List.set_cons_succ, List.setIfInBounds_toArray] at C)) | ((with_reducible apply Hp.abs_gen H); (repeat (with_reducible apply Hp.set' 4)); (with_reducible exact H); (repeat rfl); intro w' H'; ((try simp only [List.set_cons_zero, List.set_cons_succ, List.setIfInBounds_toArray] at H'); clear C H; have H := H'; clear H'; have C := Hp.facts H; simp only [Facts, factsL, and_true, true_and, List.set_cons_zero, List.set_cons_succ, List.setIfInBounds_toArray] at C)) | ((with_reducible apply Hp.abs_gen H); (repeat (with_reducible apply Hp.set' 5)); (with_reducible exact H); (repeat rfl); intro w' H'; ((try simp only [List.set_cons_zero, List.set_cons_succ, List.setIfInBounds_toArray] at H'); clear C H; have H := H'; clear H'; have C := Hp.facts H; simp only [Facts, factsL, and_true, true_and, List.set_cons_zero, List.set_cons_succ, List.setIfInBounds_toArray] at C)) | ((with_reducible apply Hp.abs_gen H); (repeat (with_reducible apply Hp.set' 6)); (with_reducible exact H); (repeat rfl); intro w' H'; ((try simp only [List.set_cons_zero, List.set_cons_succ, List.setIfInBounds_toArray] at H'); clear C H; have H := H'; clear H'; have C := Hp.facts H; simp only [Facts, factsL, and_true, true_and, List.set_cons_zero, List.set_cons_succ, List.setIfInBounds_toArray] at C)) | ((with_reducible apply Hp.abs_gen H); (repeat (with_reducible apply Hp.set' 7)); (with_reducible exact H); (repeat rfl); intro w' H'; ((try simp only [List.set_cons_zero, List.set_cons_succ, List.setIfInBounds_toArray] at H'); clear C H; have H := H'; clear H'; have C := Hp.facts H; simp only [Facts, factsL, and_true, true_and, List.set_cons_zero, List.set_cons_succ, List.setIfInBounds_toArray] at C))) | (go_at_call 13; (with_reducible refine (never_any _).mono ?_); rintro e' w' ⟨rfl, hb'⟩; (have H' := Hp.step H hb'; clear hb'; ((try simp only [List.set_cons_zero, List.set_cons_succ, List.setIfInBounds_toArray] at H'); clear C H; have H := H'; clear H'; have C := Hp.facts H; simp only [Facts, factsL, and_true, true_and, List.set_cons_zero, List.set_cons_succ, List.setIfInBounds_toArray] at C))) | go_values | go_skip | go_guarded | go_step | go_upon | go_back | (simp only [Int.not_lt, Int.not_le] at *; go_simp) | (go_values <;> (try go_simp)) | (go_ite <;> go_prune <;> (try go_simp)) | (split <;> (first | (rename_i hx; exact (hx _ rfl).elim) | go_prune))))
    refine bodyPost_ret (v := .agg #[.int .i64 1, .int .i64 0]) (by simp [results, go_sem, C]) rfl ⟨?_, H.low⟩
    have e := eB.out
    rw [Bool.true_and] at e
    rw [← e]
    rfl
  · (repeat' (first | ((with_reducible refine Hp.abs_alloc H ?_); intro b' w' H' hb'; (try simp only [hb']); clear hb'; ((try simp only [List.set_cons_zero, List.set_cons_succ, List.setIfInBounds_toArray] at H'); clear C H; have H := H'; clear H'; have C := Hp.facts H; simp only [Facts, factsL, and_true, true_and, List.set_cons_zero, List.set_cons_succ, List.setIfInBounds_toArray] at C)) | ((with_reducible show wpList _ _ _ _ _ (World.setCell _ _ _)); first | ((with_reducible apply Hp.abs_gen H); (repeat (with_reducible apply Hp.set' 0)); (with_reducible exact H); (repeat rfl); intro w' H'; ((try simp only [List.set_cons_zero, List.set_cons_succ, List.setIfInBounds_toArray] at H'); clear C H; have H := H'; clear H'; have C := Hp.facts H; simp only [Facts, factsL, and_true, true_and, List.set_cons_zero, List.set_cons_succ, List.setIfInBounds_toArray] at C)) | ((with_reducible apply Hp.abs_gen H); (repeat (with_reducible apply Hp.set' 1)); (with_reducible exact H); (repeat rfl); intro w' H'; ((try simp only [List.set_cons_zero, List.set_cons_succ, List.setIfInBounds_toArray] at H'); clear C H; have H := H'; clear H'; have C := Hp.facts H; simp only [Facts, factsL, and_true, true_and, List.set_cons_zero, List.set_cons_succ, List.setIfInBounds_toArray] at C)) | ((with_reducible apply Hp.abs_gen H); (repeat (with_reducible apply Hp.set' 2)); (with_reducible exact H); (repeat rfl); intro w' H'; ((try simp only [List.set_cons_zero, List.set_cons_succ, List.setIfInBounds_toArray] at H'); clear C H; have H := H'; clear H'; have C := Hp.facts H; simp only [Facts, factsL, and_true, true_and, List.set_cons_zero, List.set_cons_succ, List.setIfInBounds_toArray] at C)) | ((with_reducible apply Hp.abs_gen H); (repeat (with_reducible apply Hp.set' 3)); (with_reducible exact H); (repeat rfl); intro w' H'; ((try simp only [List.set_cons_zero, List.set_cons_succ, List.setIfInBounds_toArray] at H'); clear C H; have H := H'; clear H'; have C := Hp.facts H; simp only [Facts, factsL, and_true, true_and, List.set_cons_zero, List.set_cons_succ, List.setIfInBounds_toArray] at C)) | ((with_reducible apply Hp.abs_gen H); (repeat (with_reducible apply Hp.set' 4)); (with_reducible exact H); (repeat rfl); intro w' H'; ((try simp only [List.set_cons_zero, List.set_cons_succ, List.setIfInBounds_toArray] at H'); clear C H; have H := H'; clear H'; have C := Hp.facts H; simp only [Facts, factsL, and_true, true_and, List.set_cons_zero, List.set_cons_succ, List.setIfInBounds_toArray] at C)) | ((with_reducible apply Hp.abs_gen H); (repeat (with_reducible apply Hp.set' 5)); (with_reducible exact H); (repeat rfl); intro w' H'; ((try simp only [List.set_cons_zero, List.set_cons_succ, List.setIfInBounds_toArray] at H'); clear C H; have H := H'; clear H'; have C := Hp.facts H; simp only [Facts, factsL, and_true, true_and, List.set_cons_zero, List.set_cons_succ, List.setIfInBounds_toArray] at C)) | ((with_reducible apply Hp.abs_gen H); (repeat (with_reducible apply Hp.set' 6)); (with_reducible exact H); (repeat rfl); intro w' H'; ((try simp only [List.set_cons_zero, List.set_cons_succ, List.setIfInBounds_toArray] at H'); clear C H; have H := H'; clear H'; have C := Hp.facts H; simp only [Facts, factsL, and_true, true_and, List.set_cons_zero, List.set_cons_succ, List.setIfInBounds_toArray] at C)) | ((with_reducible apply Hp.abs_gen H); (repeat (with_reducible apply Hp.set' 7)); (with_reducible exact H); (repeat rfl); intro w' H'; ((try simp only [List.set_cons_zero, List.set_cons_succ, List.setIfInBounds_toArray] at H'); clear C H; have H := H'; clear H'; have C := Hp.facts H; simp only [Facts, factsL, and_true, true_and, List.set_cons_zero, List.set_cons_succ, List.setIfInBounds_toArray] at C))) | go_values | go_skip | go_guarded | go_step | go_upon | go_back | (simp only [Int.not_lt, Int.not_le] at *; go_simp) | (go_values <;> (try go_simp)) | (go_ite <;> go_prune <;> (try go_simp)) | (split <;> (first | (rename_i hx; exact (hx _ rfl).elim) | go_prune))))
    refine bodyPost_ret (v := .agg #[.int .i64 F, .int .i64 Y]) (by simp [results, go_sem, C]) rfl ⟨?_, H.low⟩
    have e := eB.out
    rw [Bool.true_and] at e
    rw [← e]
    rfl
set_option maxHeartbeats 2000000 in
theorem fresh_10 (sk la ra : Int) (x y z : Bool) (f age : Int) (hf : Sp.ok f) (hs : Sp.ok sk) (ha : Sp.ok age) (hR : (decide (0 ≤ sk) && decide (0 ≤ la) && decide (0 ≤ ra)) = true) (ha0 : age = 0) (p : Addr) (t : Int) (ht : Sp.ok t) (hft : f ≤ t) (w : World) (hp : w.cell? p = some (.int .i64 t)) (hpl : p.block < w.heap.size) :
    Calls Try.prog 5 #[polV sk la ra x y z, .int .i64 f, .pointer (some p), .int .i64 age] w fun e w' => e = .returned (freshV ((!Sp.endB (Sp.ssub f sk)) && !Sp.endB (Sp.sadd t sk)) (Sp.ssub f sk) (Sp.sadd t sk)) ∧ Below w.heap.size w w' := by
  have H := Hp.start w
  have C : True := trivial
  have hmf : ∀ (fn : Fn) (first cap : Array Value) (w : World), (Instr.makeFunc fn first cap).run Try.prog w = .ok (.func fn first cap) w := fun _ _ _ _ => rfl
  subst ha0
  have gA := sadd_ok t sk
  have gF := ssub_ok f sk
  generalize hA : Sp.sadd t sk = A at *
  generalize hF : Sp.ssub f sk = F at *
  have eA := Lib.hid hA; have eF := Lib.hid hF
  clear hA hF
  go_enter Try.func5, Try.ntmps5
  (repeat' (first | ((with_reducible refine Hp.abs_alloc H ?_); intro b' w' H' hb'; (try simp only [hb']); clear hb'; ((try simp only [List.set_cons_zero, List.set_cons_succ, List.setIfInBounds_toArray] at H'); clear C H; have H := H'; clear H'; have C := Hp.facts H; simp only [Facts, factsL, and_true, true_and, List.set_cons_zero, List.set_cons_succ, List.setIfInBounds_toArray] at C)) | ((with_reducible show wpList _ _ _ _ _ (World.setCell _ _ _)); first | ((with_reducible apply Hp.abs_gen H); (repeat (with_reducible apply Hp.set' 0)); (with_reducible exact H); (repeat rfl); intro w' H'; ((try simp only [List.set_cons_zero, List.set_cons_succ, List.setIfInBounds_toArray] at H'); clear C H; have H := H'; clear H'; have C := Hp.facts H; simp only [Facts, factsL, and_true, true_and, List.set_cons_zero, List.set_cons_succ, List.setIfInBounds_toArray] at C)) | ((with_reducible apply Hp.abs_gen H); (repeat (with_reducible apply Hp.set' 1)); (with_reducible exact H); (repeat rfl); intro w' H'; ((try simp only [List.set_cons_zero, List.set_cons_succ, List.setIfInBounds_toArray] at H'); clear C H; have H := H'; clear H'; have C := Hp.facts H; simp only [Facts, factsL, and_true, true_and, List.set_cons_zero, List.set_cons_succ, List.setIfInBounds_toArray] at C)) | ((with_reducible apply Hp.abs_gen H); (repeat (with_reducible apply Hp.set' 2)); (with_reducible exact H); (repeat rfl); intro w' H'; ((try simp only [List.set_cons_zero, List.set_cons_succ, List.setIfInBounds_toArray] at H'); clear C H; have H := H'; clear H'; have C := Hp.facts H; simp only [Facts, factsL, and_true, true_and, List.set_cons_zero, List.set_cons_succ, List.setIfInBounds_toArray] at C)) | ((with_reducible apply Hp.abs_gen H); (repeat (with_reducible apply Hp.set' 3)); (with_reducible exact H); (repeat rfl); intro w' H'; ((try simp only [List.set_cons_zero, List.set_cons_succ, List.setIfInBounds_toArray] at H'); clear C H; have H := H'; clear H'; have C := Hp.facts H; simp only [Facts, factsL, and_true, true_and, List.set_cons_zero, List.set_cons_succ, List.setIfInBounds_toArray] at C)) | ((with_reducible apply Hp.abs_gen H); (repeat (with_reducible apply Hp.set' 4)); (with_reducible exact H); (repeat rfl); intro w' H'; ((try simp only [List.set_cons_zero, List.set_cons_succ, List.setIfInBounds_toArray] at H'); clear C H; have H := H'; clear H'; have C := Hp.facts H; simp only [Facts, factsL, and_true, true_and, List.set_cons_zero, List.set_cons_succ, List.setIfInBounds_toArray] at C)) | ((with_reducible apply Hp.abs_gen H); (repeat (with_reducible apply Hp.set' 5)); (with_reducible exact H); (repeat rfl); intro w' H'; ((try simp only [List.set_cons_zero, List.set_cons_succ, List.setIfInBounds_toArray] at H'); clear C H; have H := H'; clear H'; have C := Hp.facts H; simp only [Facts, factsL, and_true, true_and, List.set_cons_zero, List.set_cons_succ, List.setIfInBounds_toArray] at C)) | ((with_reducible apply Hp.abs_gen H); (repeat (with_reducible apply Hp.set' 6)); (with_reducible exact H); (repeat rfl); intro w' H'; ((try simp only [List.set_cons_zero, List.set_cons_succ, List.setIfInBounds_toArray] at H'); clear C H; have H := H'; clear H'; have C := Hp.facts H; simp only [Facts, factsL, and_true, true_and, List.set_cons_zero, List.set_cons_succ, List.setIfInBounds_toArray] at C)) | ((with_reducible apply Hp.abs_gen H); (repeat (with_reducible apply Hp.set' 7)); (with_reducible exact H); (repeat rfl); intro w' H'; ((try simp only [List.set_cons_zero, List.set_cons_succ, List.setIfInBounds_toArray] at H'); clear C H; have H := H'; clear H'; have C := Hp.facts H; simp only [Facts, factsL, and_true, true_and, List.set_cons_zero, List.set_cons_succ, List.setIfInBounds_toArray] at C))) | (go_at_call 12; refine (right_any _ _ _ _ _ _ _).mono ?_; rintro e' w' ⟨rfl, hb'⟩; rw [hR]; (have H' := Hp.step H hb'; clear hb'; ((try simp only [List.set_cons_zero, List.set_cons_succ, List.setIfInBounds_toArray] at H'); clear C H; have H := H'; clear H'; have C := Hp.facts H; simp only [Facts, factsL, and_true, true_and, List.set_cons_zero, List.set_cons_succ, List.setIfInBounds_toArray] at C))) | (go_at_call 9; refine (sub_any _ _ hf hs _).mono ?_; rintro e' w' ⟨rfl, rfl⟩; rw [eF.out]) | (go_at_call 14; refine (kept_hp _ _ _ 0 H rfl).mono ?_; rintro e' w' ⟨rfl, -, H'⟩; ((try simp only [List.set_cons_zero, List.set_cons_succ, List.setIfInBounds_toArray] at H'); clear C H; have H := H'; clear H'; have C := Hp.facts H; simp only [Facts, factsL, and_true, true_and, List.set_cons_zero, List.set_cons_succ, List.setIfInBounds_toArray] at C)) | go_values | go_skip | go_guarded | go_step | go_upon | go_back | (simp only [Int.not_lt, Int.not_le] at *; go_simp) | (go_values <;> (try go_simp)) | (go_ite <;> go_prune <;> (try go_simp)) | (split <;> (first | (rename_i hx; exact (hx _ rfl).elim) | go_prune))))
  (obtain ⟨b11, rfl⟩ := Hp.name H 0 rfl; obtain ⟨b9, rfl⟩ := Hp.name H 1 rfl; obtain ⟨b8, rfl⟩ := Hp.name H 2 rfl; obtain ⟨b4, rfl⟩ := Hp.name H 3 rfl)
  have hp := Lib.hid hp
  obtain ⟨w3, rfl⟩ := Hp.nameW H
  refine region_chain (frm w3.heap.size (fun p0 w' => Hp w (match p0 with | 0 => [.blk b11 #[.int .i64 F, .int .i64 9223372036854775807] 28, .blk b9 #[.bool (true && !Sp.endB F)] 4, .blk b8 #[.int .i64 0, .int .i64 0] 28, .blk b4 #[.int .i64 sk, .int .i64 la, .int .i64 ra, .bool x, .bool y, .bool z] 24] | 1 => [.blk b11 #[.int .i64 F, .int .i64 9223372036854775807] 28, .blk b9 #[.bool (true && !Sp.endB F)] 4, .blk b8 #[.int .i64 0, .int .i64 0] 28, .blk b4 #[.int .i64 sk, .int .i64 la, .int .i64 ra, .bool x, .bool y, .bool z] 24] | 2 => [.blk b11 #[.int .i64 F, .int .i64 9223372036854775807] 28, .blk b9 #[.bool ((true && !Sp.endB F) && !Sp.endB A)] 4, .blk b8 #[.int .i64 0, .int .i64 0] 28, .blk b4 #[.int .i64 sk, .int .i64 la, .int .i64 ra, .bool x, .bool y, .bool z] 24] | _ => [.blk b11 #[.int .i64 F, .int .i64 A] 28, .blk b9 #[.bool ((true && !Sp.endB F) && !Sp.endB A)] 4, .blk b8 #[.int .i64 0, .int .i64 0] 28, .blk b4 #[.int .i64 sk, .int .i64 la, .int .i64 ra, .bool x, .bool y, .bool z] 24]) w')) (frm_ok (fun _ _ _ h hS => hS.step h)) [9, 10, 13] [.light 0 2, .light 0 2, .light 0 2, .light 0 2, .light 0 2, .light 0 2, .light 0 2, .light 0 2, .light 0 2, .turns 0, .turns 1, .light 0 2, .light 0 2, .turns 2] 84 [some 49, some 50, some 51, some 52, some 53, some 54, some 55, some 56, some 57, some 58, some 59, some 60, some 61, none] [[], [0], [], [], [3], [4], [], [6], [7], [5, 8], [2, 9], [1, 10], [], [11, 12]] [fun v _ => v = .pointer (some ⟨b11, 1, none⟩), fun v _ => v = .int .i64 9223372036854775807, fun v _ => v = .func (.func 14) #[] #[.pointer (some ⟨b9, 0, none⟩)], fun v _ => v = .pointer (some p), fun v _ => v = .pointer (some p), fun v _ => v = .int .i64 t, fun v _ => v = .pointer (some ⟨b4, 0, none⟩), fun v _ => v = .int .i64 sk, NewSl w3.heap.size 1 #[.int .i64 sk] 3, fun v _ => v = .int .i64 A, fun v _ => v = .int .i64 A, fun v _ => v = .int .i64 A, fun v _ => v = .pointer (some ⟨b11, 1, none⟩), fun _ _ => True] (by kernel_rfl) (by kernel_rfl) (by kernel_rfl) rfl (by kernel_rfl) rfl _ (fun vs => (by simp only [fillD, Nat.reduceAdd, Act.put, List.setIfInBounds_toArray, List.set_cons_zero, List.set_cons_succ]; rfl)) ?_ ?_ ?_ ?_
  · refine ⟨fun _ _ _ _ h => h, fun _ _ _ _ h => h, fun _ _ _ _ h => h, fun _ _ _ _ h => h, fun _ _ _ _ h => h, fun _ _ _ _ h => h, fun _ _ _ _ h => h, fun _ _ _ _ h => h, fun _ _ _ hr h => h.stay hr.2, fun _ _ _ _ h => h, fun _ _ _ _ h => h, fun _ _ _ _ h => h, fun _ _ _ _ h => h, fun _ _ _ _ h => h, trivial⟩
  · exact H.drew
  · refine ⟨?_, ?_, ?_, ?_, ?_, ?_, ?_, ?_, ?_, ?_, ?_, ?_, ?_, ?_, trivial⟩
    · intro p0 vs w' K hJ hp1 hp2 hS hR hK
      rw [if_pos (by rfl)]
      go_step
      exact hK.out _ _ (Below.refl _ _) (rfl)
    · intro p0 vs w' K hJ hp1 hp2 hS hR hK
      simp only [DepJ, List.getD_cons_zero, List.getD_cons_succ] at hJ
      obtain ⟨j0, -⟩ := hJ
      simp only [j0] at hK ⊢
      rw [if_pos (by rfl)]
      have hp : p0 = 0 ∨ p0 = 1 ∨ p0 = 2 := by omega
      have hc : w'.cell? ⟨b11, 1, none⟩ = some (.int .i64 9223372036854775807) := by rcases hp with rfl | rfl | rfl <;> exact Hp.cell hS 0 rfl rfl
      go_step
      exact hK.out _ _ (Below.refl _ _) rfl
    · intro p0 vs w' K hJ hp1 hp2 hS hR hK
      rw [if_pos (by rfl)]
      go_step
      exact hK.out _ _ (Below.refl _ _) (rfl)
    · intro p0 vs w' K hJ hp1 hp2 hS hR hK
      rw [if_pos (by rfl)]
      go_step
      exact hK.out _ _ (Below.refl _ _) (rfl)
    · intro p0 vs w' K hJ hp1 hp2 hS hR hK
      simp only [DepJ, List.getD_cons_zero, List.getD_cons_succ] at hJ
      obtain ⟨j3, -⟩ := hJ
      simp only [j3] at hK ⊢
      rw [if_pos (by rfl)]
      go_step
      exact hK.out _ _ (Below.refl _ _) (rfl)
    · intro p0 vs w' K hJ hp1 hp2 hS hR hK
      simp only [DepJ, List.getD_cons_zero, List.getD_cons_succ] at hJ
      obtain ⟨j4, -⟩ := hJ
      simp only [j4] at hK ⊢
      rw [if_pos (by rfl)]
      have hq : p0 = 0 ∨ p0 = 1 ∨ p0 = 2 := by omega
      have hc : w'.cell? p = some (.int .i64 t) := by rcases hq with rfl | rfl | rfl <;> exact (hS.low.cell hpl).trans hp.out
      go_step
      exact hK.out _ _ (Below.refl _ _) rfl
    · intro p0 vs w' K hJ hp1 hp2 hS hR hK
      rw [if_pos (by rfl)]
      go_step
      exact hK.out _ _ (Below.refl _ _) (rfl)
    · intro p0 vs w' K hJ hp1 hp2 hS hR hK
      simp only [DepJ, List.getD_cons_zero, List.getD_cons_succ] at hJ
      obtain ⟨j6, -⟩ := hJ
      simp only [j6] at hK ⊢
      rw [if_pos (by rfl)]
      have hp : p0 = 0 ∨ p0 = 1 ∨ p0 = 2 := by omega
      have hc : w'.cell? ⟨b4, 0, none⟩ = some (.int .i64 sk) := by rcases hp with rfl | rfl | rfl <;> exact Hp.cell hS 3 rfl rfl
      go_step
      exact hK.out _ _ (Below.refl _ _) rfl
    · intro p0 vs w' K hJ hp1 hp2 hS hR hK
      simp only [DepJ, List.getD_cons_zero, List.getD_cons_succ] at hJ
      obtain ⟨j7, -⟩ := hJ
      simp only [j7] at hK ⊢
      rw [if_pos (by rfl)]
      go_step
      exact hK.out _ _ ((Below.refl _ _).alloc (Nat.le_refl _) _) (NewSl.mk _ _ _ _ _ hR.1)
    · intro vs w' K hJ hS hR hK
      simp only [DepJ, List.getD_cons_zero, List.getD_cons_succ] at hJ
      obtain ⟨j5, j8, -⟩ := hJ
      obtain ⟨k8, j8, hB8, hh8⟩ := j8
      simp only [j5, j8] at hK ⊢
      rw [if_pos (by rfl)]
      go_step
      refine (add_blk _ _ ht hs _ _ _ hh8).mono ?_
      rintro e' w'' ⟨rfl, rfl⟩
      rw [eA.out]
      exact hK.out _ _ (AboveR.refl _ _) hS rfl
    · intro vs w' K hJ hS hR hK
      simp only [DepJ, List.getD_cons_zero, List.getD_cons_succ] at hJ
      obtain ⟨j2, j9, -⟩ := hJ
      simp only [j2, j9] at hK ⊢
      rw [if_pos (by rfl)]
      go_step
      refine (kept_hp _ _ _ 1 hS rfl).mono ?_
      rintro e' w'' ⟨rfl, ho, H'⟩
      exact hK.out _ _ (AboveR.only ho (H.lt 1 rfl)) H' rfl
    · intro p0 vs w' K hJ hp1 hp2 hS hR hK
      simp only [DepJ, List.getD_cons_zero, List.getD_cons_succ] at hJ
      obtain ⟨j1, j10, -⟩ := hJ
      simp only [j1, j10] at hK ⊢
      rw [if_pos (by rfl)]
      go_step
      exact hK.out _ _ (Below.refl _ _) (by simp only [Value.int.injEq, true_and]; have := gA.2; split <;> omega)
    · intro p0 vs w' K hJ hp1 hp2 hS hR hK
      rw [if_pos (by rfl)]
      go_step
      exact hK.out _ _ (Below.refl _ _) (rfl)
    · intro vs w' K hJ hS hR hK
      simp only [DepJ, List.getD_cons_zero, List.getD_cons_succ] at hJ
      obtain ⟨j11, j12, -⟩ := hJ
      simp only [j11, j12] at hK ⊢
      rw [if_pos (by rfl)]
      have hc := Hp.cell (j := 1) hS 0 rfl rfl
      have hz := Hp.frozen hS 0 rfl 1
      go_step
      exact hK.out undef _ (AboveR.set _ _ _ (H.lt 0 rfl)) (hS.set 0 rfl 1 (.int .i64 A)) trivial
  intro vs w' hJ hS hR
  simp only [AllJ, Nat.reduceAdd] at hJ
  obtain ⟨v0, v1, v2, v3, v4, v5, v6, v7, v8, v9, v10, v11, v12, v13, -⟩ := hJ
  simp only [v9, v10]
  clear H C
  have H : Hp w [.blk b11 #[.int .i64 F, .int .i64 A] 28, .blk b9 #[.bool ((true && !Sp.endB F) && !Sp.endB A)] 4, .blk b8 #[.int .i64 0, .int .i64 0] 28, .blk b4 #[.int .i64 sk, .int .i64 la, .int .i64 ra, .bool x, .bool y, .bool z] 24] w' := hS
  clear hS hR
  have C := Hp.facts H
  simp only [Facts, factsL, and_true, true_and, List.set_cons_zero, List.set_cons_succ, List.setIfInBounds_toArray] at C
  clear v0 v1 v2 v3 v4 v5 v6 v7 v8 v9 v10 v11 v12 v13
  obtain ⟨B, hB⟩ : ∃ B : Bool, B = ((true && !Sp.endB F) && !Sp.endB A) := ⟨_, rfl⟩
  have eB := Lib.hid hB
  rw [← hB] at H
  clear hB C
  have C := Hp.facts H
  simp only [Facts, factsL, and_true, true_and, List.set_cons_zero, List.set_cons_succ, List.setIfInBounds_toArray] at C
  cases B
  · (repeat' (first | ((with_reducible refine Hp.abs_alloc H ?_); intro b' w' H' hb'; (try simp only [hb']); clear hb'; ((try simp only [List.set_cons_zero, List.set_cons_succ, List.setIfInBounds_toArray] at H'); clear C H; have H := H'; clear H'; have C := Hp.facts H; simp only [Facts, factsL, and_true, true_and, List.set_cons_zero, List.set_cons_succ, List.setIfInBounds_toArray] at C)) | ((with_reducible show wpList _ _ _ _ _ (World.setCell _ _ _)); first | ((with_reducible apply Hp.abs_gen H); (repeat (with_reducible apply Hp.set' 0)); (with_reducible exact H); (repeat rfl); intro w' H'; ((try simp only [List.set_cons_zero, List.set_cons_succ, List.setIfInBounds_toArray] at H'); clear C H; have H := H'; clear H'; have C := Hp.facts H; simp only [Facts, factsL, and_true, true_and, List.set_cons_zero, List.set_cons_succ, List.setIfInBounds_toArray] at C)) | ((with_reducible apply Hp.abs_gen H); (repeat (with_reducible apply Hp.set' 1)); (with_reducible exact H); (repeat rfl); intro w' H'; ((try simp only [List.set_cons_zero, List.set_cons_succ, List.setIfInBounds_toArray] at H'); clear C H; have H := H'; clear H'; have C := Hp.facts H; simp only [Facts, factsL, and_true, true_and, List.set_cons_zero, List.set_cons_succ, List.setIfInBounds_toArray] at C)) | ((with_reducible apply Hp.abs_gen H); (repeat (with_reducible apply Hp.set' 2)); (with_reducible exact H); (repeat rfl); intro w' H'; ((try simp only [List.set_cons_zero, List.set_cons_succ, List.setIfInBounds_toArray] at H'); clear C H; have H := H'; clear H'; have C := Hp.facts H; simp only [Facts, factsL, and_true, true_and, List.set_cons_zero, List.set_cons_succ, List.setIfInBounds_toArray] at C)) | ((with_reducible apply Hp.abs_gen H); (repeat (with_reducible apply Hp.set' 3)); (with_reducible exact H); (repeat rfl); intro w' H'; ((try simp only [List.set_cons_zero, List.set_cons_succ, List.setIfInBounds_toArray] at H'); clear C H; have H := H'; clear H'; have C := Hp.facts H; simp only [Facts, factsL, and_true, true_and, List.set_cons_zero, List.set_cons_succ, List.setIfInBounds_toArray] at C)) | ((with_reducible apply Hp.abs_gen H); (repeat (with_reducible apply Hp.set' 4)); (with_reducible exact H); (repeat rfl); intro w' H'; ((try simp only [List.set_cons_zero, List.set_cons_succ, List.setIfInBounds_toArray] at H'); clear C H; have H := H'; clear H'; have C := Hp.facts H; simp only [Facts, factsL, and_true, true_and, List.set_cons_zero, List.set_cons_succ, List.setIfInBounds_toArray] at C)) | ((with_reducible apply Hp.abs_gen H); (repeat (with_reducible apply Hp.set' 5)); (with_reducible exact H); (repeat rfl); intro w' H'; ((try simp only [List.set_cons_zero, List.set_cons_succ, List.setIfInBounds_toArray] at H'); clear C H; have H := H'; clear H'; have C := Hp.facts H; simp only [Facts, factsL, and_true, true_and, List.set_cons_zero, List.set_cons_succ, List.setIfInBounds_toArray] at C)) | ((with_reducible apply Hp.abs_gen H); (repeat (with_reducible apply Hp.set' 6)); (with_reducible exact H); (repeat rfl); intro w' H'; ((try simp only [List.set_cons_zero, List.set_cons_succ, List.setIfInBounds_toArray] at H'); clear C H; have H := H'; clear H'; have C := Hp.facts H; simp only [Facts, factsL, and_true, true_and, List.set_cons_zero, List.set_cons_succ, List.setIfInBounds_toArray] at C)) | ((with_reducible apply Hp.abs_gen H); (repeat (with_reducible apply Hp.set' 7)); (with_reducible exact H); (repeat rfl); intro w' H'; ((try simp only [List.set_cons_zero, List.set_cons_succ, List.setIfInBounds_toArray] at H'); clear C H; have H := H'; clear H'; have C := Hp.facts H; simp only [Facts, factsL, and_true, true_and, List.set_cons_zero, List.set_cons_succ, List.setIfInBounds_toArray] at C))) | (go_at_call 13; (with_reducible refine (never_any _).mono ?_); rintro e' w' ⟨rfl, hb'⟩; (have H' := Hp.step H hb'; clear hb'; ((try simp only [List.set_cons_zero, List.set_cons_succ, List.setIfInBounds_toArray] at H'); clear C H; have H := H'; clear H'; have C := Hp.facts H; simp only [Facts, factsL, and_true, true_and, List.set_cons_zero, List.set_cons_succ, List.setIfInBounds_toArray] at C))) | go_values | go_skip | go_guarded | go_step | go_upon | go_back | (simp only [Int.not_lt, Int.not_le] at *; go_simp) | (go_values <;> (try go_simp)) | (go_ite <;> go_prune <;> (try go_simp)) | (split <;> (first | (rename_i hx; exact (hx _ rfl).elim) | go_prune))))
    refine bodyPost_ret (v := .agg #[.int .i64 1, .int .i64 0]) (by simp [results, go_sem, C]) rfl ⟨?_, H.low⟩
    have e := eB.out
    rw [Bool.true_and] at e
    rw [← e]
    rfl
  · (repeat' (first | ((with_reducible refine Hp.abs_alloc H ?_); intro b' w' H' hb'; (try simp only [hb']); clear hb'; ((try simp only [List.set_cons_zero, List.set_cons_succ, List.setIfInBounds_toArray] at H'); clear C H; have H := H'; clear H'; have C := Hp.facts H; simp only [Facts, factsL, and_true, true_and, List.set_cons_zero, List.set_cons_succ, List.setIfInBounds_toArray] at C)) | ((with_reducible show wpList _ _ _ _ _ (World.setCell _ _ _)); first | ((with_reducible apply Hp.abs_gen H); (repeat (with_reducible apply Hp.set' 0)); (with_reducible exact H); (repeat rfl); intro w' H'; ((try simp only [List.set_cons_zero, List.set_cons_succ, List.setIfInBounds_toArray] at H'); clear C H; have H := H'; clear H'; have C := Hp.facts H; simp only [Facts, factsL, and_true, true_and, List.set_cons_zero, List.set_cons_succ, List.setIfInBounds_toArray] at C)) | ((with_reducible apply Hp.abs_gen H); (repeat (with_reducible apply Hp.set' 1)); (with_reducible exact H); (repeat rfl); intro w' H'; ((try simp only [List.set_cons_zero, List.set_cons_succ, List.setIfInBounds_toArray] at H'); clear C H; have H := H'; clear H'; have C := Hp.facts H; simp only [Facts, factsL, and_true, true_and, List.set_cons_zero, List.set_cons_succ, List.setIfInBounds_toArray] at C)) | ((with_reducible apply Hp.abs_gen H); (repeat (with_reducible apply Hp.set' 2)); (with_reducible exact H); (repeat rfl); intro w' H'; ((try simp only [List.set_cons_zero, List.set_cons_succ, List.setIfInBounds_toArray] at H'); clear C H; have H := H'; clear H'; have C := Hp.facts H; simp only [Facts, factsL, and_true, true_and, List.set_cons_zero, List.set_cons_succ, List.setIfInBounds_toArray] at C)) | ((with_reducible apply Hp.abs_gen H); (repeat (with_reducible apply Hp.set' 3)); (with_reducible exact H); (repeat rfl); intro w' H'; ((try simp only [List.set_cons_zero, List.set_cons_succ, List.setIfInBounds_toArray] at H'); clear C H; have H := H'; clear H'; have C := Hp.facts H; simp only [Facts, factsL, and_true, true_and, List.set_cons_zero, List.set_cons_succ, List.setIfInBounds_toArray] at C)) | ((with_reducible apply Hp.abs_gen H); (repeat (with_reducible apply Hp.set' 4)); (with_reducible exact H); (repeat rfl); intro w' H'; ((try simp only [List.set_cons_zero, List.set_cons_succ, List.setIfInBounds_toArray] at H'); clear C H; have H := H'; clear H'; have C := Hp.facts H; simp only [Facts, factsL, and_true, true_and, List.set_cons_zero, List.set_cons_succ, List.setIfInBounds_toArray] at C)) | ((with_reducible apply Hp.abs_gen H); (repeat (with_reducible apply Hp.set' 5)); (with_reducible exact H); (repeat rfl); intro w' H'; ((try simp only [List.set_cons_zero, List.set_cons_succ, List.setIfInBounds_toArray] at H'); clear C H; have H := H'; clear H'; have C := Hp.facts H; simp only [Facts, factsL, and_true, true_and, List.set_cons_zero, List.set_cons_succ, List.setIfInBounds_toArray] at C)) | ((with_reducible apply Hp.abs_gen H); (repeat (with_reducible apply Hp.set' 6)); (with_reducible exact H); (repeat rfl); intro w' H'; ((try simp only [List.set_cons_zero, List.set_cons_succ, List.setIfInBounds_toArray] at H'); clear C H; have H := H'; clear H'; have C := Hp.facts H; simp only [Facts, factsL, and_true, true_and, List.set_cons_zero, List.set_cons_succ, List.setIfInBounds_toArray] at C)) | ((with_reducible apply Hp.abs_gen H); (repeat (with_reducible apply Hp.set' 7)); (with_reducible exact H); (repeat rfl); intro w' H'; ((try simp only [List.set_cons_zero, List.set_cons_succ, List.setIfInBounds_toArray] at H'); clear C H; have H := H'; clear H'; have C := Hp.facts H; simp only [Facts, factsL, and_true, true_and, List.set_cons_zero, List.set_cons_succ, List.setIfInBounds_toArray] at C))) | go_values | go_skip | go_guarded | go_step | go_upon | go_back | (simp only [Int.not_lt, Int.not_le] at *; go_simp) | (go_values <;> (try go_simp)) | (go_ite <;> go_prune <;> (try go_simp)) | (split <;> (first | (rename_i hx; exact (hx _ rfl).elim) | go_prune))))
    refine bodyPost_ret (v := .agg #[.int .i64 F, .int .i64 A]) (by simp [results, go_sem, C]) rfl ⟨?_, H.low⟩
    have e := eB.out
    rw [Bool.true_and] at e
    rw [← e]
    rfl
set_option maxHeartbeats 2000000 in
theorem fresh_11 (sk la ra : Int) (x y z : Bool) (f age : Int) (hf : Sp.ok f) (hs : Sp.ok sk) (ha : Sp.ok age) (hR : (decide (0 ≤ sk) && decide (0 ≤ la) && decide (0 ≤ ra)) = true) (ha0 : 0 < age) (p : Addr) (t : Int) (ht : Sp.ok t) (hft : f ≤ t) (w : World) (hp : w.cell? p = some (.int .i64 t)) (hpl : p.block < w.heap.size) :
    Calls Try.prog 5 #[polV sk la ra x y z, .int .i64 f, .pointer (some p), .int .i64 age] w fun e w' => e = .returned (freshV ((((!Sp.endB (Sp.ssub f sk)) && !Sp.endB (Sp.sadd t sk)) && !Sp.endB (Sp.sadd f age)) && !Sp.endB (Sp.sadd (Sp.sadd f age) sk)) (Sp.ssub f sk) (if Sp.sadd (Sp.sadd f age) sk < Sp.sadd t sk then Sp.sadd (Sp.sadd f age) sk else Sp.sadd t sk)) ∧ Below w.heap.size w w' := by
  have H := Hp.start w
  have C : True := trivial
  have hmf : ∀ (fn : Fn) (first cap : Array Value) (w : World), (Instr.makeFunc fn first cap).run Try.prog w = .ok (.func fn first cap) w := fun _ _ _ _ => rfl
  have gY := sadd_ok (Sp.sadd f age) sk
  have gX := sadd_ok f age
  have gA := sadd_ok t sk
  have gF := ssub_ok f sk
  generalize hY : Sp.sadd (Sp.sadd f age) sk = Y at *
  generalize hX : Sp.sadd f age = X at *
  generalize hA : Sp.sadd t sk = A at *
  generalize hF : Sp.ssub f sk = F at *
  have eY := Lib.hid hY; have eX := Lib.hid hX; have eA := Lib.hid hA; have eF := Lib.hid hF
  clear hY hX hA hF
  generalize hM : (if Y < A then Y else A) = M
  have eM := Lib.hid hM
  clear hM
  go_enter Try.func5, Try.ntmps5
  (repeat' (first | ((with_reducible refine Hp.abs_alloc H ?_); intro b' w' H' hb'; (try simp only [hb']); clear hb'; ((try simp only [List.set_cons_zero, List.set_cons_succ, List.setIfInBounds_toArray] at H'); clear C H; have H := H'; clear H'; have C := Hp.facts H; simp only [Facts, factsL, and_true, true_and, List.set_cons_zero, List.set_cons_succ, List.setIfInBounds_toArray] at C)) | ((with_reducible show wpList _ _ _ _ _ (World.setCell _ _ _)); first | ((with_reducible apply Hp.abs_gen H); (repeat (with_reducible apply Hp.set' 0)); (with_reducible exact H); (repeat rfl); intro w' H'; ((try simp only [List.set_cons_zero, List.set_cons_succ, List.setIfInBounds_toArray] at H'); clear C H; have H := H'; clear H'; have C := Hp.facts H; simp only [Facts, factsL, and_true, true_and, List.set_cons_zero, List.set_cons_succ, List.setIfInBounds_toArray] at C)) | ((with_reducible apply Hp.abs_gen H); (repeat (with_reducible apply Hp.set' 1)); (with_reducible exact H); (repeat rfl); intro w' H'; ((try simp only [List.set_cons_zero, List.set_cons_succ, List.setIfInBounds_toArray] at H'); clear C H; have H := H'; clear H'; have C := Hp.facts H; simp only [Facts, factsL, and_true, true_and, List.set_cons_zero, List.set_cons_succ, List.setIfInBounds_toArray] at C)) | ((with_reducible apply Hp.abs_gen H); (repeat (with_reducible apply Hp.set' 2)); (with_reducible exact H); (repeat rfl); intro w' H'; ((try simp only [List.set_cons_zero, List.set_cons_succ, List.setIfInBounds_toArray] at H'); clear C H; have H := H'; clear H'; have C := Hp.facts H; simp only [Facts, factsL, and_true, true_and, List.set_cons_zero, List.set_cons_succ, List.setIfInBounds_toArray] at C)) | ((with_reducible apply Hp.abs_gen H); (repeat (with_reducible apply Hp.set' 3)); (with_reducible exact H); (repeat rfl); intro w' H'; ((try simp only [List.set_cons_zero, List.set_cons_succ, List.setIfInBounds_toArray] at H'); clear C H; have H := H'; clear H'; have C := Hp.facts H; simp only [Facts, factsL, and_true, true_and, List.set_cons_zero, List.set_cons_succ, List.setIfInBounds_toArray] at C)) | ((with_reducible apply Hp.abs_gen H); (repeat (with_reducible apply Hp.set' 4)); (with_reducible exact H); (repeat rfl); intro w' H'; ((try simp only [List.set_cons_zero, List.set_cons_succ, List.setIfInBounds_toArray] at H'); clear C H; have H := H'; clear H'; have C := Hp.facts H; simp only [Facts, factsL, and_true, true_and, List.set_cons_zero, List.set_cons_succ, List.setIfInBounds_toArray] at C)) | ((with_reducible apply Hp.abs_gen H); (repeat (with_reducible apply Hp.set' 5)); (with_reducible exact H); (repeat rfl); intro w' H'; ((try simp only [List.set_cons_zero, List.set_cons_succ, List.setIfInBounds_toArray] at H'); clear C H; have H := H'; clear H'; have C := Hp.facts H; simp only [Facts, factsL, and_true, true_and, List.set_cons_zero, List.set_cons_succ, List.setIfInBounds_toArray] at C)) | ((with_reducible apply Hp.abs_gen H); (repeat (with_reducible apply Hp.set' 6)); (with_reducible exact H); (repeat rfl); intro w' H'; ((try simp only [List.set_cons_zero, List.set_cons_succ, List.setIfInBounds_toArray] at H'); clear C H; have H := H'; clear H'; have C := Hp.facts H; simp only [Facts, factsL, and_true, true_and, List.set_cons_zero, List.set_cons_succ, List.setIfInBounds_toArray] at C)) | ((with_reducible apply Hp.abs_gen H); (repeat (with_reducible apply Hp.set' 7)); (with_reducible exact H); (repeat rfl); intro w' H'; ((try simp only [List.set_cons_zero, List.set_cons_succ, List.setIfInBounds_toArray] at H'); clear C H; have H := H'; clear H'; have C := Hp.facts H; simp only [Facts, factsL, and_true, true_and, List.set_cons_zero, List.set_cons_succ, List.setIfInBounds_toArray] at C))) | (go_at_call 12; refine (right_any _ _ _ _ _ _ _).mono ?_; rintro e' w' ⟨rfl, hb'⟩; rw [hR]; (have H' := Hp.step H hb'; clear hb'; ((try simp only [List.set_cons_zero, List.set_cons_succ, List.setIfInBounds_toArray] at H'); clear C H; have H := H'; clear H'; have C := Hp.facts H; simp only [Facts, factsL, and_true, true_and, List.set_cons_zero, List.set_cons_succ, List.setIfInBounds_toArray] at C))) | (go_at_call 9; refine (sub_any _ _ hf hs _).mono ?_; rintro e' w' ⟨rfl, rfl⟩; rw [eF.out]) | (go_at_call 14; refine (kept_hp _ _ _ 0 H rfl).mono ?_; rintro e' w' ⟨rfl, -, H'⟩; ((try simp only [List.set_cons_zero, List.set_cons_succ, List.setIfInBounds_toArray] at H'); clear C H; have H := H'; clear H'; have C := Hp.facts H; simp only [Facts, factsL, and_true, true_and, List.set_cons_zero, List.set_cons_succ, List.setIfInBounds_toArray] at C)) | go_values | go_skip | go_guarded | go_step | go_upon | go_back | (simp only [Int.not_lt, Int.not_le] at *; go_simp) | (go_values <;> (try go_simp)) | (go_ite <;> go_prune <;> (try go_simp)) | (split <;> (first | (rename_i hx; exact (hx _ rfl).elim) | go_prune))))
  (obtain ⟨b11, rfl⟩ := Hp.name H 0 rfl; obtain ⟨b9, rfl⟩ := Hp.name H 1 rfl; obtain ⟨b8, rfl⟩ := Hp.name H 2 rfl; obtain ⟨b4, rfl⟩ := Hp.name H 3 rfl)
  have hp := Lib.hid hp
  obtain ⟨w3, rfl⟩ := Hp.nameW H
  refine region_chain (frm w3.heap.size (fun p0 w' => Hp w (match p0 with | 0 => [.blk b11 #[.int .i64 F, .int .i64 9223372036854775807] 28, .blk b9 #[.bool (true && !Sp.endB F)] 4, .blk b8 #[.int .i64 0, .int .i64 0] 28, .blk b4 #[.int .i64 sk, .int .i64 la, .int .i64 ra, .bool x, .bool y, .bool z] 24] | 1 => [.blk b11 #[.int .i64 F, .int .i64 9223372036854775807] 28, .blk b9 #[.bool (true && !Sp.endB F)] 4, .blk b8 #[.int .i64 0, .int .i64 0] 28, .blk b4 #[.int .i64 sk, .int .i64 la, .int .i64 ra, .bool x, .bool y, .bool z] 24] | 2 => [.blk b11 #[.int .i64 F, .int .i64 9223372036854775807] 28, .blk b9 #[.bool ((true && !Sp.endB F) && !Sp.endB A)] 4, .blk b8 #[.int .i64 0, .int .i64 0] 28, .blk b4 #[.int .i64 sk, .int .i64 la, .int .i64 ra, .bool x, .bool y, .bool z] 24] | _ => [.blk b11 #[.int .i64 F, .int .i64 A] 28, .blk b9 #[.bool ((true && !Sp.endB F) && !Sp.endB A)] 4, .blk b8 #[.int .i64 0, .int .i64 0] 28, .blk b4 #[.int .i64 sk, .int .i64 la, .int .i64 ra, .bool x, .bool y, .bool z] 24]) w')) (frm_ok (fun _ _ _ h hS => hS.step h)) [9, 10, 13] [.light 0 2, .light 0 2, .light 0 2, .light 0 2, .light 0 2, .light 0 2, .light 0 2, .light 0 2, .light 0 2, .turns 0, .turns 1, .light 0 2, .light 0 2, .turns 2] 84 [some 49, some 50, some 51, some 52, some 53, some 54, some 55, some 56, some 57, some 58, some 59, some 60, some 61, none] [[], [0], [], [], [3], [4], [], [6], [7], [5, 8], [2, 9], [1, 10], [], [11, 12]] [fun v _ => v = .pointer (some ⟨b11, 1, none⟩), fun v _ => v = .int .i64 9223372036854775807, fun v _ => v = .func (.func 14) #[] #[.pointer (some ⟨b9, 0, none⟩)], fun v _ => v = .pointer (some p), fun v _ => v = .pointer (some p), fun v _ => v = .int .i64 t, fun v _ => v = .pointer (some ⟨b4, 0, none⟩), fun v _ => v = .int .i64 sk, NewSl w3.heap.size 1 #[.int .i64 sk] 3, fun v _ => v = .int .i64 A, fun v _ => v = .int .i64 A, fun v _ => v = .int .i64 A, fun v _ => v = .pointer (some ⟨b11, 1, none⟩), fun _ _ => True] (by kernel_rfl) (by kernel_rfl) (by kernel_rfl) rfl (by kernel_rfl) rfl _ (fun vs => (by simp only [fillD, Nat.reduceAdd, Act.put, List.setIfInBounds_toArray, List.set_cons_zero, List.set_cons_succ]; rfl)) ?_ ?_ ?_ ?_
  · refine ⟨fun _ _ _ _ h => h, fun _ _ _ _ h => h, fun _ _ _ _ h => h, fun _ _ _ _ h => h, fun _ _ _ _ h => h, fun _ _ _ _ h => h, fun _ _ _ _ h => h, fun _ _ _ _ h => h, fun _ _ _ hr h => h.stay hr.2, fun _ _ _ _ h => h, fun _ _ _ _ h => h, fun _ _ _ _ h => h, fun _ _ _ _ h => h, fun _ _ _ _ h => h, trivial⟩
  · exact H.drew
  · refine ⟨?_, ?_, ?_, ?_, ?_, ?_, ?_, ?_, ?_, ?_, ?_, ?_, ?_, ?_, trivial⟩
    · intro p0 vs w' K hJ hp1 hp2 hS hR hK
      rw [if_pos (by rfl)]
      go_step
      exact hK.out _ _ (Below.refl _ _) (rfl)
    · intro p0 vs w' K hJ hp1 hp2 hS hR hK
      simp only [DepJ, List.getD_cons_zero, List.getD_cons_succ] at hJ
      obtain ⟨j0, -⟩ := hJ
      simp only [j0] at hK ⊢
      rw [if_pos (by rfl)]
      have hp : p0 = 0 ∨ p0 = 1 ∨ p0 = 2 := by omega
      have hc : w'.cell? ⟨b11, 1, none⟩ = some (.int .i64 9223372036854775807) := by rcases hp with rfl | rfl | rfl <;> exact Hp.cell hS 0 rfl rfl
      go_step
      exact hK.out _ _ (Below.refl _ _) rfl
    · intro p0 vs w' K hJ hp1 hp2 hS hR hK
      rw [if_pos (by rfl)]
      go_step
      exact hK.out _ _ (Below.refl _ _) (rfl)
    · intro p0 vs w' K hJ hp1 hp2 hS hR hK
      rw [if_pos (by rfl)]
      go_step
      exact hK.out _ _ (Below.refl _ _) (rfl)
    · intro p0 vs w' K hJ hp1 hp2 hS hR hK
      simp only [DepJ, List.getD_cons_zero, List.getD_cons_succ] at hJ
      obtain ⟨j3, -⟩ := hJ
      simp only [j3] at hK ⊢
      rw [if_pos (by rfl)]
      go_step
      exact hK.out _ _ (Below.refl _ _) (rfl)
    · intro p0 vs w' K hJ hp1 hp2 hS hR hK
      simp only [DepJ, List.getD_cons_zero, List.getD_cons_succ] at hJ
      obtain ⟨j4, -⟩ := hJ
      simp only [j4] at hK ⊢
      rw [if_pos (by rfl)]
      have hq : p0 = 0 ∨ p0 = 1 ∨ p0 = 2 := by omega
      have hc : w'.cell? p = some (.int .i64 t) := by rcases hq with rfl | rfl | rfl <;> exact (hS.low.cell hpl).trans hp.out
      go_step
      exact hK.out _ _ (Below.refl _ _) rfl
    · intro p0 vs w' K hJ hp1 hp2 hS hR hK
      rw [if_pos (by rfl)]
      go_step
      exact hK.out _ _ (Below.refl _ _) (rfl)
    · intro p0 vs w' K hJ hp1 hp2 hS hR hK
      simp only [DepJ, List.getD_cons_zero, List.getD_cons_succ] at hJ
      obtain ⟨j6, -⟩ := hJ
      simp only [j6] at hK ⊢
      rw [if_pos (by rfl)]
      have hp : p0 = 0 ∨ p0 = 1 ∨ p0 = 2 := by omega
      have hc : w'.cell? ⟨b4, 0, none⟩ = some (.int .i64 sk) := by rcases hp with rfl | rfl | rfl <;> exact Hp.cell hS 3 rfl rfl
      go_step
      exact hK.out _ _ (Below.refl _ _) rfl
    · intro p0 vs w' K hJ hp1 hp2 hS hR hK
      simp only [DepJ, List.getD_cons_zero, List.getD_cons_succ] at hJ
      obtain ⟨j7, -⟩ := hJ
      simp only [j7] at hK ⊢
      rw [if_pos (by rfl)]
      go_step
      exact hK.out _ _ ((Below.refl _ _).alloc (Nat.le_refl _) _) (NewSl.mk _ _ _ _ _ hR.1)
    · intro vs w' K hJ hS hR hK
      simp only [DepJ, List.getD_cons_zero, List.getD_cons_succ] at hJ
      obtain ⟨j5, j8, -⟩ := hJ
      obtain ⟨k8, j8, hB8, hh8⟩ := j8
      simp only [j5, j8] at hK ⊢
      rw [if_pos (by rfl)]
      go_step
      refine (add_blk _ _ ht hs _ _ _ hh8).mono ?_
      rintro e' w'' ⟨rfl, rfl⟩
      rw [eA.out]
      exact hK.out _ _ (AboveR.refl _ _) hS rfl
    · intro vs w' K hJ hS hR hK
      simp only [DepJ, List.getD_cons_zero, List.getD_cons_succ] at hJ
      obtain ⟨j2, j9, -⟩ := hJ
      simp only [j2, j9] at hK ⊢
      rw [if_pos (by rfl)]
      go_step
      refine (kept_hp _ _ _ 1 hS rfl).mono ?_
      rintro e' w'' ⟨rfl, ho, H'⟩
      exact hK.out _ _ (AboveR.only ho (H.lt 1 rfl)) H' rfl
    · intro p0 vs w' K hJ hp1 hp2 hS hR hK
      simp only [DepJ, List.getD_cons_zero, List.getD_cons_succ] at hJ
      obtain ⟨j1, j10, -⟩ := hJ
      simp only [j1, j10] at hK ⊢
      rw [if_pos (by rfl)]
      go_step
      exact hK.out _ _ (Below.refl _ _) (by simp only [Value.int.injEq, true_and]; have := gA.2; split <;> omega)
    · intro p0 vs w' K hJ hp1 hp2 hS hR hK
      rw [if_pos (by rfl)]
      go_step
      exact hK.out _ _ (Below.refl _ _) (rfl)
    · intro vs w' K hJ hS hR hK
      simp only [DepJ, List.getD_cons_zero, List.getD_cons_succ] at hJ
      obtain ⟨j11, j12, -⟩ := hJ
      simp only [j11, j12] at hK ⊢
      rw [if_pos (by rfl)]
      have hc := Hp.cell (j := 1) hS 0 rfl rfl
      have hz := Hp.frozen hS 0 rfl 1
      go_step
      exact hK.out undef _ (AboveR.set _ _ _ (H.lt 0 rfl)) (hS.set 0 rfl 1 (.int .i64 A)) trivial
  intro vs w' hJ hS hR
  simp only [AllJ, Nat.reduceAdd] at hJ
  obtain ⟨v0, v1, v2, v3, v4, v5, v6, v7, v8, v9, v10, v11, v12, v13, -⟩ := hJ
  simp only [v9, v10]
  clear H C
  have H : Hp w [.blk b11 #[.int .i64 F, .int .i64 A] 28, .blk b9 #[.bool ((true && !Sp.endB F) && !Sp.endB A)] 4, .blk b8 #[.int .i64 0, .int .i64 0] 28, .blk b4 #[.int .i64 sk, .int .i64 la, .int .i64 ra, .bool x, .bool y, .bool z] 24] w' := hS
  clear hS hR
  have C := Hp.facts H
  simp only [Facts, factsL, and_true, true_and, List.set_cons_zero, List.set_cons_succ, List.setIfInBounds_toArray] at C
  clear v0 v1 v2 v3 v4 v5 v6 v7 v8 v9 v10 v11 v12 v13
  (repeat' (first | ((with_reducible refine Hp.abs_alloc H ?_); intro b' w' H' hb'; (try simp only [hb']); clear hb'; ((try simp only [List.set_cons_zero, List.set_cons_succ, List.setIfInBounds_toArray] at H'); clear C H; have H := H'; clear H'; have C := Hp.facts H; simp only [Facts, factsL, and_true, true_and, List.set_cons_zero, List.set_cons_succ, List.setIfInBounds_toArray] at C)) | ((with_reducible show wpList _ _ _ _ _ (World.setCell _ _ _)); first | ((with_reducible apply Hp.abs_gen H); (repeat (with_reducible apply Hp.set' 0)); (with_reducible exact H); (repeat rfl); intro w' H'; ((try simp only [List.set_cons_zero, List.set_cons_succ, List.setIfInBounds_toArray] at H'); clear C H; have H := H'; clear H'; have C := Hp.facts H; simp only [Facts, factsL, and_true, true_and, List.set_cons_zero, List.set_cons_succ, List.setIfInBounds_toArray] at C)) | ((with_reducible apply Hp.abs_gen H); (repeat (with_reducible apply Hp.set' 1)); (with_reducible exact H); (repeat rfl); intro w' H'; ((try simp only [List.set_cons_zero, List.set_cons_succ, List.setIfInBounds_toArray] at H'); clear C H; have H := H'; clear H'; have C := Hp.facts H; simp only [Facts, factsL, and_true, true_and, List.set_cons_zero, List.set_cons_succ, List.setIfInBounds_toArray] at C)) | ((with_reducible apply Hp.abs_gen H); (repeat (with_reducible apply Hp.set' 2)); (with_reducible exact H); (repeat rfl); intro w' H'; ((try simp only [List.set_cons_zero, List.set_cons_succ, List.setIfInBounds_toArray] at H'); clear C H; have H := H'; clear H'; have C := Hp.facts H; simp only [Facts, factsL, and_true, true_and, List.set_cons_zero, List.set_cons_succ, List.setIfInBounds_toArray] at C)) | ((with_reducible apply Hp.abs_gen H); (repeat (with_reducible apply Hp.set' 3)); (with_reducible exact H); (repeat rfl); intro w' H'; ((try simp only [List.set_cons_zero, List.set_cons_succ, List.setIfInBounds_toArray] at H'); clear C H; have H := H'; clear H'; have C := Hp.facts H; simp only [Facts, factsL, and_true, true_and, List.set_cons_zero, List.set_cons_succ, List.setIfInBounds_toArray] at C)) | ((with_reducible apply Hp.abs_gen H); (repeat (with_reducible apply Hp.set' 4)); (with_reducible exact H); (repeat rfl); intro w' H'; ((try simp only [List.set_cons_zero, List.set_cons_succ, List.setIfInBounds_toArray] at H'); clear C H; have H := H'; clear H'; have C := Hp.facts H; simp only [Facts, factsL, and_true, true_and, List.set_cons_zero, List.set_cons_succ, List.setIfInBounds_toArray] at C)) | ((with_reducible apply Hp.abs_gen H); (repeat (with_reducible apply Hp.set' 5)); (with_reducible exact H); (repeat rfl); intro w' H'; ((try simp only [List.set_cons_zero, List.set_cons_succ, List.setIfInBounds_toArray] at H'); clear C H; have H := H'; clear H'; have C := Hp.facts H; simp only [Facts, factsL, and_true, true_and, List.set_cons_zero, List.set_cons_succ, List.setIfInBounds_toArray] at C)) | ((with_reducible apply Hp.abs_gen H); (repeat (with_reducible apply Hp.set' 6)); (with_reducible exact H); (repeat rfl); intro w' H'; ((try simp only [List.set_cons_zero, List.set_cons_succ, List.setIfInBounds_toArray] at H'); clear C H; have H := H'; clear H'; have C := Hp.facts H; simp only [Facts, factsL, and_true, true_and, List.set_cons_zero, List.set_cons_succ, List.setIfInBounds_toArray] at C)) | ((with_reducible apply Hp.abs_gen H); (repeat (with_reducible apply Hp.set' 7)); (with_reducible exact H); (repeat rfl); intro w' H'; ((try simp only [List.set_cons_zero, List.set_cons_succ, List.setIfInBounds_toArray] at H'); clear C H; have H := H'; clear H'; have C := Hp.facts H; simp only [Facts, factsL, and_true, true_and, List.set_cons_zero, List.set_cons_succ, List.setIfInBounds_toArray] at C))) | go_values | go_skip | go_guarded | go_step | go_upon | go_back | (simp only [Int.not_lt, Int.not_le] at *; go_simp) | (go_values <;> (try go_simp)) | (go_ite <;> go_prune <;> (try go_simp)) | (split <;> (first | (rename_i hx; exact (hx _ rfl).elim) | go_prune))))
  obtain ⟨w5, rfl⟩ := Hp.nameW H
  refine region_chain (frm w5.heap.size (fun p0 w' => Hp w (match p0 with | 0 => [.blk b11 #[.int .i64 F, .int .i64 A] 28, .blk b9 #[.bool ((true && !Sp.endB F) && !Sp.endB A)] 4, .blk b8 #[.int .i64 0, .int .i64 0] 28, .blk b4 #[.int .i64 sk, .int .i64 la, .int .i64 ra, .bool x, .bool y, .bool z] 24] | 1 => [.blk b11 #[.int .i64 F, .int .i64 A] 28, .blk b9 #[.bool ((true && !Sp.endB F) && !Sp.endB A)] 4, .blk b8 #[.int .i64 0, .int .i64 0] 28, .blk b4 #[.int .i64 sk, .int .i64 la, .int .i64 ra, .bool x, .bool y, .bool z] 24] | 2 => [.blk b11 #[.int .i64 F, .int .i64 A] 28, .blk b9 #[.bool (((true && !Sp.endB F) && !Sp.endB A) && !Sp.endB X)] 4, .blk b8 #[.int .i64 0, .int .i64 0] 28, .blk b4 #[.int .i64 sk, .int .i64 la, .int .i64 ra, .bool x, .bool y, .bool z] 24] | 3 => [.blk b11 #[.int .i64 F, .int .i64 A] 28, .blk b9 #[.bool (((true && !Sp.endB F) && !Sp.endB A) && !Sp.endB X)] 4, .blk b8 #[.int .i64 0, .int .i64 0] 28, .blk b4 #[.int .i64 sk, .int .i64 la, .int .i64 ra, .bool x, .bool y, .bool z] 24] | 4 => [.blk b11 #[.int .i64 F, .int .i64 A] 28, .blk b9 #[.bool ((((true && !Sp.endB F) && !Sp.endB A) && !Sp.endB X) && !Sp.endB Y)] 4, .blk b8 #[.int .i64 0, .int .i64 0] 28, .blk b4 #[.int .i64 sk, .int .i64 la, .int .i64 ra, .bool x, .bool y, .bool z] 24] | _ => [.blk b11 #[.int .i64 F, .int .i64 M] 28, .blk b9 #[.bool ((((true && !Sp.endB F) && !Sp.endB A) && !Sp.endB X) && !Sp.endB Y)] 4, .blk b8 #[.int .i64 0, .int .i64 0] 28, .blk b4 #[.int .i64 sk, .int .i64 la, .int .i64 ra, .bool x, .bool y, .bool z] 24]) w')) (frm_ok (fun _ _ _ h hS => hS.step h)) [7, 8, 12, 13, 16] [.light 0 4, .light 0 4, .light 0 4, .light 0 4, .light 0 4, .light 0 4, .light 0 4, .turns 0, .turns 1, .light 0 4, .light 0 4, .light 0 4, .turns 2, .turns 3, .light 0 4, .light 0 4, .turns 4] 84 [some 64, some 65, some 66, some 67, some 68, some 69, some 70, some 71, some 72, some 73, some 74, some 75, some 76, some 77, some 78, some 79, none] [[], [0], [], [], [], [], [5], [4, 6], [3, 7], [], [9], [10], [8, 11], [2, 12], [1, 13], [], [14, 15]] [fun v _ => v = .pointer (some ⟨b11, 1, none⟩), fun v _ => v = .int .i64 A, fun v _ => v = .func (.func 14) #[] #[.pointer (some ⟨b9, 0, none⟩)], fun v _ => v = .func (.func 14) #[] #[.pointer (some ⟨b9, 0, none⟩)], fun v _ => v = .int .i64 f, fun v _ => v = .int .i64 age, NewSl w5.heap.size 1 #[.int .i64 age] 3, fun v _ => v = .int .i64 X, fun v _ => v = .int .i64 X, fun v _ => v = .pointer (some ⟨b4, 0, none⟩), fun v _ => v = .int .i64 sk, NewSl w5.heap.size 1 #[.int .i64 sk] 3, fun v _ => v = .int .i64 Y, fun v _ => v = .int .i64 Y, fun v _ => v = .int .i64 M, fun v _ => v = .pointer (some ⟨b11, 1, none⟩), fun _ _ => True] (by kernel_rfl) (by kernel_rfl) (by kernel_rfl) rfl (by kernel_rfl) rfl _ (fun vs => (by simp only [fillD, Nat.reduceAdd, Act.put, List.setIfInBounds_toArray, List.set_cons_zero, List.set_cons_succ]; rfl)) ?_ ?_ ?_ ?_
  · refine ⟨fun _ _ _ _ h => h, fun _ _ _ _ h => h, fun _ _ _ _ h => h, fun _ _ _ _ h => h, fun _ _ _ _ h => h, fun _ _ _ _ h => h, fun _ _ _ hr h => h.stay hr.2, fun _ _ _ _ h => h, fun _ _ _ _ h => h, fun _ _ _ _ h => h, fun _ _ _ _ h => h, fun _ _ _ hr h => h.stay hr.2, fun _ _ _ _ h => h, fun _ _ _ _ h => h, fun _ _ _ _ h => h, fun _ _ _ _ h => h, fun _ _ _ _ h => h, trivial⟩
  · exact H.drew
  · refine ⟨?_, ?_, ?_, ?_, ?_, ?_, ?_, ?_, ?_, ?_, ?_, ?_, ?_, ?_, ?_, ?_, ?_, trivial⟩
    · intro p0 vs w' K hJ hp1 hp2 hS hR hK
      rw [if_pos (by rfl)]
      go_step
      exact hK.out _ _ (Below.refl _ _) (rfl)
    · intro p0 vs w' K hJ hp1 hp2 hS hR hK
      simp only [DepJ, List.getD_cons_zero, List.getD_cons_succ] at hJ
      obtain ⟨j0, -⟩ := hJ
      simp only [j0] at hK ⊢
      rw [if_pos (by rfl)]
      have hp : p0 = 0 ∨ p0 = 1 ∨ p0 = 2 ∨ p0 = 3 ∨ p0 = 4 := by omega
      have hc : w'.cell? ⟨b11, 1, none⟩ = some (.int .i64 A) := by rcases hp with rfl | rfl | rfl | rfl | rfl <;> exact Hp.cell hS 0 rfl rfl
      go_step
      exact hK.out _ _ (Below.refl _ _) rfl
    · intro p0 vs w' K hJ hp1 hp2 hS hR hK
      rw [if_pos (by rfl)]
      go_step
      exact hK.out _ _ (Below.refl _ _) (rfl)
    · intro p0 vs w' K hJ hp1 hp2 hS hR hK
      rw [if_pos (by rfl)]
      go_step
      exact hK.out _ _ (Below.refl _ _) (rfl)
    · intro p0 vs w' K hJ hp1 hp2 hS hR hK
      rw [if_pos (by rfl)]
      go_step
      exact hK.out _ _ (Below.refl _ _) (rfl)
    · intro p0 vs w' K hJ hp1 hp2 hS hR hK
      rw [if_pos (by rfl)]
      go_step
      exact hK.out _ _ (Below.refl _ _) (rfl)
    · intro p0 vs w' K hJ hp1 hp2 hS hR hK
      simp only [DepJ, List.getD_cons_zero, List.getD_cons_succ] at hJ
      obtain ⟨j5, -⟩ := hJ
      simp only [j5] at hK ⊢
      rw [if_pos (by rfl)]
      go_step
      exact hK.out _ _ ((Below.refl _ _).alloc (Nat.le_refl _) _) (NewSl.mk _ _ _ _ _ hR.1)
    · intro vs w' K hJ hS hR hK
      simp only [DepJ, List.getD_cons_zero, List.getD_cons_succ] at hJ
      obtain ⟨j4, j6, -⟩ := hJ
      obtain ⟨k6, j6, hB6, hh6⟩ := j6
      simp only [j4, j6] at hK ⊢
      rw [if_pos (by rfl)]
      go_step
      refine (add_blk _ _ hf ha _ _ _ hh6).mono ?_
      rintro e' w'' ⟨rfl, rfl⟩
      rw [eX.out]
      exact hK.out _ _ (AboveR.refl _ _) hS rfl
    · intro vs w' K hJ hS hR hK
      simp only [DepJ, List.getD_cons_zero, List.getD_cons_succ] at hJ
      obtain ⟨j3, j7, -⟩ := hJ
      simp only [j3, j7] at hK ⊢
      rw [if_pos (by rfl)]
      go_step
      refine (kept_hp _ _ _ 1 hS rfl).mono ?_
      rintro e' w'' ⟨rfl, ho, H'⟩
      exact hK.out _ _ (AboveR.only ho (H.lt 1 rfl)) H' rfl
    · intro p0 vs w' K hJ hp1 hp2 hS hR hK
      rw [if_pos (by rfl)]
      go_step
      exact hK.out _ _ (Below.refl _ _) (rfl)
    · intro p0 vs w' K hJ hp1 hp2 hS hR hK
      simp only [DepJ, List.getD_cons_zero, List.getD_cons_succ] at hJ
      obtain ⟨j9, -⟩ := hJ
      simp only [j9] at hK ⊢
      rw [if_pos (by rfl)]
      have hp : p0 = 0 ∨ p0 = 1 ∨ p0 = 2 ∨ p0 = 3 ∨ p0 = 4 := by omega
      have hc : w'.cell? ⟨b4, 0, none⟩ = some (.int .i64 sk) := by rcases hp with rfl | rfl | rfl | rfl | rfl <;> exact Hp.cell hS 3 rfl rfl
      go_step
      exact hK.out _ _ (Below.refl _ _) rfl
    · intro p0 vs w' K hJ hp1 hp2 hS hR hK
      simp only [DepJ, List.getD_cons_zero, List.getD_cons_succ] at hJ
      obtain ⟨j10, -⟩ := hJ
      simp only [j10] at hK ⊢
      rw [if_pos (by rfl)]
      go_step
      exact hK.out _ _ ((Below.refl _ _).alloc (Nat.le_refl _) _) (NewSl.mk _ _ _ _ _ hR.1)
    · intro vs w' K hJ hS hR hK
      simp only [DepJ, List.getD_cons_zero, List.getD_cons_succ] at hJ
      obtain ⟨j8, j11, -⟩ := hJ
      obtain ⟨k11, j11, hB11, hh11⟩ := j11
      simp only [j8, j11] at hK ⊢
      rw [if_pos (by rfl)]
      go_step
      refine (add_blk _ _ gX hs _ _ _ hh11).mono ?_
      rintro e' w'' ⟨rfl, rfl⟩
      rw [eY.out]
      exact hK.out _ _ (AboveR.refl _ _) hS rfl
    · intro vs w' K hJ hS hR hK
      simp only [DepJ, List.getD_cons_zero, List.getD_cons_succ] at hJ
      obtain ⟨j2, j12, -⟩ := hJ
      simp only [j2, j12] at hK ⊢
      rw [if_pos (by rfl)]
      go_step
      refine (kept_hp _ _ _ 1 hS rfl).mono ?_
      rintro e' w'' ⟨rfl, ho, H'⟩
      exact hK.out _ _ (AboveR.only ho (H.lt 1 rfl)) H' rfl
    · intro p0 vs w' K hJ hp1 hp2 hS hR hK
      simp only [DepJ, List.getD_cons_zero, List.getD_cons_succ] at hJ
      obtain ⟨j1, j13, -⟩ := hJ
      simp only [j1, j13] at hK ⊢
      rw [if_pos (by rfl)]
      go_step
      exact hK.out _ _ (Below.refl _ _) (by simp only [Value.int.injEq, true_and]; have := eM.out; omega)
    · intro p0 vs w' K hJ hp1 hp2 hS hR hK
      rw [if_pos (by rfl)]
      go_step
      exact hK.out _ _ (Below.refl _ _) (rfl)
    · intro vs w' K hJ hS hR hK
      simp only [DepJ, List.getD_cons_zero, List.getD_cons_succ] at hJ
      obtain ⟨j14, j15, -⟩ := hJ
      simp only [j14, j15] at hK ⊢
      rw [if_pos (by rfl)]
      have hc := Hp.cell (j := 1) hS 0 rfl rfl
      have hz := Hp.frozen hS 0 rfl 1
      go_step
      exact hK.out undef _ (AboveR.set _ _ _ (H.lt 0 rfl)) (hS.set 0 rfl 1 (.int .i64 M)) trivial
  intro vs w' hJ hS hR
  simp only [AllJ, Nat.reduceAdd] at hJ
  obtain ⟨v0, v1, v2, v3, v4, v5, v6, v7, v8, v9, v10, v11, v12, v13, v14, v15, v16, -⟩ := hJ
  simp only [v7, v8, v12, v13]
  clear H C
  have H : Hp w [.blk b11 #[.int .i64 F, .int .i64 M] 28, .blk b9 #[.bool ((((true && !Sp.endB F) && !Sp.endB A) && !Sp.endB X) && !Sp.endB Y)] 4, .blk b8 #[.int .i64 0, .int .i64 0] 28, .blk b4 #[.int .i64 sk, .int .i64 la, .int .i64 ra, .bool x, .bool y, .bool z] 24] w' := hS
  clear hS hR
  have C := Hp.facts H
  simp only [Facts, factsL, and_true, true_and, List.set_cons_zero, List.set_cons_succ, List.setIfInBounds_toArray] at C
  clear v0 v1 v2 v3 v4 v5 v6 v7 v8 v9 v10 v11 v12 v13 v14 v15 v16
  obtain ⟨B, hB⟩ : ∃ B : Bool, B = ((((true && !Sp.endB F) && !Sp.endB A) && !Sp.endB X) && !Sp.endB Y) := ⟨_, rfl⟩
  have eB := Lib.hid hB
  rw [← hB] at H
  clear hB C
  have C := Hp.facts H
  simp only [Facts, factsL, and_true, true_and, List.set_cons_zero, List.set_cons_succ, List.setIfInBounds_toArray] at C
  cases B
  · (repeat' (first | ((with_reducible refine Hp.abs_alloc H ?_); intro b' w' H' hb'; (try simp only [hb']); clear hb'; ((try simp only [List.set_cons_zero, List.set_cons_succ, List.setIfInBounds_toArray] at H'); clear C H; have H := H'; clear H'; have C := Hp.facts H; simp only [Facts, factsL, and_true, true_and, List.set_cons_zero, List.set_cons_succ, List.setIfInBounds_toArray] at C)) | ((with_reducible show wpList _ _ _ _ _ (World.setCell _ _ _)); first | ((with_reducible apply Hp.abs_gen H); (repeat (with_reducible apply Hp.set' 0)); (with_reducible exact H); (repeat rfl); intro w' H'; ((try simp only [List.set_cons_zero, List.set_cons_succ, List.setIfInBounds_toArray] at H'); clear C H; have H := H'; clear H'; have C := Hp.facts H; simp only [Facts, factsL, and_true, true_and, List.set_cons_zero, List.set_cons_succ, List.setIfInBounds_toArray] at C)) | ((with_reducible apply Hp.abs_gen H); (repeat (with_reducible apply Hp.set' 1)); (with_reducible exact H); (repeat rfl); intro w' H'; ((try simp only [List.set_cons_zero, List.set_cons_succ, List.setIfInBounds_toArray] at H'); clear C H; have H := H'; clear H'; have C := Hp.facts H; simp only [Facts, factsL, and_true, true_and, List.set_cons_zero, List.set_cons_succ, List.setIfInBounds_toArray] at C)) | ((with_reducible apply Hp.abs_gen H); (repeat (with_reducible apply Hp.set' 2)); (with_reducible exact H); (repeat rfl); intro w' H'; ((try simp only [List.set_cons_zero, List.set_cons_succ, List.setIfInBounds_toArray] at H'); clear C H; have H := H'; clear H'; have C := Hp.facts H; simp only [Facts, factsL, and_true, true_and, List.set_cons_zero, List.set_cons_succ, List.setIfInBounds_toArray] at C)) | ((with_reducible apply Hp.abs_gen H); (repeat (with_reducible apply Hp.set' 3)); (with_reducible exact H); (repeat rfl); intro w' H'; ((try simp only [List.set_cons_zero, List.set_cons_succ, List.setIfInBounds_toArray] at H'); clear C H; have H := H'; clear H'; have C := Hp.facts H; simp only [Facts, factsL, and_true, true_and, List.set_cons_zero, List.set_cons_succ, List.setIfInBounds_toArray] at C)) | ((with_reducible apply Hp.abs_gen H); (repeat (with_reducible apply Hp.set' 4)); (with_reducible exact H); (repeat rfl); intro w' H'; ((try simp only [List.set_cons_zero, List.set_cons_succ, List.setIfInBounds_toArray] at H'); clear C H; have H := H'; clear H'; have C := Hp.facts H; simp only [Facts, factsL, and_true, true_and, List.set_cons_zero, List.set_cons_succ, List.setIfInBounds_toArray] at C)) | ((with_reducible apply Hp.abs_gen H); (repeat (with_reducible apply Hp.set' 5)); (with_reducible exact H); (repeat rfl); intro w' H'; ((try simp only [List.set_cons_zero, List.set_cons_succ, List.setIfInBounds_toArray] at H'); clear C H; have H := H'; clear H'; have C := Hp.facts H; simp only [Facts, factsL, and_true, true_and, List.set_cons_zero, List.set_cons_succ, List.setIfInBounds_toArray] at C)) | ((with_reducible apply Hp.abs_gen H); (repeat (with_reducible apply Hp.set' 6)); (with_reducible exact H); (repeat rfl); intro w' H'; ((try simp only [List.set_cons_zero, List.set_cons_succ, List.setIfInBounds_toArray] at H'); clear C H; have H := H'; clear H'; have C := Hp.facts H; simp only [Facts, factsL, and_true, true_and, List.set_cons_zero, List.set_cons_succ, List.setIfInBounds_toArray] at C)) | ((with_reducible apply Hp.abs_gen H); (repeat (with_reducible apply Hp.set' 7)); (with_reducible exact H); (repeat rfl); intro w' H'; ((try simp only [List.set_cons_zero, List.set_cons_succ, List.setIfInBounds_toArray] at H'); clear C H; have H := H'; clear H'; have C := Hp.facts H; simp only [Facts, factsL, and_true, true_and, List.set_cons_zero, List.set_cons_succ, List.setIfInBounds_toArray] at C))) | (go_at_call 13; (with_reducible refine (never_any _).mono ?_); rintro e' w' ⟨rfl, hb'⟩; (have H' := Hp.step H hb'; clear hb'; ((try simp only [List.set_cons_zero, List.set_cons_succ, List.setIfInBounds_toArray] at H'); clear C H; have H := H'; clear H'; have C := Hp.facts H; simp only [Facts, factsL, and_true, true_and, List.set_cons_zero, List.set_cons_succ, List.setIfInBounds_toArray] at C))) | go_values | go_skip | go_guarded | go_step | go_upon | go_back | (simp only [Int.not_lt, Int.not_le] at *; go_simp) | (go_values <;> (try go_simp)) | (go_ite <;> go_prune <;> (try go_simp)) | (split <;> (first | (rename_i hx; exact (hx _ rfl).elim) | go_prune))))
    refine bodyPost_ret (v := .agg #[.int .i64 1, .int .i64 0]) (by simp [results, go_sem, C]) rfl ⟨?_, H.low⟩
    have e := eB.out
    rw [Bool.true_and] at e
    rw [← e]
    rfl
  · (repeat' (first | ((with_reducible refine Hp.abs_alloc H ?_); intro b' w' H' hb'; (try simp only [hb']); clear hb'; ((try simp only [List.set_cons_zero, List.set_cons_succ, List.setIfInBounds_toArray] at H'); clear C H; have H := H'; clear H'; have C := Hp.facts H; simp only [Facts, factsL, and_true, true_and, List.set_cons_zero, List.set_cons_succ, List.setIfInBounds_toArray] at C)) | ((with_reducible show wpList _ _ _ _ _ (World.setCell _ _ _)); first | ((with_reducible apply Hp.abs_gen H); (repeat (with_reducible apply Hp.set' 0)); (with_reducible exact H); (repeat rfl); intro w' H'; ((try simp only [List.set_cons_zero, List.set_cons_succ, List.setIfInBounds_toArray] at H'); clear C H; have H := H'; clear H'; have C := Hp.facts H; simp only [Facts, factsL, and_true, true_and, List.set_cons_zero, List.set_cons_succ, List.setIfInBounds_toArray] at C)) | ((with_reducible apply Hp.abs_gen H); (repeat (with_reducible apply Hp.set' 1)); (with_reducible exact H); (repeat rfl); intro w' H'; ((try simp only [List.set_cons_zero, List.set_cons_succ, List.setIfInBounds_toArray] at H'); clear C H; have H := H'; clear H'; have C := Hp.facts H; simp only [Facts, factsL, and_true, true_and, List.set_cons_zero, List.set_cons_succ, List.setIfInBounds_toArray] at C)) | ((with_reducible apply Hp.abs_gen H); (repeat (with_reducible apply Hp.set' 2)); (with_reducible exact H); (repeat rfl); intro w' H'; ((try simp only [List.set_cons_zero, List.set_cons_succ, List.setIfInBounds_toArray] at H'); clear C H; have H := H'; clear H'; have C := Hp.facts H; simp only [Facts, factsL, and_true, true_and, List.set_cons_zero, List.set_cons_succ, List.setIfInBounds_toArray] at C)) | ((with_reducible apply Hp.abs_gen H); (repeat (with_reducible apply Hp.set' 3)); (with_reducible exact H); (repeat rfl); intro w' H'; ((try simp only [List.set_cons_zero, List.set_cons_succ, List.setIfInBounds_toArray] at H'); clear C H; have H := H'; clear H'; have C := Hp.facts H; simp only [Facts, factsL, and_true, true_and, List.set_cons_zero, List.set_cons_succ, List.setIfInBounds_toArray] at C)) | ((with_reducible apply Hp.abs_gen H); (repeat (with_reducible apply Hp.set' 4)); (with_reducible exact H); (repeat rfl); intro w' H'; ((try simp only [List.set_cons_zero, List.set_cons_succ, List.setIfInBounds_toArray] at H'); clear C H; have H := H'; clear H'; have C := Hp.facts H; simp only [Facts, factsL, and_true, true_and, List.set_cons_zero, List.set_cons_succ, List.setIfInBounds_toArray] at C)) | ((with_reducible apply Hp.abs_gen H); (repeat (with_reducible apply Hp.set' 5)); (with_reducible exact H); (repeat rfl); intro w' H'; ((try simp only [List.set_cons_zero, List.set_cons_succ, List.setIfInBounds_toArray] at H'); clear C H; have H := H'; clear H'; have C := Hp.facts H; simp only [Facts, factsL, and_true, true_and, List.set_cons_zero, List.set_cons_succ, List.setIfInBounds_toArray] at C)) | ((with_reducible apply Hp.abs_gen H); (repeat (with_reducible apply Hp.set' 6)); (with_reducible exact H); (repeat rfl); intro w' H'; ((try simp only [List.set_cons_zero, List.set_cons_succ, List.setIfInBounds_toArray] at H'); clear C H; have H := H'; clear H'; have C := Hp.facts H; simp only [Facts, factsL, and_true, true_and, List.set_cons_zero, List.set_cons_succ, List.setIfInBounds_toArray] at C)) | ((with_reducible apply Hp.abs_gen H); (repeat (with_reducible apply Hp.set' 7)); (with_reducible exact H); (repeat rfl); intro w' H'; ((try simp only [List.set_cons_zero, List.set_cons_succ, List.setIfInBounds_toArray] at H'); clear C H; have H := H'; clear H'; have C := Hp.facts H; simp only [Facts, factsL, and_true, true_and, List.set_cons_zero, List.set_cons_succ, List.setIfInBounds_toArray] at C))) | go_values | go_skip | go_guarded | go_step | go_upon | go_back | (simp only [Int.not_lt, Int.not_le] at *; go_simp) | (go_values <;> (try go_simp)) | (go_ite <;> go_prune <;> (try go_simp)) | (split <;> (first | (rename_i hx; exact (hx _ rfl).elim) | go_prune))))
    refine bodyPost_ret (v := .agg #[.int .i64 F, .int .i64 M]) (by simp [results, go_sem, C]) rfl ⟨?_, H.low⟩
    have e := eB.out
    rw [Bool.true_and] at e
    rw [← e]
    rfl
set_option maxHeartbeats 2000000 in
theorem fresh_00 (sk la ra : Int) (x z : Bool) (f age : Int) (hf : Sp.ok f) (hs : Sp.ok sk) (ha : Sp.ok age) (hR : (decide (0 ≤ sk) && decide (0 ≤ la) && decide (0 ≤ ra)) = true) (ha0 : age = 0) (w : World) :
    Calls Try.prog 5 #[polV sk la ra x false z, .int .i64 f, .pointer none, .int .i64 age] w fun e w' => e = .returned (freshV (!Sp.endB (Sp.ssub f sk)) (Sp.ssub f sk) 9223372036854775807) ∧ Below w.heap.size w w' := by
  have H := Hp.start w
  have C : True := trivial
  have hmf : ∀ (fn : Fn) (first cap : Array Value) (w : World), (Instr.makeFunc fn first cap).run Try.prog w = .ok (.func fn first cap) w := fun _ _ _ _ => rfl
  subst ha0
  have gF := ssub_ok f sk
  generalize hF : Sp.ssub f sk = F at *
  have eF := Lib.hid hF
  clear hF
  go_enter Try.func5, Try.ntmps5
  (repeat' (first | ((with_reducible refine Hp.abs_alloc H ?_); intro b' w' H' hb'; (try simp only [hb']); clear hb'; ((try simp only [List.set_cons_zero, List.set_cons_succ, List.setIfInBounds_toArray] at H'); clear C H; have H := H'; clear H'; have C := Hp.facts H; simp only [Facts, factsL, and_true, true_and, List.set_cons_zero, List.set_cons_succ, List.setIfInBounds_toArray] at C)) | ((with_reducible show wpList _ _ _ _ _ (World.setCell _ _ _)); first | ((with_reducible apply Hp.abs_gen H); (repeat (with_reducible apply Hp.set' 0)); (with_reducible exact H); (repeat rfl); intro w' H'; ((try simp only [List.set_cons_zero, List.set_cons_succ, List.setIfInBounds_toArray] at H'); clear C H; have H := H'; clear H'; have C := Hp.facts H; simp only [Facts, factsL, and_true, true_and, List.set_cons_zero, List.set_cons_succ, List.setIfInBounds_toArray] at C)) | ((with_reducible apply Hp.abs_gen H); (repeat (with_reducible apply Hp.set' 1)); (with_reducible exact H); (repeat rfl); intro w' H'; ((try simp only [List.set_cons_zero, List.set_cons_succ, List.setIfInBounds_toArray] at H'); clear C H; have H := H'; clear H'; have C := Hp.facts H; simp only [Facts, factsL, and_true, true_and, List.set_cons_zero, List.set_cons_succ, List.setIfInBounds_toArray] at C)) | ((with_reducible apply Hp.abs_gen H); (repeat (with_reducible apply Hp.set' 2)); (with_reducible exact H); (repeat rfl); intro w' H'; ((try simp only [List.set_cons_zero, List.set_cons_succ, List.setIfInBounds_toArray] at H'); clear C H; have H := H'; clear H'; have C := Hp.facts H; simp only [Facts, factsL, and_true, true_and, List.set_cons_zero, List.set_cons_succ, List.setIfInBounds_toArray] at C)) | ((with_reducible apply Hp.abs_gen H); (repeat (with_reducible apply Hp.set' 3)); (with_reducible exact H); (repeat rfl); intro w' H'; ((try simp only [List.set_cons_zero, List.set_cons_succ, List.setIfInBounds_toArray] at H'); clear C H; have H := H'; clear H'; have C := Hp.facts H; simp only [Facts, factsL, and_true, true_and, List.set_cons_zero, List.set_cons_succ, List.setIfInBounds_toArray] at C)) | ((with_reducible apply Hp.abs_gen H); (repeat (with_reducible apply Hp.set' 4)); (with_reducible exact H); (repeat rfl); intro w' H'; ((try simp only [List.set_cons_zero, List.set_cons_succ, List.setIfInBounds_toArray] at H'); clear C H; have H := H'; clear H'; have C := Hp.facts H; simp only [Facts, factsL, and_true, true_and, List.set_cons_zero, List.set_cons_succ, List.setIfInBounds_toArray] at C)) | ((with_reducible apply Hp.abs_gen H); (repeat (with_reducible apply Hp.set' 5)); (with_reducible exact H); (repeat rfl); intro w' H'; ((try simp only [List.set_cons_zero, List.set_cons_succ, List.setIfInBounds_toArray] at H'); clear C H; have H := H'; clear H'; have C := Hp.facts H; simp only [Facts, factsL, and_true, true_and, List.set_cons_zero, List.set_cons_succ, List.setIfInBounds_toArray] at C)) | ((with_reducible apply Hp.abs_gen H); (repeat (with_reducible apply Hp.set' 6)); (with_reducible exact H); (repeat rfl); intro w' H'; ((try simp only [List.set_cons_zero, List.set_cons_succ, List.setIfInBounds_toArray] at H'); clear C H; have H := H'; clear H'; have C := Hp.facts H; simp only [Facts, factsL, and_true, true_and, List.set_cons_zero, List.set_cons_succ, List.setIfInBounds_toArray] at C)) | ((with_reducible apply Hp.abs_gen H); (repeat (with_reducible apply Hp.set' 7)); (with_reducible exact H); (repeat rfl); intro w' H'; ((try simp only [List.set_cons_zero, List.set_cons_succ, List.setIfInBounds_toArray] at H'); clear C H; have H := H'; clear H'; have C := Hp.facts H; simp only [Facts, factsL, and_true, true_and, List.set_cons_zero, List.set_cons_succ, List.setIfInBounds_toArray] at C))) | (go_at_call 12; refine (right_any _ _ _ _ _ _ _).mono ?_; rintro e' w' ⟨rfl, hb'⟩; rw [hR]; (have H' := Hp.step H hb'; clear hb'; ((try simp only [List.set_cons_zero, List.set_cons_succ, List.setIfInBounds_toArray] at H'); clear C H; have H := H'; clear H'; have C := Hp.facts H; simp only [Facts, factsL, and_true, true_and, List.set_cons_zero, List.set_cons_succ, List.setIfInBounds_toArray] at C))) | (go_at_call 9; refine (sub_any _ _ hf hs _).mono ?_; rintro e' w' ⟨rfl, rfl⟩; rw [eF.out]) | (go_at_call 14; refine (kept_hp _ _ _ 0 H rfl).mono ?_; rintro e' w' ⟨rfl, -, H'⟩; ((try simp only [List.set_cons_zero, List.set_cons_succ, List.setIfInBounds_toArray] at H'); clear C H; have H := H'; clear H'; have C := Hp.facts H; simp only [Facts, factsL, and_true, true_and, List.set_cons_zero, List.set_cons_succ, List.setIfInBounds_toArray] at C)) | (go_at_call 13; (with_reducible refine (never_any _).mono ?_); rintro e' w' ⟨rfl, hb'⟩; (have H' := Hp.step H hb'; clear hb'; ((try simp only [List.set_cons_zero, List.set_cons_succ, List.setIfInBounds_toArray] at H'); clear C H; have H := H'; clear H'; have C := Hp.facts H; simp only [Facts, factsL, and_true, true_and, List.set_cons_zero, List.set_cons_succ, List.setIfInBounds_toArray] at C))) | go_values | go_skip | go_guarded | go_step | go_upon | go_back | (simp only [Int.not_lt, Int.not_le] at *; go_simp) | (go_values <;> (try go_simp)) | (go_ite <;> go_prune <;> (try go_simp)) | (split <;> (first | (rename_i hx; exact (hx _ rfl).elim) | go_prune))))
  · refine bodyPost_ret (v := .agg #[.int .i64 1, .int .i64 0]) (by simp [results, go_sem, C]) rfl ⟨?_, H.low⟩
    simp_all [freshV]
  · refine bodyPost_ret (v := .agg #[.int .i64 F, .int .i64 9223372036854775807]) (by simp [results, go_sem, C]) rfl ⟨?_, H.low⟩
    simp_all [freshV]
end Go.Proofs.Ytmfadhnfmkbbfaa
