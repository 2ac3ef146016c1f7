/- Lemmas and walks on the way to the seat's laws; each theorem says its own conditions. -/
import Derived.Test.YtmmjghdobdendaaDoorT1
import Derived.Lib.RabinKarpLaws
import Derived.Laws.Externs
set_option linter.unusedSimpArgs false
set_option linter.unusedVariables false
set_option linter.unusedSimpArgs false
set_option linter.unusedVariables false
set_option maxRecDepth 100000
namespace Go.Proofs.YtmmjghdobdendaaDoor
open Go.RowKit Go.Mem Go.Reg Oct Bit Go.Txt Go.LawLift
set_option maxHeartbeats 1000000 in
theorem sli_any (s : ByteArray) (c : Int) (w : World) : Calls Tryd.prog 79 #[.string s, .int .u8 c] w fun e w' => e = .returned (.int .i64 (Lib.indexByte s.data.toList c.toNat.toUInt8)) ∧ Below w.heap.size w w' := by
  have H := Hp.start w
  have C : True := trivial
  go_enter Tryd.func79, Tryd.ntmps79
  (repeat' ((fail_if_success (with_reducible show bodyPost _ _ _ _ _ _)); first | ((with_reducible refine Hp.abs_alloc H ?_); intro b' w' H' hb'; (try simp only [hb']); clear hb'; ((try simp only [z0, z1, z2] at H'); clear C H; have H := H'; clear H'; have C := Hp.facts H; simp only [Facts, factsL, and_true, true_and, z0, z1, z2] at C)) | ((with_reducible show wpList _ _ _ _ _ (World.setCell _ _ _)); (with_reducible apply Hp.abs_gen H); (first | ((repeat (with_reducible apply Hp.set' 0)); (with_reducible exact H); (repeat rfl); intro w' H') | ((repeat (with_reducible apply Hp.set' 1)); (with_reducible exact H); (repeat rfl); intro w' H') | ((repeat (with_reducible apply Hp.set' 2)); (with_reducible exact H); (repeat rfl); intro w' H') | ((repeat (with_reducible apply Hp.set' 3)); (with_reducible exact H); (repeat rfl); intro w' H') | ((repeat (with_reducible apply Hp.set' 4)); (with_reducible exact H); (repeat rfl); intro w' H') | ((repeat (with_reducible apply Hp.set' 5)); (with_reducible exact H); (repeat rfl); intro w' H') | ((repeat (with_reducible apply Hp.set' 6)); (with_reducible exact H); (repeat rfl); intro w' H') | ((repeat (with_reducible apply Hp.set' 7)); (with_reducible exact H); (repeat rfl); intro w' H')); ((try simp only [z0, z1, z2] at H'); clear C H; have H := H'; clear H'; have C := Hp.facts H; simp only [Facts, factsL, and_true, true_and, z0, z1, z2] at C)) | go_values | go_skip | go_guarded | go_step | go_upon | go_back | (simp only [Int.not_lt, Int.not_le] at *; go_simp) | (go_values <;> (try go_simp)) | (go_ite <;> go_prune <;> (try go_simp)) | (split <;> (first | (rename_i hx; exact (hx _ rfl).elim) | go_prune))))
  rw [run_callFunc_extern Tryd.func84 (by kernel_rfl) (by kernel_rfl) (by kernel_rfl) (e := Extern.BytealgIndexByte.indexByte) (by kernel_rfl), Lib.run_indexByteString]
  simp only [Result.andThen]
  rw [Oper.upon_value]
  (repeat' ((fail_if_success (with_reducible show bodyPost _ _ _ _ _ _)); first | ((with_reducible refine Hp.abs_alloc H ?_); intro b' w' H' hb'; (try simp only [hb']); clear hb'; ((try simp only [z0, z1, z2] at H'); clear C H; have H := H'; clear H'; have C := Hp.facts H; simp only [Facts, factsL, and_true, true_and, z0, z1, z2] at C)) | ((with_reducible show wpList _ _ _ _ _ (World.setCell _ _ _)); (with_reducible apply Hp.abs_gen H); (first | ((repeat (with_reducible apply Hp.set' 0)); (with_reducible exact H); (repeat rfl); intro w' H') | ((repeat (with_reducible apply Hp.set' 1)); (with_reducible exact H); (repeat rfl); intro w' H') | ((repeat (with_reducible apply Hp.set' 2)); (with_reducible exact H); (repeat rfl); intro w' H') | ((repeat (with_reducible apply Hp.set' 3)); (with_reducible exact H); (repeat rfl); intro w' H') | ((repeat (with_reducible apply Hp.set' 4)); (with_reducible exact H); (repeat rfl); intro w' H') | ((repeat (with_reducible apply Hp.set' 5)); (with_reducible exact H); (repeat rfl); intro w' H') | ((repeat (with_reducible apply Hp.set' 6)); (with_reducible exact H); (repeat rfl); intro w' H') | ((repeat (with_reducible apply Hp.set' 7)); (with_reducible exact H); (repeat rfl); intro w' H')); ((try simp only [z0, z1, z2] at H'); clear C H; have H := H'; clear H'; have C := Hp.facts H; simp only [Facts, factsL, and_true, true_and, z0, z1, z2] at C)) | go_values | go_skip | go_guarded | go_step | go_upon | go_back | (simp only [Int.not_lt, Int.not_le] at *; go_simp) | (go_values <;> (try go_simp)) | (go_ite <;> go_prune <;> (try go_simp)) | (split <;> (first | (rename_i hx; exact (hx _ rfl).elim) | go_prune))))
  go_ret
  exact ⟨rfl, H.low⟩
set_option maxHeartbeats 1000000 in
theorem si_any (s : ByteArray) (c : Int) (w : World) : Calls Tryd.prog 72 #[.string s, .int .u8 c] w fun e w' => e = .returned (.int .i64 (Lib.indexByte s.data.toList c.toNat.toUInt8)) ∧ Below w.heap.size w w' := by
  have hS := sli_any s c
  generalize Lib.indexByte s.data.toList c.toNat.toUInt8 = R at *
  have H := Hp.start w
  have C : True := trivial
  go_enter Tryd.func72, Tryd.ntmps72
  (repeat' ((fail_if_success (with_reducible show bodyPost _ _ _ _ _ _)); first | ((with_reducible refine Hp.abs_alloc H ?_); intro b' w' H' hb'; (try simp only [hb']); clear hb'; ((try simp only [z0, z1, z2] at H'); clear C H; have H := H'; clear H'; have C := Hp.facts H; simp only [Facts, factsL, and_true, true_and, z0, z1, z2] at C)) | ((with_reducible show wpList _ _ _ _ _ (World.setCell _ _ _)); (with_reducible apply Hp.abs_gen H); (first | ((repeat (with_reducible apply Hp.set' 0)); (with_reducible exact H); (repeat rfl); intro w' H') | ((repeat (with_reducible apply Hp.set' 1)); (with_reducible exact H); (repeat rfl); intro w' H') | ((repeat (with_reducible apply Hp.set' 2)); (with_reducible exact H); (repeat rfl); intro w' H') | ((repeat (with_reducible apply Hp.set' 3)); (with_reducible exact H); (repeat rfl); intro w' H') | ((repeat (with_reducible apply Hp.set' 4)); (with_reducible exact H); (repeat rfl); intro w' H') | ((repeat (with_reducible apply Hp.set' 5)); (with_reducible exact H); (repeat rfl); intro w' H') | ((repeat (with_reducible apply Hp.set' 6)); (with_reducible exact H); (repeat rfl); intro w' H') | ((repeat (with_reducible apply Hp.set' 7)); (with_reducible exact H); (repeat rfl); intro w' H')); ((try simp only [z0, z1, z2] at H'); clear C H; have H := H'; clear H'; have C := Hp.facts H; simp only [Facts, factsL, and_true, true_and, z0, z1, z2] at C)) | go_values | go_skip | go_guarded | go_step | go_upon | go_back | (simp only [Int.not_lt, Int.not_le] at *; go_simp) | (go_values <;> (try go_simp)) | (go_ite <;> go_prune <;> (try go_simp)) | (split <;> (first | (rename_i hx; exact (hx _ rfl).elim) | go_prune))))
  refine (hS _).mono ?_
  (rintro e' w' ⟨rfl, hb'⟩; (have H' := Hp.step H hb'; clear hb'; ((try simp only [z0, z1, z2] at H'); clear C H; have H := H'; clear H'; have C := Hp.facts H; simp only [Facts, factsL, and_true, true_and, z0, z1, z2] at C)))
  (repeat' ((fail_if_success (with_reducible show bodyPost _ _ _ _ _ _)); first | ((with_reducible refine Hp.abs_alloc H ?_); intro b' w' H' hb'; (try simp only [hb']); clear hb'; ((try simp only [z0, z1, z2] at H'); clear C H; have H := H'; clear H'; have C := Hp.facts H; simp only [Facts, factsL, and_true, true_and, z0, z1, z2] at C)) | ((with_reducible show wpList _ _ _ _ _ (World.setCell _ _ _)); (with_reducible apply Hp.abs_gen H); (first | ((repeat (with_reducible apply Hp.set' 0)); (with_reducible exact H); (repeat rfl); intro w' H') | ((repeat (with_reducible apply Hp.set' 1)); (with_reducible exact H); (repeat rfl); intro w' H') | ((repeat (with_reducible apply Hp.set' 2)); (with_reducible exact H); (repeat rfl); intro w' H') | ((repeat (with_reducible apply Hp.set' 3)); (with_reducible exact H); (repeat rfl); intro w' H') | ((repeat (with_reducible apply Hp.set' 4)); (with_reducible exact H); (repeat rfl); intro w' H') | ((repeat (with_reducible apply Hp.set' 5)); (with_reducible exact H); (repeat rfl); intro w' H') | ((repeat (with_reducible apply Hp.set' 6)); (with_reducible exact H); (repeat rfl); intro w' H') | ((repeat (with_reducible apply Hp.set' 7)); (with_reducible exact H); (repeat rfl); intro w' H')); ((try simp only [z0, z1, z2] at H'); clear C H; have H := H'; clear H'; have C := Hp.facts H; simp only [Facts, factsL, and_true, true_and, z0, z1, z2] at C)) | go_values | go_skip | go_guarded | go_step | go_upon | go_back | (simp only [Int.not_lt, Int.not_le] at *; go_simp) | (go_values <;> (try go_simp)) | (go_ite <;> go_prune <;> (try go_simp)) | (split <;> (first | (rename_i hx; exact (hx _ rfl).elim) | go_prune))))
  go_ret
  exact ⟨rfl, H.low⟩
def set12 : ByteArray := { data := #[32, 39, 40, 41, 43, 44, 45, 46, 47, 58, 61, 63] }
theorem idx12 (n : Nat) (h : n < 128) : decide (0 ≤ Lib.indexByte set12.data.toList (n : Int).toNat.toUInt8) = signs12.contains (n : Int) := by
  revert n
  decide +kernel
theorem prt_lo {n : Int} (h1 : ¬(97 ≤ n ∧ n ≤ 122)) (h2 : ¬(65 ≤ n ∧ n ≤ 90)) (h3 : ¬(48 ≤ n ∧ n ≤ 57)) : prt n = signs12.contains n := by
  unfold prt
  rw [decide_eq_false h1, decide_eq_false h2, decide_eq_false h3, Bool.false_or, Bool.false_or, Bool.false_or]
theorem out12 {n : Int} (h : ¬(0 < n ∧ n < 128)) : signs12.contains n = false := by
  have h2 : ∀ z ∈ signs12, (0 : Int) < z ∧ z < 128 := by decide
  cases hc : signs12.contains n with
  | false => rfl
  | true => exact absurd (h2 n (by simpa using hc)) h
set_option maxHeartbeats 1600000 in
theorem printable_any (n : Int) (w : World) : Calls Tryd.prog 60 #[.int .i64 n] w fun e w' => e = .returned (.bool (prt n)) ∧ Below w.heap.size w w' := by
  by_cases h1 : 97 ≤ n ∧ n ≤ 122
  · rw [show prt n = true by unfold prt; rw [decide_eq_true h1, Bool.true_or]]
    obtain ⟨h1, h2⟩ := h1
    have H := Hp.start w
    have C : True := trivial
    go_enter Tryd.func60, Tryd.ntmps60
    (repeat' ((fail_if_success (with_reducible show bodyPost _ _ _ _ _ _)); first | ((with_reducible refine Hp.abs_alloc H ?_); intro b' w' H' hb'; (try simp only [hb']); clear hb'; ((try simp only [z0, z1, z2] at H'); clear C H; have H := H'; clear H'; have C := Hp.facts H; simp only [Facts, factsL, and_true, true_and, z0, z1, z2] at C)) | ((with_reducible show wpList _ _ _ _ _ (World.setCell _ _ _)); (with_reducible apply Hp.abs_gen H); (first | ((repeat (with_reducible apply Hp.set' 0)); (with_reducible exact H); (repeat rfl); intro w' H') | ((repeat (with_reducible apply Hp.set' 1)); (with_reducible exact H); (repeat rfl); intro w' H') | ((repeat (with_reducible apply Hp.set' 2)); (with_reducible exact H); (repeat rfl); intro w' H') | ((repeat (with_reducible apply Hp.set' 3)); (with_reducible exact H); (repeat rfl); intro w' H') | ((repeat (with_reducible apply Hp.set' 4)); (with_reducible exact H); (repeat rfl); intro w' H') | ((repeat (with_reducible apply Hp.set' 5)); (with_reducible exact H); (repeat rfl); intro w' H') | ((repeat (with_reducible apply Hp.set' 6)); (with_reducible exact H); (repeat rfl); intro w' H') | ((repeat (with_reducible apply Hp.set' 7)); (with_reducible exact H); (repeat rfl); intro w' H')); ((try simp only [z0, z1, z2] at H'); clear C H; have H := H'; clear H'; have C := Hp.facts H; simp only [Facts, factsL, and_true, true_and, z0, z1, z2] at C)) | go_values | go_skip | go_guarded | go_step | go_upon | go_back | (simp only [Int.not_lt, Int.not_le] at *; go_simp) | (go_values <;> (try go_simp)) | (go_ite <;> go_prune <;> (try go_simp)) | (split <;> (first | (rename_i hx; exact (hx _ rfl).elim) | go_prune))))
    go_ret
    exact ⟨rfl, H.low⟩
  by_cases h2 : 65 ≤ n ∧ n ≤ 90
  · rw [show prt n = true by unfold prt; rw [decide_eq_true h2, Bool.true_or, Bool.or_true]]
    obtain ⟨h3, h4⟩ := h2
    have h5 : n < 97 := by omega
    have H := Hp.start w
    have C : True := trivial
    go_enter Tryd.func60, Tryd.ntmps60
    (repeat' ((fail_if_success (with_reducible show bodyPost _ _ _ _ _ _)); first | ((with_reducible refine Hp.abs_alloc H ?_); intro b' w' H' hb'; (try simp only [hb']); clear hb'; ((try simp only [z0, z1, z2] at H'); clear C H; have H := H'; clear H'; have C := Hp.facts H; simp only [Facts, factsL, and_true, true_and, z0, z1, z2] at C)) | ((with_reducible show wpList _ _ _ _ _ (World.setCell _ _ _)); (with_reducible apply Hp.abs_gen H); (first | ((repeat (with_reducible apply Hp.set' 0)); (with_reducible exact H); (repeat rfl); intro w' H') | ((repeat (with_reducible apply Hp.set' 1)); (with_reducible exact H); (repeat rfl); intro w' H') | ((repeat (with_reducible apply Hp.set' 2)); (with_reducible exact H); (repeat rfl); intro w' H') | ((repeat (with_reducible apply Hp.set' 3)); (with_reducible exact H); (repeat rfl); intro w' H') | ((repeat (with_reducible apply Hp.set' 4)); (with_reducible exact H); (repeat rfl); intro w' H') | ((repeat (with_reducible apply Hp.set' 5)); (with_reducible exact H); (repeat rfl); intro w' H') | ((repeat (with_reducible apply Hp.set' 6)); (with_reducible exact H); (repeat rfl); intro w' H') | ((repeat (with_reducible apply Hp.set' 7)); (with_reducible exact H); (repeat rfl); intro w' H')); ((try simp only [z0, z1, z2] at H'); clear C H; have H := H'; clear H'; have C := Hp.facts H; simp only [Facts, factsL, and_true, true_and, z0, z1, z2] at C)) | go_values | go_skip | go_guarded | go_step | go_upon | go_back | (simp only [Int.not_lt, Int.not_le] at *; go_simp) | (go_values <;> (try go_simp)) | (go_ite <;> go_prune <;> (try go_simp)) | (split <;> (first | (rename_i hx; exact (hx _ rfl).elim) | go_prune))))
    go_ret
    exact ⟨rfl, H.low⟩
  by_cases h3 : 48 ≤ n ∧ n ≤ 57
  · rw [show prt n = true by unfold prt; rw [decide_eq_true h3, Bool.true_or, Bool.or_true, Bool.or_true]]
    obtain ⟨h4, h5⟩ := h3
    have h6 : n < 97 := by omega
    have h7 : n < 65 := by omega
    have H := Hp.start w
    have C : True := trivial
    go_enter Tryd.func60, Tryd.ntmps60
    (repeat' ((fail_if_success (with_reducible show bodyPost _ _ _ _ _ _)); first | ((with_reducible refine Hp.abs_alloc H ?_); intro b' w' H' hb'; (try simp only [hb']); clear hb'; ((try simp only [z0, z1, z2] at H'); clear C H; have H := H'; clear H'; have C := Hp.facts H; simp only [Facts, factsL, and_true, true_and, z0, z1, z2] at C)) | ((with_reducible show wpList _ _ _ _ _ (World.setCell _ _ _)); (with_reducible apply Hp.abs_gen H); (first | ((repeat (with_reducible apply Hp.set' 0)); (with_reducible exact H); (repeat rfl); intro w' H') | ((repeat (with_reducible apply Hp.set' 1)); (with_reducible exact H); (repeat rfl); intro w' H') | ((repeat (with_reducible apply Hp.set' 2)); (with_reducible exact H); (repeat rfl); intro w' H') | ((repeat (with_reducible apply Hp.set' 3)); (with_reducible exact H); (repeat rfl); intro w' H') | ((repeat (with_reducible apply Hp.set' 4)); (with_reducible exact H); (repeat rfl); intro w' H') | ((repeat (with_reducible apply Hp.set' 5)); (with_reducible exact H); (repeat rfl); intro w' H') | ((repeat (with_reducible apply Hp.set' 6)); (with_reducible exact H); (repeat rfl); intro w' H') | ((repeat (with_reducible apply Hp.set' 7)); (with_reducible exact H); (repeat rfl); intro w' H')); ((try simp only [z0, z1, z2] at H'); clear C H; have H := H'; clear H'; have C := Hp.facts H; simp only [Facts, factsL, and_true, true_and, z0, z1, z2] at C)) | go_values | go_skip | go_guarded | go_step | go_upon | go_back | (simp only [Int.not_lt, Int.not_le] at *; go_simp) | (go_values <;> (try go_simp)) | (go_ite <;> go_prune <;> (try go_simp)) | (split <;> (first | (rename_i hx; exact (hx _ rfl).elim) | go_prune))))
    go_ret
    exact ⟨rfl, H.low⟩
  rw [prt_lo h1 h2 h3]
  by_cases h4 : 0 < n ∧ n < 128
  · obtain ⟨m, rfl⟩ := Int.eq_ofNat_of_zero_le (show 0 ≤ n by omega)
    have hS := si_any set12 (m : Int)
    have hi := idx12 m (by omega)
    generalize Lib.indexByte set12.data.toList (m : Int).toNat.toUInt8 = r at *
    rw [← hi]
    unfold set12 at hS
    obtain ⟨h5, h6⟩ := h4
    have H := Hp.start w
    have C : True := trivial
    clear hi
    rcases (by omega : (m : Int) < 48 ∨ (57 < (m : Int) ∧ (m : Int) < 65) ∨ (90 < (m : Int) ∧ (m : Int) < 97) ∨ 122 < (m : Int)) with h7 | ⟨h7, h8⟩ | ⟨h7, h8⟩ | h7
    all_goals (
      clear h1 h2 h3
      go_enter Tryd.func60, Tryd.ntmps60
      (repeat' ((fail_if_success (with_reducible show bodyPost _ _ _ _ _ _)); first | ((with_reducible refine Hp.abs_alloc H ?_); intro b' w' H' hb'; (try simp only [hb']); clear hb'; ((try simp only [z0, z1, z2] at H'); clear C H; have H := H'; clear H'; have C := Hp.facts H; simp only [Facts, factsL, and_true, true_and, z0, z1, z2] at C)) | ((with_reducible show wpList _ _ _ _ _ (World.setCell _ _ _)); (with_reducible apply Hp.abs_gen H); (first | ((repeat (with_reducible apply Hp.set' 0)); (with_reducible exact H); (repeat rfl); intro w' H') | ((repeat (with_reducible apply Hp.set' 1)); (with_reducible exact H); (repeat rfl); intro w' H') | ((repeat (with_reducible apply Hp.set' 2)); (with_reducible exact H); (repeat rfl); intro w' H') | ((repeat (with_reducible apply Hp.set' 3)); (with_reducible exact H); (repeat rfl); intro w' H') | ((repeat (with_reducible apply Hp.set' 4)); (with_reducible exact H); (repeat rfl); intro w' H') | ((repeat (with_reducible apply Hp.set' 5)); (with_reducible exact H); (repeat rfl); intro w' H') | ((repeat (with_reducible apply Hp.set' 6)); (with_reducible exact H); (repeat rfl); intro w' H') | ((repeat (with_reducible apply Hp.set' 7)); (with_reducible exact H); (repeat rfl); intro w' H')); ((try simp only [z0, z1, z2] at H'); clear C H; have H := H'; clear H'; have C := Hp.facts H; simp only [Facts, factsL, and_true, true_and, z0, z1, z2] at C)) | go_values | go_skip | go_guarded | go_step | go_upon | go_back | (simp only [Int.not_lt, Int.not_le] at *; go_simp) | (go_values <;> (try go_simp)) | (go_ite <;> go_prune <;> (try go_simp)) | (split <;> (first | (rename_i hx; exact (hx _ rfl).elim) | go_prune))))
      refine (hS _).mono ?_
      (rintro e' w' ⟨rfl, hb'⟩; (have H' := Hp.step H hb'; clear hb'; ((try simp only [z0, z1, z2] at H'); clear C H; have H := H'; clear H'; have C := Hp.facts H; simp only [Facts, factsL, and_true, true_and, z0, z1, z2] at C)))
      (repeat' ((fail_if_success (with_reducible show bodyPost _ _ _ _ _ _)); first | ((with_reducible refine Hp.abs_alloc H ?_); intro b' w' H' hb'; (try simp only [hb']); clear hb'; ((try simp only [z0, z1, z2] at H'); clear C H; have H := H'; clear H'; have C := Hp.facts H; simp only [Facts, factsL, and_true, true_and, z0, z1, z2] at C)) | ((with_reducible show wpList _ _ _ _ _ (World.setCell _ _ _)); (with_reducible apply Hp.abs_gen H); (first | ((repeat (with_reducible apply Hp.set' 0)); (with_reducible exact H); (repeat rfl); intro w' H') | ((repeat (with_reducible apply Hp.set' 1)); (with_reducible exact H); (repeat rfl); intro w' H') | ((repeat (with_reducible apply Hp.set' 2)); (with_reducible exact H); (repeat rfl); intro w' H') | ((repeat (with_reducible apply Hp.set' 3)); (with_reducible exact H); (repeat rfl); intro w' H') | ((repeat (with_reducible apply Hp.set' 4)); (with_reducible exact H); (repeat rfl); intro w' H') | ((repeat (with_reducible apply Hp.set' 5)); (with_reducible exact H); (repeat rfl); intro w' H') | ((repeat (with_reducible apply Hp.set' 6)); (with_reducible exact H); (repeat rfl); intro w' H') | ((repeat (with_reducible apply Hp.set' 7)); (with_reducible exact H); (repeat rfl); intro w' H')); ((try simp only [z0, z1, z2] at H'); clear C H; have H := H'; clear H'; have C := Hp.facts H; simp only [Facts, factsL, and_true, true_and, z0, z1, z2] at C)) | go_values | go_skip | go_guarded | go_step | go_upon | go_back | (simp only [Int.not_lt, Int.not_le] at *; go_simp) | (go_values <;> (try go_simp)) | (go_ite <;> go_prune <;> (try go_simp)) | (split <;> (first | (rename_i hx; exact (hx _ rfl).elim) | go_prune))))
      go_ret
      exact ⟨rfl, H.low⟩)
  · rw [out12 h4]
    have H := Hp.start w
    have C : True := trivial
    rcases (by omega : n ≤ 0 ∨ 128 ≤ n) with h7 | h7
    all_goals (
      clear h1 h2 h3 h4
      go_enter Tryd.func60, Tryd.ntmps60
      (repeat' ((fail_if_success (with_reducible show bodyPost _ _ _ _ _ _)); first | ((with_reducible refine Hp.abs_alloc H ?_); intro b' w' H' hb'; (try simp only [hb']); clear hb'; ((try simp only [z0, z1, z2] at H'); clear C H; have H := H'; clear H'; have C := Hp.facts H; simp only [Facts, factsL, and_true, true_and, z0, z1, z2] at C)) | ((with_reducible show wpList _ _ _ _ _ (World.setCell _ _ _)); (with_reducible apply Hp.abs_gen H); (first | ((repeat (with_reducible apply Hp.set' 0)); (with_reducible exact H); (repeat rfl); intro w' H') | ((repeat (with_reducible apply Hp.set' 1)); (with_reducible exact H); (repeat rfl); intro w' H') | ((repeat (with_reducible apply Hp.set' 2)); (with_reducible exact H); (repeat rfl); intro w' H') | ((repeat (with_reducible apply Hp.set' 3)); (with_reducible exact H); (repeat rfl); intro w' H') | ((repeat (with_reducible apply Hp.set' 4)); (with_reducible exact H); (repeat rfl); intro w' H') | ((repeat (with_reducible apply Hp.set' 5)); (with_reducible exact H); (repeat rfl); intro w' H') | ((repeat (with_reducible apply Hp.set' 6)); (with_reducible exact H); (repeat rfl); intro w' H') | ((repeat (with_reducible apply Hp.set' 7)); (with_reducible exact H); (repeat rfl); intro w' H')); ((try simp only [z0, z1, z2] at H'); clear C H; have H := H'; clear H'; have C := Hp.facts H; simp only [Facts, factsL, and_true, true_and, z0, z1, z2] at C)) | go_values | go_skip | go_guarded | go_step | go_upon | go_back | (simp only [Int.not_lt, Int.not_le] at *; go_simp) | (go_values <;> (try go_simp)) | (go_ite <;> go_prune <;> (try go_simp)) | (split <;> (first | (rename_i hx; exact (hx _ rfl).elim) | go_prune))))
      go_ret
      exact ⟨rfl, H.low⟩)
end Go.Proofs.YtmmjghdobdendaaDoor

