/- Lemmas and walks on the way to the seat's laws; each theorem says its own conditions. -/
import Derived.Test.YtmmjghdobdendaaBytes
import Derived.Test.YtmmjghdobdendaaRegL
import Derived.Test.YtmmjghdobdendaaFrame
import Derived.Test.YtmmjghdobdendaaSpans
import Derived.Test.YtmmjghdobdendaaRows
import Derived.WalkSpells
import Derived.WalkLawsBesides
import Derived.Deep.QuietTactic
import Derived.BigQuiet
import Derived.Deep.DeepCutAuto
import Derived.Lib.SmallJoins
set_option linter.unusedSimpArgs false
set_option linter.unusedVariables false
set_option linter.unusedSimpArgs false
set_option linter.unusedVariables false
set_option maxRecDepth 100000
namespace Go.Proofs.Ytmmjghdobdendaa
open Go.RowKit Go.Mem Go.Reg
/-- A sum that stays within the ends. -/
def satI (z : Int) : Int := if 9223372036854775807 < z then 9223372036854775807 else if z < -9223372036854775808 then -9223372036854775808 else z
theorem satI_in (z : Int) : In64 (satI z) := by unfold satI In64; split; omega; split <;> omega
theorem ret_i {a b : Int} (h : a = b) : Ending.returned (.int .i64 a) = .returned (.int .i64 b) := by rw [h]
theorem ret_b {a b : Bool} (h : a = b) : Ending.returned (.bool a) = .returned (.bool b) := by rw [h]
set_option maxHeartbeats 800000 in
theorem plus_any (a b : Int) (ha : In64 a) (hb : In64 b) (w : World) :
    Calls Try.prog 42 #[.int .i64 a, .int .i64 b] w fun e w' => e = .returned (.int .i64 (satI (a + b))) ∧ Below w.heap.size w w' := by
  have H := Hp.start w
  have C : True := trivial
  obtain ⟨a1, a2⟩ := ha
  obtain ⟨b1, b2⟩ := hb
  rcases (by omega : (0 < b ∧ 9223372036854775807 - b < a) ∨ (0 < b ∧ a ≤ 9223372036854775807 - b) ∨ (b = 0) ∨ (b < 0 ∧ a < -9223372036854775808 - b) ∨ (b < 0 ∧ -9223372036854775808 - b ≤ a)) with ⟨h1, h2⟩ | ⟨h1, h2⟩ | h1 | ⟨h1, h2⟩ | ⟨h1, h2⟩
  · have e : satI (a + b) = 9223372036854775807 := by unfold satI; rw [if_pos (by omega)]
    rw [e]
    have e1 : wrap64 (9223372036854775807 - b) = 9223372036854775807 - b := by unfold wrap64; omega
    clear e
    go_enter Try.func42, Try.ntmps42
    (repeat' ((fail_if_success (with_reducible show bodyPost _ _ _ _ _ _)); first | ((with_reducible refine Hp.abs_alloc H ?_); intro b' w' H' hb'; (try simp only [hb']); clear hb'; ((try simp only [List.set_cons_zero, List.set_cons_succ, List.setIfInBounds_toArray] at H'); clear C H; have H := H'; clear H'; have C := Hp.facts H; simp only [Facts, factsL, and_true, true_and, List.set_cons_zero, List.set_cons_succ, List.setIfInBounds_toArray] at C)) | ((with_reducible show wpList _ _ _ _ _ (World.setCell _ _ _)); (with_reducible apply Hp.abs_gen H); (first | ((repeat (with_reducible apply Hp.set' 0)); (with_reducible exact H); (repeat rfl); intro w' H') | ((repeat (with_reducible apply Hp.set' 1)); (with_reducible exact H); (repeat rfl); intro w' H') | ((repeat (with_reducible apply Hp.set' 2)); (with_reducible exact H); (repeat rfl); intro w' H') | ((repeat (with_reducible apply Hp.set' 3)); (with_reducible exact H); (repeat rfl); intro w' H') | ((repeat (with_reducible apply Hp.set' 4)); (with_reducible exact H); (repeat rfl); intro w' H') | ((repeat (with_reducible apply Hp.set' 5)); (with_reducible exact H); (repeat rfl); intro w' H') | ((repeat (with_reducible apply Hp.set' 6)); (with_reducible exact H); (repeat rfl); intro w' H') | ((repeat (with_reducible apply Hp.set' 7)); (with_reducible exact H); (repeat rfl); intro w' H')); ((try simp only [List.set_cons_zero, List.set_cons_succ, List.setIfInBounds_toArray] at H'); clear C H; have H := H'; clear H'; have C := Hp.facts H; simp only [Facts, factsL, and_true, true_and, List.set_cons_zero, List.set_cons_succ, List.setIfInBounds_toArray] at C)) | go_values | go_skip | go_guarded | go_step | go_upon | go_back | (simp only [Int.not_lt, Int.not_le] at *; go_simp) | (go_values <;> (try go_simp)) | (go_ite <;> go_prune <;> (try go_simp)) | (split <;> (first | (rename_i hx; exact (hx _ rfl).elim) | go_prune))))
    go_ret
    exact ⟨rfl, H.low⟩
  · have e : satI (a + b) = a + b := by unfold satI; rw [if_neg (by omega), if_neg (by omega)]
    rw [e]
    have e1 : wrap64 (9223372036854775807 - b) = 9223372036854775807 - b := by unfold wrap64; omega
    have e2 : wrap64 (a + b) = a + b := by unfold wrap64; omega
    clear e
    go_enter Try.func42, Try.ntmps42
    (repeat' ((fail_if_success (with_reducible show bodyPost _ _ _ _ _ _)); first | ((with_reducible refine Hp.abs_alloc H ?_); intro b' w' H' hb'; (try simp only [hb']); clear hb'; ((try simp only [List.set_cons_zero, List.set_cons_succ, List.setIfInBounds_toArray] at H'); clear C H; have H := H'; clear H'; have C := Hp.facts H; simp only [Facts, factsL, and_true, true_and, List.set_cons_zero, List.set_cons_succ, List.setIfInBounds_toArray] at C)) | ((with_reducible show wpList _ _ _ _ _ (World.setCell _ _ _)); (with_reducible apply Hp.abs_gen H); (first | ((repeat (with_reducible apply Hp.set' 0)); (with_reducible exact H); (repeat rfl); intro w' H') | ((repeat (with_reducible apply Hp.set' 1)); (with_reducible exact H); (repeat rfl); intro w' H') | ((repeat (with_reducible apply Hp.set' 2)); (with_reducible exact H); (repeat rfl); intro w' H') | ((repeat (with_reducible apply Hp.set' 3)); (with_reducible exact H); (repeat rfl); intro w' H') | ((repeat (with_reducible apply Hp.set' 4)); (with_reducible exact H); (repeat rfl); intro w' H') | ((repeat (with_reducible apply Hp.set' 5)); (with_reducible exact H); (repeat rfl); intro w' H') | ((repeat (with_reducible apply Hp.set' 6)); (with_reducible exact H); (repeat rfl); intro w' H') | ((repeat (with_reducible apply Hp.set' 7)); (with_reducible exact H); (repeat rfl); intro w' H')); ((try simp only [List.set_cons_zero, List.set_cons_succ, List.setIfInBounds_toArray] at H'); clear C H; have H := H'; clear H'; have C := Hp.facts H; simp only [Facts, factsL, and_true, true_and, List.set_cons_zero, List.set_cons_succ, List.setIfInBounds_toArray] at C)) | go_values | go_skip | go_guarded | go_step | go_upon | go_back | (simp only [Int.not_lt, Int.not_le] at *; go_simp) | (go_values <;> (try go_simp)) | (go_ite <;> go_prune <;> (try go_simp)) | (split <;> (first | (rename_i hx; exact (hx _ rfl).elim) | go_prune))))
    go_ret
    exact ⟨rfl, H.low⟩
  · have e : satI (a + b) = a + b := by unfold satI; rw [if_neg (by omega), if_neg (by omega)]
    rw [e]
    subst h1
    clear e
    go_enter Try.func42, Try.ntmps42
    (repeat' ((fail_if_success (with_reducible show bodyPost _ _ _ _ _ _)); first | ((with_reducible refine Hp.abs_alloc H ?_); intro b' w' H' hb'; (try simp only [hb']); clear hb'; ((try simp only [List.set_cons_zero, List.set_cons_succ, List.setIfInBounds_toArray] at H'); clear C H; have H := H'; clear H'; have C := Hp.facts H; simp only [Facts, factsL, and_true, true_and, List.set_cons_zero, List.set_cons_succ, List.setIfInBounds_toArray] at C)) | ((with_reducible show wpList _ _ _ _ _ (World.setCell _ _ _)); (with_reducible apply Hp.abs_gen H); (first | ((repeat (with_reducible apply Hp.set' 0)); (with_reducible exact H); (repeat rfl); intro w' H') | ((repeat (with_reducible apply Hp.set' 1)); (with_reducible exact H); (repeat rfl); intro w' H') | ((repeat (with_reducible apply Hp.set' 2)); (with_reducible exact H); (repeat rfl); intro w' H') | ((repeat (with_reducible apply Hp.set' 3)); (with_reducible exact H); (repeat rfl); intro w' H') | ((repeat (with_reducible apply Hp.set' 4)); (with_reducible exact H); (repeat rfl); intro w' H') | ((repeat (with_reducible apply Hp.set' 5)); (with_reducible exact H); (repeat rfl); intro w' H') | ((repeat (with_reducible apply Hp.set' 6)); (with_reducible exact H); (repeat rfl); intro w' H') | ((repeat (with_reducible apply Hp.set' 7)); (with_reducible exact H); (repeat rfl); intro w' H')); ((try simp only [List.set_cons_zero, List.set_cons_succ, List.setIfInBounds_toArray] at H'); clear C H; have H := H'; clear H'; have C := Hp.facts H; simp only [Facts, factsL, and_true, true_and, List.set_cons_zero, List.set_cons_succ, List.setIfInBounds_toArray] at C)) | go_values | go_skip | go_guarded | go_step | go_upon | go_back | (simp only [Int.not_lt, Int.not_le] at *; go_simp) | (go_values <;> (try go_simp)) | (go_ite <;> go_prune <;> (try go_simp)) | (split <;> (first | (rename_i hx; exact (hx _ rfl).elim) | go_prune))))
    go_ret
    exact ⟨ret_i (by omega), H.low⟩
  · have e : satI (a + b) = -9223372036854775808 := by unfold satI; rw [if_neg (by omega), if_pos (by omega)]
    rw [e]
    have e1 : wrap64 (-9223372036854775808 - b) = -9223372036854775808 - b := by unfold wrap64; omega
    clear e
    go_enter Try.func42, Try.ntmps42
    (repeat' ((fail_if_success (with_reducible show bodyPost _ _ _ _ _ _)); first | ((with_reducible refine Hp.abs_alloc H ?_); intro b' w' H' hb'; (try simp only [hb']); clear hb'; ((try simp only [List.set_cons_zero, List.set_cons_succ, List.setIfInBounds_toArray] at H'); clear C H; have H := H'; clear H'; have C := Hp.facts H; simp only [Facts, factsL, and_true, true_and, List.set_cons_zero, List.set_cons_succ, List.setIfInBounds_toArray] at C)) | ((with_reducible show wpList _ _ _ _ _ (World.setCell _ _ _)); (with_reducible apply Hp.abs_gen H); (first | ((repeat (with_reducible apply Hp.set' 0)); (with_reducible exact H); (repeat rfl); intro w' H') | ((repeat (with_reducible apply Hp.set' 1)); (with_reducible exact H); (repeat rfl); intro w' H') | ((repeat (with_reducible apply Hp.set' 2)); (with_reducible exact H); (repeat rfl); intro w' H') | ((repeat (with_reducible apply Hp.set' 3)); (with_reducible exact H); (repeat rfl); intro w' H') | ((repeat (with_reducible apply Hp.set' 4)); (with_reducible exact H); (repeat rfl); intro w' H') | ((repeat (with_reducible apply Hp.set' 5)); (with_reducible exact H); (repeat rfl); intro w' H') | ((repeat (with_reducible apply Hp.set' 6)); (with_reducible exact H); (repeat rfl); intro w' H') | ((repeat (with_reducible apply Hp.set' 7)); (with_reducible exact H); (repeat rfl); intro w' H')); ((try simp only [List.set_cons_zero, List.set_cons_succ, List.setIfInBounds_toArray] at H'); clear C H; have H := H'; clear H'; have C := Hp.facts H; simp only [Facts, factsL, and_true, true_and, List.set_cons_zero, List.set_cons_succ, List.setIfInBounds_toArray] at C)) | go_values | go_skip | go_guarded | go_step | go_upon | go_back | (simp only [Int.not_lt, Int.not_le] at *; go_simp) | (go_values <;> (try go_simp)) | (go_ite <;> go_prune <;> (try go_simp)) | (split <;> (first | (rename_i hx; exact (hx _ rfl).elim) | go_prune))))
    go_ret
    exact ⟨rfl, H.low⟩
  · have e : satI (a + b) = a + b := by unfold satI; rw [if_neg (by omega), if_neg (by omega)]
    rw [e]
    have e1 : wrap64 (-9223372036854775808 - b) = -9223372036854775808 - b := by unfold wrap64; omega
    have e2 : wrap64 (a + b) = a + b := by unfold wrap64; omega
    clear e
    go_enter Try.func42, Try.ntmps42
    (repeat' ((fail_if_success (with_reducible show bodyPost _ _ _ _ _ _)); first | ((with_reducible refine Hp.abs_alloc H ?_); intro b' w' H' hb'; (try simp only [hb']); clear hb'; ((try simp only [List.set_cons_zero, List.set_cons_succ, List.setIfInBounds_toArray] at H'); clear C H; have H := H'; clear H'; have C := Hp.facts H; simp only [Facts, factsL, and_true, true_and, List.set_cons_zero, List.set_cons_succ, List.setIfInBounds_toArray] at C)) | ((with_reducible show wpList _ _ _ _ _ (World.setCell _ _ _)); (with_reducible apply Hp.abs_gen H); (first | ((repeat (with_reducible apply Hp.set' 0)); (with_reducible exact H); (repeat rfl); intro w' H') | ((repeat (with_reducible apply Hp.set' 1)); (with_reducible exact H); (repeat rfl); intro w' H') | ((repeat (with_reducible apply Hp.set' 2)); (with_reducible exact H); (repeat rfl); intro w' H') | ((repeat (with_reducible apply Hp.set' 3)); (with_reducible exact H); (repeat rfl); intro w' H') | ((repeat (with_reducible apply Hp.set' 4)); (with_reducible exact H); (repeat rfl); intro w' H') | ((repeat (with_reducible apply Hp.set' 5)); (with_reducible exact H); (repeat rfl); intro w' H') | ((repeat (with_reducible apply Hp.set' 6)); (with_reducible exact H); (repeat rfl); intro w' H') | ((repeat (with_reducible apply Hp.set' 7)); (with_reducible exact H); (repeat rfl); intro w' H')); ((try simp only [List.set_cons_zero, List.set_cons_succ, List.setIfInBounds_toArray] at H'); clear C H; have H := H'; clear H'; have C := Hp.facts H; simp only [Facts, factsL, and_true, true_and, List.set_cons_zero, List.set_cons_succ, List.setIfInBounds_toArray] at C)) | go_values | go_skip | go_guarded | go_step | go_upon | go_back | (simp only [Int.not_lt, Int.not_le] at *; go_simp) | (go_values <;> (try go_simp)) | (go_ite <;> go_prune <;> (try go_simp)) | (split <;> (first | (rename_i hx; exact (hx _ rfl).elim) | go_prune))))
    go_ret
    exact ⟨rfl, H.low⟩
set_option maxHeartbeats 800000 in
theorem sub_any (a b : Int) (ha : In64 a) (hb : In64 b) (w : World) :
    Calls Try.prog 21 #[.int .i64 a, .int .i64 b] w fun e w' => e = .returned (.int .i64 (satI (a - b))) ∧ Below w.heap.size w w' := by
  have H := Hp.start w
  have C : True := trivial
  obtain ⟨a1, a2⟩ := ha
  obtain ⟨b1, b2⟩ := hb
  rcases (by omega : (0 < b ∧ a < -9223372036854775808 + b) ∨ (0 < b ∧ -9223372036854775808 + b ≤ a) ∨ (b = 0) ∨ (b < 0 ∧ 9223372036854775807 + b < a) ∨ (b < 0 ∧ a ≤ 9223372036854775807 + b)) with ⟨h1, h2⟩ | ⟨h1, h2⟩ | h1 | ⟨h1, h2⟩ | ⟨h1, h2⟩
  · have e : satI (a - b) = -9223372036854775808 := by unfold satI; rw [if_neg (by omega), if_pos (by omega)]
    rw [e]
    have e1 : wrap64 (-9223372036854775808 + b) = -9223372036854775808 + b := by unfold wrap64; omega
    clear e
    go_enter Try.func21, Try.ntmps21
    (repeat' ((fail_if_success (with_reducible show bodyPost _ _ _ _ _ _)); first | ((with_reducible refine Hp.abs_alloc H ?_); intro b' w' H' hb'; (try simp only [hb']); clear hb'; ((try simp only [List.set_cons_zero, List.set_cons_succ, List.setIfInBounds_toArray] at H'); clear C H; have H := H'; clear H'; have C := Hp.facts H; simp only [Facts, factsL, and_true, true_and, List.set_cons_zero, List.set_cons_succ, List.setIfInBounds_toArray] at C)) | ((with_reducible show wpList _ _ _ _ _ (World.setCell _ _ _)); (with_reducible apply Hp.abs_gen H); (first | ((repeat (with_reducible apply Hp.set' 0)); (with_reducible exact H); (repeat rfl); intro w' H') | ((repeat (with_reducible apply Hp.set' 1)); (with_reducible exact H); (repeat rfl); intro w' H') | ((repeat (with_reducible apply Hp.set' 2)); (with_reducible exact H); (repeat rfl); intro w' H') | ((repeat (with_reducible apply Hp.set' 3)); (with_reducible exact H); (repeat rfl); intro w' H') | ((repeat (with_reducible apply Hp.set' 4)); (with_reducible exact H); (repeat rfl); intro w' H') | ((repeat (with_reducible apply Hp.set' 5)); (with_reducible exact H); (repeat rfl); intro w' H') | ((repeat (with_reducible apply Hp.set' 6)); (with_reducible exact H); (repeat rfl); intro w' H') | ((repeat (with_reducible apply Hp.set' 7)); (with_reducible exact H); (repeat rfl); intro w' H')); ((try simp only [List.set_cons_zero, List.set_cons_succ, List.setIfInBounds_toArray] at H'); clear C H; have H := H'; clear H'; have C := Hp.facts H; simp only [Facts, factsL, and_true, true_and, List.set_cons_zero, List.set_cons_succ, List.setIfInBounds_toArray] at C)) | go_values | go_skip | go_guarded | go_step | go_upon | go_back | (simp only [Int.not_lt, Int.not_le] at *; go_simp) | (go_values <;> (try go_simp)) | (go_ite <;> go_prune <;> (try go_simp)) | (split <;> (first | (rename_i hx; exact (hx _ rfl).elim) | go_prune))))
    go_ret
    exact ⟨rfl, H.low⟩
  · have e : satI (a - b) = a - b := by unfold satI; rw [if_neg (by omega), if_neg (by omega)]
    rw [e]
    have e1 : wrap64 (-9223372036854775808 + b) = -9223372036854775808 + b := by unfold wrap64; omega
    have e2 : wrap64 (a - b) = a - b := by unfold wrap64; omega
    clear e
    go_enter Try.func21, Try.ntmps21
    (repeat' ((fail_if_success (with_reducible show bodyPost _ _ _ _ _ _)); first | ((with_reducible refine Hp.abs_alloc H ?_); intro b' w' H' hb'; (try simp only [hb']); clear hb'; ((try simp only [List.set_cons_zero, List.set_cons_succ, List.setIfInBounds_toArray] at H'); clear C H; have H := H'; clear H'; have C := Hp.facts H; simp only [Facts, factsL, and_true, true_and, List.set_cons_zero, List.set_cons_succ, List.setIfInBounds_toArray] at C)) | ((with_reducible show wpList _ _ _ _ _ (World.setCell _ _ _)); (with_reducible apply Hp.abs_gen H); (first | ((repeat (with_reducible apply Hp.set' 0)); (with_reducible exact H); (repeat rfl); intro w' H') | ((repeat (with_reducible apply Hp.set' 1)); (with_reducible exact H); (repeat rfl); intro w' H') | ((repeat (with_reducible apply Hp.set' 2)); (with_reducible exact H); (repeat rfl); intro w' H') | ((repeat (with_reducible apply Hp.set' 3)); (with_reducible exact H); (repeat rfl); intro w' H') | ((repeat (with_reducible apply Hp.set' 4)); (with_reducible exact H); (repeat rfl); intro w' H') | ((repeat (with_reducible apply Hp.set' 5)); (with_reducible exact H); (repeat rfl); intro w' H') | ((repeat (with_reducible apply Hp.set' 6)); (with_reducible exact H); (repeat rfl); intro w' H') | ((repeat (with_reducible apply Hp.set' 7)); (with_reducible exact H); (repeat rfl); intro w' H')); ((try simp only [List.set_cons_zero, List.set_cons_succ, List.setIfInBounds_toArray] at H'); clear C H; have H := H'; clear H'; have C := Hp.facts H; simp only [Facts, factsL, and_true, true_and, List.set_cons_zero, List.set_cons_succ, List.setIfInBounds_toArray] at C)) | go_values | go_skip | go_guarded | go_step | go_upon | go_back | (simp only [Int.not_lt, Int.not_le] at *; go_simp) | (go_values <;> (try go_simp)) | (go_ite <;> go_prune <;> (try go_simp)) | (split <;> (first | (rename_i hx; exact (hx _ rfl).elim) | go_prune))))
    go_ret
    exact ⟨rfl, H.low⟩
  · have e : satI (a - b) = a - b := by unfold satI; rw [if_neg (by omega), if_neg (by omega)]
    rw [e]
    subst h1
    clear e
    go_enter Try.func21, Try.ntmps21
    (repeat' ((fail_if_success (with_reducible show bodyPost _ _ _ _ _ _)); first | ((with_reducible refine Hp.abs_alloc H ?_); intro b' w' H' hb'; (try simp only [hb']); clear hb'; ((try simp only [List.set_cons_zero, List.set_cons_succ, List.setIfInBounds_toArray] at H'); clear C H; have H := H'; clear H'; have C := Hp.facts H; simp only [Facts, factsL, and_true, true_and, List.set_cons_zero, List.set_cons_succ, List.setIfInBounds_toArray] at C)) | ((with_reducible show wpList _ _ _ _ _ (World.setCell _ _ _)); (with_reducible apply Hp.abs_gen H); (first | ((repeat (with_reducible apply Hp.set' 0)); (with_reducible exact H); (repeat rfl); intro w' H') | ((repeat (with_reducible apply Hp.set' 1)); (with_reducible exact H); (repeat rfl); intro w' H') | ((repeat (with_reducible apply Hp.set' 2)); (with_reducible exact H); (repeat rfl); intro w' H') | ((repeat (with_reducible apply Hp.set' 3)); (with_reducible exact H); (repeat rfl); intro w' H') | ((repeat (with_reducible apply Hp.set' 4)); (with_reducible exact H); (repeat rfl); intro w' H') | ((repeat (with_reducible apply Hp.set' 5)); (with_reducible exact H); (repeat rfl); intro w' H') | ((repeat (with_reducible apply Hp.set' 6)); (with_reducible exact H); (repeat rfl); intro w' H') | ((repeat (with_reducible apply Hp.set' 7)); (with_reducible exact H); (repeat rfl); intro w' H')); ((try simp only [List.set_cons_zero, List.set_cons_succ, List.setIfInBounds_toArray] at H'); clear C H; have H := H'; clear H'; have C := Hp.facts H; simp only [Facts, factsL, and_true, true_and, List.set_cons_zero, List.set_cons_succ, List.setIfInBounds_toArray] at C)) | go_values | go_skip | go_guarded | go_step | go_upon | go_back | (simp only [Int.not_lt, Int.not_le] at *; go_simp) | (go_values <;> (try go_simp)) | (go_ite <;> go_prune <;> (try go_simp)) | (split <;> (first | (rename_i hx; exact (hx _ rfl).elim) | go_prune))))
    go_ret
    exact ⟨ret_i (by omega), H.low⟩
  · have e : satI (a - b) = 9223372036854775807 := by unfold satI; rw [if_pos (by omega)]
    rw [e]
    have e1 : wrap64 (9223372036854775807 + b) = 9223372036854775807 + b := by unfold wrap64; omega
    clear e
    go_enter Try.func21, Try.ntmps21
    (repeat' ((fail_if_success (with_reducible show bodyPost _ _ _ _ _ _)); first | ((with_reducible refine Hp.abs_alloc H ?_); intro b' w' H' hb'; (try simp only [hb']); clear hb'; ((try simp only [List.set_cons_zero, List.set_cons_succ, List.setIfInBounds_toArray] at H'); clear C H; have H := H'; clear H'; have C := Hp.facts H; simp only [Facts, factsL, and_true, true_and, List.set_cons_zero, List.set_cons_succ, List.setIfInBounds_toArray] at C)) | ((with_reducible show wpList _ _ _ _ _ (World.setCell _ _ _)); (with_reducible apply Hp.abs_gen H); (first | ((repeat (with_reducible apply Hp.set' 0)); (with_reducible exact H); (repeat rfl); intro w' H') | ((repeat (with_reducible apply Hp.set' 1)); (with_reducible exact H); (repeat rfl); intro w' H') | ((repeat (with_reducible apply Hp.set' 2)); (with_reducible exact H); (repeat rfl); intro w' H') | ((repeat (with_reducible apply Hp.set' 3)); (with_reducible exact H); (repeat rfl); intro w' H') | ((repeat (with_reducible apply Hp.set' 4)); (with_reducible exact H); (repeat rfl); intro w' H') | ((repeat (with_reducible apply Hp.set' 5)); (with_reducible exact H); (repeat rfl); intro w' H') | ((repeat (with_reducible apply Hp.set' 6)); (with_reducible exact H); (repeat rfl); intro w' H') | ((repeat (with_reducible apply Hp.set' 7)); (with_reducible exact H); (repeat rfl); intro w' H')); ((try simp only [List.set_cons_zero, List.set_cons_succ, List.setIfInBounds_toArray] at H'); clear C H; have H := H'; clear H'; have C := Hp.facts H; simp only [Facts, factsL, and_true, true_and, List.set_cons_zero, List.set_cons_succ, List.setIfInBounds_toArray] at C)) | go_values | go_skip | go_guarded | go_step | go_upon | go_back | (simp only [Int.not_lt, Int.not_le] at *; go_simp) | (go_values <;> (try go_simp)) | (go_ite <;> go_prune <;> (try go_simp)) | (split <;> (first | (rename_i hx; exact (hx _ rfl).elim) | go_prune))))
    go_ret
    exact ⟨rfl, H.low⟩
  · have e : satI (a - b) = a - b := by unfold satI; rw [if_neg (by omega), if_neg (by omega)]
    rw [e]
    have e1 : wrap64 (9223372036854775807 + b) = 9223372036854775807 + b := by unfold wrap64; omega
    have e2 : wrap64 (a - b) = a - b := by unfold wrap64; omega
    clear e
    go_enter Try.func21, Try.ntmps21
    (repeat' ((fail_if_success (with_reducible show bodyPost _ _ _ _ _ _)); first | ((with_reducible refine Hp.abs_alloc H ?_); intro b' w' H' hb'; (try simp only [hb']); clear hb'; ((try simp only [List.set_cons_zero, List.set_cons_succ, List.setIfInBounds_toArray] at H'); clear C H; have H := H'; clear H'; have C := Hp.facts H; simp only [Facts, factsL, and_true, true_and, List.set_cons_zero, List.set_cons_succ, List.setIfInBounds_toArray] at C)) | ((with_reducible show wpList _ _ _ _ _ (World.setCell _ _ _)); (with_reducible apply Hp.abs_gen H); (first | ((repeat (with_reducible apply Hp.set' 0)); (with_reducible exact H); (repeat rfl); intro w' H') | ((repeat (with_reducible apply Hp.set' 1)); (with_reducible exact H); (repeat rfl); intro w' H') | ((repeat (with_reducible apply Hp.set' 2)); (with_reducible exact H); (repeat rfl); intro w' H') | ((repeat (with_reducible apply Hp.set' 3)); (with_reducible exact H); (repeat rfl); intro w' H') | ((repeat (with_reducible apply Hp.set' 4)); (with_reducible exact H); (repeat rfl); intro w' H') | ((repeat (with_reducible apply Hp.set' 5)); (with_reducible exact H); (repeat rfl); intro w' H') | ((repeat (with_reducible apply Hp.set' 6)); (with_reducible exact H); (repeat rfl); intro w' H') | ((repeat (with_reducible apply Hp.set' 7)); (with_reducible exact H); (repeat rfl); intro w' H')); ((try simp only [List.set_cons_zero, List.set_cons_succ, List.setIfInBounds_toArray] at H'); clear C H; have H := H'; clear H'; have C := Hp.facts H; simp only [Facts, factsL, and_true, true_and, List.set_cons_zero, List.set_cons_succ, List.setIfInBounds_toArray] at C)) | go_values | go_skip | go_guarded | go_step | go_upon | go_back | (simp only [Int.not_lt, Int.not_le] at *; go_simp) | (go_values <;> (try go_simp)) | (go_ite <;> go_prune <;> (try go_simp)) | (split <;> (first | (rename_i hx; exact (hx _ rfl).elim) | go_prune))))
    go_ret
    exact ⟨rfl, H.low⟩
end Go.Proofs.Ytmmjghdobdendaa

