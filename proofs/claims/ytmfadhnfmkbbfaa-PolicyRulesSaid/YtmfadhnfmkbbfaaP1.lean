/- Leaves of spans and policies: sums that stay, ends, emptiness. -/
import Derived.Test.YtmfadhnfmkbbfaaRows
import Derived.WalkKit
import Derived.WalkSpells
import Derived.WalkLawsBesides
import Derived.Deep.QuietTactic
import Derived.BigQuiet
import Derived.Lib.Hide
namespace Go.Proofs.Ytmfadhnfmkbbfaa
open Go.RowKit
namespace Sp
def E : Int := 9223372036854775807
def B : Int := -9223372036854775808
abbrev ok (a : Int) : Prop := -9223372036854775808 ≤ a ∧ a ≤ 9223372036854775807
/-- A sum that stays. -/
def sadd (a b : Int) : Int := if a + b > 9223372036854775807 then 9223372036854775807 else if a + b < -9223372036854775808 then -9223372036854775808 else a + b
def ssub (a b : Int) : Int := if a - b > 9223372036854775807 then 9223372036854775807 else if a - b < -9223372036854775808 then -9223372036854775808 else a - b
def endB (a : Int) : Bool := a == -9223372036854775808 || a == 9223372036854775807
end Sp
theorem ret_bool {a b : Bool} (h : a = b) : Ending.returned (.bool a) = .returned (.bool b) := by rw [h]
theorem ret_int {k : IntKind} {a b : Int} (h : a = b) : Ending.returned (.int k a) = .returned (.int k b) := by rw [h]
set_option maxHeartbeats 400000 in
theorem plus_any (a b : Int) (ha : Sp.ok a) (hb : Sp.ok b) (w : World) :
    Calls Try.prog 16 #[.int .i64 a, .int .i64 b] w fun e w' => e = .returned (.int .i64 (Sp.sadd a b)) ∧ w = w' := by
  obtain ⟨a1, a2⟩ := ha
  obtain ⟨b1, b2⟩ := hb
  by_cases h0 : 0 < b
  · have h0' : ¬ b < 0 := by omega
    have e1 : IntKind.i64.wrap (9223372036854775807 - b) = 9223372036854775807 - b := IntWalk.i64_in _ (by omega)
    by_cases h1 : 9223372036854775807 - b < a
    · go_enter Try.func16, Try.ntmps16
      go_wp2
      go_ret
      exact ⟨ret_int (by unfold Sp.sadd; omega), rfl⟩
    · have e2 : IntKind.i64.wrap (a + b) = a + b := IntWalk.i64_in _ (by omega)
      go_enter Try.func16, Try.ntmps16
      go_wp2
      go_ret
      exact ⟨ret_int (by unfold Sp.sadd; omega), rfl⟩
  · by_cases h1 : b < 0
    · have e1 : IntKind.i64.wrap (-9223372036854775808 - b) = -9223372036854775808 - b := IntWalk.i64_in _ (by omega)
      by_cases h2 : a < -9223372036854775808 - b
      · go_enter Try.func16, Try.ntmps16
        go_wp2
        go_ret
        exact ⟨ret_int (by unfold Sp.sadd; omega), rfl⟩
      · have e2 : IntKind.i64.wrap (a + b) = a + b := IntWalk.i64_in _ (by omega)
        go_enter Try.func16, Try.ntmps16
        go_wp2
        go_ret
        exact ⟨ret_int (by unfold Sp.sadd; omega), rfl⟩
    · have e2 : IntKind.i64.wrap (a + b) = a + b := IntWalk.i64_in _ (by omega)
      go_enter Try.func16, Try.ntmps16
      go_wp2
      go_ret
      exact ⟨ret_int (by unfold Sp.sadd; omega), rfl⟩
set_option maxHeartbeats 400000 in
theorem sub_any (a b : Int) (ha : Sp.ok a) (hb : Sp.ok b) (w : World) :
    Calls Try.prog 9 #[.int .i64 a, .int .i64 b] w fun e w' => e = .returned (.int .i64 (Sp.ssub a b)) ∧ w = w' := by
  obtain ⟨a1, a2⟩ := ha
  obtain ⟨b1, b2⟩ := hb
  by_cases h0 : 0 < b
  · have h0' : ¬ b < 0 := by omega
    have e1 : IntKind.i64.wrap (-9223372036854775808 + b) = -9223372036854775808 + b := IntWalk.i64_in _ (by omega)
    by_cases h1 : a < -9223372036854775808 + b
    · go_enter Try.func9, Try.ntmps9
      go_wp2
      go_ret
      exact ⟨ret_int (by unfold Sp.ssub; omega), rfl⟩
    · have e2 : IntKind.i64.wrap (a - b) = a - b := IntWalk.i64_in _ (by omega)
      go_enter Try.func9, Try.ntmps9
      go_wp2
      go_ret
      exact ⟨ret_int (by unfold Sp.ssub; omega), rfl⟩
  · by_cases h1 : b < 0
    · have e1 : IntKind.i64.wrap (9223372036854775807 + b) = 9223372036854775807 + b := IntWalk.i64_in _ (by omega)
      by_cases h2 : 9223372036854775807 + b < a
      · go_enter Try.func9, Try.ntmps9
        go_wp2
        go_ret
        exact ⟨ret_int (by unfold Sp.ssub; omega), rfl⟩
      · have e2 : IntKind.i64.wrap (a - b) = a - b := IntWalk.i64_in _ (by omega)
        go_enter Try.func9, Try.ntmps9
        go_wp2
        go_ret
        exact ⟨ret_int (by unfold Sp.ssub; omega), rfl⟩
    · have e2 : IntKind.i64.wrap (a - b) = a - b := IntWalk.i64_in _ (by omega)
      go_enter Try.func9, Try.ntmps9
      go_wp2
      go_ret
      exact ⟨ret_int (by unfold Sp.ssub; omega), rfl⟩
set_option maxHeartbeats 400000 in
theorem ends_any (a : Int) (w : World) :
    Calls Try.prog 10 #[.int .i64 a] w fun e w' => e = .returned (.bool (Sp.endB a)) ∧ w = w' := by
  go_enter Try.func10, Try.ntmps10
  go_wp2
  all_goals
    go_ret
    exact ⟨ret_bool (by simp_all [Sp.endB]), rfl⟩
set_option maxHeartbeats 400000 in
theorem empty_any (a b : Int) (w : World) :
    Calls Try.prog 8 #[.agg #[.int .i64 a, .int .i64 b]] w fun e w' => e = .returned (.bool (decide (b < a))) ∧ Below w.heap.size w w' := by
  go_enter Try.func8, Try.ntmps8
  go_wp2
  all_goals
    go_ret
    exact ⟨ret_bool (by first | rfl | (simp_all; done) | (simp_all; omega)), (Below.refl _ _).alloc (Nat.le_refl _) _⟩
set_option maxHeartbeats 400000 in
theorem right_any (a b c : Int) (x y z : Bool) (w : World) :
    Calls Try.prog 12 #[.agg #[.int .i64 a, .int .i64 b, .int .i64 c, .bool x, .bool y, .bool z]] w fun e w' => e = .returned (.bool (decide (0 ≤ a) && decide (0 ≤ b) && decide (0 ≤ c))) ∧ Below w.heap.size w w' := by
  go_enter Try.func12, Try.ntmps12
  go_wp2
  all_goals
    go_ret
    exact ⟨ret_bool (by first | rfl | (simp_all; done) | (simp_all; omega)), (Below.refl _ _).alloc (Nat.le_refl _) _⟩
end Go.Proofs.Ytmfadhnfmkbbfaa
