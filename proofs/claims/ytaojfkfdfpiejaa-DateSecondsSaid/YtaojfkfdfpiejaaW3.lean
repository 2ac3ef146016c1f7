/- Lemmas and walks on the way to the seat's laws; each theorem says its own conditions. -/
import Derived.Test.YtaojfkfdfpiejaaW2
namespace Go.Proofs.Ytaojfkfdfpiejaa
open Go.RowKit
set_option maxHeartbeats 400000 in
theorem right_any (y m d : Int) (w : World) :
    Calls Try.prog 12 #[.agg #[.int .i64 y, .int .i64 m, .int .i64 d]] w fun e w' => e = .returned (.bool (Cal.rightB y m d)) ∧ Below w.heap.size w w' := by
  by_cases h1 : 0 ≤ y
  · by_cases h2 : y ≤ 9999
    · by_cases h3 : 1 ≤ d
      · have Hr : Hid (Cal.rightB y m d = decide (d ≤ Cal.dim y m)) := by show _ = _; simp [Cal.rightB, h1, h2, h3]
        go_enter Try.func12, Try.ntmps12
        go_wp2
        go_quiet ((go_at_call 16; exact Calls.quiet_of_same ((days_any _ _ _).mono fun e w' h => ⟨h.1, h.2.symm⟩)))
        go_wp2
        go_ret
        exact ⟨ret_bool Hr.out.symm, below_drewN ((Below.refl _ _).alloc (Nat.le_refl _) _) _⟩
      · have Hr : Hid (Cal.rightB y m d = false) := by show _ = _; simp [Cal.rightB, h3]
        have hd : decide (1 ≤ d) = false := by simpa using h3
        go_enter Try.func12, Try.ntmps12
        go_wp2
        go_quiet (fail)
        go_wp2
        go_ret
        exact ⟨ret_bool Hr.out.symm, below_drewN ((Below.refl _ _).alloc (Nat.le_refl _) _) _⟩
    · have Hr : Hid (Cal.rightB y m d = false) := by show _ = _; simp [Cal.rightB, h2]
      have hd : decide (y ≤ 9999) = false := by simpa using h2
      go_enter Try.func12, Try.ntmps12
      go_wp2
      go_quiet (fail)
      go_wp2
      go_ret
      exact ⟨ret_bool Hr.out.symm, below_drewN ((Below.refl _ _).alloc (Nat.le_refl _) _) _⟩
  · have Hr : Hid (Cal.rightB y m d = false) := by show _ = _; simp [Cal.rightB, h1]
    have hd : decide (0 ≤ y) = false := by simpa using h1
    go_enter Try.func12, Try.ntmps12
    go_wp2
    go_quiet (fail)
    go_wp2
    go_ret
    exact ⟨ret_bool Hr.out.symm, below_drewN ((Below.refl _ _).alloc (Nat.le_refl _) _) _⟩
end Go.Proofs.Ytaojfkfdfpiejaa
