/- Lemmas and walks on the way to the seat's laws; each theorem says its own conditions. -/
import Derived.Test.YtaojfkfdfpiejaaW4
namespace Go.Proofs.Ytaojfkfdfpiejaa
open Go.RowKit
theorem ret_two {a b : Int} (h : a = b) (k : IntKind) (x : Value) : Ending.returned (.tuple #[.int k a, x]) = .returned (.tuple #[.int k b, x]) := by rw [h]
set_option maxHeartbeats 400000 in
theorem year_any (y : Int) (w : World) :
    Calls Try.prog 38 #[.int .i64 y] w fun e w' => e = .returned (.int .i64 (365 + Cal.lp y)) ∧ w = w' := by
  go_enter Try.func38, Try.ntmps38
  go_wp2_with (go_at_call 15; refine (rlong_any _ _).mono ?_; rintro e w' ⟨rfl, rfl⟩)
  all_goals
    go_ret
    refine ⟨ret_int ?_, rfl⟩
    simp_all [Cal.lp]
set_option maxHeartbeats 400000 in
theorem start_any (y : Int) (h0 : 0 ≤ y) (h1 : y ≤ 10000) (w : World) :
    Calls Try.prog 34 #[.int .i64 y] w fun e w' => e = .returned (.int .i64 (Cal.dby y - 719528)) ∧ w = w' := by
  have g0 : Cal.dby (y / 400 * 400) = y / 400 * 146097 := by unfold Cal.dby; omega
  have G0 := Lib.hid g0; clear g0
  go_enter Try.func34, Try.ntmps34
  go_wp2
  go_loop [3, 4] (fun n k => ∃ i : Int, 0 ≤ i ∧ i ≤ y ∧ k = .int .i64 i ∧ n = .int .i64 (Cal.dby i - 719528)) (fun _ k => (y - intOf k).toNat)
  case atStart => exact ⟨y / 400 * 400, by omega, by omega, rfl, by rw [G0.out]; go_num⟩
  case round =>
    obtain ⟨i, hi0, hi, rfl, rfl⟩ := hrel
    have hl := Cal.lp01 i
    have hd0 := Cal.dby_mono 0 i hi0
    have hd1 := Cal.dby_mono i 10000 (by omega)
    have z0 : Cal.dby 0 ≥ 0 := by decide
    have z1 : Cal.dby 10000 ≤ 3652425 := by decide
    by_cases hlt : i < y
    · go_wp2_with (go_at_call 38; refine (year_any _ _).mono ?_; rintro e w' ⟨rfl, rfl⟩)
      go_round
      case rel => exact ⟨i + 1, by omega, by omega, rfl, by rw [Cal.dby_succ]; go_num⟩
      case measure => simp [intOf]; omega
    · go_wp2
      go_ret
      obtain rfl : i = y := by omega
      exact ⟨rfl, rfl⟩
end Go.Proofs.Ytaojfkfdfpiejaa
