/- Lemmas and walks on the way to the seat's laws; each theorem says its own conditions. -/
import Derived.Test.YtaojfkfdfpiejaaW9
namespace Go.Proofs.Ytaojfkfdfpiejaa
open Go.RowKit
set_option maxHeartbeats 400000 in
theorem to_any (y m d : Int) (w : World) :
    Calls Try.prog 9 #[.agg #[.int .i64 y, .int .i64 m, .int .i64 d]] w fun e w' => e = .returned (.agg #[.int .i64 y, .int .i64 m, .int .i64 d]) ∧ Below w.heap.size w w' := by
  go_enter Try.func9, Try.ntmps9
  go_wp2
  refine bodyPost_ret (by simp [results, Try.results9, go_sem]) rfl ⟨rfl, ?_⟩
  repeat (first | exact Below.refl _ _ | refine Below.alloc ?_ (by simp <;> omega) _ | refine Below.setCell ?_ (by simp) _ | refine below_drewN ?_ _ | refine Below.drew ?_)
set_option maxHeartbeats 400000 in
theorem ofd_any (y m d : Int) (w : World) :
    Calls Try.prog 32 #[.agg #[.int .i64 y, .int .i64 m, .int .i64 d]] w fun e w' => e = .returned (.agg #[.int .i64 y, .int .i64 m, .int .i64 d]) ∧ Below w.heap.size w w' := by
  go_enter Try.func32, Try.ntmps32
  go_wp2
  refine bodyPost_ret (by simp [results, Try.results32, go_sem]) rfl ⟨rfl, ?_⟩
  repeat (first | exact Below.refl _ _ | refine Below.alloc ?_ (by simp <;> omega) _ | refine Below.setCell ?_ (by simp) _ | refine below_drewN ?_ _ | refine Below.drew ?_)
/-- The day of the week. -/
def _root_.Cal.wd (n : Int) : Int := (n + 719528 + 6) % 7
set_option maxHeartbeats 400000 in
theorem weekday_yes (y m d : Int) (hr : Cal.rightB y m d = true) (w : World) :
    Calls Try.prog 10 #[.agg #[.int .i64 y, .int .i64 m, .int .i64 d]] w fun e w' => e = .returned (.tuple #[.int .i64 (Cal.wd (Cal.num y m d)), .int .i64 0]) ∧ Below w.heap.size w w' := by
  obtain ⟨n1, n2⟩ := Cal.num_bd hr
  have B0 := Box3.start w 27 (.int .i64 y) (.int .i64 m) (.int .i64 d)
  by_cases hneg : 0 ≤ Cal.num y m d + 4
  · go_enter Try.func10, Try.ntmps10
    go_wp2_with (go_at_call 8; refine (number_yes _ _ _ hr _).mono ?_; rintro e w' ⟨rfl, hb⟩)
    go_ret2
    exact ⟨ret_two (by unfold Cal.wd; omega) _ _, (B0.step hb).2.2.2.2⟩
  · have ht : (Cal.num y m d + 4).tmod 7 = -((-(Cal.num y m d + 4)) % 7) := by
      rw [show Cal.num y m d + 4 = -(-(Cal.num y m d + 4)) by omega, Int.neg_tmod, Int.tmod_eq_emod_of_nonneg (by omega)]; simp
    have q1 : -6 ≤ (Cal.num y m d + 4).tmod 7 := by omega
    have q2 : (Cal.num y m d + 4).tmod 7 ≤ 0 := by omega
    have Ht := Lib.hid ht; clear ht
    go_enter Try.func10, Try.ntmps10
    go_wp2_with (go_at_call 8; refine (number_yes _ _ _ hr _).mono ?_; rintro e w' ⟨rfl, hb⟩)
    go_ret2
    refine ⟨ret_two ?_ _ _, (B0.step hb).2.2.2.2⟩
    rw [Ht.out]; unfold Cal.wd; omega
set_option maxHeartbeats 400000 in
theorem weekday_no (y m d : Int) (hr : Cal.rightB y m d = false) (w : World) :
    Calls Try.prog 10 #[.agg #[.int .i64 y, .int .i64 m, .int .i64 d]] w fun e w' => e = .returned (.tuple #[.int .i64 0, .int .i64 1]) ∧ Below w.heap.size w w' := by
  have B0 := Box3.start w 27 (.int .i64 y) (.int .i64 m) (.int .i64 d)
  go_enter Try.func10, Try.ntmps10
  go_wp2_with (go_at_call 8; refine (number_no _ _ _ hr _).mono ?_; rintro e w' ⟨rfl, hb⟩)
  go_ret2
  exact ⟨rfl, (B0.step hb).2.2.2.2⟩
end Go.Proofs.Ytaojfkfdfpiejaa
