/- Lemmas and walks on the way to the seat's laws; each theorem says its own conditions. -/
import Derived.Test.YtaojfkfdfpiejaaW6
namespace Go.Proofs.Ytaojfkfdfpiejaa
open Go.RowKit
set_option maxHeartbeats 800000 in
theorem number_yes (y m d : Int) (hr : Cal.rightB y m d = true) (w : World) :
    Calls Try.prog 8 #[.agg #[.int .i64 y, .int .i64 m, .int .i64 d]] w fun e w' => e = .returned (.tuple #[.int .i64 (Cal.num y m d), .int .i64 0]) ∧ Below w.heap.size w w' := by
  obtain ⟨m1, m2⟩ := Cal.month_of_right hr
  obtain ⟨y1, y2, d1, d2⟩ := (Cal.right_iff _ _ _).1 hr
  have c12 := Cal.dim_cases y m
  have B0 := Box3.start w 27 (.int .i64 y) (.int .i64 m) (.int .i64 d)
  by_cases hm : m < 3
  · have hp := Lib.hid (Cal.pnum_lo y m d y1 m1 (by omega))
    by_cases hy : y = 0
    · subst hy
      go_enter Try.func8, Try.ntmps8
      go_wp2_with (go_at_call 12; refine (right_any _ _ _ _).mono ?_; rintro e w' ⟨rfl, hb⟩)
      obtain ⟨b0, b1, b2, b3, b4⟩ := B0.step hb
      clear B0 hb
      go_quiet (fail)
      go_wp2
      go_ret2
      refine ⟨ret_two ?_ _ _, below_drewN b4 _⟩
      rw [← hp.out]; unfold Cal.pnum Cal.era; simp
    · have hy' : 0 ≤ y - 1 := by omega
      go_enter Try.func8, Try.ntmps8
      go_wp2_with (go_at_call 12; refine (right_any _ _ _ _).mono ?_; rintro e w' ⟨rfl, hb⟩)
      obtain ⟨b0, b1, b2, b3, b4⟩ := B0.step hb
      clear B0 hb
      go_quiet (fail)
      go_wp2
      go_ret2
      refine ⟨ret_two ?_ _ _, below_drewN b4 _⟩
      rw [← hp.out]; unfold Cal.pnum Cal.era; rw [if_neg (by omega)]
  · have hp := Lib.hid (Cal.pnum_hi y m d y1 (by omega) m2)
    go_enter Try.func8, Try.ntmps8
    go_wp2_with (go_at_call 12; refine (right_any _ _ _ _).mono ?_; rintro e w' ⟨rfl, hb⟩)
    obtain ⟨b0, b1, b2, b3, b4⟩ := B0.step hb
    clear B0 hb
    go_quiet (fail)
    go_wp2
    go_ret2
    refine ⟨ret_two ?_ _ _, below_drewN b4 _⟩
    rw [← hp.out]; unfold Cal.pnum Cal.era; rw [if_neg (by omega)]
set_option maxHeartbeats 400000 in
theorem number_no (y m d : Int) (hr : Cal.rightB y m d = false) (w : World) :
    Calls Try.prog 8 #[.agg #[.int .i64 y, .int .i64 m, .int .i64 d]] w fun e w' => e = .returned (.tuple #[.int .i64 0, .int .i64 1]) ∧ Below w.heap.size w w' := by
  have B0 := Box3.start w 27 (.int .i64 y) (.int .i64 m) (.int .i64 d)
  go_enter Try.func8, Try.ntmps8
  go_wp2_with (go_at_call 12; refine (right_any _ _ _ _).mono ?_; rintro e w' ⟨rfl, hb⟩)
  obtain ⟨b0, b1, b2, b3, b4⟩ := B0.step hb
  go_ret2
  exact ⟨rfl, b4⟩
end Go.Proofs.Ytaojfkfdfpiejaa
