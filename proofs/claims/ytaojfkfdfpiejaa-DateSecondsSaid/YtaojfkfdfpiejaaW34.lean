/- Lemmas and walks on the way to the seat's laws; each theorem says its own conditions. -/
import Derived.Test.YtaojfkfdfpiejaaW33
namespace Go.Proofs.Ytaojfkfdfpiejaa
open Go.RowKit
set_option maxRecDepth 100000 in
set_option maxHeartbeats 8000000 in
theorem dsec_yn (y m d h mi s t : Int) (hc : Cal.clockB y m d h mi s = true) (ht : t < -62167219200 ∨ 253402300799 < t) (w : World) :
    Calls Try.prog 5 #[.agg #[.int .i64 y, .int .i64 m, .int .i64 d, .int .i64 h, .int .i64 mi, .int .i64 s], .int .i64 t] w fun e w' => e = .returned (.bool true) ∧ Below w.heap.size w w' := by
  have B0 := Box6.start w 41 (.int .i64 y) (.int .i64 m) (.int .i64 d) (.int .i64 h) (.int .i64 mi) (.int .i64 s)
  have HC := Lib.hid hc
  clear hc
  have P26 := Lib.hid (at_no t ht)
  have P28 := Lib.hid (rat_no t ht)
  go_enter Try.func5, Try.ntmps5
  go_wp2_with (first | (go_at_call 22; refine (clock_any _ _ _ _ _ _ _).mono ?_; rintro e w1 ⟨rfl, hb⟩; have B1 := Box6.step ‹_› hb; obtain ⟨c0, c1, c2, c3, c4, c5, cz, cb⟩ := id B1) | (go_at_call 23; refine (rrclock_any _ _ _ _ _ _ _).mono ?_; rintro e w1 ⟨rfl, hb⟩; rw [HC.out]; have B1 := Box6.step ‹_› hb; obtain ⟨c0, c1, c2, c3, c4, c5, cz, cb⟩ := id B1) | (go_at_call 24; refine (rclock_any _ _ _ _ _ _ _).mono ?_; rintro e w1 ⟨rfl, hb⟩; rw [HC.out]; have B1 := Box6.step ‹_› hb; obtain ⟨c0, c1, c2, c3, c4, c5, cz, cb⟩ := id B1) | (go_at_call 11; refine (known_any _).mono ?_; rintro e w1 ⟨rfl, hb⟩; have B1 := Box6.step ‹_› hb; obtain ⟨c0, c1, c2, c3, c4, c5, cz, cb⟩ := id B1) | (go_at_call 21; refine (second_yes _ _ _ _ _ _ HC.out _).mono ?_; rintro e w1 ⟨rfl, hb⟩; have B1 := Box6.step ‹_› hb; obtain ⟨c0, c1, c2, c3, c4, c5, cz, cb⟩ := id B1) | (go_at_call 25; refine (rsecond_any _ _ _ _ _ _ HC.out _).mono ?_; rintro e w1 ⟨rfl, hb⟩; have B1 := Box6.step ‹_› hb; obtain ⟨c0, c1, c2, c3, c4, c5, cz, cb⟩ := id B1))
  refine (P26.out _).mono ?_
  rintro e wx ⟨rfl, hbx⟩
  rw [clockV_def]
  have U1 := Below.trans cb (hbx.mono (Nat.le_of_lt (Nat.lt_of_le_of_lt (Nat.le_refl _) cz)))
  have Z1 : w.heap.size ≤ wx.heap.size := Nat.le_trans (Nat.le_of_lt cz) hbx.size
  clear B0 B1 c0 c1 c2 c3 c4 c5 cz cb hbx
  go_wp2_with (fail)
  refine (text_no t ht _).mono ?_
  rintro e wy ⟨rfl, hby⟩
  obtain ⟨xx, zx, ux⟩ := newblk hby
  have X2 := Lib.hid xx
  clear xx hby
  go_wp2_with (fail)
  refine (P28.out _).mono ?_
  rintro e wz ⟨rfl, hbz⟩
  rw [clockV_def]
  have X3 := Lib.hid ((hbz.block _ zx).trans X2.out)
  have zz : wx.heap.size < wz.heap.size := Nat.lt_of_lt_of_le zx hbz.size
  have U3 := U1.trans ((ux.trans (hbz.mono ux.size)).mono Z1)
  obtain ⟨x0, x1, x2, x3, x4, x5, _⟩ := cells6 X3.out
  clear X2
  go_wp2_with (fail)
  refine (ofc_any _ _ _ _ _ _ _).mono ?_
  rintro e wq ⟨rfl, hbq⟩
  obtain ⟨_, zq, uq⟩ := newblk hbq
  clear hbq
  go_wp2_with (fail)
  go_ret
  exact ⟨rfl, U3.trans (uq.mono (by omega))⟩
set_option maxRecDepth 100000 in
set_option maxHeartbeats 8000000 in
theorem dsec_nn (y m d h mi s t : Int) (hc : Cal.clockB y m d h mi s = false) (ht : t < -62167219200 ∨ 253402300799 < t) (w : World) :
    Calls Try.prog 5 #[.agg #[.int .i64 y, .int .i64 m, .int .i64 d, .int .i64 h, .int .i64 mi, .int .i64 s], .int .i64 t] w fun e w' => e = .returned (.bool true) ∧ Below w.heap.size w w' := by
  have B0 := Box6.start w 41 (.int .i64 y) (.int .i64 m) (.int .i64 d) (.int .i64 h) (.int .i64 mi) (.int .i64 s)
  have HC := Lib.hid hc
  clear hc
  have P26 := Lib.hid (at_no t ht)
  have P28 := Lib.hid (rat_no t ht)
  go_enter Try.func5, Try.ntmps5
  go_wp2_with (first | (go_at_call 22; refine (clock_any _ _ _ _ _ _ _).mono ?_; rintro e w1 ⟨rfl, hb⟩; have B1 := Box6.step ‹_› hb; obtain ⟨c0, c1, c2, c3, c4, c5, cz, cb⟩ := id B1) | (go_at_call 23; refine (rrclock_any _ _ _ _ _ _ _).mono ?_; rintro e w1 ⟨rfl, hb⟩; rw [HC.out]; have B1 := Box6.step ‹_› hb; obtain ⟨c0, c1, c2, c3, c4, c5, cz, cb⟩ := id B1) | (go_at_call 24; refine (rclock_any _ _ _ _ _ _ _).mono ?_; rintro e w1 ⟨rfl, hb⟩; rw [HC.out]; have B1 := Box6.step ‹_› hb; obtain ⟨c0, c1, c2, c3, c4, c5, cz, cb⟩ := id B1) | (go_at_call 11; refine (known_any _).mono ?_; rintro e w1 ⟨rfl, hb⟩; have B1 := Box6.step ‹_› hb; obtain ⟨c0, c1, c2, c3, c4, c5, cz, cb⟩ := id B1) | (go_at_call 21; refine (second_no _ _ _ _ _ _ HC.out _).mono ?_; rintro e w1 ⟨rfl, hb⟩; have B1 := Box6.step ‹_› hb; obtain ⟨c0, c1, c2, c3, c4, c5, cz, cb⟩ := id B1))
  refine (P26.out _).mono ?_
  rintro e wx ⟨rfl, hbx⟩
  rw [clockV_def]
  have U1 := Below.trans cb (hbx.mono (Nat.le_of_lt (Nat.lt_of_le_of_lt (Nat.le_refl _) cz)))
  have Z1 : w.heap.size ≤ wx.heap.size := Nat.le_trans (Nat.le_of_lt cz) hbx.size
  clear B0 B1 c0 c1 c2 c3 c4 c5 cz cb hbx
  go_wp2_with (fail)
  refine (text_no t ht _).mono ?_
  rintro e wy ⟨rfl, hby⟩
  obtain ⟨xx, zx, ux⟩ := newblk hby
  have X2 := Lib.hid xx
  clear xx hby
  go_wp2_with (fail)
  refine (P28.out _).mono ?_
  rintro e wz ⟨rfl, hbz⟩
  rw [clockV_def]
  have X3 := Lib.hid ((hbz.block _ zx).trans X2.out)
  have zz : wx.heap.size < wz.heap.size := Nat.lt_of_lt_of_le zx hbz.size
  have U3 := U1.trans ((ux.trans (hbz.mono ux.size)).mono Z1)
  obtain ⟨x0, x1, x2, x3, x4, x5, _⟩ := cells6 X3.out
  clear X2
  go_wp2_with (fail)
  refine (ofc_any _ _ _ _ _ _ _).mono ?_
  rintro e wq ⟨rfl, hbq⟩
  obtain ⟨_, zq, uq⟩ := newblk hbq
  clear hbq
  go_wp2_with (fail)
  go_ret
  exact ⟨rfl, U3.trans (uq.mono (by omega))⟩
theorem dateSeconds_any (y m d h mi s t : Int) (w : World) :
    Calls Try.prog 5 #[.agg #[.int .i64 y, .int .i64 m, .int .i64 d, .int .i64 h, .int .i64 mi, .int .i64 s], .int .i64 t] w fun e w' => e = .returned (.bool true) ∧ Below w.heap.size w w' := by
  rcases Bool.eq_false_or_eq_true (Cal.clockB y m d h mi s) with hc | hc <;> by_cases ht : t < -62167219200 ∨ 253402300799 < t
  · exact dsec_yn _ _ _ _ _ _ _ hc ht w
  · exact dsec_yy _ _ _ _ _ _ _ hc (by omega) (by omega) w
  · exact dsec_nn _ _ _ _ _ _ _ hc ht w
  · exact dsec_ny _ _ _ _ _ _ _ hc (by omega) (by omega) w
end Go.Proofs.Ytaojfkfdfpiejaa
