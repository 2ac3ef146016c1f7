/- Lemmas and walks on the way to the seat's laws; each theorem says its own conditions. -/
import Derived.Test.YtaojfkfdfpiejaaW21
namespace Cal
/-- Is it a moment? -/
def clockB (y m d h mi s : Int) : Bool := rightB y m d && decide (0 ≤ h ∧ h ≤ 23 ∧ 0 ≤ mi ∧ mi ≤ 59 ∧ 0 ≤ s ∧ s ≤ 59)
theorem clock_iff (y m d h mi s : Int) : clockB y m d h mi s = true ↔ rightB y m d = true ∧ 0 ≤ h ∧ h ≤ 23 ∧ 0 ≤ mi ∧ mi ≤ 59 ∧ 0 ≤ s ∧ s ≤ 59 := by simp [clockB]
def sec (y m d h mi s : Int) : Int := num y m d * 86400 + h * 3600 + mi * 60 + s
end Cal
namespace Go.Proofs.Ytaojfkfdfpiejaa
open Go.RowKit
/-- A box of six cells, above all that was there. -/
abbrev Box6 (w : World) (a b c d e f : Value) (w' : World) : Prop :=
  w'.cell? ⟨w.heap.size, 0, none⟩ = some a ∧ w'.cell? ⟨w.heap.size, 1, none⟩ = some b ∧ w'.cell? ⟨w.heap.size, 2, none⟩ = some c ∧ w'.cell? ⟨w.heap.size, 3, none⟩ = some d ∧ w'.cell? ⟨w.heap.size, 4, none⟩ = some e ∧ w'.cell? ⟨w.heap.size, 5, none⟩ = some f ∧ w.heap.size < w'.heap.size ∧ Below w.heap.size w w'
theorem Box6.start (w : World) (T : TypeId) (a b c d e f : Value) : Box6 w a b c d e f (w.alloc (.cells #[a, b, c, d, e, f] T)) := by
  obtain ⟨h0, h1, h2, h3, h4, h5, _⟩ := cells6 (heap_alloc_new w (.cells #[a, b, c, d, e, f] T))
  exact ⟨h0, h1, h2, h3, h4, h5, by simp, ((Below.refl _ _).alloc (Nat.le_refl _) _)⟩
theorem Box6.step {w w' w1 : World} {a b c d e f : Value} (h : Box6 w a b c d e f w') (hb : Below w'.heap.size w' w1) : Box6 w a b c d e f w1 := by
  obtain ⟨h0, h1, h2, h3, h4, h5, hz, hw⟩ := h
  exact ⟨(hb.cell (p := ⟨w.heap.size, 0, none⟩) hz).trans h0, (hb.cell (p := ⟨w.heap.size, 1, none⟩) hz).trans h1, (hb.cell (p := ⟨w.heap.size, 2, none⟩) hz).trans h2, (hb.cell (p := ⟨w.heap.size, 3, none⟩) hz).trans h3, (hb.cell (p := ⟨w.heap.size, 4, none⟩) hz).trans h4, (hb.cell (p := ⟨w.heap.size, 5, none⟩) hz).trans h5, Nat.lt_of_lt_of_le hz hb.size, hw.trans (hb.mono (Nat.le_of_lt hz))⟩
theorem Box6.drew {w w' : World} {a b c d e f : Value} (h : Box6 w a b c d e f w') : Box6 w a b c d e f w'.drew := by
  obtain ⟨h0, h1, h2, h3, h4, h5, hz, hw⟩ := h
  exact ⟨h0, h1, h2, h3, h4, h5, hz, hw.drew⟩
theorem Box6.below {w w' : World} {a b c d e f : Value} (h : Box6 w a b c d e f w') : Below w.heap.size w w' := h.2.2.2.2.2.2.2
set_option maxHeartbeats 1000000 in
theorem rclock_any (y m d h mi s : Int) (w : World) :
    Calls Try.prog 24 #[.agg #[.int .i64 y, .int .i64 m, .int .i64 d, .int .i64 h, .int .i64 mi, .int .i64 s]] w fun e w' => e = .returned (.bool (Cal.clockB y m d h mi s)) ∧ Below w.heap.size w w' := by
  have B0 := Box6.start w 44 (.int .i64 y) (.int .i64 m) (.int .i64 d) (.int .i64 h) (.int .i64 mi) (.int .i64 s)
  rcases Bool.eq_false_or_eq_true (Cal.rightB y m d) with hr | hr
  all_goals
    have HR := Lib.hid hr
    clear hr
    go_enter Try.func24, Try.ntmps24
    go_wp2_with (go_at_call 12; refine (right_any _ _ _ _).mono ?_; rintro e w1 ⟨rfl, hb⟩; rw [HR.out]; have B1 := Box6.step B0 hb; obtain ⟨c0, c1, c2, c3, c4, c5, cz, cb⟩ := id B1)
    all_goals
      go_ret
      refine ⟨ret_bool ?_, cb⟩
      unfold Cal.clockB
      rw [HR.out]
      first | (simp; done) | (rw [Bool.eq_iff_iff]; simp; omega) | (simp; omega)
set_option maxHeartbeats 1000000 in
theorem rrclock_any (y m d h mi s : Int) (w : World) :
    Calls Try.prog 23 #[.agg #[.int .i64 y, .int .i64 m, .int .i64 d, .int .i64 h, .int .i64 mi, .int .i64 s]] w fun e w' => e = .returned (.bool (Cal.clockB y m d h mi s)) ∧ Below w.heap.size w w' := by
  have B0 := Box6.start w 41 (.int .i64 y) (.int .i64 m) (.int .i64 d) (.int .i64 h) (.int .i64 mi) (.int .i64 s)
  rcases Bool.eq_false_or_eq_true (Cal.rightB y m d) with hr | hr
  all_goals
    have HR := Lib.hid hr
    clear hr
    go_enter Try.func23, Try.ntmps23
    go_wp2_with (go_at_call 13; refine (rright_any _ _ _ _).mono ?_; rintro e w1 ⟨rfl, hb⟩; rw [HR.out]; have B1 := Box6.step B0 hb; obtain ⟨c0, c1, c2, c3, c4, c5, cz, cb⟩ := id B1)
    all_goals
      go_ret
      refine ⟨ret_bool ?_, cb⟩
      unfold Cal.clockB
      rw [HR.out]
      first | (simp; done) | (rw [Bool.eq_iff_iff]; simp; omega) | (simp; omega)
theorem sec_bd {y m d h mi s : Int} (hc : Cal.clockB y m d h mi s = true) : -719528 ≤ Cal.num y m d ∧ Cal.num y m d ≤ 2932896 ∧ 0 ≤ h ∧ h ≤ 23 ∧ 0 ≤ mi ∧ mi ≤ 59 ∧ 0 ≤ s ∧ s ≤ 59 := by
  obtain ⟨hr, h1, h2, h3, h4, h5, h6⟩ := (Cal.clock_iff _ _ _ _ _ _).1 hc
  obtain ⟨n1, n2⟩ := Cal.num_bd hr
  exact ⟨n1, n2, h1, h2, h3, h4, h5, h6⟩
set_option maxHeartbeats 1000000 in
theorem second_yes (y m d h mi s : Int) (hc : Cal.clockB y m d h mi s = true) (w : World) :
    Calls Try.prog 21 #[.agg #[.int .i64 y, .int .i64 m, .int .i64 d, .int .i64 h, .int .i64 mi, .int .i64 s]] w fun e w' => e = .returned (.tuple #[.int .i64 (Cal.sec y m d h mi s), .int .i64 0]) ∧ Below w.heap.size w w' := by
  have B0 := Box6.start w 44 (.int .i64 y) (.int .i64 m) (.int .i64 d) (.int .i64 h) (.int .i64 mi) (.int .i64 s)
  obtain ⟨n1, n2, h1, h2, m1, m2, s1, s2⟩ := sec_bd hc
  have HR := Lib.hid ((Cal.clock_iff _ _ _ _ _ _).1 hc).1
  have HC := Lib.hid hc
  clear hc
  go_enter Try.func21, Try.ntmps21
  go_wp2_with (first | (go_at_call 24; refine (rclock_any _ _ _ _ _ _ _).mono ?_; rintro e w1 ⟨rfl, hb⟩; rw [HC.out]; have B1 := Box6.step ‹_› hb; obtain ⟨c0, c1, c2, c3, c4, c5, cz, cb⟩ := id B1) | (go_at_call 8; refine (number_yes _ _ _ HR.out _).mono ?_; rintro e w1 ⟨rfl, hb⟩; have B1 := Box6.step ‹_› hb; obtain ⟨c0, c1, c2, c3, c4, c5, cz, cb⟩ := id B1))
  try go_quiet (fail)
  try go_wp2
  go_ret2
  refine ⟨ret_two ?_ _ _, ?_⟩
  · unfold Cal.sec; omega
  · first | exact cb | exact below_drewN cb _
set_option maxHeartbeats 1000000 in
theorem second_no (y m d h mi s : Int) (hc : Cal.clockB y m d h mi s = false) (w : World) :
    Calls Try.prog 21 #[.agg #[.int .i64 y, .int .i64 m, .int .i64 d, .int .i64 h, .int .i64 mi, .int .i64 s]] w fun e w' => e = .returned (.tuple #[.int .i64 0, .int .i64 1]) ∧ Below w.heap.size w w' := by
  have B0 := Box6.start w 44 (.int .i64 y) (.int .i64 m) (.int .i64 d) (.int .i64 h) (.int .i64 mi) (.int .i64 s)
  have HC := Lib.hid hc
  clear hc
  go_enter Try.func21, Try.ntmps21
  go_wp2_with (first | (go_at_call 24; refine (rclock_any _ _ _ _ _ _ _).mono ?_; rintro e w1 ⟨rfl, hb⟩; rw [HC.out]; have B1 := Box6.step ‹_› hb; obtain ⟨c0, c1, c2, c3, c4, c5, cz, cb⟩ := id B1))
  go_ret2
  exact ⟨rfl, cb⟩
set_option maxHeartbeats 1000000 in
theorem rsecond_any (y m d h mi s : Int) (hc : Cal.clockB y m d h mi s = true) (w : World) :
    Calls Try.prog 25 #[.agg #[.int .i64 y, .int .i64 m, .int .i64 d, .int .i64 h, .int .i64 mi, .int .i64 s]] w fun e w' => e = .returned (.int .i64 (Cal.sec y m d h mi s)) ∧ Below w.heap.size w w' := by
  have B0 := Box6.start w 41 (.int .i64 y) (.int .i64 m) (.int .i64 d) (.int .i64 h) (.int .i64 mi) (.int .i64 s)
  obtain ⟨n1, n2, h1, h2, m1, m2, s1, s2⟩ := sec_bd hc
  have HR := Lib.hid ((Cal.clock_iff _ _ _ _ _ _).1 hc).1
  clear hc
  go_enter Try.func25, Try.ntmps25
  have k1 : IntKind.i64.wrap (Cal.num y m d * 86400) = Cal.num y m d * 86400 := IntWalk.i64_in _ (by omega)
  have k2 : IntKind.i64.wrap (3600 * h) = 3600 * h := IntWalk.i64_in _ (by omega)
  have k3 : IntKind.i64.wrap (Cal.num y m d * 86400 + 3600 * h) = Cal.num y m d * 86400 + 3600 * h := IntWalk.i64_in _ (by omega)
  have k4 : IntKind.i64.wrap (60 * mi) = 60 * mi := IntWalk.i64_in _ (by omega)
  have k5 : IntKind.i64.wrap (Cal.num y m d * 86400 + 3600 * h + 60 * mi) = Cal.num y m d * 86400 + 3600 * h + 60 * mi := IntWalk.i64_in _ (by omega)
  have k6 : IntKind.i64.wrap (Cal.num y m d * 86400 + 3600 * h + 60 * mi + s) = Cal.num y m d * 86400 + 3600 * h + 60 * mi + s := IntWalk.i64_in _ (by omega)
  go_wp2_with (fail)
  go_region_held3 (fun w' => w'.cell? ⟨w.heap.size, 0, none⟩ = some (.int .i64 y) ∧ w'.cell? ⟨w.heap.size, 1, none⟩ = some (.int .i64 m) ∧ w'.cell? ⟨w.heap.size, 2, none⟩ = some (.int .i64 d) ∧ w'.cell? ⟨w.heap.size, 3, none⟩ = some (.int .i64 h) ∧ w'.cell? ⟨w.heap.size, 4, none⟩ = some (.int .i64 mi) ∧ w'.cell? ⟨w.heap.size, 5, none⟩ = some (.int .i64 s) ∧ w.heap.size < w'.heap.size ∧ Below w.heap.size w w') (first | exact Box6.drew B0 | exact Box6.step ‹_› hb | assumption) (first | (go_at_call 18; refine (rnumber_any _ _ _ HR.out _).mono ?_; rintro e w1 ⟨rfl, hb⟩))
  rename_i hh
  go_wp2_with (fail)
  go_ret
  refine ⟨ret_int ?_, Box6.below hh⟩
  unfold Cal.sec; omega
end Go.Proofs.Ytaojfkfdfpiejaa
