/- Lemmas and walks on the way to the seat's laws; each theorem says its own conditions. -/
import Derived.Test.YtaojfkfdfpiejaaW16
namespace Go.Proofs.Ytaojfkfdfpiejaa
open Go.RowKit
theorem Box3.drew {w w' : World} {a b c : Value} (h : Box3 w a b c w') : Box3 w a b c w'.drew := ⟨h.1, h.2.1, h.2.2.1, h.2.2.2.1, h.2.2.2.2.drew⟩
set_option maxHeartbeats 2000000 in
theorem dateNumbers_any (y m d : Int) (w : World) :
    Calls Try.prog 3 #[.agg #[.int .i64 y, .int .i64 m, .int .i64 d]] w fun e w' => e = .returned (.bool true) ∧ Below w.heap.size w w' := by
  have B0 := Box3.start w 23 (.int .i64 y) (.int .i64 m) (.int .i64 d)
  cases hr : Cal.rightB y m d with
  | true =>
    obtain ⟨n1, n2⟩ := Cal.num_bd hr
    have hw : Hid (Cal.wd (Cal.num y m d) = (Cal.num y m d + 719528 + 6) % 7) := rfl
    have HR := Lib.hid hr
    clear hr
    go_enter Try.func3, Try.ntmps3
    go_wp2_with (first | (go_at_call 9; refine (to_any _ _ _ _).mono ?_; rintro e w1 ⟨rfl, hb⟩; have B1 := Box3.step ‹_› hb; obtain ⟨c0, c1, c2, cz, cb⟩ := id B1) | (go_at_call 8; refine (number_yes _ _ _ HR.out _).mono ?_; rintro e w2 ⟨rfl, hb⟩; have B1 := Box3.step ‹_› hb; obtain ⟨c0, c1, c2, cz, cb⟩ := id B1) | (go_at_call 10; refine (weekday_yes _ _ _ HR.out _).mono ?_; rintro e w2 ⟨rfl, hb⟩; have B1 := Box3.step ‹_› hb; obtain ⟨c0, c1, c2, cz, cb⟩ := id B1))
    go_region_held3 (fun w' => w'.cell? ⟨w.heap.size, 0, none⟩ = some (.int .i64 y) ∧ w'.cell? ⟨w.heap.size, 1, none⟩ = some (.int .i64 m) ∧ w'.cell? ⟨w.heap.size, 2, none⟩ = some (.int .i64 d) ∧ w.heap.size < w'.heap.size ∧ Below w.heap.size w w') (first | exact Box3.drew B1 | exact box3_step ‹_› hb | assumption) (first | (go_at_call 11; refine (known_any _).mono ?_; rintro e w' ⟨rfl, hb⟩) | (go_at_call 9; refine (to_any _ _ _ _).mono ?_; rintro e w' ⟨rfl, hb⟩) | (go_at_call 12; refine (right_any _ _ _ _).mono ?_; rintro e w' ⟨rfl, hb⟩) | (go_at_call 13; refine (rright_any _ _ _ _).mono ?_; rintro e w' ⟨rfl, hb⟩) | (go_at_call 14; refine (long_any _ _).mono ?_; rintro e w' ⟨rfl, rfl⟩) | (go_at_call 15; refine (rlong_any _ _).mono ?_; rintro e w' ⟨rfl, rfl⟩) | (go_at_call 16; refine (days_any _ _ _).mono ?_; rintro e w' ⟨rfl, rfl⟩) | (go_at_call 17; refine (rdays_any _ _ _).mono ?_; rintro e w' ⟨rfl, hb⟩))
    rename_i hh
    have B2 : Box3 w (.int .i64 y) (.int .i64 m) (.int .i64 d) _ := hh
    obtain ⟨c0, c1, c2, cz, cb⟩ := id B2
    clear hh
    go_wp2_with (first | (go_at_call 13; refine (rright_any _ _ _ _).mono ?_; rintro e w1 ⟨rfl, hb⟩; rw [HR.out]; have B1 := Box3.step ‹_› hb; obtain ⟨c0, c1, c2, cz, cb⟩ := id B1) | (go_at_call 18; refine (rnumber_any _ _ _ HR.out _).mono ?_; rintro e w2 ⟨rfl, hb⟩; have hwd := hw.out; have B1 := Box3.step ‹_› hb; obtain ⟨c0, c1, c2, cz, cb⟩ := id B1))
    go_ret
    exact ⟨rfl, cb⟩
  | false =>
    have HR := Lib.hid hr
    clear hr
    go_enter Try.func3, Try.ntmps3
    go_wp2_with (first | (go_at_call 9; refine (to_any _ _ _ _).mono ?_; rintro e w1 ⟨rfl, hb⟩; have B1 := Box3.step ‹_› hb; obtain ⟨c0, c1, c2, cz, cb⟩ := id B1) | (go_at_call 8; refine (number_no _ _ _ HR.out _).mono ?_; rintro e w2 ⟨rfl, hb⟩; have B1 := Box3.step ‹_› hb; obtain ⟨c0, c1, c2, cz, cb⟩ := id B1) | (go_at_call 10; refine (weekday_no _ _ _ HR.out _).mono ?_; rintro e w2 ⟨rfl, hb⟩; have B1 := Box3.step ‹_› hb; obtain ⟨c0, c1, c2, cz, cb⟩ := id B1))
    go_region_held3 (fun w' => w'.cell? ⟨w.heap.size, 0, none⟩ = some (.int .i64 y) ∧ w'.cell? ⟨w.heap.size, 1, none⟩ = some (.int .i64 m) ∧ w'.cell? ⟨w.heap.size, 2, none⟩ = some (.int .i64 d) ∧ w.heap.size < w'.heap.size ∧ Below w.heap.size w w') (first | exact Box3.drew B1 | exact box3_step ‹_› hb | assumption) (first | (go_at_call 11; refine (known_any _).mono ?_; rintro e w' ⟨rfl, hb⟩) | (go_at_call 9; refine (to_any _ _ _ _).mono ?_; rintro e w' ⟨rfl, hb⟩) | (go_at_call 12; refine (right_any _ _ _ _).mono ?_; rintro e w' ⟨rfl, hb⟩) | (go_at_call 13; refine (rright_any _ _ _ _).mono ?_; rintro e w' ⟨rfl, hb⟩) | (go_at_call 14; refine (long_any _ _).mono ?_; rintro e w' ⟨rfl, rfl⟩) | (go_at_call 15; refine (rlong_any _ _).mono ?_; rintro e w' ⟨rfl, rfl⟩) | (go_at_call 16; refine (days_any _ _ _).mono ?_; rintro e w' ⟨rfl, rfl⟩) | (go_at_call 17; refine (rdays_any _ _ _).mono ?_; rintro e w' ⟨rfl, hb⟩))
    rename_i hh
    have B2 : Box3 w (.int .i64 y) (.int .i64 m) (.int .i64 d) _ := hh
    obtain ⟨c0, c1, c2, cz, cb⟩ := id B2
    clear hh
    go_wp2_with (first | (go_at_call 13; refine (rright_any _ _ _ _).mono ?_; rintro e w1 ⟨rfl, hb⟩; rw [HR.out]; have B1 := Box3.step ‹_› hb; obtain ⟨c0, c1, c2, cz, cb⟩ := id B1))
    go_ret
    exact ⟨rfl, cb⟩
end Go.Proofs.Ytaojfkfdfpiejaa
