/- Lemmas and walks on the way to the seat's laws; each theorem says its own conditions. -/
import Derived.Test.YtaojfkfdfpiejaaRows
import Derived.WalkKit
import Derived.WalkSpells
import Derived.WalkLawsBesides
import Derived.Deep.QuietTactic
import Derived.BigQuiet
import Derived.Lib.Hide
import Derived.Test.YtaojfkfdfpiejaaDPlain
namespace Go.Proofs.Ytaojfkfdfpiejaa
open Go.RowKit
theorem ret_bool {a b : Bool} (h : a = b) : Ending.returned (.bool a) = .returned (.bool b) := by rw [h]
theorem ret_int {k : IntKind} {a b : Int} (h : a = b) : Ending.returned (.int k a) = .returned (.int k b) := by rw [h]
theorem bcell {W w1 : World} (hb : Below W.heap.size W w1) : (∀ b o, b < W.heap.size → w1.cell? ⟨b, o, none⟩ = W.cell? ⟨b, o, none⟩) ∧ (∀ b o, b < W.heap.size → w1.frozen? ⟨b, o, none⟩ = W.frozen? ⟨b, o, none⟩) :=
  ⟨fun b o h => hb.cell (p := ⟨b, o, none⟩) h, fun b o h => hb.frozen (p := ⟨b, o, none⟩) h⟩
set_option maxHeartbeats 400000 in
theorem long_any (y : Int) (w : World) :
    Calls Try.prog 14 #[.int .i64 y] w fun e w' => e = .returned (.bool (Cal.longB y)) ∧ w = w' := by
  go_enter Try.func14, Try.ntmps14
  go_wp2
  all_goals
    go_ret
    refine ⟨ret_bool ?_, rfl⟩
    simp_all [Cal.longB, Cal.tmod_zero, Cal.tmod_beq]
set_option maxHeartbeats 400000 in
theorem rlong_any (y : Int) (w : World) :
    Calls Try.prog 15 #[.int .i64 y] w fun e w' => e = .returned (.bool (Cal.longB y)) ∧ w = w' := by
  go_enter Try.func15, Try.ntmps15
  go_wp2
  all_goals
    go_ret
    refine ⟨ret_bool ?_, rfl⟩
    rw [Bool.eq_iff_iff]
    simp [Cal.longB, Cal.tmod_zero] at *
    omega
set_option maxHeartbeats 400000 in
theorem days_any (y m : Int) (w : World) :
    Calls Try.prog 16 #[.int .i64 y, .int .i64 m] w fun e w' => e = .returned (.int .i64 (Cal.dim y m)) ∧ w = w' := by
  go_enter Try.func16, Try.ntmps16
  go_wp2_with (go_at_call 14; refine (long_any _ _).mono ?_; rintro e w' ⟨rfl, rfl⟩)
  all_goals
    go_ret
    refine ⟨ret_int ?_, rfl⟩
    simp_all [Cal.dim, Cal.lp]
set_option maxHeartbeats 400000 in
theorem rdays_any (y m : Int) (w : World) :
    Calls Try.prog 17 #[.int .i64 y, .int .i64 m] w fun e w' => e = .returned (.int .i64 (Cal.dim y m)) ∧ Below w.heap.size w w' := by
  by_cases hm : 1 ≤ m ∧ m ≤ 12
  · obtain ⟨h1, h2⟩ := hm
    rcases Cal.months m h1 h2 with rfl | rfl | rfl | rfl | rfl | rfl | rfl | rfl | rfl | rfl | rfl | rfl
    all_goals
      go_enter Try.func17, Try.ntmps17
      go_wp2_with (go_at_call 15; refine (rlong_any _ _).mono ?_; rintro e w' ⟨rfl, rfl⟩)
      all_goals
        go_ret
        refine ⟨ret_int ?_, (Below.refl _ _).alloc (Nat.le_refl _) _⟩
        simp_all [Cal.dim, Cal.lp]
  · have Hd : Hid (Cal.dim y m = 0) := by have := Cal.dim_cases y m; show _ = _; omega
    have hx : m < 1 ∨ 12 < m := by omega
    rcases hx with hx | hx
    · go_enter Try.func17, Try.ntmps17
      go_wp2_with fail
      go_ret
      exact ⟨ret_int Hd.out.symm, Below.refl _ _⟩
    · have hy : ¬ m < 1 := by omega
      go_enter Try.func17, Try.ntmps17
      go_wp2_with fail
      go_ret
      exact ⟨ret_int Hd.out.symm, Below.refl _ _⟩
end Go.Proofs.Ytaojfkfdfpiejaa
