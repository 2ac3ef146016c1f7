/- Lemmas and walks on the way to the seat's laws; each theorem says its own conditions. -/
import Derived.Test.YtaojfkfdfpiejaaW5
namespace Go.Proofs.Ytaojfkfdfpiejaa
open Go.RowKit
/-- A box of three cells, above all that was there. -/
def Box3 (w : World) (a b c : Value) (w' : World) : Prop :=
  w'.cell? ⟨w.heap.size, 0, none⟩ = some a ∧ w'.cell? ⟨w.heap.size, 1, none⟩ = some b ∧ w'.cell? ⟨w.heap.size, 2, none⟩ = some c ∧ w.heap.size < w'.heap.size ∧ Below w.heap.size w w'
theorem Box3.start (w : World) (T : TypeId) (a b c : Value) : Box3 w a b c (w.alloc (.cells #[a, b, c] T)) :=
  ⟨by simp, by simp, by simp, by simp, ((Below.refl _ _).alloc (Nat.le_refl _) _)⟩
theorem Box3.step {w w' w1 : World} {a b c : Value} (h : Box3 w a b c w') (hb : Below w'.heap.size w' w1) : Box3 w a b c w1 := box3_step h hb
set_option maxHeartbeats 400000 in
theorem rnumber_any (y m d : Int) (hr : Cal.rightB y m d = true) (w : World) :
    Calls Try.prog 18 #[.agg #[.int .i64 y, .int .i64 m, .int .i64 d]] w fun e w' => e = .returned (.int .i64 (Cal.num y m d)) ∧ Below w.heap.size w w' := by
  obtain ⟨m1, m2⟩ := Cal.month_of_right hr
  obtain ⟨n1, n2⟩ := Cal.num_bd hr
  obtain ⟨y1, y2, d1, d2⟩ := (Cal.right_iff _ _ _).1 hr
  have c12 := Cal.dim_cases y m
  have z0 : Cal.dby 0 ≥ 0 := by decide
  have z1 : Cal.dby 10000 ≤ 3652425 := by decide
  have hd0 := Cal.dby_mono 0 y y1
  have hd1 := Cal.dby_mono y 10000 (by omega)
  clear hr
  go_enter Try.func18, Try.ntmps18
  go_wp2_with (go_at_call 34; refine (start_any _ (by omega) (by omega) _).mono ?_; rintro e w' ⟨rfl, rfl⟩)
  go_loopw [3, 4] (fun n k wr => Box3 w (.int .i64 y) (.int .i64 m) (.int .i64 d) wr ∧ ∃ i : Int, 1 ≤ i ∧ i ≤ m ∧ k = .int .i64 i ∧ n = .int .i64 (Cal.dby y - 719528 + Cal.cum y i)) (fun _ k _ => (m - intOf k).toNat)
  case atStart => exact ⟨Box3.start _ _ _ _ _, 1, by omega, by omega, rfl, by simp [Cal.cum]⟩
  case round =>
    obtain ⟨hbox, i, hi0, hi, rfl, rfl⟩ := hrel
    obtain ⟨b0, b1, b2, b3, b4⟩ := id hbox
    have hc0 := Cal.cum_bd y i
    have c13 := Cal.dim_cases y i
    by_cases hlt : i < m
    · have Hs := Lib.hid (Cal.cum_succ y i hi0 (by omega))
      go_wp2_with (go_at_call 17; refine (rdays_any _ _ _).mono ?_; rintro e w' ⟨rfl, hb⟩)
      go_roundw
      case rel => exact ⟨hbox.step hb, i + 1, by omega, by omega, rfl, by rw [Hs.out]; go_num⟩
      case measure => simp [intOf]; omega
    · obtain rfl : i = m := by omega
      go_wp2
      go_ret
      exact ⟨ret_int (by unfold Cal.num; omega), b4⟩
end Go.Proofs.Ytaojfkfdfpiejaa
