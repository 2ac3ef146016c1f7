/- Lemmas and walks on the way to the seat's laws; each theorem says its own conditions. -/
import Derived.Test.YtaojfkfdfpiejaaW3
import Derived.Deep.RegionHeld3
import Derived.Deep.DeepCutAuto
namespace Go.Proofs.Ytaojfkfdfpiejaa
open Go.RowKit
theorem box3_start (w : World) (T : TypeId) (a b c : Value) :
    ((w.alloc (.cells #[a, b, c] T)).drew).cell? ⟨w.heap.size, 0, none⟩ = some a ∧ ((w.alloc (.cells #[a, b, c] T)).drew).cell? ⟨w.heap.size, 1, none⟩ = some b ∧ ((w.alloc (.cells #[a, b, c] T)).drew).cell? ⟨w.heap.size, 2, none⟩ = some c ∧ w.heap.size < ((w.alloc (.cells #[a, b, c] T)).drew).heap.size ∧ Below w.heap.size w ((w.alloc (.cells #[a, b, c] T)).drew) := by
  refine ⟨by simp, by simp, by simp, by simp, ((Below.refl _ _).alloc (Nat.le_refl _) _).drew⟩
theorem box3_step {w w' w1 : World} {a b c : Value} (h : w'.cell? ⟨w.heap.size, 0, none⟩ = some a ∧ w'.cell? ⟨w.heap.size, 1, none⟩ = some b ∧ w'.cell? ⟨w.heap.size, 2, none⟩ = some c ∧ w.heap.size < w'.heap.size ∧ Below w.heap.size w w') (hb : Below w'.heap.size w' w1) :
    w1.cell? ⟨w.heap.size, 0, none⟩ = some a ∧ w1.cell? ⟨w.heap.size, 1, none⟩ = some b ∧ w1.cell? ⟨w.heap.size, 2, none⟩ = some c ∧ w.heap.size < w1.heap.size ∧ Below w.heap.size w w1 :=
  ⟨(hb.cell (p := ⟨w.heap.size, 0, none⟩) h.2.2.2.1).trans h.1, (hb.cell (p := ⟨w.heap.size, 1, none⟩) h.2.2.2.1).trans h.2.1, (hb.cell (p := ⟨w.heap.size, 2, none⟩) h.2.2.2.1).trans h.2.2.1, Nat.lt_of_lt_of_le h.2.2.2.1 hb.size, h.2.2.2.2.trans (hb.mono (Nat.le_of_lt h.2.2.2.1))⟩
set_option maxHeartbeats 400000 in
theorem rright_any (y m d : Int) (w : World) :
    Calls Try.prog 13 #[.agg #[.int .i64 y, .int .i64 m, .int .i64 d]] w fun e w' => e = .returned (.bool (Cal.rightB y m d)) ∧ Below w.heap.size w w' := by
  by_cases h1 : 0 ≤ y
  · by_cases h2 : y ≤ 9999
    · have h2' : y < 10000 := by omega
      by_cases h3 : 1 ≤ d
      · have h3' : 0 < d := by omega
        have Hr : Hid (Cal.rightB y m d = decide (d ≤ Cal.dim y m)) := by show _ = _; simp [Cal.rightB, h1, h2, h3]
        clear h2 h3
        go_enter Try.func13, Try.ntmps13
        go_wp2
        go_region_held3 (fun w' => w'.cell? ⟨w.heap.size, 0, none⟩ = some (.int .i64 y) ∧ w'.cell? ⟨w.heap.size, 1, none⟩ = some (.int .i64 m) ∧ w'.cell? ⟨w.heap.size, 2, none⟩ = some (.int .i64 d) ∧ w.heap.size < w'.heap.size ∧ Below w.heap.size w w') (first | exact box3_start _ _ _ _ _ | exact box3_step ‹_› hb) (first | (go_at_call 17; refine (rdays_any _ _ _).mono ?_; rintro e w' ⟨rfl, hb⟩))
        rename_i hh
        go_wp2
        go_ret
        exact ⟨ret_bool Hr.out.symm, hh.2.2.2.2⟩
      · have Hr : Hid (Cal.rightB y m d = false) := by show _ = _; simp [Cal.rightB, h3]
        have hd : decide (0 < d) = false := by simp; omega
        go_enter Try.func13, Try.ntmps13
        go_wp2
        go_quiet (fail)
        go_wp2
        go_ret
        exact ⟨ret_bool Hr.out.symm, below_drewN ((Below.refl _ _).alloc (Nat.le_refl _) _) _⟩
    · have Hr : Hid (Cal.rightB y m d = false) := by show _ = _; simp [Cal.rightB, h2]
      have hd : decide (y < 10000) = false := by simp; omega
      go_enter Try.func13, Try.ntmps13
      go_wp2
      go_quiet (fail)
      go_wp2
      go_ret
      exact ⟨ret_bool Hr.out.symm, below_drewN ((Below.refl _ _).alloc (Nat.le_refl _) _) _⟩
  · have Hr : Hid (Cal.rightB y m d = false) := by show _ = _; simp [Cal.rightB, h1]
    have hd : decide (0 ≤ y) = false := by simpa using h1
    go_enter Try.func13, Try.ntmps13
    go_wp2
    go_quiet (fail)
    go_wp2
    go_ret
    exact ⟨ret_bool Hr.out.symm, below_drewN ((Below.refl _ _).alloc (Nat.le_refl _) _) _⟩
end Go.Proofs.Ytaojfkfdfpiejaa
