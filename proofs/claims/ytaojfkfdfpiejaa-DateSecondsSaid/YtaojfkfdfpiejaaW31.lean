/- Lemmas and walks on the way to the seat's laws; each theorem says its own conditions. -/
import Derived.Test.YtaojfkfdfpiejaaW30
namespace Go.Proofs.Ytaojfkfdfpiejaa
open Go.RowKit
theorem Box6.set {w w' : World} {a b c d e f : Value} (h : Box6 w a b c d e f w') (p : Addr) (hp : p.block = w.heap.size + 1) (v : Value) : Box6 w a b c d e f (w'.setCell p v) := by
  obtain ⟨h0, h1, h2, h3, h4, h5, hz, hw⟩ := h
  have hk : ∀ j, (w'.setCell p v).cell? ⟨w.heap.size, j, none⟩ = w'.cell? ⟨w.heap.size, j, none⟩ := fun j => World.cell?_setCell_far _ _ _ _ (by simp [hp])
  exact ⟨(hk 0).trans h0, (hk 1).trans h1, (hk 2).trans h2, (hk 3).trans h3, (hk 4).trans h4, (hk 5).trans h5, by simpa [World.setCell] using hz, hw.setCell (by omega) _⟩
theorem Box6.set6 {w w' : World} {a b c d e f : Value} (h : Box6 w a b c d e f w') (x0 x1 x2 x3 x4 x5 : Value) : Box6 w a b c d e f ((((((w'.setCell ⟨w.heap.size + 1, 0, none⟩ x0).setCell ⟨w.heap.size + 1, 1, none⟩ x1).setCell ⟨w.heap.size + 1, 2, none⟩ x2).setCell ⟨w.heap.size + 1, 3, none⟩ x3).setCell ⟨w.heap.size + 1, 4, none⟩ x4).setCell ⟨w.heap.size + 1, 5, none⟩ x5) :=
  (((((h.set _ rfl _).set _ rfl _).set _ rfl _).set _ rfl _).set _ rfl _).set _ rfl _
theorem six_written' {w : World} {b : Nat} {a0 a1 a2 a3 a4 a5 : Value} {T : TypeId} (h : w.heap[b]? = some (.cells #[a0, a1, a2, a3, a4, a5] T (0, 0))) (x0 x1 x2 x3 x4 x5 : Value) :
    ((((((w.setCell ⟨b, 0, none⟩ x0).setCell ⟨b, 1, none⟩ x1).setCell ⟨b, 2, none⟩ x2).setCell ⟨b, 3, none⟩ x3).setCell ⟨b, 4, none⟩ x4).setCell ⟨b, 5, none⟩ x5).heap[b]? = some (.cells #[x0, x1, x2, x3, x4, x5] T (0, 0)) := by
  have h0 := heap_setCell_same (j := 0) h x0
  have h1 := heap_setCell_same (j := 1) h0 x1
  have h2 := heap_setCell_same (j := 2) h1 x2
  have h3 := heap_setCell_same (j := 3) h2 x3
  have h4 := heap_setCell_same (j := 4) h3 x4
  have h5 := heap_setCell_same (j := 5) h4 x5
  rw [h5]; rfl
set_option maxHeartbeats 400000 in
theorem clock_any (y m d h mi s : Int) (w : World) :
    Calls Try.prog 22 #[.agg #[.int .i64 y, .int .i64 m, .int .i64 d, .int .i64 h, .int .i64 mi, .int .i64 s]] w fun e w' => e = .returned (.agg #[.int .i64 y, .int .i64 m, .int .i64 d, .int .i64 h, .int .i64 mi, .int .i64 s]) ∧ Below w.heap.size w w' := by
  have B0 := Box6.start w 41 (.int .i64 y) (.int .i64 m) (.int .i64 d) (.int .i64 h) (.int .i64 mi) (.int .i64 s)
  have B1 := Box6.step B0 ((Below.refl _ (w.alloc (.cells #[.int .i64 y, .int .i64 m, .int .i64 d, .int .i64 h, .int .i64 mi, .int .i64 s] 41))).alloc (Nat.le_refl _) (.cells #[.int .i64 0, .int .i64 0, .int .i64 0, .int .i64 0, .int .i64 0, .int .i64 0] 44))
  have R0 : Hid (((w.alloc (.cells #[.int .i64 y, .int .i64 m, .int .i64 d, .int .i64 h, .int .i64 mi, .int .i64 s] 41)).alloc (.cells #[.int .i64 0, .int .i64 0, .int .i64 0, .int .i64 0, .int .i64 0, .int .i64 0] 44)).heap[w.heap.size + 1]? = some (.cells #[.int .i64 0, .int .i64 0, .int .i64 0, .int .i64 0, .int .i64 0, .int .i64 0] 44 (0, 0))) := by
    have := heap_alloc_new (w.alloc (.cells #[.int .i64 y, .int .i64 m, .int .i64 d, .int .i64 h, .int .i64 mi, .int .i64 s] 41)) (.cells #[.int .i64 0, .int .i64 0, .int .i64 0, .int .i64 0, .int .i64 0, .int .i64 0] 44)
    show _ = _
    simpa using this
  go_enter Try.func22, Try.ntmps22
  go_wp2_with (fail)
  go_region_held3 (fun w' => w'.cell? ⟨w.heap.size, 0, none⟩ = some (.int .i64 y) ∧ w'.cell? ⟨w.heap.size, 1, none⟩ = some (.int .i64 m) ∧ w'.cell? ⟨w.heap.size, 2, none⟩ = some (.int .i64 d) ∧ w'.cell? ⟨w.heap.size, 3, none⟩ = some (.int .i64 h) ∧ w'.cell? ⟨w.heap.size, 4, none⟩ = some (.int .i64 mi) ∧ w'.cell? ⟨w.heap.size, 5, none⟩ = some (.int .i64 s) ∧ w.heap.size < w'.heap.size ∧ Below w.heap.size w w') (first | with_reducible exact Box6.drew B1 | with_reducible exact Box6.set6 ‹_› _ _ _ _ _ _ | with_reducible exact Box6.step ‹_› hb | assumption) (first | (go_at_call 9; refine (to_any _ _ _ _).mono ?_; rintro e w1 ⟨rfl, hb⟩; have HR := Lib.hid ((hb.block (w.heap.size + 1) (by rw [drew_size]; simp)).trans R0.out); obtain ⟨r0, r1, r2, r3, r4, r5, rf⟩ := cells6 HR.out))
  rename_i hh
  go_wp2_with (fail)
  obtain ⟨z0, z1, z2, z3, z4, z5, _⟩ := cells6 (six_written' HR.out (.int .i64 y) (.int .i64 m) (.int .i64 d) (.int .i64 h) (.int .i64 mi) (.int .i64 s))
  refine bodyPost_ret (v := .agg #[.int .i64 y, .int .i64 m, .int .i64 d, .int .i64 h, .int .i64 mi, .int .i64 s]) ?_ rfl ⟨rfl, Box6.below hh⟩
  simp [results, Try.results22, go_sem, z0, z1, z2, z3, z4, z5]
set_option maxHeartbeats 400000 in
theorem ofc_any (y m d h mi s : Int) (w : World) :
    Calls Try.prog 29 #[.agg #[.int .i64 y, .int .i64 m, .int .i64 d, .int .i64 h, .int .i64 mi, .int .i64 s]] w fun e w' => e = .returned (.agg #[.int .i64 y, .int .i64 m, .int .i64 d, .int .i64 h, .int .i64 mi, .int .i64 s]) ∧ Below w.heap.size w w' := by
  have B0 := Box6.start w 44 (.int .i64 y) (.int .i64 m) (.int .i64 d) (.int .i64 h) (.int .i64 mi) (.int .i64 s)
  have B1 := Box6.step B0 ((Below.refl _ (w.alloc (.cells #[.int .i64 y, .int .i64 m, .int .i64 d, .int .i64 h, .int .i64 mi, .int .i64 s] 44))).alloc (Nat.le_refl _) (.cells #[.int .i64 0, .int .i64 0, .int .i64 0, .int .i64 0, .int .i64 0, .int .i64 0] 41))
  have R0 : Hid (((w.alloc (.cells #[.int .i64 y, .int .i64 m, .int .i64 d, .int .i64 h, .int .i64 mi, .int .i64 s] 44)).alloc (.cells #[.int .i64 0, .int .i64 0, .int .i64 0, .int .i64 0, .int .i64 0, .int .i64 0] 41)).heap[w.heap.size + 1]? = some (.cells #[.int .i64 0, .int .i64 0, .int .i64 0, .int .i64 0, .int .i64 0, .int .i64 0] 41 (0, 0))) := by
    have := heap_alloc_new (w.alloc (.cells #[.int .i64 y, .int .i64 m, .int .i64 d, .int .i64 h, .int .i64 mi, .int .i64 s] 44)) (.cells #[.int .i64 0, .int .i64 0, .int .i64 0, .int .i64 0, .int .i64 0, .int .i64 0] 41)
    show _ = _
    simpa using this
  go_enter Try.func29, Try.ntmps29
  go_wp2_with (fail)
  go_region_held3 (fun w' => w'.cell? ⟨w.heap.size, 0, none⟩ = some (.int .i64 y) ∧ w'.cell? ⟨w.heap.size, 1, none⟩ = some (.int .i64 m) ∧ w'.cell? ⟨w.heap.size, 2, none⟩ = some (.int .i64 d) ∧ w'.cell? ⟨w.heap.size, 3, none⟩ = some (.int .i64 h) ∧ w'.cell? ⟨w.heap.size, 4, none⟩ = some (.int .i64 mi) ∧ w'.cell? ⟨w.heap.size, 5, none⟩ = some (.int .i64 s) ∧ w.heap.size < w'.heap.size ∧ Below w.heap.size w w') (first | with_reducible exact Box6.drew B1 | with_reducible exact Box6.set6 ‹_› _ _ _ _ _ _ | with_reducible exact Box6.step ‹_› hb | assumption) (first | (go_at_call 32; refine (ofd_any _ _ _ _).mono ?_; rintro e w1 ⟨rfl, hb⟩; have HR := Lib.hid ((hb.block (w.heap.size + 1) (by rw [drew_size]; simp)).trans R0.out); obtain ⟨r0, r1, r2, r3, r4, r5, rf⟩ := cells6 HR.out))
  rename_i hh
  go_wp2_with (fail)
  obtain ⟨z0, z1, z2, z3, z4, z5, _⟩ := cells6 (six_written' HR.out (.int .i64 y) (.int .i64 m) (.int .i64 d) (.int .i64 h) (.int .i64 mi) (.int .i64 s))
  refine bodyPost_ret (v := .agg #[.int .i64 y, .int .i64 m, .int .i64 d, .int .i64 h, .int .i64 mi, .int .i64 s]) ?_ rfl ⟨rfl, Box6.below hh⟩
  simp [results, Try.results29, go_sem, z0, z1, z2, z3, z4, z5]
end Go.Proofs.Ytaojfkfdfpiejaa
