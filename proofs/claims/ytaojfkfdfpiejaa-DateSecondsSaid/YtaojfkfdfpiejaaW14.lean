/- Lemmas and walks on the way to the seat's laws; each theorem says its own conditions. -/
import Derived.Test.YtaojfkfdfpiejaaW13
namespace Go.Proofs.Ytaojfkfdfpiejaa
open Go.RowKit
/-- A clock's value. -/
def clockV (y m d h mi s : Int) : Value := .agg #[.int .i64 y, .int .i64 m, .int .i64 d, .int .i64 h, .int .i64 mi, .int .i64 s]
theorem clockV_def (y m d h mi s : Int) : clockV y m d h mi s = .agg #[.int .i64 y, .int .i64 m, .int .i64 d, .int .i64 h, .int .i64 mi, .int .i64 s] := rfl
/-- The moment of a second. -/
def atV (s : Int) : Value := clockV (Cal.pY (s / 86400)) (Cal.pM (s / 86400)) (Cal.pD (s / 86400)) (s % 86400 / 3600) (s % 86400 / 60 % 60) (s % 60)
theorem newblk {w w' : World} {o : Obj} (hb : Below (w.alloc o).heap.size (w.alloc o) w') : w'.heap[w.heap.size]? = some o ∧ w.heap.size < w'.heap.size ∧ Below w.heap.size w w' :=
  ⟨(hb.block _ (by simp)).trans (heap_alloc_new w o), by have := hb.size; simp at this; omega, ((Below.refl _ _).alloc (Nat.le_refl _) _).trans (hb.mono (by simp))⟩
theorem cells6 {w : World} {b : Nat} {a0 a1 a2 a3 a4 a5 : Value} {T : TypeId} (h : w.heap[b]? = some (.cells #[a0, a1, a2, a3, a4, a5] T (0, 0))) :
    w.cell? ⟨b, 0, none⟩ = some a0 ∧ w.cell? ⟨b, 1, none⟩ = some a1 ∧ w.cell? ⟨b, 2, none⟩ = some a2 ∧ w.cell? ⟨b, 3, none⟩ = some a3 ∧ w.cell? ⟨b, 4, none⟩ = some a4 ∧ w.cell? ⟨b, 5, none⟩ = some a5 ∧ ∀ j, w.frozen? ⟨b, j, none⟩ = false := by
  refine ⟨?_, ?_, ?_, ?_, ?_, ?_, fun j => Lib.frozen_of_heap h j⟩ <;> (rw [Lib.cell_of_heap h]; rfl)
theorem cells3 {w : World} {b : Nat} {a0 a1 a2 : Value} {T : TypeId} (h : w.heap[b]? = some (.cells #[a0, a1, a2] T (0, 0))) :
    w.cell? ⟨b, 0, none⟩ = some a0 ∧ w.cell? ⟨b, 1, none⟩ = some a1 ∧ w.cell? ⟨b, 2, none⟩ = some a2 ∧ ∀ j, w.frozen? ⟨b, j, none⟩ = false := by
  refine ⟨?_, ?_, ?_, fun j => Lib.frozen_of_heap h j⟩ <;> (rw [Lib.cell_of_heap h]; rfl)
theorem heap_setCell_same {w : World} {b j : Nat} {c : Array Value} {T : TypeId} {fz : Nat × Nat} (h : w.heap[b]? = some (.cells c T fz)) (v : Value) : (w.setCell ⟨b, j, none⟩ v).heap[b]? = some (.cells (c.setIfInBounds j v) T fz) := by
  simp [World.setCell, Array.getElem?_modify, h]
theorem six_written {w : World} {b : Nat} {a0 a1 a2 a3 a4 a5 : Value} {T : TypeId} (h : w.heap[b]? = some (.cells #[a0, a1, a2, a3, a4, a5] T (0, 0))) (x0 x1 x2 x3 x4 x5 : Value) (o : Obj) :
    ((((((((w.setCell ⟨b, 0, none⟩ x0).setCell ⟨b, 1, none⟩ x1).setCell ⟨b, 2, none⟩ x2).setCell ⟨b, 3, none⟩ x3).setCell ⟨b, 4, none⟩ x4).setCell ⟨b, 5, none⟩ x5).alloc o).heap[b]? = some (.cells #[x0, x1, x2, x3, x4, x5] T (0, 0))) := by
  have h0 := heap_setCell_same (j := 0) h x0
  have h1 := heap_setCell_same (j := 1) h0 x1
  have h2 := heap_setCell_same (j := 2) h1 x2
  have h3 := heap_setCell_same (j := 3) h2 x3
  have h4 := heap_setCell_same (j := 4) h3 x4
  have h5 := heap_setCell_same (j := 5) h4 x5
  have hlt := (Array.getElem?_eq_some_iff.1 h5).1
  rw [heap_alloc_old _ _ hlt, h5]
  rfl
theorem tdivmod (s : Int) (h : s < 0) : s.tdiv 86400 * 86400 + s.tmod 86400 = s ∧ -86399 ≤ s.tmod 86400 ∧ s.tmod 86400 ≤ 0 := by
  have h1 : s.tmod 86400 = -((-s) % 86400) := by
    rw [show s = -(-s) by omega, Int.neg_tmod, Int.tmod_eq_emod_of_nonneg (by omega)]; simp
  have h2 := Int.tdiv_mul_add_tmod s 86400
  refine ⟨h2, ?_, ?_⟩ <;> rw [h1] <;> omega
set_option maxHeartbeats 1000000 in
theorem at_yes (s : Int) (h1 : -62167219200 ≤ s) (h2 : s ≤ 253402300799) (w : World) :
    Calls Try.prog 26 #[.int .i64 s] w fun e w' => e = .returned (.tuple #[atV s, .int .i64 0]) ∧ Below w.heap.size w w' := by
  by_cases hs : 0 ≤ s
  · go_enter Try.func26, Try.ntmps26
    go_wp2_with (go_at_call 20; refine (of_yes _ (by omega) (by omega) _).mono ?_; rintro e w' ⟨rfl, hb⟩; obtain ⟨hn, hz, hb'⟩ := newblk hb; obtain ⟨c0, c1, c2, c3, c4, c5, hfz⟩ := cells6 hn; have HN := Lib.hid hn; clear hn hb)
    refine bodyPost_ret (v := .tuple #[atV s, .int .i64 0]) ?_ rfl ⟨rfl, ?_⟩
    · obtain ⟨z0, z1, z2, z3, z4, z5, _⟩ := cells6 (six_written HN.out (.int .i64 (Cal.pY (s / 86400))) (.int .i64 (Cal.pM (s / 86400))) (.int .i64 (Cal.pD (s / 86400))) (.int .i64 (s % 86400 / 3600)) (.int .i64 (s % 86400 / 60 % 60)) (.int .i64 (s % 60)) (Obj.cells #[.int .i64 (Cal.pY (s / 86400)), .int .i64 (Cal.pM (s / 86400)), .int .i64 (Cal.pD (s / 86400))] 27)); simp only [atV, clockV]; simp [results, Try.results26, go_sem, z0, z1, z2, z3, z4, z5]
    · repeat (first | with_reducible exact hb' | with_reducible refine Below.alloc ?_ (by first | omega | (simp; omega)) _ | with_reducible refine Below.setCell ?_ (by simp) _ | with_reducible refine below_drewN ?_ _ | with_reducible refine Below.drew ?_)
  · obtain ⟨t1, t2, t3⟩ := tdivmod s (by omega)
    have T1 := Lib.hid t1
    have b1 : -719528 ≤ s.tdiv 86400 := by omega
    have b2 : s.tdiv 86400 ≤ 0 := by omega
    clear t1
    by_cases hr : s.tmod 86400 < 0
    · have e1 : Hid (s.tdiv 86400 - 1 = s / 86400) := by have := T1.out; show _ = _; omega
      have e2 : Hid (s.tmod 86400 + 86400 = s % 86400) := by have := T1.out; show _ = _; omega
      have b3 : -719528 ≤ s.tdiv 86400 - 1 := by have := T1.out; omega
      go_enter Try.func26, Try.ntmps26
      go_upto_region 6 with (fail)
      rw [e1.out, e2.out]
      have d1 : -719528 ≤ s / 86400 := by omega
      have d2 : s / 86400 ≤ 2932896 := by omega
      go_wp2_with (go_at_call 20; refine (of_yes _ d1 d2 _).mono ?_; rintro e w' ⟨rfl, hb⟩; obtain ⟨hn, hz, hb'⟩ := newblk hb; obtain ⟨c0, c1, c2, c3, c4, c5, hfz⟩ := cells6 hn; have HN := Lib.hid hn; clear hn hb)
      refine bodyPost_ret (v := .tuple #[atV s, .int .i64 0]) ?_ rfl ⟨rfl, ?_⟩
      · obtain ⟨z0, z1, z2, z3, z4, z5, _⟩ := cells6 (six_written HN.out (.int .i64 (Cal.pY (s / 86400))) (.int .i64 (Cal.pM (s / 86400))) (.int .i64 (Cal.pD (s / 86400))) (.int .i64 (s % 86400 / 3600)) (.int .i64 (s % 86400 / 60 % 60)) (.int .i64 (s % 60)) (Obj.cells #[.int .i64 (Cal.pY (s / 86400)), .int .i64 (Cal.pM (s / 86400)), .int .i64 (Cal.pD (s / 86400))] 27)); simp only [atV, clockV]; simp [results, Try.results26, go_sem, z0, z1, z2, z3, z4, z5]
      · repeat (first | with_reducible exact hb' | with_reducible refine Below.alloc ?_ (by first | omega | (simp; omega)) _ | with_reducible refine Below.setCell ?_ (by simp) _ | with_reducible refine below_drewN ?_ _ | with_reducible refine Below.drew ?_)
    · have e1 : Hid (s.tdiv 86400 = s / 86400) := by have := T1.out; show _ = _; omega
      have e2 : Hid (s.tmod 86400 = s % 86400) := by have := T1.out; show _ = _; omega
      go_enter Try.func26, Try.ntmps26
      go_upto_region 6 with (fail)
      rw [e1.out, e2.out]
      have d1 : -719528 ≤ s / 86400 := by omega
      have d2 : s / 86400 ≤ 2932896 := by omega
      go_wp2_with (go_at_call 20; refine (of_yes _ d1 d2 _).mono ?_; rintro e w' ⟨rfl, hb⟩; obtain ⟨hn, hz, hb'⟩ := newblk hb; obtain ⟨c0, c1, c2, c3, c4, c5, hfz⟩ := cells6 hn; have HN := Lib.hid hn; clear hn hb)
      refine bodyPost_ret (v := .tuple #[atV s, .int .i64 0]) ?_ rfl ⟨rfl, ?_⟩
      · obtain ⟨z0, z1, z2, z3, z4, z5, _⟩ := cells6 (six_written HN.out (.int .i64 (Cal.pY (s / 86400))) (.int .i64 (Cal.pM (s / 86400))) (.int .i64 (Cal.pD (s / 86400))) (.int .i64 (s % 86400 / 3600)) (.int .i64 (s % 86400 / 60 % 60)) (.int .i64 (s % 60)) (Obj.cells #[.int .i64 (Cal.pY (s / 86400)), .int .i64 (Cal.pM (s / 86400)), .int .i64 (Cal.pD (s / 86400))] 27)); simp only [atV, clockV]; simp [results, Try.results26, go_sem, z0, z1, z2, z3, z4, z5]
      · repeat (first | with_reducible exact hb' | with_reducible refine Below.alloc ?_ (by first | omega | (simp; omega)) _ | with_reducible refine Below.setCell ?_ (by simp) _ | with_reducible refine below_drewN ?_ _ | with_reducible refine Below.drew ?_)
set_option maxHeartbeats 400000 in
theorem at_no (s : Int) (h : s < -62167219200 ∨ 253402300799 < s) (w : World) :
    Calls Try.prog 26 #[.int .i64 s] w fun e w' => e = .returned (.tuple #[clockV 0 0 0 0 0 0, .int .i64 1]) ∧ Below w.heap.size w w' := by
  rcases h with h | h
  · go_enter Try.func26, Try.ntmps26
    go_wp2
    refine bodyPost_ret (by simp [results, Try.results26, go_sem]; exact (clockV_def _ _ _ _ _ _).symm) rfl ⟨rfl, ?_⟩
    repeat (first | exact Below.refl _ _ | refine Below.alloc ?_ (by simp) _ | refine Below.setCell ?_ (by simp) _ | refine below_drewN ?_ _)
  · have h' : ¬ s < -62167219200 := by omega
    go_enter Try.func26, Try.ntmps26
    go_wp2
    refine bodyPost_ret (by simp [results, Try.results26, go_sem]; exact (clockV_def _ _ _ _ _ _).symm) rfl ⟨rfl, ?_⟩
    repeat (first | exact Below.refl _ _ | refine Below.alloc ?_ (by simp) _ | refine Below.setCell ?_ (by simp) _ | refine below_drewN ?_ _)
end Go.Proofs.Ytaojfkfdfpiejaa
