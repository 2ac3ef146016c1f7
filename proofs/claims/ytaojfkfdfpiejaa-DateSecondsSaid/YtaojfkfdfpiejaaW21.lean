/- Lemmas and walks on the way to the seat's laws; each theorem says its own conditions. -/
import Derived.Test.YtaojfkfdfpiejaaW20
namespace Cal
/-- The next date. -/
theorem succ_date (n : Int) (h1 : -719528 ≤ n) (h2 : n + 1 ≤ 2932896) :
    (pD (n + 1) = pD n + 1 ∧ pM (n + 1) = pM n ∧ pY (n + 1) = pY n) ∨ (pD (n + 1) = 1 ∧ pD n = dim (pY n) (pM n) ∧ pM (n + 1) = pM n + 1 ∧ pY (n + 1) = pY n) ∨ (pD (n + 1) = 1 ∧ pD n = dim (pY n) (pM n) ∧ pM (n + 1) = 1 ∧ pM n = 12 ∧ pY (n + 1) = pY n + 1) := by
  obtain ⟨r1, e1⟩ := pdate_ok n h1 (by omega)
  obtain ⟨r2, e2⟩ := pdate_ok (n + 1) (by omega) h2
  generalize pY n = y at *
  generalize pM n = m at *
  generalize pD n = d at *
  obtain ⟨m1, m2⟩ := month_of_right r1
  obtain ⟨y1, y2, d1, d2⟩ := (right_iff _ _ _).1 r1
  by_cases hd : d + 1 ≤ dim y m
  · obtain ⟨a, b, c⟩ := num_inj r2 ((right_iff y m (d + 1)).2 ⟨y1, y2, by omega, hd⟩) (by rw [e2, ← e1]; unfold num; omega)
    exact .inl ⟨c, b, a⟩
  · have hde : d = dim y m := by omega
    by_cases hm : m < 12
    · have hs := cum_succ y m m1 (by omega)
      have hx := dim_cases y (m + 1)
      obtain ⟨a, b, c⟩ := num_inj r2 ((right_iff y (m + 1) 1).2 ⟨y1, y2, by omega, by omega⟩) (by rw [e2, ← e1]; unfold num; omega)
      exact .inr (.inl ⟨c, hde, b, a⟩)
    · obtain rfl : m = 12 := by omega
      have hs := cum12 y
      have hy := dby_succ y
      have hx := dim_cases (y + 1) 1
      have hc : cum (y + 1) 1 = 0 := by simp [cum]
      have hy9 : y + 1 ≤ 9999 := by
        by_cases e : y = 9999
        · subst e
          have : dby (9999 + 1) = 3652425 := by decide
          unfold num at e1
          omega
        · omega
      obtain ⟨a, b, c⟩ := num_inj r2 ((right_iff (y + 1) 1 1).2 ⟨by omega, hy9, by omega, by omega⟩) (by rw [e2, ← e1]; unfold num; omega)
      exact .inr (.inr ⟨c, hde, b, rfl, a⟩)
theorem cmp_self (a : Int) : cmp a a = 0 := by unfold cmp; simp
theorem cmp_succ (a : Int) : cmp a (a + 1) = -1 := by unfold cmp; rw [if_pos (by omega)]
end Cal
namespace Go.Proofs.Ytaojfkfdfpiejaa
open Go.RowKit
theorem six_step {B : Nat} {w w' w1 : World} {p q : Nat} {a0 a1 a2 b0 b1 b2 : Value}
    (h : w'.cell? ⟨p, 0, none⟩ = some a0 ∧ w'.cell? ⟨p, 1, none⟩ = some a1 ∧ w'.cell? ⟨p, 2, none⟩ = some a2 ∧ w'.cell? ⟨q, 0, none⟩ = some b0 ∧ w'.cell? ⟨q, 1, none⟩ = some b1 ∧ w'.cell? ⟨q, 2, none⟩ = some b2 ∧ p < w'.heap.size ∧ q < w'.heap.size ∧ B ≤ w'.heap.size ∧ Below B w w') (hb : Below w'.heap.size w' w1) :
    w1.cell? ⟨p, 0, none⟩ = some a0 ∧ w1.cell? ⟨p, 1, none⟩ = some a1 ∧ w1.cell? ⟨p, 2, none⟩ = some a2 ∧ w1.cell? ⟨q, 0, none⟩ = some b0 ∧ w1.cell? ⟨q, 1, none⟩ = some b1 ∧ w1.cell? ⟨q, 2, none⟩ = some b2 ∧ p < w1.heap.size ∧ q < w1.heap.size ∧ B ≤ w1.heap.size ∧ Below B w w1 := by
  obtain ⟨h0, h1, h2, h3, h4, h5, hp, hq, hB, hw⟩ := h
  exact ⟨(hb.cell (p := ⟨p, 0, none⟩) hp).trans h0, (hb.cell (p := ⟨p, 1, none⟩) hp).trans h1, (hb.cell (p := ⟨p, 2, none⟩) hp).trans h2, (hb.cell (p := ⟨q, 0, none⟩) hq).trans h3, (hb.cell (p := ⟨q, 1, none⟩) hq).trans h4, (hb.cell (p := ⟨q, 2, none⟩) hq).trans h5, Nat.lt_of_lt_of_le hp hb.size, Nat.lt_of_lt_of_le hq hb.size, Nat.le_trans hB hb.size, hw.trans (hb.mono hB)⟩
theorem six_start {B : Nat} {w w' : World} {p q : Nat} {a0 a1 a2 b0 b1 b2 : Value} {T U : TypeId}
    (hp : w'.heap[p]? = some (.cells #[a0, a1, a2] T (0, 0))) (hq : w'.heap[q]? = some (.cells #[b0, b1, b2] U (0, 0))) (hB : B ≤ w'.heap.size) (hw : Below B w w') :
    w'.cell? ⟨p, 0, none⟩ = some a0 ∧ w'.cell? ⟨p, 1, none⟩ = some a1 ∧ w'.cell? ⟨p, 2, none⟩ = some a2 ∧ w'.cell? ⟨q, 0, none⟩ = some b0 ∧ w'.cell? ⟨q, 1, none⟩ = some b1 ∧ w'.cell? ⟨q, 2, none⟩ = some b2 ∧ p < w'.heap.size ∧ q < w'.heap.size ∧ B ≤ w'.heap.size ∧ Below B w w' := by
  obtain ⟨h0, h1, h2, _⟩ := cells3 hp
  obtain ⟨h3, h4, h5, _⟩ := cells3 hq
  exact ⟨h0, h1, h2, h3, h4, h5, (Array.getElem?_eq_some_iff.1 hp).1, (Array.getElem?_eq_some_iff.1 hq).1, hB, hw⟩
theorem drew_size (w : World) : w.drew.heap.size = w.heap.size := rfl
set_option maxRecDepth 100000 in
set_option maxHeartbeats 4000000 in
theorem dateOfs_no (n : Int) (h : n < -719528 ∨ 2932896 < n) (w : World) :
    Calls Try.prog 6 #[.int .i64 n] w fun e w' => e = .returned (.bool true) ∧ Below w.heap.size w w' := by
  go_enter Try.func6, Try.ntmps6
  go_wp2_with (go_at_call 20; refine (of_no _ h _).mono ?_; rintro e w1 ⟨rfl, hb1⟩)
  refine (rof_no _ h _).mono ?_
  rintro e w2 ⟨rfl, hb2⟩
  obtain ⟨hp, hz2, hbw2⟩ := newblk hb2
  have HS := Lib.hid (six_start (w := w) (B := w.heap.size) (w' := (w2.alloc (.cells #[.int .i64 0, .int .i64 0, .int .i64 0] 23)).drew) (p := w1.heap.size) (q := w2.heap.size) ((heap_alloc_old _ _ hz2).trans hp) (heap_alloc_new w2 _) (by have := hb1.size; rw [drew_size]; simp; omega) ((hb1.trans (hbw2.mono hb1.size)).alloc (by have := hb1.size; omega) _).drew)
  obtain ⟨c0, c1, c2, _⟩ := cells3 hp
  clear hp hb2
  go_wp2_with (fail)
  go_region_held3 (fun w' => w'.cell? ⟨w1.heap.size, 0, none⟩ = some (.int .i64 0) ∧ w'.cell? ⟨w1.heap.size, 1, none⟩ = some (.int .i64 0) ∧ w'.cell? ⟨w1.heap.size, 2, none⟩ = some (.int .i64 0) ∧ w'.cell? ⟨w2.heap.size, 0, none⟩ = some (.int .i64 0) ∧ w'.cell? ⟨w2.heap.size, 1, none⟩ = some (.int .i64 0) ∧ w'.cell? ⟨w2.heap.size, 2, none⟩ = some (.int .i64 0) ∧ w1.heap.size < w'.heap.size ∧ w2.heap.size < w'.heap.size ∧ w.heap.size ≤ w'.heap.size ∧ Below w.heap.size w w') (first | exact HS.out | exact six_step ‹_› hb | assumption) (first | (go_at_call 11; refine (known_any _).mono ?_; rintro e w' ⟨rfl, hb⟩) | (go_at_call 32; refine (ofd_any _ _ _ _).mono ?_; rintro e w' ⟨rfl, hb⟩))
  rename_i hh
  go_wp2_with (fail)
  go_ret
  exact ⟨rfl, hh.2.2.2.2.2.2.2.2.2⟩
end Go.Proofs.Ytaojfkfdfpiejaa
