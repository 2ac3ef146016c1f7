/- Lemmas and walks on the way to the seat's laws; each theorem says its own conditions. -/
import Derived.Test.YtldblmgmcmnepaaO26b
import Derived.Test.YtldblmgmcmnepaaFrame
import Derived.Test.YtldblmgmcmnepaaO13
set_option linter.unusedSimpArgs false
set_option linter.unusedVariables false
set_option maxRecDepth 100000
namespace Go.Proofs.Ytldblmgmcmnepaa
open Go.RowKit Go.Mem Go.Reg Oct
theorem do_rel (b : Nat) (l : List UInt8) (k : Nat) (v : Value) (r : Nat) (hr : r < 8) (n : Int) (w : World) (h : Cur w b l k v) :
    Calls Try.prog 80 #[.pointer (some ⟨b, 0, none⟩), .agg #[.int .i64 (r : Int), .int .i64 n]] w fun e w' =>
      ∃ v', e = .returned (.agg #[.int .i64 (actR l k r n).1, v', .int .i64 (actR l k r n).2.2.1]) ∧ w'.ownsRow w.heap.size 5 1 v' (actR l k r n).2.1.length ((actR l k r n).2.1.map u8c) ∧ Moved w b v (actR l k r n).2.2.2 w' := by
  refine (do_any (cutAt w b) (above w b) b l k v h.le h.len (fun w1 k1 H => bs_only h.bs (Hp.only h.blk H).1 fun _ _ _ hc => h.apart hc) r hr n w (Hp.whole h.blk)).mono ?_
  rintro e w' ⟨v', he, H⟩
  exact ⟨v', he, Hp.rowAbove h.blk H, (Hp.only h.blk H.tail).1, (Hp.only h.blk H.tail).2⟩
/-- The document's cursor. -/
structure RCur (w : World) (d : Nat) (l : List UInt8) (k : Nat) (v : Value) : Prop where
  blk : w.heap[d]? = some (.cells #[v, .int .i64 (k : Int)] 120 (0, 0))
  bs : Bs w v l
  le : k ≤ l.length
  len : l.length ≤ 1000000
theorem RCur.apart {w : World} {b : Nat} {l : List UInt8} {k : Nat} {v : Value} (h : RCur w b l k v) {g o : Nat} {u : UInt8} (hc : w.cell? ⟨g, o, none⟩ = some (u8c u)) : g ≠ b := by
  intro e
  subst e
  obtain ⟨A, c, rfl, -⟩ := h.bs.open
  rw [cell_of_row w g o _ _ _ h.blk] at hc
  match o, hc with
  | 0, hc => simp [u8c] at hc
  | 1, hc => simp [u8c] at hc
  | n + 2, hc => simp at hc
theorem rdo_rel (d : Nat) (l : List UInt8) (k : Nat) (v : Value) (r : Nat) (hr : r < 8) (n : Int) (w : World) (h : RCur w d l k v) :
    Calls Try.prog 81 #[.pointer (some ⟨d, 0, none⟩), .agg #[.int .i64 (r : Int), .int .i64 n]] w fun e w' =>
      ∃ v', e = .returned (.agg #[.int .i64 (actR l k r n).1, v', .int .i64 (actR l k r n).2.2.1]) ∧ (∀ w, Bs w v l → Bs w v' (actR l k r n).2.1) ∧ Only (some d) w w' ∧ w'.heap[d]? = some (.cells #[v, .int .i64 ((actR l k r n).2.2.2 : Int)] 120 (0, 0)) := by
  refine (rdo_any (cutAt w d) (above w d) d l k v h.le h.len (fun w1 k1 H => bs_only h.bs (Hp.only h.blk H).1 fun _ _ _ hc => h.apart hc) r hr n w (Hp.whole h.blk)).mono ?_
  rintro e w' ⟨v', he, H, hv⟩
  exact ⟨v', he, hv, (Hp.only h.blk H).1, (Hp.only h.blk H).2⟩
theorem actR_le (l : List UInt8) (k r : Nat) (n : Int) (hk : k ≤ l.length) (hr : r < 8) : (actR l k r n).2.2.2 ≤ l.length ∧ (actR l k r n).2.1.length ≤ l.length := by
  match r, hr with
  | 0, _ => simp [actR, hk]
  | 1, _ => simp [actR, hk]
  | 2, _ => simp only [actR]; split <;> simp [hk]
  | 3, _ => simp only [actR]; split <;> simp <;> omega
  | 4, _ =>
    simp only [actR]
    by_cases h0 : n < 0
    · simp [h0, hk]
    · by_cases h1 : (l.length : Int) - k < n
      · simp [h0, h1, hk]
      · simp [h0, h1]
        omega
  | 5, _ =>
    simp only [actR]
    by_cases h0 : n < 0
    · simp [h0, hk]
    · by_cases h1 : (l.length : Int) - k < n
      · simp [h0, h1, hk]
      · simp [h0, h1]
        omega
  | 6, _ => simp [actR]
  | 7, _ => simp only [actR]; split <;> simp <;> omega
end Go.Proofs.Ytldblmgmcmnepaa
