/- Lemmas and walks on the way to the seat's laws; each theorem says its own conditions. -/
import Derived.Test.YtldblmgmcmnepaaO12
set_option linter.unusedSimpArgs false
set_option linter.unusedVariables false
set_option maxRecDepth 100000
namespace Go.Proofs.Ytldblmgmcmnepaa
open Go.RowKit Go.Mem Go.Reg Oct
/-- The first five thousand, as a slice's value. -/
theorem few_slice (A : Option Addr) (n c : Nat) (w : World) (h1 : n ≤ c) (h2 : c ≤ 9223372036854775807) :
    Calls Try.prog 79 #[.slice A n c] w fun e w' => e = .returned (.slice A (min n 5000) c) ∧ w = w' := by
  rcases Nat.lt_or_ge 5000 n with h | h
  · rw [show min n 5000 = 5000 by omega]
    go_enter Try.func79, Try.ntmps79
    go_wp2_with (fail)
    go_ret
    exact ⟨rfl, rfl⟩
  · rw [show min n 5000 = n by omega]
    go_enter Try.func79, Try.ntmps79
    go_wp2_with (fail)
    go_ret
    exact ⟨rfl, rfl⟩
/-- A slice, cut: what an argument leaves of itself. -/
theorem few_open {w : World} {v : Value} {l : List UInt8} (hb : Bs w v l) : ∃ A n c L, v = .slice A n c ∧ Bs w (.slice A L.length c) L ∧ L.length ≤ 5000 ∧ L = l.take 5000 ∧
    ∀ w', Calls Try.prog 79 #[.slice A n c] w' fun e w'' => e = .returned (.slice A L.length c) ∧ w' = w'' := by
  have hm := hb.len
  obtain ⟨A, c, rfl, h1, h2, h3, -⟩ := hb.open
  have hL : (l.take 5000).length = min l.length 5000 := by simp; omega
  refine ⟨A, l.length, c, l.take 5000, rfl, ?_, by omega, rfl, fun w' => ?_⟩
  · rw [hL]
    have := hb.front (k := min l.length 5000) (by omega)
    rwa [show l.take (min l.length 5000) = l.take 5000 by rw [Nat.min_comm, ← List.take_take, List.take_length]] at this
  · rw [hL]
    exact few_slice A l.length c w' h1 h2
theorem unhex_yes (s : ByteArray) (xs : List UInt8) (w : World) (hl : s.size ≤ 100000) (h : unh s.data.toList = some xs) :
    Calls Try.prog 114 #[.string s] w fun e w' => (∃ v, e = .returned (.tuple #[v, .int .i64 0]) ∧ w'.ownsRow w.heap.size 5 1 v xs.length (xs.map u8c)) ∧ Below w.heap.size w w' := by
  have := unhex_any s w hl
  unfold UnhPost at this
  rw [h] at this
  exact this
theorem unhex_no (s : ByteArray) (w : World) (hl : s.size ≤ 100000) (h : unh s.data.toList = none) :
    Calls Try.prog 114 #[.string s] w fun e w' => e = .returned (.tuple #[.slice none 0 0, .int .i64 6]) ∧ Below w.heap.size w w' := by
  have := unhex_any s w hl
  unfold UnhPost at this
  rw [h] at this
  exact this
end Go.Proofs.Ytldblmgmcmnepaa
