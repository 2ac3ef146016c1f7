/- A law's argument that is a slice of strings. No condition on a program. -/
import Derived.Test.YtmmjghdobdendaaDoorLiftB
set_option linter.unusedSimpArgs false
set_option linter.unusedVariables false
namespace Go.LawLift
open Go.RowKit Go.Mem
variable {P : Program} {w : World} {H : Type} {enc : TypeId × Value → H} {base : Nat} {spare : Nat → Bool} {held : Bool}
theorem rd_strs {t e : TypeId} {fuel : Nat} {v : Value} {x : DataW H × List MemPlace} (ht : P.underlying t = some (.slice e)) (he : P.underlying e = some .string) (hc : P.cellsOf e = 1) (h : DataW.trod enc P w base spare held fuel t [v] = some x) :
    ∃ zs : List ByteArray, Sl w v (zs.map Value.string) ∧ ∀ z ∈ zs, z.size ≤ maxLen := by
  obtain ⟨xs, hs, hx⟩ := rd_sl ht hc h
  obtain ⟨zs, hz⟩ := all_of (R := fun u (z : ByteArray) => u = .string z ∧ z.size ≤ maxLen) xs fun u hu => by
    obtain ⟨n, y, hy⟩ := hx u hu
    exact rd_string he hy
  refine ⟨zs, ?_, ?_⟩
  · have : xs = zs.map Value.string := by
      clear hs hx
      induction hz with
      | nil => rfl
      | cons h _ ih => rw [List.map_cons, ← ih, h.1]
    rwa [← this]
  · clear hs hx
    induction hz with
    | nil => simp
    | cons h _ ih =>
      intro z hz'
      rcases List.mem_cons.1 hz' with rfl | hz'
      · exact h.2
      · exact ih z hz'
theorem arg_strs {t e : TypeId} {v : Value} {d : DataW H} {p : List MemPlace} {r : Reach} {b0 : Nat} (ht : P.underlying t = some (.slice e)) (he : P.underlying e = some .string) (hc : P.cellsOf e = 1) (hv : Value.okWide P w r b0 t v) (h : DataW.Trod enc P w base spare held t v d p) :
    ∃ zs : List ByteArray, Sl w v (zs.map Value.string) ∧ ∀ z ∈ zs, z.size ≤ maxLen := by
  obtain ⟨fuel, hf⟩ := h
  rw [slice_cells ht hv] at hf
  exact rd_strs ht he hc hf
#print axioms arg_strs
end Go.LawLift

