/- From the listed variables to what Go's decoder of UTF-8 asks of memory. No condition beyond the program's own types. -/
import Derived.Lib.LaidU8
set_option linter.unusedSimpArgs false
set_option linter.unusedVariables false
namespace Go.LawLift
open Go.Lib
theorem tabs_of_reads {P : Program} {w : World} {g3 g4 t5 t119 t139 t138 : Nat} {fs : Array Field} (n3 : P.globalNamed "unicode/utf8.first" = some g3) (n4 : P.globalNamed "unicode/utf8.acceptRanges" = some g4) (y3 : (P.globals[g3]?).map (·.type) = some t119) (y4 : (P.globals[g4]?).map (·.type) = some t139)
    (u119 : P.underlying t119 = some (.array 256 t5)) (u5 : P.underlying t5 = some (.int .u8)) (u139 : P.underlying t139 = some (.array 16 t138)) (u138 : P.underlying t138 = some (.struct fs))
    (hf : ∀ (j : Nat) (f : Field), fs[j]? = some f → f.type = t5 ∧ f.offset = j) (hs : fs.size = 2)
    (c5 : P.cellsOf t5 = 1) (c119 : P.cellsOf t119 = 256) (c138 : P.cellsOf t138 = 2)
    (h3 : VarReads P w "unicode/utf8.first" firstData) (h4 : VarReads P w "unicode/utf8.acceptRanges" acceptData) : Lib.Utf8Tabs g3 g4 w := by
  refine ⟨fun c hc => ?_, fun i hi => ?_⟩
  · obtain ⟨g, t, cs, fuel, p, hg, hty, hvar, hd⟩ := h3
    obtain rfl := Option.some.inj (n3.symm.trans hg)
    obtain rfl := Option.some.inj (y3.symm.trans hty)
    have hcs := cells_of_tab u119 u5 c5 c119 hd
    have := World.var?_cell hg hvar c
    rw [this, ← Array.getElem?_toList, hcs]
    simp [firstTab, hc]
  · obtain ⟨g, t, cs, fuel, p, hg, hty, hvar, hd⟩ := h4
    obtain rfl := Option.some.inj (n4.symm.trans hg)
    obtain rfl := Option.some.inj (y4.symm.trans hty)
    obtain ⟨fuel', d, q, hdi, he⟩ := array_elem u139 hd i hi
    simp only [List.getElem?_map, List.getElem?_range hi, Option.map_some, Option.some.injEq] at hdi
    subst hdi
    rw [c138] at he
    have hcs := ints_of_struct u138 (fun j f hj => ⟨by rw [(hf j f hj).1]; exact u5, (hf j f hj).2, by rw [(hf j f hj).1]; exact c5⟩) (by rw [c138, hs]) he
    have e0 := congrArg (·[0]?) hcs
    have e1 := congrArg (·[1]?) hcs
    simp only [List.getElem?_take, List.getElem?_drop] at e0 e1
    constructor
    · rw [World.var?_cell hg hvar (2 * i), ← Array.getElem?_toList]
      simpa [Nat.mul_comm] using e0
    · rw [World.var?_cell hg hvar (2 * i + 1), ← Array.getElem?_toList]
      simpa [Nat.mul_comm] using e1
end Go.LawLift

