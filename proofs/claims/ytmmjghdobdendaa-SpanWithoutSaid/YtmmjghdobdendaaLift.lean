/- A law's arguments opened: what a reading of the arguments says of their values. No condition. -/
import Derived.Test.YtmmjghdobdendaaDLift
import Derived.Deep.Fields
import Derived.DataShut
set_option linter.unusedSimpArgs false
set_option linter.unusedVariables false
namespace Go.LawLift
open Go.RowKit Go.ChangeShapes Go.WideShapes Go.Deep
section
variable {H : Type} {enc : TypeId × Value → H} {P : Program} {w : World} {base : Nat} {spare : Nat → Bool} {held : Bool} {t : TypeId}
theorem rd_int {k : IntKind} {fuel : Nat} {v : Value} {x : DataW H × List MemPlace} (ht : P.underlying t = some (.int k)) (h : DataW.trod enc P w base spare held fuel t [v] = some x) : ∃ n, v = .int k n ∧ k.min ≤ n ∧ n ≤ k.max := by
  obtain ⟨n, hc, _, hw⟩ := DataW.trod_int ht h
  injection hc with hc
  exact ⟨n, hc, (Lit.wf_int_iff k n).1 hw⟩
theorem rd_struct {fs : Array Field} {fuel : Nat} {cs : List Value} {x : DataW H × List MemPlace} (hs : P.underlying t = some (.struct fs)) (hone : oneCellFields P fs = true) (hC : P.cellsOf t = fs.size) (h : DataW.trod enc P w base spare held fuel t cs = some x) :
    cs.length = fs.size ∧ ∀ (j : Nat) (f : Field), fs[j]? = some f → ∃ (v : Value) (n : Nat) (y : DataW H × List MemPlace), cs[j]? = some v ∧ DataW.trod enc P w base spare held n f.type [v] = some y := by
  obtain ⟨xs, n, _, _, hl, hxl, hg⟩ := DataW.trod_struct hs h
  refine ⟨hl.trans hC, fun j f hj => ?_⟩
  obtain ⟨ho, hk⟩ := hone_of hone j f hj
  have hjf : j < fs.size := (Array.getElem?_eq_some_iff.1 hj).1
  have hjc : j < cs.length := by omega
  have h1 := hg j f hj
  have hjx : j < xs.length := by omega
  rw [ho, hk, List.drop_eq_getElem_cons hjc, List.getElem?_eq_getElem hjx, List.take_succ_cons, List.take_zero] at h1
  exact ⟨cs[j], n, xs[j], List.getElem?_eq_getElem hjc, h1⟩
variable {r : Reach} {b0 : Nat} {v : Value} {d : DataW H} {p : List MemPlace}
theorem arg_int {k : IntKind} (ht : P.underlying t = some (.int k)) (hv : Value.okWide P w r b0 t v) (h : DataW.Trod enc P w base spare held t v d p) : ∃ n, v = .int k n ∧ k.min ≤ n ∧ n ≤ k.max := by
  obtain ⟨n, rfl⟩ := okWide_int ht hv
  obtain ⟨fuel, hf⟩ := h
  obtain ⟨m, e, hm⟩ := rd_int (v := .int k n) ht hf
  injection e with _ e
  subst e
  exact ⟨n, rfl, hm⟩
theorem arg_struct {fs : Array Field} (hs : P.underlying t = some (.struct fs)) (hone : oneCellFields P fs = true) (hC : P.cellsOf t = fs.size) (hv : Value.okWide P w r b0 t v) (h : DataW.Trod enc P w base spare held t v d p) :
    ∃ cs : List Value, v = .agg cs.toArray ∧ cs.length = fs.size ∧ ∀ (j : Nat) (f : Field), fs[j]? = some f → ∃ (u : Value) (n : Nat) (y : DataW H × List MemPlace), cs[j]? = some u ∧ DataW.trod enc P w base spare held n f.type [u] = some y := by
  obtain ⟨cs, rfl, hsz⟩ := okWide_struct hs hv
  obtain ⟨l⟩ := cs
  obtain ⟨fuel, hf⟩ := h
  have hf' : DataW.trod enc P w base spare held fuel t (Value.agg ⟨l⟩).cells.toList = some (d, p) := hf
  simp only [Value.cells] at hf'
  obtain ⟨h1, h2⟩ := rd_struct hs hone hC hf'
  exact ⟨l, rfl, h1, h2⟩
end
theorem i64_of {n : Int} (h : IntKind.i64.min ≤ n ∧ n ≤ IntKind.i64.max) : -9223372036854775808 ≤ n ∧ n ≤ 9223372036854775807 := by
  have h1 : IntKind.i64.min = -9223372036854775808 := by decide
  have h2 : IntKind.i64.max = 9223372036854775807 := by decide
  omega
theorem list_2 : ∀ (l : List Value), l.length = 2 → ∃ a0 a1, l = [a0, a1]
  | [a0, a1], _ => ⟨a0, a1, rfl⟩
end Go.LawLift

