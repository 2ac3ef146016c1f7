/- Lemmas and walks on the way to the seat's laws; each theorem says its own conditions. -/
import Derived.Test.YtogliinfdfkobaaDoorT16
import Derived.Deep.DeepCutAuto
import Derived.Test.YtogliinfdfkobaaDoorRegV
set_option linter.unusedSimpArgs false
set_option linter.unusedVariables false
set_option linter.unusedSimpArgs false
set_option linter.unusedVariables false
set_option maxRecDepth 100000
namespace Go.Proofs.YtogliinfdfkobaaDoor
open Go.RowKit Go.Mem Go.Reg Oct Bit Go.Txt Go.Shelf Go.LawLift
end Go.Proofs.YtogliinfdfkobaaDoor

set_option linter.unusedSimpArgs false
set_option linter.unusedVariables false
set_option maxRecDepth 100000
namespace Go.Proofs.YtogliinfdfkobaaDoor
open Go.RowKit Go.Mem Go.Reg Oct Bit Go.Txt Go.Shelf Go.LawLift
/-- How far the pairs have come. -/
def Pair (l : List UInt8) (i : Nat) (pre : List Int) : Prop := sgP l = pre ++ sgP (l.drop i) ∧ pre.length ≤ i
theorem Pair.next {l : List UInt8} {i : Nat} {pre : List Int} (h : Pair l i pre) (hi : i + 1 < l.length) : Pair l (i + 2) (pre ++ [256 * (l[i].toNat : Int) + (l[i + 1].toNat : Int)]) := by
  have e : l.drop i = l[i] :: l[i + 1] :: l.drop (i + 2) := by rw [List.drop_eq_getElem_cons (by omega), List.drop_eq_getElem_cons (by omega)]
  refine ⟨?_, by rw [List.length_append, List.length_singleton]; have := h.2; omega⟩
  rw [h.1, e, sgP, List.append_assoc]
  rw [Int.mul_comm]
  rfl
end Go.Proofs.YtogliinfdfkobaaDoor

