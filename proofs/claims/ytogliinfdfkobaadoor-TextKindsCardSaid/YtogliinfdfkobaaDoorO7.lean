/- Lemmas and walks on the way to the seat's laws; each theorem says its own conditions. -/
import Derived.Test.YtogliinfdfkobaaDoorO1
import Derived.Test.YtogliinfdfkobaaDoorRegT
set_option linter.unusedSimpArgs false
set_option linter.unusedVariables false
set_option linter.unusedSimpArgs false
set_option linter.unusedVariables false
set_option maxRecDepth 100000
namespace Go.Proofs.YtogliinfdfkobaaDoor
open Go.RowKit Go.Mem Go.Reg Oct
end Go.Proofs.YtogliinfdfkobaaDoor

set_option linter.unusedSimpArgs false
set_option linter.unusedVariables false
set_option maxRecDepth 100000
namespace Go.Proofs.YtogliinfdfkobaaDoor
open Go.RowKit Go.Mem Go.Reg Oct
end Go.Proofs.YtogliinfdfkobaaDoor

set_option linter.unusedSimpArgs false
set_option linter.unusedVariables false
set_option maxRecDepth 100000
namespace Go.Proofs.YtogliinfdfkobaaDoor
open Go.RowKit Go.Mem Go.Reg Oct
end Go.Proofs.YtogliinfdfkobaaDoor

set_option linter.unusedSimpArgs false
set_option linter.unusedVariables false
set_option maxRecDepth 100000
namespace Go.Proofs.YtogliinfdfkobaaDoor
open Go.RowKit Go.Mem Go.Reg Oct
/-- What a parser of hex tells. -/
def UnhPost (w : World) (bad : Value) (l : List UInt8) (ok : Value) (e : Ending) (w' : World) : Prop :=
  (match unh l with
    | some xs => ∃ v, e = .returned (.tuple #[v, ok]) ∧ w'.ownsRow w.heap.size 5 1 v xs.length (xs.map u8c)
    | none => e = .returned (.tuple #[.slice none 0 0, bad])) ∧ Below w.heap.size w w'
theorem ownsOf {w0 w : World} {L : List Ent} (H : Hp w0 L w) (i : Nat) {e : TypeId} {size : Nat} {v : Value} {n : Nat} {xs : List Value} (hi : L[i]? = some (.row e size v n xs)) : w.ownsRow w0.heap.size e size v n xs := H.ok _ (List.mem_of_getElem? hi)
end Go.Proofs.YtogliinfdfkobaaDoor

set_option linter.unusedSimpArgs false
set_option linter.unusedVariables false
set_option maxRecDepth 100000
namespace Go.Proofs.YtogliinfdfkobaaDoor
open Go.RowKit Go.Mem Go.Reg Oct
end Go.Proofs.YtogliinfdfkobaaDoor

