/- Lemmas and walks on the way to the seat's laws; each theorem says its own conditions. -/
import Derived.Test.YtldblmgmcmnepaaO12
import Derived.Test.YtldblmgmcmnepaaLiftB
set_option linter.unusedSimpArgs false
set_option linter.unusedVariables false
set_option linter.unusedSimpArgs false
set_option linter.unusedVariables false
set_option maxRecDepth 100000
namespace Go.Proofs.Ytldblmgmcmnepaa
open Go.RowKit Go.Mem Go.Reg Oct
/-- What taking a part as a cursor tells and leaves: a new cursor over the bytes, that holds a row of its own; the old one has moved. -/
def SubPost (w : World) (b : Nat) (v : Value) (l : List UInt8) (k n : Nat) (e : Ending) (w' : World) : Prop :=
  ∃ q v', e = .returned (.tuple #[.pointer (some ⟨q, 0, none⟩), .int .i64 0]) ∧ w'.heap[q]? = some (.cells #[v', .int .i64 0] 140 (0, 0)) ∧ w.heap.size ≤ q ∧
    w'.ownsRow w.heap.size 5 1 v' n (((l.drop k).take n).map u8c) ∧ v'.ownBlock ≠ some q ∧ Moved w b v (k + n) w'
end Go.Proofs.Ytldblmgmcmnepaa

set_option linter.unusedSimpArgs false
set_option linter.unusedVariables false
set_option maxRecDepth 100000
namespace Go.Proofs.Ytldblmgmcmnepaa
open Go.RowKit Go.Mem Go.Reg Oct
end Go.Proofs.Ytldblmgmcmnepaa

