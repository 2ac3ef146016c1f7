/- Lemmas and walks on the way to the seat's laws; each theorem says its own conditions. -/
import Derived.Test.YtogliinfdfkobaaDoorT13
set_option linter.unusedSimpArgs false
set_option linter.unusedVariables false
set_option linter.unusedSimpArgs false
set_option linter.unusedVariables false
set_option maxRecDepth 100000
namespace Go.Proofs.YtogliinfdfkobaaDoor
open Go.RowKit Go.Mem Go.Reg Oct Bit Go.Txt Go.Shelf Go.LawLift
def frOk (k : Int) (l : List UInt8) : Bool := knownK k && rightT 12 l
def frK (k : Int) (l : List UInt8) : Int := if frOk k l then ofK k (sg 12 l) else 0
def frL (k : Int) (l : List UInt8) : List UInt8 := if frOk k l then ofL k (sg 12 l) else []
def frE (k : Int) (l : List UInt8) : Int := if frOk k l then erT k (sg 12 l) else if knownK k then 6 else 1
def leK (l : List UInt8) : Int := if rightT 19 l then 19 else if rightT 12 l then 12 else 20
/-- A text of this kind and these bytes. -/
def TxtP (k : Int) (l : List UInt8) (w : World) (e : Ending) (w' : World) : Prop := ∃ v, e = .returned (.agg #[.int .i64 k, v]) ∧ Bs w' v l ∧ Below w.heap.size w w'
end Go.Proofs.YtogliinfdfkobaaDoor

set_option linter.unusedSimpArgs false
set_option linter.unusedVariables false
set_option maxRecDepth 100000
namespace Go.Proofs.YtogliinfdfkobaaDoor
open Go.RowKit Go.Mem Go.Reg Oct Bit Go.Txt Go.Shelf Go.LawLift
end Go.Proofs.YtogliinfdfkobaaDoor

