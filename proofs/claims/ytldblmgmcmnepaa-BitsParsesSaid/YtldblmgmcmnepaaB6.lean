/- Lemmas and walks on the way to the seat's laws; each theorem says its own conditions. -/
import Derived.Test.YtldblmgmcmnepaaB36
import Derived.Test.YtldblmgmcmnepaaOPlain
set_option linter.unusedSimpArgs false
set_option linter.unusedVariables false
set_option linter.unusedSimpArgs false
set_option linter.unusedVariables false
set_option maxRecDepth 100000
namespace Go.Proofs.Ytldblmgmcmnepaa
open Go.RowKit Go.Mem Go.Reg Oct Bit
/-- Whole numbers compared: 0 just where they are the same. -/
def SameR (l m : List Int) (w : World) (e : Ending) (w' : World) : Prop := (∃ r : Int, e = .returned (.int .i64 r) ∧ (r = 0 ↔ l = m)) ∧ Below w.heap.size w w'
theorem SameR.no {l m : List Int} {w w' : World} {r : Int} (h0 : r ≠ 0) (h : l ≠ m) (hb : Below w.heap.size w w') : SameR l m w (.returned (.int .i64 r)) w' := ⟨⟨r, rfl, ⟨fun e => absurd e h0, fun e => absurd e h⟩⟩, hb⟩
end Go.Proofs.Ytldblmgmcmnepaa

