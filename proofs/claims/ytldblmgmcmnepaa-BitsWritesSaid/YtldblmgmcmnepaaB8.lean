/- Lemmas and walks on the way to the seat's laws; each theorem says its own conditions. -/
import Derived.Test.YtldblmgmcmnepaaB7
set_option linter.unusedSimpArgs false
set_option linter.unusedVariables false
set_option linter.unusedSimpArgs false
set_option linter.unusedVariables false
set_option maxRecDepth 100000
namespace Go.Proofs.Ytldblmgmcmnepaa
open Go.RowKit Go.Mem Go.Reg Oct Bit
/-- A list of bits: 1 at the places l. -/
def charL (l : List Int) (k : Nat) : List Nat := (List.range k).map fun (i : Nat) => if (i : Int) ∈ l then 1 else 0
def lenV : Value → Nat
  | .slice _ n _ => n
  | _ => 0
end Go.Proofs.Ytldblmgmcmnepaa

