/- Lemmas and walks on the way to the seat's laws; each theorem says its own conditions. -/
import Derived.Test.YtogliinfdfkobaaH14
set_option linter.unusedSimpArgs false
set_option linter.unusedVariables false
set_option linter.unusedSimpArgs false
set_option linter.unusedVariables false
set_option maxRecDepth 100000
namespace Go.Proofs.Ytogliinfdfkobaa
open Go.RowKit Go.Mem Go.Reg Hd Go.LawLift
end Go.Proofs.Ytogliinfdfkobaa

set_option linter.unusedSimpArgs false
set_option linter.unusedVariables false
set_option maxRecDepth 100000
namespace Go.Proofs.Ytogliinfdfkobaa
open Go.RowKit Go.Mem Go.Reg Hd Go.LawLift Oct
/-- The bytes of a tag, or an error. -/
def tagR (t : Tg) : List UInt8 × Nat := if okTag t then (tagL t, 0) else ([], 1)
def lenR (n : Int) : List UInt8 × Nat := if n < 0 then ([], 1) else if 16777216 < n then ([], 2) else (lenL n, 0)
theorem hex_of {l : List UInt8} {h : List UInt8} (e : hexL l = h) (v : Value) (w : World) (hb : Bs w v l) (hl : l.length ≤ 100000) :
    Calls Try.prog 32 #[v] w fun e w' => e = .returned (.string ⟨h.toArray⟩) ∧ Below w.heap.size w w' := by
  subst e
  exact hex_any l v w hb hl
end Go.Proofs.Ytogliinfdfkobaa

