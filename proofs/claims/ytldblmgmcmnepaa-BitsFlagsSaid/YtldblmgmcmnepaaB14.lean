/- Lemmas and walks on the way to the seat's laws; each theorem says its own conditions. -/
import Derived.Test.YtldblmgmcmnepaaB13
set_option linter.unusedSimpArgs false
set_option linter.unusedVariables false
set_option linter.unusedSimpArgs false
set_option linter.unusedVariables false
set_option maxRecDepth 100000
namespace Go.Proofs.Ytldblmgmcmnepaa
open Go.RowKit Go.Mem Go.Reg Oct Bit Go.LawLift
theorem rsame5_same (u : Int) (l : List UInt8) (v x : Value) (w : World) (hb : Bs w v l) (hd : Bs w x l) :
    Calls Try.prog 22 #[.agg #[.int .i64 u, v], .agg #[.int .i64 u, x]] w fun e w' => e = .returned (.bool true) ∧ Below w.heap.size w w' := by
  have := rsame5_any u u l l v x w hb hd
  rwa [decide_eq_true rfl, decide_eq_true rfl] at this
end Go.Proofs.Ytldblmgmcmnepaa

