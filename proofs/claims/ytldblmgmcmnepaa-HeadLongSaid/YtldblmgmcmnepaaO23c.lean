/- Lemmas and walks on the way to the seat's laws; each theorem says its own conditions. -/
import Derived.Test.YtldblmgmcmnepaaO23
import Derived.Test.YtldblmgmcmnepaaFrame
set_option linter.unusedSimpArgs false
set_option linter.unusedVariables false
set_option linter.unusedSimpArgs false
set_option linter.unusedVariables false
set_option maxRecDepth 100000
namespace Go.Proofs.Ytldblmgmcmnepaa
open Go.RowKit Go.Mem Go.Reg Oct
/-- The bytes of a cursor that stands first among what the walk knows are its own, wherever it stands. -/
def CurB (w0 : World) (M : List Ent) (b : Nat) (v : Value) (l : List UInt8) : Prop := ∀ (w : World) (k : Nat), Hp w0 (.blk b #[v, .int .i64 (k : Int)] 140 :: M) w → Bs w v l
theorem curF {w0 w : World} {M : List Ent} {b k : Nat} {v : Value} {l : List UInt8} (H : Hp w0 (.blk b #[v, .int .i64 (k : Int)] 140 :: M) w) (hB : CurB w0 M b v l) (hk : k ≤ l.length) (hl : l.length ≤ 1000000) : Cur w b l k v :=
  ⟨H.get 0 rfl, hB w k H, hk, hl⟩
end Go.Proofs.Ytldblmgmcmnepaa

