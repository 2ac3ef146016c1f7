/- Lemmas and walks on the way to the seat's laws; each theorem says its own conditions. -/
import Derived.Test.YtldblmgmcmnepaaH8
import Derived.Test.YtldblmgmcmnepaaO23c
import Derived.WalkMore
set_option linter.unusedSimpArgs false
set_option linter.unusedVariables false
set_option linter.unusedSimpArgs false
set_option linter.unusedVariables false
set_option maxRecDepth 100000
namespace Go.Proofs.Ytldblmgmcmnepaa
open Go.RowKit Go.Mem Go.Reg Hd Oct
/-- A cursor's bytes, in the frame that lists all beside it. -/
theorem Cur.curB {w : World} {b k : Nat} {l : List UInt8} {v : Value} (h : Cur w b l k v) : CurB (cutAt w b) (above w b) b v l := fun _ _ H => bs_only h.bs (Hp.only h.blk H).1 fun _ _ _ hc => h.apart hc
theorem Cur.over {w w' : World} {b k k' : Nat} {l : List UInt8} {v : Value} (h : Cur w b l k v) (H : Hp (cutAt w b) (.blk b #[v, .int .i64 (k' : Int)] 140 :: above w b) w') : Moved w b v k' w' := ⟨(Hp.only h.blk H).1, (Hp.only h.blk H).2⟩
def NumPost (w : World) (b : Nat) (v : Value) (l : List UInt8) (k : Nat) (R : Nat × Nat × Nat) (e : Ending) (w' : World) : Prop :=
  e = .returned (.tuple #[.int .i64 (R.1 : Int), .int .i64 (R.2.1 : Int)]) ∧ ∃ p, k ≤ p ∧ p ≤ l.length ∧ (R.2.1 = 0 → p = R.2.2) ∧ Moved w b v p w'
end Go.Proofs.Ytldblmgmcmnepaa

