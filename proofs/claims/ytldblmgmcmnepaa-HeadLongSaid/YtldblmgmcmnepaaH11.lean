/- Lemmas and walks on the way to the seat's laws; each theorem says its own conditions. -/
import Derived.Test.YtldblmgmcmnepaaH9
set_option linter.unusedSimpArgs false
set_option linter.unusedVariables false
set_option linter.unusedSimpArgs false
set_option linter.unusedVariables false
set_option maxRecDepth 100000
namespace Go.Proofs.Ytldblmgmcmnepaa
open Go.RowKit Go.Mem Go.Reg Hd Oct
/-- What a reader tells before it is kept: an error, and with none the value and the place. -/
def TagRaw (w0 : World) (M : List Ent) (b : Nat) (v : Value) (l : List UInt8) (k : Nat) (R : Tg × Nat × Nat) (e : Ending) (w' : World) : Prop :=
  ∃ (c n : Int) (m : Bool) (p : Nat), e = .returned (.tuple #[.agg #[.int .i64 c, .int .i64 n, .bool m], .int .i64 (R.2.1 : Int)]) ∧ k ≤ p ∧ p ≤ l.length ∧ (R.2.1 = 0 → Tg.mk c n m = R.1 ∧ p = R.2.2) ∧
    Hp w0 (.blk b #[v, .int .i64 (p : Int)] 140 :: M) w'
end Go.Proofs.Ytldblmgmcmnepaa

set_option linter.unusedSimpArgs false
set_option linter.unusedVariables false
set_option maxRecDepth 100000
namespace Go.Proofs.Ytldblmgmcmnepaa
open Go.RowKit Go.Mem Go.Reg Hd Oct
/-- What a reader tells. -/
def TagRes (w0 : World) (M : List Ent) (b : Nat) (v : Value) (R : Tg × Nat × Nat) (e : Ending) (w' : World) : Prop :=
  e = .returned (.tuple #[.agg #[.int .i64 R.1.c, .int .i64 R.1.n, .bool R.1.m], .int .i64 (R.2.1 : Int)]) ∧ Hp w0 (.blk b #[v, .int .i64 (R.2.2 : Int)] 140 :: M) w'
end Go.Proofs.Ytldblmgmcmnepaa

