/- Lemmas and walks on the way to the seat's laws; each theorem says its own conditions. -/
import Derived.Test.YtldblmgmcmnepaaO7
set_option linter.unusedSimpArgs false
set_option linter.unusedVariables false
set_option linter.unusedSimpArgs false
set_option linter.unusedVariables false
set_option maxRecDepth 100000
namespace Go.Proofs.Ytldblmgmcmnepaa
open Go.RowKit Go.Mem Go.Reg Oct
/-- What holds at the head of the reference's loop. -/
def RunAt (l : List UInt8) (i : Nat) (n : Int) (xs : List UInt8) : Prop :=
  xs.length = i / 2 ∧ unh (l.take (2 * (i / 2))) = some xs ∧ 0 ≤ n ∧ n ≤ 255 ∧ (i % 2 = 1 → ∃ h : i - 1 < l.length, okB l[i - 1] = true ∧ n % 16 = valI (l[i - 1].toNat : Int))
def RunRel (s : ByteArray) (w : World) (out nx ix : Value) (wr : World) : Prop :=
  ∃ (i : Nat) (n : Int) (xs : List UInt8), i ≤ s.size ∧ ix = .int .i64 i ∧ nx = .int .i64 n ∧ Hid (RunAt s.data.toList i n xs) ∧ Hp w [.row 5 1 out xs.length (xs.map u8c)] wr
end Go.Proofs.Ytldblmgmcmnepaa

