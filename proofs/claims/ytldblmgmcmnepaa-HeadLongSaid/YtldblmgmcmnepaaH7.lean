/- Lemmas and walks on the way to the seat's laws; each theorem says its own conditions. -/
import Derived.Test.YtldblmgmcmnepaaH6
set_option linter.unusedSimpArgs false
set_option linter.unusedVariables false
set_option linter.unusedSimpArgs false
set_option linter.unusedVariables false
set_option maxRecDepth 100000
namespace Go.Proofs.Ytldblmgmcmnepaa
open Go.RowKit Go.Mem Go.Reg Hd
def OwnOne (w : World) (bs : List UInt8) (e : Ending) (w' : World) : Prop :=
  (∃ v, e = .returned v ∧ w'.ownsRow w.heap.size 5 1 v bs.length (bs.map u8c)) ∧ Below w.heap.size w w'
theorem OwnOne.of {w w' : World} {L : List Ent} (H : Hp w L w') (i : Nat) {v : Value} {n : Nat} {bs : List UInt8} {xs : List Value} (hi : L[i]? = some (.row 5 1 v n xs)) (hn : n = bs.length) (hx : xs = bs.map u8c) {e : Ending} (he : e = .returned v) : OwnOne w bs e w' := by
  subst hn hx
  exact ⟨⟨v, he, ownsOf H i hi⟩, H.low⟩
theorem u8i {n : Int} (h0 : 0 ≤ n) (h1 : n ≤ 255) : Value.int .u8 n = u8c (byteI n) := (u8c_byte h0 h1).symm
end Go.Proofs.Ytldblmgmcmnepaa

