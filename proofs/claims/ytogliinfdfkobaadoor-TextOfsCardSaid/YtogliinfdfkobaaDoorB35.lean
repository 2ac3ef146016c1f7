/- Lemmas and walks on the way to the seat's laws; each theorem says its own conditions. -/
import Derived.Test.YtogliinfdfkobaaDoorB3
import Derived.Test.YtogliinfdfkobaaDoorLiftB
set_option linter.unusedSimpArgs false
set_option linter.unusedVariables false
set_option linter.unusedSimpArgs false
set_option linter.unusedVariables false
set_option maxRecDepth 100000
namespace Go.Proofs.YtogliinfdfkobaaDoor
open Go.RowKit Go.Mem Go.Reg Oct Bit
theorem info_i64 : (Tryd.prog.info? 3).map (fun i => (i.zero, i.size, i.bytes)) = some (some (.int .i64 0), 1, 8) := by kernel_rfl
/-- A result that is a row of numbers of the call's own. -/
def OneI (w : World) (xs : List Nat) (e : Ending) (w' : World) : Prop :=
  (∃ v, e = .returned v ∧ w'.ownsRow w.heap.size 3 1 v xs.length (ivs xs)) ∧ Below w.heap.size w w'
theorem OneI.of {w w' : World} {L : List Ent} (H : Hp w L w') (i : Nat) {v : Value} {n : Nat} {ns : List Nat} {xs : List Value} (hi : L[i]? = some (.row 3 1 v n xs)) (hn : n = ns.length) (hx : xs = ivs ns) {e : Ending} (he : e = .returned v) : OneI w ns e w' := by
  subst hn hx
  exact ⟨⟨v, he, ownsOf H i hi⟩, H.low⟩
end Go.Proofs.YtogliinfdfkobaaDoor

