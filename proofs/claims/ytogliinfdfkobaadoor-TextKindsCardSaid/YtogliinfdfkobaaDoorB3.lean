/- Lemmas and walks on the way to the seat's laws; each theorem says its own conditions. -/
import Derived.Test.YtogliinfdfkobaaDoorRegV
set_option linter.unusedSimpArgs false
set_option linter.unusedVariables false
set_option linter.unusedSimpArgs false
set_option linter.unusedVariables false
set_option maxRecDepth 100000
namespace Go.Proofs.YtogliinfdfkobaaDoor
open Go.RowKit Go.Mem Go.Reg Oct Bit
/-- A result that is a row of the call's own. -/
def OneB (w : World) (bs : List UInt8) (e : Ending) (w' : World) : Prop :=
  (∃ v, e = .returned v ∧ w'.ownsRow w.heap.size 5 1 v bs.length (bs.map u8c)) ∧ Below w.heap.size w w'
/-- .. with an error. -/
def OutB (w : World) (bs : List UInt8) (er : Int) (e : Ending) (w' : World) : Prop :=
  (∃ v, e = .returned (.tuple #[v, .int .i64 er]) ∧ w'.ownsRow w.heap.size 5 1 v bs.length (bs.map u8c)) ∧ Below w.heap.size w w'
/-- A bit string whose bytes are a row of the call's own, with an error or a truth. -/
def StrB (w : World) (u : Int) (bs : List UInt8) (er : Value) (e : Ending) (w' : World) : Prop :=
  (∃ v, e = .returned (.tuple #[.agg #[.int .i64 u, v], er]) ∧ w'.ownsRow w.heap.size 5 1 v bs.length (bs.map u8c)) ∧ Below w.heap.size w w'
theorem OneB.of {w w' : World} {L : List Ent} (H : Hp w L w') (i : Nat) {v : Value} {n : Nat} {bs : List UInt8} {xs : List Value} (hi : L[i]? = some (.row 5 1 v n xs)) (hn : n = bs.length) (hx : xs = bs.map u8c) {e : Ending} (he : e = .returned v) : OneB w bs e w' := by
  subst hn hx
  exact ⟨⟨v, he, ownsOf H i hi⟩, H.low⟩
theorem OutB.of {w w' : World} {L : List Ent} (H : Hp w L w') (i : Nat) {v : Value} {n : Nat} {bs : List UInt8} {xs : List Value} {er : Int} (hi : L[i]? = some (.row 5 1 v n xs)) (hn : n = bs.length) (hx : xs = bs.map u8c) {e : Ending} (he : e = .returned (.tuple #[v, .int .i64 er])) : OutB w bs er e w' := by
  subst hn hx
  exact ⟨⟨v, he, ownsOf H i hi⟩, H.low⟩
theorem StrB.of {w w' : World} {L : List Ent} (H : Hp w L w') (i : Nat) {v : Value} {n : Nat} {bs : List UInt8} {xs : List Value} {u : Int} {er : Value} (hi : L[i]? = some (.row 5 1 v n xs)) (hn : n = bs.length) (hx : xs = bs.map u8c) {e : Ending} (he : e = .returned (.tuple #[.agg #[.int .i64 u, v], er])) : StrB w u bs er e w' := by
  subst hn hx
  exact ⟨⟨v, he, ownsOf H i hi⟩, H.low⟩
theorem OutB.none {w w' : World} {er : Int} {e : Ending} (he : e = .returned (.tuple #[.slice none 0 0, .int .i64 er])) (hb : Below w.heap.size w w') : OutB w [] er e w' := ⟨⟨_, he, World.ownsRow_nil w' _ _ _⟩, hb⟩
theorem StrB.none {w w' : World} {u : Int} {er : Value} {e : Ending} (he : e = .returned (.tuple #[.agg #[.int .i64 u, .slice none 0 0], er])) (hb : Below w.heap.size w w') : StrB w u [] er e w' := ⟨⟨_, he, World.ownsRow_nil w' _ _ _⟩, hb⟩
end Go.Proofs.YtogliinfdfkobaaDoor

