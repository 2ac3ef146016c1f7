/- Texts and bytes turned into one another within a walk. No condition on a program. -/
import Derived.Test.YtmmjghdobdendaaDoorB3
import Derived.Test.YtmmjghdobdendaaDoorOPlain
import Derived.Lib.ConvBytes
import Derived.Test.YtmmjghdobdendaaDoorT12
set_option linter.unusedSimpArgs false
set_option linter.unusedVariables false
namespace Go.Mem
open Go.RowKit
theorem bytesWorld_below (w : World) (e : TypeId) (s : ByteArray) : Below w.heap.size w (Lib.bytesWorld w e s) := by
  refine ⟨rfl, ?_, rfl, by rw [Lib.bytesWorld_size]; omega, fun k hk => Lib.bytesWorld_at_old w e s k hk⟩
  simp [Lib.bytesWorld, World.freeze, World.alloc, World.drew, -World.alloc_eq, -World.drew_eq]
theorem Bs.ofObj {w0 w : World} {L : List Ent} (H : Hp w0 L w) (i : Nat) {b c : Nat} {cs : Array Value} {e : TypeId} {fz : Nat × Nat} {l : List UInt8} (hi : L[i]? = some (.obj b (.cells cs e fz))) (h1 : l.length ≤ c) (h2 : c ≤ maxLen) (h : ∀ j, (hj : j < l.length) → cs[j]? = some (u8c l[j])) :
    Bs w (.slice (some ⟨b, 0, none⟩) l.length c) l := by
  have hx := H.obj i hi
  refine Bs.mk rfl h1 h2 (fun h => by cases h) fun _ => ⟨b, 0, rfl, (Array.getElem?_eq_some_iff.1 hx).1, fun j hj => ?_⟩
  rw [cell_of_marked hx, Nat.zero_add]
  exact h j hj
theorem Hp.bytes {w0 w : World} {L : List Ent} (H : Hp w0 L w) (e : TypeId) (l : List UInt8) : Hp w0 (.obj w.heap.size (.cells (Lib.bytesCells w e ⟨l.toArray⟩) e ((Lib.bytesCells w e ⟨l.toArray⟩).size, (Lib.bytesCells w e ⟨l.toArray⟩).size + 1)) :: L) (Lib.bytesWorld w e ⟨l.toArray⟩) :=
  H.adopt (bytesWorld_below w e _) (.obj _ _) ⟨Lib.bytesWorld_at_new w e ⟨l.toArray⟩, Nat.le_refl _⟩
section
variable {P : Program} {ops : Array Oper} {Q : Exit → Act → World → Prop} {rest : List Oper} {o : Oper} {a : Act} {w0 w : World} {L : List Ent}
/-- string(b). -/
theorem wpList_string_hp (hgd : o.guard = none) (x : Operand) (src dst : TypeId) (ho : o.op = .convert src dst x) {e : TypeId} (hs : P.underlying src = some (.slice e)) (he : P.underlying e = some (.int .u8)) (hd : P.underlying dst = some .string)
    {v : Value} {l : List UInt8} (hx : a.eval x = v) (hb : Bs w v l)
    (h : wpList P ops Q rest (a.put o.dst (.string ⟨l.toArray⟩)) w) : wpList P ops Q (o :: rest) a w := by
  have hr := run_str (P := P) hb src dst e hs he hd
  refine wpList_plain hgd fun K hK => ?_
  unfold Oper.wp
  simp [execOp, ho, hx, hr, Result.andThen]
  exact hK _ _ h
theorem wp_string {K : Act → World → Prop} {Q : Exit → Act → World → Prop} (x : Operand) (src dst : TypeId) (ho : o.op = .convert src dst x) {e : TypeId} (hs : P.underlying src = some (.slice e)) (he : P.underlying e = some (.int .u8)) (hd : P.underlying dst = some .string)
    {v : Value} {l : List UInt8} (hx : a.eval x = v) (hb : Bs w v l) (h : K (a.put o.dst (.string ⟨l.toArray⟩)) w) : o.wp P a w K Q := by
  have hr := run_str (P := P) hb src dst e hs he hd
  unfold Oper.wp
  simp [execOp, ho, hx, hr, Result.andThen]
  exact h
end
end Go.Mem

set_option linter.unusedSimpArgs false
set_option linter.unusedVariables false
set_option maxRecDepth 100000
namespace Go.Proofs.YtmmjghdobdendaaDoor
open Go.RowKit Go.Mem Go.Reg Oct Bit Go.Txt Go.Shelf Go.LawLift
def u8S (k : Int) (l : List UInt8) : List UInt8 := if rightT k l then enc (sg k l) else []
theorem sgOf_no {k : Int} {l : List UInt8} (h : rightT k l = false) : sgOf k l = [] ∧ erOf k l = 6 ∧ u8S k l = [] := by
  unfold sgOf erOf u8S
  rw [h]
  exact ⟨rfl, rfl, rfl⟩
theorem sgOf_yes {k : Int} {l : List UInt8} (h : rightT k l = true) : sgOf k l = sg k l ∧ erOf k l = 0 ∧ u8S k l = enc (sg k l) := by
  unfold sgOf erOf u8S
  rw [h]
  exact ⟨rfl, rfl, rfl⟩
end Go.Proofs.YtmmjghdobdendaaDoor

set_option linter.unusedSimpArgs false
set_option linter.unusedVariables false
set_option maxRecDepth 100000
namespace Go.Proofs.YtmmjghdobdendaaDoor
open Go.RowKit Go.Mem Go.Reg Oct Bit Go.Txt Go.Shelf Go.LawLift
def frOk (k : Int) (l : List UInt8) : Bool := knownK k && rightT 12 l
def frK (k : Int) (l : List UInt8) : Int := if frOk k l then ofK k (sg 12 l) else 0
def frL (k : Int) (l : List UInt8) : List UInt8 := if frOk k l then ofL k (sg 12 l) else []
def frE (k : Int) (l : List UInt8) : Int := if frOk k l then erT k (sg 12 l) else if knownK k then 6 else 1
def leK (l : List UInt8) : Int := if rightT 19 l then 19 else if rightT 12 l then 12 else 20
/-- A text of this kind and these bytes. -/
def TxtP (k : Int) (l : List UInt8) (w : World) (e : Ending) (w' : World) : Prop := ∃ v, e = .returned (.agg #[.int .i64 k, v]) ∧ Bs w' v l ∧ Below w.heap.size w w'
end Go.Proofs.YtmmjghdobdendaaDoor

