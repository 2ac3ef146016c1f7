/- Texts and bytes turned into one another within a walk. No condition on a program. -/
import Derived.Test.YtmmjghdobdendaaDoorB3
import Derived.Test.YtmmjghdobdendaaDoorBytes
import Derived.Lib.ConvBytes
import Derived.Test.YtmmjghdobdendaaDoorT12
import Derived.Deep.DeepCutAuto
import Derived.Test.YtmmjghdobdendaaDoorB1
import Derived.Test.YtmmjghdobdendaaDoorSpans
set_option linter.unusedSimpArgs false
set_option linter.unusedVariables false
namespace Go.Mem
open Go.RowKit
theorem bytesWorld_below (w : World) (e : TypeId) (s : ByteArray) : Below w.heap.size w (Lib.bytesWorld w e s) := by
  refine ⟨rfl, ?_, rfl, by rw [Lib.bytesWorld_size]; omega, fun k hk => Lib.bytesWorld_at_old w e s k hk⟩
  simp [Lib.bytesWorld, World.freeze, World.alloc, World.drew, -World.alloc_eq, -World.drew_eq]
theorem Bs.ofObj {w0 w : World} {L : List Ent} (H : Hp w0 L w) (i : Nat) {b c : Nat} {cs : Array Value} {e : TypeId} {fz : Nat × Nat} {l : List UInt8} (hi : L[i]? = some (.obj b (.cells cs e fz))) (h1 : l.length ≤ c) (h2 : c ≤ maxLen) (h : ∀ j, (hj : j < l.length) → cs[j]? = some (u8c l[j])) :
    Bs w (.slice (some ⟨b, 0, none⟩) l.length c) l := by
  have hx := H.obj i hi
  refine Bs.mk rfl h1 h2 (fun h => by cases h) fun _ => ⟨b, 0, rfl, (Array.getElem?_eq_some_iff.1 hx).1, fun j hj => ?_⟩
  rw [cell_of_marked hx, Nat.zero_add]
  exact h j hj
theorem Hp.bytes {w0 w : World} {L : List Ent} (H : Hp w0 L w) (e : TypeId) (l : List UInt8) : Hp w0 (.obj w.heap.size (.cells (Lib.bytesCells w e ⟨l.toArray⟩) e ((Lib.bytesCells w e ⟨l.toArray⟩).size, (Lib.bytesCells w e ⟨l.toArray⟩).size + 1)) :: L) (Lib.bytesWorld w e ⟨l.toArray⟩) :=
  H.adopt (bytesWorld_below w e _) (.obj _ _) ⟨Lib.bytesWorld_at_new w e ⟨l.toArray⟩, Nat.le_refl _⟩
section
variable {P : Program} {ops : Array Oper} {Q : Exit → Act → World → Prop} {rest : List Oper} {o : Oper} {a : Act} {w0 w : World} {L : List Ent}
/-- []byte(s). -/
theorem wpList_bytes_hp (H : Hp w0 L w) (hgd : o.guard = none) (x : Operand) (src dst : TypeId) (ho : o.op = .convert src dst x) {e : TypeId} {u : TypeDesc} (hs : P.underlying src = some u) (hd : P.underlying dst = some (.slice e)) (he : P.underlying e = some (.int .u8))
    (l : List UInt8) (hx : a.eval x = .string ⟨l.toArray⟩) (hl : l.length ≤ maxLen)
    (h : ∀ b c cs fz w', Hp w0 (.obj b (.cells cs e fz) :: L) w' → l.length ≤ c → c ≤ maxLen → (∀ j, (hj : j < l.length) → cs[j]? = some (u8c l[j])) → wpList P ops Q rest (a.put o.dst (.slice (some ⟨b, 0, none⟩) l.length c)) w') : wpList P ops Q (o :: rest) a w := by
  have hr := Lib.run_convert_string_bytes (P := P) w src dst e ⟨l.toArray⟩ hs hd he
  have hsz : (ByteArray.mk l.toArray).size = l.length := by simp [ByteArray.size]
  refine wpList_plain hgd fun K hK => ?_
  unfold Oper.wp
  simp [execOp, ho, hx, hr, Result.andThen]
  rw [hsz]
  have hn := Lib.bytesWorld_at_new w e ⟨l.toArray⟩
  refine hK _ _ (h _ _ _ _ _ (H.adopt (bytesWorld_below w e _) (.obj _ _) ⟨hn, Nat.le_refl _⟩) (grownCap_ge _ _ _ _) (grownCap_le_maxLen _ _ _ _ hl) fun j hj => ?_)
  simp [Lib.bytesCells, Array.getElem?_append, hj, u8c]
/-- string(b). -/
theorem wpList_string_hp (hgd : o.guard = none) (x : Operand) (src dst : TypeId) (ho : o.op = .convert src dst x) {e : TypeId} (hs : P.underlying src = some (.slice e)) (he : P.underlying e = some (.int .u8)) (hd : P.underlying dst = some .string)
    {v : Value} {l : List UInt8} (hx : a.eval x = v) (hb : Bs w v l)
    (h : wpList P ops Q rest (a.put o.dst (.string ⟨l.toArray⟩)) w) : wpList P ops Q (o :: rest) a w := by
  have hr := run_str (P := P) hb src dst e hs he hd
  refine wpList_plain hgd fun K hK => ?_
  unfold Oper.wp
  simp [execOp, ho, hx, hr, Result.andThen]
  exact hK _ _ h
theorem wp_string {K : Act → World → Prop} {Q : Exit → Act → World → Prop} (x : Operand) (src dst : TypeId) (ho : o.op = .convert src dst x) {e : TypeId} (hs : P.underlying src = some (.slice e)) (he : P.underlying e = some (.int .u8)) (hd : P.underlying dst = some .string)
    {v : Value} {l : List UInt8} (hx : a.eval x = v) (hb : Bs w v l) (h : K (a.put o.dst (.string ⟨l.toArray⟩)) w) : o.wp P a w K Q := by
  have hr := run_str (P := P) hb src dst e hs he hd
  unfold Oper.wp
  simp [execOp, ho, hx, hr, Result.andThen]
  exact h
end
end Go.Mem

set_option linter.unusedSimpArgs false
set_option linter.unusedVariables false
set_option maxRecDepth 100000
namespace Go.Proofs.YtmmjghdobdendaaDoor
open Go.RowKit Go.Mem Go.Reg Oct Bit Go.Txt Go.Shelf Go.LawLift
def u8S (k : Int) (l : List UInt8) : List UInt8 := if rightT k l then enc (sg k l) else []
theorem sgOf_no {k : Int} {l : List UInt8} (h : rightT k l = false) : sgOf k l = [] ∧ erOf k l = 6 ∧ u8S k l = [] := by
  unfold sgOf erOf u8S
  rw [h]
  exact ⟨rfl, rfl, rfl⟩
theorem sgOf_yes {k : Int} {l : List UInt8} (h : rightT k l = true) : sgOf k l = sg k l ∧ erOf k l = 0 ∧ u8S k l = enc (sg k l) := by
  unfold sgOf erOf u8S
  rw [h]
  exact ⟨rfl, rfl, rfl⟩
end Go.Proofs.YtmmjghdobdendaaDoor

set_option linter.unusedSimpArgs false
set_option linter.unusedVariables false
set_option maxRecDepth 100000
namespace Go.Proofs.YtmmjghdobdendaaDoor
open Go.RowKit Go.Mem Go.Reg Oct Bit Go.Txt Go.Shelf Go.LawLift
def frOk (k : Int) (l : List UInt8) : Bool := knownK k && rightT 12 l
def frK (k : Int) (l : List UInt8) : Int := if frOk k l then ofK k (sg 12 l) else 0
def frL (k : Int) (l : List UInt8) : List UInt8 := if frOk k l then ofL k (sg 12 l) else []
def frE (k : Int) (l : List UInt8) : Int := if frOk k l then erT k (sg 12 l) else if knownK k then 6 else 1
def leK (l : List UInt8) : Int := if rightT 19 l then 19 else if rightT 12 l then 12 else 20
/-- A text of this kind and these bytes. -/
def TxtP (k : Int) (l : List UInt8) (w : World) (e : Ending) (w' : World) : Prop := ∃ v, e = .returned (.agg #[.int .i64 k, v]) ∧ Bs w' v l ∧ Below w.heap.size w w'
end Go.Proofs.YtmmjghdobdendaaDoor

set_option linter.unusedSimpArgs false
set_option linter.unusedVariables false
set_option maxRecDepth 100000
namespace Go.Proofs.YtmmjghdobdendaaDoor
open Go.RowKit Go.Mem Go.Reg Oct Bit Go.Txt Go.Shelf Go.LawLift
end Go.Proofs.YtmmjghdobdendaaDoor

set_option linter.unusedSimpArgs false
set_option linter.unusedVariables false
set_option maxRecDepth 100000
namespace Go.Proofs.YtmmjghdobdendaaDoor
open Go.RowKit Go.Mem Go.Reg Oct Bit Go.Txt Go.Shelf Go.LawLift
/-- Numbers and a truth. -/
def OutW (w : World) (xs : List Int) (b : Bool) (e : Ending) (w' : World) : Prop := (∃ v, e = .returned (.tuple #[v, .bool b]) ∧ w'.ownsRow w.heap.size 3 1 v xs.length (zvs xs)) ∧ Below w.heap.size w w'
theorem OutW.none {w w' : World} {b : Bool} {e : Ending} (he : e = .returned (.tuple #[.slice none 0 0, .bool b])) (hb : Below w.heap.size w w') : OutW w [] b e w' := ⟨⟨_, he, World.ownsRow_nil w' _ _ _⟩, hb⟩
def right12 (l : List UInt8) : Bool := (sg12 l).all (may 12)
def wideO (l : List UInt8) : List Int := if right12 l then sg12 l else []
/-- How far the loose reading has come. -/
def Come (l : List UInt8) (i : Nat) (pre : List Int) : Prop := loose l = (loose (l.drop i)).map fun t => pre ++ t
theorem Come.zero (l : List UInt8) : Come l 0 [] := by
  unfold Come
  rw [List.drop_zero]
  cases loose l <;> rfl
theorem Come.stop {l : List UInt8} {i : Nat} {pre : List Int} (h : Come l i pre) (hi : i < l.length) (hn : 1114111 < loose1 (l.drop i)) : loose l = none := by
  have hne : l.drop i ≠ [] := by
    intro hc
    have := congrArg List.length hc
    rw [List.length_drop] at this
    simp at this
    omega
  unfold Come at h
  rw [h, loose_step hne, if_pos hn]
  rfl
theorem Come.next {l : List UInt8} {i : Nat} {pre : List Int} (h : Come l i pre) (hi : i < l.length) (hn : ¬ 1114111 < loose1 (l.drop i)) : Come l (i + wid1 (l.drop i)) (pre ++ [(loose1 (l.drop i) : Int)]) := by
  have hne : l.drop i ≠ [] := by
    intro hc
    have := congrArg List.length hc
    rw [List.length_drop] at this
    simp at this
    omega
  unfold Come at *
  rw [h, loose_step hne, if_neg hn, List.drop_drop]
  cases loose (l.drop (i + wid1 (l.drop i))) <;> simp
theorem Come.done {l : List UInt8} {i : Nat} {pre : List Int} (h : Come l i pre) (hi : l.length ≤ i) : loose l = some pre := by
  unfold Come at h
  rw [h, List.drop_eq_nil_of_le hi]
  show (some []).map _ = _
  simp
/-- The number as the bytes come in. -/
def acc (r : List UInt8) (m k : Nat) : Nat := ((r.drop 1).take k).foldl (fun a x => 64 * a + x.toNat % 64) m
end Go.Proofs.YtmmjghdobdendaaDoor

set_option linter.unusedSimpArgs false
set_option linter.unusedVariables false
set_option maxRecDepth 100000
namespace Go.Proofs.YtmmjghdobdendaaDoor
open Go.RowKit Go.Mem Go.Reg Oct Bit Go.Txt Go.Shelf Go.LawLift
end Go.Proofs.YtmmjghdobdendaaDoor

set_option linter.unusedSimpArgs false
set_option linter.unusedVariables false
set_option maxRecDepth 100000
namespace Go.Proofs.YtmmjghdobdendaaDoor
open Go.RowKit Go.Mem Go.Reg Oct Bit Go.Txt Go.Shelf Go.LawLift
/-- How far the pairs have come. -/
def Pair (l : List UInt8) (i : Nat) (pre : List Int) : Prop := sgP l = pre ++ sgP (l.drop i) ∧ pre.length ≤ i
theorem Pair.next {l : List UInt8} {i : Nat} {pre : List Int} (h : Pair l i pre) (hi : i + 1 < l.length) : Pair l (i + 2) (pre ++ [256 * (l[i].toNat : Int) + (l[i + 1].toNat : Int)]) := by
  have e : l.drop i = l[i] :: l[i + 1] :: l.drop (i + 2) := by rw [List.drop_eq_getElem_cons (by omega), List.drop_eq_getElem_cons (by omega)]
  refine ⟨?_, by rw [List.length_append, List.length_singleton]; have := h.2; omega⟩
  rw [h.1, e, sgP, List.append_assoc]
  rw [Int.mul_comm]
  rfl
end Go.Proofs.YtmmjghdobdendaaDoor

set_option linter.unusedSimpArgs false
set_option linter.unusedVariables false
set_option maxRecDepth 100000
namespace Go.Proofs.YtmmjghdobdendaaDoor
open Go.RowKit Go.Mem Go.Reg Oct Bit Go.Txt Go.Shelf Go.LawLift
end Go.Proofs.YtmmjghdobdendaaDoor

