/- Lemmas and walks on the way to the seat's laws; each theorem says its own conditions. -/
import Derived.Test.YtogliinfdfkobaaDoorT15
set_option linter.unusedSimpArgs false
set_option linter.unusedVariables false
set_option linter.unusedSimpArgs false
set_option linter.unusedVariables false
set_option maxRecDepth 100000
namespace Go.Proofs.YtogliinfdfkobaaDoor
open Go.RowKit Go.Mem Go.Reg Oct Bit Go.Txt Go.Shelf Go.LawLift
/-- Numbers and a truth. -/
def OutW (w : World) (xs : List Int) (b : Bool) (e : Ending) (w' : World) : Prop := (∃ v, e = .returned (.tuple #[v, .bool b]) ∧ w'.ownsRow w.heap.size 3 1 v xs.length (zvs xs)) ∧ Below w.heap.size w w'
theorem OutW.none {w w' : World} {b : Bool} {e : Ending} (he : e = .returned (.tuple #[.slice none 0 0, .bool b])) (hb : Below w.heap.size w w') : OutW w [] b e w' := ⟨⟨_, he, World.ownsRow_nil w' _ _ _⟩, hb⟩
def right12 (l : List UInt8) : Bool := (sg12 l).all (may 12)
def wideO (l : List UInt8) : List Int := if right12 l then sg12 l else []
/-- How far the loose reading has come. -/
def Come (l : List UInt8) (i : Nat) (pre : List Int) : Prop := loose l = (loose (l.drop i)).map fun t => pre ++ t
theorem Come.zero (l : List UInt8) : Come l 0 [] := by
  unfold Come
  rw [List.drop_zero]
  cases loose l <;> rfl
theorem Come.stop {l : List UInt8} {i : Nat} {pre : List Int} (h : Come l i pre) (hi : i < l.length) (hn : 1114111 < loose1 (l.drop i)) : loose l = none := by
  have hne : l.drop i ≠ [] := by
    intro hc
    have := congrArg List.length hc
    rw [List.length_drop] at this
    simp at this
    omega
  unfold Come at h
  rw [h, loose_step hne, if_pos hn]
  rfl
theorem Come.next {l : List UInt8} {i : Nat} {pre : List Int} (h : Come l i pre) (hi : i < l.length) (hn : ¬ 1114111 < loose1 (l.drop i)) : Come l (i + wid1 (l.drop i)) (pre ++ [(loose1 (l.drop i) : Int)]) := by
  have hne : l.drop i ≠ [] := by
    intro hc
    have := congrArg List.length hc
    rw [List.length_drop] at this
    simp at this
    omega
  unfold Come at *
  rw [h, loose_step hne, if_neg hn, List.drop_drop]
  cases loose (l.drop (i + wid1 (l.drop i))) <;> simp
theorem Come.done {l : List UInt8} {i : Nat} {pre : List Int} (h : Come l i pre) (hi : l.length ≤ i) : loose l = some pre := by
  unfold Come at h
  rw [h, List.drop_eq_nil_of_le hi]
  show (some []).map _ = _
  simp
/-- The number as the bytes come in. -/
def acc (r : List UInt8) (m k : Nat) : Nat := ((r.drop 1).take k).foldl (fun a x => 64 * a + x.toNat % 64) m
end Go.Proofs.YtogliinfdfkobaaDoor

