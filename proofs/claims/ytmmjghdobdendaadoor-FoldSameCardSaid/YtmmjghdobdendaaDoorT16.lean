/- Lemmas and walks on the way to the seat's laws; each theorem says its own conditions. -/
import Derived.Test.YtmmjghdobdendaaDoorT15
set_option linter.unusedSimpArgs false
set_option linter.unusedVariables false
set_option linter.unusedSimpArgs false
set_option linter.unusedVariables false
set_option maxRecDepth 100000
namespace Go.Proofs.YtmmjghdobdendaaDoor
open Go.RowKit Go.Mem Go.Reg Oct Bit Go.Txt Go.Shelf Go.LawLift
/-- Numbers and a truth. -/
def OutW (w : World) (xs : List Int) (b : Bool) (e : Ending) (w' : World) : Prop := (∃ v, e = .returned (.tuple #[v, .bool b]) ∧ w'.ownsRow w.heap.size 3 1 v xs.length (zvs xs)) ∧ Below w.heap.size w w'
theorem OutW.none {w w' : World} {b : Bool} {e : Ending} (he : e = .returned (.tuple #[.slice none 0 0, .bool b])) (hb : Below w.heap.size w w') : OutW w [] b e w' := ⟨⟨_, he, World.ownsRow_nil w' _ _ _⟩, hb⟩
def right12 (l : List UInt8) : Bool := (sg12 l).all (may 12)
def wideO (l : List UInt8) : List Int := if right12 l then sg12 l else []
theorem wide_no {l : List UInt8} (h : right12 l = false) : wideO l = [] := by unfold wideO; rw [h]; rfl
theorem wide_yes {l : List UInt8} (h : right12 l = true) : wideO l = sg12 l := by unfold wideO; rw [h]; rfl
theorem loose_none {l : List UInt8} (h : loose l = none) : right12 l = false := by
  cases hc : right12 l with
  | false => rfl
  | true =>
    rw [(loose_of hc).1] at h
    cases h
theorem loose_bad {l : List UInt8} {ns : List Int} (h : loose l = some ns) (h2 : ns.all (may 12) = false) : right12 l = false := by
  cases hc : right12 l with
  | false => rfl
  | true =>
    rw [(loose_of hc).1] at h
    injection h with h
    subst h
    exact absurd hc (by unfold right12; rw [h2]; simp)
theorem loose_ne {l : List UInt8} {ns : List Int} (h : loose l = some ns) (h2 : enc ns ≠ l) : right12 l = false := by
  cases hc : right12 l with
  | false => rfl
  | true =>
    have hx := loose_of hc
    rw [hx.1] at h
    injection h with h
    subst h
    exact absurd hx.2 h2
theorem loose_eq {l : List UInt8} {ns : List Int} (h : loose l = some ns) (h2 : ns.all (may 12) = true) (h3 : enc ns = l) : right12 l = true ∧ wideO l = ns := by
  have e := loose_ok h h2 h3
  have hr : right12 l = true := by unfold right12; rw [e]; exact h2
  exact ⟨hr, by rw [wide_yes hr, e]⟩
/-- How far the loose reading has come. -/
def Come (l : List UInt8) (i : Nat) (pre : List Int) : Prop := loose l = (loose (l.drop i)).map fun t => pre ++ t
theorem Come.zero (l : List UInt8) : Come l 0 [] := by
  unfold Come
  rw [List.drop_zero]
  cases loose l <;> rfl
theorem Come.stop {l : List UInt8} {i : Nat} {pre : List Int} (h : Come l i pre) (hi : i < l.length) (hn : 1114111 < loose1 (l.drop i)) : loose l = none := by
  have hne : l.drop i ≠ [] := by
    intro hc
    have := congrArg List.length hc
    rw [List.length_drop] at this
    simp at this
    omega
  unfold Come at h
  rw [h, loose_step hne, if_pos hn]
  rfl
theorem Come.next {l : List UInt8} {i : Nat} {pre : List Int} (h : Come l i pre) (hi : i < l.length) (hn : ¬ 1114111 < loose1 (l.drop i)) : Come l (i + wid1 (l.drop i)) (pre ++ [(loose1 (l.drop i) : Int)]) := by
  have hne : l.drop i ≠ [] := by
    intro hc
    have := congrArg List.length hc
    rw [List.length_drop] at this
    simp at this
    omega
  unfold Come at *
  rw [h, loose_step hne, if_neg hn, List.drop_drop]
  cases loose (l.drop (i + wid1 (l.drop i))) <;> simp
theorem Come.done {l : List UInt8} {i : Nat} {pre : List Int} (h : Come l i pre) (hi : l.length ≤ i) : loose l = some pre := by
  unfold Come at h
  rw [h, List.drop_eq_nil_of_le hi]
  show (some []).map _ = _
  simp
/-- The number as the bytes come in. -/
def acc (r : List UInt8) (m k : Nat) : Nat := ((r.drop 1).take k).foldl (fun a x => 64 * a + x.toNat % 64) m
theorem acc_succ (r : List UInt8) (m k : Nat) (h : k + 1 < r.length) : acc r m (k + 1) = 64 * acc r m k + (r[k + 1]).toNat % 64 := by
  unfold acc
  have h2 : k < (r.drop 1).length := by rw [List.length_drop]; omega
  rw [List.take_add_one, List.getElem?_eq_getElem h2, Option.toList_some, List.foldl_append]
  simp [Nat.add_comm 1 k]
theorem acc_end (r : List UInt8) (m k k2 : Nat) (h : r.length ≤ k + 1) (h2 : k ≤ k2) : acc r m k2 = acc r m k := by
  unfold acc
  rw [List.take_of_length_le (by rw [List.length_drop]; omega), List.take_of_length_le (by rw [List.length_drop]; omega)]
theorem acc_le (r : List UInt8) (m k : Nat) (hm : m ≤ 255) (hk : k ≤ 3) : acc r m k ≤ 100000000 := by
  have step : ∀ (l : List UInt8) (a : Nat), l.foldl (fun a x => 64 * a + x.toNat % 64) a ≤ 64 ^ l.length * (a + 1) := by
    intro l
    induction l with
    | nil => intro a; simp
    | cons x r ih =>
      intro a
      rw [List.foldl_cons]
      refine Nat.le_trans (ih _) ?_
      rw [List.length_cons, Nat.pow_succ, Nat.mul_assoc]
      exact Nat.mul_le_mul_left _ (by omega)
  unfold acc
  refine Nat.le_trans (step _ _) ?_
  have hl : ((r.drop 1).take k).length ≤ 3 := by rw [List.length_take]; omega
  have h3 : 64 ^ ((r.drop 1).take k).length ≤ 64 ^ 3 := Nat.pow_le_pow_right (by omega) hl
  refine Nat.le_trans (Nat.mul_le_mul h3 (by omega : m + 1 ≤ 256)) (by decide)
theorem loose1_acc (r : List UInt8) : loose1 r = acc r (head1 (r.getD 0 0).toNat).1 (head1 (r.getD 0 0).toNat).2 := rfl
theorem head1_le (c : Nat) (h : c < 256) : (head1 c).1 ≤ 255 ∧ (head1 c).2 ≤ 3 := by
  unfold head1
  repeat' split
  all_goals (simp only; omega)
end Go.Proofs.YtmmjghdobdendaaDoor

