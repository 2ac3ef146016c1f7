/- Lemmas and walks on the way to the seat's laws; each theorem says its own conditions. -/
import Derived.Test.YtmmjghdobdendaaDoorT15
import Derived.Deep.DeepCutAuto
import Derived.Test.YtmmjghdobdendaaDoorB3
import Derived.Test.YtmmjghdobdendaaDoorB1
import Derived.Test.YtmmjghdobdendaaDoorB6
import Derived.Test.YtmmjghdobdendaaDoorTPlain
set_option linter.unusedSimpArgs false
set_option linter.unusedVariables false
set_option linter.unusedSimpArgs false
set_option linter.unusedVariables false
set_option maxRecDepth 100000
namespace Go.Proofs.YtmmjghdobdendaaDoor
open Go.RowKit Go.Mem Go.Reg Oct Bit Go.Txt Go.Shelf Go.LawLift
/-- Numbers and a truth. -/
def OutW (w : World) (xs : List Int) (b : Bool) (e : Ending) (w' : World) : Prop := (∃ v, e = .returned (.tuple #[v, .bool b]) ∧ w'.ownsRow w.heap.size 3 1 v xs.length (zvs xs)) ∧ Below w.heap.size w w'
theorem OutW.none {w w' : World} {b : Bool} {e : Ending} (he : e = .returned (.tuple #[.slice none 0 0, .bool b])) (hb : Below w.heap.size w w') : OutW w [] b e w' := ⟨⟨_, he, World.ownsRow_nil w' _ _ _⟩, hb⟩
def right12 (l : List UInt8) : Bool := (sg12 l).all (may 12)
def wideO (l : List UInt8) : List Int := if right12 l then sg12 l else []
/-- How far the loose reading has come. -/
def Come (l : List UInt8) (i : Nat) (pre : List Int) : Prop := loose l = (loose (l.drop i)).map fun t => pre ++ t
theorem Come.zero (l : List UInt8) : Come l 0 [] := by
  unfold Come
  rw [List.drop_zero]
  cases loose l <;> rfl
theorem Come.stop {l : List UInt8} {i : Nat} {pre : List Int} (h : Come l i pre) (hi : i < l.length) (hn : 1114111 < loose1 (l.drop i)) : loose l = none := by
  have hne : l.drop i ≠ [] := by
    intro hc
    have := congrArg List.length hc
    rw [List.length_drop] at this
    simp at this
    omega
  unfold Come at h
  rw [h, loose_step hne, if_pos hn]
  rfl
theorem Come.next {l : List UInt8} {i : Nat} {pre : List Int} (h : Come l i pre) (hi : i < l.length) (hn : ¬ 1114111 < loose1 (l.drop i)) : Come l (i + wid1 (l.drop i)) (pre ++ [(loose1 (l.drop i) : Int)]) := by
  have hne : l.drop i ≠ [] := by
    intro hc
    have := congrArg List.length hc
    rw [List.length_drop] at this
    simp at this
    omega
  unfold Come at *
  rw [h, loose_step hne, if_neg hn, List.drop_drop]
  cases loose (l.drop (i + wid1 (l.drop i))) <;> simp
theorem Come.done {l : List UInt8} {i : Nat} {pre : List Int} (h : Come l i pre) (hi : l.length ≤ i) : loose l = some pre := by
  unfold Come at h
  rw [h, List.drop_eq_nil_of_le hi]
  show (some []).map _ = _
  simp
/-- The number as the bytes come in. -/
def acc (r : List UInt8) (m k : Nat) : Nat := ((r.drop 1).take k).foldl (fun a x => 64 * a + x.toNat % 64) m
end Go.Proofs.YtmmjghdobdendaaDoor

set_option linter.unusedSimpArgs false
set_option linter.unusedVariables false
set_option maxRecDepth 100000
namespace Go.Proofs.YtmmjghdobdendaaDoor
open Go.RowKit Go.Mem Go.Reg Oct Bit Go.Txt Go.Shelf Go.LawLift
end Go.Proofs.YtmmjghdobdendaaDoor

set_option linter.unusedSimpArgs false
set_option linter.unusedVariables false
set_option maxRecDepth 100000
namespace Go.Proofs.YtmmjghdobdendaaDoor
open Go.RowKit Go.Mem Go.Reg Oct Bit Go.Txt Go.Shelf Go.LawLift
/-- How far the pairs have come. -/
def Pair (l : List UInt8) (i : Nat) (pre : List Int) : Prop := sgP l = pre ++ sgP (l.drop i) ∧ pre.length ≤ i
theorem Pair.next {l : List UInt8} {i : Nat} {pre : List Int} (h : Pair l i pre) (hi : i + 1 < l.length) : Pair l (i + 2) (pre ++ [256 * (l[i].toNat : Int) + (l[i + 1].toNat : Int)]) := by
  have e : l.drop i = l[i] :: l[i + 1] :: l.drop (i + 2) := by rw [List.drop_eq_getElem_cons (by omega), List.drop_eq_getElem_cons (by omega)]
  refine ⟨?_, by rw [List.length_append, List.length_singleton]; have := h.2; omega⟩
  rw [h.1, e, sgP, List.append_assoc]
  rw [Int.mul_comm]
  rfl
end Go.Proofs.YtmmjghdobdendaaDoor

set_option linter.unusedSimpArgs false
set_option linter.unusedVariables false
set_option maxRecDepth 100000
namespace Go.Proofs.YtmmjghdobdendaaDoor
open Go.RowKit Go.Mem Go.Reg Oct Bit Go.Txt Go.Shelf Go.LawLift
end Go.Proofs.YtmmjghdobdendaaDoor

/- Folded signs, hosts and their labels in plain words. No condition on a program. -/
namespace Go.Fold
open Go.Lib Go.Txt
def blankI (n : Int) : Bool := decide (n = 32) || (decide (9 ≤ n) && decide (n ≤ 13))
def smallI (n : Int) : Int := if 65 ≤ n ∧ n ≤ 90 then n + 32 else n
/-- One sign more: what is folded so far, and whether a blank is due. -/
def stepF (s : List Int × Bool) (n : Int) : List Int × Bool :=
  if blankI n = true then (s.1, decide (0 < s.1.length)) else ((if s.2 = true then s.1 ++ [32] else s.1) ++ [smallI n], false)
def accF (l : List Int) : List Int × Bool := l.foldl stepF ([], false)
def foldI (l : List Int) : List Int := (accF l).1
theorem accF_snoc (l : List Int) (n : Int) : accF (l ++ [n]) = stepF (accF l) n := by simp [accF, List.foldl_append]
theorem take_snoc {α : Type} (l : List α) (k : Nat) (h : k < l.length) : l.take (k + 1) = l.take k ++ [l[k]] := by
  rw [List.take_succ_eq_append_getElem h]
theorem accF_take (l : List Int) (k : Nat) (h : k < l.length) : accF (l.take (k + 1)) = stepF (accF (l.take k)) l[k] := by
  rw [take_snoc l k h, accF_snoc]
theorem snoc_ind {α : Type} {P : List α → Prop} (h0 : P []) (h1 : ∀ l x, P l → P (l ++ [x])) (l : List α) : P l := by
  rw [← List.reverse_reverse l]
  induction l.reverse with
  | nil => exact h0
  | cons x r ih => rw [List.reverse_cons]; exact h1 _ _ ih
theorem step_blank {n : Int} (h : blankI n = true) (s : List Int × Bool) : stepF s n = (s.1, decide (0 < s.1.length)) := if_pos h
theorem step_not {n : Int} (h : blankI n = false) (s : List Int × Bool) : stepF s n = ((if s.2 = true then s.1 ++ [32] else s.1) ++ [smallI n], false) := if_neg (by rw [h]; simp)
theorem len_le (l : List Int) : (accF l).1.length + (if (accF l).2 = true then 1 else 0) ≤ l.length := by
  refine snoc_ind (P := fun l => (accF l).1.length + (if (accF l).2 = true then 1 else 0) ≤ l.length) (by simp [accF]) (fun l n ih => ?_) l
  rw [accF_snoc, List.length_append, List.length_singleton]
  cases hn : blankI n with
  | true =>
    rw [step_blank hn]
    have : (accF l).1.length ≤ l.length := by omega
    show (accF l).1.length + _ ≤ _
    split <;> omega
  | false =>
    rw [step_not hn, List.length_append, List.length_singleton]
    split at ih
    · rename_i h; rw [if_pos h]; simp; omega
    · rename_i h; rw [if_neg h]; simp; omega
theorem fold_len (l : List Int) : (foldI l).length ≤ l.length := by
  have := len_le l
  unfold foldI
  omega
/-- What is folded has no great letter, no blank but 32, and that one neither at an end nor behind another. -/
def tidy (x : List Int) : Prop := ∀ i, (h : i < x.length) → ¬(65 ≤ x[i] ∧ x[i] ≤ 90) ∧ ¬(9 ≤ x[i] ∧ x[i] ≤ 13) ∧ (x[i] = 32 → 0 < i ∧ i + 1 < x.length ∧ x[i - 1]? ≠ some 32)
/-- The document's way: what it has put out at a place. -/
def outR (s : List Int × Bool) : List Int := s.1 ++ (if s.2 = true then [32] else [])
theorem may12_small {n : Int} (h : may 12 n = true) : may 12 (smallI n) = true := by
  rw [may12_iff] at *
  unfold smallI
  split <;> omega
theorem fold_may (l : List Int) (h : ∀ n ∈ l, may 12 n = true) : ∀ n ∈ foldI l, may 12 n = true := by
  refine snoc_ind (P := fun l => (∀ n ∈ l, may 12 n = true) → ∀ n ∈ foldI l, may 12 n = true) (fun _ n hn => by simp [foldI, accF] at hn) (fun l n ih h => ?_) l h
  have ih := ih fun m hm => h m (List.mem_append_left _ hm)
  unfold foldI at *
  rw [accF_snoc]
  cases hn : blankI n with
  | true => rw [step_blank hn]; exact ih
  | false =>
    rw [step_not hn]
    intro m hm
    simp only [List.mem_append, List.mem_singleton] at hm
    rcases hm with hm | rfl
    · split at hm
      · rcases List.mem_append.1 hm with hm | hm
        · exact ih m hm
        · simp only [List.mem_singleton] at hm
          subst hm
          decide
      · exact ih m hm
    · exact may12_small (h n (by simp))
#print axioms fold_may
end Go.Fold

