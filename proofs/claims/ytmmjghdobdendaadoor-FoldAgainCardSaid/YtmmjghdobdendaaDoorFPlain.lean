/- Folded signs, hosts and their labels in plain words. No condition on a program. -/
import Derived.Test.YtmmjghdobdendaaDoorTPlain
set_option linter.unusedSimpArgs false
set_option linter.unusedVariables false
namespace Go.Fold
open Go.Lib Go.Txt
def blankI (n : Int) : Bool := decide (n = 32) || (decide (9 ≤ n) && decide (n ≤ 13))
def smallI (n : Int) : Int := if 65 ≤ n ∧ n ≤ 90 then n + 32 else n
theorem blank_iff (n : Int) : blankI n = true ↔ n = 32 ∨ (9 ≤ n ∧ n ≤ 13) := by simp [blankI]
theorem blank_no (n : Int) : blankI n = false ↔ n ≠ 32 ∧ (n < 9 ∨ 13 < n) := by
  rw [← Bool.not_eq_true, blank_iff]
  omega
theorem small_blank {n : Int} (h : blankI n = false) : blankI (smallI n) = false := by
  rw [blank_no] at *
  unfold smallI
  split <;> omega
theorem small_small (n : Int) : smallI (smallI n) = smallI n := by
  by_cases h : 65 ≤ n ∧ n ≤ 90
  · rw [show smallI n = n + 32 from if_pos h]
    exact if_neg (by omega)
  · rw [show smallI n = n from if_neg h]
    exact if_neg h
/-- One sign more: what is folded so far, and whether a blank is due. -/
def stepF (s : List Int × Bool) (n : Int) : List Int × Bool :=
  if blankI n = true then (s.1, decide (0 < s.1.length)) else ((if s.2 = true then s.1 ++ [32] else s.1) ++ [smallI n], false)
def accF (l : List Int) : List Int × Bool := l.foldl stepF ([], false)
def foldI (l : List Int) : List Int := (accF l).1
theorem accF_snoc (l : List Int) (n : Int) : accF (l ++ [n]) = stepF (accF l) n := by simp [accF, List.foldl_append]
theorem take_snoc {α : Type} (l : List α) (k : Nat) (h : k < l.length) : l.take (k + 1) = l.take k ++ [l[k]] := by
  rw [List.take_succ_eq_append_getElem h]
theorem accF_take (l : List Int) (k : Nat) (h : k < l.length) : accF (l.take (k + 1)) = stepF (accF (l.take k)) l[k] := by
  rw [take_snoc l k h, accF_snoc]
theorem snoc_ind {α : Type} {P : List α → Prop} (h0 : P []) (h1 : ∀ l x, P l → P (l ++ [x])) (l : List α) : P l := by
  rw [← List.reverse_reverse l]
  induction l.reverse with
  | nil => exact h0
  | cons x r ih => rw [List.reverse_cons]; exact h1 _ _ ih
theorem step_blank {n : Int} (h : blankI n = true) (s : List Int × Bool) : stepF s n = (s.1, decide (0 < s.1.length)) := if_pos h
theorem step_not {n : Int} (h : blankI n = false) (s : List Int × Bool) : stepF s n = ((if s.2 = true then s.1 ++ [32] else s.1) ++ [smallI n], false) := if_neg (by rw [h]; simp)
theorem due_len (l : List Int) : (accF l).2 = true → 0 < (accF l).1.length := by
  refine snoc_ind (P := fun l => (accF l).2 = true → 0 < (accF l).1.length) (fun h => by cases h) (fun l n ih => ?_) l
  rw [accF_snoc]
  cases hn : blankI n with
  | true => rw [step_blank hn]; intro h; simpa using h
  | false => rw [step_not hn]; intro h; cases h
theorem len_le (l : List Int) : (accF l).1.length + (if (accF l).2 = true then 1 else 0) ≤ l.length := by
  refine snoc_ind (P := fun l => (accF l).1.length + (if (accF l).2 = true then 1 else 0) ≤ l.length) (by simp [accF]) (fun l n ih => ?_) l
  rw [accF_snoc, List.length_append, List.length_singleton]
  cases hn : blankI n with
  | true =>
    rw [step_blank hn]
    have : (accF l).1.length ≤ l.length := by omega
    show (accF l).1.length + _ ≤ _
    split <;> omega
  | false =>
    rw [step_not hn, List.length_append, List.length_singleton]
    split at ih
    · rename_i h; rw [if_pos h]; simp; omega
    · rename_i h; rw [if_neg h]; simp; omega
theorem fold_len (l : List Int) : (foldI l).length ≤ l.length := by
  have := len_le l
  unfold foldI
  omega
theorem accF_again (l : List Int) : accF (accF l).1 = ((accF l).1, false) := by
  refine snoc_ind (P := fun l => accF (accF l).1 = ((accF l).1, false)) rfl (fun l n ih => ?_) l
  rw [accF_snoc]
  cases hn : blankI n with
  | true => rw [step_blank hn]; exact ih
  | false =>
    rw [step_not hn]
    cases hd : (accF l).2 with
    | true =>
      have hp := due_len l hd
      simp only [if_true]
      rw [accF_snoc, accF_snoc, ih, step_blank (by decide : blankI 32 = true), step_not (small_blank hn), small_small]
      simp [hp]
    | false =>
      simp only [Bool.false_eq_true, if_false]
      rw [accF_snoc, ih, step_not (small_blank hn), small_small]
      rfl
theorem fold_again (l : List Int) : foldI (foldI l) = foldI l := by
  show (accF (accF l).1).1 = _
  rw [accF_again]
  rfl
/-- What is folded has no great letter, no blank but 32, and that one neither at an end nor behind another. -/
def tidy (x : List Int) : Prop := ∀ i, (h : i < x.length) → ¬(65 ≤ x[i] ∧ x[i] ≤ 90) ∧ ¬(9 ≤ x[i] ∧ x[i] ≤ 13) ∧ (x[i] = 32 → 0 < i ∧ i + 1 < x.length ∧ x[i - 1]? ≠ some 32)
theorem small_ok {n : Int} (h : blankI n = false) : ¬(65 ≤ smallI n ∧ smallI n ≤ 90) ∧ ¬(9 ≤ smallI n ∧ smallI n ≤ 13) ∧ smallI n ≠ 32 := by
  rw [blank_no] at h
  unfold smallI
  split <;> omega
theorem tidy_put {x : List Int} (h : tidy x) {n : Int} (hn : blankI n = false) : tidy (x ++ [smallI n]) := by
  intro i hi
  rw [List.length_append, List.length_singleton] at hi
  have hs := small_ok hn
  by_cases hlt : i < x.length
  · rw [List.getElem_append_left hlt]
    obtain ⟨h1, h2, h3⟩ := h i hlt
    refine ⟨h1, h2, fun e => ?_⟩
    obtain ⟨a, b, c⟩ := h3 e
    refine ⟨a, by simp; omega, ?_⟩
    rw [List.getElem?_append_left (by omega)]
    exact c
  · obtain rfl : i = x.length := by omega
    rw [List.getElem_append_right (Nat.le_refl _)]
    simp only [Nat.sub_self, List.getElem_cons_zero]
    exact ⟨hs.1, hs.2.1, fun e => absurd e hs.2.2⟩
theorem tidy_put2 {x : List Int} (h : tidy x) (hp : 0 < x.length) {n : Int} (hn : blankI n = false) : tidy (x ++ [32] ++ [smallI n]) := by
  have hs := small_ok hn
  have hl : x[x.length - 1]? ≠ some 32 := by
    intro e
    obtain ⟨h1, h2⟩ := List.getElem?_eq_some_iff.1 e
    have := (h _ h1).2.2 h2
    omega
  intro i hi
  simp only [List.length_append, List.length_singleton] at hi
  rcases Nat.lt_trichotomy i x.length with hlt | rfl | hgt
  · rw [List.getElem_append_left (by simp; omega), List.getElem_append_left hlt]
    obtain ⟨h1, h2, h3⟩ := h i hlt
    refine ⟨h1, h2, fun e => ?_⟩
    obtain ⟨a, b, c⟩ := h3 e
    refine ⟨a, by simp; omega, ?_⟩
    rw [List.append_assoc, List.getElem?_append_left (by omega)]
    exact c
  · have e : (x ++ [32] ++ [smallI n])[x.length] = 32 := by
      rw [List.getElem_append_left (by simp), List.getElem_append_right (Nat.le_refl _)]
      simp
    rw [e]
    refine ⟨by omega, by omega, fun _ => ⟨hp, by simp, ?_⟩⟩
    rw [List.append_assoc, List.getElem?_append_left (by omega)]
    exact hl
  · obtain rfl : i = x.length + 1 := by omega
    have e : (x ++ [32] ++ [smallI n])[x.length + 1] = smallI n := by
      rw [List.getElem_append_right (by simp)]
      simp
    rw [e]
    exact ⟨hs.1, hs.2.1, fun e => absurd e hs.2.2⟩
theorem fold_tidy (l : List Int) : tidy (foldI l) := by
  refine snoc_ind (P := fun l => tidy (foldI l)) (fun i h => by simp [foldI, accF] at h) (fun l n ih => ?_) l
  unfold foldI at *
  rw [accF_snoc]
  cases hn : blankI n with
  | true => rw [step_blank hn]; exact ih
  | false =>
    rw [step_not hn]
    cases hd : (accF l).2 with
    | true => exact tidy_put2 ih (due_len l hd) hn
    | false => exact tidy_put ih hn
/-- The document's way: what it has put out at a place. -/
def outR (s : List Int × Bool) : List Int := s.1 ++ (if s.2 = true then [32] else [])
theorem may12_small {n : Int} (h : may 12 n = true) : may 12 (smallI n) = true := by
  rw [may12_iff] at *
  unfold smallI
  split <;> omega
theorem fold_may (l : List Int) (h : ∀ n ∈ l, may 12 n = true) : ∀ n ∈ foldI l, may 12 n = true := by
  refine snoc_ind (P := fun l => (∀ n ∈ l, may 12 n = true) → ∀ n ∈ foldI l, may 12 n = true) (fun _ n hn => by simp [foldI, accF] at hn) (fun l n ih h => ?_) l h
  have ih := ih fun m hm => h m (List.mem_append_left _ hm)
  unfold foldI at *
  rw [accF_snoc]
  cases hn : blankI n with
  | true => rw [step_blank hn]; exact ih
  | false =>
    rw [step_not hn]
    intro m hm
    simp only [List.mem_append, List.mem_singleton] at hm
    rcases hm with hm | rfl
    · split at hm
      · rcases List.mem_append.1 hm with hm | hm
        · exact ih m hm
        · simp only [List.mem_singleton] at hm
          subst hm
          decide
      · exact ih m hm
    · exact may12_small (h n (by simp))
#print axioms fold_may
end Go.Fold

