/- Strings cut at a byte, hosts and what is under what, in plain words. No condition on a program. -/
import Derived.Lib.SplitLaws
import Derived.Test.YtmmjghdobdendaaDoorFPlain
set_option linter.unusedSimpArgs false
set_option linter.unusedVariables false
namespace Go.Fold
open Go.Lib Go.Txt
def splitC (c : UInt8) : List UInt8 → List (List UInt8)
  | [] => [[]]
  | x :: r => if x = c then [] :: splitC c r else (x :: (splitC c r).headD []) :: (splitC c r).tail
theorem splitC_step (c x : UInt8) (r : List UInt8) : splitC c (x :: r) = if x = c then [] :: splitC c r else (x :: (splitC c r).headD []) :: (splitC c r).tail := rfl
theorem splitC_ne (c : UInt8) (l : List UInt8) : splitC c l ≠ [] := by
  cases l with
  | nil => simp [splitC]
  | cons x r => unfold splitC; split <;> simp
theorem splitC_cons (c : UInt8) (l : List UInt8) : ∃ h t, splitC c l = h :: t := by
  cases e : splitC c l with
  | nil => exact absurd e (splitC_ne c l)
  | cons h t => exact ⟨h, t, rfl⟩
theorem splitC_app (c : UInt8) (a b : List UInt8) : splitC c (a ++ c :: b) = splitC c a ++ splitC c b := by
  induction a with
  | nil => simp [splitC]
  | cons x r ih =>
    rw [List.cons_append, splitC_step, splitC_step, ih]
    obtain ⟨h, t, e⟩ := splitC_cons c r
    rw [e]
    split <;> simp
theorem splitC_no {c : UInt8} {l : List UInt8} (h : c ∉ l) : splitC c l = [l] := by
  induction l with
  | nil => rfl
  | cons x r ih =>
    unfold splitC
    rw [if_neg (fun e => h (by rw [e]; simp)), ih (fun hm => h (List.mem_cons_of_mem _ hm))]
    rfl
def joinC (c : UInt8) : List (List UInt8) → List UInt8
  | [] => []
  | [x] => x
  | x :: y :: r => x ++ c :: joinC c (y :: r)
theorem join_cons (c : UInt8) (x : List UInt8) {r : List (List UInt8)} (h : r ≠ []) : joinC c (x :: r) = x ++ c :: joinC c r := by
  cases r with
  | nil => exact absurd rfl h
  | cons y r => rfl
theorem join_app (c : UInt8) (p q : List (List UInt8)) (hp : p ≠ []) (hq : q ≠ []) : joinC c (p ++ q) = joinC c p ++ c :: joinC c q := by
  induction p with
  | nil => exact absurd rfl hp
  | cons x r ih =>
    rw [List.cons_append]
    by_cases hr : r = []
    · subst hr
      rw [List.nil_append, join_cons c x hq]
      rfl
    · rw [join_cons c x (by simp [hr]), ih hr, join_cons c x hr, List.append_assoc, List.cons_append]
theorem join_split (c : UInt8) (l : List UInt8) : joinC c (splitC c l) = l := by
  induction l with
  | nil => rfl
  | cons x r ih =>
    unfold splitC
    obtain ⟨h, t, e⟩ := splitC_cons c r
    rw [e] at ih ⊢
    by_cases hx : x = c
    · rw [if_pos hx, join_cons c [] (by simp), ih, hx]; rfl
    · rw [if_neg hx]
      simp only [List.headD_cons, List.tail_cons]
      by_cases ht : t = []
      · subst ht
        rw [← ih]; rfl
      · rw [join_cons c h ht] at ih
        rw [join_cons c _ ht, ← ih]; rfl
theorem split_len (c : UInt8) (l : List UInt8) : (splitC c l).length ≤ l.length + 1 := by
  induction l with
  | nil => simp [splitC]
  | cons x r ih =>
    unfold splitC
    obtain ⟨h, t, e⟩ := splitC_cons c r
    rw [e] at ih ⊢
    simp only [List.length_cons] at ih
    split <;> simp <;> omega
theorem split_mem {c : UInt8} {l p : List UInt8} (h : p ∈ splitC c l) : p.length ≤ l.length := by
  induction l generalizing p with
  | nil => simp [splitC] at h; subst h; simp
  | cons x r ih =>
    unfold splitC at h
    obtain ⟨hd, t, e⟩ := splitC_cons c r
    rw [e] at h ih
    split at h
    · rcases List.mem_cons.1 h with rfl | h
      · simp
      · have := ih h; simp; omega
    · simp only [List.headD_cons, List.tail_cons] at h
      rcases List.mem_cons.1 h with rfl | h
      · have := ih (p := hd) (by simp); simp; omega
      · have := ih (p := p) (by simp [h]); simp; omega
/-- The kit's cut at one byte. -/
theorem splitK_one (c : UInt8) : ∀ (n : Nat) (s : List UInt8), s.length ≤ n → splitK [c] 0 (count s [c]) s = splitC c s := by
  intro n
  induction n with
  | zero =>
    intro s hs
    obtain rfl : s = [] := List.eq_nil_of_length_eq_zero (by omega)
    rw [count_one]
    rfl
  | succ n ih =>
    intro s hs
    rcases index_spec s [c] with ⟨h1, h2⟩ | ⟨i, h1, h2, h3, h4⟩
    · have hno : c ∉ s := by
        intro hm
        obtain ⟨j, hj, rfl⟩ := List.mem_iff_getElem.1 hm
        have := h2 j (by omega)
        rw [occAt_iff_take _ _ _ (by simp; omega)] at this
        rw [List.drop_eq_getElem_cons hj] at this
        simp only [List.length_singleton, List.take_succ_cons, List.take_zero, beq_self_eq_true, Bool.true_eq_false] at this
      rw [count_miss h1, splitC_no hno]
      rfl
    · have hi : i < s.length := by
        rcases occAt_room h3 with h | h
        · simp at h; omega
        · cases h
      have hc := occAt_head (s := s) (sub := [c]) rfl h3
      rw [List.getElem?_eq_getElem hi] at hc
      injection hc with hc
      have hno : c ∉ s.take i := by
        intro hm
        obtain ⟨j, hj, e⟩ := List.mem_iff_getElem.1 hm
        simp at hj
        have := h4 j (by omega)
        rw [occAt_iff_take _ _ _ (by simp; omega)] at this
        simp at e
        simp [List.drop_eq_getElem_cons (show j < s.length by omega), e] at this
      have hs2 : s = s.take i ++ c :: s.drop (i + 1) := by rw [← hc, ← List.drop_eq_getElem_cons hi, List.take_append_drop]
      rw [count_hit (by simp) h1, Nat.add_comm 1, splitK, if_neg (by rw [h1]; simp)]
      have e : (index s [c]).toNat = i := by omega
      rw [e, Nat.add_zero, List.length_singleton, ih _ (by simp; omega)]
      conv => rhs; rw [hs2]
      rw [splitC_app, splitC_no hno]
      rfl
end Go.Fold

