/- Hex, and the order of rows of bytes, in plain terms. No program in sight. -/
import Derived.Test.YtmmjghdobdendaaDoorMem
import Derived.Test.YtmmjghdobdendaaDoorBytes
set_option linter.unusedSimpArgs false
set_option linter.unusedVariables false
namespace Oct
open Go.Mem
def digI (n : Int) : Int := if n < 10 then 48 + n else 87 + n
def valI (c : Int) : Int := if 48 ≤ c ∧ c ≤ 57 then c - 48 else if 97 ≤ c ∧ c ≤ 102 then c - 87 else 16
def dig (n : Nat) : UInt8 := UInt8.ofNat (digI n).toNat
/-- A byte's two signs. -/
def hex1 (b : UInt8) : List UInt8 := [dig (b.toNat / 16), dig (b.toNat % 16)]
def hexL : List UInt8 → List UInt8
  | [] => []
  | b :: r => hex1 b ++ hexL r
theorem take_snoc {α : Type} (l : List α) (k : Nat) (h : k < l.length) : l.take (k + 1) = l.take k ++ [l[k]] := by
  rw [List.take_succ_eq_append_getElem h]
/-- Two signs' byte. -/
def two (a b : UInt8) : UInt8 := UInt8.ofNat (16 * valI a.toNat + valI b.toNat).toNat
def okB (a : UInt8) : Bool := decide (valI (a.toNat : Int) ≤ 15)
/-- The bytes of a text of hex; none: it is no hex. -/
def unh : List UInt8 → Option (List UInt8)
  | [] => some []
  | [_] => none
  | a :: b :: r => if okB a && okB b then (unh r).map (two a b :: ·) else none
/-- How many signs two rows begin with alike. -/
def comm : List UInt8 → List UInt8 → Nat
  | a :: r, b :: s => if a = b then comm r s + 1 else 0
  | _, _ => 0
theorem comm_le : ∀ (x y : List UInt8), comm x y ≤ x.length ∧ comm x y ≤ y.length
  | [], y => by cases y <;> simp [comm]
  | a :: r, [] => by simp [comm]
  | a :: r, b :: s => by
    have := comm_le r s
    simp only [comm]
    split <;> simp <;> omega
theorem comm_at : ∀ (x y : List UInt8) (k : Nat), k ≤ x.length → k ≤ y.length → x.take k = y.take k → (k = x.length ∨ k = y.length ∨ ∃ (h1 : k < x.length) (h2 : k < y.length), x[k] ≠ y[k]) → comm x y = k
  | [], y, k, h1, _, _, _ => by
    have : k = 0 := by simpa using h1
    subst this
    cases y <;> rfl
  | a :: r, [], k, _, h2, _, _ => by
    have : k = 0 := by simpa using h2
    subst this
    rfl
  | a :: r, b :: s, 0, _, _, _, h => by
    rcases h with h | h | ⟨_, _, h⟩
    · simp at h
    · simp at h
    · simp only [comm]
      rw [if_neg (by simpa using h)]
  | a :: r, b :: s, k + 1, h1, h2, ht, h => by
    simp only [List.take_succ_cons, List.cons.injEq] at ht
    simp only [comm]
    rw [if_pos ht.1, comm_at r s k (by simpa using h1) (by simpa using h2) ht.2 (by simpa using h)]
theorem take_alike (x y : List UInt8) (k : Nat) (h1 : k < x.length) (h2 : k < y.length) (h : x.take k = y.take k) (he : x[k] = y[k]) : x.take (k + 1) = y.take (k + 1) := by
  rw [take_snoc x k h1, take_snoc y k h2, h, he]
/-- Which of two rows is less: -1, 0, 1. -/
def cmpL : List UInt8 → List UInt8 → Int
  | [], [] => 0
  | [], _ :: _ => -1
  | _ :: _, [] => 1
  | a :: r, b :: s => if a.toNat < b.toNat then -1 else if b.toNat < a.toNat then 1 else cmpL r s
theorem comm_take : ∀ (x y : List UInt8), x.take (comm x y) = y.take (comm x y)
  | [], y => by cases y <;> rfl
  | a :: r, [] => rfl
  | a :: r, b :: s => by
    simp only [comm]
    split
    · rename_i h
      rw [List.take_succ_cons, List.take_succ_cons, h, comm_take r s]
    · rfl
theorem comm_ne : ∀ (x y : List UInt8) (h1 : comm x y < x.length) (h2 : comm x y < y.length), x[comm x y] ≠ y[comm x y]
  | [], y, h1, _ => by simp at h1
  | a :: r, [], _, h2 => by simp at h2
  | a :: r, b :: s, h1, h2 => by
    by_cases h : a = b
    · have e : comm (a :: r) (b :: s) = comm r s + 1 := by simp only [comm]; rw [if_pos h]
      have := comm_ne r s (by rw [e] at h1; simpa using h1) (by rw [e] at h2; simpa using h2)
      simpa [e] using this
    · have e : comm (a :: r) (b :: s) = 0 := by simp only [comm]; rw [if_neg h]
      simpa [e] using h
/-- How many signs all rows begin with alike: with the first n rows. -/
def commsN (ls : List (List UInt8)) : Nat → Nat
  | 0 => (ls.headD []).length
  | k + 1 => min (commsN ls k) (comm (ls.headD []) ((ls[k + 1]?).getD []))
def comms (ls : List (List UInt8)) : Nat := commsN ls (ls.length - 1)
theorem comm_self_take : ∀ (x y : List UInt8) (n : Nat), min n (comm (x.take n) y) = min n (comm x y)
  | [], y, n => by simp
  | a :: r, [], n => by cases n <;> simp [comm]
  | a :: r, b :: s, 0 => by simp
  | a :: r, b :: s, n + 1 => by
    have ih := comm_self_take r s n
    simp only [List.take_succ_cons, comm]
    split
    · omega
    · rfl
theorem commsN_le (ls : List (List UInt8)) : ∀ k, commsN ls k ≤ (ls.headD []).length
  | 0 => Nat.le_refl _
  | k + 1 => Nat.le_trans (Nat.min_le_left _ _) (commsN_le ls k)
theorem commsN_at (ls : List (List UInt8)) : ∀ k j, 1 ≤ j → j ≤ k → commsN ls k ≤ comm (ls.headD []) ((ls[j]?).getD [])
  | 0, j, h1, h2 => by omega
  | k + 1, j, h1, h2 => by
    by_cases h : j = k + 1
    · subst h
      exact Nat.min_le_right _ _
    · exact Nat.le_trans (Nat.min_le_left _ _) (commsN_at ls k j h1 (by omega))
theorem commsN_ge (ls : List (List UInt8)) (n : Nat) (h0 : n ≤ (ls.headD []).length) : ∀ k, (∀ j, 1 ≤ j → j ≤ k → n ≤ comm (ls.headD []) ((ls[j]?).getD [])) → n ≤ commsN ls k
  | 0, _ => h0
  | k + 1, h => by
    have := commsN_ge ls n h0 k fun j h1 h2 => h j h1 (by omega)
    have h2 := h (k + 1) (by omega) (Nat.le_refl _)
    simp only [commsN]
    omega
theorem comm_up {x y : List UInt8} {n : Nat} (h : n ≤ comm x y) (h1 : n < x.length) (h2 : n < y.length) (he : x[n] = y[n]) : n + 1 ≤ comm x y := by
  rcases Nat.lt_or_ge n (comm x y) with hlt | hge
  · exact hlt
  · have e : comm x y = n := by omega
    have := comm_ne x y (by omega) (by omega)
    simp only [e] at this
    exact absurd he this
theorem head_at {α : Type} (ls : List α) (d : α) (h : 0 < ls.length) : ls.headD d = ls[0] := by
  cases ls with
  | nil => cases h
  | cons x r => rfl
theorem comms_first (ls : List (List UInt8)) (h : 0 < ls.length) : commsN ls 0 = ls[0].length := by
  show (ls.headD []).length = _
  rw [head_at ls [] h]
theorem commsN_le0 (ls : List (List UInt8)) (k : Nat) (h : 0 < ls.length) : commsN ls k ≤ ls[0].length := by
  have := commsN_le ls k
  rwa [head_at ls [] h] at this
theorem comms_step (ls : List (List UInt8)) (k : Nat) (h0 : 0 < ls.length) (h : k + 1 < ls.length) : commsN ls (k + 1) = min (commsN ls k) (comm (ls[0].take (commsN ls k)) ls[k + 1]) := by
  rw [comm_self_take]
  simp only [commsN]
  rw [head_at ls [] h0, List.getElem?_eq_getElem h]
  rfl
/-- The first n signs are alike in the rows up to k. -/
def AllC (ls : List (List UInt8)) (n k : Nat) : Prop := ∀ j, 1 ≤ j → j < k → n ≤ comm (ls.headD []) ((ls[j]?).getD [])
end Oct

