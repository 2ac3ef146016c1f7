/- Hex, and the order of rows of bytes, in plain terms. No program in sight. -/
import Derived.Test.YtogliinfdfkobaaMem
import Derived.Test.YtogliinfdfkobaaBytes
set_option linter.unusedSimpArgs false
set_option linter.unusedVariables false
namespace Oct
open Go.Mem
def digI (n : Int) : Int := if n < 10 then 48 + n else 87 + n
def valI (c : Int) : Int := if 48 ≤ c ∧ c ≤ 57 then c - 48 else if 97 ≤ c ∧ c ≤ 102 then c - 87 else 16
def dig (n : Nat) : UInt8 := UInt8.ofNat (digI n).toNat
theorem digI_bd {n : Int} (h0 : 0 ≤ n) (h1 : n ≤ 15) : 0 ≤ digI n ∧ digI n ≤ 255 := by unfold digI; omega
theorem u8c_dig (n : Nat) (h1 : n ≤ 15) : u8c (dig n) = .int .u8 (digI n) := by
  have := digI_bd (n := n) (by omega) (by omega)
  exact u8c_of this.1 this.2
/-- A byte's two signs. -/
def hex1 (b : UInt8) : List UInt8 := [dig (b.toNat / 16), dig (b.toNat % 16)]
def hexL : List UInt8 → List UInt8
  | [] => []
  | b :: r => hex1 b ++ hexL r
theorem hexL_append (a b : List UInt8) : hexL (a ++ b) = hexL a ++ hexL b := by
  induction a with
  | nil => rfl
  | cons x r ih => simp [hexL, ih]
theorem take_snoc {α : Type} (l : List α) (k : Nat) (h : k < l.length) : l.take (k + 1) = l.take k ++ [l[k]] := by
  rw [List.take_succ_eq_append_getElem h]
theorem hexL_snoc (l : List UInt8) (k : Nat) (h : k < l.length) : hexL (l.take (k + 1)) = hexL (l.take k) ++ hex1 l[k] := by
  rw [take_snoc l k h, hexL_append]
  simp [hexL]
theorem hex1_cells (b : UInt8) : (hex1 b).map u8c = [.int .u8 (digI ((b.toNat : Int) / 16)), .int .u8 (digI ((b.toNat : Int) % 16))] := by
  have := b.toNat_lt
  simp only [hex1, List.map_cons, List.map_nil]
  rw [u8c_dig _ (by omega), u8c_dig _ (by omega)]
  rfl
/-- Two signs' byte. -/
def two (a b : UInt8) : UInt8 := UInt8.ofNat (16 * valI a.toNat + valI b.toNat).toNat
def okB (a : UInt8) : Bool := decide (valI (a.toNat : Int) ≤ 15)
/-- The bytes of a text of hex; none: it is no hex. -/
def unh : List UInt8 → Option (List UInt8)
  | [] => some []
  | [_] => none
  | a :: b :: r => if okB a && okB b then (unh r).map (two a b :: ·) else none
/-- How many signs two rows begin with alike. -/
def comm : List UInt8 → List UInt8 → Nat
  | a :: r, b :: s => if a = b then comm r s + 1 else 0
  | _, _ => 0
theorem take_alike (x y : List UInt8) (k : Nat) (h1 : k < x.length) (h2 : k < y.length) (h : x.take k = y.take k) (he : x[k] = y[k]) : x.take (k + 1) = y.take (k + 1) := by
  rw [take_snoc x k h1, take_snoc y k h2, h, he]
/-- Which of two rows is less: -1, 0, 1. -/
def cmpL : List UInt8 → List UInt8 → Int
  | [], [] => 0
  | [], _ :: _ => -1
  | _ :: _, [] => 1
  | a :: r, b :: s => if a.toNat < b.toNat then -1 else if b.toNat < a.toNat then 1 else cmpL r s
theorem cmpL_drop : ∀ (x y : List UInt8) (k : Nat), k ≤ x.length → k ≤ y.length → x.take k = y.take k → cmpL x y = cmpL (x.drop k) (y.drop k)
  | _, _, 0, _, _, _ => rfl
  | [], _, k + 1, h, _, _ => by simp at h
  | _ :: _, [], k + 1, _, h, _ => by simp at h
  | a :: r, b :: s, k + 1, h1, h2, h => by
    simp only [List.take_succ_cons, List.cons.injEq] at h
    obtain ⟨rfl, h⟩ := h
    simp only [cmpL, List.drop_succ_cons]
    rw [if_neg (by omega), if_neg (by omega), cmpL_drop r s k (by simpa using h1) (by simpa using h2) h]
theorem cmpL_zero : ∀ (x y : List UInt8), cmpL x y = 0 ↔ x = y
  | [], [] => by simp [cmpL]
  | [], b :: s => by simp [cmpL]
  | a :: r, [] => by simp [cmpL]
  | a :: r, b :: s => by
    simp only [cmpL, List.cons.injEq]
    split
    · constructor
      · intro h; omega
      · rintro ⟨rfl, _⟩; omega
    · split
      · constructor
        · intro h; omega
        · rintro ⟨rfl, _⟩; omega
      · rw [cmpL_zero r s]
        have : a = b := UInt8.toNat_inj.1 (by omega)
        simp [this]
theorem cmpL_both {x y : List UInt8} {k : Nat} (h1 : k < x.length) (h2 : k < y.length) (h : x.take k = y.take k) : cmpL x y = if x[k].toNat < y[k].toNat then -1 else if y[k].toNat < x[k].toNat then 1 else cmpL (x.drop (k + 1)) (y.drop (k + 1)) := by
  rw [cmpL_drop x y k (by omega) (by omega) h, List.drop_eq_getElem_cons h1, List.drop_eq_getElem_cons h2, cmpL]
theorem cmpL_left {x y : List UInt8} {k : Nat} (h1 : k = x.length) (h2 : k < y.length) (h : x.take k = y.take k) : cmpL x y = -1 := by
  rw [cmpL_drop x y k (by omega) (by omega) h, List.drop_eq_getElem_cons h2, List.drop_eq_nil_of_le (show x.length ≤ k by omega)]
  rfl
theorem cmpL_right {x y : List UInt8} {k : Nat} (h1 : k < x.length) (h2 : k = y.length) (h : x.take k = y.take k) : cmpL x y = 1 := by
  rw [cmpL_drop x y k (by omega) (by omega) h, List.drop_eq_getElem_cons h1, List.drop_eq_nil_of_le (show y.length ≤ k by omega)]
  rfl
theorem cmpL_none {x y : List UInt8} {k : Nat} (h1 : k = x.length) (h2 : k = y.length) (h : x.take k = y.take k) : cmpL x y = 0 := by
  rw [cmpL_drop x y k (by omega) (by omega) h, List.drop_eq_nil_of_le (by omega), List.drop_eq_nil_of_le (by omega)]
  rfl
/-- How many signs all rows begin with alike: with the first n rows. -/
def commsN (ls : List (List UInt8)) : Nat → Nat
  | 0 => (ls.headD []).length
  | k + 1 => min (commsN ls k) (comm (ls.headD []) ((ls[k + 1]?).getD []))
def comms (ls : List (List UInt8)) : Nat := commsN ls (ls.length - 1)
/-- The first n signs are alike in the rows up to k. -/
def AllC (ls : List (List UInt8)) (n k : Nat) : Prop := ∀ j, 1 ≤ j → j < k → n ≤ comm (ls.headD []) ((ls[j]?).getD [])
end Oct

