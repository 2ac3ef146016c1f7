/- Hex, and the order of rows of bytes, in plain terms. No program in sight. -/
import Derived.Test.YtogliinfdfkobaaMem
import Derived.Test.YtogliinfdfkobaaBytes
set_option linter.unusedSimpArgs false
set_option linter.unusedVariables false
namespace Oct
open Go.Mem
def digI (n : Int) : Int := if n < 10 then 48 + n else 87 + n
def valI (c : Int) : Int := if 48 ≤ c ∧ c ≤ 57 then c - 48 else if 97 ≤ c ∧ c ≤ 102 then c - 87 else 16
def dig (n : Nat) : UInt8 := UInt8.ofNat (digI n).toNat
theorem digI_bd {n : Int} (h0 : 0 ≤ n) (h1 : n ≤ 15) : 0 ≤ digI n ∧ digI n ≤ 255 := by unfold digI; omega
theorem u8c_dig (n : Nat) (h1 : n ≤ 15) : u8c (dig n) = .int .u8 (digI n) := by
  have := digI_bd (n := n) (by omega) (by omega)
  exact u8c_of this.1 this.2
/-- A byte's two signs. -/
def hex1 (b : UInt8) : List UInt8 := [dig (b.toNat / 16), dig (b.toNat % 16)]
def hexL : List UInt8 → List UInt8
  | [] => []
  | b :: r => hex1 b ++ hexL r
theorem hexL_append (a b : List UInt8) : hexL (a ++ b) = hexL a ++ hexL b := by
  induction a with
  | nil => rfl
  | cons x r ih => simp [hexL, ih]
theorem take_snoc {α : Type} (l : List α) (k : Nat) (h : k < l.length) : l.take (k + 1) = l.take k ++ [l[k]] := by
  rw [List.take_succ_eq_append_getElem h]
theorem hexL_snoc (l : List UInt8) (k : Nat) (h : k < l.length) : hexL (l.take (k + 1)) = hexL (l.take k) ++ hex1 l[k] := by
  rw [take_snoc l k h, hexL_append]
  simp [hexL]
theorem hex1_cells (b : UInt8) : (hex1 b).map u8c = [.int .u8 (digI ((b.toNat : Int) / 16)), .int .u8 (digI ((b.toNat : Int) % 16))] := by
  have := b.toNat_lt
  simp only [hex1, List.map_cons, List.map_nil]
  rw [u8c_dig _ (by omega), u8c_dig _ (by omega)]
  rfl
/-- Two signs' byte. -/
def two (a b : UInt8) : UInt8 := UInt8.ofNat (16 * valI a.toNat + valI b.toNat).toNat
def okB (a : UInt8) : Bool := decide (valI (a.toNat : Int) ≤ 15)
/-- The bytes of a text of hex; none: it is no hex. -/
def unh : List UInt8 → Option (List UInt8)
  | [] => some []
  | [_] => none
  | a :: b :: r => if okB a && okB b then (unh r).map (two a b :: ·) else none
/-- How many signs two rows begin with alike. -/
def comm : List UInt8 → List UInt8 → Nat
  | a :: r, b :: s => if a = b then comm r s + 1 else 0
  | _, _ => 0
/-- Which of two rows is less: -1, 0, 1. -/
def cmpL : List UInt8 → List UInt8 → Int
  | [], [] => 0
  | [], _ :: _ => -1
  | _ :: _, [] => 1
  | a :: r, b :: s => if a.toNat < b.toNat then -1 else if b.toNat < a.toNat then 1 else cmpL r s
/-- How many signs all rows begin with alike: with the first n rows. -/
def commsN (ls : List (List UInt8)) : Nat → Nat
  | 0 => (ls.headD []).length
  | k + 1 => min (commsN ls k) (comm (ls.headD []) ((ls[k + 1]?).getD []))
def comms (ls : List (List UInt8)) : Nat := commsN ls (ls.length - 1)
/-- The first n signs are alike in the rows up to k. -/
def AllC (ls : List (List UInt8)) (n k : Nat) : Prop := ∀ j, 1 ≤ j → j < k → n ≤ comm (ls.headD []) ((ls[j]?).getD [])
end Oct

