/- Lemmas and walks on the way to the seat's laws; each theorem says its own conditions. -/
import Derived.Test.YtmmjghdobdendaaDoorO5
import Derived.Test.YtmmjghdobdendaaDoorO1
import Derived.Test.YtmmjghdobdendaaDoorRegT
import Derived.Test.YtmmjghdobdendaaDoorMem
import Derived.Test.YtmmjghdobdendaaDoorBytes
import Derived.Test.YtmmjghdobdendaaDoorOPlain
set_option linter.unusedSimpArgs false
set_option linter.unusedVariables false
set_option linter.unusedSimpArgs false
set_option linter.unusedVariables false
set_option maxRecDepth 100000
namespace Go.Proofs.YtmmjghdobdendaaDoor
open Go.RowKit Go.Mem Go.Reg Oct
end Go.Proofs.YtmmjghdobdendaaDoor

set_option linter.unusedSimpArgs false
set_option linter.unusedVariables false
set_option maxRecDepth 100000
namespace Go.Proofs.YtmmjghdobdendaaDoor
open Go.RowKit Go.Mem Go.Reg Oct
end Go.Proofs.YtmmjghdobdendaaDoor

set_option linter.unusedSimpArgs false
set_option linter.unusedVariables false
set_option maxRecDepth 100000
namespace Go.Proofs.YtmmjghdobdendaaDoor
open Go.RowKit Go.Mem Go.Reg Oct
/-- What a parser of hex tells. -/
def UnhPost (w : World) (bad : Value) (l : List UInt8) (ok : Value) (e : Ending) (w' : World) : Prop :=
  (match unh l with
    | some xs => ∃ v, e = .returned (.tuple #[v, ok]) ∧ w'.ownsRow w.heap.size 5 1 v xs.length (xs.map u8c)
    | none => e = .returned (.tuple #[.slice none 0 0, bad])) ∧ Below w.heap.size w w'
theorem ownsOf {w0 w : World} {L : List Ent} (H : Hp w0 L w) (i : Nat) {e : TypeId} {size : Nat} {v : Value} {n : Nat} {xs : List Value} (hi : L[i]? = some (.row e size v n xs)) : w.ownsRow w0.heap.size e size v n xs := H.ok _ (List.mem_of_getElem? hi)
end Go.Proofs.YtmmjghdobdendaaDoor

set_option linter.unusedSimpArgs false
set_option linter.unusedVariables false
set_option maxRecDepth 100000
namespace Go.Proofs.YtmmjghdobdendaaDoor
open Go.RowKit Go.Mem Go.Reg Oct
end Go.Proofs.YtmmjghdobdendaaDoor

/- Bits of bytes, in plain terms. No program in sight. -/
namespace Bit
open Go Go.Mem Oct
/-- The last byte's value; none: 0. -/
def lastN (l : List UInt8) : Nat := (l[l.length - 1]?.getD 0).toNat
/-- Is it a bit string, with so many bits unused? -/
def rightB (u : Int) (l : List UInt8) : Bool := if l.length = 0 then u == 0 else decide (0 ≤ u ∧ u ≤ 7) && (lastN l % 2 ^ u.toNat == 0)
/-- One bit of bytes, 0 or 1. -/
def bitI (l : List UInt8) (i : Nat) : Nat := (l[i / 8]?.getD 0).toNat / 2 ^ (7 - i % 8) % 2
def bitN (l : List UInt8) (i : Nat) : Bool := bitI l i == 1
def bitsL (l : List UInt8) (k : Nat) : List Nat := (List.range k).map (bitI l)
/-- Whole numbers as values. -/
def ivs (xs : List Nat) : List Value := xs.map fun (n : Nat) => .int .i64 (n : Int)
def zvs (xs : List Int) : List Value := xs.map (.int .i64)
theorem ivs_zvs (xs : List Nat) : ivs xs = zvs (xs.map fun (n : Nat) => (n : Int)) := by simp [ivs, zvs]
theorem zvs_snoc (xs : List Int) (x : Int) : zvs xs ++ [.int .i64 x] = zvs (xs ++ [x]) := by simp [zvs]
/-- How many bits a string has; a wrong one: none. -/
def lenI (u : Int) (l : List UInt8) : Int := if rightB u l then 8 * (l.length : Int) - u else 0
/-- The places of the bits that are 1. -/
def onesL (l : List UInt8) (n : Nat) : List Nat := (List.range n).filter (bitN l)
/-- The flags of a string, or an error. -/
def flagsR (u : Int) (l : List UInt8) : List Nat × Int :=
  if rightB u l then (if 32 < lenI u l ∨ (0 < lenI u l ∧ bitN l ((lenI u l).toNat - 1) = false) then ([], 6) else (onesL l (lenI u l).toNat, 0)) else ([], 1)
/-- What a string's contents hold. -/
def contL (u : Int) (l : List UInt8) : List UInt8 := UInt8.ofNat u.toNat :: l
/-- The string of contents, or an error: 6. -/
def parseB (b : List UInt8) : Bool := match b with
  | [] => false
  | x :: r => rightB (x.toNat : Int) r
/-- Are they flags: ever greater, from 0 to 31? -/
def okFrom (last : Int) : List Int → Bool
  | [] => true
  | x :: r => decide (last < x ∧ x < 32) && okFrom x r
def okF (l : List Int) : Bool := okFrom (-1) l
def lastF (l : List Int) : Int := l.getLast?.getD (-1)
theorem snoc_cases {α : Type} (l : List α) : l = [] ∨ ∃ r x, l = r ++ [x] := by
  cases h : l.reverse with
  | nil => exact .inl (by simpa using h)
  | cons x r => exact .inr ⟨r.reverse, x, by rw [← List.reverse_reverse l, h, List.reverse_cons]⟩
/-- A bit is set. -/
def orAt (B : List UInt8) (i : Nat) : List UInt8 := B.set (i / 8) (UInt8.ofNat ((B[i / 8]?.getD 0).toNat ||| (128 / 2 ^ (i % 8))))
/-- The bytes whose bits are set at the places l, n places in all. -/
def packL (l : List Int) : List UInt8 := (l.foldl (fun B x => orAt B x.toNat) (List.replicate (((lastF l + 1).toNat + 7) / 8) 0))
end Bit

set_option linter.unusedSimpArgs false
set_option linter.unusedVariables false
set_option maxRecDepth 100000
namespace Go.Proofs.YtmmjghdobdendaaDoor
open Go.RowKit Go.Mem Go.Reg Oct Bit
end Go.Proofs.YtmmjghdobdendaaDoor

