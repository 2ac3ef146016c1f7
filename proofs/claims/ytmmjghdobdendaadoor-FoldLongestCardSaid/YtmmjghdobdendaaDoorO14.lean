/- Lemmas and walks on the way to the seat's laws; each theorem says its own conditions. -/
import Derived.Test.YtmmjghdobdendaaDoorK16
import Derived.Test.YtmmjghdobdendaaDoorB1
import Derived.Test.YtmmjghdobdendaaDoorLiftB
set_option linter.unusedSimpArgs false
set_option linter.unusedVariables false
set_option linter.unusedSimpArgs false
set_option linter.unusedVariables false
set_option maxRecDepth 100000
namespace Go.Proofs.YtmmjghdobdendaaDoor
open Go.RowKit Go.Mem Go.Reg Oct Bit Go.Txt Go.Shelf Go.LawLift Go.Fold
def FRel (w : World) (x : List Int) (v ix : Value) (wr : World) : Prop := ∃ i : Nat, i ≤ x.length ∧ ix = .int .i64 i ∧ Hp w [.row 3 1 v x.length (zvs x)] wr
theorem FRel.mk {w wr : World} {x : List Int} {v ix : Value} (i : Nat) (h1 : i ≤ x.length) (h2 : ix = .int .i64 i) (h3 : Hp w [.row 3 1 v x.length (zvs x)] wr) : FRel w x v ix wr := ⟨i, h1, h2, h3⟩
theorem row_base {w : World} {B : Nat} {e : TypeId} {A : Option Addr} {n c : Nat} {xs : List Value} (h : w.ownsRow B e 1 (.slice A n c) n xs) (hn : 0 < n) : ∃ b, A = some ⟨b, 0, none⟩ := by
  rcases h.2 with ⟨-, h0⟩ | ⟨g, cap, cur, hv, -⟩
  · omega
  · injection hv with e
    exact ⟨g, e⟩
end Go.Proofs.YtmmjghdobdendaaDoor

set_option linter.unusedSimpArgs false
set_option linter.unusedVariables false
set_option maxRecDepth 100000
namespace Go.Proofs.YtmmjghdobdendaaDoor
open Go.RowKit Go.Mem Go.Reg Oct
end Go.Proofs.YtmmjghdobdendaaDoor

set_option linter.unusedSimpArgs false
set_option linter.unusedVariables false
set_option maxRecDepth 100000
namespace Go.Proofs.YtmmjghdobdendaaDoor
open Go.RowKit Go.Mem Go.Reg Oct
/-- What peeking tells. -/
def peekV (l : List UInt8) (k : Nat) : Value := match l[k]? with
  | some x => .tuple #[u8c x, .int .i64 0]
  | none => .tuple #[.int .u8 0, .int .i64 3]
end Go.Proofs.YtmmjghdobdendaaDoor

set_option linter.unusedSimpArgs false
set_option linter.unusedVariables false
set_option maxRecDepth 100000
namespace Go.Proofs.YtmmjghdobdendaaDoor
open Go.RowKit Go.Mem Go.Reg Oct
end Go.Proofs.YtmmjghdobdendaaDoor

set_option linter.unusedSimpArgs false
set_option linter.unusedVariables false
set_option maxRecDepth 100000
namespace Go.Proofs.YtmmjghdobdendaaDoor
open Go.RowKit Go.Mem Go.Reg Oct
end Go.Proofs.YtmmjghdobdendaaDoor

set_option linter.unusedSimpArgs false
set_option linter.unusedVariables false
set_option maxRecDepth 100000
namespace Go.Proofs.YtmmjghdobdendaaDoor
open Go.RowKit Go.Mem Go.Reg Oct
/-- What holds at the head of the reference's loop. -/
def RunAt (l : List UInt8) (i : Nat) (n : Int) (xs : List UInt8) : Prop :=
  xs.length = i / 2 ∧ unh (l.take (2 * (i / 2))) = some xs ∧ 0 ≤ n ∧ n ≤ 255 ∧ (i % 2 = 1 → ∃ h : i - 1 < l.length, okB l[i - 1] = true ∧ n % 16 = valI (l[i - 1].toNat : Int))
def RunRel (s : ByteArray) (w : World) (out nx ix : Value) (wr : World) : Prop :=
  ∃ (i : Nat) (n : Int) (xs : List UInt8), i ≤ s.size ∧ ix = .int .i64 i ∧ nx = .int .i64 n ∧ Hid (RunAt s.data.toList i n xs) ∧ Hp w [.row 5 1 out xs.length (xs.map u8c)] wr
end Go.Proofs.YtmmjghdobdendaaDoor

set_option linter.unusedSimpArgs false
set_option linter.unusedVariables false
set_option maxRecDepth 100000
namespace Go.Proofs.YtmmjghdobdendaaDoor
open Go.RowKit Go.Mem Go.Reg Oct
end Go.Proofs.YtmmjghdobdendaaDoor

set_option linter.unusedSimpArgs false
set_option linter.unusedVariables false
set_option maxRecDepth 100000
namespace Go.Proofs.YtmmjghdobdendaaDoor
open Go.RowKit Go.Mem Go.Reg Oct
end Go.Proofs.YtmmjghdobdendaaDoor

set_option linter.unusedSimpArgs false
set_option linter.unusedVariables false
set_option maxRecDepth 100000
namespace Go.Proofs.YtmmjghdobdendaaDoor
open Go.RowKit Go.Mem Go.Reg Oct Go.LawLift
end Go.Proofs.YtmmjghdobdendaaDoor

