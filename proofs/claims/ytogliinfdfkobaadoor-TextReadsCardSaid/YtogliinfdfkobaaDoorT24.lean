/- Lemmas and walks on the way to the seat's laws; each theorem says its own conditions. -/
import Derived.Test.YtogliinfdfkobaaDoorH14
import Derived.Test.YtogliinfdfkobaaDoorH8
set_option linter.unusedSimpArgs false
set_option linter.unusedVariables false
set_option linter.unusedSimpArgs false
set_option linter.unusedVariables false
set_option maxRecDepth 100000
namespace Go.Proofs.YtogliinfdfkobaaDoor
open Go.RowKit Go.Mem Go.Reg Hd Go.LawLift
end Go.Proofs.YtogliinfdfkobaaDoor

set_option linter.unusedSimpArgs false
set_option linter.unusedVariables false
set_option maxRecDepth 100000
namespace Go.Proofs.YtogliinfdfkobaaDoor
open Go.RowKit Go.Mem Go.Reg Hd Go.LawLift Oct
/-- The bytes of a tag, or an error. -/
def tagR (t : Tg) : List UInt8 × Nat := if okTag t then (tagL t, 0) else ([], 1)
def lenR (n : Int) : List UInt8 × Nat := if n < 0 then ([], 1) else if 16777216 < n then ([], 2) else (lenL n, 0)
end Go.Proofs.YtogliinfdfkobaaDoor

set_option linter.unusedSimpArgs false
set_option linter.unusedVariables false
set_option maxRecDepth 100000
namespace Go.Proofs.YtogliinfdfkobaaDoor
open Go.RowKit Go.Mem Go.Reg Hd Go.LawLift Oct
end Go.Proofs.YtogliinfdfkobaaDoor

set_option linter.unusedSimpArgs false
set_option linter.unusedVariables false
set_option maxRecDepth 100000
namespace Go.Proofs.YtogliinfdfkobaaDoor
open Go.RowKit Go.Mem Go.Reg Hd Go.LawLift Oct
/-- How long a whole is: nothing where the tag or the length is none. -/
def sizeR (t : Tg) (n : Int) : Int := if (tagR t).2 ≠ 0 ∨ (lenR n).2 ≠ 0 then 0 else ((tagR t).1.length : Int) + (lenR n).1.length + n
end Go.Proofs.YtogliinfdfkobaaDoor

/- What a reader of tags and lengths took in is what a writer puts out. No program in sight. -/
namespace Hd
open Go Go.Mem
end Hd

/- Opening a tag and length over bytes, in plain terms. No program in sight. -/
namespace Hd
open Go Go.Mem
deriving instance DecidableEq for Tg
/-- A whole opened at a place: its bytes, the place behind, an error. -/
def opR (l : List UInt8) (k : Nat) (t : Tg) : List UInt8 × Nat × Nat :=
  if (rdHead l k).2.2.1 ≠ 0 then ([], k, (rdHead l k).2.2.1)
  else if (rdHead l k).1 ≠ t then ([], k, 4)
  else if l.length - (rdHead l k).2.2.2 < (rdHead l k).2.1 then ([], k, 3)
  else ((l.drop (rdHead l k).2.2.2).take (rdHead l k).2.1, (rdHead l k).2.2.2 + (rdHead l k).2.1, 0)
/-- A whole that fills the bytes. -/
def alR (l : List UInt8) (t : Tg) : List UInt8 × Nat :=
  if (opR l 0 t).2.2 ≠ 0 then ([], (opR l 0 t).2.2)
  else if (opR l 0 t).2.1 < l.length then ([], 7)
  else ((opR l 0 t).1, 0)
end Hd
namespace Hd
open Go Go.Mem
end Hd

/- What a writer of tags and lengths put out is what a reader takes in; a part of it is too short. No program in sight. -/
namespace Hd
open Go Go.Mem
/-- The digits that a tag's first byte is followed by. -/
def tailL (n : Int) : List UInt8 := (if 16384 ≤ n then [byteI (128 + n / 16384)] else []) ++ (if 128 ≤ n then [byteI (128 + n / 128 % 128)] else []) ++ [byteI (n % 128)]
/-- A whole over content. -/
def wholeL (t : Tg) (l : List UInt8) : List UInt8 := tagL t ++ lenL (l.length : Nat) ++ l
end Hd

set_option linter.unusedSimpArgs false
set_option linter.unusedVariables false
set_option maxRecDepth 100000
namespace Go.Proofs.YtogliinfdfkobaaDoor
open Go.RowKit Go.Mem Go.Reg Oct Bit Hd Go.Txt Go.Shelf Go.LawLift
def wrL (k : Int) (l : List UInt8) : List UInt8 := if rightT k l then wholeL ⟨0, k, false⟩ l else []
end Go.Proofs.YtogliinfdfkobaaDoor

