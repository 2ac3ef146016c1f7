/- What a reader of tags and lengths took in is what a writer puts out. No program in sight. -/
import Derived.Test.YtldblmgmcmnepaaHPlain
set_option linter.unusedSimpArgs false
set_option linter.unusedVariables false
namespace Hd
open Go Go.Mem
end Hd

/- Opening a tag and length over bytes, in plain terms. No program in sight. -/
namespace Hd
open Go Go.Mem
deriving instance DecidableEq for Tg
/-- A whole opened at a place: its bytes, the place behind, an error. -/
def opR (l : List UInt8) (k : Nat) (t : Tg) : List UInt8 × Nat × Nat :=
  if (rdHead l k).2.2.1 ≠ 0 then ([], k, (rdHead l k).2.2.1)
  else if (rdHead l k).1 ≠ t then ([], k, 4)
  else if l.length - (rdHead l k).2.2.2 < (rdHead l k).2.1 then ([], k, 3)
  else ((l.drop (rdHead l k).2.2.2).take (rdHead l k).2.1, (rdHead l k).2.2.2 + (rdHead l k).2.1, 0)
/-- A whole that fills the bytes. -/
def alR (l : List UInt8) (t : Tg) : List UInt8 × Nat :=
  if (opR l 0 t).2.2 ≠ 0 then ([], (opR l 0 t).2.2)
  else if (opR l 0 t).2.1 < l.length then ([], 7)
  else ((opR l 0 t).1, 0)
end Hd
namespace Hd
open Go Go.Mem
end Hd

