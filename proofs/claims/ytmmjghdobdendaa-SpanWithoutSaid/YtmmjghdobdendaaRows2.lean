/- Rows of the call's own: a cell read, a cell stored; several adopted. No condition. -/
import Derived.Test.YtmmjghdobdendaaBytes
set_option linter.unusedSimpArgs false
set_option linter.unusedVariables false
namespace Go.Mem
open Go.RowKit
end Go.Mem
namespace Go.Mem
open Go.RowKit
end Go.Mem
namespace Go.Mem
theorem Bs.at {w : World} {g o n c : Nat} {l : List UInt8} (h : Bs w (.slice (some ⟨g, o, none⟩) n c) l) (j : Nat) (hj : j < l.length) : w.cell? ⟨g, o + j, none⟩ = some (.int .u8 (l[j].toNat : Int)) := by
  obtain ⟨A', c', e, h1, h2, h3, h4⟩ := Bs.open h
  injection e with e1 e2 e3
  subst e1 e2 e3
  obtain ⟨b', o', e, hl, hc⟩ := h4 j hj
  injection e with e
  injection e with e1 e2
  subst e1 e2
  exact hc j hj
end Go.Mem
namespace Go.Mem
end Go.Mem
namespace Go.Mem
open Go.RowKit
end Go.Mem
namespace Go.Mem
end Go.Mem

