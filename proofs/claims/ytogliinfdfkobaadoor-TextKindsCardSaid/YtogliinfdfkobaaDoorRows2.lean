/- Rows of the call's own: a cell read, a cell stored; several adopted. No condition. -/
import Derived.Test.YtogliinfdfkobaaDoorBytes
set_option linter.unusedSimpArgs false
set_option linter.unusedVariables false
namespace Go.Mem
open Go.RowKit
end Go.Mem
namespace Go.Mem
open Go.RowKit
end Go.Mem
namespace Go.Mem
theorem Bs.at {w : World} {g o n c : Nat} {l : List UInt8} (h : Bs w (.slice (some ⟨g, o, none⟩) n c) l) (j : Nat) (hj : j < l.length) : w.cell? ⟨g, o + j, none⟩ = some (.int .u8 (l[j].toNat : Int)) := by
  obtain ⟨A', c', e, h1, h2, h3, h4⟩ := Bs.open h
  injection e with e1 e2 e3
  subst e1 e2 e3
  obtain ⟨b', o', e, hl, hc⟩ := h4 j hj
  injection e with e
  injection e with e1 e2
  subst e1 e2
  exact hc j hj
end Go.Mem
namespace Go.Mem
/-- A slice expression's value, whatever room there is. -/
theorem Bs.cut {w : World} {A : Option Addr} {m c : Nat} {l : List UInt8} (h : Bs w (.slice A m c) l) (k n : Nat) (hk : k + n ≤ l.length) : Bs w (.slice (if c = k then A else Option.map (fun x => x.add k) A) n (c - k)) ((l.drop k).take n) := by
  obtain ⟨A', c', e, h1, h2, h3, h4⟩ := Bs.open h
  injection e with e1 e2 e3
  subst e1 e2 e3
  refine Bs.mk (by simp; omega) (by omega) (by unfold maxLen; omega) (fun hn => ?_) fun hp => ?_
  · have : A = none := by
      split at hn
      · exact hn
      · simpa using hn
    have := h3 this
    omega
  · obtain ⟨b, o, rfl, hl, hc⟩ := h4 0 (by omega)
    rw [if_neg (by omega)]
    refine ⟨b, o + k, by simp [Addr.add], hl, fun j hj => ?_⟩
    have hj' : j < n := by simp at hj; omega
    rw [Nat.add_assoc, hc (k + j) (by omega), List.getElem_take, List.getElem_drop]
    rfl
end Go.Mem
namespace Go.Mem
open Go.RowKit
end Go.Mem
namespace Go.Mem
end Go.Mem

