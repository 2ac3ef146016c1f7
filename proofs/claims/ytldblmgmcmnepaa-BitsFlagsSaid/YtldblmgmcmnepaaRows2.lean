/- Rows of the call's own: a cell read, a cell stored; several adopted. No condition. -/
import Derived.Test.YtldblmgmcmnepaaBytes
set_option linter.unusedSimpArgs false
set_option linter.unusedVariables false
namespace Go.Mem
open Go.RowKit
theorem Hp.rowCell {w0 w : World} {L : List Ent} (H : Hp w0 L w) (i : Nat) {e : TypeId} {n c g : Nat} {xs : List Value} (hi : L[i]? = some (.row e 1 (.slice (some ⟨g, 0, none⟩) n c) n xs)) :
    g < w.heap.size ∧ xs.length = n ∧ (∀ j, w.frozen? ⟨g, j, none⟩ = false) ∧ ∀ (j : Nat) (u : Value), xs[j]? = some u → w.cell? ⟨g, j, none⟩ = some u := by
  obtain ⟨hx, hr⟩ := (H.ok _ (List.mem_of_getElem? hi) : w.ownsRow w0.heap.size e 1 (.slice (some ⟨g, 0, none⟩) n c) n xs)
  rcases hr with ⟨h, _⟩ | ⟨g', cap, cur, hv, hb, hg, hnc, hcm, hcs, ht⟩
  · cases h
  · injection hv with e1 e2 e3
    injection e1 with e1
    injection e1 with e1
    subst e1 e3
    refine ⟨(Array.getElem?_eq_some_iff.1 hg).1, by simpa using hx, fun j => frozen_of_row w g j cur e hg, fun j u hu => ?_⟩
    rw [cell_of_row w g j cur e (0, 0) hg]
    rw [← ht, List.getElem?_take] at hu
    split at hu
    · simpa using hu
    · cases hu
theorem Hp.rowSet {w0 w : World} {L : List Ent} (H : Hp w0 L w) (i : Nat) {e : TypeId} {n c g : Nat} {xs : List Value} (hi : L[i]? = some (.row e 1 (.slice (some ⟨g, 0, none⟩) n c) n xs)) (j : Nat) (u : Value) :
    Hp w0 (L.set i (.row e 1 (.slice (some ⟨g, 0, none⟩) n c) n (xs.set j u))) (w.setCell ⟨g, j, none⟩ u) := by
  have hok := (H.ok _ (List.mem_of_getElem? hi) : w.ownsRow w0.heap.size e 1 (.slice (some ⟨g, 0, none⟩) n c) n xs)
  refine H.turn i hi (Only.setCell w g j u) ?_ fun _ hk => .inl hk
  obtain ⟨hx, hr⟩ := hok
  rcases hr with ⟨h, _⟩ | ⟨g', cap, cur, hv, hb, hg, hnc, hcm, hcs, ht⟩
  · cases h
  · injection hv with e1 e2 e3
    injection e1 with e1
    injection e1 with e1
    subst e1 e3
    refine ⟨by simpa using hx, .inr ⟨g, c, cur.setIfInBounds j u, rfl, hb, heap_same hg u, hnc, hcm, by simpa using hcs, ?_⟩⟩
    rw [← ht, Array.toList_setIfInBounds, List.take_set]
end Go.Mem
namespace Go.Mem
open Go.RowKit
end Go.Mem
namespace Go.Mem
theorem Bs.at {w : World} {g o n c : Nat} {l : List UInt8} (h : Bs w (.slice (some ⟨g, o, none⟩) n c) l) (j : Nat) (hj : j < l.length) : w.cell? ⟨g, o + j, none⟩ = some (.int .u8 (l[j].toNat : Int)) := by
  obtain ⟨A', c', e, h1, h2, h3, h4⟩ := Bs.open h
  injection e with e1 e2 e3
  subst e1 e2 e3
  obtain ⟨b', o', e, hl, hc⟩ := h4 j hj
  injection e with e
  injection e with e1 e2
  subst e1 e2
  exact hc j hj
end Go.Mem
namespace Go.Mem
/-- A slice expression's value, whatever room there is. -/
theorem Bs.cut {w : World} {A : Option Addr} {m c : Nat} {l : List UInt8} (h : Bs w (.slice A m c) l) (k n : Nat) (hk : k + n ≤ l.length) : Bs w (.slice (if c = k then A else Option.map (fun x => x.add k) A) n (c - k)) ((l.drop k).take n) := by
  obtain ⟨A', c', e, h1, h2, h3, h4⟩ := Bs.open h
  injection e with e1 e2 e3
  subst e1 e2 e3
  refine Bs.mk (by simp; omega) (by omega) (by unfold maxLen; omega) (fun hn => ?_) fun hp => ?_
  · have : A = none := by
      split at hn
      · exact hn
      · simpa using hn
    have := h3 this
    omega
  · obtain ⟨b, o, rfl, hl, hc⟩ := h4 0 (by omega)
    rw [if_neg (by omega)]
    refine ⟨b, o + k, by simp [Addr.add], hl, fun j hj => ?_⟩
    have hj' : j < n := by simp at hj; omega
    rw [Nat.add_assoc, hc (k + j) (by omega), List.getElem_take, List.getElem_drop]
    rfl
end Go.Mem
namespace Go.Mem
open Go.RowKit
end Go.Mem
namespace Go.Mem
end Go.Mem

