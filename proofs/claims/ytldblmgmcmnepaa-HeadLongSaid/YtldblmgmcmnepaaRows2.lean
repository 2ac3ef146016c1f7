/- Rows of the call's own: a cell read, a cell stored; several adopted. No condition. -/
import Derived.Test.YtldblmgmcmnepaaBytes
set_option linter.unusedSimpArgs false
set_option linter.unusedVariables false
namespace Go.Mem
open Go.RowKit
theorem Hp.rowCell {w0 w : World} {L : List Ent} (H : Hp w0 L w) (i : Nat) {e : TypeId} {n c g : Nat} {xs : List Value} (hi : L[i]? = some (.row e 1 (.slice (some ⟨g, 0, none⟩) n c) n xs)) :
    g < w.heap.size ∧ xs.length = n ∧ (∀ j, w.frozen? ⟨g, j, none⟩ = false) ∧ ∀ (j : Nat) (u : Value), xs[j]? = some u → w.cell? ⟨g, j, none⟩ = some u := by
  obtain ⟨hx, hr⟩ := (H.ok _ (List.mem_of_getElem? hi) : w.ownsRow w0.heap.size e 1 (.slice (some ⟨g, 0, none⟩) n c) n xs)
  rcases hr with ⟨h, _⟩ | ⟨g', cap, cur, hv, hb, hg, hnc, hcm, hcs, ht⟩
  · cases h
  · injection hv with e1 e2 e3
    injection e1 with e1
    injection e1 with e1
    subst e1 e3
    refine ⟨(Array.getElem?_eq_some_iff.1 hg).1, by simpa using hx, fun j => frozen_of_row w g j cur e hg, fun j u hu => ?_⟩
    rw [cell_of_row w g j cur e (0, 0) hg]
    rw [← ht, List.getElem?_take] at hu
    split at hu
    · simpa using hu
    · cases hu
theorem Hp.rowSet {w0 w : World} {L : List Ent} (H : Hp w0 L w) (i : Nat) {e : TypeId} {n c g : Nat} {xs : List Value} (hi : L[i]? = some (.row e 1 (.slice (some ⟨g, 0, none⟩) n c) n xs)) (j : Nat) (u : Value) :
    Hp w0 (L.set i (.row e 1 (.slice (some ⟨g, 0, none⟩) n c) n (xs.set j u))) (w.setCell ⟨g, j, none⟩ u) := by
  have hok := (H.ok _ (List.mem_of_getElem? hi) : w.ownsRow w0.heap.size e 1 (.slice (some ⟨g, 0, none⟩) n c) n xs)
  refine H.turn i hi (Only.setCell w g j u) ?_ fun _ hk => .inl hk
  obtain ⟨hx, hr⟩ := hok
  rcases hr with ⟨h, _⟩ | ⟨g', cap, cur, hv, hb, hg, hnc, hcm, hcs, ht⟩
  · cases h
  · injection hv with e1 e2 e3
    injection e1 with e1
    injection e1 with e1
    subst e1 e3
    refine ⟨by simpa using hx, .inr ⟨g, c, cur.setIfInBounds j u, rfl, hb, heap_same hg u, hnc, hcm, by simpa using hcs, ?_⟩⟩
    rw [← ht, Array.toList_setIfInBounds, List.take_set]
theorem Hp.rowForm {w0 w : World} {L : List Ent} (H : Hp w0 L w) (i : Nat) {e : TypeId} {n : Nat} {v : Value} {xs : List Value} (hi : L[i]? = some (.row e 1 v n xs)) : (v = .slice none 0 0 ∧ n = 0 ∧ xs = []) ∨ ∃ g c, v = .slice (some ⟨g, 0, none⟩) n c ∧ n ≤ c ∧ c ≤ maxLen := by
  obtain ⟨hx, hr⟩ := (H.ok _ (List.mem_of_getElem? hi) : w.ownsRow w0.heap.size e 1 v n xs)
  rcases hr with ⟨rfl, rfl⟩ | ⟨g, cap, cur, rfl, _, _, h1, h2, _⟩
  · exact .inl ⟨rfl, rfl, List.eq_nil_of_length_eq_zero (by simpa using hx)⟩
  · exact .inr ⟨g, cap, rfl, h1, h2⟩
end Go.Mem
namespace Go.Mem
open Go.RowKit
end Go.Mem
namespace Go.Mem
theorem Bs.at {w : World} {g o n c : Nat} {l : List UInt8} (h : Bs w (.slice (some ⟨g, o, none⟩) n c) l) (j : Nat) (hj : j < l.length) : w.cell? ⟨g, o + j, none⟩ = some (.int .u8 (l[j].toNat : Int)) := by
  obtain ⟨A', c', e, h1, h2, h3, h4⟩ := Bs.open h
  injection e with e1 e2 e3
  subst e1 e2 e3
  obtain ⟨b', o', e, hl, hc⟩ := h4 j hj
  injection e with e
  injection e with e1 e2
  subst e1 e2
  exact hc j hj
end Go.Mem
namespace Go.Mem
end Go.Mem
namespace Go.Mem
open Go.RowKit
end Go.Mem
namespace Go.Mem
theorem Hp.rowSrc {w0 w : World} {L : List Ent} (H : Hp w0 L w) (i : Nat) {e : TypeId} {A : Option Addr} {n c : Nat} {l : List UInt8} (hi : L[i]? = some (.row e 1 (.slice A n c) n (l.map u8c))) :
    (A = none → c = 0 ∧ n = 0) ∧ (l.map u8c).length = n * 1 ∧ (0 < n → ∃ ad, A = some ad ∧ ∀ (j : Nat) (u : Value), (l.map u8c)[j]? = some u → w.cell? (ad.add j) = some u) :=
  Bs.src (show Bs w (.slice A n c) l from Hp.row H i hi)
end Go.Mem

