/- A call's own frame: all that lies beside one block is listed, so that what a walk knows of memory says that that block alone has turned. No condition. -/
import Derived.Test.YtogliinfdfkobaaDoorRegM
set_option linter.unusedSimpArgs false
set_option linter.unusedVariables false
namespace Go.Mem
open Go.RowKit
/-- A world's memory up to a block. -/
def cutAt (w : World) (b : Nat) : World := { w with heap := w.heap.extract 0 b }
def above (w : World) (b : Nat) : List Ent := (List.range w.heap.size).filterMap fun i => if b < i then (w.heap[i]?).map (Ent.obj i) else none
theorem size_cutAt {w : World} {b : Nat} (h : b ≤ w.heap.size) : (cutAt w b).heap.size = b := by simp [cutAt]; omega
theorem mem_above {w : World} {b : Nat} {x : Ent} : x ∈ above w b ↔ ∃ i o, b < i ∧ w.heap[i]? = some o ∧ x = .obj i o := by
  unfold above
  rw [List.mem_filterMap]
  constructor
  · rintro ⟨i, hi, h⟩
    split at h
    · rename_i hb
      cases ho : w.heap[i]? with
      | none => rw [ho] at h; cases h
      | some o => rw [ho] at h; exact ⟨i, o, hb, ho, by simpa using h.symm⟩
    · cases h
  · rintro ⟨i, o, hb, ho, rfl⟩
    exact ⟨i, by simp [(Array.getElem?_eq_some_iff.1 ho).1], by rw [if_pos hb, ho]; rfl⟩
theorem get_cutAt {w : World} {b k : Nat} (hk : k < b) : (cutAt w b).heap[k]? = w.heap[k]? := by
  show (w.heap.extract 0 b)[k]? = _
  rw [Array.getElem?_extract]
  simp
  omega
theorem Hp.only {w w' : World} {b : Nat} {c c' : Array Value} {T T' : TypeId} (h : w.heap[b]? = some (.cells c T (0, 0))) (H : Hp (cutAt w b) (.blk b c' T' :: above w b) w') : Only (some b) w w' ∧ w'.heap[b]? = some (.cells c' T' (0, 0)) := by
  have hb : b < w.heap.size := (Array.getElem?_eq_some_iff.1 h).1
  have hs := size_cutAt (w := w) (b := b) (by omega)
  have hblk : ∀ k, k < w.heap.size → some b ≠ some k → w'.heap[k]? = w.heap[k]? := by
    intro k hk hne
    rcases Nat.lt_trichotomy k b with hlt | heq | hgt
    · have := H.low.block k (by omega)
      rw [this, get_cutAt hlt]
    · exact absurd (by rw [heq]) hne
    · have ho : w.heap[k]? = some w.heap[k] := by simp [hk]
      have := (H.ok _ (List.mem_cons_of_mem _ (mem_above.2 ⟨k, _, hgt, ho, rfl⟩))).1
      rw [this, ho]
  refine ⟨⟨H.low.os, H.low.tape, H.low.output, ?_, hblk⟩, H.get 0 rfl⟩
  rcases Nat.lt_or_ge (w.heap.size - 1) (b + 1) with h1 | h1
  · have := (Array.getElem?_eq_some_iff.1 (H.get 0 rfl)).1
    omega
  · have ho : w.heap[w.heap.size - 1]? = some (w.heap[w.heap.size - 1]'(by omega)) := by simp [show w.heap.size - 1 < w.heap.size by omega]
    have := (H.ok _ (List.mem_cons_of_mem _ (mem_above.2 ⟨w.heap.size - 1, _, by omega, ho, rfl⟩))).1
    have := (Array.getElem?_eq_some_iff.1 this).1
    omega
end Go.Mem
namespace Go.Mem
theorem Hp.perm {w0 w : World} {L M : List Ent} (H : Hp w0 L w) (hp : L.Perm M) : Hp w0 M w :=
  H.pick (fun _ hx => hp.mem_iff.2 hx) ((hp.filterMap Ent.fp).nodup_iff.1 H.nd)
theorem Hp.front {w0 w : World} {L : List Ent} (H : Hp w0 L w) (i : Nat) {x : Ent} (hi : L[i]? = some x) : Hp w0 (x :: L.eraseIdx i) w := by
  obtain ⟨hlt, rfl⟩ := List.getElem?_eq_some_iff.1 hi
  refine H.perm ?_
  rw [List.eraseIdx_eq_take_drop_succ]
  have h : L = L.take i ++ L[i] :: L.drop (i + 1) := by rw [← List.drop_eq_getElem_cons hlt, List.take_append_drop]
  have hp : (L.take i ++ L[i] :: L.drop (i + 1)).Perm (L[i] :: (L.take i ++ L.drop (i + 1))) := List.perm_middle
  rw [← h] at hp
  exact hp
end Go.Mem
namespace Go.Mem
end Go.Mem

