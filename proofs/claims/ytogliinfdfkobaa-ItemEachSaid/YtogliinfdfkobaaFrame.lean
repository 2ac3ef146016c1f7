/- Rows of the call's own: a cell read, a cell stored; several adopted. No condition. -/
import Derived.Test.YtogliinfdfkobaaBytes
import Derived.Test.YtogliinfdfkobaaRegN
set_option linter.unusedSimpArgs false
set_option linter.unusedVariables false
namespace Go.Mem
open Go.RowKit
theorem Hp.rowCell {w0 w : World} {L : List Ent} (H : Hp w0 L w) (i : Nat) {e : TypeId} {n c g : Nat} {xs : List Value} (hi : L[i]? = some (.row e 1 (.slice (some ⟨g, 0, none⟩) n c) n xs)) :
    g < w.heap.size ∧ xs.length = n ∧ (∀ j, w.frozen? ⟨g, j, none⟩ = false) ∧ ∀ (j : Nat) (u : Value), xs[j]? = some u → w.cell? ⟨g, j, none⟩ = some u := by
  obtain ⟨hx, hr⟩ := (H.ok _ (List.mem_of_getElem? hi) : w.ownsRow w0.heap.size e 1 (.slice (some ⟨g, 0, none⟩) n c) n xs)
  rcases hr with ⟨h, _⟩ | ⟨g', cap, cur, hv, hb, hg, hnc, hcm, hcs, ht⟩
  · cases h
  · injection hv with e1 e2 e3
    injection e1 with e1
    injection e1 with e1
    subst e1 e3
    refine ⟨(Array.getElem?_eq_some_iff.1 hg).1, by simpa using hx, fun j => frozen_of_row w g j cur e hg, fun j u hu => ?_⟩
    rw [cell_of_row w g j cur e (0, 0) hg]
    rw [← ht, List.getElem?_take] at hu
    split at hu
    · simpa using hu
    · cases hu
theorem Hp.rowForm {w0 w : World} {L : List Ent} (H : Hp w0 L w) (i : Nat) {e : TypeId} {n : Nat} {v : Value} {xs : List Value} (hi : L[i]? = some (.row e 1 v n xs)) : (v = .slice none 0 0 ∧ n = 0 ∧ xs = []) ∨ ∃ g c, v = .slice (some ⟨g, 0, none⟩) n c ∧ n ≤ c ∧ c ≤ maxLen := by
  obtain ⟨hx, hr⟩ := (H.ok _ (List.mem_of_getElem? hi) : w.ownsRow w0.heap.size e 1 v n xs)
  rcases hr with ⟨rfl, rfl⟩ | ⟨g, cap, cur, rfl, _, _, h1, h2, _⟩
  · exact .inl ⟨rfl, rfl, List.eq_nil_of_length_eq_zero (by simpa using hx)⟩
  · exact .inr ⟨g, cap, rfl, h1, h2⟩
end Go.Mem
namespace Go.Mem
open Go.RowKit
end Go.Mem
namespace Go.Mem
theorem Bs.at {w : World} {g o n c : Nat} {l : List UInt8} (h : Bs w (.slice (some ⟨g, o, none⟩) n c) l) (j : Nat) (hj : j < l.length) : w.cell? ⟨g, o + j, none⟩ = some (.int .u8 (l[j].toNat : Int)) := by
  obtain ⟨A', c', e, h1, h2, h3, h4⟩ := Bs.open h
  injection e with e1 e2 e3
  subst e1 e2 e3
  obtain ⟨b', o', e, hl, hc⟩ := h4 j hj
  injection e with e
  injection e with e1 e2
  subst e1 e2
  exact hc j hj
end Go.Mem
namespace Go.Mem
end Go.Mem
namespace Go.Mem
open Go.RowKit
end Go.Mem
namespace Go.Mem
end Go.Mem

/- A region that draws, with what the walk knows of memory: the words of the printed proofs. No condition. -/
namespace Go.Reg
open Go.RowKit Go.Mem
def Eq1 (x : Value) : Value → World → Prop := fun v _ => v = x
theorem Eq1.mk {x : Value} {w : World} : Eq1 x x w := rfl
theorem Eq1.of {x v : Value} {w : World} (h : v = x) : Eq1 x v w := h
theorem Eq1.out {x v : Value} {w : World} (h : Eq1 x v w) : v = x := h
def RowJ (B : Nat) (T : TypeId) (n : Nat) (xs : List Value) : Value → World → Prop := fun v w => w.ownsRow B T 1 v n xs
theorem RowJ.mk {B : Nat} {T : TypeId} {n : Nat} {xs : List Value} {v : Value} {w w' : World} (hB : B ≤ w.heap.size) (ho : w'.ownsRow w.heap.size T 1 v n xs) : RowJ B T n xs v w' :=
  ⟨ho.1, ho.2.imp id fun ⟨g, cap, cur, e1, e2, r⟩ => ⟨g, cap, cur, e1, Nat.le_trans hB e2, r⟩⟩
theorem RowJ.stay {B : Nat} {T : TypeId} {n : Nat} {xs : List Value} {v : Value} {w w' : World} (hs : AboveR B w w') (h : RowJ B T n xs v w) : RowJ B T n xs v w' := by
  refine ⟨h.1, ?_⟩
  rcases h.2 with hn | ⟨g, cap, cur, rfl, hb, hgg, rest⟩
  · exact .inl hn
  · exact .inr ⟨g, cap, cur, rfl, hb, (hs.2 g hb (Array.getElem?_eq_some_iff.1 hgg).1).trans hgg, rest⟩
theorem Fresh.row {b : Bool} {w w' : World} {T : TypeId} {s n : Nat} {v : Value} {xs : List Value} (h : w'.ownsRow w.heap.size T s v n xs) : Fresh b w v w' := by
  intro _ k hk
  rcases h.2 with ⟨rfl, _⟩ | ⟨g, cap, cur, rfl, hb, hg, _⟩
  · simp [vb, vb0] at hk
  · simp only [vb, vb0, List.mem_singleton] at hk
    subst hk
    exact ⟨hb, (Array.getElem?_eq_some_iff.1 hg).1⟩
theorem Fresh.pt {b : Bool} {w : World} {o : Obj} {j : Nat} : Fresh b w (.pointer (some ⟨w.heap.size, j, none⟩)) (w.alloc o) := by
  intro _ k hk
  simp only [vb, vb0, List.mem_singleton] at hk
  subst hk
  exact ⟨Nat.le_refl _, by simp⟩
theorem Fresh.sl {b : Bool} {w : World} {o : Obj} {j n c : Nat} : Fresh b w (.slice (some ⟨w.heap.size, j, none⟩) n c) (w.alloc o) := by
  intro _ k hk
  simp only [vb, vb0, List.mem_singleton] at hk
  subst hk
  exact ⟨Nat.le_refl _, by simp⟩
theorem Hp.adopts {w0 w : World} {L : List Ent} {B : Nat} (H : Hp w0 L w) (hB : w0.heap.size ≤ B) (hlow : ∀ k ∈ fps L, k < B) (M : List Ent) (hM : ∀ x ∈ M, x.ok B w) (hn : (fps M).Nodup) : Hp w0 (M ++ L) w := by
  refine ⟨fun x hx => ?_, ?_, H.low⟩
  · rcases List.mem_append.1 hx with hx | hx
    · have h := hM x hx
      cases x with
      | blk b c T => exact ⟨h.1, Nat.le_trans hB h.2⟩
      | row e size v n xs => exact ⟨h.1, h.2.imp id fun ⟨g, cap, cur, e1, e2, r⟩ => ⟨g, cap, cur, e1, Nat.le_trans hB e2, r⟩⟩
      | obj b o => exact ⟨h.1, Nat.le_trans hB h.2⟩
    · exact H.ok x hx
  · have : fps (M ++ L) = fps M ++ fps L := by simp [fps]
    rw [this, List.nodup_append]
    refine ⟨hn, H.nd, fun a ha b hb e => ?_⟩
    subst e
    obtain ⟨x, hx, hf⟩ := List.mem_filterMap.1 ha
    have := ((hM x hx).lt a hf).1
    have := hlow a hb
    omega
theorem Hp.lows {w0 w : World} {L : List Ent} (H : Hp w0 L w) : ∀ k ∈ fps L, k < w.heap.size := fun k hk => (fps_lt H k hk).2
theorem nodup1 (x : Ent) : (fps [x]).Nodup := by
  cases hf : x.fp <;> simp [fps, hf]
theorem nodup2 {x y : Ent} (h : ∀ k, x.fp = some k → y.fp = some k → False) : (fps [x, y]).Nodup := by
  cases hx : x.fp with
  | none => cases hy : y.fp <;> simp [fps, hx, hy]
  | some k =>
    cases hy : y.fp with
    | none => simp [fps, hx, hy]
    | some j =>
      simp only [fps, List.filterMap_cons, hx, hy, List.filterMap_nil, List.nodup_cons, List.mem_singleton, List.not_mem_nil, not_false_eq_true, List.nodup_nil, and_true]
      intro e
      subst e
      exact h _ hx hy
theorem nodup3 {x y z : Ent} (h1 : ∀ k, x.fp = some k → y.fp = some k → False) (h2 : ∀ k, x.fp = some k → z.fp = some k → False) (h3 : ∀ k, y.fp = some k → z.fp = some k → False) : (fps [x, y, z]).Nodup := by
  have hyz := nodup2 h3
  cases hx : x.fp with
  | none => simpa [fps, hx] using hyz
  | some k =>
    have : fps [x, y, z] = k :: fps [y, z] := by simp [fps, hx]
    rw [this, List.nodup_cons]
    refine ⟨fun hm => ?_, hyz⟩
    obtain ⟨u, hu, hf⟩ := List.mem_filterMap.1 hm
    simp only [List.mem_cons, List.not_mem_nil, or_false] at hu
    rcases hu with rfl | rfl
    · exact h1 k hx hf
    · exact h2 k hx hf
theorem NewPt.stayR {B : Nat} {c : Array Value} {T : TypeId} {v : Value} {w w' : World} (hs : AboveR B w w') (h : NewPt B c T v w) : NewPt B c T v w' := h.stay hs.2
theorem NewSl.stayR {B n : Nat} {c : Array Value} {T : TypeId} {v : Value} {w w' : World} (hs : AboveR B w w') (h : NewSl B n c T v w) : NewSl B n c T v w' := h.stay hs.2
theorem wpList_nil' {P : Program} {ops : Array Oper} {Q : Exit → Act → World → Prop} {a : Act} {w : World} (h : Q .normal a w) : wpList P ops Q [] a w := h
end Go.Reg

/- A call's own frame: all that lies beside one block is listed, so that what a walk knows of memory says that that block alone has turned. No condition. -/
namespace Go.Mem
open Go.RowKit
theorem Hp.sel {w0 w : World} {L : List Ent} (H : Hp w0 L w) : ∀ (is : List Nat), is.Nodup → Hp w0 (is.filterMap fun i => L[i]?) w
  | [], _ => H.pick (fun x hx => by simp at hx) (by simp [fps])
  | i :: r, hn => by
    have hr := H.sel r (List.nodup_cons.1 hn).2
    cases hi : L[i]? with
    | none => simpa [hi] using hr
    | some x =>
      simp only [List.filterMap_cons, hi]
      refine hr.add x (H.ok x (List.mem_of_getElem? hi)) fun k hk hm => ?_
      obtain ⟨y, hy, hf⟩ := List.mem_filterMap.1 hm
      obtain ⟨j, hj, hjy⟩ := List.mem_filterMap.1 hy
      exact nodup_ne L i j x y k H.nd hi hjy (fun e => (List.nodup_cons.1 hn).1 (e ▸ hj)) hk hf
/-- A world's memory up to a block. -/
def cutAt (w : World) (b : Nat) : World := { w with heap := w.heap.extract 0 b }
def above (w : World) (b : Nat) : List Ent := (List.range w.heap.size).filterMap fun i => if b < i then (w.heap[i]?).map (Ent.obj i) else none
theorem size_cutAt {w : World} {b : Nat} (h : b ≤ w.heap.size) : (cutAt w b).heap.size = b := by simp [cutAt]; omega
theorem mem_above {w : World} {b : Nat} {x : Ent} : x ∈ above w b ↔ ∃ i o, b < i ∧ w.heap[i]? = some o ∧ x = .obj i o := by
  unfold above
  rw [List.mem_filterMap]
  constructor
  · rintro ⟨i, hi, h⟩
    split at h
    · rename_i hb
      cases ho : w.heap[i]? with
      | none => rw [ho] at h; cases h
      | some o => rw [ho] at h; exact ⟨i, o, hb, ho, by simpa using h.symm⟩
    · cases h
  · rintro ⟨i, o, hb, ho, rfl⟩
    exact ⟨i, by simp [(Array.getElem?_eq_some_iff.1 ho).1], by rw [if_pos hb, ho]; rfl⟩
theorem fps_objs (w : World) (b : Nat) : ∀ l : List Nat, (∀ i ∈ l, i < w.heap.size) → fps (l.filterMap fun i => if b < i then (w.heap[i]?).map (Ent.obj i) else none) = l.filter (fun i => decide (b < i))
  | [], _ => rfl
  | i :: r, h => by
    have hr := fps_objs w b r fun j hj => h j (List.mem_cons_of_mem _ hj)
    have hi := h i (List.mem_cons_self ..)
    by_cases hb : b < i
    · simp only [List.filterMap_cons, if_pos hb, Array.getElem?_eq_getElem hi, Option.map_some, List.filter_cons, decide_eq_true hb, if_true]
      rw [← hr]
      simp [fps, Ent.fp]
    · simp only [List.filterMap_cons, if_neg hb, List.filter_cons, decide_eq_false hb]
      simpa using hr
theorem fps_above (w : World) (b : Nat) : fps (above w b) = (List.range w.heap.size).filter (fun i => decide (b < i)) := fps_objs w b _ fun i hi => by simpa using hi
theorem get_cutAt {w : World} {b k : Nat} (hk : k < b) : (cutAt w b).heap[k]? = w.heap[k]? := by
  show (w.heap.extract 0 b)[k]? = _
  rw [Array.getElem?_extract]
  simp
  omega
theorem Hp.whole {w : World} {b : Nat} {c : Array Value} {T : TypeId} (h : w.heap[b]? = some (.cells c T (0, 0))) : Hp (cutAt w b) (.blk b c T :: above w b) w := by
  have hb : b < w.heap.size := (Array.getElem?_eq_some_iff.1 h).1
  have hs := size_cutAt (w := w) (b := b) (by omega)
  refine ⟨fun x hx => ?_, ?_, ⟨rfl, rfl, rfl, by rw [hs]; omega, fun k hk => ?_⟩⟩
  · rcases List.mem_cons.1 hx with rfl | hx
    · exact ⟨h, by omega⟩
    · obtain ⟨i, o, hbi, ho, rfl⟩ := mem_above.1 hx
      exact ⟨ho, by omega⟩
  · have : fps (.blk b c T :: above w b) = b :: fps (above w b) := by simp [fps, Ent.fp]
    rw [this, fps_above, List.nodup_cons]
    exact ⟨by simp, List.nodup_range.sublist List.filter_sublist⟩
  · rw [hs] at hk
    rw [get_cutAt hk]
theorem Hp.only {w w' : World} {b : Nat} {c c' : Array Value} {T T' : TypeId} (h : w.heap[b]? = some (.cells c T (0, 0))) (H : Hp (cutAt w b) (.blk b c' T' :: above w b) w') : Only (some b) w w' ∧ w'.heap[b]? = some (.cells c' T' (0, 0)) := by
  have hb : b < w.heap.size := (Array.getElem?_eq_some_iff.1 h).1
  have hs := size_cutAt (w := w) (b := b) (by omega)
  have hblk : ∀ k, k < w.heap.size → some b ≠ some k → w'.heap[k]? = w.heap[k]? := by
    intro k hk hne
    rcases Nat.lt_trichotomy k b with hlt | heq | hgt
    · have := H.low.block k (by omega)
      rw [this, get_cutAt hlt]
    · exact absurd (by rw [heq]) hne
    · have ho : w.heap[k]? = some w.heap[k] := by simp [hk]
      have := (H.ok _ (List.mem_cons_of_mem _ (mem_above.2 ⟨k, _, hgt, ho, rfl⟩))).1
      rw [this, ho]
  refine ⟨⟨H.low.os, H.low.tape, H.low.output, ?_, hblk⟩, H.get 0 rfl⟩
  rcases Nat.lt_or_ge (w.heap.size - 1) (b + 1) with h1 | h1
  · have := (Array.getElem?_eq_some_iff.1 (H.get 0 rfl)).1
    omega
  · have ho : w.heap[w.heap.size - 1]? = some (w.heap[w.heap.size - 1]'(by omega)) := by simp [show w.heap.size - 1 < w.heap.size by omega]
    have := (H.ok _ (List.mem_cons_of_mem _ (mem_above.2 ⟨w.heap.size - 1, _, by omega, ho, rfl⟩))).1
    have := (Array.getElem?_eq_some_iff.1 this).1
    omega
end Go.Mem
namespace Go.Mem
theorem Hp.perm {w0 w : World} {L M : List Ent} (H : Hp w0 L w) (hp : L.Perm M) : Hp w0 M w :=
  H.pick (fun _ hx => hp.mem_iff.2 hx) ((hp.filterMap Ent.fp).nodup_iff.1 H.nd)
theorem Hp.front {w0 w : World} {L : List Ent} (H : Hp w0 L w) (i : Nat) {x : Ent} (hi : L[i]? = some x) : Hp w0 (x :: L.eraseIdx i) w := by
  obtain ⟨hlt, rfl⟩ := List.getElem?_eq_some_iff.1 hi
  refine H.perm ?_
  rw [List.eraseIdx_eq_take_drop_succ]
  have h : L = L.take i ++ L[i] :: L.drop (i + 1) := by rw [← List.drop_eq_getElem_cons hlt, List.take_append_drop]
  have hp : (L.take i ++ L[i] :: L.drop (i + 1)).Perm (L[i] :: (L.take i ++ L.drop (i + 1))) := List.perm_middle
  rw [← h] at hp
  exact hp
end Go.Mem
namespace Go.Mem
theorem Hp.no2 {w0 w : World} {L : List Ent} {x y z : Ent} (H : Hp w0 (x :: y :: z :: L) w) : Hp w0 (x :: y :: L) w :=
  H.pick (fun u hu => by
    rcases List.mem_cons.1 hu with rfl | hu
    · exact List.mem_cons_self ..
    · rcases List.mem_cons.1 hu with rfl | hu
      · exact List.mem_cons_of_mem _ (List.mem_cons_self ..)
      · exact List.mem_cons_of_mem _ (List.mem_cons_of_mem _ (List.mem_cons_of_mem _ hu)))
    (H.nd.sublist (List.Sublist.filterMap _ (List.Sublist.cons_cons _ (List.Sublist.cons_cons _ (List.sublist_cons_self _ _)))))
end Go.Mem

