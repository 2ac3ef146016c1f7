/- Rows of the call's own: a cell read, a cell stored; several adopted. No condition. -/
import Derived.Test.YtldblmgmcmnepaaOPlain
import Derived.Test.YtldblmgmcmnepaaRegN
import Derived.ProofKit
import Derived.SizedLaws
import Derived.Carry
import Derived.Lib.SmallJoins
import Derived.Deep.Fields
import Derived.DataShut
import Derived.Deep.Slices
set_option linter.unusedSimpArgs false
set_option linter.unusedVariables false
namespace Go.Mem
open Go.RowKit
theorem Hp.rowCell {w0 w : World} {L : List Ent} (H : Hp w0 L w) (i : Nat) {e : TypeId} {n c g : Nat} {xs : List Value} (hi : L[i]? = some (.row e 1 (.slice (some ⟨g, 0, none⟩) n c) n xs)) :
    g < w.heap.size ∧ xs.length = n ∧ (∀ j, w.frozen? ⟨g, j, none⟩ = false) ∧ ∀ (j : Nat) (u : Value), xs[j]? = some u → w.cell? ⟨g, j, none⟩ = some u := by
  obtain ⟨hx, hr⟩ := (H.ok _ (List.mem_of_getElem? hi) : w.ownsRow w0.heap.size e 1 (.slice (some ⟨g, 0, none⟩) n c) n xs)
  rcases hr with ⟨h, _⟩ | ⟨g', cap, cur, hv, hb, hg, hnc, hcm, hcs, ht⟩
  · cases h
  · injection hv with e1 e2 e3
    injection e1 with e1
    injection e1 with e1
    subst e1 e3
    refine ⟨(Array.getElem?_eq_some_iff.1 hg).1, by simpa using hx, fun j => frozen_of_row w g j cur e hg, fun j u hu => ?_⟩
    rw [cell_of_row w g j cur e (0, 0) hg]
    rw [← ht, List.getElem?_take] at hu
    split at hu
    · simpa using hu
    · cases hu
theorem Hp.rowSet {w0 w : World} {L : List Ent} (H : Hp w0 L w) (i : Nat) {e : TypeId} {n c g : Nat} {xs : List Value} (hi : L[i]? = some (.row e 1 (.slice (some ⟨g, 0, none⟩) n c) n xs)) (j : Nat) (u : Value) :
    Hp w0 (L.set i (.row e 1 (.slice (some ⟨g, 0, none⟩) n c) n (xs.set j u))) (w.setCell ⟨g, j, none⟩ u) := by
  have hok := (H.ok _ (List.mem_of_getElem? hi) : w.ownsRow w0.heap.size e 1 (.slice (some ⟨g, 0, none⟩) n c) n xs)
  refine H.turn i hi (Only.setCell w g j u) ?_ fun _ hk => .inl hk
  obtain ⟨hx, hr⟩ := hok
  rcases hr with ⟨h, _⟩ | ⟨g', cap, cur, hv, hb, hg, hnc, hcm, hcs, ht⟩
  · cases h
  · injection hv with e1 e2 e3
    injection e1 with e1
    injection e1 with e1
    subst e1 e3
    refine ⟨by simpa using hx, .inr ⟨g, c, cur.setIfInBounds j u, rfl, hb, heap_same hg u, hnc, hcm, by simpa using hcs, ?_⟩⟩
    rw [← ht, Array.toList_setIfInBounds, List.take_set]
theorem Hp.rowForm {w0 w : World} {L : List Ent} (H : Hp w0 L w) (i : Nat) {e : TypeId} {n : Nat} {v : Value} {xs : List Value} (hi : L[i]? = some (.row e 1 v n xs)) : (v = .slice none 0 0 ∧ n = 0 ∧ xs = []) ∨ ∃ g c, v = .slice (some ⟨g, 0, none⟩) n c ∧ n ≤ c ∧ c ≤ maxLen := by
  obtain ⟨hx, hr⟩ := (H.ok _ (List.mem_of_getElem? hi) : w.ownsRow w0.heap.size e 1 v n xs)
  rcases hr with ⟨rfl, rfl⟩ | ⟨g, cap, cur, rfl, _, _, h1, h2, _⟩
  · exact .inl ⟨rfl, rfl, List.eq_nil_of_length_eq_zero (by simpa using hx)⟩
  · exact .inr ⟨g, cap, rfl, h1, h2⟩
end Go.Mem
namespace Go.Mem
open Go.RowKit
end Go.Mem
namespace Go.Mem
theorem Bs.at {w : World} {g o n c : Nat} {l : List UInt8} (h : Bs w (.slice (some ⟨g, o, none⟩) n c) l) (j : Nat) (hj : j < l.length) : w.cell? ⟨g, o + j, none⟩ = some (.int .u8 (l[j].toNat : Int)) := by
  obtain ⟨A', c', e, h1, h2, h3, h4⟩ := Bs.open h
  injection e with e1 e2 e3
  subst e1 e2 e3
  obtain ⟨b', o', e, hl, hc⟩ := h4 j hj
  injection e with e
  injection e with e1 e2
  subst e1 e2
  exact hc j hj
end Go.Mem
namespace Go.Mem
/-- A slice expression's value, whatever room there is. -/
theorem Bs.cut {w : World} {A : Option Addr} {m c : Nat} {l : List UInt8} (h : Bs w (.slice A m c) l) (k n : Nat) (hk : k + n ≤ l.length) : Bs w (.slice (if c = k then A else Option.map (fun x => x.add k) A) n (c - k)) ((l.drop k).take n) := by
  obtain ⟨A', c', e, h1, h2, h3, h4⟩ := Bs.open h
  injection e with e1 e2 e3
  subst e1 e2 e3
  refine Bs.mk (by simp; omega) (by omega) (by unfold maxLen; omega) (fun hn => ?_) fun hp => ?_
  · have : A = none := by
      split at hn
      · exact hn
      · simpa using hn
    have := h3 this
    omega
  · obtain ⟨b, o, rfl, hl, hc⟩ := h4 0 (by omega)
    rw [if_neg (by omega)]
    refine ⟨b, o + k, by simp [Addr.add], hl, fun j hj => ?_⟩
    have hj' : j < n := by simp at hj; omega
    rw [Nat.add_assoc, hc (k + j) (by omega), List.getElem_take, List.getElem_drop]
    rfl
end Go.Mem
namespace Go.Mem
open Go.RowKit
end Go.Mem
namespace Go.Mem
theorem Hp.rowSrc {w0 w : World} {L : List Ent} (H : Hp w0 L w) (i : Nat) {e : TypeId} {A : Option Addr} {n c : Nat} {l : List UInt8} (hi : L[i]? = some (.row e 1 (.slice A n c) n (l.map u8c))) :
    (A = none → c = 0 ∧ n = 0) ∧ (l.map u8c).length = n * 1 ∧ (0 < n → ∃ ad, A = some ad ∧ ∀ (j : Nat) (u : Value), (l.map u8c)[j]? = some u → w.cell? (ad.add j) = some u) :=
  Bs.src (show Bs w (.slice A n c) l from Hp.row H i hi)
end Go.Mem

/- A region that draws, with what the walk knows of memory: the words of the printed proofs. No condition. -/
namespace Go.Reg
open Go.RowKit Go.Mem
def Eq1 (x : Value) : Value → World → Prop := fun v _ => v = x
theorem Eq1.mk {x : Value} {w : World} : Eq1 x x w := rfl
theorem Eq1.of {x v : Value} {w : World} (h : v = x) : Eq1 x v w := h
theorem Eq1.out {x v : Value} {w : World} (h : Eq1 x v w) : v = x := h
def RowJ (B : Nat) (T : TypeId) (n : Nat) (xs : List Value) : Value → World → Prop := fun v w => w.ownsRow B T 1 v n xs
theorem RowJ.mk {B : Nat} {T : TypeId} {n : Nat} {xs : List Value} {v : Value} {w w' : World} (hB : B ≤ w.heap.size) (ho : w'.ownsRow w.heap.size T 1 v n xs) : RowJ B T n xs v w' :=
  ⟨ho.1, ho.2.imp id fun ⟨g, cap, cur, e1, e2, r⟩ => ⟨g, cap, cur, e1, Nat.le_trans hB e2, r⟩⟩
theorem RowJ.stay {B : Nat} {T : TypeId} {n : Nat} {xs : List Value} {v : Value} {w w' : World} (hs : AboveR B w w') (h : RowJ B T n xs v w) : RowJ B T n xs v w' := by
  refine ⟨h.1, ?_⟩
  rcases h.2 with hn | ⟨g, cap, cur, rfl, hb, hgg, rest⟩
  · exact .inl hn
  · exact .inr ⟨g, cap, cur, rfl, hb, (hs.2 g hb (Array.getElem?_eq_some_iff.1 hgg).1).trans hgg, rest⟩
theorem own_vb {v : Value} {k : Nat} (h : v.ownBlock = some k) : k ∈ vb v := by
  cases v with
  | slice A n c =>
    cases A with
    | none => simp [Value.ownBlock] at h
    | some a =>
      simp only [Value.ownBlock, Option.some.injEq] at h
      subst h
      simp [vb, vb0]
  | _ => simp [Value.ownBlock] at h
theorem Fresh.row {b : Bool} {w w' : World} {T : TypeId} {s n : Nat} {v : Value} {xs : List Value} (h : w'.ownsRow w.heap.size T s v n xs) : Fresh b w v w' := by
  intro _ k hk
  rcases h.2 with ⟨rfl, _⟩ | ⟨g, cap, cur, rfl, hb, hg, _⟩
  · simp [vb, vb0] at hk
  · simp only [vb, vb0, List.mem_singleton] at hk
    subst hk
    exact ⟨hb, (Array.getElem?_eq_some_iff.1 hg).1⟩
theorem Fresh.pt {b : Bool} {w : World} {o : Obj} {j : Nat} : Fresh b w (.pointer (some ⟨w.heap.size, j, none⟩)) (w.alloc o) := by
  intro _ k hk
  simp only [vb, vb0, List.mem_singleton] at hk
  subst hk
  exact ⟨Nat.le_refl _, by simp⟩
theorem Fresh.sl {b : Bool} {w : World} {o : Obj} {j n c : Nat} : Fresh b w (.slice (some ⟨w.heap.size, j, none⟩) n c) (w.alloc o) := by
  intro _ k hk
  simp only [vb, vb0, List.mem_singleton] at hk
  subst hk
  exact ⟨Nat.le_refl _, by simp⟩
theorem Hp.adopts {w0 w : World} {L : List Ent} {B : Nat} (H : Hp w0 L w) (hB : w0.heap.size ≤ B) (hlow : ∀ k ∈ fps L, k < B) (M : List Ent) (hM : ∀ x ∈ M, x.ok B w) (hn : (fps M).Nodup) : Hp w0 (M ++ L) w := by
  refine ⟨fun x hx => ?_, ?_, H.low⟩
  · rcases List.mem_append.1 hx with hx | hx
    · have h := hM x hx
      cases x with
      | blk b c T => exact ⟨h.1, Nat.le_trans hB h.2⟩
      | row e size v n xs => exact ⟨h.1, h.2.imp id fun ⟨g, cap, cur, e1, e2, r⟩ => ⟨g, cap, cur, e1, Nat.le_trans hB e2, r⟩⟩
      | obj b o => exact ⟨h.1, Nat.le_trans hB h.2⟩
    · exact H.ok x hx
  · have : fps (M ++ L) = fps M ++ fps L := by simp [fps]
    rw [this, List.nodup_append]
    refine ⟨hn, H.nd, fun a ha b hb e => ?_⟩
    subst e
    obtain ⟨x, hx, hf⟩ := List.mem_filterMap.1 ha
    have := ((hM x hx).lt a hf).1
    have := hlow a hb
    omega
theorem Hp.lows {w0 w : World} {L : List Ent} (H : Hp w0 L w) : ∀ k ∈ fps L, k < w.heap.size := fun k hk => (fps_lt H k hk).2
theorem nodup1 (x : Ent) : (fps [x]).Nodup := by
  cases hf : x.fp <;> simp [fps, hf]
theorem nodup2 {x y : Ent} (h : ∀ k, x.fp = some k → y.fp = some k → False) : (fps [x, y]).Nodup := by
  cases hx : x.fp with
  | none => cases hy : y.fp <;> simp [fps, hx, hy]
  | some k =>
    cases hy : y.fp with
    | none => simp [fps, hx, hy]
    | some j =>
      simp only [fps, List.filterMap_cons, hx, hy, List.filterMap_nil, List.nodup_cons, List.mem_singleton, List.not_mem_nil, not_false_eq_true, List.nodup_nil, and_true]
      intro e
      subst e
      exact h _ hx hy
theorem NewPt.stayR {B : Nat} {c : Array Value} {T : TypeId} {v : Value} {w w' : World} (hs : AboveR B w w') (h : NewPt B c T v w) : NewPt B c T v w' := h.stay hs.2
theorem NewSl.stayR {B n : Nat} {c : Array Value} {T : TypeId} {v : Value} {w w' : World} (hs : AboveR B w w') (h : NewSl B n c T v w) : NewSl B n c T v w' := h.stay hs.2
theorem wpList_nil' {P : Program} {ops : Array Oper} {Q : Exit → Act → World → Prop} {a : Act} {w : World} (h : Q .normal a w) : wpList P ops Q [] a w := h
end Go.Reg

/- A call's own frame: all that lies beside one block is listed, so that what a walk knows of memory says that that block alone has turned. No condition. -/
namespace Go.Mem
open Go.RowKit
theorem Hp.sel {w0 w : World} {L : List Ent} (H : Hp w0 L w) : ∀ (is : List Nat), is.Nodup → Hp w0 (is.filterMap fun i => L[i]?) w
  | [], _ => H.pick (fun x hx => by simp at hx) (by simp [fps])
  | i :: r, hn => by
    have hr := H.sel r (List.nodup_cons.1 hn).2
    cases hi : L[i]? with
    | none => simpa [hi] using hr
    | some x =>
      simp only [List.filterMap_cons, hi]
      refine hr.add x (H.ok x (List.mem_of_getElem? hi)) fun k hk hm => ?_
      obtain ⟨y, hy, hf⟩ := List.mem_filterMap.1 hm
      obtain ⟨j, hj, hjy⟩ := List.mem_filterMap.1 hy
      exact nodup_ne L i j x y k H.nd hi hjy (fun e => (List.nodup_cons.1 hn).1 (e ▸ hj)) hk hf
/-- A world's memory up to a block. -/
def cutAt (w : World) (b : Nat) : World := { w with heap := w.heap.extract 0 b }
def above (w : World) (b : Nat) : List Ent := (List.range w.heap.size).filterMap fun i => if b < i then (w.heap[i]?).map (Ent.obj i) else none
theorem size_cutAt {w : World} {b : Nat} (h : b ≤ w.heap.size) : (cutAt w b).heap.size = b := by simp [cutAt]; omega
theorem mem_above {w : World} {b : Nat} {x : Ent} : x ∈ above w b ↔ ∃ i o, b < i ∧ w.heap[i]? = some o ∧ x = .obj i o := by
  unfold above
  rw [List.mem_filterMap]
  constructor
  · rintro ⟨i, hi, h⟩
    split at h
    · rename_i hb
      cases ho : w.heap[i]? with
      | none => rw [ho] at h; cases h
      | some o => rw [ho] at h; exact ⟨i, o, hb, ho, by simpa using h.symm⟩
    · cases h
  · rintro ⟨i, o, hb, ho, rfl⟩
    exact ⟨i, by simp [(Array.getElem?_eq_some_iff.1 ho).1], by rw [if_pos hb, ho]; rfl⟩
theorem fps_objs (w : World) (b : Nat) : ∀ l : List Nat, (∀ i ∈ l, i < w.heap.size) → fps (l.filterMap fun i => if b < i then (w.heap[i]?).map (Ent.obj i) else none) = l.filter (fun i => decide (b < i))
  | [], _ => rfl
  | i :: r, h => by
    have hr := fps_objs w b r fun j hj => h j (List.mem_cons_of_mem _ hj)
    have hi := h i (List.mem_cons_self ..)
    by_cases hb : b < i
    · simp only [List.filterMap_cons, if_pos hb, Array.getElem?_eq_getElem hi, Option.map_some, List.filter_cons, decide_eq_true hb, if_true]
      rw [← hr]
      simp [fps, Ent.fp]
    · simp only [List.filterMap_cons, if_neg hb, List.filter_cons, decide_eq_false hb]
      simpa using hr
theorem fps_above (w : World) (b : Nat) : fps (above w b) = (List.range w.heap.size).filter (fun i => decide (b < i)) := fps_objs w b _ fun i hi => by simpa using hi
theorem get_cutAt {w : World} {b k : Nat} (hk : k < b) : (cutAt w b).heap[k]? = w.heap[k]? := by
  show (w.heap.extract 0 b)[k]? = _
  rw [Array.getElem?_extract]
  simp
  omega
theorem Hp.whole {w : World} {b : Nat} {c : Array Value} {T : TypeId} (h : w.heap[b]? = some (.cells c T (0, 0))) : Hp (cutAt w b) (.blk b c T :: above w b) w := by
  have hb : b < w.heap.size := (Array.getElem?_eq_some_iff.1 h).1
  have hs := size_cutAt (w := w) (b := b) (by omega)
  refine ⟨fun x hx => ?_, ?_, ⟨rfl, rfl, rfl, by rw [hs]; omega, fun k hk => ?_⟩⟩
  · rcases List.mem_cons.1 hx with rfl | hx
    · exact ⟨h, by omega⟩
    · obtain ⟨i, o, hbi, ho, rfl⟩ := mem_above.1 hx
      exact ⟨ho, by omega⟩
  · have : fps (.blk b c T :: above w b) = b :: fps (above w b) := by simp [fps, Ent.fp]
    rw [this, fps_above, List.nodup_cons]
    exact ⟨by simp, List.nodup_range.sublist List.filter_sublist⟩
  · rw [hs] at hk
    rw [get_cutAt hk]
theorem Hp.only {w w' : World} {b : Nat} {c c' : Array Value} {T T' : TypeId} (h : w.heap[b]? = some (.cells c T (0, 0))) (H : Hp (cutAt w b) (.blk b c' T' :: above w b) w') : Only (some b) w w' ∧ w'.heap[b]? = some (.cells c' T' (0, 0)) := by
  have hb : b < w.heap.size := (Array.getElem?_eq_some_iff.1 h).1
  have hs := size_cutAt (w := w) (b := b) (by omega)
  have hblk : ∀ k, k < w.heap.size → some b ≠ some k → w'.heap[k]? = w.heap[k]? := by
    intro k hk hne
    rcases Nat.lt_trichotomy k b with hlt | heq | hgt
    · have := H.low.block k (by omega)
      rw [this, get_cutAt hlt]
    · exact absurd (by rw [heq]) hne
    · have ho : w.heap[k]? = some w.heap[k] := by simp [hk]
      have := (H.ok _ (List.mem_cons_of_mem _ (mem_above.2 ⟨k, _, hgt, ho, rfl⟩))).1
      rw [this, ho]
  refine ⟨⟨H.low.os, H.low.tape, H.low.output, ?_, hblk⟩, H.get 0 rfl⟩
  rcases Nat.lt_or_ge (w.heap.size - 1) (b + 1) with h1 | h1
  · have := (Array.getElem?_eq_some_iff.1 (H.get 0 rfl)).1
    omega
  · have ho : w.heap[w.heap.size - 1]? = some (w.heap[w.heap.size - 1]'(by omega)) := by simp [show w.heap.size - 1 < w.heap.size by omega]
    have := (H.ok _ (List.mem_cons_of_mem _ (mem_above.2 ⟨w.heap.size - 1, _, by omega, ho, rfl⟩))).1
    have := (Array.getElem?_eq_some_iff.1 this).1
    omega
end Go.Mem
namespace Go.Mem
theorem Hp.perm {w0 w : World} {L M : List Ent} (H : Hp w0 L w) (hp : L.Perm M) : Hp w0 M w :=
  H.pick (fun _ hx => hp.mem_iff.2 hx) ((hp.filterMap Ent.fp).nodup_iff.1 H.nd)
theorem Hp.front {w0 w : World} {L : List Ent} (H : Hp w0 L w) (i : Nat) {x : Ent} (hi : L[i]? = some x) : Hp w0 (x :: L.eraseIdx i) w := by
  obtain ⟨hlt, rfl⟩ := List.getElem?_eq_some_iff.1 hi
  refine H.perm ?_
  rw [List.eraseIdx_eq_take_drop_succ]
  have h : L = L.take i ++ L[i] :: L.drop (i + 1) := by rw [← List.drop_eq_getElem_cons hlt, List.take_append_drop]
  have hp : (L.take i ++ L[i] :: L.drop (i + 1)).Perm (L[i] :: (L.take i ++ L.drop (i + 1))) := List.perm_middle
  rw [← h] at hp
  exact hp
end Go.Mem
namespace Go.Mem
theorem Hp.no2 {w0 w : World} {L : List Ent} {x y z : Ent} (H : Hp w0 (x :: y :: z :: L) w) : Hp w0 (x :: y :: L) w :=
  H.pick (fun u hu => by
    rcases List.mem_cons.1 hu with rfl | hu
    · exact List.mem_cons_self ..
    · rcases List.mem_cons.1 hu with rfl | hu
      · exact List.mem_cons_of_mem _ (List.mem_cons_self ..)
      · exact List.mem_cons_of_mem _ (List.mem_cons_of_mem _ (List.mem_cons_of_mem _ hu)))
    (H.nd.sublist (List.Sublist.filterMap _ (List.Sublist.cons_cons _ (List.Sublist.cons_cons _ (List.sublist_cons_self _ _)))))
end Go.Mem

/- The frame of a law's proof: a call that returns true and leaves all old memory as it was meets the law's specification. No condition. -/
namespace Go.LawLift
open Go.RowKit Go.ChangeShapes Go.WideShapes Go.ChangeAt
theorem trodAll_below {H : Type} {enc : TypeId × Value → H} {P : Program} (hl : laidOutB P = true) {W W' : World} (hb : Below W.heap.size W W') :
    ∀ (ts : List TypeId) (vs : List Value) (ds : List (DataW H)) (ps : List MemPlace), (∀ t ∈ ts, P.readableRec t = true ∧ t < P.types.size) →
      DataW.TrodAll enc P W 0 (fun _ => true) true ts vs ds ps → (∀ x ∈ ps, x.block < W.heap.size) →
      DataW.TrodAll enc P W' 0 (fun b => decide (b < W.heap.size)) true ts vs ds ps
  | [], vs, ds, ps, _, h, _ => by
    obtain ⟨rfl, rfl, rfl⟩ := trodAll_nil h
    exact rfl
  | t :: ts, vs, ds, ps, hr, h, hlt => by
    obtain ⟨v, vs', d, ds', p, q, rfl, rfl, rfl, hd, hrest⟩ := trodAll_cons h
    exact ⟨p, q, Below.trod hl (hr t (by simp)).1 (hr t (by simp)).2 hd hb (fun x hx => hlt x (by simp [hx])), trodAll_below hl hb ts vs' ds' q (fun t' ht' => hr t' (by simp [ht'])) hrest (fun x hx => hlt x (by simp [hx])), rfl⟩
theorem law_post {H : Type} {enc : TypeId × Value → H} {P : Program} {fn : Func} {s : ChangeSpec} {W W' : World} {args : Array Value} {ds gs : List (DataW H)} {before : List MemPlace} {tb : TypeId}
    (hl : laidOutB P = true) (hro0 : (fn.params.toList.all fun t => P.readableRec t && decide (t < P.types.size)) = true) (hv : s.vars = []) (hres : fn.resultTypes = #[tb]) (htb : P.underlying tb = some .bool)
    (hs : (s.fn H (ds ++ [])).results = [.lit (.bool true)] ∧ (s.fn H (ds ++ [])).args = ds ∧ (s.fn H (ds ++ [])).vars = [])
    (hW : DataW.Whole enc P fn.params.toList s.vars false W args.toList ds gs before) (hb : Below W.heap.size W W') :
    s.post enc P fn false true false false W args (.bool true) W' := by
  have hro : ∀ t ∈ fn.params.toList, P.readableRec t = true ∧ t < P.types.size := fun t ht => by simpa using (List.all_eq_true.1 hro0) t ht
  have hW' := hW
  obtain ⟨p, q, hA, hV, rfl, _, _⟩ := hW
  rw [hv] at hV
  obtain ⟨rfl, rfl⟩ := trodVars_none hV
  obtain ⟨s1, s2, s3⟩ := hs
  have hlt : ∀ x ∈ p, x.block < W.heap.size := fun x hx => hW'.lt x (by simp [hx])
  refine ⟨ds, [], p ++ [], [], p, [], hW', ?_, ?_, ?_, hb.frame _, fun h => by cases h⟩
  · rw [s1, hres]
    exact trodAll_mk1 (shut_bool htb true)
  · rw [s2]
    exact trodAll_below hl hb _ _ _ _ hro hA hlt
  · rw [s3, hv]
    exact rfl
#print axioms law_post
end Go.LawLift

/- A law's arguments opened: what a reading of the arguments says of their values. No condition. -/
namespace Go.LawLift
open Go.RowKit Go.ChangeShapes Go.WideShapes Go.Deep
section
variable {H : Type} {enc : TypeId × Value → H} {P : Program} {w : World} {base : Nat} {spare : Nat → Bool} {held : Bool} {t : TypeId}
theorem rd_int {k : IntKind} {fuel : Nat} {v : Value} {x : DataW H × List MemPlace} (ht : P.underlying t = some (.int k)) (h : DataW.trod enc P w base spare held fuel t [v] = some x) : ∃ n, v = .int k n ∧ k.min ≤ n ∧ n ≤ k.max := by
  obtain ⟨n, hc, _, hw⟩ := DataW.trod_int ht h
  injection hc with hc
  exact ⟨n, hc, (Lit.wf_int_iff k n).1 hw⟩
theorem rd_struct {fs : Array Field} {fuel : Nat} {cs : List Value} {x : DataW H × List MemPlace} (hs : P.underlying t = some (.struct fs)) (hone : oneCellFields P fs = true) (hC : P.cellsOf t = fs.size) (h : DataW.trod enc P w base spare held fuel t cs = some x) :
    cs.length = fs.size ∧ ∀ (j : Nat) (f : Field), fs[j]? = some f → ∃ (v : Value) (n : Nat) (y : DataW H × List MemPlace), cs[j]? = some v ∧ DataW.trod enc P w base spare held n f.type [v] = some y := by
  obtain ⟨xs, n, _, _, hl, hxl, hg⟩ := DataW.trod_struct hs h
  refine ⟨hl.trans hC, fun j f hj => ?_⟩
  obtain ⟨ho, hk⟩ := hone_of hone j f hj
  have hjf : j < fs.size := (Array.getElem?_eq_some_iff.1 hj).1
  have hjc : j < cs.length := by omega
  have h1 := hg j f hj
  have hjx : j < xs.length := by omega
  rw [ho, hk, List.drop_eq_getElem_cons hjc, List.getElem?_eq_getElem hjx, List.take_succ_cons, List.take_zero] at h1
  exact ⟨cs[j], n, xs[j], List.getElem?_eq_getElem hjc, h1⟩
variable {r : Reach} {b0 : Nat} {v : Value} {d : DataW H} {p : List MemPlace}
theorem arg_bool (ht : P.underlying t = some .bool) (hv : Value.okWide P w r b0 t v) : ∃ b, v = .bool b := okWide_bool ht hv
theorem arg_struct {fs : Array Field} (hs : P.underlying t = some (.struct fs)) (hone : oneCellFields P fs = true) (hC : P.cellsOf t = fs.size) (hv : Value.okWide P w r b0 t v) (h : DataW.Trod enc P w base spare held t v d p) :
    ∃ cs : List Value, v = .agg cs.toArray ∧ cs.length = fs.size ∧ ∀ (j : Nat) (f : Field), fs[j]? = some f → ∃ (u : Value) (n : Nat) (y : DataW H × List MemPlace), cs[j]? = some u ∧ DataW.trod enc P w base spare held n f.type [u] = some y := by
  obtain ⟨cs, rfl, hsz⟩ := okWide_struct hs hv
  obtain ⟨l⟩ := cs
  obtain ⟨fuel, hf⟩ := h
  have hf' : DataW.trod enc P w base spare held fuel t (Value.agg ⟨l⟩).cells.toList = some (d, p) := hf
  simp only [Value.cells] at hf'
  obtain ⟨h1, h2⟩ := rd_struct hs hone hC hf'
  exact ⟨l, rfl, h1, h2⟩
end
theorem list_2 : ∀ (l : List Value), l.length = 2 → ∃ a0 a1, l = [a0, a1]
  | [a0, a1], _ => ⟨a0, a1, rfl⟩
end Go.LawLift

/- A law's slices opened: bytes, slices of any cells, slices of slices. No condition. -/
namespace Go.LawLift
open Go.RowKit Go.ChangeShapes Go.WideShapes Go.Deep Go.Mem
section
variable {H : Type} {enc : TypeId × Value → H} {P : Program} {w : World} {base : Nat} {spare : Nat → Bool} {held : Bool}
/-- A slice whose elements are one cell each: the list of its cells, each read. -/
theorem rd_sl {t e : TypeId} {fuel : Nat} {v : Value} {x : DataW H × List MemPlace} (ht : P.underlying t = some (.slice e)) (hc : P.cellsOf e = 1) (h : DataW.trod enc P w base spare held fuel t [v] = some x) :
    ∃ xs : List Value, Sl w v xs ∧ ∀ u ∈ xs, ∃ (n : Nat) (y : DataW H × List MemPlace), DataW.trod enc P w base spare held n e [u] = some y := by
  rcases open_slice1 ht hc h with ⟨h0, _⟩ | ⟨a, len, cap, m, n, V, D, Pl, h0, hb, hl, hm, hmm, _, hV⟩
  · injection h0 with h0
    subst h0
    exact ⟨[], Sl.nil w, by simp⟩
  · injection h0 with h0
    subst h0
    have hlm : len ≤ m := by rw [hmm]; split <;> omega
    refine ⟨(List.range len).map V, ⟨some a, cap, by simp, by simpa using hl, hm, (fun h => by cases h), fun hp => ?_⟩, ?_⟩
    · simp only [List.length_map, List.length_range] at hp
      obtain ⟨b, o, sp⟩ := a
      have h0 := (hV 0 (by omega)).1
      have hlt : b < w.heap.size := World.block_lt_of_cell? w _ h0
      have hs : sp = none := by
        unfold Addr.add at h0
        rw [if_pos rfl] at h0
        unfold World.cell? at h0
        split at h0
        · cases sp with
          | none => rfl
          | some z => simp at h0
        · cases h0
      subst hs
      refine ⟨b, o, rfl, hlt, fun j u hu => ?_⟩
      rw [List.getElem?_map] at hu
      cases hj : (List.range len)[j]? with
      | none => rw [hj] at hu; cases hu
      | some k =>
        rw [hj] at hu
        obtain ⟨hjl, hje⟩ := List.getElem?_eq_some_iff.1 hj
        simp only [List.length_range] at hjl
        simp only [List.getElem_range] at hje
        subst hje
        have := (hV j (by omega)).1
        rw [show (⟨b, o, none⟩ : Addr).add j = ⟨b, o + j, none⟩ by unfold Addr.add; split <;> simp_all] at this
        rw [this]
        exact hu
    · intro u hu
      obtain ⟨i, hi, rfl⟩ := List.mem_map.1 hu
      exact ⟨n, _, (hV i (by have := List.mem_range.1 hi; omega)).2⟩
theorem bytes_of (xs : List Value) (h : ∀ u ∈ xs, ∃ n, u = .int .u8 n ∧ 0 ≤ n ∧ n ≤ 255) : ∃ l : List UInt8, xs = l.map u8c := by
  induction xs with
  | nil => exact ⟨[], rfl⟩
  | cons u r ih =>
    obtain ⟨l, rfl⟩ := ih fun v hv => h v (List.mem_cons_of_mem _ hv)
    obtain ⟨n, rfl, h0, h1⟩ := h u (List.mem_cons_self ..)
    exact ⟨UInt8.ofNat n.toNat :: l, by rw [List.map_cons, u8c_of h0 h1]⟩
theorem u8_of {n : Int} (h : IntKind.u8.min ≤ n ∧ n ≤ IntKind.u8.max) : 0 ≤ n ∧ n ≤ 255 := by
  have h1 : IntKind.u8.min = 0 := by decide
  have h2 : IntKind.u8.max = 255 := by decide
  omega
/-- A slice of bytes. -/
theorem rd_bytes {t e : TypeId} {fuel : Nat} {v : Value} {x : DataW H × List MemPlace} (ht : P.underlying t = some (.slice e)) (he : P.underlying e = some (.int .u8)) (hc : P.cellsOf e = 1) (h : DataW.trod enc P w base spare held fuel t [v] = some x) :
    ∃ l : List UInt8, Bs w v l := by
  obtain ⟨xs, hs, hx⟩ := rd_sl ht hc h
  obtain ⟨l, rfl⟩ := bytes_of xs fun u hu => by
    obtain ⟨n, y, hy⟩ := hx u hu
    obtain ⟨m, rfl, hm⟩ := rd_int he hy
    exact ⟨m, rfl, u8_of hm⟩
  exact ⟨l, hs⟩
/-- Two lists, element by element. -/
inductive All2 {α β : Type} (R : α → β → Prop) : List α → List β → Prop
  | nil : All2 R [] []
  | cons {a : α} {b : β} {r : List α} {s : List β} (h : R a b) (t : All2 R r s) : All2 R (a :: r) (b :: s)
theorem All2.length {α β : Type} {R : α → β → Prop} {xs : List α} {ls : List β} (h : All2 R xs ls) : xs.length = ls.length := by
  induction h with
  | nil => rfl
  | cons _ _ ih => simp [ih]
theorem All2.at {α β : Type} {R : α → β → Prop} {xs : List α} {ls : List β} (h : All2 R xs ls) : ∀ (i : Nat) (h1 : i < xs.length) (h2 : i < ls.length), R xs[i] ls[i] := by
  induction h with
  | nil => intro i h1; cases h1
  | cons h _ ih =>
    intro i h1 h2
    cases i with
    | zero => exact h
    | succ i => exact ih i (by simpa using h1) (by simpa using h2)
theorem all_of {α β : Type} {R : α → β → Prop} : ∀ (xs : List α), (∀ u ∈ xs, ∃ l, R u l) → ∃ ls : List β, All2 R xs ls
  | [], _ => ⟨[], .nil⟩
  | u :: r, h => by
    obtain ⟨ls, hr⟩ := all_of r fun v hv => h v (List.mem_cons_of_mem _ hv)
    obtain ⟨l, hl⟩ := h u (List.mem_cons_self ..)
    exact ⟨l :: ls, .cons hl hr⟩
/-- A slice of slices of bytes. -/
def Bss (w : World) (v : Value) (ls : List (List UInt8)) : Prop := ∃ xs, Sl w v xs ∧ All2 (Bs w) xs ls
theorem Bss.open {w : World} {v : Value} {ls : List (List UInt8)} (h : Bss w v ls) : ∃ (A : Option Addr) (c : Nat), v = .slice A ls.length c ∧ ls.length ≤ c ∧ c ≤ 9223372036854775807 ∧ (A = none → c = 0) ∧
    ∀ k, (hk : k < ls.length) → ∃ b o u, A = some ⟨b, o, none⟩ ∧ b < w.heap.size ∧ w.cell? ⟨b, o + k, none⟩ = some u ∧ Bs w u ls[k] := by
  obtain ⟨xs, ⟨A, c, rfl, h1, h2, h3, h4⟩, ha⟩ := h
  have hl := ha.length
  refine ⟨A, c, by rw [hl], by omega, h2, h3, fun k hk => ?_⟩
  obtain ⟨b, o, rfl, hb, hc⟩ := h4 (by omega)
  exact ⟨b, o, xs[k], rfl, hb, hc k _ (List.getElem?_eq_getElem (by omega)), ha.at k (by omega) hk⟩
theorem Bss.step {w w' : World} {v : Value} {ls : List (List UInt8)} (h : Bss w v ls) (hb : Below w.heap.size w w') : Bss w' v ls := by
  obtain ⟨xs, hs, ha⟩ := h
  refine ⟨xs, hs.step hb, ?_⟩
  clear hs
  induction ha with
  | nil => exact .nil
  | cons h _ ih => exact .cons (h.step hb) ih
theorem sl_cells {w : World} {b n : Nat} {c : Array Value} {T : TypeId} {fr : Nat × Nat} {xs : List Value} (h : w.heap[b]? = some (.cells c T fr)) (hc : c.toList = xs) (hn : xs.length = n) (hl : n ≤ 1000000) : Sl w (.slice (some ⟨b, 0, none⟩) n n) xs := by
  subst hn
  refine ⟨some ⟨b, 0, none⟩, xs.length, rfl, Nat.le_refl _, by unfold maxLen; omega, (fun h => by cases h), fun _ => ⟨b, 0, rfl, (Array.getElem?_eq_some_iff.1 h).1, fun j u hu => ?_⟩⟩
  rw [cell_of_marked h, Nat.zero_add, ← Array.getElem?_toList, hc, hu]
theorem own_form {w : World} {B : Nat} {e : TypeId} {size : Nat} {v : Value} {n : Nat} {xs : List Value} (h : w.ownsRow B e size v n xs) : ∃ A c, v = .slice A n c := by
  rcases h.2 with ⟨rfl, rfl⟩ | ⟨g, cap, cur, rfl, _⟩
  · exact ⟨none, 0, rfl⟩
  · exact ⟨_, _, rfl⟩
theorem rd_bss {t e e' : TypeId} {fuel : Nat} {v : Value} {x : DataW H × List MemPlace} (ht : P.underlying t = some (.slice e)) (he : P.underlying e = some (.slice e')) (he' : P.underlying e' = some (.int .u8)) (hc : P.cellsOf e = 1) (hc' : P.cellsOf e' = 1)
    (h : DataW.trod enc P w base spare held fuel t [v] = some x) : ∃ ls, Bss w v ls := by
  obtain ⟨xs, hs, hx⟩ := rd_sl ht hc h
  obtain ⟨ls, hl⟩ := all_of (R := Bs w) xs fun u hu => by
    obtain ⟨n, y, hy⟩ := hx u hu
    exact rd_bytes he he' hc' hy
  exact ⟨ls, xs, hs, hl⟩
variable {t e e' : TypeId} {v : Value} {d : DataW H} {p : List MemPlace} {r : Reach} {b0 : Nat}
theorem slice_cells (ht : P.underlying t = some (.slice e)) (hv : Value.okWide P w r b0 t v) : v.cells.toList = [v] := by
  obtain ⟨a, l, c, rfl⟩ := okWide_slice ht hv
  rfl
theorem arg_bytes (ht : P.underlying t = some (.slice e)) (he : P.underlying e = some (.int .u8)) (hc : P.cellsOf e = 1) (hv : Value.okWide P w r b0 t v) (h : DataW.Trod enc P w base spare held t v d p) : ∃ l : List UInt8, Bs w v l := by
  obtain ⟨fuel, hf⟩ := h
  rw [slice_cells ht hv] at hf
  exact rd_bytes ht he hc hf
theorem arg_bss (ht : P.underlying t = some (.slice e)) (he : P.underlying e = some (.slice e')) (he' : P.underlying e' = some (.int .u8)) (hc : P.cellsOf e = 1) (hc' : P.cellsOf e' = 1) (hv : Value.okWide P w r b0 t v) (h : DataW.Trod enc P w base spare held t v d p) : ∃ ls, Bss w v ls := by
  obtain ⟨fuel, hf⟩ := h
  rw [slice_cells ht hv] at hf
  exact rd_bss ht he he' hc hc' hf
end
#print axioms arg_bss
end Go.LawLift

