/- What a walk knows of memory: the blocks that the call made itself, each with what lies in it, the rows that it appends to, and that all older memory is as it was. -/
import Derived.Below
import Derived.RowKit
import Derived.Laws.Rows
import Derived.Laws.AppendOwn
import Derived.Laws.OwnMore
import Derived.Tactics
set_option linter.unusedSimpArgs false
set_option linter.unusedVariables false
namespace Go.Mem
open Go.RowKit
/-- A block known whole; or a row that is appended to. -/
inductive Ent where
  | blk (b : Nat) (c : Array Value) (T : TypeId)
  | row (e : TypeId) (size : Nat) (v : Value) (n : Nat) (xs : List Value)
  | obj (b : Nat) (o : Obj)
def Ent.fp : Ent → Option Nat
  | .blk b _ _ => some b
  | .row _ _ v _ _ => v.ownBlock
  | .obj b _ => some b
def Ent.ok (B : Nat) (w : World) : Ent → Prop
  | .blk b c T => w.heap[b]? = some (.cells c T (0, 0)) ∧ B ≤ b
  | .row e size v n xs => w.ownsRow B e size v n xs
  | .obj b o => w.heap[b]? = some o ∧ B ≤ b
theorem Ent.ok.lt {B : Nat} {w : World} {x : Ent} (h : x.ok B w) : ∀ k, x.fp = some k → B ≤ k ∧ k < w.heap.size := by
  intro k hk
  cases x with
  | blk b c T =>
    simp [Ent.fp] at hk
    subst hk
    exact ⟨h.2, (Array.getElem?_eq_some_iff.1 h.1).1⟩
  | row e size v n xs => exact World.ownsRow.lt h k hk
  | obj b o =>
    simp [Ent.fp] at hk
    subst hk
    exact ⟨h.2, (Array.getElem?_eq_some_iff.1 h.1).1⟩
theorem Ent.ok.move {B : Nat} {w w' : World} {x : Ent} (h : x.ok B w) (hs : ∀ k, x.fp = some k → w'.heap[k]? = w.heap[k]?) : x.ok B w' := by
  cases x with
  | blk b c T => exact ⟨(hs b rfl).trans h.1, h.2⟩
  | row e size v n xs =>
    refine ⟨h.1, ?_⟩
    rcases h.2 with hn | ⟨g, cap, cur, rfl, hb, hgg, rest⟩
    · exact .inl hn
    · exact .inr ⟨g, cap, cur, rfl, hb, (hs g rfl).trans hgg, rest⟩
  | obj b o => exact ⟨(hs b rfl).trans h.1, h.2⟩
def fps (L : List Ent) : List Nat := L.filterMap Ent.fp
structure Hp (w0 : World) (L : List Ent) (w : World) : Prop where
  ok : ∀ x ∈ L, x.ok w0.heap.size w
  nd : (fps L).Nodup
  low : Below w0.heap.size w0 w
theorem Hp.start (w : World) : Hp w [] w := ⟨fun _ h => (List.not_mem_nil h).elim, List.nodup_nil, Below.refl _ _⟩
theorem fps_lt {w0 w : World} {L : List Ent} (h : Hp w0 L w) : ∀ k ∈ fps L, w0.heap.size ≤ k ∧ k < w.heap.size := by
  intro k hk
  obtain ⟨x, hx, hf⟩ := List.mem_filterMap.1 hk
  exact (h.ok x hx).lt k hf
/-- A step that turns nothing that was there. -/
theorem Hp.step {w0 w w1 : World} {L : List Ent} (h : Hp w0 L w) (hb : Below w.heap.size w w1) : Hp w0 L w1 :=
  ⟨fun x hx => (h.ok x hx).move fun k hk => hb.block k ((h.ok x hx).lt k hk).2, h.nd, h.low.trans (hb.mono h.low.size)⟩
theorem Hp.drew {w0 w : World} {L : List Ent} (h : Hp w0 L w) : Hp w0 L w.drew := h.step ((Below.refl _ _).drew)
/-- A new entry whose block is above all that was there. -/
theorem Hp.add {w0 w : World} {L : List Ent} (h : Hp w0 L w) (x : Ent) (hx : x.ok w0.heap.size w) (hn : ∀ k, x.fp = some k → k ∉ fps L) : Hp w0 (x :: L) w := by
  refine ⟨fun y hy => ?_, ?_, h.low⟩
  · rcases List.mem_cons.1 hy with rfl | hy
    · exact hx
    · exact h.ok y hy
  · cases hf : x.fp with
    | none => simpa [fps, hf] using h.nd
    | some k => simpa [fps, hf] using ⟨by simpa [fps] using hn k hf, h.nd⟩
/-- What a call made: a block that was not there when it began. -/
theorem Hp.adopt {w0 w w1 : World} {L : List Ent} (h : Hp w0 L w) (hb : Below w.heap.size w w1) (x : Ent) (hx : x.ok w.heap.size w1) : Hp w0 (x :: L) w1 := by
  refine (h.step hb).add x ?_ fun k hk hm => ?_
  · cases x with
    | blk b c T => exact ⟨hx.1, Nat.le_trans h.low.size hx.2⟩
    | row e size v n xs =>
      refine ⟨hx.1, ?_⟩
      rcases hx.2 with hn | ⟨g, cap, cur, rfl, hg, rest⟩
      · exact .inl hn
      · exact .inr ⟨g, cap, cur, rfl, Nat.le_trans h.low.size hg, rest⟩
    | obj b o => exact ⟨hx.1, Nat.le_trans h.low.size hx.2⟩
  · have h1 := (hx.lt k hk).1
    have h2 := (fps_lt h k hm).2
    omega
theorem Hp.alloc {w0 w : World} {L : List Ent} (h : Hp w0 L w) (c : Array Value) (T : TypeId) : Hp w0 (.blk w.heap.size c T :: L) (w.alloc (.cells c T)) :=
  h.adopt ((Below.refl _ _).alloc (Nat.le_refl _) _) (.blk w.heap.size c T) ⟨heap_alloc_new w _, Nat.le_refl _⟩
theorem nodup_ne : ∀ (L : List Ent) (i j : Nat) (x y : Ent) (k : Nat), (fps L).Nodup → L[i]? = some x → L[j]? = some y → i ≠ j → x.fp = some k → y.fp ≠ some k
  | [], _, _, _, _, _, _, h, _, _, _ => by simp at h
  | z :: r, i, j, x, y, k, hn, hi, hj, hne, hx => by
    intro hy
    have hr : (fps r).Nodup := by
      cases hf : z.fp with
      | none => simpa [fps, hf] using hn
      | some q => simp [fps, hf] at hn; simpa [fps] using hn.2
    have hz : ∀ q, z.fp = some q → q ∉ fps r := by
      intro q hq
      simp [fps, hq] at hn
      simpa [fps] using hn.1
    cases i with
    | zero =>
      cases j with
      | zero => exact hne rfl
      | succ j =>
        simp at hi hj
        subst hi
        exact hz k hx (List.mem_filterMap.2 ⟨y, List.mem_of_getElem? hj, hy⟩)
    | succ i =>
      cases j with
      | zero =>
        simp at hi hj
        subst hj
        exact hz k hy (List.mem_filterMap.2 ⟨x, List.mem_of_getElem? hi, hx⟩)
      | succ j =>
        simp at hi hj
        exact nodup_ne r i j x y k hr hi hj (by omega) hx hy
theorem fps_set : ∀ (L : List Ent) (i : Nat) (x y : Ent), L[i]? = some x → (∀ k, y.fp = some k → x.fp = some k ∨ k ∉ fps L) → (fps L).Nodup → (fps (L.set i y)).Nodup ∧ ∀ k ∈ fps (L.set i y), k ∈ fps L ∨ y.fp = some k
  | [], _, _, _, h, _, _ => by simp at h
  | z :: r, 0, x, y, hi, hk, hn => by
    simp at hi
    subst hi
    have hr : (fps r).Nodup := by
      cases hf : z.fp with
      | none => simpa [fps, hf] using hn
      | some q => simp [fps, hf] at hn; simpa [fps] using hn.2
    cases hy : y.fp with
    | none => exact ⟨by simpa [fps, hy] using hr, fun k hk' => .inl (by simp only [List.set_cons_zero, fps, List.filterMap_cons, hy] at hk'; cases hf : z.fp <;> simp only [fps, List.filterMap_cons, hf]; exact hk'; exact List.mem_cons_of_mem _ hk')⟩
    | some q =>
      have hq : q ∉ fps r := by
        rcases hk q hy with h | h
        · simp [fps, h] at hn
          simpa [fps] using hn.1
        · intro hm
          refine h ?_
          cases hf : z.fp <;> simp only [fps, List.filterMap_cons, hf]
          · exact hm
          · exact List.mem_cons_of_mem _ hm
      refine ⟨by simpa [fps, hy] using ⟨by simpa [fps] using hq, hr⟩, fun k hk' => ?_⟩
      simp only [List.set_cons_zero, fps, List.filterMap_cons, hy, List.mem_cons] at hk'
      rcases hk' with rfl | hk'
      · exact .inr rfl
      · left
        cases hf : z.fp <;> simp only [fps, List.filterMap_cons, hf]
        · exact hk'
        · exact List.mem_cons_of_mem _ hk'
  | z :: r, i + 1, x, y, hi, hk, hn => by
    have hr : (fps r).Nodup := by
      cases hf : z.fp with
      | none => simpa [fps, hf] using hn
      | some q => simp [fps, hf] at hn; simpa [fps] using hn.2
    have hin : ∀ k, k ∈ fps r → k ∈ fps (z :: r) := fun k hm => by
      cases hf : z.fp <;> simp only [fps, List.filterMap_cons, hf]
      · exact hm
      · exact List.mem_cons_of_mem _ hm
    obtain ⟨h1, h2⟩ := fps_set r i x y (by simpa using hi) (fun k hy => (hk k hy).imp id fun h hm => h (hin k hm)) hr
    cases hf : z.fp with
    | none =>
      refine ⟨by simpa [fps, hf] using h1, fun k hk' => ?_⟩
      have hk2 : k ∈ fps (r.set i y) := by simpa [fps, hf] using hk'
      exact (h2 k hk2).imp (hin k) id
    | some q =>
      have hq : q ∉ fps r := by
        simp [fps, hf] at hn
        simpa [fps] using hn.1
      have hxm : ∀ k, x.fp = some k → k ∈ fps r := fun k hx => List.mem_filterMap.2 ⟨x, List.mem_of_getElem? (show r[i]? = some x by simpa using hi), hx⟩
      have hq2 : q ∉ fps (r.set i y) := by
        intro hm
        rcases h2 q hm with h | h
        · exact hq h
        · rcases hk q h with h' | h'
          · exact hq (hxm q h')
          · exact h' (by simp only [fps, List.filterMap_cons, hf]; exact List.mem_cons_self ..)
      refine ⟨by simpa [fps, hf] using ⟨by simpa [fps] using hq2, h1⟩, fun k hk' => ?_⟩
      have hk2 : k = q ∨ k ∈ fps (r.set i y) := by simpa [fps, hf] using hk'
      rcases hk2 with rfl | hk2
      · left
        simp only [fps, List.filterMap_cons, hf]
        exact List.mem_cons_self ..
      · exact (h2 k hk2).imp (hin k) id
/-- Of what was there block q alone has turned. -/
structure Only (q : Option Nat) (w w' : World) : Prop where
  os : w'.os = w.os
  tape : w'.tape = w.tape
  output : w'.output = w.output
  size : w.heap.size ≤ w'.heap.size
  block : ∀ k, k < w.heap.size → q ≠ some k → w'.heap[k]? = w.heap[k]?
theorem Only.of_grown {w w' : World} {q : Option Nat} (h : w.grownBy w' q) : Only q w w' := ⟨h.os, h.tape, h.output, h.size, fun k hk hne => h.block k hk (Ne.symm hne)⟩
theorem Only.of_below {w w' : World} (q : Option Nat) (h : Below w.heap.size w w') : Only q w w' := ⟨h.os, h.tape, h.output, h.size, fun k hk _ => h.block k hk⟩
theorem Only.trans {q : Option Nat} {a b c : World} (h : Only q a b) (k : Only q b c) : Only q a c :=
  ⟨k.os.trans h.os, k.tape.trans h.tape, k.output.trans h.output, Nat.le_trans h.size k.size, fun i hi hne => (k.block i (Nat.lt_of_lt_of_le hi h.size) hne).trans (h.block i hi hne)⟩
theorem Only.setCell (w : World) (b : Nat) (j : Nat) (v : Value) : Only (some b) w (w.setCell ⟨b, j, none⟩ v) :=
  ⟨rfl, rfl, rfl, by simp, fun k _ hne => Below.heap_setCell _ _ _ _ (fun e => hne (by rw [e]))⟩
/-- A step that turns entry i alone. -/
theorem Hp.turn {w0 w w1 : World} {L : List Ent} (h : Hp w0 L w) (i : Nat) {x y : Ent} (hi : L[i]? = some x) (ho : Only x.fp w w1) (hy : y.ok w0.heap.size w1) (hk : ∀ k, y.fp = some k → x.fp = some k ∨ w.heap.size ≤ k) : Hp w0 (L.set i y) w1 := by
  have hxl : ∀ k, x.fp = some k → w0.heap.size ≤ k := fun k hk => ((h.ok x (List.mem_of_getElem? hi)).lt k hk).1
  refine ⟨fun z hz => ?_, (fps_set L i x y hi (fun k hy' => (hk k hy').imp id fun h1 hm => by have := (fps_lt h k hm).2; omega) h.nd).1, h.low.trans ⟨ho.os, ho.tape, ho.output, ho.size, fun k hk' => ho.block k (Nat.lt_of_lt_of_le hk' h.low.size) fun e => by have := hxl k e; omega⟩⟩
  obtain ⟨j, hj⟩ := List.mem_iff_getElem?.1 hz
  by_cases e : i = j
  · subst e
    have hlt : i < L.length := (List.getElem?_eq_some_iff.1 hi).1
    rw [List.getElem?_set_self hlt] at hj
    rw [← Option.some.inj hj]
    exact hy
  · rw [List.getElem?_set_ne e] at hj
    refine (h.ok z (List.mem_of_getElem? hj)).move fun k hk' => ho.block k ((h.ok z (List.mem_of_getElem? hj)).lt k hk').2 fun hx => ?_
    exact nodup_ne L i j x z k h.nd hi hj e hx hk'
theorem heap_same {w : World} {b j : Nat} {c : Array Value} {T : TypeId} {fz : Nat × Nat} (h : w.heap[b]? = some (.cells c T fz)) (v : Value) : (w.setCell ⟨b, j, none⟩ v).heap[b]? = some (.cells (c.setIfInBounds j v) T fz) := by
  simp [World.setCell, Array.getElem?_modify, h]
theorem Hp.set {w0 w : World} {L : List Ent} (h : Hp w0 L w) (i : Nat) {b : Nat} {c : Array Value} {T : TypeId} (hi : L[i]? = some (.blk b c T)) (j : Nat) (v : Value) : Hp w0 (L.set i (.blk b (c.setIfInBounds j v) T)) (w.setCell ⟨b, j, none⟩ v) :=
  have hx := h.ok _ (List.mem_of_getElem? hi)
  h.turn i hi (Only.setCell w b j v) ⟨heap_same hx.1 v, hx.2⟩ fun _ hk => .inl hk
theorem Hp.get {w0 w : World} {L : List Ent} (h : Hp w0 L w) (i : Nat) {b : Nat} {c : Array Value} {T : TypeId} (hi : L[i]? = some (.blk b c T)) : w.heap[b]? = some (.cells c T (0, 0)) := (h.ok _ (List.mem_of_getElem? hi)).1
theorem Hp.cell {w0 w : World} {L : List Ent} (h : Hp w0 L w) (i : Nat) {b : Nat} {c : Array Value} {T : TypeId} (hi : L[i]? = some (.blk b c T)) {j : Nat} {v : Value} (hj : c[j]? = some v) : w.cell? ⟨b, j, none⟩ = some v := (cell_of_row w b j c T (0, 0) (h.get i hi)).trans hj
theorem Hp.frozen {w0 w : World} {L : List Ent} (h : Hp w0 L w) (i : Nat) {b : Nat} {c : Array Value} {T : TypeId} (hi : L[i]? = some (.blk b c T)) (j : Nat) : w.frozen? ⟨b, j, none⟩ = false := frozen_of_row w b j c T (h.get i hi)
theorem Hp.lt {w0 w : World} {L : List Ent} (h : Hp w0 L w) (i : Nat) {b : Nat} {c : Array Value} {T : TypeId} (hi : L[i]? = some (.blk b c T)) : b < w.heap.size := ((h.ok _ (List.mem_of_getElem? hi)).lt b rfl).2
theorem Hp.name {w0 w : World} {L : List Ent} (_ : Hp w0 L w) (i : Nat) {b : Nat} {c : Array Value} {T : TypeId} (_ : L[i]? = some (.blk b c T)) : ∃ q, q = b := ⟨b, rfl⟩
theorem Hp.rowName {w0 w : World} {L : List Ent} (_ : Hp w0 L w) (i : Nat) {e : TypeId} {size : Nat} {v : Value} {n : Nat} {xs : List Value} (_ : L[i]? = some (.row e size v n xs)) : ∃ q, q = v := ⟨v, rfl⟩
theorem Hp.nameW {w0 w : World} {L : List Ent} (_ : Hp w0 L w) : ∃ q, q = w := ⟨w, rfl⟩
/-- A new block of the region's own, as a slice's or as a pointer's. -/
def NewSl (B n : Nat) (c : Array Value) (T : TypeId) (v : Value) (w : World) : Prop := ∃ b, v = .slice (some ⟨b, 0, none⟩) n n ∧ B ≤ b ∧ w.heap[b]? = some (.cells c T (0, 0))
def NewPt (B : Nat) (c : Array Value) (T : TypeId) (v : Value) (w : World) : Prop := ∃ b, v = .pointer (some ⟨b, 0, none⟩) ∧ B ≤ b ∧ w.heap[b]? = some (.cells c T (0, 0))
theorem NewSl.mk (B n : Nat) (c : Array Value) (T : TypeId) (w : World) (hB : B ≤ w.heap.size) : NewSl B n c T (.slice (some ⟨w.heap.size, 0, none⟩) n n) (w.alloc (.cells c T)) := ⟨_, rfl, hB, heap_alloc_new w _⟩
theorem NewPt.mk (B : Nat) (c : Array Value) (T : TypeId) (w : World) (hB : B ≤ w.heap.size) : NewPt B c T (.pointer (some ⟨w.heap.size, 0, none⟩)) (w.alloc (.cells c T)) := ⟨_, rfl, hB, heap_alloc_new w _⟩
theorem NewSl.stay {B n : Nat} {c : Array Value} {T : TypeId} {v : Value} {w w' : World} (h : NewSl B n c T v w) (hs : ∀ k, B ≤ k → k < w.heap.size → w'.heap[k]? = w.heap[k]?) : NewSl B n c T v w' := by
  obtain ⟨b, e, hb, hh⟩ := h
  exact ⟨b, e, hb, (hs b hb (Array.getElem?_eq_some_iff.1 hh).1).trans hh⟩
theorem NewPt.stay {B : Nat} {c : Array Value} {T : TypeId} {v : Value} {w w' : World} (h : NewPt B c T v w) (hs : ∀ k, B ≤ k → k < w.heap.size → w'.heap[k]? = w.heap[k]?) : NewPt B c T v w' := by
  obtain ⟨b, e, hb, hh⟩ := h
  exact ⟨b, e, hb, (hs b hb (Array.getElem?_eq_some_iff.1 hh).1).trans hh⟩
theorem Hp.pick {w0 w : World} {L M : List Ent} (h : Hp w0 L w) (hm : ∀ x ∈ M, x ∈ L) (hn : (fps M).Nodup) : Hp w0 M w := ⟨fun x hx => h.ok x (hm x hx), hn, h.low⟩
theorem Hp.tail {w0 w : World} {L : List Ent} {x : Ent} (h : Hp w0 (x :: L) w) : Hp w0 L w :=
  h.pick (fun y hy => List.mem_cons_of_mem _ hy) (by
    have hn := h.nd
    cases hf : x.fp with
    | none => simpa [fps, hf] using hn
    | some q => simp [fps, hf] at hn; simpa [fps] using hn.2)
theorem Hp.second {w0 w : World} {L : List Ent} {x y : Ent} (h : Hp w0 (x :: y :: L) w) : Hp w0 (x :: L) w :=
  h.pick (fun z hz => by rcases List.mem_cons.1 hz with rfl | hz; exact List.mem_cons_self .. ; exact List.mem_cons_of_mem _ (List.mem_cons_of_mem _ hz)) (by
    have hn := h.nd
    refine List.Nodup.sublist ?_ hn
    exact List.Sublist.filterMap _ (List.Sublist.cons_cons _ (List.sublist_cons_self _ _)))
theorem blk_news {w : World} {b : Nat} {c : Array Value} {T : TypeId} (h : w.heap[b]? = some (.cells c T (0, 0))) : ∀ (j : Nat) (u : Value), c.toList[j]? = some u → w.cell? ((⟨b, 0, none⟩ : Addr).add j) = some u := by
  intro j u hu
  have ha : (⟨b, 0, none⟩ : Addr).add j = ⟨b, j, none⟩ := by unfold Addr.add; split <;> simp_all
  rw [ha, cell_of_row w b j c T (0, 0) h]
  simpa using hu
/-- What the walk's own simp is to know. -/
def factsL (w : World) : List Ent → Prop
  | [] => True
  | .blk b c _ :: r => ((∀ j, w.cell? ⟨b, j, none⟩ = c[j]?) ∧ (∀ j, w.frozen? ⟨b, j, none⟩ = false) ∧ b < w.heap.size) ∧ factsL w r
  | .row .. :: r => factsL w r
  | .obj .. :: r => factsL w r
def Facts (w0 : World) (L : List Ent) (w : World) : Prop :=
  ((∀ p, p.block < w0.heap.size → w.cell? p = w0.cell? p) ∧ (∀ p, p.block < w0.heap.size → w.frozen? p = w0.frozen? p) ∧ w0.heap.size ≤ w.heap.size) ∧ factsL w L
theorem Hp.facts {w0 w : World} {L : List Ent} (h : Hp w0 L w) : Facts w0 L w := by
  refine ⟨⟨fun p hp => h.low.cell hp, fun p hp => h.low.frozen hp, h.low.size⟩, ?_⟩
  have hok := h.ok
  clear h
  induction L with
  | nil => trivial
  | cons x r ih =>
    have hr := ih fun y hy => hok y (List.mem_cons_of_mem _ hy)
    have hx := hok x (List.mem_cons_self ..)
    cases x with
    | blk b c T => exact ⟨⟨fun j => cell_of_row w b j c T (0, 0) hx.1, fun j => frozen_of_row w b j c T hx.1, (hx.lt b rfl).2⟩, hr⟩
    | row e size v n xs => exact hr
    | obj b o => exact hr
section
variable {P : Program} {ops : Array Oper} {Q : Exit → Act → World → Prop} {l : List Oper} {a : Act} {w0 w : World} {L : List Ent}
/-- In the walk: a new block gets a name, and the world behind it. -/
theorem Hp.abs_alloc (H : Hp w0 L w) {c : Array Value} {T : TypeId} (h : ∀ b w', Hp w0 (.blk b c T :: L) w' → w.heap.size = b → wpList P ops Q l a w') : wpList P ops Q l a (w.alloc (.cells c T)) :=
  h w.heap.size _ (H.alloc c T) rfl
theorem Hp.abs_gen {w' : World} {M : List Ent} (_ : Hp w0 L w) (h1 : Hp w0 M w') (h : ∀ w'', Hp w0 M w'' → wpList P ops Q l a w'') : wpList P ops Q l a w' := h _ h1
theorem Hp.set' (i : Nat) {b : Nat} {c : Array Value} {T : TypeId} {j : Nat} {v : Value} (h : Hp w0 L w) (hi : L[i]? = some (.blk b c T)) : Hp w0 (L.set i (.blk b (c.setIfInBounds j v) T)) (w.setCell ⟨b, j, none⟩ v) := h.set i hi j v
end
end Go.Mem

