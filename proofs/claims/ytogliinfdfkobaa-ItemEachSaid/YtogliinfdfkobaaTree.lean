/- Trees that lie in memory: what a value of five cells (a tag, bytes, kids) reads as; that a reading holds in each world that agrees on some blocks; how a caller keeps what a callee has made. No condition on a program. -/
import Derived.Test.YtogliinfdfkobaaHPlain
import Derived.Test.YtogliinfdfkobaaLift
import Derived.Test.YtogliinfdfkobaaInts
import Derived.Test.YtogliinfdfkobaaFrame
set_option linter.unusedSimpArgs false
set_option linter.unusedVariables false
namespace Go.Mem
open Go.RowKit Go.Reg
inductive Tree where
  | mk (t : Hd.Tg) (bs : List UInt8) (ks : List Tree)
def Tree.tag : Tree → Hd.Tg | .mk t _ _ => t
def Tree.bytes : Tree → List UInt8 | .mk _ b _ => b
def Tree.kids : Tree → List Tree | .mk _ _ k => k
/-- Another world in which the blocks of a kind are as they were. -/
def Agree (P : Nat → Prop) (w w' : World) : Prop := ∀ b, P b → b < w.heap.size → w'.heap[b]? = w.heap[b]?
theorem Agree.refl (P : Nat → Prop) (w : World) : Agree P w w := fun _ _ _ => rfl
theorem Agree.lt {P : Nat → Prop} {w w' : World} (h : Agree P w w') {b : Nat} (hb : P b) (hl : b < w.heap.size) : b < w'.heap.size := by
  have e := h b hb hl
  rw [Array.getElem?_eq_getElem hl] at e
  exact (Array.getElem?_eq_some_iff.1 e).1
theorem Agree.trans {P : Nat → Prop} {a b c : World} (h : Agree P a b) (k : Agree P b c) : Agree P a c :=
  fun i hi hl => (k i hi (h.lt hi hl)).trans (h i hi hl)
theorem Agree.weak {P Q : Nat → Prop} {w w' : World} (h : Agree P w w') (hq : ∀ b, Q b → b < w.heap.size → P b) : Agree Q w w' := fun b hb hl => h b (hq b hb hl) hl
theorem Agree.all {w w' : World} (h : Below w.heap.size w w') (P : Nat → Prop) : Agree P w w' := fun b _ hl => h.block b hl
/-- What holds in each world that agrees on blocks of a kind. -/
def Rob (P : Nat → Prop) (X : World → Prop) (w : World) : Prop := ∀ w', Agree P w w' → X w'
theorem Rob.out {P : Nat → Prop} {X : World → Prop} {w : World} (h : Rob P X w) : X w := h w (Agree.refl _ _)
theorem Rob.move {P : Nat → Prop} {X : World → Prop} {w w' : World} (h : Rob P X w) (k : Agree P w w') : Rob P X w' := fun v hv => h v (k.trans hv)
theorem Rob.weak {P Q : Nat → Prop} {X : World → Prop} {w : World} (h : Rob P X w) (hq : ∀ b, P b → b < w.heap.size → Q b) : Rob Q X w := fun v hv => h v (hv.weak hq)
theorem Rob.step {P : Nat → Prop} {X : World → Prop} {w w' : World} (h : Rob P X w) (k : Below w.heap.size w w') : Rob P X w' := h.move (Agree.all k P)
/-- The five cells of a tree, no deeper than n, all of whose memory lies in blocks of a kind. -/
def ItP (P : Nat → Prop) (w : World) : Nat → Tree → List Value → Prop
  | 0, _, _ => False
  | n + 1, .mk t bs ks, cs => ∃ (vb : Value) (A : Option Addr) (c : Nat), cs = [.int .i64 t.c, .int .i64 t.n, .bool t.m, vb, .slice A ks.length c] ∧ Rob P (fun w => Bs w vb bs) w ∧ ks.length ≤ c ∧ c ≤ maxLen ∧ (A = none → c = 0) ∧
      ∀ j, (hj : j < ks.length) → ∃ b o, A = some ⟨b, o, none⟩ ∧ P b ∧ b < w.heap.size ∧ ∃ ds : List Value, ds.length = 5 ∧ (∀ i u, ds[i]? = some u → w.cell? ⟨b, o + j * 5 + i, none⟩ = some u) ∧ ItP P w n ks[j] ds
/-- A tree wherever it lies. -/
abbrev ItN (w : World) (n : Nat) (t : Tree) (cs : List Value) : Prop := ItP (fun _ => True) w n t cs
theorem ItP.len {P : Nat → Prop} {w : World} {n : Nat} {t : Tree} {cs : List Value} (h : ItP P w n t cs) : cs.length = 5 := by
  cases n with
  | zero => exact h.elim
  | succ n =>
    obtain ⟨t, bs, ks⟩ := t
    obtain ⟨vb, A, c, rfl, -⟩ := h
    rfl
theorem cell_agree {P : Nat → Prop} {w w' : World} (h : Agree P w w') {b k : Nat} (hb : P b) (hl : b < w.heap.size) : w'.cell? ⟨b, k, none⟩ = w.cell? ⟨b, k, none⟩ := by
  have e := h b hb hl
  simp only [World.cell?, e]
theorem ItP.move {P : Nat → Prop} : ∀ {n : Nat} {w w' : World} {t : Tree} {cs : List Value}, ItP P w n t cs → Agree P w w' → ItP P w' n t cs
  | 0, _, _, _, _, h, _ => h.elim
  | n + 1, w, w', .mk t bs ks, cs, h, hb => by
    obtain ⟨vb, A, c, e, h1, h2, h3, h4, h5⟩ := h
    refine ⟨vb, A, c, e, h1.move hb, h2, h3, h4, fun j hj => ?_⟩
    obtain ⟨b, o, e1, e0, e2, ds, e3, e4, e5⟩ := h5 j hj
    exact ⟨b, o, e1, e0, hb.lt e0 e2, ds, e3, fun i u hu => (cell_agree hb e0 e2).trans (e4 i u hu), e5.move hb⟩
theorem ItP.weak {P Q : Nat → Prop} : ∀ {n : Nat} {w : World} {t : Tree} {cs : List Value}, ItP P w n t cs → (∀ b, P b → b < w.heap.size → Q b) → ItP Q w n t cs
  | 0, _, _, _, h, _ => h.elim
  | n + 1, w, .mk t bs ks, cs, h, hq => by
    obtain ⟨vb, A, c, e, h1, h2, h3, h4, h5⟩ := h
    refine ⟨vb, A, c, e, h1.weak hq, h2, h3, h4, fun j hj => ?_⟩
    obtain ⟨b, o, e1, e0, e2, ds, e3, e4, e5⟩ := h5 j hj
    exact ⟨b, o, e1, hq b e0 e2, e2, ds, e3, e4, e5.weak hq⟩
theorem ItP.any {P : Nat → Prop} {n : Nat} {w : World} {t : Tree} {cs : List Value} (h : ItP P w n t cs) : ItN w n t cs := h.weak fun _ _ _ => trivial
theorem ItP.step {P : Nat → Prop} {n : Nat} {w w' : World} {t : Tree} {cs : List Value} (h : ItP P w n t cs) (hb : Below w.heap.size w w') : ItP P w' n t cs := h.move (Agree.all hb P)
theorem ItP.pos {P : Nat → Prop} {n : Nat} {w : World} {t : Tree} {cs : List Value} (h : ItP P w n t cs) : ∃ m, n = m + 1 := by
  cases n with
  | zero => exact h.elim
  | succ m => exact ⟨m, rfl⟩
/-- A tree's five cells written out. -/
theorem ItP.opened {P : Nat → Prop} {n : Nat} {w : World} {t : Tree} {cs : List Value} (h : ItP P w (n + 1) t cs) : ∃ (vb : Value) (A : Option Addr) (c : Nat), cs = [.int .i64 t.tag.c, .int .i64 t.tag.n, .bool t.tag.m, vb, .slice A t.kids.length c] ∧ Rob P (fun w => Bs w vb t.bytes) w ∧ t.kids.length ≤ c ∧ c ≤ maxLen ∧ (A = none → c = 0) ∧
      ∀ j, (hj : j < t.kids.length) → ∃ b o, A = some ⟨b, o, none⟩ ∧ b < w.heap.size ∧ P b ∧ ∃ d0 d1 d2 d3 d4 : Value, w.cell? ⟨b, o + j * 5, none⟩ = some d0 ∧ w.cell? ⟨b, o + j * 5 + 1, none⟩ = some d1 ∧ w.cell? ⟨b, o + j * 5 + 2, none⟩ = some d2 ∧ w.cell? ⟨b, o + j * 5 + 3, none⟩ = some d3 ∧ w.cell? ⟨b, o + j * 5 + 4, none⟩ = some d4 ∧ ItP P w n t.kids[j] [d0, d1, d2, d3, d4] := by
  obtain ⟨tg, bs, ks⟩ := t
  obtain ⟨vb, A, c, e, h1, h2, h3, h4, h5⟩ := h
  refine ⟨vb, A, c, e, h1, h2, h3, h4, fun j hj => ?_⟩
  obtain ⟨b, o, e1, e0, e2, ds, e3, e4, e5⟩ := h5 j hj
  match ds, e3 with
  | [d0, d1, d2, d3, d4], _ => exact ⟨b, o, e1, e2, e0, d0, d1, d2, d3, d4, e4 0 _ rfl, e4 1 _ rfl, e4 2 _ rfl, e4 3 _ rfl, e4 4 _ rfl, e5⟩
theorem ItP.open {P : Nat → Prop} {n : Nat} {w : World} {t : Tree} {cs : List Value} (h : ItP P w (n + 1) t cs) : ∃ (vb : Value) (A : Option Addr) (c : Nat), cs = [.int .i64 t.tag.c, .int .i64 t.tag.n, .bool t.tag.m, vb, .slice A t.kids.length c] ∧ Bs w vb t.bytes ∧ t.kids.length ≤ c ∧ c ≤ maxLen ∧ (A = none → c = 0) ∧
      ∀ j, (hj : j < t.kids.length) → ∃ b o, A = some ⟨b, o, none⟩ ∧ b < w.heap.size ∧ ∃ d0 d1 d2 d3 d4 : Value, w.cell? ⟨b, o + j * 5, none⟩ = some d0 ∧ w.cell? ⟨b, o + j * 5 + 1, none⟩ = some d1 ∧ w.cell? ⟨b, o + j * 5 + 2, none⟩ = some d2 ∧ w.cell? ⟨b, o + j * 5 + 3, none⟩ = some d3 ∧ w.cell? ⟨b, o + j * 5 + 4, none⟩ = some d4 ∧ ItP P w n t.kids[j] [d0, d1, d2, d3, d4] := by
  obtain ⟨vb, A, c, e, h1, h2, h3, h4, h5⟩ := h.opened
  refine ⟨vb, A, c, e, h1.out, h2, h3, h4, fun j hj => ?_⟩
  obtain ⟨b, o, e1, e2, -, h⟩ := h5 j hj
  exact ⟨b, o, e1, e2, h⟩
/-- All that was made between two worlds, as entries. -/
def made (a : Nat) (w : World) : List Ent := (List.range w.heap.size).filterMap fun i => if a ≤ i then (w.heap[i]?).map (Ent.obj i) else none
theorem mem_made {a : Nat} {w : World} {x : Ent} : x ∈ made a w ↔ ∃ i o, a ≤ i ∧ w.heap[i]? = some o ∧ x = .obj i o := by
  unfold made
  rw [List.mem_filterMap]
  constructor
  · rintro ⟨i, hi, h⟩
    split at h
    · rename_i hb
      cases ho : w.heap[i]? with
      | none => rw [ho] at h; cases h
      | some o => rw [ho] at h; exact ⟨i, o, hb, ho, by simpa using h.symm⟩
    · cases h
  · rintro ⟨i, o, hb, ho, rfl⟩
    exact ⟨i, by simp [(Array.getElem?_eq_some_iff.1 ho).1], by rw [if_pos hb, ho]; rfl⟩
theorem fps_made_aux (w : World) (a : Nat) : ∀ l : List Nat, (∀ i ∈ l, i < w.heap.size) → fps (l.filterMap fun i => if a ≤ i then (w.heap[i]?).map (Ent.obj i) else none) = l.filter (fun i => decide (a ≤ i))
  | [], _ => rfl
  | i :: r, h => by
    have hr := fps_made_aux w a r fun j hj => h j (List.mem_cons_of_mem _ hj)
    have hi := h i (List.mem_cons_self ..)
    by_cases hb : a ≤ i
    · simp only [List.filterMap_cons, if_pos hb, Array.getElem?_eq_getElem hi, Option.map_some, List.filter_cons, decide_eq_true hb, if_true]
      rw [← hr]
      simp [fps, Ent.fp]
    · simp only [List.filterMap_cons, if_neg hb, List.filter_cons, decide_eq_false hb]
      simpa using hr
theorem fps_made (a : Nat) (w : World) : fps (made a w) = (List.range w.heap.size).filter (fun i => decide (a ≤ i)) := fps_made_aux w a _ fun i hi => by simpa using hi
/-- What a caller knows of a kid, however its own memory turns: it lies below B or in blocks that are kept. -/
def Kid (w0 : World) (B : Nat) (Os : List Ent) (X : World → Prop) : Prop := ∀ w : World, (∀ b o, Ent.obj b o ∈ Os → w.heap[b]? = some o) → Agree (fun b => b < B) w0 w → X w
theorem Kid.more {w0 : World} {B : Nat} {Os Os' : List Ent} {X : World → Prop} (h : Kid w0 B Os X) (hs : ∀ x ∈ Os, x ∈ Os') : Kid w0 B Os' X := fun w hw hb => h w (fun _ _ ho => hw _ _ (hs _ ho)) hb
theorem Hp.agree {w0 w : World} {L : List Ent} (H : Hp w0 L w) {B : Nat} (_ : B ≤ w0.heap.size) : Agree (fun b => b < B) w0 w := fun b hb _ => H.low.block b (by omega)
theorem Kid.get {w0 w : World} {B : Nat} {L Os : List Ent} {X : World → Prop} (h : Kid w0 B Os X) (hB : B ≤ w0.heap.size) (H : Hp w0 L w) (hs : ∀ x ∈ Os, x ∈ L) : X w := h w (fun _ _ ho => (H.ok _ (hs _ ho)).1) (H.agree hB)
theorem Kid.of {w0 w w1 : World} {L : List Ent} {B : Nat} {X : World → Prop} (H : Hp w0 L w) (hB : B ≤ w0.heap.size) (hb : Below w.heap.size w w1) (h : Rob (fun b => b < B ∨ w.heap.size ≤ b) X w1) : Kid w0 B (made w.heap.size w1) X := by
  intro v hv hl
  refine h v fun b hP hlt => ?_
  rcases hP with hP | hP
  · have h1 := hl b hP (by omega)
    have h2 := (H.low.trans (hb.mono H.low.size)).block b (by omega)
    exact h1.trans h2.symm
  · obtain ⟨o, ho⟩ : ∃ o, w1.heap[b]? = some o := ⟨w1.heap[b], by simp [hlt]⟩
    rw [ho]
    exact hv b o (mem_made.2 ⟨b, o, hP, ho, rfl⟩)
/-- A kid of old memory alone. -/
theorem Kid.old {w0 : World} {B : Nat} {X : World → Prop} (h : Rob (· < B) X w0) : Kid w0 B [] X := fun v _ hl => h v hl
/-- What lies below B or is kept. -/
def Kept (B : Nat) (Os : List Ent) (b : Nat) : Prop := b < B ∨ ∃ o, Ent.obj b o ∈ Os
theorem Kept.agree {w0 w1 w2 : World} {L1 L2 Os : List Ent} {B : Nat} (hB : B ≤ w0.heap.size) (H1 : Hp w0 L1 w1) (H2 : Hp w0 L2 w2) (h1 : ∀ x ∈ Os, x ∈ L1) (h2 : ∀ x ∈ Os, x ∈ L2) : Agree (Kept B Os) w1 w2 := by
  intro b hb _
  rcases hb with hb | ⟨o, ho⟩
  · exact (H2.low.block b (by omega)).trans (H1.low.block b (by omega)).symm
  · exact ((H2.ok _ (h2 _ ho)).1).trans ((H1.ok _ (h1 _ ho)).1).symm
/-- What a callee made is kept: its tree lies in what is kept. -/
theorem ItP.kept {B n : Nat} {w w1 : World} {t : Tree} {cs : List Value} {Os : List Ent} (h : ItP (fun b => b < B ∨ w.heap.size ≤ b) w1 n t cs) : ItP (Kept B (made w.heap.size w1 ++ Os)) w1 n t cs :=
  h.weak fun b hb hl => hb.imp id fun hb => ⟨w1.heap[b], List.mem_append_left _ (mem_made.2 ⟨b, _, hb, by simp [hl], rfl⟩)⟩
theorem ItP.keptMore {B n : Nat} {w : World} {t : Tree} {cs : List Value} {Os Os' : List Ent} (h : ItP (Kept B Os) w n t cs) (hs : ∀ x ∈ Os, x ∈ Os') : ItP (Kept B Os') w n t cs :=
  h.weak fun _ hb _ => hb.imp id fun ⟨o, ho⟩ => ⟨o, hs _ ho⟩
theorem ItP.keptOut {w0 w : World} {B n : Nat} {t : Tree} {cs : List Value} {Os L : List Ent} (h : ItP (Kept B Os) w n t cs) (H : Hp w0 L w) (hs : ∀ x ∈ Os, x ∈ L) : ItP (fun b => b < B ∨ w0.heap.size ≤ b) w n t cs :=
  h.weak fun _ hb _ => hb.imp id fun ⟨_, ho⟩ => (H.ok _ (hs _ ho)).2
mutual
def Tree.deep : Tree → Nat
  | .mk _ _ ks => Tree.deeps ks + 1
def Tree.deeps : List Tree → Nat
  | [] => 0
  | k :: r => max k.deep (Tree.deeps r)
end
mutual
def Tree.count : Tree → Nat
  | .mk _ _ ks => Tree.counts ks + 1
def Tree.counts : List Tree → Nat
  | [] => 0
  | k :: r => k.count + Tree.counts r
end
theorem Tree.deep_is (t : Tree) : t.deep = Tree.deeps t.kids + 1 := by cases t; simp [Tree.deep, Tree.kids]
theorem Tree.count_is (t : Tree) : t.count = Tree.counts t.kids + 1 := by cases t; simp [Tree.count, Tree.kids]
theorem Tree.deeps_app : ∀ a b : List Tree, Tree.deeps (a ++ b) = max (Tree.deeps a) (Tree.deeps b)
  | [], b => by simp [Tree.deeps]
  | k :: a, b => by rw [List.cons_append, Tree.deeps, Tree.deeps_app a b, Tree.deeps]; omega
theorem Tree.counts_app : ∀ a b : List Tree, Tree.counts (a ++ b) = Tree.counts a + Tree.counts b
  | [], b => by simp [Tree.counts]
  | k :: a, b => by rw [List.cons_append, Tree.counts, Tree.counts_app a b, Tree.counts]; omega
theorem Tree.deeps_take (ks : List Tree) (i : Nat) (h : i < ks.length) : Tree.deeps (ks.take (i + 1)) = max (Tree.deeps (ks.take i)) ks[i].deep := by
  rw [List.take_succ_eq_append_getElem h, Tree.deeps_app]; simp [Tree.deeps]
theorem Tree.counts_take (ks : List Tree) (i : Nat) (h : i < ks.length) : Tree.counts (ks.take (i + 1)) = Tree.counts (ks.take i) + ks[i].count := by
  rw [List.take_succ_eq_append_getElem h, Tree.counts_app]; simp [Tree.counts]
theorem Tree.counts_at : ∀ (ks : List Tree) (i : Nat) (h : i < ks.length), ks[i].count ≤ Tree.counts ks
  | k :: r, 0, _ => by simp only [Tree.counts, List.getElem_cons_zero]; omega
  | k :: r, i + 1, h => by
    have := Tree.counts_at r i (by simpa using h)
    simp only [Tree.counts, List.getElem_cons_succ]
    omega
theorem Tree.count_pos (t : Tree) : 1 ≤ t.count := by rw [Tree.count_is]; omega
theorem Tree.len_counts : ∀ ks : List Tree, ks.length ≤ Tree.counts ks
  | [] => Nat.zero_le _
  | k :: r => by
    have := Tree.len_counts r
    have := k.count_pos
    simp only [Tree.counts, List.length_cons]
    omega
mutual
/-- All bytes of a tree's parts. -/
def Tree.total : Tree → Nat
  | .mk _ bs ks => bs.length + Tree.totals ks
def Tree.totals : List Tree → Nat
  | [] => 0
  | k :: r => k.total + Tree.totals r
end
mutual
/-- No part is longer than what a process can address. -/
def Tree.Fit : Tree → Prop
  | .mk _ bs ks => bs.length ≤ 140737488351232 ∧ ks.length ≤ 140737488351232 ∧ Tree.Fits ks
def Tree.Fits : List Tree → Prop
  | [] => True
  | k :: r => k.Fit ∧ Tree.Fits r
end
theorem Tree.total_is (t : Tree) : t.total = t.bytes.length + Tree.totals t.kids := by cases t; simp [Tree.total, Tree.kids, Tree.bytes]
theorem Tree.totals_app : ∀ a b : List Tree, Tree.totals (a ++ b) = Tree.totals a + Tree.totals b
  | [], b => by simp [Tree.totals]
  | k :: a, b => by rw [List.cons_append, Tree.totals, Tree.totals_app a b, Tree.totals]; omega
theorem Tree.totals_take (ks : List Tree) (i : Nat) (h : i < ks.length) : Tree.totals (ks.take (i + 1)) = Tree.totals (ks.take i) + ks[i].total := by
  rw [List.take_succ_eq_append_getElem h, Tree.totals_app]; simp [Tree.totals]
theorem Tree.Fits.get : ∀ {ks : List Tree} (_ : Tree.Fits ks) (i : Nat) (hi : i < ks.length), ks[i].Fit
  | k :: r, h, 0, _ => by simp only [Tree.Fits] at h; exact h.1
  | k :: r, h, i + 1, hi => by simp only [Tree.Fits] at h; exact Tree.Fits.get h.2 i (by simpa using hi)
mutual
/-- The same trees? -/
def Tree.same : Tree → Tree → Bool
  | .mk t b ks, .mk t' b' ks' => decide (t = t') && decide (b = b') && Tree.sames ks ks'
def Tree.sames : List Tree → List Tree → Bool
  | [], [] => true
  | k :: r, k' :: r' => k.same k' && Tree.sames r r'
  | _, _ => false
end
theorem Tree.sames_no : ∀ (ks ks' : List Tree), ks.length ≠ ks'.length → Tree.sames ks ks' = false
  | [], [], h => absurd rfl h
  | [], _ :: _, _ => by simp [Tree.sames]
  | _ :: _, [], _ => by simp [Tree.sames]
  | k :: r, k' :: r', h => by rw [Tree.sames, Tree.sames_no r r' (by simpa using h), Bool.and_false]
theorem Tree.sames_at : ∀ (ks ks' : List Tree) (i : Nat) (h : i < ks.length) (h' : i < ks'.length), ks[i].same ks'[i] = false → Tree.sames ks ks' = false
  | k :: r, k' :: r', 0, _, _, e => by
    rw [Tree.sames, show k.same k' = false from e, Bool.false_and]
  | k :: r, k' :: r', i + 1, h, h', e => by
    rw [Tree.sames, Tree.sames_at r r' i (by simpa using h) (by simpa using h') (by simpa using e), Bool.and_false]
theorem Tree.sames_all : ∀ (ks ks' : List Tree), ks.length = ks'.length → (∀ i (h : i < ks.length) (h' : i < ks'.length), ks[i].same ks'[i] = true) → Tree.sames ks ks' = true
  | [], [], _, _ => by simp [Tree.sames]
  | k :: r, k' :: r', hl, h => by
    rw [Tree.sames, show k.same k' = true from h 0 (by simp) (by simp), Tree.sames_all r r' (by simpa using hl) (fun i h1 h2 => by have := h (i + 1) (by simpa using h1) (by simpa using h2); simpa using this)]
    rfl
mutual
theorem Tree.same_self : ∀ t : Tree, t.same t = true
  | .mk t b ks => by simp [Tree.same, Tree.sames_self ks]
theorem Tree.sames_self : ∀ ks : List Tree, Tree.sames ks ks = true
  | [] => by simp [Tree.sames]
  | k :: r => by simp [Tree.sames, Tree.same_self k, Tree.sames_self r]
end
end Go.Mem

