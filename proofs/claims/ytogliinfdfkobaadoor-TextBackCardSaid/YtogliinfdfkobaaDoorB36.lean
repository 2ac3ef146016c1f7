/- Lemmas and walks on the way to the seat's laws; each theorem says its own conditions. -/
import Derived.Test.YtogliinfdfkobaaDoorB1
import Derived.Test.YtogliinfdfkobaaDoorFrame
import Derived.Test.YtogliinfdfkobaaDoorOPlain
import Derived.OwnWalk
import Derived.ProofKit
import Derived.SizedLaws
import Derived.Carry
import Derived.Lib.SmallJoins
import Derived.Deep.Fields
import Derived.DataShut
import Derived.Deep.Slices
set_option linter.unusedSimpArgs false
set_option linter.unusedVariables false
set_option linter.unusedSimpArgs false
set_option linter.unusedVariables false
set_option maxRecDepth 100000
namespace Go.Proofs.YtogliinfdfkobaaDoor
open Go.RowKit Go.Mem Go.Reg Oct Bit
end Go.Proofs.YtogliinfdfkobaaDoor

/- A make within a region that draws. No condition on a program. -/
namespace Go.Reg
open Go.RowKit Go.Mem
end Go.Reg
namespace Go.Reg
open Go.RowKit Go.Mem
theorem RowJ.bs {B : Nat} {T : TypeId} {n : Nat} {l : List UInt8} {v : Value} {w : World} (h : RowJ B T n (l.map u8c) v w) : Bs w v l := by
  have hn : n = (l.map u8c).length := by
    rcases h with ⟨h1, h2⟩
    omega
  subst hn
  exact slice_of_own h
/-- Two rows in a slice of two. -/
def TwoJ (B : Nat) (U T : TypeId) (n m : Nat) (a b : List UInt8) : Value → World → Prop := fun v w =>
  ∃ k x y, v = .slice (some ⟨k, 0, none⟩) 2 2 ∧ B ≤ k ∧ w.heap[k]? = some (.cells #[x, y] U (0, 0)) ∧ RowJ B T n (a.map u8c) x w ∧ RowJ B T m (b.map u8c) y w
theorem TwoJ.stay {B : Nat} {U T : TypeId} {n m : Nat} {a b : List UInt8} {v : Value} {w w' : World} (hs : AboveR B w w') (h : TwoJ B U T n m a b v w) : TwoJ B U T n m a b v w' := by
  obtain ⟨k, x, y, e, hB, hk, hx, hy⟩ := h
  exact ⟨k, x, y, e, hB, (hs.2 k hB (Array.getElem?_eq_some_iff.1 hk).1).trans hk, hx.stay hs, hy.stay hs⟩
theorem TwoJ.mk {B : Nat} {U T : TypeId} {n m : Nat} {a b : List UInt8} {x y : Value} {w : World} (hB : B ≤ w.heap.size) (hx : RowJ B T n (a.map u8c) x w) (hy : RowJ B T m (b.map u8c) y w) :
    TwoJ B U T n m a b (.slice (some ⟨w.heap.size, 0, none⟩) 2 2) (w.alloc (.cells #[x, y] U)) := by
  have hb : Below w.heap.size w (w.alloc (.cells #[x, y] U)) := (Below.refl _ _).alloc (Nat.le_refl _) _
  have ha : AboveR B w (w.alloc (.cells #[x, y] U)) := ⟨hb.size, fun k _ hl => hb.block k hl⟩
  exact ⟨_, _, _, rfl, hB, heap_alloc_new w _, hx.stay ha, hy.stay ha⟩
end Go.Reg
namespace Go.Reg
open Go.RowKit Go.Mem
end Go.Reg
namespace Go.Reg
open Go.RowKit Go.Mem
/-- A row and a block of another type are apart. -/
theorem row_blk_apart {w : World} {B k : Nat} {T U : TypeId} {s n : Nat} {v : Value} {xs : List Value} {c : Array Value} (h : w.ownsRow B T s v n xs) (hk : w.heap[k]? = some (.cells c U (0, 0))) (hne : T ≠ U) :
    ∀ j, (Ent.row T s v n xs).fp = some j → (Ent.blk k c U).fp = some j → False := by
  intro j h1 h2
  simp only [Ent.fp, Option.some.injEq] at h1 h2
  subst h2
  rcases h.2 with ⟨rfl, -⟩ | ⟨g, cap, cur, rfl, -, hg, -⟩
  · simp [Value.ownBlock] at h1
  · simp only [Value.ownBlock, Option.some.injEq] at h1
    subst h1
    rw [hg] at hk
    injection hk with hk
    injection hk with _ e _
    exact hne e
end Go.Reg

set_option linter.unusedSimpArgs false
set_option linter.unusedVariables false
set_option maxRecDepth 100000
namespace Go.Proofs.YtogliinfdfkobaaDoor
open Go.RowKit Go.Mem Go.Reg Oct Bit
/-- A result that is a row of the call's own. -/
def OneB (w : World) (bs : List UInt8) (e : Ending) (w' : World) : Prop :=
  (∃ v, e = .returned v ∧ w'.ownsRow w.heap.size 5 1 v bs.length (bs.map u8c)) ∧ Below w.heap.size w w'
/-- .. with an error. -/
def OutB (w : World) (bs : List UInt8) (er : Int) (e : Ending) (w' : World) : Prop :=
  (∃ v, e = .returned (.tuple #[v, .int .i64 er]) ∧ w'.ownsRow w.heap.size 5 1 v bs.length (bs.map u8c)) ∧ Below w.heap.size w w'
/-- A bit string whose bytes are a row of the call's own, with an error or a truth. -/
def StrB (w : World) (u : Int) (bs : List UInt8) (er : Value) (e : Ending) (w' : World) : Prop :=
  (∃ v, e = .returned (.tuple #[.agg #[.int .i64 u, v], er]) ∧ w'.ownsRow w.heap.size 5 1 v bs.length (bs.map u8c)) ∧ Below w.heap.size w w'
theorem OneB.of {w w' : World} {L : List Ent} (H : Hp w L w') (i : Nat) {v : Value} {n : Nat} {bs : List UInt8} {xs : List Value} (hi : L[i]? = some (.row 5 1 v n xs)) (hn : n = bs.length) (hx : xs = bs.map u8c) {e : Ending} (he : e = .returned v) : OneB w bs e w' := by
  subst hn hx
  exact ⟨⟨v, he, ownsOf H i hi⟩, H.low⟩
theorem OutB.of {w w' : World} {L : List Ent} (H : Hp w L w') (i : Nat) {v : Value} {n : Nat} {bs : List UInt8} {xs : List Value} {er : Int} (hi : L[i]? = some (.row 5 1 v n xs)) (hn : n = bs.length) (hx : xs = bs.map u8c) {e : Ending} (he : e = .returned (.tuple #[v, .int .i64 er])) : OutB w bs er e w' := by
  subst hn hx
  exact ⟨⟨v, he, ownsOf H i hi⟩, H.low⟩
theorem StrB.of {w w' : World} {L : List Ent} (H : Hp w L w') (i : Nat) {v : Value} {n : Nat} {bs : List UInt8} {xs : List Value} {u : Int} {er : Value} (hi : L[i]? = some (.row 5 1 v n xs)) (hn : n = bs.length) (hx : xs = bs.map u8c) {e : Ending} (he : e = .returned (.tuple #[.agg #[.int .i64 u, v], er])) : StrB w u bs er e w' := by
  subst hn hx
  exact ⟨⟨v, he, ownsOf H i hi⟩, H.low⟩
theorem OutB.none {w w' : World} {er : Int} {e : Ending} (he : e = .returned (.tuple #[.slice none 0 0, .int .i64 er])) (hb : Below w.heap.size w w') : OutB w [] er e w' := ⟨⟨_, he, World.ownsRow_nil w' _ _ _⟩, hb⟩
theorem StrB.none {w w' : World} {u : Int} {er : Value} {e : Ending} (he : e = .returned (.tuple #[.agg #[.int .i64 u, .slice none 0 0], er])) (hb : Below w.heap.size w w') : StrB w u [] er e w' := ⟨⟨_, he, World.ownsRow_nil w' _ _ _⟩, hb⟩
end Go.Proofs.YtogliinfdfkobaaDoor

/- The frame of a law's proof: a call that returns true and leaves all old memory as it was meets the law's specification. No condition. -/
namespace Go.LawLift
open Go.RowKit Go.ChangeShapes Go.WideShapes Go.ChangeAt
theorem trodAll_below {H : Type} {enc : TypeId × Value → H} {P : Program} (hl : laidOutB P = true) {W W' : World} (hb : Below W.heap.size W W') :
    ∀ (ts : List TypeId) (vs : List Value) (ds : List (DataW H)) (ps : List MemPlace), (∀ t ∈ ts, P.readableRec t = true ∧ t < P.types.size) →
      DataW.TrodAll enc P W 0 (fun _ => true) true ts vs ds ps → (∀ x ∈ ps, x.block < W.heap.size) →
      DataW.TrodAll enc P W' 0 (fun b => decide (b < W.heap.size)) true ts vs ds ps
  | [], vs, ds, ps, _, h, _ => by
    obtain ⟨rfl, rfl, rfl⟩ := trodAll_nil h
    exact rfl
  | t :: ts, vs, ds, ps, hr, h, hlt => by
    obtain ⟨v, vs', d, ds', p, q, rfl, rfl, rfl, hd, hrest⟩ := trodAll_cons h
    exact ⟨p, q, Below.trod hl (hr t (by simp)).1 (hr t (by simp)).2 hd hb (fun x hx => hlt x (by simp [hx])), trodAll_below hl hb ts vs' ds' q (fun t' ht' => hr t' (by simp [ht'])) hrest (fun x hx => hlt x (by simp [hx])), rfl⟩
theorem law_post {H : Type} {enc : TypeId × Value → H} {P : Program} {fn : Func} {s : ChangeSpec} {W W' : World} {args : Array Value} {ds gs : List (DataW H)} {before : List MemPlace} {tb : TypeId}
    (hl : laidOutB P = true) (hro0 : (fn.params.toList.all fun t => P.readableRec t && decide (t < P.types.size)) = true) (hv : s.vars = []) (hres : fn.resultTypes = #[tb]) (htb : P.underlying tb = some .bool)
    (hs : (s.fn H (ds ++ [])).results = [.lit (.bool true)] ∧ (s.fn H (ds ++ [])).args = ds ∧ (s.fn H (ds ++ [])).vars = [])
    (hW : DataW.Whole enc P fn.params.toList s.vars false W args.toList ds gs before) (hb : Below W.heap.size W W') :
    s.post enc P fn false true false false W args (.bool true) W' := by
  have hro : ∀ t ∈ fn.params.toList, P.readableRec t = true ∧ t < P.types.size := fun t ht => by simpa using (List.all_eq_true.1 hro0) t ht
  have hW' := hW
  obtain ⟨p, q, hA, hV, rfl, _, _⟩ := hW
  rw [hv] at hV
  obtain ⟨rfl, rfl⟩ := trodVars_none hV
  obtain ⟨s1, s2, s3⟩ := hs
  have hlt : ∀ x ∈ p, x.block < W.heap.size := fun x hx => hW'.lt x (by simp [hx])
  refine ⟨ds, [], p ++ [], [], p, [], hW', ?_, ?_, ?_, hb.frame _, fun h => by cases h⟩
  · rw [s1, hres]
    exact trodAll_mk1 (shut_bool htb true)
  · rw [s2]
    exact trodAll_below hl hb _ _ _ _ hro hA hlt
  · rw [s3, hv]
    exact rfl
#print axioms law_post
end Go.LawLift

/- A law's arguments opened: what a reading of the arguments says of their values. No condition. -/
namespace Go.LawLift
open Go.RowKit Go.ChangeShapes Go.WideShapes Go.Deep
section
variable {H : Type} {enc : TypeId × Value → H} {P : Program} {w : World} {base : Nat} {spare : Nat → Bool} {held : Bool} {t : TypeId}
theorem rd_int {k : IntKind} {fuel : Nat} {v : Value} {x : DataW H × List MemPlace} (ht : P.underlying t = some (.int k)) (h : DataW.trod enc P w base spare held fuel t [v] = some x) : ∃ n, v = .int k n ∧ k.min ≤ n ∧ n ≤ k.max := by
  obtain ⟨n, hc, _, hw⟩ := DataW.trod_int ht h
  injection hc with hc
  exact ⟨n, hc, (Lit.wf_int_iff k n).1 hw⟩
theorem rd_struct {fs : Array Field} {fuel : Nat} {cs : List Value} {x : DataW H × List MemPlace} (hs : P.underlying t = some (.struct fs)) (hone : oneCellFields P fs = true) (hC : P.cellsOf t = fs.size) (h : DataW.trod enc P w base spare held fuel t cs = some x) :
    cs.length = fs.size ∧ ∀ (j : Nat) (f : Field), fs[j]? = some f → ∃ (v : Value) (n : Nat) (y : DataW H × List MemPlace), cs[j]? = some v ∧ DataW.trod enc P w base spare held n f.type [v] = some y := by
  obtain ⟨xs, n, _, _, hl, hxl, hg⟩ := DataW.trod_struct hs h
  refine ⟨hl.trans hC, fun j f hj => ?_⟩
  obtain ⟨ho, hk⟩ := hone_of hone j f hj
  have hjf : j < fs.size := (Array.getElem?_eq_some_iff.1 hj).1
  have hjc : j < cs.length := by omega
  have h1 := hg j f hj
  have hjx : j < xs.length := by omega
  rw [ho, hk, List.drop_eq_getElem_cons hjc, List.getElem?_eq_getElem hjx, List.take_succ_cons, List.take_zero] at h1
  exact ⟨cs[j], n, xs[j], List.getElem?_eq_getElem hjc, h1⟩
variable {r : Reach} {b0 : Nat} {v : Value} {d : DataW H} {p : List MemPlace}
theorem arg_struct {fs : Array Field} (hs : P.underlying t = some (.struct fs)) (hone : oneCellFields P fs = true) (hC : P.cellsOf t = fs.size) (hv : Value.okWide P w r b0 t v) (h : DataW.Trod enc P w base spare held t v d p) :
    ∃ cs : List Value, v = .agg cs.toArray ∧ cs.length = fs.size ∧ ∀ (j : Nat) (f : Field), fs[j]? = some f → ∃ (u : Value) (n : Nat) (y : DataW H × List MemPlace), cs[j]? = some u ∧ DataW.trod enc P w base spare held n f.type [u] = some y := by
  obtain ⟨cs, rfl, hsz⟩ := okWide_struct hs hv
  obtain ⟨l⟩ := cs
  obtain ⟨fuel, hf⟩ := h
  have hf' : DataW.trod enc P w base spare held fuel t (Value.agg ⟨l⟩).cells.toList = some (d, p) := hf
  simp only [Value.cells] at hf'
  obtain ⟨h1, h2⟩ := rd_struct hs hone hC hf'
  exact ⟨l, rfl, h1, h2⟩
end
theorem list_2 : ∀ (l : List Value), l.length = 2 → ∃ a0 a1, l = [a0, a1]
  | [a0, a1], _ => ⟨a0, a1, rfl⟩
end Go.LawLift

/- A law's slices opened: bytes, slices of any cells, slices of slices. No condition. -/
namespace Go.LawLift
open Go.RowKit Go.ChangeShapes Go.WideShapes Go.Deep Go.Mem
section
variable {H : Type} {enc : TypeId × Value → H} {P : Program} {w : World} {base : Nat} {spare : Nat → Bool} {held : Bool}
/-- A slice whose elements are one cell each: the list of its cells, each read. -/
theorem rd_sl {t e : TypeId} {fuel : Nat} {v : Value} {x : DataW H × List MemPlace} (ht : P.underlying t = some (.slice e)) (hc : P.cellsOf e = 1) (h : DataW.trod enc P w base spare held fuel t [v] = some x) :
    ∃ xs : List Value, Sl w v xs ∧ ∀ u ∈ xs, ∃ (n : Nat) (y : DataW H × List MemPlace), DataW.trod enc P w base spare held n e [u] = some y := by
  rcases open_slice1 ht hc h with ⟨h0, _⟩ | ⟨a, len, cap, m, n, V, D, Pl, h0, hb, hl, hm, hmm, _, hV⟩
  · injection h0 with h0
    subst h0
    exact ⟨[], Sl.nil w, by simp⟩
  · injection h0 with h0
    subst h0
    have hlm : len ≤ m := by rw [hmm]; split <;> omega
    refine ⟨(List.range len).map V, ⟨some a, cap, by simp, by simpa using hl, hm, (fun h => by cases h), fun hp => ?_⟩, ?_⟩
    · simp only [List.length_map, List.length_range] at hp
      obtain ⟨b, o, sp⟩ := a
      have h0 := (hV 0 (by omega)).1
      have hlt : b < w.heap.size := World.block_lt_of_cell? w _ h0
      have hs : sp = none := by
        unfold Addr.add at h0
        rw [if_pos rfl] at h0
        unfold World.cell? at h0
        split at h0
        · cases sp with
          | none => rfl
          | some z => simp at h0
        · cases h0
      subst hs
      refine ⟨b, o, rfl, hlt, fun j u hu => ?_⟩
      rw [List.getElem?_map] at hu
      cases hj : (List.range len)[j]? with
      | none => rw [hj] at hu; cases hu
      | some k =>
        rw [hj] at hu
        obtain ⟨hjl, hje⟩ := List.getElem?_eq_some_iff.1 hj
        simp only [List.length_range] at hjl
        simp only [List.getElem_range] at hje
        subst hje
        have := (hV j (by omega)).1
        rw [show (⟨b, o, none⟩ : Addr).add j = ⟨b, o + j, none⟩ by unfold Addr.add; split <;> simp_all] at this
        rw [this]
        exact hu
    · intro u hu
      obtain ⟨i, hi, rfl⟩ := List.mem_map.1 hu
      exact ⟨n, _, (hV i (by have := List.mem_range.1 hi; omega)).2⟩
theorem bytes_of (xs : List Value) (h : ∀ u ∈ xs, ∃ n, u = .int .u8 n ∧ 0 ≤ n ∧ n ≤ 255) : ∃ l : List UInt8, xs = l.map u8c := by
  induction xs with
  | nil => exact ⟨[], rfl⟩
  | cons u r ih =>
    obtain ⟨l, rfl⟩ := ih fun v hv => h v (List.mem_cons_of_mem _ hv)
    obtain ⟨n, rfl, h0, h1⟩ := h u (List.mem_cons_self ..)
    exact ⟨UInt8.ofNat n.toNat :: l, by rw [List.map_cons, u8c_of h0 h1]⟩
theorem u8_of {n : Int} (h : IntKind.u8.min ≤ n ∧ n ≤ IntKind.u8.max) : 0 ≤ n ∧ n ≤ 255 := by
  have h1 : IntKind.u8.min = 0 := by decide
  have h2 : IntKind.u8.max = 255 := by decide
  omega
/-- A slice of bytes. -/
theorem rd_bytes {t e : TypeId} {fuel : Nat} {v : Value} {x : DataW H × List MemPlace} (ht : P.underlying t = some (.slice e)) (he : P.underlying e = some (.int .u8)) (hc : P.cellsOf e = 1) (h : DataW.trod enc P w base spare held fuel t [v] = some x) :
    ∃ l : List UInt8, Bs w v l := by
  obtain ⟨xs, hs, hx⟩ := rd_sl ht hc h
  obtain ⟨l, rfl⟩ := bytes_of xs fun u hu => by
    obtain ⟨n, y, hy⟩ := hx u hu
    obtain ⟨m, rfl, hm⟩ := rd_int he hy
    exact ⟨m, rfl, u8_of hm⟩
  exact ⟨l, hs⟩
/-- Two lists, element by element. -/
inductive All2 {α β : Type} (R : α → β → Prop) : List α → List β → Prop
  | nil : All2 R [] []
  | cons {a : α} {b : β} {r : List α} {s : List β} (h : R a b) (t : All2 R r s) : All2 R (a :: r) (b :: s)
theorem All2.length {α β : Type} {R : α → β → Prop} {xs : List α} {ls : List β} (h : All2 R xs ls) : xs.length = ls.length := by
  induction h with
  | nil => rfl
  | cons _ _ ih => simp [ih]
theorem All2.at {α β : Type} {R : α → β → Prop} {xs : List α} {ls : List β} (h : All2 R xs ls) : ∀ (i : Nat) (h1 : i < xs.length) (h2 : i < ls.length), R xs[i] ls[i] := by
  induction h with
  | nil => intro i h1; cases h1
  | cons h _ ih =>
    intro i h1 h2
    cases i with
    | zero => exact h
    | succ i => exact ih i (by simpa using h1) (by simpa using h2)
theorem all_of {α β : Type} {R : α → β → Prop} : ∀ (xs : List α), (∀ u ∈ xs, ∃ l, R u l) → ∃ ls : List β, All2 R xs ls
  | [], _ => ⟨[], .nil⟩
  | u :: r, h => by
    obtain ⟨ls, hr⟩ := all_of r fun v hv => h v (List.mem_cons_of_mem _ hv)
    obtain ⟨l, hl⟩ := h u (List.mem_cons_self ..)
    exact ⟨l :: ls, .cons hl hr⟩
/-- A slice of slices of bytes. -/
def Bss (w : World) (v : Value) (ls : List (List UInt8)) : Prop := ∃ xs, Sl w v xs ∧ All2 (Bs w) xs ls
theorem Bss.open {w : World} {v : Value} {ls : List (List UInt8)} (h : Bss w v ls) : ∃ (A : Option Addr) (c : Nat), v = .slice A ls.length c ∧ ls.length ≤ c ∧ c ≤ 9223372036854775807 ∧ (A = none → c = 0) ∧
    ∀ k, (hk : k < ls.length) → ∃ b o u, A = some ⟨b, o, none⟩ ∧ b < w.heap.size ∧ w.cell? ⟨b, o + k, none⟩ = some u ∧ Bs w u ls[k] := by
  obtain ⟨xs, ⟨A, c, rfl, h1, h2, h3, h4⟩, ha⟩ := h
  have hl := ha.length
  refine ⟨A, c, by rw [hl], by omega, h2, h3, fun k hk => ?_⟩
  obtain ⟨b, o, rfl, hb, hc⟩ := h4 (by omega)
  exact ⟨b, o, xs[k], rfl, hb, hc k _ (List.getElem?_eq_getElem (by omega)), ha.at k (by omega) hk⟩
theorem Bss.step {w w' : World} {v : Value} {ls : List (List UInt8)} (h : Bss w v ls) (hb : Below w.heap.size w w') : Bss w' v ls := by
  obtain ⟨xs, hs, ha⟩ := h
  refine ⟨xs, hs.step hb, ?_⟩
  clear hs
  induction ha with
  | nil => exact .nil
  | cons h _ ih => exact .cons (h.step hb) ih
theorem sl_cells {w : World} {b n : Nat} {c : Array Value} {T : TypeId} {fr : Nat × Nat} {xs : List Value} (h : w.heap[b]? = some (.cells c T fr)) (hc : c.toList = xs) (hn : xs.length = n) (hl : n ≤ 1000000) : Sl w (.slice (some ⟨b, 0, none⟩) n n) xs := by
  subst hn
  refine ⟨some ⟨b, 0, none⟩, xs.length, rfl, Nat.le_refl _, by unfold maxLen; omega, (fun h => by cases h), fun _ => ⟨b, 0, rfl, (Array.getElem?_eq_some_iff.1 h).1, fun j u hu => ?_⟩⟩
  rw [cell_of_marked h, Nat.zero_add, ← Array.getElem?_toList, hc, hu]
theorem own_form {w : World} {B : Nat} {e : TypeId} {size : Nat} {v : Value} {n : Nat} {xs : List Value} (h : w.ownsRow B e size v n xs) : ∃ A c, v = .slice A n c := by
  rcases h.2 with ⟨rfl, rfl⟩ | ⟨g, cap, cur, rfl, _⟩
  · exact ⟨none, 0, rfl⟩
  · exact ⟨_, _, rfl⟩
theorem rd_bss {t e e' : TypeId} {fuel : Nat} {v : Value} {x : DataW H × List MemPlace} (ht : P.underlying t = some (.slice e)) (he : P.underlying e = some (.slice e')) (he' : P.underlying e' = some (.int .u8)) (hc : P.cellsOf e = 1) (hc' : P.cellsOf e' = 1)
    (h : DataW.trod enc P w base spare held fuel t [v] = some x) : ∃ ls, Bss w v ls := by
  obtain ⟨xs, hs, hx⟩ := rd_sl ht hc h
  obtain ⟨ls, hl⟩ := all_of (R := Bs w) xs fun u hu => by
    obtain ⟨n, y, hy⟩ := hx u hu
    exact rd_bytes he he' hc' hy
  exact ⟨ls, xs, hs, hl⟩
variable {t e e' : TypeId} {v : Value} {d : DataW H} {p : List MemPlace} {r : Reach} {b0 : Nat}
theorem slice_cells (ht : P.underlying t = some (.slice e)) (hv : Value.okWide P w r b0 t v) : v.cells.toList = [v] := by
  obtain ⟨a, l, c, rfl⟩ := okWide_slice ht hv
  rfl
theorem arg_bss (ht : P.underlying t = some (.slice e)) (he : P.underlying e = some (.slice e')) (he' : P.underlying e' = some (.int .u8)) (hc : P.cellsOf e = 1) (hc' : P.cellsOf e' = 1) (hv : Value.okWide P w r b0 t v) (h : DataW.Trod enc P w base spare held t v d p) : ∃ ls, Bss w v ls := by
  obtain ⟨fuel, hf⟩ := h
  rw [slice_cells ht hv] at hf
  exact rd_bss ht he he' hc hc' hf
end
#print axioms arg_bss
end Go.LawLift

set_option linter.unusedSimpArgs false
set_option linter.unusedVariables false
set_option maxRecDepth 100000
namespace Go.Proofs.YtogliinfdfkobaaDoor
open Go.RowKit Go.Mem Go.Reg Oct Bit
theorem info_i64 : (Tryd.prog.info? 3).map (fun i => (i.zero, i.size, i.bytes)) = some (some (.int .i64 0), 1, 8) := by kernel_rfl
/-- A result that is a row of numbers of the call's own. -/
def OneI (w : World) (xs : List Nat) (e : Ending) (w' : World) : Prop :=
  (∃ v, e = .returned v ∧ w'.ownsRow w.heap.size 3 1 v xs.length (ivs xs)) ∧ Below w.heap.size w w'
theorem OneI.of {w w' : World} {L : List Ent} (H : Hp w L w') (i : Nat) {v : Value} {n : Nat} {ns : List Nat} {xs : List Value} (hi : L[i]? = some (.row 3 1 v n xs)) (hn : n = ns.length) (hx : xs = ivs ns) {e : Ending} (he : e = .returned v) : OneI w ns e w' := by
  subst hn hx
  exact ⟨⟨v, he, ownsOf H i hi⟩, H.low⟩
end Go.Proofs.YtogliinfdfkobaaDoor

/- Slices of whole numbers. No condition on a program. -/
namespace Go.Mem
open Go.RowKit
/-- What a walk begins with: the value written out; an element of each place. -/
theorem Sl.openK {α : Type} {f : α → Value} {w : World} {v : Value} {xs : List α} (h : Sl w v (xs.map f)) : ∃ (A : Option Addr) (c : Nat), v = .slice A xs.length c ∧ xs.length ≤ c ∧ c ≤ 9223372036854775807 ∧ (A = none → c = 0) ∧
    ∀ k, (hk : k < xs.length) → ∃ b o, A = some ⟨b, o, none⟩ ∧ b < w.heap.size ∧ ∀ j, (hj : j < xs.length) → w.cell? ⟨b, o + j, none⟩ = some (f xs[j]) := by
  obtain ⟨A, c, rfl, h1, h2, h3, h4⟩ := h
  simp only [List.length_map] at *
  refine ⟨A, c, rfl, h1, h2, h3, fun k hk => ?_⟩
  obtain ⟨b, o, e, hl, hc⟩ := h4 (by omega)
  exact ⟨b, o, e, hl, fun j hj => hc j _ (by simp [hj])⟩
theorem Sl.at {α : Type} {f : α → Value} {w : World} {A : Option Addr} {n c : Nat} {xs : List α} (h : Sl w (.slice A n c) (xs.map f)) (k : Nat) (hk : k < xs.length) : ∃ b o, A = some ⟨b, o, none⟩ ∧ b < w.heap.size ∧ w.cell? ⟨b, o + k, none⟩ = some (f xs[k]) := by
  obtain ⟨A', c', e, -, -, -, hc⟩ := h.openK
  injection e with e1 e2 e3
  subst e1
  obtain ⟨b, o, e, hl, hj⟩ := hc k hk
  exact ⟨b, o, e, hl, hj k hk⟩
/-- The first ones. -/
theorem Sl.frontK {w : World} {A : Option Addr} {n c : Nat} {xs : List Value} (h : Sl w (.slice A n c) xs) {k : Nat} (hk : k ≤ n) : Sl w (.slice A k c) (xs.take k) := by
  obtain ⟨A', c', e, h1, h2, h3, h4⟩ := h
  injection e with e1 e2 e3
  subst e1 e2 e3
  refine ⟨A, c, by rw [List.length_take, Nat.min_eq_left hk], by rw [List.length_take]; omega, h2, h3, fun hp => ?_⟩
  rw [List.length_take] at hp
  obtain ⟨b, o, e, hl, hc⟩ := h4 (by omega)
  refine ⟨b, o, e, hl, fun j u hu => hc j u ?_⟩
  rw [List.getElem?_take] at hu
  split at hu
  · exact hu
  · cases hu
theorem Sl.size {w : World} {A : Option Addr} {n c : Nat} {xs : List Value} (h : Sl w (.slice A n c) xs) : xs.length = n := by
  obtain ⟨A', c', e, -⟩ := h
  injection e with e1 e2 e3
  exact e2.symm
theorem Sl.cap {w : World} {A : Option Addr} {n c : Nat} {xs : List Value} (h : Sl w (.slice A n c) xs) : n ≤ c ∧ c ≤ 9223372036854775807 := by
  obtain ⟨A', c', e, h1, h2, -⟩ := h
  injection e with e1 e2 e3
  subst e1 e2 e3
  exact ⟨h1, h2⟩
/-- A slice of whole numbers. -/
def Zs (w : World) (v : Value) (xs : List Int) : Prop := Sl w v (Bit.zvs xs)
def Ns (w : World) (v : Value) (xs : List Nat) : Prop := Sl w v (Bit.ivs xs)
theorem Ns.zs {w : World} {v : Value} {xs : List Nat} (h : Ns w v xs) : Zs w v (xs.map fun (n : Nat) => (n : Int)) := by
  unfold Zs
  rw [← Bit.ivs_zvs]
  exact h
theorem Zs.step {w w' : World} {v : Value} {l : List Int} (h : Zs w v l) (hb : Below w.heap.size w w') : Zs w' v l := Sl.step h hb
theorem Ns.step {w w' : World} {v : Value} {l : List Nat} (h : Ns w v l) (hb : Below w.heap.size w w') : Ns w' v l := Sl.step h hb
theorem Hp.zs {w0 w : World} {L : List Ent} (H : Hp w0 L w) {v : Value} {l : List Int} (h : Zs w0 v l) : Zs w v l := h.step H.low
theorem Hp.ns {w0 w : World} {L : List Ent} (H : Hp w0 L w) {v : Value} {l : List Nat} (h : Ns w0 v l) : Ns w v l := h.step H.low
theorem Zs.open {w : World} {v : Value} {xs : List Int} (h : Zs w v xs) : ∃ (A : Option Addr) (c : Nat), v = .slice A xs.length c ∧ xs.length ≤ c ∧ c ≤ 9223372036854775807 ∧ (A = none → c = 0) ∧
    ∀ k, (hk : k < xs.length) → ∃ b o, A = some ⟨b, o, none⟩ ∧ b < w.heap.size ∧ ∀ j, (hj : j < xs.length) → w.cell? ⟨b, o + j, none⟩ = some (.int .i64 xs[j]) := Sl.openK h
theorem Ns.open {w : World} {v : Value} {xs : List Nat} (h : Ns w v xs) : ∃ (A : Option Addr) (c : Nat), v = .slice A xs.length c ∧ xs.length ≤ c ∧ c ≤ 9223372036854775807 ∧ (A = none → c = 0) ∧
    ∀ k, (hk : k < xs.length) → ∃ b o, A = some ⟨b, o, none⟩ ∧ b < w.heap.size ∧ ∀ j, (hj : j < xs.length) → w.cell? ⟨b, o + j, none⟩ = some (.int .i64 (xs[j] : Int)) := Sl.openK h
theorem Zs.at {w : World} {A : Option Addr} {n c : Nat} {xs : List Int} (h : Zs w (.slice A n c) xs) (k : Nat) (hk : k < xs.length) : ∃ b o, A = some ⟨b, o, none⟩ ∧ b < w.heap.size ∧ w.cell? ⟨b, o + k, none⟩ = some (.int .i64 xs[k]) := Sl.at h k hk
theorem Ns.at {w : World} {A : Option Addr} {n c : Nat} {xs : List Nat} (h : Ns w (.slice A n c) xs) (k : Nat) (hk : k < xs.length) : ∃ b o, A = some ⟨b, o, none⟩ ∧ b < w.heap.size ∧ w.cell? ⟨b, o + k, none⟩ = some (.int .i64 (xs[k] : Int)) := Sl.at h k hk
theorem Zs.front {w : World} {A : Option Addr} {n c : Nat} {xs : List Int} (h : Zs w (.slice A n c) xs) {k : Nat} (hk : k ≤ n) : Zs w (.slice A k c) (xs.take k) := by
  have := Sl.frontK h hk
  unfold Zs Bit.zvs at *
  rwa [List.map_take]
theorem Ns.front {w : World} {A : Option Addr} {n c : Nat} {xs : List Nat} (h : Ns w (.slice A n c) xs) {k : Nat} (hk : k ≤ n) : Ns w (.slice A k c) (xs.take k) := by
  have := Sl.frontK h hk
  unfold Ns Bit.ivs at *
  rwa [List.map_take]
end Go.Mem

set_option linter.unusedSimpArgs false
set_option linter.unusedVariables false
set_option maxRecDepth 100000
namespace Go.Proofs.YtogliinfdfkobaaDoor
open Go.RowKit Go.Mem Go.Reg Oct Bit
end Go.Proofs.YtogliinfdfkobaaDoor

