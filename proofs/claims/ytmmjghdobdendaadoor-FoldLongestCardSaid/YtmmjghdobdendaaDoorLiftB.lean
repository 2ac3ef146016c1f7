/- The frame of a law's proof: a call that returns true and leaves all old memory as it was meets the law's specification. No condition. -/
import Derived.ProofKit
import Derived.SizedLaws
import Derived.Carry
import Derived.Lib.SmallJoins
import Derived.Deep.Fields
import Derived.DataShut
import Derived.Test.YtmmjghdobdendaaDoorBytes
import Derived.Deep.Slices
set_option linter.unusedSimpArgs false
set_option linter.unusedVariables false
namespace Go.LawLift
open Go.RowKit Go.ChangeShapes Go.WideShapes Go.ChangeAt
theorem trodAll_below {H : Type} {enc : TypeId × Value → H} {P : Program} (hl : laidOutB P = true) {W W' : World} (hb : Below W.heap.size W W') :
    ∀ (ts : List TypeId) (vs : List Value) (ds : List (DataW H)) (ps : List MemPlace), (∀ t ∈ ts, P.readableRec t = true ∧ t < P.types.size) →
      DataW.TrodAll enc P W 0 (fun _ => true) true ts vs ds ps → (∀ x ∈ ps, x.block < W.heap.size) →
      DataW.TrodAll enc P W' 0 (fun b => decide (b < W.heap.size)) true ts vs ds ps
  | [], vs, ds, ps, _, h, _ => by
    obtain ⟨rfl, rfl, rfl⟩ := trodAll_nil h
    exact rfl
  | t :: ts, vs, ds, ps, hr, h, hlt => by
    obtain ⟨v, vs', d, ds', p, q, rfl, rfl, rfl, hd, hrest⟩ := trodAll_cons h
    exact ⟨p, q, Below.trod hl (hr t (by simp)).1 (hr t (by simp)).2 hd hb (fun x hx => hlt x (by simp [hx])), trodAll_below hl hb ts vs' ds' q (fun t' ht' => hr t' (by simp [ht'])) hrest (fun x hx => hlt x (by simp [hx])), rfl⟩
theorem law_post {H : Type} {enc : TypeId × Value → H} {P : Program} {fn : Func} {s : ChangeSpec} {W W' : World} {args : Array Value} {ds gs : List (DataW H)} {before : List MemPlace} {tb : TypeId}
    (hl : laidOutB P = true) (hro0 : (fn.params.toList.all fun t => P.readableRec t && decide (t < P.types.size)) = true) (hv : s.vars = []) (hres : fn.resultTypes = #[tb]) (htb : P.underlying tb = some .bool)
    (hs : (s.fn H (ds ++ [])).results = [.lit (.bool true)] ∧ (s.fn H (ds ++ [])).args = ds ∧ (s.fn H (ds ++ [])).vars = [])
    (hW : DataW.Whole enc P fn.params.toList s.vars false W args.toList ds gs before) (hb : Below W.heap.size W W') :
    s.post enc P fn false true false false W args (.bool true) W' := by
  have hro : ∀ t ∈ fn.params.toList, P.readableRec t = true ∧ t < P.types.size := fun t ht => by simpa using (List.all_eq_true.1 hro0) t ht
  have hW' := hW
  obtain ⟨p, q, hA, hV, rfl, _, _⟩ := hW
  rw [hv] at hV
  obtain ⟨rfl, rfl⟩ := trodVars_none hV
  obtain ⟨s1, s2, s3⟩ := hs
  have hlt : ∀ x ∈ p, x.block < W.heap.size := fun x hx => hW'.lt x (by simp [hx])
  refine ⟨ds, [], p ++ [], [], p, [], hW', ?_, ?_, ?_, hb.frame _, fun h => by cases h⟩
  · rw [s1, hres]
    exact trodAll_mk1 (shut_bool htb true)
  · rw [s2]
    exact trodAll_below hl hb _ _ _ _ hro hA hlt
  · rw [s3, hv]
    exact rfl
#print axioms law_post
end Go.LawLift

/- A law's arguments opened: what a reading of the arguments says of their values. No condition. -/
namespace Go.LawLift
open Go.RowKit Go.ChangeShapes Go.WideShapes Go.Deep
section
variable {H : Type} {enc : TypeId × Value → H} {P : Program} {w : World} {base : Nat} {spare : Nat → Bool} {held : Bool} {t : TypeId}
theorem rd_int {k : IntKind} {fuel : Nat} {v : Value} {x : DataW H × List MemPlace} (ht : P.underlying t = some (.int k)) (h : DataW.trod enc P w base spare held fuel t [v] = some x) : ∃ n, v = .int k n ∧ k.min ≤ n ∧ n ≤ k.max := by
  obtain ⟨n, hc, _, hw⟩ := DataW.trod_int ht h
  injection hc with hc
  exact ⟨n, hc, (Lit.wf_int_iff k n).1 hw⟩
theorem rd_string {fuel : Nat} {v : Value} {x : DataW H × List MemPlace} (ht : P.underlying t = some .string) (h : DataW.trod enc P w base spare held fuel t [v] = some x) : ∃ s : ByteArray, v = .string s ∧ s.size ≤ maxLen := by
  obtain ⟨s, hc, _, hw⟩ := DataW.trod_string ht h
  injection hc with hc
  exact ⟨s, hc, hw⟩
variable {r : Reach} {b0 : Nat} {v : Value} {d : DataW H} {p : List MemPlace}
end
end Go.LawLift

/- A law's slices opened: bytes, slices of any cells, slices of slices. No condition. -/
namespace Go.LawLift
open Go.RowKit Go.ChangeShapes Go.WideShapes Go.Deep Go.Mem
section
variable {H : Type} {enc : TypeId × Value → H} {P : Program} {w : World} {base : Nat} {spare : Nat → Bool} {held : Bool}
/-- A slice whose elements are one cell each: the list of its cells, each read. -/
theorem rd_sl {t e : TypeId} {fuel : Nat} {v : Value} {x : DataW H × List MemPlace} (ht : P.underlying t = some (.slice e)) (hc : P.cellsOf e = 1) (h : DataW.trod enc P w base spare held fuel t [v] = some x) :
    ∃ xs : List Value, Sl w v xs ∧ ∀ u ∈ xs, ∃ (n : Nat) (y : DataW H × List MemPlace), DataW.trod enc P w base spare held n e [u] = some y := by
  rcases open_slice1 ht hc h with ⟨h0, _⟩ | ⟨a, len, cap, m, n, V, D, Pl, h0, hb, hl, hm, hmm, _, hV⟩
  · injection h0 with h0
    subst h0
    exact ⟨[], Sl.nil w, by simp⟩
  · injection h0 with h0
    subst h0
    have hlm : len ≤ m := by rw [hmm]; split <;> omega
    refine ⟨(List.range len).map V, ⟨some a, cap, by simp, by simpa using hl, hm, (fun h => by cases h), fun hp => ?_⟩, ?_⟩
    · simp only [List.length_map, List.length_range] at hp
      obtain ⟨b, o, sp⟩ := a
      have h0 := (hV 0 (by omega)).1
      have hlt : b < w.heap.size := World.block_lt_of_cell? w _ h0
      have hs : sp = none := by
        unfold Addr.add at h0
        rw [if_pos rfl] at h0
        unfold World.cell? at h0
        split at h0
        · cases sp with
          | none => rfl
          | some z => simp at h0
        · cases h0
      subst hs
      refine ⟨b, o, rfl, hlt, fun j u hu => ?_⟩
      rw [List.getElem?_map] at hu
      cases hj : (List.range len)[j]? with
      | none => rw [hj] at hu; cases hu
      | some k =>
        rw [hj] at hu
        obtain ⟨hjl, hje⟩ := List.getElem?_eq_some_iff.1 hj
        simp only [List.length_range] at hjl
        simp only [List.getElem_range] at hje
        subst hje
        have := (hV j (by omega)).1
        rw [show (⟨b, o, none⟩ : Addr).add j = ⟨b, o + j, none⟩ by unfold Addr.add; split <;> simp_all] at this
        rw [this]
        exact hu
    · intro u hu
      obtain ⟨i, hi, rfl⟩ := List.mem_map.1 hu
      exact ⟨n, _, (hV i (by have := List.mem_range.1 hi; omega)).2⟩
theorem bytes_of (xs : List Value) (h : ∀ u ∈ xs, ∃ n, u = .int .u8 n ∧ 0 ≤ n ∧ n ≤ 255) : ∃ l : List UInt8, xs = l.map u8c := by
  induction xs with
  | nil => exact ⟨[], rfl⟩
  | cons u r ih =>
    obtain ⟨l, rfl⟩ := ih fun v hv => h v (List.mem_cons_of_mem _ hv)
    obtain ⟨n, rfl, h0, h1⟩ := h u (List.mem_cons_self ..)
    exact ⟨UInt8.ofNat n.toNat :: l, by rw [List.map_cons, u8c_of h0 h1]⟩
theorem u8_of {n : Int} (h : IntKind.u8.min ≤ n ∧ n ≤ IntKind.u8.max) : 0 ≤ n ∧ n ≤ 255 := by
  have h1 : IntKind.u8.min = 0 := by decide
  have h2 : IntKind.u8.max = 255 := by decide
  omega
/-- A slice of bytes. -/
theorem rd_bytes {t e : TypeId} {fuel : Nat} {v : Value} {x : DataW H × List MemPlace} (ht : P.underlying t = some (.slice e)) (he : P.underlying e = some (.int .u8)) (hc : P.cellsOf e = 1) (h : DataW.trod enc P w base spare held fuel t [v] = some x) :
    ∃ l : List UInt8, Bs w v l := by
  obtain ⟨xs, hs, hx⟩ := rd_sl ht hc h
  obtain ⟨l, rfl⟩ := bytes_of xs fun u hu => by
    obtain ⟨n, y, hy⟩ := hx u hu
    obtain ⟨m, rfl, hm⟩ := rd_int he hy
    exact ⟨m, rfl, u8_of hm⟩
  exact ⟨l, hs⟩
/-- Two lists, element by element. -/
inductive All2 {α β : Type} (R : α → β → Prop) : List α → List β → Prop
  | nil : All2 R [] []
  | cons {a : α} {b : β} {r : List α} {s : List β} (h : R a b) (t : All2 R r s) : All2 R (a :: r) (b :: s)
theorem All2.length {α β : Type} {R : α → β → Prop} {xs : List α} {ls : List β} (h : All2 R xs ls) : xs.length = ls.length := by
  induction h with
  | nil => rfl
  | cons _ _ ih => simp [ih]
theorem All2.at {α β : Type} {R : α → β → Prop} {xs : List α} {ls : List β} (h : All2 R xs ls) : ∀ (i : Nat) (h1 : i < xs.length) (h2 : i < ls.length), R xs[i] ls[i] := by
  induction h with
  | nil => intro i h1; cases h1
  | cons h _ ih =>
    intro i h1 h2
    cases i with
    | zero => exact h
    | succ i => exact ih i (by simpa using h1) (by simpa using h2)
theorem all_of {α β : Type} {R : α → β → Prop} : ∀ (xs : List α), (∀ u ∈ xs, ∃ l, R u l) → ∃ ls : List β, All2 R xs ls
  | [], _ => ⟨[], .nil⟩
  | u :: r, h => by
    obtain ⟨ls, hr⟩ := all_of r fun v hv => h v (List.mem_cons_of_mem _ hv)
    obtain ⟨l, hl⟩ := h u (List.mem_cons_self ..)
    exact ⟨l :: ls, .cons hl hr⟩
/-- A slice of slices of bytes. -/
def Bss (w : World) (v : Value) (ls : List (List UInt8)) : Prop := ∃ xs, Sl w v xs ∧ All2 (Bs w) xs ls
theorem Bss.open {w : World} {v : Value} {ls : List (List UInt8)} (h : Bss w v ls) : ∃ (A : Option Addr) (c : Nat), v = .slice A ls.length c ∧ ls.length ≤ c ∧ c ≤ 9223372036854775807 ∧ (A = none → c = 0) ∧
    ∀ k, (hk : k < ls.length) → ∃ b o u, A = some ⟨b, o, none⟩ ∧ b < w.heap.size ∧ w.cell? ⟨b, o + k, none⟩ = some u ∧ Bs w u ls[k] := by
  obtain ⟨xs, ⟨A, c, rfl, h1, h2, h3, h4⟩, ha⟩ := h
  have hl := ha.length
  refine ⟨A, c, by rw [hl], by omega, h2, h3, fun k hk => ?_⟩
  obtain ⟨b, o, rfl, hb, hc⟩ := h4 (by omega)
  exact ⟨b, o, xs[k], rfl, hb, hc k _ (List.getElem?_eq_getElem (by omega)), ha.at k (by omega) hk⟩
theorem Bss.step {w w' : World} {v : Value} {ls : List (List UInt8)} (h : Bss w v ls) (hb : Below w.heap.size w w') : Bss w' v ls := by
  obtain ⟨xs, hs, ha⟩ := h
  refine ⟨xs, hs.step hb, ?_⟩
  clear hs
  induction ha with
  | nil => exact .nil
  | cons h _ ih => exact .cons (h.step hb) ih
theorem own_form {w : World} {B : Nat} {e : TypeId} {size : Nat} {v : Value} {n : Nat} {xs : List Value} (h : w.ownsRow B e size v n xs) : ∃ A c, v = .slice A n c := by
  rcases h.2 with ⟨rfl, rfl⟩ | ⟨g, cap, cur, rfl, _⟩
  · exact ⟨none, 0, rfl⟩
  · exact ⟨_, _, rfl⟩
theorem rd_bss {t e e' : TypeId} {fuel : Nat} {v : Value} {x : DataW H × List MemPlace} (ht : P.underlying t = some (.slice e)) (he : P.underlying e = some (.slice e')) (he' : P.underlying e' = some (.int .u8)) (hc : P.cellsOf e = 1) (hc' : P.cellsOf e' = 1)
    (h : DataW.trod enc P w base spare held fuel t [v] = some x) : ∃ ls, Bss w v ls := by
  obtain ⟨xs, hs, hx⟩ := rd_sl ht hc h
  obtain ⟨ls, hl⟩ := all_of (R := Bs w) xs fun u hu => by
    obtain ⟨n, y, hy⟩ := hx u hu
    exact rd_bytes he he' hc' hy
  exact ⟨ls, xs, hs, hl⟩
variable {t e e' : TypeId} {v : Value} {d : DataW H} {p : List MemPlace} {r : Reach} {b0 : Nat}
theorem slice_cells (ht : P.underlying t = some (.slice e)) (hv : Value.okWide P w r b0 t v) : v.cells.toList = [v] := by
  obtain ⟨a, l, c, rfl⟩ := okWide_slice ht hv
  rfl
theorem arg_bss (ht : P.underlying t = some (.slice e)) (he : P.underlying e = some (.slice e')) (he' : P.underlying e' = some (.int .u8)) (hc : P.cellsOf e = 1) (hc' : P.cellsOf e' = 1) (hv : Value.okWide P w r b0 t v) (h : DataW.Trod enc P w base spare held t v d p) : ∃ ls, Bss w v ls := by
  obtain ⟨fuel, hf⟩ := h
  rw [slice_cells ht hv] at hf
  exact rd_bss ht he he' hc hc' hf
end
#print axioms arg_bss
end Go.LawLift

