/- A law's slices opened: bytes, slices of any cells, slices of slices. No condition. -/
import Derived.Test.YtogliinfdfkobaaLift
import Derived.Test.YtogliinfdfkobaaBytes
import Derived.Deep.Slices
set_option linter.unusedSimpArgs false
set_option linter.unusedVariables false
namespace Go.LawLift
open Go.RowKit Go.ChangeShapes Go.WideShapes Go.Deep Go.Mem
section
variable {H : Type} {enc : TypeId × Value → H} {P : Program} {w : World} {base : Nat} {spare : Nat → Bool} {held : Bool}
/-- A slice whose elements are one cell each: the list of its cells, each read. -/
theorem rd_sl {t e : TypeId} {fuel : Nat} {v : Value} {x : DataW H × List MemPlace} (ht : P.underlying t = some (.slice e)) (hc : P.cellsOf e = 1) (h : DataW.trod enc P w base spare held fuel t [v] = some x) :
    ∃ xs : List Value, Sl w v xs ∧ ∀ u ∈ xs, ∃ (n : Nat) (y : DataW H × List MemPlace), DataW.trod enc P w base spare held n e [u] = some y := by
  rcases open_slice1 ht hc h with ⟨h0, _⟩ | ⟨a, len, cap, m, n, V, D, Pl, h0, hb, hl, hm, hmm, _, hV⟩
  · injection h0 with h0
    subst h0
    exact ⟨[], Sl.nil w, by simp⟩
  · injection h0 with h0
    subst h0
    have hlm : len ≤ m := by rw [hmm]; split <;> omega
    refine ⟨(List.range len).map V, ⟨some a, cap, by simp, by simpa using hl, hm, (fun h => by cases h), fun hp => ?_⟩, ?_⟩
    · simp only [List.length_map, List.length_range] at hp
      obtain ⟨b, o, sp⟩ := a
      have h0 := (hV 0 (by omega)).1
      have hlt : b < w.heap.size := World.block_lt_of_cell? w _ h0
      have hs : sp = none := by
        unfold Addr.add at h0
        rw [if_pos rfl] at h0
        unfold World.cell? at h0
        split at h0
        · cases sp with
          | none => rfl
          | some z => simp at h0
        · cases h0
      subst hs
      refine ⟨b, o, rfl, hlt, fun j u hu => ?_⟩
      rw [List.getElem?_map] at hu
      cases hj : (List.range len)[j]? with
      | none => rw [hj] at hu; cases hu
      | some k =>
        rw [hj] at hu
        obtain ⟨hjl, hje⟩ := List.getElem?_eq_some_iff.1 hj
        simp only [List.length_range] at hjl
        simp only [List.getElem_range] at hje
        subst hje
        have := (hV j (by omega)).1
        rw [show (⟨b, o, none⟩ : Addr).add j = ⟨b, o + j, none⟩ by unfold Addr.add; split <;> simp_all] at this
        rw [this]
        exact hu
    · intro u hu
      obtain ⟨i, hi, rfl⟩ := List.mem_map.1 hu
      exact ⟨n, _, (hV i (by have := List.mem_range.1 hi; omega)).2⟩
theorem bytes_of (xs : List Value) (h : ∀ u ∈ xs, ∃ n, u = .int .u8 n ∧ 0 ≤ n ∧ n ≤ 255) : ∃ l : List UInt8, xs = l.map u8c := by
  induction xs with
  | nil => exact ⟨[], rfl⟩
  | cons u r ih =>
    obtain ⟨l, rfl⟩ := ih fun v hv => h v (List.mem_cons_of_mem _ hv)
    obtain ⟨n, rfl, h0, h1⟩ := h u (List.mem_cons_self ..)
    exact ⟨UInt8.ofNat n.toNat :: l, by rw [List.map_cons, u8c_of h0 h1]⟩
theorem u8_of {n : Int} (h : IntKind.u8.min ≤ n ∧ n ≤ IntKind.u8.max) : 0 ≤ n ∧ n ≤ 255 := by
  have h1 : IntKind.u8.min = 0 := by decide
  have h2 : IntKind.u8.max = 255 := by decide
  omega
/-- A slice of bytes. -/
theorem rd_bytes {t e : TypeId} {fuel : Nat} {v : Value} {x : DataW H × List MemPlace} (ht : P.underlying t = some (.slice e)) (he : P.underlying e = some (.int .u8)) (hc : P.cellsOf e = 1) (h : DataW.trod enc P w base spare held fuel t [v] = some x) :
    ∃ l : List UInt8, Bs w v l := by
  obtain ⟨xs, hs, hx⟩ := rd_sl ht hc h
  obtain ⟨l, rfl⟩ := bytes_of xs fun u hu => by
    obtain ⟨n, y, hy⟩ := hx u hu
    obtain ⟨m, rfl, hm⟩ := rd_int he hy
    exact ⟨m, rfl, u8_of hm⟩
  exact ⟨l, hs⟩
/-- Two lists, element by element. -/
inductive All2 {α β : Type} (R : α → β → Prop) : List α → List β → Prop
  | nil : All2 R [] []
  | cons {a : α} {b : β} {r : List α} {s : List β} (h : R a b) (t : All2 R r s) : All2 R (a :: r) (b :: s)
theorem All2.length {α β : Type} {R : α → β → Prop} {xs : List α} {ls : List β} (h : All2 R xs ls) : xs.length = ls.length := by
  induction h with
  | nil => rfl
  | cons _ _ ih => simp [ih]
theorem All2.at {α β : Type} {R : α → β → Prop} {xs : List α} {ls : List β} (h : All2 R xs ls) : ∀ (i : Nat) (h1 : i < xs.length) (h2 : i < ls.length), R xs[i] ls[i] := by
  induction h with
  | nil => intro i h1; cases h1
  | cons h _ ih =>
    intro i h1 h2
    cases i with
    | zero => exact h
    | succ i => exact ih i (by simpa using h1) (by simpa using h2)
/-- A slice of slices of bytes. -/
def Bss (w : World) (v : Value) (ls : List (List UInt8)) : Prop := ∃ xs, Sl w v xs ∧ All2 (Bs w) xs ls
theorem Bss.open {w : World} {v : Value} {ls : List (List UInt8)} (h : Bss w v ls) : ∃ (A : Option Addr) (c : Nat), v = .slice A ls.length c ∧ ls.length ≤ c ∧ c ≤ 9223372036854775807 ∧ (A = none → c = 0) ∧
    ∀ k, (hk : k < ls.length) → ∃ b o u, A = some ⟨b, o, none⟩ ∧ b < w.heap.size ∧ w.cell? ⟨b, o + k, none⟩ = some u ∧ Bs w u ls[k] := by
  obtain ⟨xs, ⟨A, c, rfl, h1, h2, h3, h4⟩, ha⟩ := h
  have hl := ha.length
  refine ⟨A, c, by rw [hl], by omega, h2, h3, fun k hk => ?_⟩
  obtain ⟨b, o, rfl, hb, hc⟩ := h4 (by omega)
  exact ⟨b, o, xs[k], rfl, hb, hc k _ (List.getElem?_eq_getElem (by omega)), ha.at k (by omega) hk⟩
theorem Bss.step {w w' : World} {v : Value} {ls : List (List UInt8)} (h : Bss w v ls) (hb : Below w.heap.size w w') : Bss w' v ls := by
  obtain ⟨xs, hs, ha⟩ := h
  refine ⟨xs, hs.step hb, ?_⟩
  clear hs
  induction ha with
  | nil => exact .nil
  | cons h _ ih => exact .cons (h.step hb) ih
theorem sl_cells {w : World} {b n : Nat} {c : Array Value} {T : TypeId} {fr : Nat × Nat} {xs : List Value} (h : w.heap[b]? = some (.cells c T fr)) (hc : c.toList = xs) (hn : xs.length = n) (hl : n ≤ 1000000) : Sl w (.slice (some ⟨b, 0, none⟩) n n) xs := by
  subst hn
  refine ⟨some ⟨b, 0, none⟩, xs.length, rfl, Nat.le_refl _, by unfold maxLen; omega, (fun h => by cases h), fun _ => ⟨b, 0, rfl, (Array.getElem?_eq_some_iff.1 h).1, fun j u hu => ?_⟩⟩
  rw [cell_of_marked h, Nat.zero_add, ← Array.getElem?_toList, hc, hu]
theorem own_form {w : World} {B : Nat} {e : TypeId} {size : Nat} {v : Value} {n : Nat} {xs : List Value} (h : w.ownsRow B e size v n xs) : ∃ A c, v = .slice A n c := by
  rcases h.2 with ⟨rfl, rfl⟩ | ⟨g, cap, cur, rfl, _⟩
  · exact ⟨none, 0, rfl⟩
  · exact ⟨_, _, rfl⟩
variable {t e e' : TypeId} {v : Value} {d : DataW H} {p : List MemPlace} {r : Reach} {b0 : Nat}
end
end Go.LawLift

/- Slices of whole numbers. No condition on a program. -/
namespace Go.Mem
open Go.RowKit
/-- What a walk begins with: the value written out; an element of each place. -/
theorem Sl.openK {α : Type} {f : α → Value} {w : World} {v : Value} {xs : List α} (h : Sl w v (xs.map f)) : ∃ (A : Option Addr) (c : Nat), v = .slice A xs.length c ∧ xs.length ≤ c ∧ c ≤ 9223372036854775807 ∧ (A = none → c = 0) ∧
    ∀ k, (hk : k < xs.length) → ∃ b o, A = some ⟨b, o, none⟩ ∧ b < w.heap.size ∧ ∀ j, (hj : j < xs.length) → w.cell? ⟨b, o + j, none⟩ = some (f xs[j]) := by
  obtain ⟨A, c, rfl, h1, h2, h3, h4⟩ := h
  simp only [List.length_map] at *
  refine ⟨A, c, rfl, h1, h2, h3, fun k hk => ?_⟩
  obtain ⟨b, o, e, hl, hc⟩ := h4 (by omega)
  exact ⟨b, o, e, hl, fun j hj => hc j _ (by simp [hj])⟩
theorem Sl.at {α : Type} {f : α → Value} {w : World} {A : Option Addr} {n c : Nat} {xs : List α} (h : Sl w (.slice A n c) (xs.map f)) (k : Nat) (hk : k < xs.length) : ∃ b o, A = some ⟨b, o, none⟩ ∧ b < w.heap.size ∧ w.cell? ⟨b, o + k, none⟩ = some (f xs[k]) := by
  obtain ⟨A', c', e, -, -, -, hc⟩ := h.openK
  injection e with e1 e2 e3
  subst e1
  obtain ⟨b, o, e, hl, hj⟩ := hc k hk
  exact ⟨b, o, e, hl, hj k hk⟩
/-- The first ones. -/
theorem Sl.frontK {w : World} {A : Option Addr} {n c : Nat} {xs : List Value} (h : Sl w (.slice A n c) xs) {k : Nat} (hk : k ≤ n) : Sl w (.slice A k c) (xs.take k) := by
  obtain ⟨A', c', e, h1, h2, h3, h4⟩ := h
  injection e with e1 e2 e3
  subst e1 e2 e3
  refine ⟨A, c, by rw [List.length_take, Nat.min_eq_left hk], by rw [List.length_take]; omega, h2, h3, fun hp => ?_⟩
  rw [List.length_take] at hp
  obtain ⟨b, o, e, hl, hc⟩ := h4 (by omega)
  refine ⟨b, o, e, hl, fun j u hu => hc j u ?_⟩
  rw [List.getElem?_take] at hu
  split at hu
  · exact hu
  · cases hu
theorem Sl.size {w : World} {A : Option Addr} {n c : Nat} {xs : List Value} (h : Sl w (.slice A n c) xs) : xs.length = n := by
  obtain ⟨A', c', e, -⟩ := h
  injection e with e1 e2 e3
  exact e2.symm
theorem Sl.cap {w : World} {A : Option Addr} {n c : Nat} {xs : List Value} (h : Sl w (.slice A n c) xs) : n ≤ c ∧ c ≤ 9223372036854775807 := by
  obtain ⟨A', c', e, h1, h2, -⟩ := h
  injection e with e1 e2 e3
  subst e1 e2 e3
  exact ⟨h1, h2⟩
/-- A slice of whole numbers. -/
def Zs (w : World) (v : Value) (xs : List Int) : Prop := Sl w v (Bit.zvs xs)
def Ns (w : World) (v : Value) (xs : List Nat) : Prop := Sl w v (Bit.ivs xs)
theorem Ns.zs {w : World} {v : Value} {xs : List Nat} (h : Ns w v xs) : Zs w v (xs.map fun (n : Nat) => (n : Int)) := by
  unfold Zs
  rw [← Bit.ivs_zvs]
  exact h
theorem Zs.step {w w' : World} {v : Value} {l : List Int} (h : Zs w v l) (hb : Below w.heap.size w w') : Zs w' v l := Sl.step h hb
theorem Ns.step {w w' : World} {v : Value} {l : List Nat} (h : Ns w v l) (hb : Below w.heap.size w w') : Ns w' v l := Sl.step h hb
theorem Hp.zs {w0 w : World} {L : List Ent} (H : Hp w0 L w) {v : Value} {l : List Int} (h : Zs w0 v l) : Zs w v l := h.step H.low
theorem Zs.open {w : World} {v : Value} {xs : List Int} (h : Zs w v xs) : ∃ (A : Option Addr) (c : Nat), v = .slice A xs.length c ∧ xs.length ≤ c ∧ c ≤ 9223372036854775807 ∧ (A = none → c = 0) ∧
    ∀ k, (hk : k < xs.length) → ∃ b o, A = some ⟨b, o, none⟩ ∧ b < w.heap.size ∧ ∀ j, (hj : j < xs.length) → w.cell? ⟨b, o + j, none⟩ = some (.int .i64 xs[j]) := Sl.openK h
theorem Ns.open {w : World} {v : Value} {xs : List Nat} (h : Ns w v xs) : ∃ (A : Option Addr) (c : Nat), v = .slice A xs.length c ∧ xs.length ≤ c ∧ c ≤ 9223372036854775807 ∧ (A = none → c = 0) ∧
    ∀ k, (hk : k < xs.length) → ∃ b o, A = some ⟨b, o, none⟩ ∧ b < w.heap.size ∧ ∀ j, (hj : j < xs.length) → w.cell? ⟨b, o + j, none⟩ = some (.int .i64 (xs[j] : Int)) := Sl.openK h
theorem Zs.at {w : World} {A : Option Addr} {n c : Nat} {xs : List Int} (h : Zs w (.slice A n c) xs) (k : Nat) (hk : k < xs.length) : ∃ b o, A = some ⟨b, o, none⟩ ∧ b < w.heap.size ∧ w.cell? ⟨b, o + k, none⟩ = some (.int .i64 xs[k]) := Sl.at h k hk
theorem Ns.at {w : World} {A : Option Addr} {n c : Nat} {xs : List Nat} (h : Ns w (.slice A n c) xs) (k : Nat) (hk : k < xs.length) : ∃ b o, A = some ⟨b, o, none⟩ ∧ b < w.heap.size ∧ w.cell? ⟨b, o + k, none⟩ = some (.int .i64 (xs[k] : Int)) := Sl.at h k hk
theorem Zs.front {w : World} {A : Option Addr} {n c : Nat} {xs : List Int} (h : Zs w (.slice A n c) xs) {k : Nat} (hk : k ≤ n) : Zs w (.slice A k c) (xs.take k) := by
  have := Sl.frontK h hk
  unfold Zs Bit.zvs at *
  rwa [List.map_take]
theorem Ns.front {w : World} {A : Option Addr} {n c : Nat} {xs : List Nat} (h : Ns w (.slice A n c) xs) {k : Nat} (hk : k ≤ n) : Ns w (.slice A k c) (xs.take k) := by
  have := Sl.frontK h hk
  unfold Ns Bit.ivs at *
  rwa [List.map_take]
end Go.Mem

