/- Slices of whole numbers. No condition on a program. -/
import Derived.Test.YtogliinfdfkobaaDoorBytes
import Derived.Test.YtogliinfdfkobaaDoorB1
import Derived.Test.YtogliinfdfkobaaDoorLiftB
set_option linter.unusedSimpArgs false
set_option linter.unusedVariables false
namespace Go.Mem
open Go.RowKit
/-- What a walk begins with: the value written out; an element of each place. -/
theorem Sl.openK {α : Type} {f : α → Value} {w : World} {v : Value} {xs : List α} (h : Sl w v (xs.map f)) : ∃ (A : Option Addr) (c : Nat), v = .slice A xs.length c ∧ xs.length ≤ c ∧ c ≤ 9223372036854775807 ∧ (A = none → c = 0) ∧
    ∀ k, (hk : k < xs.length) → ∃ b o, A = some ⟨b, o, none⟩ ∧ b < w.heap.size ∧ ∀ j, (hj : j < xs.length) → w.cell? ⟨b, o + j, none⟩ = some (f xs[j]) := by
  obtain ⟨A, c, rfl, h1, h2, h3, h4⟩ := h
  simp only [List.length_map] at *
  refine ⟨A, c, rfl, h1, h2, h3, fun k hk => ?_⟩
  obtain ⟨b, o, e, hl, hc⟩ := h4 (by omega)
  exact ⟨b, o, e, hl, fun j hj => hc j _ (by simp [hj])⟩
theorem Sl.at {α : Type} {f : α → Value} {w : World} {A : Option Addr} {n c : Nat} {xs : List α} (h : Sl w (.slice A n c) (xs.map f)) (k : Nat) (hk : k < xs.length) : ∃ b o, A = some ⟨b, o, none⟩ ∧ b < w.heap.size ∧ w.cell? ⟨b, o + k, none⟩ = some (f xs[k]) := by
  obtain ⟨A', c', e, -, -, -, hc⟩ := h.openK
  injection e with e1 e2 e3
  subst e1
  obtain ⟨b, o, e, hl, hj⟩ := hc k hk
  exact ⟨b, o, e, hl, hj k hk⟩
/-- The first ones. -/
theorem Sl.frontK {w : World} {A : Option Addr} {n c : Nat} {xs : List Value} (h : Sl w (.slice A n c) xs) {k : Nat} (hk : k ≤ n) : Sl w (.slice A k c) (xs.take k) := by
  obtain ⟨A', c', e, h1, h2, h3, h4⟩ := h
  injection e with e1 e2 e3
  subst e1 e2 e3
  refine ⟨A, c, by rw [List.length_take, Nat.min_eq_left hk], by rw [List.length_take]; omega, h2, h3, fun hp => ?_⟩
  rw [List.length_take] at hp
  obtain ⟨b, o, e, hl, hc⟩ := h4 (by omega)
  refine ⟨b, o, e, hl, fun j u hu => hc j u ?_⟩
  rw [List.getElem?_take] at hu
  split at hu
  · exact hu
  · cases hu
theorem Sl.size {w : World} {A : Option Addr} {n c : Nat} {xs : List Value} (h : Sl w (.slice A n c) xs) : xs.length = n := by
  obtain ⟨A', c', e, -⟩ := h
  injection e with e1 e2 e3
  exact e2.symm
theorem Sl.cap {w : World} {A : Option Addr} {n c : Nat} {xs : List Value} (h : Sl w (.slice A n c) xs) : n ≤ c ∧ c ≤ 9223372036854775807 := by
  obtain ⟨A', c', e, h1, h2, -⟩ := h
  injection e with e1 e2 e3
  subst e1 e2 e3
  exact ⟨h1, h2⟩
/-- A slice of whole numbers. -/
def Zs (w : World) (v : Value) (xs : List Int) : Prop := Sl w v (Bit.zvs xs)
def Ns (w : World) (v : Value) (xs : List Nat) : Prop := Sl w v (Bit.ivs xs)
theorem Ns.zs {w : World} {v : Value} {xs : List Nat} (h : Ns w v xs) : Zs w v (xs.map fun (n : Nat) => (n : Int)) := by
  unfold Zs
  rw [← Bit.ivs_zvs]
  exact h
theorem Zs.step {w w' : World} {v : Value} {l : List Int} (h : Zs w v l) (hb : Below w.heap.size w w') : Zs w' v l := Sl.step h hb
theorem Ns.step {w w' : World} {v : Value} {l : List Nat} (h : Ns w v l) (hb : Below w.heap.size w w') : Ns w' v l := Sl.step h hb
theorem Hp.zs {w0 w : World} {L : List Ent} (H : Hp w0 L w) {v : Value} {l : List Int} (h : Zs w0 v l) : Zs w v l := h.step H.low
theorem Hp.ns {w0 w : World} {L : List Ent} (H : Hp w0 L w) {v : Value} {l : List Nat} (h : Ns w0 v l) : Ns w v l := h.step H.low
theorem Zs.open {w : World} {v : Value} {xs : List Int} (h : Zs w v xs) : ∃ (A : Option Addr) (c : Nat), v = .slice A xs.length c ∧ xs.length ≤ c ∧ c ≤ 9223372036854775807 ∧ (A = none → c = 0) ∧
    ∀ k, (hk : k < xs.length) → ∃ b o, A = some ⟨b, o, none⟩ ∧ b < w.heap.size ∧ ∀ j, (hj : j < xs.length) → w.cell? ⟨b, o + j, none⟩ = some (.int .i64 xs[j]) := Sl.openK h
theorem Ns.open {w : World} {v : Value} {xs : List Nat} (h : Ns w v xs) : ∃ (A : Option Addr) (c : Nat), v = .slice A xs.length c ∧ xs.length ≤ c ∧ c ≤ 9223372036854775807 ∧ (A = none → c = 0) ∧
    ∀ k, (hk : k < xs.length) → ∃ b o, A = some ⟨b, o, none⟩ ∧ b < w.heap.size ∧ ∀ j, (hj : j < xs.length) → w.cell? ⟨b, o + j, none⟩ = some (.int .i64 (xs[j] : Int)) := Sl.openK h
theorem Zs.at {w : World} {A : Option Addr} {n c : Nat} {xs : List Int} (h : Zs w (.slice A n c) xs) (k : Nat) (hk : k < xs.length) : ∃ b o, A = some ⟨b, o, none⟩ ∧ b < w.heap.size ∧ w.cell? ⟨b, o + k, none⟩ = some (.int .i64 xs[k]) := Sl.at h k hk
theorem Ns.at {w : World} {A : Option Addr} {n c : Nat} {xs : List Nat} (h : Ns w (.slice A n c) xs) (k : Nat) (hk : k < xs.length) : ∃ b o, A = some ⟨b, o, none⟩ ∧ b < w.heap.size ∧ w.cell? ⟨b, o + k, none⟩ = some (.int .i64 (xs[k] : Int)) := Sl.at h k hk
theorem Zs.front {w : World} {A : Option Addr} {n c : Nat} {xs : List Int} (h : Zs w (.slice A n c) xs) {k : Nat} (hk : k ≤ n) : Zs w (.slice A k c) (xs.take k) := by
  have := Sl.frontK h hk
  unfold Zs Bit.zvs at *
  rwa [List.map_take]
theorem Ns.front {w : World} {A : Option Addr} {n c : Nat} {xs : List Nat} (h : Ns w (.slice A n c) xs) {k : Nat} (hk : k ≤ n) : Ns w (.slice A k c) (xs.take k) := by
  have := Sl.frontK h hk
  unfold Ns Bit.ivs at *
  rwa [List.map_take]
end Go.Mem

