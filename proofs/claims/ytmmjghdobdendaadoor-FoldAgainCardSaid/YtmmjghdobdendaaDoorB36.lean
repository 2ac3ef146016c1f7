/- Lemmas and walks on the way to the seat's laws; each theorem says its own conditions. -/
import Derived.Test.YtmmjghdobdendaaDoorLift
import Derived.Test.YtmmjghdobdendaaDoorLiftB
import Derived.Test.YtmmjghdobdendaaDoorBytes
import Derived.Test.YtmmjghdobdendaaDoorB1
set_option linter.unusedSimpArgs false
set_option linter.unusedVariables false
set_option linter.unusedSimpArgs false
set_option linter.unusedVariables false
set_option maxRecDepth 100000
namespace Go.Proofs.YtmmjghdobdendaaDoor
open Go.RowKit Go.Mem Go.Reg Oct Bit
theorem info_i64 : (Tryd.prog.info? 3).map (fun i => (i.zero, i.size, i.bytes)) = some (some (.int .i64 0), 1, 8) := by kernel_rfl
/-- A result that is a row of numbers of the call's own. -/
def OneI (w : World) (xs : List Nat) (e : Ending) (w' : World) : Prop :=
  (∃ v, e = .returned v ∧ w'.ownsRow w.heap.size 3 1 v xs.length (ivs xs)) ∧ Below w.heap.size w w'
theorem OneI.of {w w' : World} {L : List Ent} (H : Hp w L w') (i : Nat) {v : Value} {n : Nat} {ns : List Nat} {xs : List Value} (hi : L[i]? = some (.row 3 1 v n xs)) (hn : n = ns.length) (hx : xs = ivs ns) {e : Ending} (he : e = .returned v) : OneI w ns e w' := by
  subst hn hx
  exact ⟨⟨v, he, ownsOf H i hi⟩, H.low⟩
end Go.Proofs.YtmmjghdobdendaaDoor

/- Slices of whole numbers. No condition on a program. -/
namespace Go.Mem
open Go.RowKit
/-- What a walk begins with: the value written out; an element of each place. -/
theorem Sl.openK {α : Type} {f : α → Value} {w : World} {v : Value} {xs : List α} (h : Sl w v (xs.map f)) : ∃ (A : Option Addr) (c : Nat), v = .slice A xs.length c ∧ xs.length ≤ c ∧ c ≤ 9223372036854775807 ∧ (A = none → c = 0) ∧
    ∀ k, (hk : k < xs.length) → ∃ b o, A = some ⟨b, o, none⟩ ∧ b < w.heap.size ∧ ∀ j, (hj : j < xs.length) → w.cell? ⟨b, o + j, none⟩ = some (f xs[j]) := by
  obtain ⟨A, c, rfl, h1, h2, h3, h4⟩ := h
  simp only [List.length_map] at *
  refine ⟨A, c, rfl, h1, h2, h3, fun k hk => ?_⟩
  obtain ⟨b, o, e, hl, hc⟩ := h4 (by omega)
  exact ⟨b, o, e, hl, fun j hj => hc j _ (by simp [hj])⟩
theorem Sl.at {α : Type} {f : α → Value} {w : World} {A : Option Addr} {n c : Nat} {xs : List α} (h : Sl w (.slice A n c) (xs.map f)) (k : Nat) (hk : k < xs.length) : ∃ b o, A = some ⟨b, o, none⟩ ∧ b < w.heap.size ∧ w.cell? ⟨b, o + k, none⟩ = some (f xs[k]) := by
  obtain ⟨A', c', e, -, -, -, hc⟩ := h.openK
  injection e with e1 e2 e3
  subst e1
  obtain ⟨b, o, e, hl, hj⟩ := hc k hk
  exact ⟨b, o, e, hl, hj k hk⟩
/-- The first ones. -/
theorem Sl.frontK {w : World} {A : Option Addr} {n c : Nat} {xs : List Value} (h : Sl w (.slice A n c) xs) {k : Nat} (hk : k ≤ n) : Sl w (.slice A k c) (xs.take k) := by
  obtain ⟨A', c', e, h1, h2, h3, h4⟩ := h
  injection e with e1 e2 e3
  subst e1 e2 e3
  refine ⟨A, c, by rw [List.length_take, Nat.min_eq_left hk], by rw [List.length_take]; omega, h2, h3, fun hp => ?_⟩
  rw [List.length_take] at hp
  obtain ⟨b, o, e, hl, hc⟩ := h4 (by omega)
  refine ⟨b, o, e, hl, fun j u hu => hc j u ?_⟩
  rw [List.getElem?_take] at hu
  split at hu
  · exact hu
  · cases hu
theorem Sl.size {w : World} {A : Option Addr} {n c : Nat} {xs : List Value} (h : Sl w (.slice A n c) xs) : xs.length = n := by
  obtain ⟨A', c', e, -⟩ := h
  injection e with e1 e2 e3
  exact e2.symm
theorem Sl.cap {w : World} {A : Option Addr} {n c : Nat} {xs : List Value} (h : Sl w (.slice A n c) xs) : n ≤ c ∧ c ≤ 9223372036854775807 := by
  obtain ⟨A', c', e, h1, h2, -⟩ := h
  injection e with e1 e2 e3
  subst e1 e2 e3
  exact ⟨h1, h2⟩
/-- A slice of whole numbers. -/
def Zs (w : World) (v : Value) (xs : List Int) : Prop := Sl w v (Bit.zvs xs)
def Ns (w : World) (v : Value) (xs : List Nat) : Prop := Sl w v (Bit.ivs xs)
theorem Ns.zs {w : World} {v : Value} {xs : List Nat} (h : Ns w v xs) : Zs w v (xs.map fun (n : Nat) => (n : Int)) := by
  unfold Zs
  rw [← Bit.ivs_zvs]
  exact h
theorem Zs.step {w w' : World} {v : Value} {l : List Int} (h : Zs w v l) (hb : Below w.heap.size w w') : Zs w' v l := Sl.step h hb
theorem Ns.step {w w' : World} {v : Value} {l : List Nat} (h : Ns w v l) (hb : Below w.heap.size w w') : Ns w' v l := Sl.step h hb
theorem Hp.zs {w0 w : World} {L : List Ent} (H : Hp w0 L w) {v : Value} {l : List Int} (h : Zs w0 v l) : Zs w v l := h.step H.low
theorem Hp.ns {w0 w : World} {L : List Ent} (H : Hp w0 L w) {v : Value} {l : List Nat} (h : Ns w0 v l) : Ns w v l := h.step H.low
theorem Zs.open {w : World} {v : Value} {xs : List Int} (h : Zs w v xs) : ∃ (A : Option Addr) (c : Nat), v = .slice A xs.length c ∧ xs.length ≤ c ∧ c ≤ 9223372036854775807 ∧ (A = none → c = 0) ∧
    ∀ k, (hk : k < xs.length) → ∃ b o, A = some ⟨b, o, none⟩ ∧ b < w.heap.size ∧ ∀ j, (hj : j < xs.length) → w.cell? ⟨b, o + j, none⟩ = some (.int .i64 xs[j]) := Sl.openK h
theorem Ns.open {w : World} {v : Value} {xs : List Nat} (h : Ns w v xs) : ∃ (A : Option Addr) (c : Nat), v = .slice A xs.length c ∧ xs.length ≤ c ∧ c ≤ 9223372036854775807 ∧ (A = none → c = 0) ∧
    ∀ k, (hk : k < xs.length) → ∃ b o, A = some ⟨b, o, none⟩ ∧ b < w.heap.size ∧ ∀ j, (hj : j < xs.length) → w.cell? ⟨b, o + j, none⟩ = some (.int .i64 (xs[j] : Int)) := Sl.openK h
theorem Zs.at {w : World} {A : Option Addr} {n c : Nat} {xs : List Int} (h : Zs w (.slice A n c) xs) (k : Nat) (hk : k < xs.length) : ∃ b o, A = some ⟨b, o, none⟩ ∧ b < w.heap.size ∧ w.cell? ⟨b, o + k, none⟩ = some (.int .i64 xs[k]) := Sl.at h k hk
theorem Ns.at {w : World} {A : Option Addr} {n c : Nat} {xs : List Nat} (h : Ns w (.slice A n c) xs) (k : Nat) (hk : k < xs.length) : ∃ b o, A = some ⟨b, o, none⟩ ∧ b < w.heap.size ∧ w.cell? ⟨b, o + k, none⟩ = some (.int .i64 (xs[k] : Int)) := Sl.at h k hk
end Go.Mem

set_option linter.unusedSimpArgs false
set_option linter.unusedVariables false
set_option maxRecDepth 100000
namespace Go.Proofs.YtmmjghdobdendaaDoor
open Go.RowKit Go.Mem Go.Reg Oct Bit
end Go.Proofs.YtmmjghdobdendaaDoor

