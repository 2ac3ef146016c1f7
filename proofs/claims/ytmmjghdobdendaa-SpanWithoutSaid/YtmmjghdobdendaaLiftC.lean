/- A law's slices of pairs of numbers opened. No condition. -/
import Derived.Test.YtmmjghdobdendaaLiftB
set_option linter.unusedSimpArgs false
set_option linter.unusedVariables false
namespace Go.LawLift
open Go.RowKit Go.ChangeShapes Go.WideShapes Go.Deep Go.Mem
/-- A slice of pairs of numbers. -/
def Prs (k : IntKind) (w : World) (v : Value) (zs : List (Int × Int)) : Prop :=
  ∃ (A : Option Addr) (c : Nat), v = .slice A zs.length c ∧ zs.length ≤ c ∧ c ≤ 9223372036854775807 ∧ (A = none → c = 0) ∧
    (0 < zs.length → ∃ b o, A = some ⟨b, o, none⟩ ∧ b < w.heap.size ∧ ∀ j, (hj : j < zs.length) → w.cell? ⟨b, o + 2 * j, none⟩ = some (.int k zs[j].1) ∧ w.cell? ⟨b, o + (2 * j + 1), none⟩ = some (.int k zs[j].2))
theorem Prs.step {k : IntKind} {w w' : World} {v : Value} {zs : List (Int × Int)} (h : Prs k w v zs) (hb : Below w.heap.size w w') : Prs k w' v zs := by
  obtain ⟨A, c, rfl, h1, h2, h3, h4⟩ := h
  refine ⟨A, c, rfl, h1, h2, h3, fun hp => ?_⟩
  obtain ⟨b, o, e, hl, hc⟩ := h4 hp
  exact ⟨b, o, e, Nat.lt_of_lt_of_le hl hb.size, fun j hj => ⟨(hb.cell (p := ⟨b, o + 2 * j, none⟩) hl).trans (hc j hj).1, (hb.cell (p := ⟨b, o + (2 * j + 1), none⟩) hl).trans (hc j hj).2⟩⟩
section
variable {H : Type} {enc : TypeId × Value → H} {P : Program} {w : World} {base : Nat} {spare : Nat → Bool} {held : Bool}
theorem addr_add (b o n : Nat) : (⟨b, o, none⟩ : Addr).add n = ⟨b, o + n, none⟩ := by unfold Addr.add; split <;> simp_all
theorem rd_pairs {t e t1 t2 : TypeId} {k : IntKind} {fs : Array Field} {fuel : Nat} {v : Value} {x : DataW H × List MemPlace} (ht : P.underlying t = some (.slice e)) (he : P.underlying e = some (.struct fs)) (hone : oneCellFields P fs = true) (hC : P.cellsOf e = 2)
    (hfs : fs.size = 2) (h1 : (fs[0]?).map (·.type) = some t1) (h2 : (fs[1]?).map (·.type) = some t2) (ht1 : P.underlying t1 = some (.int k)) (ht2 : P.underlying t2 = some (.int k))
    (h : DataW.trod enc P w base spare held fuel t [v] = some x) : ∃ zs : List (Int × Int), Prs k w v zs ∧ ∀ z ∈ zs, (k.min ≤ z.1 ∧ z.1 ≤ k.max) ∧ (k.min ≤ z.2 ∧ z.2 ≤ k.max) := by
  rcases open_slice ht h with ⟨h0, _⟩ | ⟨a, len, cap, m, n, D, Pl, h0, hb, hl, hm, hmm, _, hV⟩
  · injection h0 with h0
    subst h0
    exact ⟨[], ⟨none, 0, rfl, Nat.le_refl _, by simp, fun _ => rfl, fun h => absurd h (by simp)⟩, by simp⟩
  · injection h0 with h0
    subst h0
    have hlm : len ≤ m := by rw [hmm]; split <;> omega
    have key : ∀ i, i < len → ∃ p : Int × Int, w.cell? (a.add (i * 2)) = some (.int k p.1) ∧ w.cell? ((a.add (i * 2)).add 1) = some (.int k p.2) ∧ (k.min ≤ p.1 ∧ p.1 ≤ k.max) ∧ (k.min ≤ p.2 ∧ p.2 ≤ k.max) := by
      intro i hi
      obtain ⟨cs, hc, hr⟩ := hV i (by omega)
      rw [hC] at hc
      obtain ⟨_, hcl, hcc⟩ := World.cells?_some hc
      obtain ⟨_, hg⟩ := rd_struct he hone (by rw [hC, hfs]) hr
      have hf0 : fs[0]? = some fs[0] := by simp [hfs]
      have hf1 : fs[1]? = some fs[1] := by simp [hfs]
      rw [hf0] at h1
      rw [hf1] at h2
      simp only [Option.map_some, Option.some.injEq] at h1 h2
      obtain ⟨u, n1, y1, e1, r1⟩ := hg 0 _ hf0
      obtain ⟨u', n2, y2, e2, r2⟩ := hg 1 _ hf1
      rw [h1] at r1
      rw [h2] at r2
      obtain ⟨z1, rfl, b1⟩ := rd_int ht1 r1
      obtain ⟨z2, rfl, b2⟩ := rd_int ht2 r2
      have c0 := hcc 0 (by omega)
      have c1 := hcc 1 (by omega)
      rw [e1] at c0
      rw [e2] at c1
      have ha0 : (a.add (i * 2)).add 0 = a.add (i * 2) := by unfold Addr.add; simp
      rw [ha0] at c0
      exact ⟨(z1, z2), c0, c1, b1, b2⟩
    obtain ⟨V, hVV⟩ := choose_lt key
    refine ⟨(List.range len).map V, ⟨some a, cap, by simp, by simpa using hl, hm, (fun h => by cases h), fun hp => ?_⟩, ?_⟩
    · simp only [List.length_map, List.length_range] at hp
      obtain ⟨b, o, sp⟩ := a
      have h0 := (hVV 0 (by omega)).1
      have hlt : b < w.heap.size := World.block_lt_of_cell? w _ h0
      have hs : sp = none := by
        unfold Addr.add at h0
        rw [if_pos (by simp)] at h0
        unfold World.cell? at h0
        split at h0
        · cases sp with
          | none => rfl
          | some z => simp at h0
        · cases h0
      subst hs
      refine ⟨b, o, rfl, hlt, fun j hj => ?_⟩
      simp only [List.length_map, List.length_range] at hj
      have := hVV j hj
      rw [addr_add, addr_add, Nat.add_assoc, Nat.mul_comm] at this
      simp only [List.getElem_map, List.getElem_range]
      exact ⟨this.1, this.2.1⟩
    · intro z hz
      obtain ⟨i, hi, rfl⟩ := List.mem_map.1 hz
      exact (hVV i (by simpa using hi)).2.2
variable {t e t1 t2 : TypeId} {v : Value} {d : DataW H} {p : List MemPlace} {r : Reach} {b0 : Nat}
theorem arg_pairs {k : IntKind} {fs : Array Field} (ht : P.underlying t = some (.slice e)) (he : P.underlying e = some (.struct fs)) (hone : oneCellFields P fs = true) (hC : P.cellsOf e = 2)
    (hfs : fs.size = 2) (h1 : (fs[0]?).map (·.type) = some t1) (h2 : (fs[1]?).map (·.type) = some t2) (ht1 : P.underlying t1 = some (.int k)) (ht2 : P.underlying t2 = some (.int k)) (hv : Value.okWide P w r b0 t v) (h : DataW.Trod enc P w base spare held t v d p) :
    ∃ zs : List (Int × Int), Prs k w v zs ∧ ∀ z ∈ zs, (k.min ≤ z.1 ∧ z.1 ≤ k.max) ∧ (k.min ≤ z.2 ∧ z.2 ≤ k.max) := by
  obtain ⟨fuel, hf⟩ := h
  rw [slice_cells ht hv] at hf
  exact rd_pairs ht he hone hC hfs h1 h2 ht1 ht2 hf
end
end Go.LawLift

