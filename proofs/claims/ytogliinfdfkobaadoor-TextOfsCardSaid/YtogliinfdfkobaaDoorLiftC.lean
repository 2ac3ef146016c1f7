/- A law's slices of pairs of numbers opened. No condition. -/
import Derived.Test.YtogliinfdfkobaaDoorLiftB
set_option linter.unusedSimpArgs false
set_option linter.unusedVariables false
namespace Go.LawLift
open Go.RowKit Go.ChangeShapes Go.WideShapes Go.Deep Go.Mem
/-- A slice of pairs of numbers. -/
def Prs (k : IntKind) (w : World) (v : Value) (zs : List (Int × Int)) : Prop :=
  ∃ (A : Option Addr) (c : Nat), v = .slice A zs.length c ∧ zs.length ≤ c ∧ c ≤ 9223372036854775807 ∧ (A = none → c = 0) ∧
    (0 < zs.length → ∃ b o, A = some ⟨b, o, none⟩ ∧ b < w.heap.size ∧ ∀ j, (hj : j < zs.length) → w.cell? ⟨b, o + 2 * j, none⟩ = some (.int k zs[j].1) ∧ w.cell? ⟨b, o + (2 * j + 1), none⟩ = some (.int k zs[j].2))
theorem Prs.step {k : IntKind} {w w' : World} {v : Value} {zs : List (Int × Int)} (h : Prs k w v zs) (hb : Below w.heap.size w w') : Prs k w' v zs := by
  obtain ⟨A, c, rfl, h1, h2, h3, h4⟩ := h
  refine ⟨A, c, rfl, h1, h2, h3, fun hp => ?_⟩
  obtain ⟨b, o, e, hl, hc⟩ := h4 hp
  exact ⟨b, o, e, Nat.lt_of_lt_of_le hl hb.size, fun j hj => ⟨(hb.cell (p := ⟨b, o + 2 * j, none⟩) hl).trans (hc j hj).1, (hb.cell (p := ⟨b, o + (2 * j + 1), none⟩) hl).trans (hc j hj).2⟩⟩
section
variable {H : Type} {enc : TypeId × Value → H} {P : Program} {w : World} {base : Nat} {spare : Nat → Bool} {held : Bool}
theorem addr_add (b o n : Nat) : (⟨b, o, none⟩ : Addr).add n = ⟨b, o + n, none⟩ := by unfold Addr.add; split <;> simp_all
variable {t e t1 t2 : TypeId} {v : Value} {d : DataW H} {p : List MemPlace} {r : Reach} {b0 : Nat}
end
end Go.LawLift

