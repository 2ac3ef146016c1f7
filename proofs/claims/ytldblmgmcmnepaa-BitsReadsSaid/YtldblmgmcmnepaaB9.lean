/- Lemmas and walks on the way to the seat's laws; each theorem says its own conditions. -/
import Derived.Test.YtldblmgmcmnepaaB36
set_option linter.unusedSimpArgs false
set_option linter.unusedVariables false
set_option linter.unusedSimpArgs false
set_option linter.unusedVariables false
set_option maxRecDepth 100000
namespace Go.Proofs.Ytldblmgmcmnepaa
open Go.RowKit Go.Mem Go.Reg Oct Bit
/-- A row of numbers of the call's own, with an error. -/
def OutI (w : World) (xs : List Nat) (er : Int) (e : Ending) (w' : World) : Prop :=
  (∃ v, e = .returned (.tuple #[v, .int .i64 er]) ∧ w'.ownsRow w.heap.size 3 1 v xs.length (ivs xs)) ∧ Below w.heap.size w w'
theorem OutI.of {w w' : World} {L : List Ent} (H : Hp w L w') (i : Nat) {v : Value} {n : Nat} {ns : List Nat} {xs : List Value} {er : Int} (hi : L[i]? = some (.row 3 1 v n xs)) (hn : n = ns.length) (hx : xs = ivs ns) {e : Ending} (he : e = .returned (.tuple #[v, .int .i64 er])) : OutI w ns er e w' := by
  subst hn hx
  exact ⟨⟨v, he, ownsOf H i hi⟩, H.low⟩
theorem OutI.none {w w' : World} {er : Int} {e : Ending} (he : e = .returned (.tuple #[.slice none 0 0, .int .i64 er])) (hb : Below w.heap.size w w') : OutI w [] er e w' := ⟨⟨_, he, World.ownsRow_nil w' _ _ _⟩, hb⟩
theorem flags_no {u : Int} {l : List UInt8} (h : rightB u l = false) : flagsR u l = ([], 1) := by unfold flagsR; rw [h]; rfl
theorem flags_long {u : Int} {l : List UInt8} (h : rightB u l = true) (h2 : 32 < lenI u l) : flagsR u l = ([], 6) := by unfold flagsR; rw [h, if_pos rfl, if_pos (.inl h2)]
theorem flags_last {u : Int} {l : List UInt8} (h : rightB u l = true) (h2 : 0 < lenI u l) (h3 : bitN l ((lenI u l).toNat - 1) = false) : flagsR u l = ([], 6) := by unfold flagsR; rw [h, if_pos rfl, if_pos (.inr ⟨h2, h3⟩)]
theorem flags_ok {u : Int} {l : List UInt8} (h : rightB u l = true) (h2 : ¬ 32 < lenI u l) (h3 : 0 < lenI u l → bitN l ((lenI u l).toNat - 1) = true) : flagsR u l = (onesL l (lenI u l).toNat, 0) := by
  unfold flagsR
  rw [h, if_pos rfl, if_neg]
  rintro (h4 | ⟨h4, h5⟩)
  · exact h2 h4
  · rw [h3 h4] at h5
    cases h5
end Go.Proofs.Ytldblmgmcmnepaa

