/- Lemmas and walks on the way to the seat's laws; each theorem says its own conditions. -/
import Derived.Test.YtmmjghdobdendaaDoorK12
set_option linter.unusedSimpArgs false
set_option linter.unusedVariables false
set_option linter.unusedSimpArgs false
set_option linter.unusedVariables false
set_option maxRecDepth 100000
namespace Go.Proofs.YtmmjghdobdendaaDoor
open Go.RowKit Go.Mem Go.Reg Oct Bit Go.Txt Go.Shelf Go.LawLift Go.Fold
def labR (t : List UInt8) : Option (List (List UInt8)) := if 253 < t.length then none else if (splitC 46 t).all labOK then some (splitC 46 t) else none
def LabOut (w : World) (R : Option (List (List UInt8))) (e : Ending) (w' : World) : Prop :=
  (∃ v', e = .returned (.tuple #[v', .bool R.isSome]) ∧ w'.ownsRow w.heap.size 9 1 v' (R.getD []).length (tvs (R.getD []))) ∧ Below w.heap.size w w'
theorem LabOut.none {w w' : World} {e : Ending} {R : Option (List (List UInt8))} (h : R = none) (he : e = .returned (.tuple #[.slice none 0 0, .bool false])) (hb : Below w.heap.size w w') : LabOut w R e w' := by
  subst h
  exact ⟨⟨_, he, World.ownsRow_nil _ _ _ _⟩, hb⟩
def LabInv (w : World) (t : List UInt8) (i : Nat) (ls : List (List UInt8)) (o : List UInt8) : Prop :=
  (i ≤ t.length → splitC 46 (t.take i) = ls ++ [o]) ∧ (i = t.length + 1 → splitC 46 t = ls) ∧ (∀ p ∈ ls, labOK p = true) ∧ (∀ x ∈ o, okc x = true)
def LabRel (w : World) (t : List UInt8) (lv on ix : Value) (wr : World) : Prop :=
  ∃ (i : Nat) (ls : List (List UInt8)) (o : List UInt8), i ≤ t.length + 1 ∧ ix = .int .i64 i ∧ on = .string ⟨o.toArray⟩ ∧ Kp (LabInv w t i ls o) ∧ Hp w [.row 9 1 lv ls.length (tvs ls)] wr
theorem LabRel.mk {w wr : World} {t : List UInt8} {lv on ix : Value} (i : Nat) (ls : List (List UInt8)) (o : List UInt8) (h1 : i ≤ t.length + 1) (h2 : ix = .int .i64 i) (h3 : on = .string ⟨o.toArray⟩) (h4 : LabInv w t i ls o) (h5 : Hp w [.row 9 1 lv ls.length (tvs ls)] wr) : LabRel w t lv on ix wr := ⟨i, ls, o, h1, h2, h3, ⟨h4⟩, h5⟩
end Go.Proofs.YtmmjghdobdendaaDoor

set_option linter.unusedSimpArgs false
set_option linter.unusedVariables false
set_option maxRecDepth 100000
namespace Go.Proofs.YtmmjghdobdendaaDoor
open Go.RowKit Go.Mem Go.Reg Oct Bit Go.Txt Go.Shelf Go.LawLift Go.Fold
def joinAt (ls : List (List UInt8)) (i : Nat) : List UInt8 := joinC 46 (ls.take i)
def JRel (w : World) (ls : List (List UInt8)) (v on ix : Value) (wr : World) : Prop :=
  ∃ i : Nat, i ≤ ls.length ∧ ix = .int .i64 i ∧ on = .string ⟨(joinAt ls i).toArray⟩ ∧ Hp w [.row 9 1 v ls.length (tvs ls)] wr
theorem JRel.mk {w wr : World} {ls : List (List UInt8)} {v on ix : Value} (i : Nat) (h1 : i ≤ ls.length) (h2 : ix = .int .i64 i) (h3 : on = .string ⟨(joinAt ls i).toArray⟩) (h4 : Hp w [.row 9 1 v ls.length (tvs ls)] wr) : JRel w ls v on ix wr := ⟨i, h1, h2, h3, h4⟩
end Go.Proofs.YtmmjghdobdendaaDoor

set_option linter.unusedSimpArgs false
set_option linter.unusedVariables false
set_option maxRecDepth 100000
namespace Go.Proofs.YtmmjghdobdendaaDoor
open Go.RowKit Go.Mem Go.Reg Oct Bit Go.Txt Go.Shelf Go.LawLift Go.Fold
/-- Under, by labels. -/
def underB (a b : List UInt8) : Bool :=
  match hostL a, hostL b with
  | some h, some d => (splitC 46 d).isSuffixOf (splitC 46 h)
  | _, _ => false
theorem suffix_dot {h d : List UInt8} (hs : (46 :: d) <:+ h) : splitC 46 d <:+ splitC 46 h := by
  obtain ⟨p, rfl⟩ := hs
  rw [splitC_app]
  exact ⟨_, rfl⟩
theorem suffix_join {h d : List UInt8} (hs : splitC 46 d <:+ splitC 46 h) : h = d ∨ (46 :: d) <:+ h := by
  obtain ⟨p, e⟩ := hs
  have h1 := join_split 46 h
  have h2 := join_split 46 d
  rw [← e] at h1
  by_cases hp : p = []
  · subst hp
    rw [List.nil_append, h2] at h1
    exact .inl h1.symm
  · rw [join_app 46 p _ hp (splitC_ne 46 d), h2] at h1
    exact .inr ⟨_, h1⟩
theorem under_eq (a b : List UInt8) : underP a b = underB a b := by
  unfold underP underB
  cases hostL a with
  | none => rfl
  | some h =>
    cases hostL b with
    | none => rfl
    | some d =>
      show ((h == d) || Lib.hasSuffix h (46 :: d)) = (splitC 46 d).isSuffixOf (splitC 46 h)
      rw [Bool.eq_iff_iff, Bool.or_eq_true, beq_iff_eq, List.isSuffixOf_iff_suffix]
      unfold Lib.hasSuffix
      rw [List.isSuffixOf_iff_suffix]
      constructor
      · rintro (rfl | h1)
        · exact List.suffix_rfl
        · exact suffix_dot h1
      · exact suffix_join
/-- The document's way: label by label from the end. -/
theorem suffix_at {α : Type} [DecidableEq α] {d h : List α} (hl : d.length ≤ h.length) : d <:+ h ↔ ∀ i, 1 ≤ i → i ≤ d.length → d[d.length - i]? = h[h.length - i]? := by
  constructor
  · rintro ⟨p, rfl⟩ i h1 h2
    rw [List.length_append, List.getElem?_append_right (by omega)]
    congr 1
    omega
  · intro hi
    refine ⟨h.take (h.length - d.length), ?_⟩
    conv => rhs; rw [← List.take_append_drop (h.length - d.length) h]
    congr 1
    apply List.ext_getElem?
    intro k
    rw [List.getElem?_drop]
    by_cases hk : k < d.length
    · have := hi (d.length - k) (by omega) (by omega)
      rw [show d.length - (d.length - k) = k by omega, show h.length - (d.length - k) = h.length - d.length + k by omega] at this
      exact this
    · rw [List.getElem?_eq_none (by omega), List.getElem?_eq_none (by omega)]
def SufTo (d h : List (List UInt8)) (i : Nat) : Prop := ∀ j, 1 ≤ j → j < i → d[d.length - j]? = h[h.length - j]?
theorem SufTo.no {d h : List (List UInt8)} {i : Nat} (h1 : 1 ≤ i) (h2 : i ≤ d.length) (hl : d.length ≤ h.length) (hne : d[d.length - i]? ≠ h[h.length - i]?) : d.isSuffixOf h = false := by
  cases hb : d.isSuffixOf h with
  | false => rfl
  | true => exact absurd ((suffix_at hl).1 (List.isSuffixOf_iff_suffix.1 hb) i h1 h2) hne
def SRel (w : World) (d h : List (List UInt8)) (v2 v1 ix : Value) (wr : World) : Prop :=
  ∃ i : Nat, 1 ≤ i ∧ i ≤ d.length + 1 ∧ ix = .int .i64 i ∧ Kp (SufTo d h i) ∧ Hp w [.row 9 1 v2 d.length (tvs d), .row 9 1 v1 h.length (tvs h)] wr
theorem SRel.mk {w wr : World} {d h : List (List UInt8)} {v2 v1 ix : Value} (i : Nat) (h0 : 1 ≤ i) (h1 : i ≤ d.length + 1) (h2 : ix = .int .i64 i) (h3 : SufTo d h i) (h4 : Hp w [.row 9 1 v2 d.length (tvs d), .row 9 1 v1 h.length (tvs h)] wr) : SRel w d h v2 v1 ix wr := ⟨i, h0, h1, h2, ⟨h3⟩, h4⟩
theorem funderB_any (a b : List UInt8) (ha : a.length ≤ 100000) (hb : b.length ≤ 100000) (w : World) :
    Calls Tryd.prog 24 #[.string ⟨a.toArray⟩, .string ⟨b.toArray⟩] w fun e w' => e = .returned (.bool (underB a b)) ∧ Below w.heap.size w w' := by
  rw [← under_eq]
  exact funder_any a b ha hb w
end Go.Proofs.YtmmjghdobdendaaDoor

