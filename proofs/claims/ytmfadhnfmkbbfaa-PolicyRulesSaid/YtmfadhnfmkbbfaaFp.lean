/- Lemmas and walks on the way to the seat's laws; each theorem says its own conditions. -/
import Derived.Test.YtmfadhnfmkbbfaaF4
namespace Go.Proofs.Ytmfadhnfmkbbfaa
theorem endB_false (x : Int) : Sp.endB x = false ↔ x ≠ -9223372036854775808 ∧ x ≠ 9223372036854775807 := by
  unfold Sp.endB
  simp
theorem endB_not (x : Int) : (!Sp.endB x) = true ↔ x ≠ -9223372036854775808 ∧ x ≠ 9223372036854775807 := by
  rw [Bool.not_eq_true', endB_false]
def GoodN (a f age q : Int) : Prop := (age = 0 → q = 9223372036854775807) ∧ (0 < age → Sp.sadd f age ≠ -9223372036854775808 ∧ Sp.sadd f age ≠ 9223372036854775807 ∧ Sp.sadd (Sp.sadd f age) a ≠ -9223372036854775808 ∧ Sp.sadd (Sp.sadd f age) a ≠ 9223372036854775807 ∧ q = Sp.sadd (Sp.sadd f age) a)
def GoodS (t a f age q : Int) : Prop := f ≤ t ∧ Sp.sadd t a ≠ -9223372036854775808 ∧ Sp.sadd t a ≠ 9223372036854775807 ∧ (age = 0 → q = Sp.sadd t a) ∧ (0 < age → Sp.sadd f age ≠ -9223372036854775808 ∧ Sp.sadd f age ≠ 9223372036854775807 ∧ Sp.sadd (Sp.sadd f age) a ≠ -9223372036854775808 ∧ Sp.sadd (Sp.sadd f age) a ≠ 9223372036854775807 ∧ q = if Sp.sadd (Sp.sadd f age) a < Sp.sadd t a then Sp.sadd (Sp.sadd f age) a else Sp.sadd t a)
def Good (a f : Int) (te : Option Int) (age p q : Int) : Prop := 0 ≤ a ∧ 0 ≤ age ∧ p = Sp.ssub f a ∧ p ≠ -9223372036854775808 ∧ p ≠ 9223372036854775807 ∧
  match te with
  | none => GoodN a f age q
  | some t => GoodS t a f age q
theorem frP_good {a b c : Int} {y : Bool} {f : Int} {te : Option Int} {age p q : Int} (h : frP a b c y f te age = (p, q)) : (p = 1 ∧ q = 0) ∨ Good a f te age p q := by
  unfold frP at h
  split at h
  · injection h with h1 h2
    exact .inl ⟨h1.symm, h2.symm⟩
  · rename_i h0
    split at h
    · split at h
      · injection h with h1 h2
        exact .inl ⟨h1.symm, h2.symm⟩
      · split at h
        · split at h
          · rename_i he
            rw [endB_not] at he
            injection h with h1 h2
            exact .inr ⟨by omega, by omega, h1.symm, by omega, by omega, fun _ => h2.symm, fun _ => by omega⟩
          · injection h with h1 h2
            exact .inl ⟨h1.symm, h2.symm⟩
        · split at h
          · rename_i he
            simp only [Bool.and_eq_true, endB_not] at he
            injection h with h1 h2
            exact .inr ⟨by omega, by omega, h1.symm, by omega, by omega, fun _ => by omega, fun _ => ⟨he.1.2.1, he.1.2.2, he.2.1, he.2.2, h2.symm⟩⟩
          · injection h with h1 h2
            exact .inl ⟨h1.symm, h2.symm⟩
    · split at h
      · injection h with h1 h2
        exact .inl ⟨h1.symm, h2.symm⟩
      · split at h
        · split at h
          · rename_i he
            simp only [Bool.and_eq_true, endB_not] at he
            injection h with h1 h2
            exact .inr ⟨by omega, by omega, h1.symm, by omega, by omega, by omega, he.2.1, he.2.2, fun _ => h2.symm, fun _ => by omega⟩
          · injection h with h1 h2
            exact .inl ⟨h1.symm, h2.symm⟩
        · split at h
          · rename_i he
            simp only [Bool.and_eq_true, endB_not] at he
            injection h with h1 h2
            exact .inr ⟨by omega, by omega, h1.symm, by omega, by omega, by omega, he.1.1.2.1, he.1.1.2.2, fun _ => by omega, fun _ => ⟨he.1.2.1, he.1.2.2, he.2.1, he.2.2, h2.symm⟩⟩
          · injection h with h1 h2
            exact .inl ⟨h1.symm, h2.symm⟩
theorem sadd_mono {x x' y y' : Int} (h : x ≤ x') (k : y ≤ y') : Sp.sadd x y ≤ Sp.sadd x' y' := by
  unfold Sp.sadd
  (repeat' split) <;> omega
theorem ssub_anti {x y y' : Int} (k : y ≤ y') : Sp.ssub x y' ≤ Sp.ssub x y := by
  unfold Sp.ssub
  (repeat' split) <;> omega
theorem ssub_le {x y : Int} (h : Sp.ok x) (k : 0 ≤ y) : Sp.ssub x y ≤ x := by
  obtain ⟨h1, h2⟩ := h
  unfold Sp.ssub
  (repeat' split) <;> omega
theorem le_sadd {x y : Int} (h : Sp.ok x) (k : 0 ≤ y) : x ≤ Sp.sadd x y := by
  obtain ⟨h1, h2⟩ := h
  unfold Sp.sadd
  (repeat' split) <;> omega
theorem good_le {a f : Int} {te : Option Int} {age p q : Int} (hf : Sp.ok f) (ht : ∀ t, te = some t → Sp.ok t) (h : Good a f te age p q) : p ≤ q := by
  obtain ⟨h1, h2, h3, h4, h5, h6⟩ := h
  have e0 := ssub_le hf h1
  have e1 := le_sadd hf h2
  have e2 := le_sadd (sadd_ok f age) h1
  have o := hf.2
  cases te with
  | none =>
    obtain ⟨g1, g2⟩ := h6
    by_cases e : age = 0
    · have := g1 e; omega
    · obtain ⟨k1, k2, k3, k4, k5⟩ := g2 (by omega)
      omega
  | some t =>
    obtain ⟨g0, g3, g4, g1, g2⟩ := h6
    have e3 := le_sadd (ht t rfl) h1
    by_cases e : age = 0
    · have := g1 e
      omega
    · obtain ⟨k1, k2, k3, k4, k5⟩ := g2 (by omega)
      split at k5 <;> omega
theorem good_more {a f : Int} {te : Option Int} {age p q m A : Int} {p' q' : Int} (ha : Sp.ok a) (hm : 0 ≤ m) (hA : Sp.sadd a m = A) (h : Good a f te age p q) (h' : Good A f te age p' q') : p' ≤ p ∧ q ≤ q' := by
  obtain ⟨h1, h2, h3, h4, h5, h6⟩ := h
  obtain ⟨i1, i2, i3, i4, i5, i6⟩ := h'
  have hle : a ≤ A := by rw [← hA]; exact le_sadd ha hm
  have e0 := ssub_anti (x := f) hle
  have e1 := sadd_mono (Int.le_refl (Sp.sadd f age)) hle
  refine ⟨by omega, ?_⟩
  cases te with
  | none =>
    obtain ⟨g1, g2⟩ := h6
    obtain ⟨j1, j2⟩ := i6
    by_cases e : age = 0
    · have := g1 e
      have := j1 e
      omega
    · obtain ⟨k1, k2, k3, k4, k5⟩ := g2 (by omega)
      obtain ⟨l1, l2, l3, l4, l5⟩ := j2 (by omega)
      omega
  | some t =>
    obtain ⟨g0, g3, g4, g1, g2⟩ := h6
    obtain ⟨j0, j3, j4, j1, j2⟩ := i6
    have e2 := sadd_mono (Int.le_refl t) hle
    by_cases e : age = 0
    · have := g1 e
      have := j1 e
      omega
    · obtain ⟨k1, k2, k3, k4, k5⟩ := g2 (by omega)
      obtain ⟨l1, l2, l3, l4, l5⟩ := j2 (by omega)
      clear g1 g2 j1 j2 g3 g4 j3 j4 k1 k2 k3 k4 l1 l2 l3 l4 h4 h5 i4 i5
      split at k5 <;> split at l5 <;> omega
theorem good_older {a f : Int} {te : Option Int} {age p q m B : Int} {p' q' : Int} (hg : Sp.ok age) (hm : 0 ≤ m) (h0 : age ≠ 0) (hB : Sp.sadd age m = B) (h : Good a f te age p q) (h' : Good a f te B p' q') : p' ≤ p ∧ q ≤ q' := by
  obtain ⟨h1, h2, h3, h4, h5, h6⟩ := h
  obtain ⟨i1, i2, i3, i4, i5, i6⟩ := h'
  have hB' : age ≤ B := by rw [← hB]; exact le_sadd hg hm
  have p1 : 0 < age := by omega
  have p2 : 0 < B := by omega
  have e1 := sadd_mono (Int.le_refl f) hB'
  have e2 := sadd_mono e1 (Int.le_refl a)
  refine ⟨by omega, ?_⟩
  cases te with
  | none =>
    obtain ⟨g1, g2⟩ := h6
    obtain ⟨j1, j2⟩ := i6
    obtain ⟨k1, k2, k3, k4, k5⟩ := g2 p1
    obtain ⟨l1, l2, l3, l4, l5⟩ := j2 p2
    omega
  | some t =>
    obtain ⟨g0, g3, g4, g1, g2⟩ := h6
    obtain ⟨j0, j3, j4, j1, j2⟩ := i6
    obtain ⟨k1, k2, k3, k4, k5⟩ := g2 p1
    obtain ⟨l1, l2, l3, l4, l5⟩ := j2 p2
    clear g1 g2 j1 j2 g3 g4 j3 j4 k1 k2 k3 k4 l1 l2 l3 l4 h4 h5 i4 i5
    split at k5 <;> split at l5 <;> omega
theorem fr_law {a b c : Int} {y : Bool} {f : Int} {te : Option Int} {age m A B s1 s2 t1 t2 u1 u2 : Int} (hf : Sp.ok f) (ha : Sp.ok a) (hg : Sp.ok age) (ht : ∀ t, te = some t → Sp.ok t) (hm : 0 ≤ m) (hA : Sp.sadd a m = A) (hB : Sp.sadd age m = B)
    (hS : frP a b c y f te age = (s1, s2)) (hT : frP A b c y f te age = (t1, t2)) (hU : frP a b c y f te B = (u1, u2)) :
    (s1 = 1 ∧ s2 = 0) ∨ (s1 ≤ s2 ∧ s1 = Sp.ssub f a ∧ Sp.endB s1 = false ∧ (t2 < t1 ∨ (t1 ≤ s1 ∧ s2 ≤ t2)) ∧ (age ≠ 0 → u2 < u1 ∨ (u1 ≤ s1 ∧ s2 ≤ u2)) ∧ ∀ t, te = some t → s2 ≤ Sp.sadd t a) := by
  rcases frP_good hS with h | g
  · exact .inl h
  · right
    refine ⟨good_le hf ht g, g.2.2.1, (endB_false _).2 ⟨g.2.2.2.1, g.2.2.2.2.1⟩, ?_, fun h0 => ?_, fun t hte => ?_⟩
    · rcases frP_good hT with h | g'
      · left; omega
      · right; exact good_more ha hm hA g g'
    · rcases frP_good hU with h | g'
      · left; omega
      · right; exact good_older hg hm h0 hB g g'
    · subst hte
      obtain ⟨g0, g3, g4, g1, g2⟩ := g.2.2.2.2.2
      have := g.2.1
      by_cases e : age = 0
      · have := g1 e; omega
      · obtain ⟨_, _, _, _, k5⟩ := g2 (by omega)
        split at k5 <;> omega
end Go.Proofs.Ytmfadhnfmkbbfaa
