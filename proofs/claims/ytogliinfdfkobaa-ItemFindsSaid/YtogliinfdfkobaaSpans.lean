
set_option linter.unusedSimpArgs false
set_option linter.unusedVariables false
/- Spans of seconds in plain words: in order, joined, what is in any of them. No condition on a program. -/
namespace Go.Mem
def In64 (z : Int) : Prop := -9223372036854775808 ≤ z ∧ z ≤ 9223372036854775807
def emp (s : Int × Int) : Bool := decide (s.2 < s.1)
def fulls (l : List (Int × Int)) : List (Int × Int) := l.filter fun s => !emp s
def inS (s : Int × Int) (t : Int) : Bool := decide (s.1 ≤ t) && decide (t ≤ s.2)
def anyS (l : List (Int × Int)) (t : Int) : Bool := l.any fun s => inS s t
def touchS (a b : Int × Int) : Bool := a.2 == 9223372036854775807 || decide (b.1 ≤ a.2 + 1)
def lastOf (out : List (Int × Int)) : Int × Int := out.getLastD (0, 0)
def joinS (out : List (Int × Int)) (s : Int × Int) : List (Int × Int) :=
  if out.isEmpty then [s] else if touchS (lastOf out) s then out.set (out.length - 1) ((lastOf out).1, max (lastOf out).2 s.2) else out ++ [s]
def mergeS (m : List (Int × Int)) : List (Int × Int) := m.foldl joinS []
/-- Whole spans of 64 bits. -/
def OkS (s : Int × Int) : Prop := In64 s.1 ∧ In64 s.2 ∧ s.1 ≤ s.2
def In2 (s : Int × Int) : Prop := In64 s.1 ∧ In64 s.2
structure OrdS (l : List (Int × Int)) : Prop where
  ok : ∀ s ∈ l, OkS s
  gap : l.Pairwise fun a b => a.2 + 1 < b.1
theorem inS_iff (s : Int × Int) (t : Int) : inS s t = true ↔ s.1 ≤ t ∧ t ≤ s.2 := by simp [inS]
theorem anyS_nil (t : Int) : anyS [] t = false := rfl
theorem anyS_cons (s : Int × Int) (l : List (Int × Int)) (t : Int) : anyS (s :: l) t = (inS s t || anyS l t) := rfl
theorem anyS_app (a b : List (Int × Int)) (t : Int) : anyS (a ++ b) t = (anyS a t || anyS b t) := by unfold anyS; exact List.any_append
theorem anyS_perm {a b : List (Int × Int)} (h : a.Perm b) (t : Int) : anyS a t = anyS b t := by
  unfold anyS
  rw [Bool.eq_iff_iff, List.any_eq_true, List.any_eq_true]
  exact ⟨fun ⟨x, hx, hy⟩ => ⟨x, h.mem_iff.1 hx, hy⟩, fun ⟨x, hx, hy⟩ => ⟨x, h.mem_iff.2 hx, hy⟩⟩
theorem anyS_fulls (l : List (Int × Int)) (t : Int) : anyS (fulls l) t = anyS l t := by
  induction l with
  | nil => rfl
  | cons s r ih =>
    unfold fulls at *
    rw [List.filter_cons]
    by_cases h : s.2 < s.1
    · rw [if_neg (by simp [emp, h]), ih, anyS_cons]
      have : inS s t = false := by
        rw [Bool.eq_false_iff, Ne, inS_iff]
        omega
      rw [this, Bool.false_or]
    · rw [if_pos (by simp [emp]; omega), anyS_cons, anyS_cons, ih]
theorem joinS_nil (s : Int × Int) : joinS [] s = [s] := rfl
theorem joinS_snoc (o : List (Int × Int)) (p s : Int × Int) : joinS (o ++ [p]) s = if touchS p s then o ++ [(p.1, max p.2 s.2)] else o ++ [p] ++ [s] := by
  unfold joinS lastOf
  rw [if_neg (by simp)]
  simp only [List.getLastD_concat, List.length_append, List.length_cons, List.length_nil, Nat.add_sub_cancel]
  split
  · rw [List.set_append_right _ _ (by omega), Nat.sub_self]
    rfl
  · rfl
/-- What holds on the way: out is what the looked-at ones join to, none of it begins behind one that is to come. -/
structure Way (p out r : List (Int × Int)) : Prop where
  ord : OrdS out
  any : ∀ t, In64 t → anyS out t = anyS p t
  low : ∀ a ∈ out, ∀ s ∈ r, a.1 ≤ s.1
  len : out.length ≤ p.length
theorem snoc_cases {α : Type} (l : List α) : l = [] ∨ ∃ o p, l = o ++ [p] := by
  rcases List.eq_nil_or_concat l with h | ⟨o, p, h⟩
  · exact .inl h
  · exact .inr ⟨o, p, by rw [h, List.concat_eq_append]⟩
theorem Way.step {p out r : List (Int × Int)} {s : Int × Int} (h : Way p out (s :: r)) (hs : OkS s) (hr : ∀ x ∈ r, s.1 ≤ x.1) : Way (p ++ [s]) (joinS out s) r := by
  rcases snoc_cases out with rfl | ⟨o, q, rfl⟩
  · refine ⟨⟨fun x hx => ?_, List.pairwise_singleton _ _⟩, fun t ht => ?_, fun a ha x hx => ?_, ?_⟩
    · rw [joinS_nil] at hx
      obtain rfl := List.mem_singleton.1 hx
      exact hs
    · rw [anyS_app, ← h.any t ht]
      simp [joinS_nil, anyS_nil]
    · rw [joinS_nil] at ha
      obtain rfl := List.mem_singleton.1 ha
      exact hr x hx
    · simp [joinS_nil]
  · have hq := h.ord.ok q (by simp)
    have hqs := h.low q (by simp) s (by simp)
    obtain ⟨⟨q1, q2⟩, ⟨q3, q4⟩, q5⟩ := hq
    obtain ⟨⟨s1, s2⟩, ⟨s3, s4⟩, s5⟩ := hs
    have hg := List.pairwise_append.1 h.ord.gap
    rw [joinS_snoc]
    by_cases ht : touchS q s = true
    · rw [if_pos ht]
      have ht' : q.2 = 9223372036854775807 ∨ s.1 ≤ q.2 + 1 := by simpa [touchS] using ht
      refine ⟨⟨fun x hx => ?_, ?_⟩, fun t ht => ?_, fun a ha x hx => ?_, ?_⟩
      · rcases List.mem_append.1 hx with hx | hx
        · exact h.ord.ok x (by simp [hx])
        · obtain rfl := List.mem_singleton.1 hx
          refine ⟨⟨q1, q2⟩, ⟨?_, ?_⟩, ?_⟩ <;> simp only <;> omega
      · refine List.pairwise_append.2 ⟨hg.1, List.pairwise_singleton _ _, fun a ha b hb => ?_⟩
        obtain rfl := List.mem_singleton.1 hb
        exact hg.2.2 a ha q (by simp)
      · obtain ⟨t1, t2⟩ := ht
        rw [anyS_app, anyS_app (a := p), ← h.any t ⟨t1, t2⟩, anyS_app, Bool.or_assoc]
        congr 1
        simp only [anyS_cons, anyS_nil, Bool.or_false]
        rw [Bool.eq_iff_iff, Bool.or_eq_true, inS_iff, inS_iff, inS_iff]
        simp only
        omega
      · rcases List.mem_append.1 ha with ha | ha
        · exact h.low a (by simp [ha]) x (by simp [hx])
        · obtain rfl := List.mem_singleton.1 ha
          exact h.low q (by simp) x (by simp [hx])
      · have := h.len
        simp at *
        omega
    · rw [if_neg ht]
      have ht' : ¬(q.2 = 9223372036854775807 ∨ s.1 ≤ q.2 + 1) := by simpa [touchS] using ht
      refine ⟨⟨fun x hx => ?_, ?_⟩, fun t ht => ?_, fun a ha x hx => ?_, ?_⟩
      · rcases List.mem_append.1 hx with hx | hx
        · exact h.ord.ok x hx
        · obtain rfl := List.mem_singleton.1 hx
          exact ⟨⟨s1, s2⟩, ⟨s3, s4⟩, s5⟩
      · refine List.pairwise_append.2 ⟨h.ord.gap, List.pairwise_singleton _ _, fun a ha b hb => ?_⟩
        obtain rfl := List.mem_singleton.1 hb
        rcases List.mem_append.1 ha with ha | ha
        · have := hg.2.2 a ha q (by simp)
          omega
        · obtain rfl := List.mem_singleton.1 ha
          omega
      · rw [anyS_app, anyS_app (a := p), h.any t ht]
      · rcases List.mem_append.1 ha with ha | ha
        · exact h.low a ha x (by simp [hx])
        · obtain rfl := List.mem_singleton.1 ha
          exact hr x hx
      · have := h.len
        simp at *
        omega
theorem way_all : ∀ (r p out : List (Int × Int)), Way p out r → (∀ s ∈ r, OkS s) → r.Pairwise (fun a b => a.1 ≤ b.1) → Way (p ++ r) (r.foldl joinS out) []
  | [], p, out, h, _, _ => by rw [List.append_nil]; exact h
  | s :: r, p, out, h, hok, hp => by
    rw [List.foldl_cons, show p ++ s :: r = (p ++ [s]) ++ r by simp]
    have hp := List.pairwise_cons.1 hp
    exact way_all r (p ++ [s]) (joinS out s) (h.step (hok s (by simp)) hp.1) (fun x hx => hok x (by simp [hx])) hp.2
/-- What putting spans in order leaves. -/
def NormS (l n : List (Int × Int)) : Prop := ∃ m, m.Perm (fulls l) ∧ m.Pairwise (fun a b => a.1 ≤ b.1) ∧ n = mergeS m
theorem normS_ok {l n : List (Int × Int)} (hl : ∀ s ∈ l, In2 s) (h : NormS l n) : OrdS n ∧ (∀ t, In64 t → anyS n t = anyS l t) ∧ n.length ≤ l.length := by
  obtain ⟨m, hm, hs, rfl⟩ := h
  have hok : ∀ s ∈ m, OkS s := by
    intro s hsm
    have := hm.mem_iff.1 hsm
    unfold fulls at this
    rw [List.mem_filter] at this
    have h2 := hl s this.1
    have h3 : ¬s.2 < s.1 := by simpa [emp] using this.2
    exact ⟨h2.1, h2.2, by omega⟩
  have hw := way_all m [] [] ⟨⟨fun _ h => (List.not_mem_nil h).elim, List.Pairwise.nil⟩, fun _ _ => rfl, fun _ h => (List.not_mem_nil h).elim, Nat.le_refl _⟩ hok hs
  rw [List.nil_append] at hw
  refine ⟨hw.ord, fun t ht => by rw [← anyS_fulls l, ← anyS_perm hm]; exact hw.any t ht, ?_⟩
  have h1 : (mergeS m).length ≤ m.length := hw.len
  have h2 := hm.length_eq
  have h3 : (fulls l).length ≤ l.length := List.length_filter_le _ _
  omega
/-- What is left of one when another is taken away. -/
def pieceS (s x : Int × Int) : List (Int × Int) :=
  if emp s || (decide (s.2 < x.1) || decide (x.2 < s.1)) then [x]
  else (if x.1 < s.1 then [(x.1, s.1 - 1)] else []) ++ (if s.2 < x.2 then [(s.2 + 1, x.2)] else [])
def lessS (s : Int × Int) (n : List (Int × Int)) : List (Int × Int) := n.flatMap (pieceS s)
#print axioms normS_ok
end Go.Mem

