
set_option linter.unusedSimpArgs false
set_option linter.unusedVariables false
/- Spans of seconds in plain words: in order, joined, what is in any of them. No condition on a program. -/
namespace Go.Mem
def In64 (z : Int) : Prop := -9223372036854775808 ≤ z ∧ z ≤ 9223372036854775807
def emp (s : Int × Int) : Bool := decide (s.2 < s.1)
def fulls (l : List (Int × Int)) : List (Int × Int) := l.filter fun s => !emp s
def inS (s : Int × Int) (t : Int) : Bool := decide (s.1 ≤ t) && decide (t ≤ s.2)
def anyS (l : List (Int × Int)) (t : Int) : Bool := l.any fun s => inS s t
def touchS (a b : Int × Int) : Bool := a.2 == 9223372036854775807 || decide (b.1 ≤ a.2 + 1)
def lastOf (out : List (Int × Int)) : Int × Int := out.getLastD (0, 0)
def joinS (out : List (Int × Int)) (s : Int × Int) : List (Int × Int) :=
  if out.isEmpty then [s] else if touchS (lastOf out) s then out.set (out.length - 1) ((lastOf out).1, max (lastOf out).2 s.2) else out ++ [s]
def mergeS (m : List (Int × Int)) : List (Int × Int) := m.foldl joinS []
/-- Whole spans of 64 bits. -/
def OkS (s : Int × Int) : Prop := In64 s.1 ∧ In64 s.2 ∧ s.1 ≤ s.2
def In2 (s : Int × Int) : Prop := In64 s.1 ∧ In64 s.2
structure OrdS (l : List (Int × Int)) : Prop where
  ok : ∀ s ∈ l, OkS s
  gap : l.Pairwise fun a b => a.2 + 1 < b.1
theorem inS_iff (s : Int × Int) (t : Int) : inS s t = true ↔ s.1 ≤ t ∧ t ≤ s.2 := by simp [inS]
theorem anyS_nil (t : Int) : anyS [] t = false := rfl
theorem anyS_cons (s : Int × Int) (l : List (Int × Int)) (t : Int) : anyS (s :: l) t = (inS s t || anyS l t) := rfl
theorem anyS_app (a b : List (Int × Int)) (t : Int) : anyS (a ++ b) t = (anyS a t || anyS b t) := by unfold anyS; exact List.any_append
theorem anyS_perm {a b : List (Int × Int)} (h : a.Perm b) (t : Int) : anyS a t = anyS b t := by
  unfold anyS
  rw [Bool.eq_iff_iff, List.any_eq_true, List.any_eq_true]
  exact ⟨fun ⟨x, hx, hy⟩ => ⟨x, h.mem_iff.1 hx, hy⟩, fun ⟨x, hx, hy⟩ => ⟨x, h.mem_iff.2 hx, hy⟩⟩
theorem anyS_fulls (l : List (Int × Int)) (t : Int) : anyS (fulls l) t = anyS l t := by
  induction l with
  | nil => rfl
  | cons s r ih =>
    unfold fulls at *
    rw [List.filter_cons]
    by_cases h : s.2 < s.1
    · rw [if_neg (by simp [emp, h]), ih, anyS_cons]
      have : inS s t = false := by
        rw [Bool.eq_false_iff, Ne, inS_iff]
        omega
      rw [this, Bool.false_or]
    · rw [if_pos (by simp [emp]; omega), anyS_cons, anyS_cons, ih]
theorem joinS_nil (s : Int × Int) : joinS [] s = [s] := rfl
theorem joinS_snoc (o : List (Int × Int)) (p s : Int × Int) : joinS (o ++ [p]) s = if touchS p s then o ++ [(p.1, max p.2 s.2)] else o ++ [p] ++ [s] := by
  unfold joinS lastOf
  rw [if_neg (by simp)]
  simp only [List.getLastD_concat, List.length_append, List.length_cons, List.length_nil, Nat.add_sub_cancel]
  split
  · rw [List.set_append_right _ _ (by omega), Nat.sub_self]
    rfl
  · rfl
/-- What holds on the way: out is what the looked-at ones join to, none of it begins behind one that is to come. -/
structure Way (p out r : List (Int × Int)) : Prop where
  ord : OrdS out
  any : ∀ t, In64 t → anyS out t = anyS p t
  low : ∀ a ∈ out, ∀ s ∈ r, a.1 ≤ s.1
  len : out.length ≤ p.length
theorem snoc_cases {α : Type} (l : List α) : l = [] ∨ ∃ o p, l = o ++ [p] := by
  rcases List.eq_nil_or_concat l with h | ⟨o, p, h⟩
  · exact .inl h
  · exact .inr ⟨o, p, by rw [h, List.concat_eq_append]⟩
theorem Way.step {p out r : List (Int × Int)} {s : Int × Int} (h : Way p out (s :: r)) (hs : OkS s) (hr : ∀ x ∈ r, s.1 ≤ x.1) : Way (p ++ [s]) (joinS out s) r := by
  rcases snoc_cases out with rfl | ⟨o, q, rfl⟩
  · refine ⟨⟨fun x hx => ?_, List.pairwise_singleton _ _⟩, fun t ht => ?_, fun a ha x hx => ?_, ?_⟩
    · rw [joinS_nil] at hx
      obtain rfl := List.mem_singleton.1 hx
      exact hs
    · rw [anyS_app, ← h.any t ht]
      simp [joinS_nil, anyS_nil]
    · rw [joinS_nil] at ha
      obtain rfl := List.mem_singleton.1 ha
      exact hr x hx
    · simp [joinS_nil]
  · have hq := h.ord.ok q (by simp)
    have hqs := h.low q (by simp) s (by simp)
    obtain ⟨⟨q1, q2⟩, ⟨q3, q4⟩, q5⟩ := hq
    obtain ⟨⟨s1, s2⟩, ⟨s3, s4⟩, s5⟩ := hs
    have hg := List.pairwise_append.1 h.ord.gap
    rw [joinS_snoc]
    by_cases ht : touchS q s = true
    · rw [if_pos ht]
      have ht' : q.2 = 9223372036854775807 ∨ s.1 ≤ q.2 + 1 := by simpa [touchS] using ht
      refine ⟨⟨fun x hx => ?_, ?_⟩, fun t ht => ?_, fun a ha x hx => ?_, ?_⟩
      · rcases List.mem_append.1 hx with hx | hx
        · exact h.ord.ok x (by simp [hx])
        · obtain rfl := List.mem_singleton.1 hx
          refine ⟨⟨q1, q2⟩, ⟨?_, ?_⟩, ?_⟩ <;> simp only <;> omega
      · refine List.pairwise_append.2 ⟨hg.1, List.pairwise_singleton _ _, fun a ha b hb => ?_⟩
        obtain rfl := List.mem_singleton.1 hb
        exact hg.2.2 a ha q (by simp)
      · obtain ⟨t1, t2⟩ := ht
        rw [anyS_app, anyS_app (a := p), ← h.any t ⟨t1, t2⟩, anyS_app, Bool.or_assoc]
        congr 1
        simp only [anyS_cons, anyS_nil, Bool.or_false]
        rw [Bool.eq_iff_iff, Bool.or_eq_true, inS_iff, inS_iff, inS_iff]
        simp only
        omega
      · rcases List.mem_append.1 ha with ha | ha
        · exact h.low a (by simp [ha]) x (by simp [hx])
        · obtain rfl := List.mem_singleton.1 ha
          exact h.low q (by simp) x (by simp [hx])
      · have := h.len
        simp at *
        omega
    · rw [if_neg ht]
      have ht' : ¬(q.2 = 9223372036854775807 ∨ s.1 ≤ q.2 + 1) := by simpa [touchS] using ht
      refine ⟨⟨fun x hx => ?_, ?_⟩, fun t ht => ?_, fun a ha x hx => ?_, ?_⟩
      · rcases List.mem_append.1 hx with hx | hx
        · exact h.ord.ok x hx
        · obtain rfl := List.mem_singleton.1 hx
          exact ⟨⟨s1, s2⟩, ⟨s3, s4⟩, s5⟩
      · refine List.pairwise_append.2 ⟨h.ord.gap, List.pairwise_singleton _ _, fun a ha b hb => ?_⟩
        obtain rfl := List.mem_singleton.1 hb
        rcases List.mem_append.1 ha with ha | ha
        · have := hg.2.2 a ha q (by simp)
          omega
        · obtain rfl := List.mem_singleton.1 ha
          omega
      · rw [anyS_app, anyS_app (a := p), h.any t ht]
      · rcases List.mem_append.1 ha with ha | ha
        · exact h.low a ha x (by simp [hx])
        · obtain rfl := List.mem_singleton.1 ha
          exact hr x hx
      · have := h.len
        simp at *
        omega
theorem way_all : ∀ (r p out : List (Int × Int)), Way p out r → (∀ s ∈ r, OkS s) → r.Pairwise (fun a b => a.1 ≤ b.1) → Way (p ++ r) (r.foldl joinS out) []
  | [], p, out, h, _, _ => by rw [List.append_nil]; exact h
  | s :: r, p, out, h, hok, hp => by
    rw [List.foldl_cons, show p ++ s :: r = (p ++ [s]) ++ r by simp]
    have hp := List.pairwise_cons.1 hp
    exact way_all r (p ++ [s]) (joinS out s) (h.step (hok s (by simp)) hp.1) (fun x hx => hok x (by simp [hx])) hp.2
/-- What putting spans in order leaves. -/
def NormS (l n : List (Int × Int)) : Prop := ∃ m, m.Perm (fulls l) ∧ m.Pairwise (fun a b => a.1 ≤ b.1) ∧ n = mergeS m
theorem normS_ok {l n : List (Int × Int)} (hl : ∀ s ∈ l, In2 s) (h : NormS l n) : OrdS n ∧ (∀ t, In64 t → anyS n t = anyS l t) ∧ n.length ≤ l.length := by
  obtain ⟨m, hm, hs, rfl⟩ := h
  have hok : ∀ s ∈ m, OkS s := by
    intro s hsm
    have := hm.mem_iff.1 hsm
    unfold fulls at this
    rw [List.mem_filter] at this
    have h2 := hl s this.1
    have h3 : ¬s.2 < s.1 := by simpa [emp] using this.2
    exact ⟨h2.1, h2.2, by omega⟩
  have hw := way_all m [] [] ⟨⟨fun _ h => (List.not_mem_nil h).elim, List.Pairwise.nil⟩, fun _ _ => rfl, fun _ h => (List.not_mem_nil h).elim, Nat.le_refl _⟩ hok hs
  rw [List.nil_append] at hw
  refine ⟨hw.ord, fun t ht => by rw [← anyS_fulls l, ← anyS_perm hm]; exact hw.any t ht, ?_⟩
  have h1 : (mergeS m).length ≤ m.length := hw.len
  have h2 := hm.length_eq
  have h3 : (fulls l).length ≤ l.length := List.length_filter_le _ _
  omega
theorem ordS_fulls {n : List (Int × Int)} (h : OrdS n) : fulls n = n := by
  unfold fulls
  rw [List.filter_eq_self]
  intro s hs
  have := (h.ok s hs).2.2
  simp [emp]
  omega
theorem merge_ord : ∀ (r out : List (Int × Int)), OrdS (out ++ r) → r.foldl joinS out = out ++ r
  | [], out, _ => by simp
  | s :: r, out, h => by
    rw [List.foldl_cons]
    have e : joinS out s = out ++ [s] := by
      rcases snoc_cases out with rfl | ⟨o, q, rfl⟩
      · rfl
      · rw [joinS_snoc, if_neg]
        have hg := (List.pairwise_append.1 h.gap).2.2 q (by simp) s (by simp)
        have hs := (h.ok s (by simp)).1.2
        simp [touchS]
        omega
    rw [e, merge_ord r (out ++ [s]) (by simpa using h)]
    simp
theorem perm_sorted {m n : List (Int × Int)} (h : m.Perm n) (hm : m.Pairwise fun a b => a.1 ≤ b.1) (hn : n.Pairwise fun a b => a.1 < b.1) : m = n := by
  induction n generalizing m with
  | nil => exact h.eq_nil
  | cons x n ih =>
    cases m with
    | nil => exact absurd h.length_eq (by simp)
    | cons y m =>
      have hm' := List.pairwise_cons.1 hm
      have hn' := List.pairwise_cons.1 hn
      have e : y = x := by
        rcases List.mem_cons.1 (h.mem_iff.1 (List.mem_cons_self (a := y) (l := m))) with h1 | h1
        · exact h1
        · have a := hn'.1 y h1
          rcases List.mem_cons.1 (h.mem_iff.2 (List.mem_cons_self (a := x) (l := n))) with h2 | h2
          · exact h2.symm
          · have b := hm'.1 x h2
            omega
      subst e
      rw [ih (List.perm_cons _ |>.1 h) hm'.2 hn'.2]
theorem ordS_lt {n : List (Int × Int)} (h : OrdS n) : n.Pairwise fun a b => a.1 < b.1 := by
  have h1 := h.ok
  have h2 := h.gap
  clear h
  induction n with
  | nil => exact List.Pairwise.nil
  | cons x n ih =>
    have h2' := List.pairwise_cons.1 h2
    refine List.pairwise_cons.2 ⟨fun b hb => ?_, ih (fun s hs => h1 s (by simp [hs])) h2'.2⟩
    have := h2'.1 b hb
    have := (h1 x (by simp)).2.2
    omega
theorem normS_self {n m : List (Int × Int)} (h : OrdS n) (hn : NormS n m) : m = n := by
  obtain ⟨k, hk, hs, rfl⟩ := hn
  rw [ordS_fulls h] at hk
  rw [perm_sorted hk hs (ordS_lt h)]
  exact merge_ord n [] (by simpa using h)
theorem normS_at {l k n : List (Int × Int)} (hp : k.Perm (fulls l)) (hk : k.Pairwise fun a b => a.1 < b.1) (h : NormS l n) : n = mergeS k := by
  obtain ⟨m, hm, hs, rfl⟩ := h
  rw [perm_sorted (hm.trans hp.symm) hs hk]
/-- What is left of one when another is taken away. -/
def pieceS (s x : Int × Int) : List (Int × Int) :=
  if emp s || (decide (s.2 < x.1) || decide (x.2 < s.1)) then [x]
  else (if x.1 < s.1 then [(x.1, s.1 - 1)] else []) ++ (if s.2 < x.2 then [(s.2 + 1, x.2)] else [])
theorem piece_in {a b x y : Int} (h1 : a ≤ b) (h2 : x ≤ b) (h3 : a ≤ y) : pieceS (a, b) (x, y) = (if x < a then [(x, a - 1)] else []) ++ (if b < y then [(b + 1, y)] else []) := by
  unfold pieceS
  rw [if_neg]
  simp [emp]
  omega
theorem piece_out {a b x y : Int} (h : b < a ∨ b < x ∨ y < a) : pieceS (a, b) (x, y) = [(x, y)] := by
  unfold pieceS
  rw [if_pos]
  simp [emp]
  omega
theorem piece_any (s x : Int × Int) (t : Int) : anyS (pieceS s x) t = (inS x t && !inS s t) := by
  unfold pieceS
  by_cases h : emp s || (decide (s.2 < x.1) || decide (x.2 < s.1))
  · rw [if_pos h, anyS_cons, anyS_nil, Bool.or_false]
    simp [emp] at h
    rw [Bool.eq_iff_iff, Bool.and_eq_true, Bool.not_eq_true', ← Bool.not_eq_true, inS_iff, inS_iff]
    omega
  · rw [if_neg h, anyS_app]
    simp [emp] at h
    rw [Bool.eq_iff_iff, Bool.and_eq_true, Bool.not_eq_true', ← Bool.not_eq_true, inS_iff, inS_iff, Bool.or_eq_true]
    by_cases h1 : x.1 < s.1 <;> by_cases h2 : s.2 < x.2 <;> simp [h1, h2, anyS_cons, anyS_nil, inS_iff] <;> omega
theorem piece_ok {s x : Int × Int} (hs : In2 s) (hx : OkS x) : ∀ y ∈ pieceS s x, In2 y := by
  intro y hy
  obtain ⟨⟨s1, s2⟩, ⟨s3, s4⟩⟩ := hs
  obtain ⟨⟨x1, x2⟩, ⟨x3, x4⟩, x5⟩ := hx
  unfold pieceS at hy
  split at hy
  · obtain rfl := List.mem_singleton.1 hy
    exact ⟨⟨x1, x2⟩, ⟨x3, x4⟩⟩
  · rename_i h
    simp [emp] at h
    rcases List.mem_append.1 hy with hy | hy <;> split at hy
    · obtain rfl := List.mem_singleton.1 hy
      refine ⟨⟨x1, x2⟩, ?_, ?_⟩ <;> simp only <;> omega
    · simp at hy
    · obtain rfl := List.mem_singleton.1 hy
      refine ⟨⟨?_, ?_⟩, ⟨x3, x4⟩⟩ <;> simp only <;> omega
    · simp at hy
theorem piece_len (s x : Int × Int) : (pieceS s x).length ≤ 2 := by
  unfold pieceS
  split
  · simp
  · split <;> split <;> simp
def lessS (s : Int × Int) (n : List (Int × Int)) : List (Int × Int) := n.flatMap (pieceS s)
theorem less_snoc (s : Int × Int) (n : List (Int × Int)) (k : Nat) (h : k < n.length) : lessS s (n.take (k + 1)) = lessS s (n.take k) ++ pieceS s n[k] := by
  unfold lessS
  rw [List.take_add_one, List.getElem?_eq_getElem h, Option.toList_some, List.flatMap_append]
  simp
theorem less_any (s : Int × Int) (n : List (Int × Int)) (t : Int) : anyS (lessS s n) t = (anyS n t && !inS s t) := by
  unfold lessS
  induction n with
  | nil => rfl
  | cons x n ih => rw [List.flatMap_cons, anyS_app, ih, piece_any, anyS_cons, Bool.and_or_distrib_right]
theorem less_len (s : Int × Int) (n : List (Int × Int)) : (lessS s n).length ≤ 2 * n.length := by
  unfold lessS
  induction n with
  | nil => simp
  | cons x n ih =>
    rw [List.flatMap_cons, List.length_append, List.length_cons]
    have := piece_len s x
    omega
theorem less_in {s : Int × Int} {n : List (Int × Int)} (hs : In2 s) (hn : ∀ x ∈ n, OkS x) : ∀ y ∈ lessS s n, In2 y := by
  intro y hy
  obtain ⟨x, hx, hy⟩ := List.mem_flatMap.1 hy
  exact piece_ok hs (hn x hx) y hy
/-- The document's question whether a list is in order. -/
theorem ordS_at {l : List (Int × Int)} (h : OrdS l) (k : Nat) (hk : k < l.length) : l[k].1 ≤ l[k].2 ∧ In64 l[k].1 ∧ In64 l[k].2 ∧ ∀ (hp : 0 < k), l[k - 1].2 + 1 < l[k].1 := by
  have := h.ok _ (List.getElem_mem hk)
  exact ⟨this.2.2, this.1, this.2.1, fun hp => List.pairwise_iff_getElem.1 h.gap (k - 1) k (by omega) hk (by omega)⟩
/-- The example that the chapter gives. -/
theorem known_norm {n : List (Int × Int)} (h : NormS [(5, 9), (1, 3), (4, 4)] n) : n = [(1, 9)] := by
  have := normS_at (k := [(1, 3), (4, 4), (5, 9)]) (by decide) (by decide) h
  rw [this]
  decide
theorem known_less {n : List (Int × Int)} (h : NormS (lessS (3, 4) [(1, 9)]) n) : n = [(1, 2), (5, 9)] := by
  have := normS_at (k := [(1, 2), (5, 9)]) (by decide) (by decide) h
  rw [this]
  decide
theorem joinS_in2 {out : List (Int × Int)} {s : Int × Int} (ho : ∀ x ∈ out, In2 x) (hs : In2 s) : ∀ x ∈ joinS out s, In2 x := by
  intro x hx
  rcases snoc_cases out with rfl | ⟨o, p, rfl⟩
  · rw [joinS_nil] at hx
    obtain rfl := List.mem_singleton.1 hx
    exact hs
  · rw [joinS_snoc] at hx
    split at hx
    · rcases List.mem_append.1 hx with hx | hx
      · exact ho x (by simp [hx])
      · obtain rfl := List.mem_singleton.1 hx
        obtain ⟨p1, p2, p3⟩ := ho p (by simp)
        obtain ⟨s1, s2, s3⟩ := hs
        refine ⟨p1, ?_, ?_⟩ <;> simp only <;> omega
    · rcases List.mem_append.1 hx with hx | hx
      · exact ho x hx
      · obtain rfl := List.mem_singleton.1 hx
        exact hs
theorem joinS_len (out : List (Int × Int)) (s : Int × Int) : (joinS out s).length ≤ out.length + 1 := by
  rcases snoc_cases out with rfl | ⟨o, p, rfl⟩
  · simp [joinS_nil]
  · rw [joinS_snoc]
    split <;> simp
theorem fold_snoc (l : List (Int × Int)) (k : Nat) (h : k < l.length) : (l.take (k + 1)).foldl joinS [] = joinS ((l.take k).foldl joinS []) l[k] := by
  rw [List.take_add_one, List.getElem?_eq_getElem h, Option.toList_some, List.foldl_append, List.foldl_cons, List.foldl_nil]
theorem fold_in2 {l : List (Int × Int)} (hl : ∀ x ∈ l, In2 x) (k : Nat) (hk : k ≤ l.length) : (∀ x ∈ (l.take k).foldl joinS [], In2 x) ∧ ((l.take k).foldl joinS []).length ≤ k := by
  induction k with
  | zero => simp
  | succ k ih =>
    have ih := ih (by omega)
    rw [fold_snoc l k (by omega)]
    refine ⟨joinS_in2 ih.1 (hl _ (List.getElem_mem _)), ?_⟩
    have := joinS_len ((l.take k).foldl joinS []) l[k]
    omega
theorem fulls_in2 {l : List (Int × Int)} (hl : ∀ x ∈ l, In2 x) : ∀ x ∈ fulls l, In2 x := by
  intro x hx
  unfold fulls at hx
  exact hl x (List.mem_filter.1 hx).1
#print axioms normS_ok
end Go.Mem

