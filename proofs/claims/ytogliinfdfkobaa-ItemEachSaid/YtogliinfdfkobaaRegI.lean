/- Spans of seconds in plain words: in order, joined, what is in any of them. No condition on a program. -/
import Derived.Test.YtogliinfdfkobaaI1
import Derived.Test.YtogliinfdfkobaaRegN
set_option linter.unusedSimpArgs false
set_option linter.unusedVariables false
namespace Go.Mem
def In64 (z : Int) : Prop := -9223372036854775808 ≤ z ∧ z ≤ 9223372036854775807
def emp (s : Int × Int) : Bool := decide (s.2 < s.1)
def fulls (l : List (Int × Int)) : List (Int × Int) := l.filter fun s => !emp s
def inS (s : Int × Int) (t : Int) : Bool := decide (s.1 ≤ t) && decide (t ≤ s.2)
def anyS (l : List (Int × Int)) (t : Int) : Bool := l.any fun s => inS s t
def touchS (a b : Int × Int) : Bool := a.2 == 9223372036854775807 || decide (b.1 ≤ a.2 + 1)
def lastOf (out : List (Int × Int)) : Int × Int := out.getLastD (0, 0)
def joinS (out : List (Int × Int)) (s : Int × Int) : List (Int × Int) :=
  if out.isEmpty then [s] else if touchS (lastOf out) s then out.set (out.length - 1) ((lastOf out).1, max (lastOf out).2 s.2) else out ++ [s]
def mergeS (m : List (Int × Int)) : List (Int × Int) := m.foldl joinS []
/-- Whole spans of 64 bits. -/
def OkS (s : Int × Int) : Prop := In64 s.1 ∧ In64 s.2 ∧ s.1 ≤ s.2
def In2 (s : Int × Int) : Prop := In64 s.1 ∧ In64 s.2
structure OrdS (l : List (Int × Int)) : Prop where
  ok : ∀ s ∈ l, OkS s
  gap : l.Pairwise fun a b => a.2 + 1 < b.1
theorem inS_iff (s : Int × Int) (t : Int) : inS s t = true ↔ s.1 ≤ t ∧ t ≤ s.2 := by simp [inS]
theorem anyS_nil (t : Int) : anyS [] t = false := rfl
theorem anyS_cons (s : Int × Int) (l : List (Int × Int)) (t : Int) : anyS (s :: l) t = (inS s t || anyS l t) := rfl
theorem anyS_app (a b : List (Int × Int)) (t : Int) : anyS (a ++ b) t = (anyS a t || anyS b t) := by unfold anyS; exact List.any_append
theorem joinS_nil (s : Int × Int) : joinS [] s = [s] := rfl
theorem joinS_snoc (o : List (Int × Int)) (p s : Int × Int) : joinS (o ++ [p]) s = if touchS p s then o ++ [(p.1, max p.2 s.2)] else o ++ [p] ++ [s] := by
  unfold joinS lastOf
  rw [if_neg (by simp)]
  simp only [List.getLastD_concat, List.length_append, List.length_cons, List.length_nil, Nat.add_sub_cancel]
  split
  · rw [List.set_append_right _ _ (by omega), Nat.sub_self]
    rfl
  · rfl
/-- What holds on the way: out is what the looked-at ones join to, none of it begins behind one that is to come. -/
structure Way (p out r : List (Int × Int)) : Prop where
  ord : OrdS out
  any : ∀ t, In64 t → anyS out t = anyS p t
  low : ∀ a ∈ out, ∀ s ∈ r, a.1 ≤ s.1
  len : out.length ≤ p.length
theorem snoc_cases {α : Type} (l : List α) : l = [] ∨ ∃ o p, l = o ++ [p] := by
  rcases List.eq_nil_or_concat l with h | ⟨o, p, h⟩
  · exact .inl h
  · exact .inr ⟨o, p, by rw [h, List.concat_eq_append]⟩
theorem Way.step {p out r : List (Int × Int)} {s : Int × Int} (h : Way p out (s :: r)) (hs : OkS s) (hr : ∀ x ∈ r, s.1 ≤ x.1) : Way (p ++ [s]) (joinS out s) r := by
  rcases snoc_cases out with rfl | ⟨o, q, rfl⟩
  · refine ⟨⟨fun x hx => ?_, List.pairwise_singleton _ _⟩, fun t ht => ?_, fun a ha x hx => ?_, ?_⟩
    · rw [joinS_nil] at hx
      obtain rfl := List.mem_singleton.1 hx
      exact hs
    · rw [anyS_app, ← h.any t ht]
      simp [joinS_nil, anyS_nil]
    · rw [joinS_nil] at ha
      obtain rfl := List.mem_singleton.1 ha
      exact hr x hx
    · simp [joinS_nil]
  · have hq := h.ord.ok q (by simp)
    have hqs := h.low q (by simp) s (by simp)
    obtain ⟨⟨q1, q2⟩, ⟨q3, q4⟩, q5⟩ := hq
    obtain ⟨⟨s1, s2⟩, ⟨s3, s4⟩, s5⟩ := hs
    have hg := List.pairwise_append.1 h.ord.gap
    rw [joinS_snoc]
    by_cases ht : touchS q s = true
    · rw [if_pos ht]
      have ht' : q.2 = 9223372036854775807 ∨ s.1 ≤ q.2 + 1 := by simpa [touchS] using ht
      refine ⟨⟨fun x hx => ?_, ?_⟩, fun t ht => ?_, fun a ha x hx => ?_, ?_⟩
      · rcases List.mem_append.1 hx with hx | hx
        · exact h.ord.ok x (by simp [hx])
        · obtain rfl := List.mem_singleton.1 hx
          refine ⟨⟨q1, q2⟩, ⟨?_, ?_⟩, ?_⟩ <;> simp only <;> omega
      · refine List.pairwise_append.2 ⟨hg.1, List.pairwise_singleton _ _, fun a ha b hb => ?_⟩
        obtain rfl := List.mem_singleton.1 hb
        exact hg.2.2 a ha q (by simp)
      · obtain ⟨t1, t2⟩ := ht
        rw [anyS_app, anyS_app (a := p), ← h.any t ⟨t1, t2⟩, anyS_app, Bool.or_assoc]
        congr 1
        simp only [anyS_cons, anyS_nil, Bool.or_false]
        rw [Bool.eq_iff_iff, Bool.or_eq_true, inS_iff, inS_iff, inS_iff]
        simp only
        omega
      · rcases List.mem_append.1 ha with ha | ha
        · exact h.low a (by simp [ha]) x (by simp [hx])
        · obtain rfl := List.mem_singleton.1 ha
          exact h.low q (by simp) x (by simp [hx])
      · have := h.len
        simp at *
        omega
    · rw [if_neg ht]
      have ht' : ¬(q.2 = 9223372036854775807 ∨ s.1 ≤ q.2 + 1) := by simpa [touchS] using ht
      refine ⟨⟨fun x hx => ?_, ?_⟩, fun t ht => ?_, fun a ha x hx => ?_, ?_⟩
      · rcases List.mem_append.1 hx with hx | hx
        · exact h.ord.ok x hx
        · obtain rfl := List.mem_singleton.1 hx
          exact ⟨⟨s1, s2⟩, ⟨s3, s4⟩, s5⟩
      · refine List.pairwise_append.2 ⟨h.ord.gap, List.pairwise_singleton _ _, fun a ha b hb => ?_⟩
        obtain rfl := List.mem_singleton.1 hb
        rcases List.mem_append.1 ha with ha | ha
        · have := hg.2.2 a ha q (by simp)
          omega
        · obtain rfl := List.mem_singleton.1 ha
          omega
      · rw [anyS_app, anyS_app (a := p), h.any t ht]
      · rcases List.mem_append.1 ha with ha | ha
        · exact h.low a ha x (by simp [hx])
        · obtain rfl := List.mem_singleton.1 ha
          exact hr x hx
      · have := h.len
        simp at *
        omega
/-- What putting spans in order leaves. -/
def NormS (l n : List (Int × Int)) : Prop := ∃ m, m.Perm (fulls l) ∧ m.Pairwise (fun a b => a.1 ≤ b.1) ∧ n = mergeS m
/-- What is left of one when another is taken away. -/
def pieceS (s x : Int × Int) : List (Int × Int) :=
  if emp s || (decide (s.2 < x.1) || decide (x.2 < s.1)) then [x]
  else (if x.1 < s.1 then [(x.1, s.1 - 1)] else []) ++ (if s.2 < x.2 then [(s.2 + 1, x.2)] else [])
def lessS (s : Int × Int) (n : List (Int × Int)) : List (Int × Int) := n.flatMap (pieceS s)
end Go.Mem

/- A drawn region that appends to rows of its own making: what it makes holds whole numbers, whatever is stored behind. No condition on a program. -/
namespace Go.Reg
open Go.RowKit Go.Mem Go.LawLift
def IntV (u : Value) : Prop := ∃ z, In64 z ∧ u = .int .i64 z
structure PreI (B : Nat) (x y : World) : Prop where
  size : x.heap.size ≤ y.heap.size
  os : y.os = x.os
  tape : y.tape = x.tape
  output : y.output = x.output
  low : ∀ k, k < B → k < x.heap.size → y.heap[k]? = x.heap[k]?
  own : ∀ (k : Nat) (c : Array Value) (T : TypeId) (fz : Nat × Nat), B ≤ k → x.heap[k]? = some (.cells c T fz) → ∃ c' : Array Value, y.heap[k]? = some (.cells c' T fz) ∧ c'.size = c.size ∧ ∀ (j : Nat) (u : Value), c[j]? = some u → c'[j]? = some u ∨ ∃ v, c'[j]? = some v ∧ IntV v
theorem PreI.of {B : Nat} {x y : World} (h : Below x.heap.size x y) : PreI B x y :=
  ⟨h.size, h.os, h.tape, h.output, fun k _ hl => h.block k hl, fun k c T fz _ hk => ⟨c, (h.block k (Array.getElem?_eq_some_iff.1 hk).1).trans hk, rfl, fun _ _ hj => .inl hj⟩⟩
theorem PreI.refl {B : Nat} (x : World) : PreI B x x := .of (Below.refl _ _)
theorem PreI.trans {B : Nat} {x y z : World} (h : PreI B x y) (k : PreI B y z) : PreI B x z := by
  refine ⟨Nat.le_trans h.size k.size, k.os.trans h.os, k.tape.trans h.tape, k.output.trans h.output, fun i hi hl => (k.low i hi (Nat.lt_of_lt_of_le hl h.size)).trans (h.low i hi hl), fun i c T fz hi hc => ?_⟩
  obtain ⟨c1, h1, h2, h3⟩ := h.own i c T fz hi hc
  obtain ⟨c2, k1, k2, k3⟩ := k.own i c1 T fz hi h1
  refine ⟨c2, k1, k2.trans h2, fun j u hj => ?_⟩
  rcases h3 j u hj with h4 | ⟨v, h4, h5⟩
  · exact k3 j u h4
  · rcases k3 j v h4 with h6 | h6
    · exact .inr ⟨v, h6, h5⟩
    · exact .inr h6
def frmI (B : Nat) (S : Nat → World → Prop) : Frm := ⟨PreI B, PreI B, S⟩
/-- A row of the region's own that holds whole numbers. -/
def RowI (B : Nat) (T : TypeId) (s n : Nat) : Value → World → Prop := fun v w => ∃ xs, (∀ u ∈ xs, IntV u) ∧ w.ownsRow B T s v n xs
theorem RowI.stay {B : Nat} {T : TypeId} {s n : Nat} {v : Value} {w w' : World} (hs : PreI B w w') (h : RowI B T s n v w) : RowI B T s n v w' := by
  obtain ⟨xs, hx, hlen, hr⟩ := h
  rcases hr with hn | ⟨g, cap, cur, rfl, hb, hg, hnc, hcm, hcs, ht⟩
  · exact ⟨xs, hx, hlen, .inl hn⟩
  · obtain ⟨c', h1, h2, h3⟩ := hs.own g cur T (0, 0) hb hg
    have hle : n * s ≤ cap * s := Nat.mul_le_mul_right s hnc
    refine ⟨c'.toList.take (n * s), fun u hu => ?_, by rw [List.length_take, Array.length_toList, h2, hcs]; exact Nat.min_eq_left hle, .inr ⟨g, cap, c', rfl, hb, h1, hnc, hcm, by rw [h2, hcs], rfl⟩⟩
    obtain ⟨j, hj, rfl⟩ := List.getElem_of_mem hu
    have hj' : j < n * s := by simp at hj; omega
    have hjc : j < cur.size := by rw [hcs]; omega
    have hc : cur[j]? = some cur[j] := Array.getElem?_eq_getElem hjc
    have hm : IntV cur[j] := by
      apply hx
      rw [← ht]
      apply List.mem_of_getElem? (i := j)
      rw [List.getElem?_take, if_pos hj', Array.getElem?_toList, hc]
    rw [List.getElem_take]
    have hj2 : j < c'.size := by rw [h2]; exact hjc
    have e : c'[j]? = some (c'.toList[j]'(by simpa using hj2)) := by rw [Array.getElem?_eq_getElem hj2]; simp
    rcases h3 j _ hc with h4 | ⟨v, h4, h5⟩
    · rw [e] at h4
      injection h4 with h4
      rw [h4]
      exact hm
    · rw [e] at h4
      injection h4 with h4
      rw [h4]
      exact h5
theorem RowI.new {B n s : Nat} {T : TypeId} {c : Array Value} {w : World} (hB : B ≤ w.heap.size) (hc : c.size = n * s) (hm : n ≤ maxLen) (hx : ∀ u ∈ c.toList, IntV u) : RowI B T s n (.slice (some ⟨w.heap.size, 0, none⟩) n n) (w.alloc (.cells c T)) :=
  ⟨c.toList, hx, by simpa using hc, .inr ⟨w.heap.size, n, c, rfl, hB, heap_alloc_new w _, Nat.le_refl _, hm, hc, List.take_of_length_le (by rw [Array.length_toList, hc]; exact Nat.le_refl _)⟩⟩
theorem RowI.mk {B : Nat} {T : TypeId} {s n : Nat} {xs : List Value} {v : Value} {w w' : World} (hB : B ≤ w.heap.size) (hx : ∀ u ∈ xs, IntV u) (ho : w'.ownsRow w.heap.size T s v n xs) : RowI B T s n v w' :=
  ⟨xs, hx, ho.1, ho.2.imp id fun ⟨g, cap, cur, e1, e2, r⟩ => ⟨g, cap, cur, e1, Nat.le_trans hB e2, r⟩⟩
end Go.Reg

