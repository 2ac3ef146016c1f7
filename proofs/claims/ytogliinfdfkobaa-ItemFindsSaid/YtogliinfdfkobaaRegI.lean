/- A drawn region that appends to rows of its own making: what it makes holds whole numbers, whatever is stored behind. No condition on a program. -/
import Derived.Test.YtogliinfdfkobaaI1
import Derived.Test.YtogliinfdfkobaaSpans
import Derived.Test.YtogliinfdfkobaaRegN
set_option linter.unusedSimpArgs false
set_option linter.unusedVariables false
namespace Go.Reg
open Go.RowKit Go.Mem Go.LawLift
def IntV (u : Value) : Prop := ∃ z, In64 z ∧ u = .int .i64 z
theorem IntV.one {u : Value} (h : IntV u) : u.oneCell' = true := by
  obtain ⟨z, -, rfl⟩ := h
  rfl
structure PreI (B : Nat) (x y : World) : Prop where
  size : x.heap.size ≤ y.heap.size
  os : y.os = x.os
  tape : y.tape = x.tape
  output : y.output = x.output
  low : ∀ k, k < B → k < x.heap.size → y.heap[k]? = x.heap[k]?
  own : ∀ (k : Nat) (c : Array Value) (T : TypeId) (fz : Nat × Nat), B ≤ k → x.heap[k]? = some (.cells c T fz) → ∃ c' : Array Value, y.heap[k]? = some (.cells c' T fz) ∧ c'.size = c.size ∧ ∀ (j : Nat) (u : Value), c[j]? = some u → c'[j]? = some u ∨ ∃ v, c'[j]? = some v ∧ IntV v
theorem PreI.of {B : Nat} {x y : World} (h : Below x.heap.size x y) : PreI B x y :=
  ⟨h.size, h.os, h.tape, h.output, fun k _ hl => h.block k hl, fun k c T fz _ hk => ⟨c, (h.block k (Array.getElem?_eq_some_iff.1 hk).1).trans hk, rfl, fun _ _ hj => .inl hj⟩⟩
theorem PreI.refl {B : Nat} (x : World) : PreI B x x := .of (Below.refl _ _)
theorem PreI.trans {B : Nat} {x y z : World} (h : PreI B x y) (k : PreI B y z) : PreI B x z := by
  refine ⟨Nat.le_trans h.size k.size, k.os.trans h.os, k.tape.trans h.tape, k.output.trans h.output, fun i hi hl => (k.low i hi (Nat.lt_of_lt_of_le hl h.size)).trans (h.low i hi hl), fun i c T fz hi hc => ?_⟩
  obtain ⟨c1, h1, h2, h3⟩ := h.own i c T fz hi hc
  obtain ⟨c2, k1, k2, k3⟩ := k.own i c1 T fz hi h1
  refine ⟨c2, k1, k2.trans h2, fun j u hj => ?_⟩
  rcases h3 j u hj with h4 | ⟨v, h4, h5⟩
  · exact k3 j u h4
  · rcases k3 j v h4 with h6 | h6
    · exact .inr ⟨v, h6, h5⟩
    · exact .inr h6
def frmI (B : Nat) (S : Nat → World → Prop) : Frm := ⟨PreI B, PreI B, S⟩
/-- A row of the region's own that holds whole numbers. -/
def RowI (B : Nat) (T : TypeId) (s n : Nat) : Value → World → Prop := fun v w => ∃ xs, (∀ u ∈ xs, IntV u) ∧ w.ownsRow B T s v n xs
theorem RowI.stay {B : Nat} {T : TypeId} {s n : Nat} {v : Value} {w w' : World} (hs : PreI B w w') (h : RowI B T s n v w) : RowI B T s n v w' := by
  obtain ⟨xs, hx, hlen, hr⟩ := h
  rcases hr with hn | ⟨g, cap, cur, rfl, hb, hg, hnc, hcm, hcs, ht⟩
  · exact ⟨xs, hx, hlen, .inl hn⟩
  · obtain ⟨c', h1, h2, h3⟩ := hs.own g cur T (0, 0) hb hg
    have hle : n * s ≤ cap * s := Nat.mul_le_mul_right s hnc
    refine ⟨c'.toList.take (n * s), fun u hu => ?_, by rw [List.length_take, Array.length_toList, h2, hcs]; exact Nat.min_eq_left hle, .inr ⟨g, cap, c', rfl, hb, h1, hnc, hcm, by rw [h2, hcs], rfl⟩⟩
    obtain ⟨j, hj, rfl⟩ := List.getElem_of_mem hu
    have hj' : j < n * s := by simp at hj; omega
    have hjc : j < cur.size := by rw [hcs]; omega
    have hc : cur[j]? = some cur[j] := Array.getElem?_eq_getElem hjc
    have hm : IntV cur[j] := by
      apply hx
      rw [← ht]
      apply List.mem_of_getElem? (i := j)
      rw [List.getElem?_take, if_pos hj', Array.getElem?_toList, hc]
    rw [List.getElem_take]
    have hj2 : j < c'.size := by rw [h2]; exact hjc
    have e : c'[j]? = some (c'.toList[j]'(by simpa using hj2)) := by rw [Array.getElem?_eq_getElem hj2]; simp
    rcases h3 j _ hc with h4 | ⟨v, h4, h5⟩
    · rw [e] at h4
      injection h4 with h4
      rw [h4]
      exact hm
    · rw [e] at h4
      injection h4 with h4
      rw [h4]
      exact h5
theorem RowI.new {B n s : Nat} {T : TypeId} {c : Array Value} {w : World} (hB : B ≤ w.heap.size) (hc : c.size = n * s) (hm : n ≤ maxLen) (hx : ∀ u ∈ c.toList, IntV u) : RowI B T s n (.slice (some ⟨w.heap.size, 0, none⟩) n n) (w.alloc (.cells c T)) :=
  ⟨c.toList, hx, by simpa using hc, .inr ⟨w.heap.size, n, c, rfl, hB, heap_alloc_new w _, Nat.le_refl _, hm, hc, List.take_of_length_le (by rw [Array.length_toList, hc]; exact Nat.le_refl _)⟩⟩
theorem RowI.mk {B : Nat} {T : TypeId} {s n : Nat} {xs : List Value} {v : Value} {w w' : World} (hB : B ≤ w.heap.size) (hx : ∀ u ∈ xs, IntV u) (ho : w'.ownsRow w.heap.size T s v n xs) : RowI B T s n v w' :=
  ⟨xs, hx, ho.1, ho.2.imp id fun ⟨g, cap, cur, e1, e2, r⟩ => ⟨g, cap, cur, e1, Nat.le_trans hB e2, r⟩⟩
/-- append to such a row. -/
theorem wp_append_I {P : Program} {w : World} {o : Oper} {a : Act} {K : Act → World → Prop} {N : Exit → Act → World → Prop} (s x : Operand) (t : TypeId) (ho : o.op = .call { callee := .builtin .append, args := #[s, x], argTypes := #[t, t] })
    {e : TypeId} {ti : TypeInfo} {z : Value} {size bytes : Nat} (ht : P.underlying t = some (.slice e)) (hti : P.info? e = some ti) (hz : ti.zero = some z) (hsize : ti.size = size) (hby : ti.bytes = bytes) (hzs : z.cells.size = size) (hsz : 0 < size)
    {B n : Nat} {v : Value} (hs : a.eval s = v) (hv : RowI B e size n v w)
    {A : Option Addr} {m c : Nat} {news : List Value} (hx : a.eval x = .slice A m c) (hl : news.length = m * size) (hA : A = none → c = 0 ∧ m = 0)
    (hnews : 0 < m → ∃ ad, A = some ad ∧ ∀ j u, news[j]? = some u → w.cell? (ad.add j) = some u) (h1 : ∀ u ∈ news, IntV u) (h63 : n + m ≤ maxLen) (hbytes : (n + m) * bytes ≤ 140737488355328) (hB : B ≤ w.heap.size)
    (h : ∀ v' w', PreI B w w' → RowI B e size (n + m) v' w' → K (a.put o.dst v') w') : o.wp P a w K N := by
  obtain ⟨xs, hxs, hown⟩ := hv
  have h1' : ∀ u ∈ news, u.oneCell' = true := fun u hu => (h1 u hu).one
  have hall : ∀ u ∈ xs ++ news, IntV u := fun u hu => (List.mem_append.1 hu).elim (hxs u) (h1 u)
  have key : ∃ v' w', (Builtin.append_ #[t, t] o.type #[v, .slice A m c]).run P w = .ok v' w' ∧ PreI B w w' ∧ w'.ownsRow B e size v' (n + m) (xs ++ news) := by
    cases A with
    | none =>
      obtain ⟨rfl, rfl⟩ := hA rfl
      have : news = [] := List.eq_nil_of_length_eq_zero (by simpa using hl)
      subst this
      exact ⟨v, w, run_append_owned_none (P := P) w B t o.type e ti size ht hti v n xs hown, PreI.refl _, by simpa using hown⟩
    | some ad =>
      have hnews' : ∀ j u, news[j]? = some u → w.cell? (ad.add j) = some u := by
        intro j u hu
        have hm : 0 < m := by
          rcases Nat.eq_zero_or_pos m with h0 | h0
          · subst h0
            have : news = [] := List.eq_nil_of_length_eq_zero (by simpa using hl)
            subst this
            simp at hu
          · exact h0
        obtain ⟨ad', e1, hc⟩ := hnews hm
        injection e1 with e1
        subst e1
        exact hc j u hu
      obtain ⟨v', w', hr, ho', hg, -⟩ := run_append_own (P := P) w B t o.type e ti z size bytes ht hti hz hsize hby hzs hsz v n xs hown ad m c news hl hnews' h1' h63 hbytes hB
      refine ⟨v', w', hr, ?_, ho'⟩
      rcases hown.2 with ⟨rfl, rfl⟩ | ⟨g, cap, cur, rfl, hbg, hgg, hnc, hcm, hcs, htake⟩
      · exact PreI.of ⟨hg.os, hg.tape, hg.output, hg.size, fun k hk => hg.block k hk (by simp [Value.ownBlock])⟩
      · by_cases hroom : n + m ≤ cap
        · have hfit : n * size + news.length ≤ cur.size := by rw [hl, hcs, ← Nat.add_mul]; exact Nat.mul_le_mul_right _ hroom
          subst hsize
          have hr2 := run_append_room (P := P) w t o.type e ti ht hti g n cap cur hgg ad m c news hl hnews' h1' hroom hfit
          rw [hr2] at hr
          injection hr with e1 e2
          subst e1 e2
          refine ⟨hg.size, hg.os, hg.tape, hg.output, fun k hk hlt => setRow_other w g k _ (fun e => by omega), fun k c0 T0 fz hk hc0 => ?_⟩
          by_cases hkg : k = g
          · subst hkg
            rw [hgg] at hc0
            injection hc0 with hc0
            injection hc0 with e1 e2 e3
            subst e1 e2 e3
            refine ⟨_, setRow_heap w k cur _ e _ hgg, ?_, fun j u hj => ?_⟩
            · simp only [List.size_toArray, List.length_append, List.length_take, List.length_drop, Array.length_toList]
              omega
            · have hjs := (Array.getElem?_eq_some_iff.1 hj).1
              rw [List.getElem?_toArray, List.append_assoc]
              rcases Nat.lt_or_ge j (n * ti.size) with h2 | h2
              · left
                rw [List.getElem?_append_left (by rw [List.length_take, Array.length_toList]; omega), List.getElem?_take, if_pos h2, Array.getElem?_toList, hj]
              · rw [List.getElem?_append_right (by rw [List.length_take]; omega)]
                have hlt : (cur.toList.take (n * ti.size)).length = n * ti.size := by rw [List.length_take, Array.length_toList]; omega
                rw [hlt]
                rcases Nat.lt_or_ge (j - n * ti.size) news.length with h3 | h3
                · right
                  rw [List.getElem?_append_left h3]
                  exact ⟨news[j - n * ti.size], List.getElem?_eq_getElem h3, h1 _ (List.getElem_mem h3)⟩
                · left
                  rw [List.getElem?_append_right h3, List.getElem?_drop, show n * ti.size + news.length + (j - n * ti.size - news.length) = j by omega, Array.getElem?_toList, hj]
          · exact ⟨c0, (setRow_other w g k _ (fun e => hkg e)).trans hc0, rfl, fun _ _ hj => .inl hj⟩
        · subst hsize
          have holds : ∀ j u, xs[j]? = some u → w.cell? ((⟨g, 0, none⟩ : Addr).add j) = some u := by
            intro j u hj
            have ha : (⟨g, 0, none⟩ : Addr).add j = ⟨g, j, none⟩ := by unfold Addr.add; split <;> simp_all
            rw [ha, cell_of_row w g j cur e (0, 0) hgg]
            rw [← htake, List.getElem?_take] at hj
            split at hj
            · simpa using hj
            · cases hj
          have hr2 := run_append_grow (P := P) w t o.type e ti z ht hti hz ⟨g, 0, none⟩ n cap xs hown.1 holds ad m c news hl hnews' (by omega) (by simp only [maxLen] at h63; omega) (growslice_fits (by omega) (by rw [hby]; exact hbytes))
          rw [hr2] at hr
          injection hr with e1 e2
          subst e1 e2
          exact PreI.of (((Below.refl _ _).drew).alloc (Nat.le_refl _) _)
  obtain ⟨v', w', hr, hb, hj⟩ := key
  unfold Oper.wp
  simp [execOp, ho, resolve, invoke, builtin, hs, hx, hr, Result.andThen]
  exact h _ _ hb ⟨_, hall, hj⟩
#print axioms wp_append_I
end Go.Reg

