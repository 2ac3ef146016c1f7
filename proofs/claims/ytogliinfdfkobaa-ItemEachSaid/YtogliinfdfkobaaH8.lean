/- An append within a drawn region, told apart: there is room, or a new row is made. No condition on a program. -/
import Derived.Test.YtogliinfdfkobaaRegI
import Derived.Test.YtogliinfdfkobaaFrame
import Derived.Test.YtogliinfdfkobaaH1
set_option linter.unusedSimpArgs false
set_option linter.unusedVariables false
set_option linter.unusedVariables false
namespace Go.Mem
open Go.RowKit Go.Reg
/-- There is no room for so many more. -/
def Tight (v : Value) (n m : Nat) : Prop := v = .slice none 0 0 ∨ ∃ g cap, v = .slice (some ⟨g, 0, none⟩) n cap ∧ cap < n + m
theorem Hp.tight {w0 w : World} {L : List Ent} (H : Hp w0 L w) (i : Nat) {e : TypeId} {size n : Nat} {v : Value} {xs : List Value} (hi : L[i]? = some (.row e size v n xs)) (m : Nat) :
    (∃ g cap, v = .slice (some ⟨g, 0, none⟩) n cap ∧ n + m ≤ cap) ∨ Tight v n m := by
  have hown : w.ownsRow w0.heap.size e size v n xs := H.ok _ (List.mem_of_getElem? hi)
  rcases hown.2 with ⟨rfl, rfl⟩ | ⟨g, cap, cur, rfl, -⟩
  · exact .inr (.inl rfl)
  · by_cases h : n + m ≤ cap
    · exact .inl ⟨g, cap, rfl, h⟩
    · exact .inr (.inr ⟨g, cap, rfl, by omega⟩)
theorem owns_grown {w : World} {P : Program} {e : TypeId} {i : TypeInfo} {z : Value} {k old : Nat} {ys : List Value} (hzs : z.cells.size = i.size) (hl : ys.length = k * i.size) (h63 : k ≤ maxLen) :
    (w.drew.alloc (.cells (ys.toArray ++ Builtin.zeroCells z.cells (grownCap w k old e - k)) e)).ownsRow w.heap.size e i.size (.slice (some ⟨w.heap.size, 0, none⟩) k (grownCap w k old e)) k ys := by
  have h1 := grownCap_ge w k old e
  refine ⟨hl, .inr ⟨w.heap.size, _, _, rfl, Nat.le_refl _, heap_alloc_new w.drew _, h1, grownCap_le_maxLen w k old e h63, ?_, ?_⟩⟩
  · rw [Array.size_append, List.size_toArray, size_zeroCells, hzs, hl, ← Nat.add_mul, Nat.add_sub_cancel' h1]
  · rw [Array.toList_append, List.toList_toArray, ← hl, List.take_left]
theorem below_grown (w : World) (o : Obj) : Below w.heap.size w (w.drew.alloc o) := ((Below.refl _ _).drew).alloc (Nat.le_refl _) o
section
variable {P : Program} {w0 w : World} {L : List Ent} {o : Oper} {a : Act} {K : Act → World → Prop} {N : Exit → Act → World → Prop}
theorem run_grow (H : Hp w0 L w) (i : Nat) (t : TypeId) (ty : TypeId) {e : TypeId} {ti : TypeInfo} {z : Value} {size bytes : Nat} (ht : P.underlying t = some (.slice e)) (hti : P.info? e = some ti) (hz : ti.zero = some z)
    (hsize : ti.size = size) (hby : ti.bytes = bytes) (hzs : z.cells.size = size)
    {v : Value} {n : Nat} {xs : List Value} (hi : L[i]? = some (.row e size v n xs))
    {ad : Addr} {m c : Nat} {news : List Value} (hT : Tight v n m) (hl : news.length = m * size)
    (hnews : ∀ j u, news[j]? = some u → w.cell? (ad.add j) = some u) (hm : 0 < m) (h63 : n + m ≤ maxLen) (hbytes : (n + m) * bytes ≤ 140737488355328) :
    ∃ v' w', (Builtin.append_ #[t, t] ty #[v, .slice (some ad) m c]).run P w = .ok v' w' ∧ Below w.heap.size w w' ∧ w'.ownsRow w.heap.size e size v' (n + m) (xs ++ news) := by
  subst hsize
  subst hby
  have hown : w.ownsRow w0.heap.size e ti.size v n xs := H.ok _ (List.mem_of_getElem? hi)
  have h631 : n + m ≤ 9223372036854775807 := by simp only [maxLen] at h63; omega
  have hlen : (xs ++ news).length = (n + m) * ti.size := by rw [List.length_append, hown.1, hl, Nat.add_mul]
  rcases hT with rfl | ⟨g, cap, rfl, hc⟩
  · rcases hown.2 with ⟨-, rfl⟩ | ⟨g, cap, cur, h, -⟩
    · obtain rfl : xs = [] := List.eq_nil_of_length_eq_zero (by simpa using hown.1)
      have hr := run_append_nil (P := P) w t ty e ti z ht hti hz ad m c news hl hnews hm (by omega) (by have hb := hbytes; simp only [Nat.zero_add] at hb; omega)
      refine ⟨_, _, hr, below_grown w _, ?_⟩
      have h := owns_grown (P := P) (w := w) (e := e) (old := 0) hzs (ys := news) (k := m) hl (by omega)
      simpa using h
    · cases h
  · have holds : ∀ j u, xs[j]? = some u → w.cell? ((⟨g, 0, none⟩ : Addr).add j) = some u := hown.cells (g := g) rfl
    have hr := run_append_grow (P := P) w t ty e ti z ht hti hz ⟨g, 0, none⟩ n cap xs hown.1 holds ad m c news hl hnews (by omega) (by omega) (growslice_fits (by omega) hbytes)
    refine ⟨_, _, hr, below_grown w _, ?_⟩
    have h := owns_grown (P := P) (w := w) (e := e) (old := cap) hzs (ys := xs ++ news) (k := n + m) hlen h63
    simpa [List.append_toArray] using h
theorem wp_append_grow (H : Hp w0 L w) (i : Nat) (s x : Operand) (t : TypeId) (ho : o.op = .call { callee := .builtin .append, args := #[s, x], argTypes := #[t, t] })
    {e : TypeId} {ti : TypeInfo} {z : Value} {size bytes : Nat} (ht : P.underlying t = some (.slice e)) (hti : P.info? e = some ti) (hz : ti.zero = some z)
    (hsize : ti.size = size) (hby : ti.bytes = bytes) (hzs : z.cells.size = size)
    {v : Value} {n : Nat} {xs : List Value} (hs : a.eval s = v) (hi : L[i]? = some (.row e size v n xs))
    {ad : Addr} {m c : Nat} {news : List Value} (hx : a.eval x = .slice (some ad) m c) (hT : Tight v n m) (hl : news.length = m * size)
    (hnews : ∀ j u, news[j]? = some u → w.cell? (ad.add j) = some u) (hm : 0 < m) (h63 : n + m ≤ maxLen) (hbytes : (n + m) * bytes ≤ 140737488355328)
    (h : ∀ v' w', Below w.heap.size w w' → w'.ownsRow w.heap.size e size v' (n + m) (xs ++ news) → K (a.put o.dst v') w') : o.wp P a w K N := by
  obtain ⟨v', w', hr, hb, hw⟩ := run_grow H i t o.type ht hti hz hsize hby hzs hi (c := c) hT hl hnews hm h63 hbytes
  unfold Oper.wp
  simp [execOp, ho, resolve, invoke, builtin, hs, hx, hr, Result.andThen]
  exact h _ _ hb hw
theorem wp_append_room (H : Hp w0 L w) (i : Nat) (s x : Operand) (t : TypeId) (ho : o.op = .call { callee := .builtin .append, args := #[s, x], argTypes := #[t, t] })
    {e : TypeId} {ti : TypeInfo} {size : Nat} (ht : P.underlying t = some (.slice e)) (hti : P.info? e = some ti) (hsize : ti.size = size)
    {g cap n : Nat} {xs : List Value} (hs : a.eval s = .slice (some ⟨g, 0, none⟩) n cap) (hi : L[i]? = some (.row e size (.slice (some ⟨g, 0, none⟩) n cap) n xs))
    {ad : Addr} {m c : Nat} {news : List Value} (hx : a.eval x = .slice (some ad) m c) (hroom : n + m ≤ cap) (hl : news.length = m * size)
    (hnews : ∀ j u, news[j]? = some u → w.cell? (ad.add j) = some u) (h1 : ∀ u ∈ news, u.oneCell' = true)
    (h : ∀ w', Only (some g) w w' → Hp w0 (L.set i (.row e size (.slice (some ⟨g, 0, none⟩) (n + m) cap) (n + m) (xs ++ news))) w' → K (a.put o.dst (.slice (some ⟨g, 0, none⟩) (n + m) cap)) w') : o.wp P a w K N := by
  subst hsize
  have hown : w.ownsRow w0.heap.size e ti.size (.slice (some ⟨g, 0, none⟩) n cap) n xs := H.ok _ (List.mem_of_getElem? hi)
  rcases hown.2 with ⟨h0, -⟩ | ⟨g', cap', cur, e1, hbg, hg, hnc, hcm, hcs, htake⟩
  · cases h0
  · injection e1 with e1 e2 e3
    injection e1 with e1
    injection e1 with e1
    subst e1 e3
    have hfit : n * ti.size + news.length ≤ cur.size := by rw [hl, hcs, ← Nat.add_mul]; exact Nat.mul_le_mul_right _ hroom
    have hr := run_append_room (P := P) w t o.type e ti ht hti g n cap cur hg ad m c news hl hnews h1 hroom hfit
    have hlen : (xs ++ news).length = (n + m) * ti.size := by rw [List.length_append, hown.1, hl, Nat.add_mul]
    generalize hw' : w.setRow g _ = w' at hr
    have hO : Only (some g) w w' := by
      rw [← hw']
      exact ⟨rfl, rfl, rfl, by simp, fun k _ hk => setRow_other w g k _ (fun e => hk (by rw [e]))⟩
    have hx' : w'.ownsRow w0.heap.size e ti.size (.slice (some ⟨g, 0, none⟩) (n + m) cap) (n + m) (xs ++ news) := by
      rw [← hw']
      refine ⟨hlen, .inr ⟨g, cap, _, rfl, hbg, setRow_heap w g cur _ e _ hg, hroom, hcm, ?_, ?_⟩⟩
      · simp only [List.size_toArray, List.length_append, List.length_take, List.length_drop, Array.length_toList]
        omega
      · rw [htake, ← hlen]
        exact List.take_left
    unfold Oper.wp
    simp [execOp, ho, resolve, invoke, builtin, hs, hx, hr, Result.andThen]
    exact h _ hO (H.turn i hi hO hx' fun _ hk => .inl hk)
end
end Go.Mem

set_option linter.unusedSimpArgs false
set_option linter.unusedVariables false
set_option maxRecDepth 100000
namespace Go.Proofs.Ytogliinfdfkobaa
open Go.RowKit Go.Mem Go.Reg Hd
theorem cell_row_map {w0 w : World} {L : List Ent} (H : Hp w0 L w) (i : Nat) {n c g : Nat} {bs : List UInt8} (hi : L[i]? = some (.row 5 1 (.slice (some ⟨g, 0, none⟩) n c) n (bs.map u8c))) (j : Nat) (hj : j < bs.length) : w.cell? ⟨g, j, none⟩ = some (.int .u8 (bs[j].toNat : Int)) := by
  refine (Hp.rowCell H i hi).2.2.2 j _ ?_
  rw [List.getElem?_map, List.getElem?_eq_getElem hj]
  rfl
/-- What has been turned so far, from both ends. -/
def RevAt (xs ys : List UInt8) (i : Nat) : Prop := ys.length = xs.length ∧ ∀ t, (ht : t < xs.length) → ys[t]? = if i ≤ t ∧ t + i < xs.length then xs[t]? else xs[xs.length - 1 - t]?
theorem RevAt.start (xs : List UInt8) : RevAt xs xs 0 := ⟨rfl, fun t ht => by rw [if_pos (by omega)]⟩
theorem RevAt.step {xs ys : List UInt8} {i : Nat} (h : RevAt xs ys i) (hi : i + i + 1 < xs.length) (h1 : i < ys.length) (h2 : xs.length - 1 - i < ys.length) : RevAt xs ((ys.set i (ys[xs.length - 1 - i])).set (xs.length - 1 - i) (ys[i])) (i + 1) := by
  obtain ⟨hl, hh⟩ := h
  refine ⟨by simp [hl], fun t ht => ?_⟩
  have e1 : ys[i]? = xs[i]? := by rw [hh i (by omega), if_pos (by omega)]
  have e2 : ys[xs.length - 1 - i]? = xs[xs.length - 1 - i]? := by rw [hh _ (by omega), if_pos (by omega)]
  rw [List.getElem?_set]
  by_cases ht1 : xs.length - 1 - i = t
  · subst ht1
    rw [if_pos rfl, if_pos (by simp [hl]; omega), if_neg (by omega), ← List.getElem?_eq_getElem h1, e1]
    congr 1
    omega
  · rw [if_neg ht1, List.getElem?_set]
    by_cases ht2 : i = t
    · subst ht2
      rw [if_pos rfl, if_pos h1, if_neg (by omega), ← List.getElem?_eq_getElem h2, e2]
    · rw [if_neg ht2, hh t ht]
      by_cases hc : i ≤ t ∧ t + i < xs.length
      · rw [if_pos hc, if_pos (by omega)]
      · rw [if_neg hc, if_neg (by omega)]
theorem RevAt.done {xs ys : List UInt8} {i : Nat} (h : RevAt xs ys i) (hi : xs.length ≤ i + i + 1) : ys = xs.reverse := by
  apply List.ext_getElem?
  intro t
  by_cases ht : t < xs.length
  · rw [h.2 t ht, List.getElem?_reverse ht]
    split
    · congr 1; omega
    · rfl
  · rw [List.getElem?_eq_none (by rw [h.1]; omega), List.getElem?_eq_none (by simp; omega)]
end Go.Proofs.Ytogliinfdfkobaa

set_option linter.unusedSimpArgs false
set_option linter.unusedVariables false
set_option maxRecDepth 100000
namespace Go.Proofs.Ytogliinfdfkobaa
open Go.RowKit Go.Mem Go.Reg Hd
end Go.Proofs.Ytogliinfdfkobaa

set_option linter.unusedSimpArgs false
set_option linter.unusedVariables false
set_option maxRecDepth 100000
namespace Go.Proofs.Ytogliinfdfkobaa
open Go.RowKit Go.Mem Go.Reg Hd
def DigRel (w : World) (n B kb pb pn pk : Nat) (wr : World) : Prop :=
  ∃ (m : Nat) (ys : List UInt8) (v : Value), m ≤ n ∧ Hid (ys ++ (digR B m m).map (fun (d : Nat) => byteI (d : Int)) = (digR B n n).map (fun (d : Nat) => byteI (d : Int))) ∧
    Hp w [.blk pb #[v] 24, .blk pn #[.int .i64 (m : Int)] 3, .blk pk #[.int .i64 (kb : Int)] 3, .row 5 1 v ys.length (ys.map u8c)] wr
end Go.Proofs.Ytogliinfdfkobaa

set_option linter.unusedSimpArgs false
set_option linter.unusedVariables false
set_option maxRecDepth 100000
namespace Go.Proofs.Ytogliinfdfkobaa
open Go.RowKit Go.Mem Go.Reg Hd
/-- A result that is a row of the call's own, with an error. -/
def OwnOut (w : World) (bs : List UInt8) (er : Int) (e : Ending) (w' : World) : Prop :=
  (∃ v, e = .returned (.tuple #[v, .int .i64 er]) ∧ w'.ownsRow w.heap.size 5 1 v bs.length (bs.map u8c)) ∧ Below w.heap.size w w'
theorem OwnOut.none {w w' : World} {er : Int} {e : Ending} (he : e = .returned (.tuple #[.slice none 0 0, .int .i64 er])) (hb : Below w.heap.size w w') : OwnOut w [] er e w' := ⟨⟨_, he, World.ownsRow_nil w' _ _ _⟩, hb⟩
end Go.Proofs.Ytogliinfdfkobaa

set_option linter.unusedSimpArgs false
set_option linter.unusedVariables false
set_option maxRecDepth 100000
namespace Go.Proofs.Ytogliinfdfkobaa
open Go.RowKit Go.Mem Go.Reg Hd
end Go.Proofs.Ytogliinfdfkobaa

set_option linter.unusedSimpArgs false
set_option linter.unusedVariables false
set_option maxRecDepth 100000
namespace Go.Proofs.Ytogliinfdfkobaa
open Go.RowKit Go.Mem Go.Reg Hd
def OwnOne (w : World) (bs : List UInt8) (e : Ending) (w' : World) : Prop :=
  (∃ v, e = .returned v ∧ w'.ownsRow w.heap.size 5 1 v bs.length (bs.map u8c)) ∧ Below w.heap.size w w'
theorem OwnOne.of {w w' : World} {L : List Ent} (H : Hp w L w') (i : Nat) {v : Value} {n : Nat} {bs : List UInt8} {xs : List Value} (hi : L[i]? = some (.row 5 1 v n xs)) (hn : n = bs.length) (hx : xs = bs.map u8c) {e : Ending} (he : e = .returned v) : OwnOne w bs e w' := by
  subst hn hx
  exact ⟨⟨v, he, ownsOf H i hi⟩, H.low⟩
end Go.Proofs.Ytogliinfdfkobaa

set_option linter.unusedSimpArgs false
set_option linter.unusedVariables false
set_option maxRecDepth 100000
namespace Go.Proofs.Ytogliinfdfkobaa
open Go.RowKit Go.Mem Go.Reg Hd
end Go.Proofs.Ytogliinfdfkobaa

