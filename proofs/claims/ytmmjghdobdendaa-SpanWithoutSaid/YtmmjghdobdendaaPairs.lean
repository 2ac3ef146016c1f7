/- Rows of pairs of numbers, two cells each. No condition. -/
import Derived.Test.YtmmjghdobdendaaLiftC
import Derived.Test.YtmmjghdobdendaaInts
import Derived.Test.YtmmjghdobdendaaRegV
import Derived.Test.YtmmjghdobdendaaRows2
import Derived.Lib.SliceRun
set_option linter.unusedSimpArgs false
set_option linter.unusedVariables false
namespace Go.Mem
open Go.RowKit Go.LawLift
def pv (zs : List (Int × Int)) : List Value := zs.flatMap fun p => [.int .i64 p.1, .int .i64 p.2]
theorem pv_cons (p : Int × Int) (zs : List (Int × Int)) : pv (p :: zs) = .int .i64 p.1 :: .int .i64 p.2 :: pv zs := rfl
theorem pv_len (zs : List (Int × Int)) : (pv zs).length = zs.length * 2 := by
  induction zs with
  | nil => rfl
  | cons p r ih => rw [pv_cons]; simp only [List.length_cons, ih]; omega
theorem pv_app (a b : List (Int × Int)) : pv (a ++ b) = pv a ++ pv b := by unfold pv; exact List.flatMap_append
theorem pv_one (zs : List (Int × Int)) : ∀ u ∈ pv zs, u.oneCell' = true := by
  intro u hu
  obtain ⟨p, _, hp⟩ := List.mem_flatMap.1 hu
  simp at hp
  rcases hp with rfl | rfl <;> rfl
theorem pv_get (zs : List (Int × Int)) (j : Nat) (hj : j < zs.length) : (pv zs)[2 * j]? = some (.int .i64 zs[j].1) ∧ (pv zs)[2 * j + 1]? = some (.int .i64 zs[j].2) := by
  induction zs generalizing j with
  | nil => simp at hj
  | cons p r ih =>
    rw [pv_cons]
    cases j with
    | zero => exact ⟨rfl, rfl⟩
    | succ j =>
      have := ih j (by simpa using hj)
      rw [show 2 * (j + 1) = 2 * j + 1 + 1 by omega, List.getElem?_cons_succ, List.getElem?_cons_succ, List.getElem?_cons_succ, List.getElem?_cons_succ]
      exact this
theorem pv_take (zs : List (Int × Int)) (k : Nat) : (pv zs).take (k * 2) = pv (zs.take k) := by
  induction zs generalizing k with
  | nil => simp [pv]
  | cons p r ih =>
    cases k with
    | zero => simp [pv]
    | succ k => rw [pv_cons, show (k + 1) * 2 = k * 2 + 1 + 1 by omega, List.take_succ_cons, List.take_succ_cons, ih, List.take_succ_cons, pv_cons]
theorem pv_set2 (zs : List (Int × Int)) (j : Nat) (hj : j < zs.length) (y : Int) : (pv zs).set (2 * j + 1) (.int .i64 y) = pv (zs.set j (zs[j].1, y)) := by
  induction zs generalizing j with
  | nil => simp at hj
  | cons p r ih =>
    cases j with
    | zero => rfl
    | succ j =>
      rw [pv_cons, show 2 * (j + 1) + 1 = 2 * j + 1 + 1 + 1 by omega, List.set_cons_succ, List.set_cons_succ, ih j (by simpa using hj), List.set_cons_succ, pv_cons]
      rfl
theorem pv_set (zs : List (Int × Int)) (j : Nat) (hj : j < zs.length) (x y : Int) : ((pv zs).set (2 * j) (.int .i64 x)).set (2 * j + 1) (.int .i64 y) = pv (zs.set j (x, y)) := by
  induction zs generalizing j with
  | nil => simp at hj
  | cons p r ih =>
    cases j with
    | zero => rfl
    | succ j =>
      rw [pv_cons, show 2 * (j + 1) = 2 * j + 1 + 1 by omega]
      simp only [List.set_cons_succ]
      rw [ih j (by simpa using hj), pv_cons]
theorem prs_of_own {w : World} {B n : Nat} {e : TypeId} {v : Value} {zs : List (Int × Int)} (h : w.ownsRow B e 2 v n (pv zs)) : Prs .i64 w v zs ∧ zs.length = n := by
  have hn : zs.length = n := by
    have := h.1
    rw [pv_len] at this
    omega
  subst hn
  refine ⟨?_, rfl⟩
  rcases h.2 with ⟨rfl, h0⟩ | ⟨g, cap, cur, rfl, hb, hg, hn, hm, hs, ht⟩
  · have : zs = [] := List.eq_nil_of_length_eq_zero h0
    subst this
    exact ⟨none, 0, rfl, Nat.le_refl _, by simp, fun _ => rfl, fun h => absurd h (by simp)⟩
  · refine ⟨some ⟨g, 0, none⟩, cap, rfl, hn, hm, (fun h => by cases h), fun _ => ⟨g, 0, rfl, (Array.getElem?_eq_some_iff.1 hg).1, fun j hj => ?_⟩⟩
    have hp := pv_get zs j hj
    rw [Nat.zero_add, Nat.zero_add, cell_of_row w g _ cur e (0, 0) hg, cell_of_row w g _ cur e (0, 0) hg]
    have key : ∀ i (u : Value), (pv zs)[i]? = some u → cur[i]? = some u := fun i u hu => by
      rw [← ht, List.getElem?_take] at hu
      split at hu
      · simpa using hu
      · cases hu
    exact ⟨key _ _ hp.1, key _ _ hp.2⟩
theorem Hp.prs {w0 w : World} {L : List Ent} (H : Hp w0 L w) (i : Nat) {e : TypeId} {v : Value} {n : Nat} {zs : List (Int × Int)} (hi : L[i]? = some (.row e 2 v n (pv zs))) : Prs .i64 w v zs ∧ zs.length = n :=
  prs_of_own (H.ok _ (List.mem_of_getElem? hi) : w.ownsRow w0.heap.size e 2 v n (pv zs))
theorem Hp.pz {w0 w : World} {L : List Ent} (H : Hp w0 L w) {v : Value} {zs : List (Int × Int)} (h : Prs .i64 w0 v zs) : Prs .i64 w v zs := h.step H.low
theorem _root_.Go.LawLift.Prs.src {w : World} {A : Option Addr} {n c : Nat} {zs : List (Int × Int)} (h : Prs .i64 w (.slice A n c) zs) :
    (A = none → c = 0 ∧ n = 0) ∧ (pv zs).length = n * 2 ∧ (0 < n → ∃ ad, A = some ad ∧ ∀ (j : Nat) (u : Value), (pv zs)[j]? = some u → w.cell? (ad.add j) = some u) := by
  obtain ⟨A', c', e, h1, h2, h3, h4⟩ := h
  injection e with e1 e2 e3
  subst e1 e2 e3
  refine ⟨fun h => ⟨h3 h, by have := h3 h; omega⟩, pv_len zs, fun hp => ?_⟩
  obtain ⟨b, o, rfl, hl, hc⟩ := h4 hp
  refine ⟨_, rfl, fun j u hu => ?_⟩
  rw [addr_add]
  have hj : j < zs.length * 2 := by
    have := (List.getElem?_eq_some_iff.1 hu).1
    rwa [pv_len] at this
  have hg := pv_get zs (j / 2) (by omega)
  have hh := hc (j / 2) (by omega)
  rcases Nat.mod_two_eq_zero_or_one j with hm | hm
  · have hj2 : 2 * (j / 2) = j := by omega
    rw [hj2] at hg hh
    rw [hh.1]
    rw [hg.1] at hu
    exact hu
  · have hj2 : 2 * (j / 2) + 1 = j := by omega
    rw [hj2] at hg hh
    rw [hh.2]
    rw [hg.2] at hu
    exact hu
theorem _root_.Go.LawLift.Prs.open {w : World} {v : Value} {zs : List (Int × Int)} (h : Prs .i64 w v zs) : ∃ (A : Option Addr) (c : Nat), v = .slice A zs.length c ∧ zs.length ≤ c ∧ c ≤ 9223372036854775807 ∧ (A = none → c = 0) ∧
    ∀ k, (hk : k < zs.length) → ∃ b o, A = some ⟨b, o, none⟩ ∧ b < w.heap.size ∧ w.cell? ⟨b, o + k * 2, none⟩ = some (.int .i64 zs[k].1) ∧ w.cell? ⟨b, o + k * 2 + 1, none⟩ = some (.int .i64 zs[k].2) := by
  obtain ⟨A, c, rfl, h1, h2, h3, h4⟩ := h
  refine ⟨A, c, rfl, h1, h2, h3, fun k hk => ?_⟩
  obtain ⟨b, o, rfl, hl, hc⟩ := h4 (by omega)
  refine ⟨b, o, rfl, hl, ?_⟩
  rw [Nat.mul_comm k 2, Nat.add_assoc]
  exact ⟨(hc k hk).1, (hc k hk).2⟩
/-- A row of the call's own, of elements of whatever size: a cell read, a cell stored. -/
theorem Hp.rowCellN {w0 w : World} {L : List Ent} (H : Hp w0 L w) (i : Nat) {e : TypeId} {s n c g : Nat} {xs : List Value} (hi : L[i]? = some (.row e s (.slice (some ⟨g, 0, none⟩) n c) n xs)) :
    g < w.heap.size ∧ xs.length = n * s ∧ (∀ j, w.frozen? ⟨g, j, none⟩ = false) ∧ ∀ (j : Nat) (u : Value), xs[j]? = some u → w.cell? ⟨g, j, none⟩ = some u := by
  obtain ⟨hx, hr⟩ := (H.ok _ (List.mem_of_getElem? hi) : w.ownsRow w0.heap.size e s (.slice (some ⟨g, 0, none⟩) n c) n xs)
  rcases hr with ⟨h, _⟩ | ⟨g', cap, cur, hv, hb, hg, hnc, hcm, hcs, ht⟩
  · cases h
  · injection hv with e1 e2 e3
    injection e1 with e1
    injection e1 with e1
    subst e1 e3
    refine ⟨(Array.getElem?_eq_some_iff.1 hg).1, hx, fun j => frozen_of_row w g j cur e hg, fun j u hu => ?_⟩
    rw [cell_of_row w g j cur e (0, 0) hg]
    rw [← ht, List.getElem?_take] at hu
    split at hu
    · simpa using hu
    · cases hu
theorem Hp.rowSetN {w0 w : World} {L : List Ent} (H : Hp w0 L w) (i : Nat) {e : TypeId} {s n c g : Nat} {xs : List Value} (hi : L[i]? = some (.row e s (.slice (some ⟨g, 0, none⟩) n c) n xs)) (j : Nat) (u : Value) :
    Hp w0 (L.set i (.row e s (.slice (some ⟨g, 0, none⟩) n c) n (xs.set j u))) (w.setCell ⟨g, j, none⟩ u) := by
  have hok := (H.ok _ (List.mem_of_getElem? hi) : w.ownsRow w0.heap.size e s (.slice (some ⟨g, 0, none⟩) n c) n xs)
  refine H.turn i hi (Only.setCell w g j u) ?_ fun _ hk => .inl hk
  obtain ⟨hx, hr⟩ := hok
  rcases hr with ⟨h, _⟩ | ⟨g', cap, cur, hv, hb, hg, hnc, hcm, hcs, ht⟩
  · cases h
  · injection hv with e1 e2 e3
    injection e1 with e1
    injection e1 with e1
    subst e1 e3
    refine ⟨by simpa using hx, .inr ⟨g, c, cur.setIfInBounds j u, rfl, hb, heap_same hg u, hnc, hcm, by simpa using hcs, ?_⟩⟩
    rw [← ht, Array.toList_setIfInBounds, List.take_set]
/-- The second number of a pair stored. -/
theorem Hp.pairTo {w0 w : World} {L : List Ent} (H : Hp w0 L w) (i : Nat) {e : TypeId} {n c g : Nat} {zs : List (Int × Int)} (hi : L[i]? = some (.row e 2 (.slice (some ⟨g, 0, none⟩) n c) n (pv zs))) (j : Nat) (hj : j < zs.length) (y : Int) :
    Hp w0 (L.set i (.row e 2 (.slice (some ⟨g, 0, none⟩) n c) n (pv (zs.set j (zs[j].1, y))))) (w.setCell ⟨g, j * 2 + 1, none⟩ (.int .i64 y)) := by
  rw [Nat.mul_comm j 2]
  have := H.rowSetN i hi (2 * j + 1) (.int .i64 y)
  rwa [pv_set2 zs j hj] at this
/-- A pair stored whole. -/
theorem Hp.pairSet {w0 w : World} {L : List Ent} (H : Hp w0 L w) (i : Nat) {e : TypeId} {n c g : Nat} {zs : List (Int × Int)} (hi : L[i]? = some (.row e 2 (.slice (some ⟨g, 0, none⟩) n c) n (pv zs))) (j : Nat) (hj : j < zs.length) (x y : Int) :
    Hp w0 (L.set i (.row e 2 (.slice (some ⟨g, 0, none⟩) n c) n (pv (zs.set j (x, y))))) ((w.setCell ⟨g, j * 2, none⟩ (.int .i64 x)).setCell ⟨g, j * 2 + 1, none⟩ (.int .i64 y)) := by
  rw [Nat.mul_comm j 2]
  have h1 := H.rowSetN i hi (2 * j) (.int .i64 x)
  have hlt : i < L.length := (List.getElem?_eq_some_iff.1 hi).1
  have h2 := h1.rowSetN i (by rw [List.getElem?_set_self hlt]) (2 * j + 1) (.int .i64 y)
  rw [List.set_set, pv_set zs j hj] at h2
  exact h2
end Go.Mem
namespace Go.Mem
/-- A fact that the walk's simp is not to use. -/
structure Kp (p : Prop) : Prop where
  out : p
end Go.Mem
namespace Go.Mem
open Go.RowKit Go.LawLift
theorem setCells_row (b : Nat) : ∀ (vs : List Value) (o : Nat) (w : World) {c : Array Value} {T : TypeId} {fz : Nat × Nat}, w.heap[b]? = some (.cells c T fz) →
    Only (some b) w (w.setCells b o vs) ∧ ∃ c', (w.setCells b o vs).heap[b]? = some (.cells c' T fz) ∧ c'.size = c.size ∧ ∀ k, k < o → c'[k]? = c[k]?
  | [], o, w, c, T, fz, h => ⟨Only.of_below _ (Below.refl _ _), c, h, rfl, fun _ _ => rfl⟩
  | v :: r, o, w, c, T, fz, h => by
    obtain ⟨ho, c', hc', hs, hk⟩ := setCells_row b r (o + 1) (w.setCell ⟨b, o, none⟩ v) (heap_same (j := o) h v)
    refine ⟨(Only.setCell w b o v).trans ho, c', hc', by simpa using hs, fun k hk' => ?_⟩
    rw [hk k (by omega), Array.getElem?_setIfInBounds, if_neg (by omega)]
section
variable {P : Program}
theorem run_clear_cells (w : World) (t e ty : TypeId) (z : Value) (ht : P.underlying t = some (.slice e)) (hv : ∀ w, (zeroValue e).run P w = .ok z w) (h1 : ∀ u ∈ z.cells, u.oneCell' = true) (b o n c : Nat) (hn : 0 < n)
    (hc : ∀ j, j < n * z.cells.size → (w.cell? ⟨b, o + j, none⟩).isSome = true) (hf : ∀ j, j < n * z.cells.size → w.frozen? ⟨b, o + j, none⟩ = false) :
    (Builtin.clear_ #[t] ty #[.slice (some ⟨b, o, none⟩) n c]).run P w = .ok (.tuple #[]) (w.setCells b o (Builtin.zeroCells z.cells n).toList) := by
  have hlen : (Builtin.zeroCells z.cells n).toList.length = n * z.cells.size := by simp [Builtin.zeroCells]
  have hone : ∀ v ∈ (Builtin.zeroCells z.cells n).toList, v.oneCell' = true := by
    intro v hv'
    simp only [Builtin.zeroCells, Array.toList_map, List.mem_map] at hv'
    obtain ⟨i, hi, rfl⟩ := hv'
    have hi' : i < n * z.cells.size := by simpa using hi
    have hp : 0 < z.cells.size := by
      rcases Nat.eq_zero_or_pos z.cells.size with h | h
      · rw [h] at hi'; omega
      · exact h
    rw [getElem!_pos z.cells (i % z.cells.size) (Nat.mod_lt _ hp)]
    exact h1 _ (Array.getElem_mem _)
  have hst := run_storeCells_cells (P := P) b o (Builtin.zeroCells z.cells n).toList 0 w (by rw [hlen]; simpa using hc) (by rw [hlen]; simpa using hf) hone
  simp only [Nat.add_zero] at hst
  obtain ⟨m, rfl⟩ : ∃ m, n = m + 1 := ⟨n - 1, by omega⟩
  simp [Builtin.clear_, run_underlying ht, hv, hst]
variable {ops : Array Oper} {Q : Exit → Act → World → Prop} {rest : List Oper} {o : Oper} {a : Act} {w0 w : World} {L : List Ent}
/-- clear(s[k:]) on a row of the call's own: the first k are as they were. -/
theorem wpList_clear_hp (H : Hp w0 L w) (i : Nat) (hgd : o.guard = none) (s : Operand) (t : TypeId) (ho : o.op = .call { callee := .builtin .clear, args := #[s], argTypes := #[t] })
    {e : TypeId} {z : Value} {sz : Nat} (ht : P.underlying t = some (.slice e)) (hv : ∀ w, (zeroValue e).run P w = .ok z w) (h1 : ∀ u ∈ z.cells, u.oneCell' = true) (hz : z.cells.size = sz)
    {g n c k m c' : Nat} {xs : List Value} (hi : L[i]? = some (.row e sz (.slice (some ⟨g, 0, none⟩) n c) n xs)) (hs : a.eval s = .slice (some ⟨g, k * sz, none⟩) m c') (hm : 0 < m) (hk : k + m = n)
    (h : ∀ w', Hp w0 (L.set i (.row e sz (.slice (some ⟨g, 0, none⟩) k c) k (xs.take (k * sz)))) w' → wpList P ops Q rest (a.put o.dst (.tuple #[])) w') : wpList P ops Q (o :: rest) a w := by
  obtain ⟨hg, hl, hf, hcell⟩ := H.rowCellN i hi
  have hmul : k * sz + m * sz = n * sz := by rw [← Nat.add_mul, hk]
  have hr := run_clear_cells (P := P) w t e o.type z ht hv h1 g (k * sz) m c' hm (by
    rw [hz]
    intro j hj
    rw [hcell _ _ (List.getElem?_eq_getElem (by rw [hl]; omega))]
    rfl) (fun j _ => hf _)
  obtain ⟨hx, hr2⟩ := (H.ok _ (List.mem_of_getElem? hi) : w.ownsRow w0.heap.size e sz (.slice (some ⟨g, 0, none⟩) n c) n xs)
  rcases hr2 with ⟨h0, _⟩ | ⟨g', cap, cur, hv', hb, hgg, hnc, hcm, hcs, htk⟩
  · cases h0
  · injection hv' with e1 e2 e3
    injection e1 with e1
    injection e1 with e1
    subst e1 e3
    obtain ⟨hon, cc, hcc, hsz, hfr⟩ := setCells_row g (Builtin.zeroCells z.cells m).toList (k * sz) w hgg
    have hle : k * sz ≤ n * sz := by omega
    have hcap : n * sz ≤ c * sz := Nat.mul_le_mul_right sz hnc
    refine wpList_plain hgd fun K hK => ?_
    unfold Oper.wp
    simp [execOp, ho, resolve, invoke, builtin, hs, hr, Result.andThen]
    refine hK _ _ (h _ (H.turn i hi hon ⟨by rw [List.length_take, hx]; exact Nat.min_eq_left hle, .inr ⟨g, c, cc, rfl, hb, hcc, by omega, hcm, by rw [hsz, hcs], ?_⟩⟩ fun _ hk => .inl hk))
    rw [← htk, List.take_take, Nat.min_eq_left hle]
    apply List.ext_getElem?
    intro j
    rw [List.getElem?_take, List.getElem?_take]
    split
    · rw [Array.getElem?_toList, Array.getElem?_toList, hfr j (by assumption)]
    · rfl
end
end Go.Mem
namespace Go.Mem
open Go.RowKit
theorem Hp.rowFormN {w0 w : World} {L : List Ent} (H : Hp w0 L w) (i : Nat) {e : TypeId} {s n : Nat} {v : Value} {xs : List Value} (hi : L[i]? = some (.row e s v n xs)) : (v = .slice none 0 0 ∧ n = 0 ∧ xs = []) ∨ ∃ g c, v = .slice (some ⟨g, 0, none⟩) n c ∧ n ≤ c ∧ c ≤ 9223372036854775807 := by
  obtain ⟨hx, hr⟩ := (H.ok _ (List.mem_of_getElem? hi) : w.ownsRow w0.heap.size e s v n xs)
  rcases hr with ⟨rfl, rfl⟩ | ⟨g, c, cur, rfl, _, _, hnc, hcm, _, _⟩
  · exact .inl ⟨rfl, rfl, List.eq_nil_of_length_eq_zero (by simpa using hx)⟩
  · exact .inr ⟨g, c, rfl, hnc, hcm⟩
end Go.Mem
namespace Go.Reg
open Go.RowKit Go.Mem
/-- A row of the region's own, of elements of whatever size. -/
def RowS (B : Nat) (T : TypeId) (s n : Nat) (xs : List Value) : Value → World → Prop := fun v w => w.ownsRow B T s v n xs
theorem RowS.mk {B : Nat} {T : TypeId} {s n : Nat} {xs : List Value} {v : Value} {w w' : World} (hB : B ≤ w.heap.size) (ho : w'.ownsRow w.heap.size T s v n xs) : RowS B T s n xs v w' :=
  ⟨ho.1, ho.2.imp id fun ⟨g, cap, cur, e1, e2, r⟩ => ⟨g, cap, cur, e1, Nat.le_trans hB e2, r⟩⟩
theorem RowS.stay {B : Nat} {T : TypeId} {s n : Nat} {xs : List Value} {v : Value} {w w' : World} (hs : AboveR B w w') (h : RowS B T s n xs v w) : RowS B T s n xs v w' := by
  refine ⟨h.1, ?_⟩
  rcases h.2 with hn | ⟨g, cap, cur, rfl, hb, hgg, rest⟩
  · exact .inl hn
  · exact .inr ⟨g, cap, cur, rfl, hb, (hs.2 g hb (Array.getElem?_eq_some_iff.1 hgg).1).trans hgg, rest⟩
end Go.Reg

