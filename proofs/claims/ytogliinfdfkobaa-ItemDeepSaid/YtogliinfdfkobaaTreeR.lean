/- A law's slices of pairs of numbers opened. No condition. -/
import Derived.Test.YtogliinfdfkobaaInts
import Derived.Test.YtogliinfdfkobaaFrame
import Derived.Test.YtogliinfdfkobaaBytes
import Derived.OwnWalk
import Derived.Lib.SliceRun
import Derived.Test.YtogliinfdfkobaaHPlain
import Derived.Test.YtogliinfdfkobaaTree
import Derived.Test.YtogliinfdfkobaaRegN
set_option linter.unusedSimpArgs false
set_option linter.unusedVariables false
namespace Go.LawLift
open Go.RowKit Go.ChangeShapes Go.WideShapes Go.Deep Go.Mem
/-- A slice of pairs of numbers. -/
def Prs (k : IntKind) (w : World) (v : Value) (zs : List (Int × Int)) : Prop :=
  ∃ (A : Option Addr) (c : Nat), v = .slice A zs.length c ∧ zs.length ≤ c ∧ c ≤ 9223372036854775807 ∧ (A = none → c = 0) ∧
    (0 < zs.length → ∃ b o, A = some ⟨b, o, none⟩ ∧ b < w.heap.size ∧ ∀ j, (hj : j < zs.length) → w.cell? ⟨b, o + 2 * j, none⟩ = some (.int k zs[j].1) ∧ w.cell? ⟨b, o + (2 * j + 1), none⟩ = some (.int k zs[j].2))
theorem Prs.step {k : IntKind} {w w' : World} {v : Value} {zs : List (Int × Int)} (h : Prs k w v zs) (hb : Below w.heap.size w w') : Prs k w' v zs := by
  obtain ⟨A, c, rfl, h1, h2, h3, h4⟩ := h
  refine ⟨A, c, rfl, h1, h2, h3, fun hp => ?_⟩
  obtain ⟨b, o, e, hl, hc⟩ := h4 hp
  exact ⟨b, o, e, Nat.lt_of_lt_of_le hl hb.size, fun j hj => ⟨(hb.cell (p := ⟨b, o + 2 * j, none⟩) hl).trans (hc j hj).1, (hb.cell (p := ⟨b, o + (2 * j + 1), none⟩) hl).trans (hc j hj).2⟩⟩
section
variable {H : Type} {enc : TypeId × Value → H} {P : Program} {w : World} {base : Nat} {spare : Nat → Bool} {held : Bool}
theorem addr_add (b o n : Nat) : (⟨b, o, none⟩ : Addr).add n = ⟨b, o + n, none⟩ := by unfold Addr.add; split <;> simp_all
variable {t e t1 t2 : TypeId} {v : Value} {d : DataW H} {p : List MemPlace} {r : Reach} {b0 : Nat}
end
end Go.LawLift

/- A make within a region that draws. No condition on a program. -/
namespace Go.Reg
open Go.RowKit Go.Mem
end Go.Reg
namespace Go.Reg
open Go.RowKit Go.Mem
theorem RowJ.bs {B : Nat} {T : TypeId} {n : Nat} {l : List UInt8} {v : Value} {w : World} (h : RowJ B T n (l.map u8c) v w) : Bs w v l := by
  have hn : n = (l.map u8c).length := by
    rcases h with ⟨h1, h2⟩
    omega
  subst hn
  exact slice_of_own h
/-- Two rows in a slice of two. -/
def TwoJ (B : Nat) (U T : TypeId) (n m : Nat) (a b : List UInt8) : Value → World → Prop := fun v w =>
  ∃ k x y, v = .slice (some ⟨k, 0, none⟩) 2 2 ∧ B ≤ k ∧ w.heap[k]? = some (.cells #[x, y] U (0, 0)) ∧ RowJ B T n (a.map u8c) x w ∧ RowJ B T m (b.map u8c) y w
theorem TwoJ.stay {B : Nat} {U T : TypeId} {n m : Nat} {a b : List UInt8} {v : Value} {w w' : World} (hs : AboveR B w w') (h : TwoJ B U T n m a b v w) : TwoJ B U T n m a b v w' := by
  obtain ⟨k, x, y, e, hB, hk, hx, hy⟩ := h
  exact ⟨k, x, y, e, hB, (hs.2 k hB (Array.getElem?_eq_some_iff.1 hk).1).trans hk, hx.stay hs, hy.stay hs⟩
theorem TwoJ.mk {B : Nat} {U T : TypeId} {n m : Nat} {a b : List UInt8} {x y : Value} {w : World} (hB : B ≤ w.heap.size) (hx : RowJ B T n (a.map u8c) x w) (hy : RowJ B T m (b.map u8c) y w) :
    TwoJ B U T n m a b (.slice (some ⟨w.heap.size, 0, none⟩) 2 2) (w.alloc (.cells #[x, y] U)) := by
  have hb : Below w.heap.size w (w.alloc (.cells #[x, y] U)) := (Below.refl _ _).alloc (Nat.le_refl _) _
  have ha : AboveR B w (w.alloc (.cells #[x, y] U)) := ⟨hb.size, fun k _ hl => hb.block k hl⟩
  exact ⟨_, _, _, rfl, hB, heap_alloc_new w _, hx.stay ha, hy.stay ha⟩
end Go.Reg
namespace Go.Reg
open Go.RowKit Go.Mem
end Go.Reg
namespace Go.Reg
open Go.RowKit Go.Mem
/-- A row and a block of another type are apart. -/
theorem row_blk_apart {w : World} {B k : Nat} {T U : TypeId} {s n : Nat} {v : Value} {xs : List Value} {c : Array Value} (h : w.ownsRow B T s v n xs) (hk : w.heap[k]? = some (.cells c U (0, 0))) (hne : T ≠ U) :
    ∀ j, (Ent.row T s v n xs).fp = some j → (Ent.blk k c U).fp = some j → False := by
  intro j h1 h2
  simp only [Ent.fp, Option.some.injEq] at h1 h2
  subst h2
  rcases h.2 with ⟨rfl, -⟩ | ⟨g, cap, cur, rfl, -, hg, -⟩
  · simp [Value.ownBlock] at h1
  · simp only [Value.ownBlock, Option.some.injEq] at h1
    subst h1
    rw [hg] at hk
    injection hk with hk
    injection hk with _ e _
    exact hne e
end Go.Reg

/- Rows of pairs of numbers, two cells each. No condition. -/
namespace Go.Mem
open Go.RowKit Go.LawLift
def pv (zs : List (Int × Int)) : List Value := zs.flatMap fun p => [.int .i64 p.1, .int .i64 p.2]
theorem pv_cons (p : Int × Int) (zs : List (Int × Int)) : pv (p :: zs) = .int .i64 p.1 :: .int .i64 p.2 :: pv zs := rfl
theorem pv_len (zs : List (Int × Int)) : (pv zs).length = zs.length * 2 := by
  induction zs with
  | nil => rfl
  | cons p r ih => rw [pv_cons]; simp only [List.length_cons, ih]; omega
theorem pv_app (a b : List (Int × Int)) : pv (a ++ b) = pv a ++ pv b := by unfold pv; exact List.flatMap_append
theorem pv_get (zs : List (Int × Int)) (j : Nat) (hj : j < zs.length) : (pv zs)[2 * j]? = some (.int .i64 zs[j].1) ∧ (pv zs)[2 * j + 1]? = some (.int .i64 zs[j].2) := by
  induction zs generalizing j with
  | nil => simp at hj
  | cons p r ih =>
    rw [pv_cons]
    cases j with
    | zero => exact ⟨rfl, rfl⟩
    | succ j =>
      have := ih j (by simpa using hj)
      rw [show 2 * (j + 1) = 2 * j + 1 + 1 by omega, List.getElem?_cons_succ, List.getElem?_cons_succ, List.getElem?_cons_succ, List.getElem?_cons_succ]
      exact this
theorem Hp.pz {w0 w : World} {L : List Ent} (H : Hp w0 L w) {v : Value} {zs : List (Int × Int)} (h : Prs .i64 w0 v zs) : Prs .i64 w v zs := h.step H.low
theorem _root_.Go.LawLift.Prs.src {w : World} {A : Option Addr} {n c : Nat} {zs : List (Int × Int)} (h : Prs .i64 w (.slice A n c) zs) :
    (A = none → c = 0 ∧ n = 0) ∧ (pv zs).length = n * 2 ∧ (0 < n → ∃ ad, A = some ad ∧ ∀ (j : Nat) (u : Value), (pv zs)[j]? = some u → w.cell? (ad.add j) = some u) := by
  obtain ⟨A', c', e, h1, h2, h3, h4⟩ := h
  injection e with e1 e2 e3
  subst e1 e2 e3
  refine ⟨fun h => ⟨h3 h, by have := h3 h; omega⟩, pv_len zs, fun hp => ?_⟩
  obtain ⟨b, o, rfl, hl, hc⟩ := h4 hp
  refine ⟨_, rfl, fun j u hu => ?_⟩
  rw [addr_add]
  have hj : j < zs.length * 2 := by
    have := (List.getElem?_eq_some_iff.1 hu).1
    rwa [pv_len] at this
  have hg := pv_get zs (j / 2) (by omega)
  have hh := hc (j / 2) (by omega)
  rcases Nat.mod_two_eq_zero_or_one j with hm | hm
  · have hj2 : 2 * (j / 2) = j := by omega
    rw [hj2] at hg hh
    rw [hh.1]
    rw [hg.1] at hu
    exact hu
  · have hj2 : 2 * (j / 2) + 1 = j := by omega
    rw [hj2] at hg hh
    rw [hh.2]
    rw [hg.2] at hu
    exact hu
theorem _root_.Go.LawLift.Prs.open {w : World} {v : Value} {zs : List (Int × Int)} (h : Prs .i64 w v zs) : ∃ (A : Option Addr) (c : Nat), v = .slice A zs.length c ∧ zs.length ≤ c ∧ c ≤ 9223372036854775807 ∧ (A = none → c = 0) ∧
    ∀ k, (hk : k < zs.length) → ∃ b o, A = some ⟨b, o, none⟩ ∧ b < w.heap.size ∧ w.cell? ⟨b, o + k * 2, none⟩ = some (.int .i64 zs[k].1) ∧ w.cell? ⟨b, o + k * 2 + 1, none⟩ = some (.int .i64 zs[k].2) := by
  obtain ⟨A, c, rfl, h1, h2, h3, h4⟩ := h
  refine ⟨A, c, rfl, h1, h2, h3, fun k hk => ?_⟩
  obtain ⟨b, o, rfl, hl, hc⟩ := h4 (by omega)
  refine ⟨b, o, rfl, hl, ?_⟩
  rw [Nat.mul_comm k 2, Nat.add_assoc]
  exact ⟨(hc k hk).1, (hc k hk).2⟩
/-- A row of the call's own, of elements of whatever size: a cell read, a cell stored. -/
theorem Hp.rowCellN {w0 w : World} {L : List Ent} (H : Hp w0 L w) (i : Nat) {e : TypeId} {s n c g : Nat} {xs : List Value} (hi : L[i]? = some (.row e s (.slice (some ⟨g, 0, none⟩) n c) n xs)) :
    g < w.heap.size ∧ xs.length = n * s ∧ (∀ j, w.frozen? ⟨g, j, none⟩ = false) ∧ ∀ (j : Nat) (u : Value), xs[j]? = some u → w.cell? ⟨g, j, none⟩ = some u := by
  obtain ⟨hx, hr⟩ := (H.ok _ (List.mem_of_getElem? hi) : w.ownsRow w0.heap.size e s (.slice (some ⟨g, 0, none⟩) n c) n xs)
  rcases hr with ⟨h, _⟩ | ⟨g', cap, cur, hv, hb, hg, hnc, hcm, hcs, ht⟩
  · cases h
  · injection hv with e1 e2 e3
    injection e1 with e1
    injection e1 with e1
    subst e1 e3
    refine ⟨(Array.getElem?_eq_some_iff.1 hg).1, hx, fun j => frozen_of_row w g j cur e hg, fun j u hu => ?_⟩
    rw [cell_of_row w g j cur e (0, 0) hg]
    rw [← ht, List.getElem?_take] at hu
    split at hu
    · simpa using hu
    · cases hu
end Go.Mem
namespace Go.Mem
/-- A fact that the walk's simp is not to use. -/
structure Kp (p : Prop) : Prop where
  out : p
end Go.Mem
namespace Go.Mem
open Go.RowKit Go.LawLift
section
variable {P : Program}
variable {ops : Array Oper} {Q : Exit → Act → World → Prop} {rest : List Oper} {o : Oper} {a : Act} {w0 w : World} {L : List Ent}
end
end Go.Mem
namespace Go.Mem
open Go.RowKit
end Go.Mem
namespace Go.Reg
open Go.RowKit Go.Mem
/-- A row of the region's own, of elements of whatever size. -/
def RowS (B : Nat) (T : TypeId) (s n : Nat) (xs : List Value) : Value → World → Prop := fun v w => w.ownsRow B T s v n xs
theorem RowS.mk {B : Nat} {T : TypeId} {s n : Nat} {xs : List Value} {v : Value} {w w' : World} (hB : B ≤ w.heap.size) (ho : w'.ownsRow w.heap.size T s v n xs) : RowS B T s n xs v w' :=
  ⟨ho.1, ho.2.imp id fun ⟨g, cap, cur, e1, e2, r⟩ => ⟨g, cap, cur, e1, Nat.le_trans hB e2, r⟩⟩
theorem RowS.stay {B : Nat} {T : TypeId} {s n : Nat} {xs : List Value} {v : Value} {w w' : World} (hs : AboveR B w w') (h : RowS B T s n xs v w) : RowS B T s n xs v w' := by
  refine ⟨h.1, ?_⟩
  rcases h.2 with hn | ⟨g, cap, cur, rfl, hb, hgg, rest⟩
  · exact .inl hn
  · exact .inr ⟨g, cap, cur, rfl, hb, (hs.2 g hb (Array.getElem?_eq_some_iff.1 hgg).1).trans hgg, rest⟩
end Go.Reg

set_option linter.unusedSimpArgs false
set_option linter.unusedVariables false
set_option maxRecDepth 100000
namespace Go.Proofs.Ytogliinfdfkobaa
open Go.RowKit Go.Mem Go.Reg Oct Hd Go.LawLift
/-- A loop over a tree's kids: the number so far. -/
def NRel (f : Nat → Nat) (n : Nat) (M : List Ent) (w : World) (x ix : Value) (wr : World) : Prop := ∃ i : Nat, i ≤ n ∧ ix = .int .i64 i ∧ x = .int .i64 (f i : Int) ∧ Hp w M wr
theorem NRel.mk {f : Nat → Nat} {n : Nat} {M : List Ent} {w wr : World} {x ix : Value} (i : Nat) (h1 : i ≤ n) (h2 : ix = .int .i64 i) (h3 : x = .int .i64 (f i : Int)) (h4 : Hp w M wr) : NRel f n M w x ix wr := ⟨i, h1, h2, h3, h4⟩
end Go.Proofs.Ytogliinfdfkobaa

set_option linter.unusedSimpArgs false
set_option linter.unusedVariables false
set_option maxRecDepth 100000
namespace Go.Proofs.Ytogliinfdfkobaa
open Go.RowKit Go.Mem Go.Reg Oct Hd Go.LawLift
/-- What few tells of a tree, at no more than 200 trees and 2000 bytes. -/
def FewR (t : Tree) (d x y : Nat) : Prop := 1 ≤ x ∧ x ≤ 201 * (d + 1) ∧ y ≤ 140737488351232 + 2001 * (d + 1) ∧ (x ≤ 200 → y ≤ 2000 → x = t.count ∧ y = t.total ∧ t.deep ≤ d)
/-- few's loop. -/
def FewL (bs : List UInt8) (ks : List Tree) (d : Nat) (M : List Ent) (w : World) (x y ix : Value) (wr : World) : Prop := ∃ i n m : Nat, i ≤ ks.length ∧ ix = .int .i64 i ∧ x = .int .i64 n ∧ y = .int .i64 m ∧ 1 ≤ n ∧ n ≤ 201 * (d + 2) ∧ m ≤ 140737488351232 + 2001 * (d + 2) ∧
  (n ≤ 200 → m ≤ 2000 → n = Tree.counts (ks.take i) + 1 ∧ m = bs.length + Tree.totals (ks.take i) ∧ Tree.deeps (ks.take i) ≤ d) ∧ Hp w M wr
theorem FewL.mk {bs : List UInt8} {ks : List Tree} {d : Nat} {M : List Ent} {w wr : World} {x y ix : Value} (i n m : Nat) (h1 : i ≤ ks.length) (h2 : ix = .int .i64 i) (h3 : x = .int .i64 n) (h4 : y = .int .i64 m) (h5 : 1 ≤ n) (h6 : n ≤ 201 * (d + 2)) (h7 : m ≤ 140737488351232 + 2001 * (d + 2))
  (h8 : n ≤ 200 → m ≤ 2000 → n = Tree.counts (ks.take i) + 1 ∧ m = bs.length + Tree.totals (ks.take i) ∧ Tree.deeps (ks.take i) ≤ d) (h9 : Hp w M wr) : FewL bs ks d M w x y ix wr := ⟨i, n, m, h1, h2, h3, h4, h5, h6, h7, h8, h9⟩
end Go.Proofs.Ytogliinfdfkobaa

/- Trees that a callee hands back within a drawn region: what the region knows of them, whatever else is made. No condition on a program. -/
set_option linter.unusedVariables false
namespace Go.Mem
open Go.RowKit Go.Reg
/-- Blocks from a on are as they were. -/
def Stay (a : Nat) (w w' : World) : Prop := ∀ k, a ≤ k → k < w.heap.size → w'.heap[k]? = w.heap[k]?
/-- A tree that lies below B or in what was made from a on: wherever these are as they are now. -/
def TreeK (a B : Nat) (w0 : World) (n : Nat) (t : Tree) (cs : List Value) (w : World) : Prop := ∀ w', w.heap.size ≤ w'.heap.size → Stay a w w' → Agree (· < B) w0 w' → ItP (fun b => b < B ∨ a ≤ b) w' n t cs
theorem TreeK.stay {a B n : Nat} {w0 w w' : World} {t : Tree} {cs : List Value} (h : TreeK a B w0 n t cs w) (hs : AboveR a w w') : TreeK a B w0 n t cs w' :=
  fun v h1 h2 h3 => h v (Nat.le_trans hs.1 h1) (fun k hk hl => (h2 k hk (Nat.lt_of_lt_of_le hl hs.1)).trans (hs.2 k hk hl)) h3
theorem TreeK.out {a B n : Nat} {w0 w : World} {L : List Ent} {t : Tree} {cs : List Value} (h : TreeK a B w0 n t cs w) (H : Hp w0 L w) (hB : B ≤ w0.heap.size) : ItP (fun b => b < B ∨ a ≤ b) w n t cs :=
  h w (Nat.le_refl _) (fun _ _ _ => rfl) (H.agree hB)
theorem TreeK.mk {a B n : Nat} {w0 w w1 : World} {L : List Ent} {t : Tree} {cs : List Value} (H : Hp w0 L w) (hB : B ≤ w0.heap.size) (ha : a ≤ w.heap.size) (hb : Below w.heap.size w w1) (h : ItP (fun b => b < B ∨ w.heap.size ≤ b) w1 n t cs) : TreeK a B w0 n t cs w1 := by
  intro v h1 h2 h3
  refine (h.weak (Q := fun b => b < B ∨ a ≤ b) fun b hb' _ => hb'.imp id fun h => Nat.le_trans ha h).move fun b hb' hl => ?_
  rcases hb' with hb' | hb'
  · have e1 := h3 b hb' (by omega)
    have e2 := (H.low.trans (hb.mono H.low.size)).block b (by omega)
    exact e1.trans e2.symm
  · exact h2 b hb' hl
/-- A value that is a tree's five cells. -/
def TreeV (a B : Nat) (w0 : World) (n : Nat) (t : Tree) (v : Value) (w : World) : Prop := ∃ d0 d1 d2 d3 d4 : Value, v = .agg #[d0, d1, d2, d3, d4] ∧ TreeK a B w0 n t [d0, d1, d2, d3, d4] w
theorem TreeV.stay {a B n : Nat} {w0 w w' : World} {t : Tree} {v : Value} (hs : AboveR a w w') (h : TreeV a B w0 n t v w) : TreeV a B w0 n t v w' := by
  obtain ⟨d0, d1, d2, d3, d4, e, h⟩ := h
  exact ⟨d0, d1, d2, d3, d4, e, h.stay hs⟩
theorem TreeV.mk {a B n : Nat} {w0 w w1 : World} {L : List Ent} {t : Tree} {cs : List Value} (H : Hp w0 L w) (hB : B ≤ w0.heap.size) (ha : a ≤ w.heap.size) (hb : Below w.heap.size w w1) (h : ItP (fun b => b < B ∨ w.heap.size ≤ b) w1 n t cs) : TreeV a B w0 n t (.agg cs.toArray) w1 := by
  match cs, h.len with
  | [d0, d1, d2, d3, d4], _ => exact ⟨d0, d1, d2, d3, d4, rfl, .mk H hB ha hb h⟩
/-- A slice of one tree. -/
def TreeS (a B : Nat) (w0 : World) (n : Nat) (t : Tree) (T : TypeId) (v : Value) (w : World) : Prop := ∃ k d0 d1 d2 d3 d4, v = .slice (some ⟨k, 0, none⟩) 1 1 ∧ a ≤ k ∧ w.heap[k]? = some (.cells #[d0, d1, d2, d3, d4] T (0, 0)) ∧ TreeK a B w0 n t [d0, d1, d2, d3, d4] w
theorem TreeS.stay {a B n : Nat} {w0 w w' : World} {t : Tree} {T : TypeId} {v : Value} (hs : AboveR a w w') (h : TreeS a B w0 n t T v w) : TreeS a B w0 n t T v w' := by
  obtain ⟨k, d0, d1, d2, d3, d4, e, hk, hh, h⟩ := h
  exact ⟨k, d0, d1, d2, d3, d4, e, hk, (hs.2 k hk (Array.getElem?_eq_some_iff.1 hh).1).trans hh, h.stay hs⟩
theorem TreeS.mk {a B n : Nat} {w0 w : World} {t : Tree} {T : TypeId} {d0 d1 d2 d3 d4 : Value} (ha : a ≤ w.heap.size) (h : TreeK a B w0 n t [d0, d1, d2, d3, d4] w) : TreeS a B w0 n t T (.slice (some ⟨w.heap.size, 0, none⟩) 1 1) (w.alloc (.cells #[d0, d1, d2, d3, d4] T)) :=
  ⟨_, d0, d1, d2, d3, d4, rfl, ha, heap_alloc_new w _, h.stay ⟨((Below.refl w.heap.size w).alloc (Nat.le_refl _) _).size, fun k _ hl => ((Below.refl w.heap.size w).alloc (Nat.le_refl _) _).block k hl⟩⟩
/-- All that was made from a on, kept behind what is known. -/
theorem Hp.keepAll {w0 w : World} {L : List Ent} {a : Nat} (H : Hp w0 L w) (hl : ∀ k ∈ fps L, k < a) (ha : w0.heap.size ≤ a) : Hp w0 (L ++ made a w) w := by
  have h := Hp.adopts H ha hl (made a w) (fun x hx => by
    obtain ⟨i, o, hi, ho, rfl⟩ := mem_made.1 hx
    exact ⟨ho, hi⟩) (by rw [fps_made]; exact List.nodup_range.sublist List.filter_sublist)
  exact h.perm List.perm_append_comm
/-- What is known of the kids that have come so far, in each later state of the call. -/
def KidsP (w0 : World) (B n : Nat) (ks : List Tree) (i : Nat) (vals : List Value) (Os : List Ent) : Prop :=
  vals.length = i * 5 ∧ ∀ w L, Hp w0 L w → (∀ x ∈ Os, x ∈ L) → ∀ j, (hj : j < ks.length) → j < i → ItP (Kept B Os) w n ks[j] ((vals.drop (j * 5)).take 5)
theorem KidsP.zero {w0 : World} {B n : Nat} {ks : List Tree} : KidsP w0 B n ks 0 [] [] := ⟨rfl, fun _ _ _ _ j _ h => absurd h (Nat.not_lt_zero _)⟩
theorem KidsP.next {w0 w : World} {B n i a : Nat} {ks : List Tree} {vals : List Value} {Os L : List Ent} {d0 d1 d2 d3 d4 : Value} (h : KidsP w0 B n ks i vals Os) (hB : B ≤ w0.heap.size) (hi : i < ks.length)
    (H : Hp w0 L w) (hs : ∀ x ∈ Os ++ made a w, x ∈ L) (ht : ItP (fun b => b < B ∨ a ≤ b) w n ks[i] [d0, d1, d2, d3, d4]) : KidsP w0 B n ks (i + 1) (vals ++ [d0, d1, d2, d3, d4]) (Os ++ made a w) := by
  obtain ⟨hl, hk⟩ := h
  refine ⟨by rw [List.length_append, hl, Nat.add_mul]; rfl, fun w2 L2 H2 hs2 j hj hji => ?_⟩
  by_cases hlt : j < i
  · have h := (hk w2 L2 H2 (fun x hx => hs2 _ (List.mem_append_left _ hx)) j hj hlt).keptMore (Os' := Os ++ made a w) (fun x hx => List.mem_append_left _ hx)
    rwa [List.drop_append_of_le_length (by rw [hl]; omega), List.take_append_of_le_length (by rw [List.length_drop, hl]; omega)]
  · obtain rfl : j = i := by omega
    have e : ((vals ++ [d0, d1, d2, d3, d4]).drop (j * 5)).take 5 = [d0, d1, d2, d3, d4] := by
      rw [← hl, List.drop_left]
      rfl
    rw [e]
    refine (ht.weak (Q := Kept B (Os ++ made a w)) fun b hb hlb => hb.imp id fun hb => ⟨w.heap[b], List.mem_append_right _ (mem_made.2 ⟨b, _, hb, by simp [hlb], rfl⟩)⟩).move ?_
    exact Kept.agree hB H H2 hs hs2
theorem KidsP.more {w0 w : World} {B n i a : Nat} {ks : List Tree} {vals : List Value} {Os M : List Ent} {d0 d1 d2 d3 d4 : Value} (h : KidsP w0 B n ks i vals Os) (hB : B ≤ w0.heap.size) (hi : i < ks.length)
    (H : Hp w0 (M ++ Os) w) (hl : ∀ k ∈ fps (M ++ Os), k < a) (ha : w0.heap.size ≤ a) (ht : ItP (fun b => b < B ∨ a ≤ b) w n ks[i] [d0, d1, d2, d3, d4]) : ∃ Os2, Hp w0 (M ++ Os2) w ∧ KidsP w0 B n ks (i + 1) (vals ++ [d0, d1, d2, d3, d4]) Os2 := by
  have H2 := H.keepAll hl ha
  rw [List.append_assoc] at H2
  exact ⟨_, H2, h.next hB hi H2 (fun x hx => List.mem_append_right _ hx) ht⟩
/-- A tree of one's own making: its kids' row, and the kids. -/
theorem KidsP.tree {w0 w : World} {B n : Nat} {tg : Hd.Tg} {bs : List UInt8} {ks : List Tree} {vals : List Value} {Os L : List Ent} {vb rv : Value} {T : TypeId} (h : KidsP w0 B n ks ks.length vals Os) (hB : B ≤ w0.heap.size)
    (H : Hp w0 L w) (hs : ∀ x ∈ Os, x ∈ L) (i : Nat) (hi : L[i]? = some (.row T 5 rv ks.length vals)) (hb : Rob (fun b => b < B ∨ w0.heap.size ≤ b) (fun w => Bs w vb bs) w) :
    ItP (fun b => b < B ∨ w0.heap.size ≤ b) w (n + 1) (.mk tg bs ks) [.int .i64 tg.c, .int .i64 tg.n, .bool tg.m, vb, rv] := by
  have hown : w.ownsRow w0.heap.size T 5 rv ks.length vals := H.ok _ (List.mem_of_getElem? hi)
  rcases hown.2 with ⟨rfl, hz⟩ | ⟨g, cap, cur, rfl, hg1, hg2, hnc, hcm, -⟩
  · have hk0 : ks.length = 0 := by omega
    exact ⟨vb, none, 0, by rw [hk0], hb, by omega, by simp [maxLen], fun _ => rfl, fun j hj => by omega⟩
  · have hc := (H.rowCellN i hi).2.2.2
    refine ⟨vb, _, cap, rfl, hb, by omega, by simpa [maxLen] using hcm, (fun e => by cases e), fun j hj => ?_⟩
    refine ⟨g, 0, rfl, .inr ?_, ?_, (vals.drop (j * 5)).take 5, ?_, fun k u hu => ?_, ?_⟩
    · first | exact hg1 | exact hg2
    · exact (H.rowCellN i hi).1
    · rw [List.length_take, List.length_drop, h.1]; omega
    · refine hc _ _ ?_
      rw [List.getElem?_take, List.getElem?_drop] at hu
      split at hu
      · rw [← hu]; congr 1; omega
      · cases hu
    · exact ((h.2 w L H hs j hj hj).keptOut H hs)
theorem ItP.ones {P : Nat → Prop} {w : World} {n : Nat} {t : Tree} {cs : List Value} (h : ItP P w n t cs) : ∀ u ∈ cs, u.oneCell' = true := by
  cases n with
  | zero => exact h.elim
  | succ n =>
    obtain ⟨t, bs, ks⟩ := t
    obtain ⟨vb, A, c, rfl, hb, -⟩ := h
    obtain ⟨B, c2, e, -⟩ := hb.out
    intro u hu
    simp only [List.mem_cons, List.not_mem_nil, or_false] at hu
    rcases hu with rfl | rfl | rfl | rfl | rfl
    · rfl
    · rfl
    · rfl
    · rw [e]; rfl
    · rfl
theorem cells_of {w : World} {k : Nat} {cs : List Value} {T : TypeId} {fz : Nat × Nat} (h : w.heap[k]? = some (.cells cs.toArray T fz)) : ∀ (j : Nat) (u : Value), cs[j]? = some u → w.cell? ((⟨k, 0, none⟩ : Addr).add j) = some u := by
  intro j u hu
  by_cases hj : j = 0
  · subst hj
    simp [World.cell?, Addr.add, h, hu]
  · simp [World.cell?, Addr.add, h, hu, hj]
/-- Bytes of one's own making, wherever new memory and old memory are as they are. -/
theorem Hp.rowRob {w0 w : World} {L : List Ent} {B : Nat} {T : TypeId} {v : Value} {n : Nat} {bs : List UInt8} (H : Hp w0 L w) (i : Nat) (hi : L[i]? = some (.row T 1 v n (bs.map u8c))) : Rob (fun b => b < B ∨ w0.heap.size ≤ b) (fun w => Bs w v bs) w := by
  intro w2 ha
  have hown : w.ownsRow w0.heap.size T 1 v n (bs.map u8c) := H.ok _ (List.mem_of_getElem? hi)
  obtain ⟨hn, hr⟩ := hown
  rw [List.length_map, Nat.mul_one] at hn
  rcases hr with ⟨rfl, hz⟩ | ⟨g, cap, cur, rfl, hg1, hg2, hnc, hcm, -⟩
  · obtain rfl := List.eq_nil_of_length_eq_zero (show bs.length = 0 by omega)
    exact Bs.nil w2
  · have hc := (H.rowCellN i hi).2.2.2
    have hg := (H.rowCellN i hi).1
    have hP : g < B ∨ w0.heap.size ≤ g := .inr (by first | exact hg1 | exact hg2)
    refine Bs.mk hn (by omega) (by simpa [maxLen] using hcm) (fun e => by cases e) fun _ => ⟨g, 0, rfl, ha.lt hP hg, fun j hj => ?_⟩
    rw [cell_agree ha hP hg]
    exact hc _ _ (by simp [hj])
theorem Hp.drop1 {w0 w : World} {L : List Ent} {x : Ent} (H : Hp w0 (x :: L) w) : Hp w0 L w :=
  H.pick (fun _ hx => List.mem_cons_of_mem _ hx) (H.nd.sublist ((List.sublist_cons_self x L).filterMap _))
theorem Tree.totals_at : ∀ (ks : List Tree) (i : Nat) (h : i < ks.length), ks[i].total ≤ Tree.totals ks
  | k :: r, 0, _ => by simp only [Tree.totals, List.getElem_cons_zero]; omega
  | k :: r, i + 1, h => by
    have := Tree.totals_at r i (by simpa using h)
    simp only [Tree.totals, List.getElem_cons_succ]
    omega
theorem ItP.forms {P : Nat → Prop} {w : World} {n : Nat} {t : Tree} {d0 d1 d2 d3 d4 : Value} (h : ItP P w n t [d0, d1, d2, d3, d4]) : ∃ (x y : Int) (b : Bool) (A A2 : Option Addr) (k c k2 c2 : Nat), d0 = .int .i64 x ∧ d1 = .int .i64 y ∧ d2 = .bool b ∧ d3 = .slice A k c ∧ d4 = .slice A2 k2 c2 := by
  obtain ⟨m, rfl⟩ := h.pos
  obtain ⟨vb, A, c, e, hb, -⟩ := h.open
  obtain ⟨B, c2, e2, -⟩ := hb
  simp only [List.cons.injEq, and_true] at e
  obtain ⟨r0, r1, r2, r3, r4⟩ := e
  exact ⟨_, _, _, _, _, _, _, _, _, r0, r1, r2, r3.trans e2, r4⟩
/-- A caller keeps a tree that a callee has made. -/
theorem Hp.keepTree {w0 w1 w2 : World} {L : List Ent} {B n : Nat} {t : Tree} {cs : List Value} (H : Hp w0 L w1) (hB : B ≤ w0.heap.size) (hb : Below w1.heap.size w1 w2) (ht : ItP (fun b => b < B ∨ w1.heap.size ≤ b) w2 n t cs) :
    ∃ Os, Hp w0 (L ++ Os) w2 ∧ ∀ w3 L3, Hp w0 L3 w3 → (∀ x ∈ Os, x ∈ L3) → ItP (fun b => b < B ∨ w0.heap.size ≤ b) w3 n t cs := by
  have H2 := (H.step hb).keepAll (Hp.lows H) H.low.size
  refine ⟨_, H2, fun w3 L3 H3 hs => ?_⟩
  have h1 : ItP (Kept B (made w1.heap.size w2)) w2 n t cs := by simpa using ht.kept (Os := [])
  exact (h1.move (Kept.agree hB H2 H3 (fun x hx => List.mem_append_right _ hx) hs)).keptOut H3 hs
/-- The tree at a path. -/
def findT (t : Tree) : List Int → Option Tree
  | [] => some t
  | i :: r => if h : 0 ≤ i ∧ i.toNat < t.kids.length then findT (t.kids[i.toNat]'h.2) r else none
theorem findT_yes {t : Tree} {i : Int} {r : List Int} (h1 : 0 ≤ i) (h2 : i.toNat < t.kids.length) : findT t (i :: r) = findT t.kids[i.toNat] r := by
  rw [findT, dif_pos ⟨h1, h2⟩]
theorem findT_no {t : Tree} {i : Int} {r : List Int} (h : ¬ (0 ≤ i ∧ i.toNat < t.kids.length)) : findT t (i :: r) = none := by
  rw [findT, dif_neg h]
theorem findT_drop {t : Tree} {ps : List Int} {j : Nat} (h : j < ps.length) : findT t (ps.drop j) = findT t (ps[j] :: ps.drop (j + 1)) := by
  rw [List.drop_eq_getElem_cons h]
mutual
/-- Right tags, and parts such as they must be. -/
def Tree.sound : Tree → Bool
  | .mk t bs ks => Hd.okTag t && (if t.m then decide (bs.length = 0) else decide (ks.length = 0)) && Tree.sounds ks
def Tree.sounds : List Tree → Bool
  | [] => true
  | k :: r => k.sound && Tree.sounds r
end
theorem Tree.sounds_at : ∀ (ks : List Tree) (i : Nat) (h : i < ks.length), ks[i].sound = false → Tree.sounds ks = false
  | k :: r, 0, _, e => by rw [Tree.sounds, show k.sound = false from e, Bool.false_and]
  | k :: r, i + 1, h, e => by rw [Tree.sounds, Tree.sounds_at r i (by simpa using h) (by simpa using e), Bool.and_false]
end Go.Mem

