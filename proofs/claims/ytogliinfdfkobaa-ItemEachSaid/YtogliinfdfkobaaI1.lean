/- A law's slices of pairs of numbers opened. No condition. -/
import Derived.Test.YtogliinfdfkobaaInts
import Derived.Test.YtogliinfdfkobaaFrame
import Derived.Test.YtogliinfdfkobaaBytes
import Derived.OwnWalk
import Derived.Lib.SliceRun
import Derived.Test.YtogliinfdfkobaaHPlain
import Derived.Test.YtogliinfdfkobaaTree
set_option linter.unusedSimpArgs false
set_option linter.unusedVariables false
namespace Go.LawLift
open Go.RowKit Go.ChangeShapes Go.WideShapes Go.Deep Go.Mem
/-- A slice of pairs of numbers. -/
def Prs (k : IntKind) (w : World) (v : Value) (zs : List (Int × Int)) : Prop :=
  ∃ (A : Option Addr) (c : Nat), v = .slice A zs.length c ∧ zs.length ≤ c ∧ c ≤ 9223372036854775807 ∧ (A = none → c = 0) ∧
    (0 < zs.length → ∃ b o, A = some ⟨b, o, none⟩ ∧ b < w.heap.size ∧ ∀ j, (hj : j < zs.length) → w.cell? ⟨b, o + 2 * j, none⟩ = some (.int k zs[j].1) ∧ w.cell? ⟨b, o + (2 * j + 1), none⟩ = some (.int k zs[j].2))
theorem Prs.step {k : IntKind} {w w' : World} {v : Value} {zs : List (Int × Int)} (h : Prs k w v zs) (hb : Below w.heap.size w w') : Prs k w' v zs := by
  obtain ⟨A, c, rfl, h1, h2, h3, h4⟩ := h
  refine ⟨A, c, rfl, h1, h2, h3, fun hp => ?_⟩
  obtain ⟨b, o, e, hl, hc⟩ := h4 hp
  exact ⟨b, o, e, Nat.lt_of_lt_of_le hl hb.size, fun j hj => ⟨(hb.cell (p := ⟨b, o + 2 * j, none⟩) hl).trans (hc j hj).1, (hb.cell (p := ⟨b, o + (2 * j + 1), none⟩) hl).trans (hc j hj).2⟩⟩
section
variable {H : Type} {enc : TypeId × Value → H} {P : Program} {w : World} {base : Nat} {spare : Nat → Bool} {held : Bool}
theorem addr_add (b o n : Nat) : (⟨b, o, none⟩ : Addr).add n = ⟨b, o + n, none⟩ := by unfold Addr.add; split <;> simp_all
variable {t e t1 t2 : TypeId} {v : Value} {d : DataW H} {p : List MemPlace} {r : Reach} {b0 : Nat}
end
end Go.LawLift

/- A make within a region that draws. No condition on a program. -/
namespace Go.Reg
open Go.RowKit Go.Mem
end Go.Reg
namespace Go.Reg
open Go.RowKit Go.Mem
theorem RowJ.bs {B : Nat} {T : TypeId} {n : Nat} {l : List UInt8} {v : Value} {w : World} (h : RowJ B T n (l.map u8c) v w) : Bs w v l := by
  have hn : n = (l.map u8c).length := by
    rcases h with ⟨h1, h2⟩
    omega
  subst hn
  exact slice_of_own h
/-- Two rows in a slice of two. -/
def TwoJ (B : Nat) (U T : TypeId) (n m : Nat) (a b : List UInt8) : Value → World → Prop := fun v w =>
  ∃ k x y, v = .slice (some ⟨k, 0, none⟩) 2 2 ∧ B ≤ k ∧ w.heap[k]? = some (.cells #[x, y] U (0, 0)) ∧ RowJ B T n (a.map u8c) x w ∧ RowJ B T m (b.map u8c) y w
theorem TwoJ.stay {B : Nat} {U T : TypeId} {n m : Nat} {a b : List UInt8} {v : Value} {w w' : World} (hs : AboveR B w w') (h : TwoJ B U T n m a b v w) : TwoJ B U T n m a b v w' := by
  obtain ⟨k, x, y, e, hB, hk, hx, hy⟩ := h
  exact ⟨k, x, y, e, hB, (hs.2 k hB (Array.getElem?_eq_some_iff.1 hk).1).trans hk, hx.stay hs, hy.stay hs⟩
theorem TwoJ.mk {B : Nat} {U T : TypeId} {n m : Nat} {a b : List UInt8} {x y : Value} {w : World} (hB : B ≤ w.heap.size) (hx : RowJ B T n (a.map u8c) x w) (hy : RowJ B T m (b.map u8c) y w) :
    TwoJ B U T n m a b (.slice (some ⟨w.heap.size, 0, none⟩) 2 2) (w.alloc (.cells #[x, y] U)) := by
  have hb : Below w.heap.size w (w.alloc (.cells #[x, y] U)) := (Below.refl _ _).alloc (Nat.le_refl _) _
  have ha : AboveR B w (w.alloc (.cells #[x, y] U)) := ⟨hb.size, fun k _ hl => hb.block k hl⟩
  exact ⟨_, _, _, rfl, hB, heap_alloc_new w _, hx.stay ha, hy.stay ha⟩
end Go.Reg
namespace Go.Reg
open Go.RowKit Go.Mem
end Go.Reg
namespace Go.Reg
open Go.RowKit Go.Mem
/-- A row and a block of another type are apart. -/
theorem row_blk_apart {w : World} {B k : Nat} {T U : TypeId} {s n : Nat} {v : Value} {xs : List Value} {c : Array Value} (h : w.ownsRow B T s v n xs) (hk : w.heap[k]? = some (.cells c U (0, 0))) (hne : T ≠ U) :
    ∀ j, (Ent.row T s v n xs).fp = some j → (Ent.blk k c U).fp = some j → False := by
  intro j h1 h2
  simp only [Ent.fp, Option.some.injEq] at h1 h2
  subst h2
  rcases h.2 with ⟨rfl, -⟩ | ⟨g, cap, cur, rfl, -, hg, -⟩
  · simp [Value.ownBlock] at h1
  · simp only [Value.ownBlock, Option.some.injEq] at h1
    subst h1
    rw [hg] at hk
    injection hk with hk
    injection hk with _ e _
    exact hne e
end Go.Reg

/- Rows of pairs of numbers, two cells each. No condition. -/
namespace Go.Mem
open Go.RowKit Go.LawLift
def pv (zs : List (Int × Int)) : List Value := zs.flatMap fun p => [.int .i64 p.1, .int .i64 p.2]
theorem pv_cons (p : Int × Int) (zs : List (Int × Int)) : pv (p :: zs) = .int .i64 p.1 :: .int .i64 p.2 :: pv zs := rfl
theorem pv_len (zs : List (Int × Int)) : (pv zs).length = zs.length * 2 := by
  induction zs with
  | nil => rfl
  | cons p r ih => rw [pv_cons]; simp only [List.length_cons, ih]; omega
theorem pv_app (a b : List (Int × Int)) : pv (a ++ b) = pv a ++ pv b := by unfold pv; exact List.flatMap_append
theorem pv_get (zs : List (Int × Int)) (j : Nat) (hj : j < zs.length) : (pv zs)[2 * j]? = some (.int .i64 zs[j].1) ∧ (pv zs)[2 * j + 1]? = some (.int .i64 zs[j].2) := by
  induction zs generalizing j with
  | nil => simp at hj
  | cons p r ih =>
    rw [pv_cons]
    cases j with
    | zero => exact ⟨rfl, rfl⟩
    | succ j =>
      have := ih j (by simpa using hj)
      rw [show 2 * (j + 1) = 2 * j + 1 + 1 by omega, List.getElem?_cons_succ, List.getElem?_cons_succ, List.getElem?_cons_succ, List.getElem?_cons_succ]
      exact this
theorem Hp.pz {w0 w : World} {L : List Ent} (H : Hp w0 L w) {v : Value} {zs : List (Int × Int)} (h : Prs .i64 w0 v zs) : Prs .i64 w v zs := h.step H.low
theorem _root_.Go.LawLift.Prs.src {w : World} {A : Option Addr} {n c : Nat} {zs : List (Int × Int)} (h : Prs .i64 w (.slice A n c) zs) :
    (A = none → c = 0 ∧ n = 0) ∧ (pv zs).length = n * 2 ∧ (0 < n → ∃ ad, A = some ad ∧ ∀ (j : Nat) (u : Value), (pv zs)[j]? = some u → w.cell? (ad.add j) = some u) := by
  obtain ⟨A', c', e, h1, h2, h3, h4⟩ := h
  injection e with e1 e2 e3
  subst e1 e2 e3
  refine ⟨fun h => ⟨h3 h, by have := h3 h; omega⟩, pv_len zs, fun hp => ?_⟩
  obtain ⟨b, o, rfl, hl, hc⟩ := h4 hp
  refine ⟨_, rfl, fun j u hu => ?_⟩
  rw [addr_add]
  have hj : j < zs.length * 2 := by
    have := (List.getElem?_eq_some_iff.1 hu).1
    rwa [pv_len] at this
  have hg := pv_get zs (j / 2) (by omega)
  have hh := hc (j / 2) (by omega)
  rcases Nat.mod_two_eq_zero_or_one j with hm | hm
  · have hj2 : 2 * (j / 2) = j := by omega
    rw [hj2] at hg hh
    rw [hh.1]
    rw [hg.1] at hu
    exact hu
  · have hj2 : 2 * (j / 2) + 1 = j := by omega
    rw [hj2] at hg hh
    rw [hh.2]
    rw [hg.2] at hu
    exact hu
theorem _root_.Go.LawLift.Prs.open {w : World} {v : Value} {zs : List (Int × Int)} (h : Prs .i64 w v zs) : ∃ (A : Option Addr) (c : Nat), v = .slice A zs.length c ∧ zs.length ≤ c ∧ c ≤ 9223372036854775807 ∧ (A = none → c = 0) ∧
    ∀ k, (hk : k < zs.length) → ∃ b o, A = some ⟨b, o, none⟩ ∧ b < w.heap.size ∧ w.cell? ⟨b, o + k * 2, none⟩ = some (.int .i64 zs[k].1) ∧ w.cell? ⟨b, o + k * 2 + 1, none⟩ = some (.int .i64 zs[k].2) := by
  obtain ⟨A, c, rfl, h1, h2, h3, h4⟩ := h
  refine ⟨A, c, rfl, h1, h2, h3, fun k hk => ?_⟩
  obtain ⟨b, o, rfl, hl, hc⟩ := h4 (by omega)
  refine ⟨b, o, rfl, hl, ?_⟩
  rw [Nat.mul_comm k 2, Nat.add_assoc]
  exact ⟨(hc k hk).1, (hc k hk).2⟩
/-- A row of the call's own, of elements of whatever size: a cell read, a cell stored. -/
theorem Hp.rowCellN {w0 w : World} {L : List Ent} (H : Hp w0 L w) (i : Nat) {e : TypeId} {s n c g : Nat} {xs : List Value} (hi : L[i]? = some (.row e s (.slice (some ⟨g, 0, none⟩) n c) n xs)) :
    g < w.heap.size ∧ xs.length = n * s ∧ (∀ j, w.frozen? ⟨g, j, none⟩ = false) ∧ ∀ (j : Nat) (u : Value), xs[j]? = some u → w.cell? ⟨g, j, none⟩ = some u := by
  obtain ⟨hx, hr⟩ := (H.ok _ (List.mem_of_getElem? hi) : w.ownsRow w0.heap.size e s (.slice (some ⟨g, 0, none⟩) n c) n xs)
  rcases hr with ⟨h, _⟩ | ⟨g', cap, cur, hv, hb, hg, hnc, hcm, hcs, ht⟩
  · cases h
  · injection hv with e1 e2 e3
    injection e1 with e1
    injection e1 with e1
    subst e1 e3
    refine ⟨(Array.getElem?_eq_some_iff.1 hg).1, hx, fun j => frozen_of_row w g j cur e hg, fun j u hu => ?_⟩
    rw [cell_of_row w g j cur e (0, 0) hg]
    rw [← ht, List.getElem?_take] at hu
    split at hu
    · simpa using hu
    · cases hu
theorem Hp.rowSetN {w0 w : World} {L : List Ent} (H : Hp w0 L w) (i : Nat) {e : TypeId} {s n c g : Nat} {xs : List Value} (hi : L[i]? = some (.row e s (.slice (some ⟨g, 0, none⟩) n c) n xs)) (j : Nat) (u : Value) :
    Hp w0 (L.set i (.row e s (.slice (some ⟨g, 0, none⟩) n c) n (xs.set j u))) (w.setCell ⟨g, j, none⟩ u) := by
  have hok := (H.ok _ (List.mem_of_getElem? hi) : w.ownsRow w0.heap.size e s (.slice (some ⟨g, 0, none⟩) n c) n xs)
  refine H.turn i hi (Only.setCell w g j u) ?_ fun _ hk => .inl hk
  obtain ⟨hx, hr⟩ := hok
  rcases hr with ⟨h, _⟩ | ⟨g', cap, cur, hv, hb, hg, hnc, hcm, hcs, ht⟩
  · cases h
  · injection hv with e1 e2 e3
    injection e1 with e1
    injection e1 with e1
    subst e1 e3
    refine ⟨by simpa using hx, .inr ⟨g, c, cur.setIfInBounds j u, rfl, hb, heap_same hg u, hnc, hcm, by simpa using hcs, ?_⟩⟩
    rw [← ht, Array.toList_setIfInBounds, List.take_set]
end Go.Mem
namespace Go.Mem
/-- A fact that the walk's simp is not to use. -/
structure Kp (p : Prop) : Prop where
  out : p
end Go.Mem
namespace Go.Mem
open Go.RowKit Go.LawLift
section
variable {P : Program}
variable {ops : Array Oper} {Q : Exit → Act → World → Prop} {rest : List Oper} {o : Oper} {a : Act} {w0 w : World} {L : List Ent}
end
end Go.Mem
namespace Go.Mem
open Go.RowKit
end Go.Mem
namespace Go.Reg
open Go.RowKit Go.Mem
/-- A row of the region's own, of elements of whatever size. -/
def RowS (B : Nat) (T : TypeId) (s n : Nat) (xs : List Value) : Value → World → Prop := fun v w => w.ownsRow B T s v n xs
theorem RowS.mk {B : Nat} {T : TypeId} {s n : Nat} {xs : List Value} {v : Value} {w w' : World} (hB : B ≤ w.heap.size) (ho : w'.ownsRow w.heap.size T s v n xs) : RowS B T s n xs v w' :=
  ⟨ho.1, ho.2.imp id fun ⟨g, cap, cur, e1, e2, r⟩ => ⟨g, cap, cur, e1, Nat.le_trans hB e2, r⟩⟩
theorem RowS.stay {B : Nat} {T : TypeId} {s n : Nat} {xs : List Value} {v : Value} {w w' : World} (hs : AboveR B w w') (h : RowS B T s n xs v w) : RowS B T s n xs v w' := by
  refine ⟨h.1, ?_⟩
  rcases h.2 with hn | ⟨g, cap, cur, rfl, hb, hgg, rest⟩
  · exact .inl hn
  · exact .inr ⟨g, cap, cur, rfl, hb, (hs.2 g hb (Array.getElem?_eq_some_iff.1 hgg).1).trans hgg, rest⟩
end Go.Reg

set_option linter.unusedSimpArgs false
set_option linter.unusedVariables false
set_option maxRecDepth 100000
namespace Go.Proofs.Ytogliinfdfkobaa
open Go.RowKit Go.Mem Go.Reg Oct Hd Go.LawLift
/-- A loop over a tree's kids: the number so far. -/
def NRel (f : Nat → Nat) (n : Nat) (M : List Ent) (w : World) (x ix : Value) (wr : World) : Prop := ∃ i : Nat, i ≤ n ∧ ix = .int .i64 i ∧ x = .int .i64 (f i : Int) ∧ Hp w M wr
theorem NRel.mk {f : Nat → Nat} {n : Nat} {M : List Ent} {w wr : World} {x ix : Value} (i : Nat) (h1 : i ≤ n) (h2 : ix = .int .i64 i) (h3 : x = .int .i64 (f i : Int)) (h4 : Hp w M wr) : NRel f n M w x ix wr := ⟨i, h1, h2, h3, h4⟩
end Go.Proofs.Ytogliinfdfkobaa

