/- Lemmas and walks on the way to the seat's laws; each theorem says its own conditions. -/
import Derived.Test.YtmmjghdobdendaaDoorRangeH
import Derived.Shelf.Abstract
import Derived.Shelf.RegionOpen
import Derived.WalkKit
import Derived.OwnWalkIn
import Derived.TacticsInMore
import Derived.LoopNIn
import Derived.LoopIn
import Derived.Maps.AppendAt
set_option linter.unusedSimpArgs false
set_option linter.unusedVariables false
set_option linter.unusedSimpArgs false
set_option linter.unusedVariables false
set_option maxRecDepth 100000
namespace Go.Proofs.YtmmjghdobdendaaDoor
open Go.RowKit Go.Mem Go.Reg Oct Bit Go.Txt Go.Shelf Go.LawLift
attribute [local go_sem] Oper.semAt_some
/-- The iterator's box, and all that lay ahead. -/
def BoxW (w0 : World) (bx : Nat) (v : Value) (X : World) : Prop := X.heap[bx]? = some (.cells #[v] 23 (0, 0)) ∧ Below w0.heap.size w0 X
theorem BoxW.step {w0 : World} {bx : Nat} {v : Value} {X X' : World} (h : BoxW w0 bx v X) (b : Below X.heap.size X X') : BoxW w0 bx v X' :=
  ⟨(b.block bx (Array.getElem?_eq_some_iff.1 h.1).1).trans h.1, h.2.trans (b.mono h.2.size)⟩
theorem BoxW.kp {w0 : World} {bx : Nat} {v : Value} {X X' : World} (h : BoxW w0 bx v X) (k : KpX w0.heap.size bx X X') : BoxW w0 bx v X' := ⟨k.1.trans h.1, h.2.trans k.2.1⟩
theorem BoxW.cell {w0 : World} {bx : Nat} {v : Value} {X : World} (h : BoxW w0 bx v X) : X.cell? ⟨bx, 0, none⟩ = some v := by rw [cell_of_row X bx 0 _ _ (0, 0) h.1]; rfl
theorem BoxW.old {w0 : World} {bx : Nat} {v : Value} {X : World} (h : BoxW w0 bx v X) {p : Addr} (hp : p.block < w0.heap.size) : X.cell? p = w0.cell? p := h.2.cell hp
def encI (x : Int) : Array Value := #[.int .i64 x]
set_option maxRecDepth 100000 in
set_option maxHeartbeats 2000000 in
theorem single_in (n : Nat) (h1 : 1 ≤ n) (w0 : World) (bx : Nat) (l : List UInt8) (v : Value) (hb : Bs w0 v l) (hl : l.length ≤ 1000000) :
    SeqX n Tryd.prog 70 #[.pointer (some ⟨bx, 0, none⟩)] encI bx (KpX w0.heap.size bx) (BoxW w0 bx v) (fun ys => ys = sgS l) (fun pre => ∃ j, pre = (sgS l).take j) l.length := by
  intro l0 J Jx W hW hJ hJx hY h0
  obtain ⟨A, c, rfl, hlc, hcm, hA, hcell⟩ := hb.open
  have C := hW.cell
  refine callsIn_of_wp Tryd.func70 rfl trivial ?_ rfl
  simp only [Tryd.ntmps70, List.size_toArray, List.length_cons, List.length_nil, Nat.reduceAdd, Nat.reduceSub, Array.replicate_succ, Array.replicate_zero, List.push_toArray, List.append_toArray, List.nil_append, List.cons_append]
  gi_wp2
  gi_loopw [7] (fun ix wr => ∃ i : Nat, i ≤ l.length ∧ ix = .int .i64 i ∧ BoxW w0 bx (.slice A l.length c) wr ∧ J ((sgS l).take i) wr) (fun ix _ => l.length - (intOf ix).toNat)
  case atStart => exact ⟨0, Nat.zero_le _, rfl, hW, h0⟩
  case round =>
    clear C
    obtain ⟨i, hi, rfl, hO, hJi⟩ := hrel
    have hlen : (sgS l).length = l.length := by unfold sgS; simp
    by_cases hlt : i < l.length
    · obtain ⟨b, o, rfl, hgl, hc⟩ := hcell i hlt
      replace hc := (hO.old (p := ⟨b, o + i, none⟩) hgl).trans (hc i hlt)
      have gs : (sgS l).take (i + 1) = (sgS l).take i ++ [(l[i].toNat : Int)] := by
        rw [List.take_add_one, List.getElem?_eq_getElem (by omega), Option.toList_some]
        simp [sgS]
      have u1 := l[i].toNat_lt
      obtain ⟨fn, tmps, assign, body, hy, hR⟩ := hY _ (l[i].toNat : Int) wr hJi (by rw [List.length_take]; omega)
      dsimp only [encI] at hy
      replace gs := Kp.mk gs
      generalize l[i].toNat = x at *
      gi_wp2
      refine hR.mono ?_
      rintro e X3 (⟨rfl, hJ3, hk3⟩ | ⟨rfl, hJx3⟩)
      · have hO3 := hO.kp hk3
        gi_wp2
        go_roundw
        case rel => exact ⟨i + 1, by omega, by go_num, hO3, by rw [gs.out]; exact hJ3⟩
        case measure => simp [intOf]; omega
      · gi_wp2
        refine bodyPost_ret (results_none rfl _ _ _) rfl ?_
        exact ⟨⟨_, rfl⟩, .inr ⟨_, ⟨i + 1, gs.out.symm⟩, hJx3⟩⟩
    · obtain rfl : i = l.length := by omega
      gi_wp2
      go_end0
      rw [List.take_of_length_le (by omega)] at hJi
      exact ⟨⟨_, rfl⟩, .inl ⟨_, rfl, hJi⟩⟩
end Go.Proofs.YtmmjghdobdendaaDoor

set_option linter.unusedSimpArgs false
set_option linter.unusedVariables false
set_option maxRecDepth 100000
namespace Go.Proofs.YtmmjghdobdendaaDoor
open Go.RowKit Go.Mem Go.Reg Oct Bit Go.Txt Go.Shelf Go.LawLift
attribute [local go_sem] Oper.semAt_some
theorem _root_.Go.Mem.Bs.tl {w : World} {b o n c : Nat} {l : List UInt8} (h : Bs w (.slice (some ⟨b, o, none⟩) n c) l) (k : Nat) (hk : k ≤ n) : Bs w (.slice (if c = k then some ⟨b, o, none⟩ else some ⟨b, o + k, none⟩) (n - k) (c - k)) (l.drop k) := by
  have hn : l.length = n := by
    obtain ⟨A, c', e, -⟩ := h.open
    injection e with e1 e2 e3
    omega
  have h2 := h.cut k (n - k) (by omega)
  rw [List.take_of_length_le (by rw [List.length_drop]; omega)] at h2
  by_cases hk0 : k = 0
  · subst hk0
    simpa [Addr.add] using h2
  · simpa [Addr.add, hk0] using h2
theorem BoxW.put {w0 : World} {bx : Nat} {v : Value} {X : World} (h : BoxW w0 bx v X) (hbx : w0.heap.size ≤ bx) (v' : Value) : BoxW w0 bx v' (X.setCell ⟨bx, 0, none⟩ v') :=
  ⟨heap_same h.1 v', h.2.setCell (p := ⟨bx, 0, none⟩) hbx _⟩
def lenOf (w : World) (bx : Nat) : Nat := match w.cell? ⟨bx, 0, none⟩ with | some (.slice _ n _) => n | _ => 0
theorem lenOf_eq {w0 : World} {bx n c : Nat} {A : Option Addr} {X : World} (h : BoxW w0 bx (.slice A n c) X) : lenOf X bx = n := by
  unfold lenOf
  rw [h.cell]
theorem sgP_two (a b : UInt8) (r : List UInt8) : sgP (a :: b :: r) = ((a.toNat : Int) * 256 + (b.toNat : Int)) :: sgP r := rfl
theorem or_byte (a b : Nat) (ha : a < 256) (hb : b < 256) : bits BinOp.or IntKind.i64 ((a : Int) * 256) (b : Int) = (a : Int) * 256 + (b : Int) := by
  unfold bits
  simp
  rw [show (2 : Int) ^ IntKind.i64.bits = 18446744073709551616 by decide, show (2 : Nat) ^ IntKind.i64.bits = 18446744073709551616 by decide]
  have h1 : ((a : Int) * 256 % 18446744073709551616).toNat = a <<< 8 := by rw [Nat.shiftLeft_eq]; omega
  have h2 : b % 18446744073709551616 = b := by omega
  rw [h1, h2, ← Nat.shiftLeft_add_eq_or_of_lt (by omega : b < 2 ^ 8), Nat.shiftLeft_eq]
  simp [IntKind.wrap, IntKind.bits, IntKind.signed]
  omega
theorem wr64 {z : Int} (h0 : 0 ≤ z) (h1 : z < 9000000000) : IntKind.i64.wrap z = z := by
  simp [IntKind.wrap, IntKind.bits, IntKind.signed]
  omega
set_option maxRecDepth 100000 in
set_option maxHeartbeats 2000000 in
theorem pairs_in (n : Nat) (h1 : 1 ≤ n) (w0 : World) (bx : Nat) (hbx : w0.heap.size ≤ bx) (l : List UInt8) (v : Value) (hb : Bs w0 v l) (hl : l.length ≤ 1000000) :
    SeqX n Tryd.prog 69 #[.pointer (some ⟨bx, 0, none⟩)] encI bx (KpX w0.heap.size bx) (BoxW w0 bx v) (fun ys => ys = sgP l) (fun pre => ∃ j, pre = (sgP l).take j) (l.length + 1) := by
  intro l0 J Jx W hW hJ hJx hY h0
  refine callsIn_of_wp Tryd.func69 rfl trivial ?_ rfl
  simp only [Tryd.ntmps69, List.size_toArray, List.length_cons, List.length_nil, Nat.reduceAdd, Nat.reduceSub, Array.replicate_succ, Array.replicate_zero, List.push_toArray, List.append_toArray, List.nil_append, List.cons_append]
  gi_wp2
  gi_loopw [3] (fun _ wr => ∃ (r : List UInt8) (pre : List Int) (v' : Value), sgP l = pre ++ sgP r ∧ pre.length ≤ l.length ∧ r.length + pre.length ≤ l.length ∧ BoxW w0 bx v' wr ∧ Bs w0 v' r ∧ J pre wr) (fun _ wr => lenOf wr bx)
  case atStart => exact ⟨l, [], v, rfl, by simp, by simp, hW, hb, h0⟩
  case round =>
    obtain ⟨r, pre, v', hs, hp1, hp2, hO, hb', hJi⟩ := hrel
    clear hb
    obtain ⟨A, c, rfl, hlc, hcm, hA, hcell⟩ := hb'.open
    have C := hO.cell
    rcases r with _ | ⟨x, _ | ⟨y, r⟩⟩
    · simp only [List.length_nil] at *
      gi_wp2
      go_end0
      exact ⟨⟨_, rfl⟩, .inl ⟨_, by rw [hs]; simp [sgP], hJi⟩⟩
    · simp only [List.length_cons, List.length_nil] at *
      obtain ⟨fn, tmps, assign, body, hyy, hR⟩ := hY pre (-1) wr hJi (by omega)
      dsimp only [encI] at hyy
      gi_wp2
      refine hR.mono ?_
      rintro e X3 (⟨rfl, hJ3, hk3⟩ | ⟨rfl, hJx3⟩)
      · gi_wp2
        go_end0
        exact ⟨⟨_, rfl⟩, .inl ⟨_, by rw [hs]; rfl, hJ3⟩⟩
      · gi_wp2
        go_end0
        exact ⟨⟨_, rfl⟩, .inr ⟨_, ⟨pre.length + 1, by rw [hs, List.take_length_add_append]; rfl⟩, hJx3⟩⟩
    · skip
      obtain ⟨b, o, rfl, hgl, hc0⟩ := hcell 0 (by simp)
      have hx := (hO.old (p := ⟨b, o + 0, none⟩) hgl).trans (hc0 0 (by simp))
      have hy := (hO.old (p := ⟨b, o + 1, none⟩) hgl).trans (hc0 1 (by simp))
      simp only [Nat.add_zero, List.getElem_cons_zero, List.getElem_cons_succ] at hx hy
      simp only [List.length_cons] at *
      have u1 := x.toNat_lt
      have u2 := y.toNat_lt
      have gor := or_byte x.toNat y.toNat u1 u2
      obtain ⟨fn, tmps, assign, body, hyy, hR⟩ := hY pre ((x.toNat : Int) * 256 + (y.toNat : Int)) wr.drew (hJ _ _ _ hJi (Only.of_below _ ((Below.refl _ _).drew))) (by omega)
      dsimp only [encI] at hyy
      have ew1 := wr64 (z := (x.toNat : Int)) (by omega) (by omega)
      have ew2 := wr64 (z := (x.toNat : Int) * 256) (by omega) (by omega)
      have ew3 := wr64 (z := (y.toNat : Int)) (by omega) (by omega)
      gi_wp2
      have hR' := hR.mono (R' := fun e W' => ∃ bv, e = .returned (.bool bv) ∧ ((bv = true ∧ J (pre ++ [(x.toNat : Int) * 256 + (y.toNat : Int)]) W' ∧ KpX w0.heap.size bx wr.drew W') ∨ (bv = false ∧ Jx (pre ++ [(x.toNat : Int) * 256 + (y.toNat : Int)]) W'))) (by
        rintro e W' (⟨rfl, h2, h3⟩ | ⟨rfl, h2⟩)
        · exact ⟨true, rfl, .inl ⟨rfl, h2, h3⟩⟩
        · exact ⟨false, rfl, .inr ⟨rfl, h2⟩⟩)
      clear hR
      have gS := Kp.mk (sgP_two x y r)
      generalize (x.toNat : Int) = X at *
      generalize (y.toNat : Int) = Y at *
      gi_region_with (refine hR'.mono ?_; rintro e X3 ⟨bv, rfl, hX⟩)
      all_goals (
        have hO2 := hO.step (X' := wr.drew) ((Below.refl _ _).drew)
        rcases hX with ⟨rfl, hJ3, hk3⟩ | ⟨rfl, hJx3⟩
        · have hO3 := hO2.kp hk3
          have C3 := hO3.cell
          have F3 : X3.frozen? ⟨bx, 0, none⟩ = false := frozen_of_row X3 bx 0 _ _ hO3.1
          have hl3 := lenOf_eq hO
          gi_wp2
          have hP := hO3.put hbx (.slice (if c = 2 then some { block := b, off := o } else some { block := b, off := o + 2 }) r.length (c - 2))
          have hT := hb'.tl 2 (by omega)
          simp only [Nat.add_sub_cancel, Nat.reduceAdd, Nat.add_assoc, List.drop_succ_cons, List.drop_zero] at hT
          refine ⟨⟨r, pre ++ [X * 256 + Y], _, by rw [hs, gS.out]; simp, by rw [List.length_append, List.length_singleton]; omega, by rw [List.length_append, List.length_singleton]; omega, hP, hT, hJ _ _ _ hJ3 (Only.setCell _ _ _ _)⟩, ?_⟩
          rw [lenOf_eq hP, hl3]
          omega
        · gi_wp2
          refine bodyPost_ret (results_none rfl _ _ _) rfl ?_
          exact ⟨⟨_, rfl⟩, .inr ⟨_, ⟨pre.length + 1, by rw [hs, gS.out, List.take_length_add_append]; rfl⟩, hJx3⟩⟩)
end Go.Proofs.YtmmjghdobdendaaDoor

