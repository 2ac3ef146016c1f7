/- Lemmas and walks on the way to the seat's laws; each theorem says its own conditions. -/
import Derived.Test.YtogliinfdfkobaaDoorT4
import Derived.Test.YtogliinfdfkobaaDoorRangeH
import Derived.Shelf.Abstract
import Derived.Shelf.RegionOpen
import Derived.WalkKit
import Derived.OwnWalkIn
import Derived.TacticsInMore
import Derived.LoopNIn
import Derived.LoopIn
import Derived.Maps.AppendAt
set_option linter.unusedSimpArgs false
set_option linter.unusedVariables false
set_option linter.unusedSimpArgs false
set_option linter.unusedVariables false
set_option maxRecDepth 100000
namespace Go.Proofs.YtogliinfdfkobaaDoor
open Go.RowKit Go.Mem Go.Reg Oct Bit Go.Txt Go.Shelf Go.LawLift
attribute [local go_sem] Oper.semAt_some
/-- The iterator's box, and all that lay ahead. -/
def BoxW (w0 : World) (bx : Nat) (v : Value) (X : World) : Prop := X.heap[bx]? = some (.cells #[v] 22 (0, 0)) ∧ Below w0.heap.size w0 X
theorem BoxW.step {w0 : World} {bx : Nat} {v : Value} {X X' : World} (h : BoxW w0 bx v X) (b : Below X.heap.size X X') : BoxW w0 bx v X' :=
  ⟨(b.block bx (Array.getElem?_eq_some_iff.1 h.1).1).trans h.1, h.2.trans (b.mono h.2.size)⟩
theorem BoxW.kp {w0 : World} {bx : Nat} {v : Value} {X X' : World} (h : BoxW w0 bx v X) (k : KpX w0.heap.size bx X X') : BoxW w0 bx v X' := ⟨k.1.trans h.1, h.2.trans k.2.1⟩
theorem BoxW.cell {w0 : World} {bx : Nat} {v : Value} {X : World} (h : BoxW w0 bx v X) : X.cell? ⟨bx, 0, none⟩ = some v := by rw [cell_of_row X bx 0 _ _ (0, 0) h.1]; rfl
theorem BoxW.old {w0 : World} {bx : Nat} {v : Value} {X : World} (h : BoxW w0 bx v X) {p : Addr} (hp : p.block < w0.heap.size) : X.cell? p = w0.cell? p := h.2.cell hp
def encI (x : Int) : Array Value := #[.int .i64 x]
set_option maxRecDepth 100000 in
set_option maxHeartbeats 2000000 in
theorem single_in (n : Nat) (h1 : 1 ≤ n) (w0 : World) (bx : Nat) (l : List UInt8) (v : Value) (hb : Bs w0 v l) (hl : l.length ≤ 1000000) :
    SeqX n Tryd.prog 71 #[.pointer (some ⟨bx, 0, none⟩)] encI bx (KpX w0.heap.size bx) (BoxW w0 bx v) (fun ys => ys = sgS l) (fun pre => ∃ j, pre = (sgS l).take j) l.length := by
  intro l0 J Jx W hW hJ hJx hY h0
  obtain ⟨A, c, rfl, hlc, hcm, hA, hcell⟩ := hb.open
  have C := hW.cell
  refine callsIn_of_wp Tryd.func71 rfl trivial ?_ rfl
  simp only [Tryd.ntmps71, List.size_toArray, List.length_cons, List.length_nil, Nat.reduceAdd, Nat.reduceSub, Array.replicate_succ, Array.replicate_zero, List.push_toArray, List.append_toArray, List.nil_append, List.cons_append]
  gi_wp2
  gi_loopw [7] (fun ix wr => ∃ i : Nat, i ≤ l.length ∧ ix = .int .i64 i ∧ BoxW w0 bx (.slice A l.length c) wr ∧ J ((sgS l).take i) wr) (fun ix _ => l.length - (intOf ix).toNat)
  case atStart => exact ⟨0, Nat.zero_le _, rfl, hW, h0⟩
  case round =>
    clear C
    obtain ⟨i, hi, rfl, hO, hJi⟩ := hrel
    have hlen : (sgS l).length = l.length := by unfold sgS; simp
    by_cases hlt : i < l.length
    · obtain ⟨b, o, rfl, hgl, hc⟩ := hcell i hlt
      replace hc := (hO.old (p := ⟨b, o + i, none⟩) hgl).trans (hc i hlt)
      have gs : (sgS l).take (i + 1) = (sgS l).take i ++ [(l[i].toNat : Int)] := by
        rw [List.take_add_one, List.getElem?_eq_getElem (by omega), Option.toList_some]
        simp [sgS]
      have u1 := l[i].toNat_lt
      obtain ⟨fn, tmps, assign, body, hy, hR⟩ := hY _ (l[i].toNat : Int) wr hJi (by rw [List.length_take]; omega)
      dsimp only [encI] at hy
      replace gs := Kp.mk gs
      generalize l[i].toNat = x at *
      gi_wp2
      refine hR.mono ?_
      rintro e X3 (⟨rfl, hJ3, hk3⟩ | ⟨rfl, hJx3⟩)
      · have hO3 := hO.kp hk3
        gi_wp2
        go_roundw
        case rel => exact ⟨i + 1, by omega, by go_num, hO3, by rw [gs.out]; exact hJ3⟩
        case measure => simp [intOf]; omega
      · gi_wp2
        refine bodyPost_ret (results_none rfl _ _ _) rfl ?_
        exact ⟨⟨_, rfl⟩, .inr ⟨_, ⟨i + 1, gs.out.symm⟩, hJx3⟩⟩
    · obtain rfl : i = l.length := by omega
      gi_wp2
      go_end0
      rw [List.take_of_length_le (by omega)] at hJi
      exact ⟨⟨_, rfl⟩, .inl ⟨_, rfl, hJi⟩⟩
end Go.Proofs.YtogliinfdfkobaaDoor

