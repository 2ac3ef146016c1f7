/- A make within a region that draws. No condition on a program. -/
import Derived.Test.YtldblmgmcmnepaaRegM
import Derived.Test.YtldblmgmcmnepaaBytes
import Derived.OwnWalk
set_option linter.unusedSimpArgs false
set_option linter.unusedVariables false
namespace Go.Reg
open Go.RowKit Go.Mem
theorem wp_make_full {P : Program} {w : World} {o : Oper} {a : Act} {K : Act → World → Prop} {N : Exit → Act → World → Prop} (l c : Operand) (t : TypeId) (hop : o.op = Op.makeSlice t l c) {e : TypeId} {i : TypeInfo} {z : Value} {size : Nat} (h1 : P.underlying t = some (.slice e)) (h2 : P.info? e = some i) (h3 : i.zero = some z) (h4 : i.size = size)
    {kl kc : IntKind} {L C : Int} (n : Nat) (hl : a.eval l = .int kl L) (hc : a.eval c = .int kc C) (hL : L = (n : Int)) (hC : C = (n : Int)) (b2 : i.bytes * n ≤ 281474976710656) (b3 : n ≤ maxLen)
    (h : ∀ w', w'.ownsRow w.heap.size e size (.slice (some ⟨w.heap.size, 0, none⟩) n n) n (madeCells z.cells (n * size)).toList → Below w.heap.size w w' → K (a.put o.dst (.slice (some ⟨w.heap.size, 0, none⟩) n n)) w') : o.wp P a w K N := by
  obtain ⟨w', hrun, r1, r2⟩ := run_make_full (P := P) w w.heap.size t e i z size h1 h2 h3 h4 kl kc n b2 b3 (Nat.le_refl _)
  subst hL
  subst hC
  unfold Oper.wp
  simp [execOp, hop, hl, hc, hrun, Result.andThen]
  exact h w' r1 ⟨r2.os, r2.tape, r2.output, r2.size, fun k hk => r2.block k hk (by simp)⟩
theorem made_u8 (n : Nat) : (madeCells (Value.int .u8 0).cells (n * 1)).toList = (List.replicate n (0 : UInt8)).map u8c := by
  rw [Nat.mul_one]
  have : madeCells (Value.int .u8 0).cells n = Array.replicate n (.int .u8 0) := by
    apply Array.ext
    · simp [madeCells, Value.cells]
    · intro i h1 h2
      simp [madeCells, Value.cells, Nat.mod_one]
  rw [this]
  simp [u8c]
end Go.Reg
namespace Go.Reg
open Go.RowKit Go.Mem
theorem RowJ.bs {B : Nat} {T : TypeId} {n : Nat} {l : List UInt8} {v : Value} {w : World} (h : RowJ B T n (l.map u8c) v w) : Bs w v l := by
  have hn : n = (l.map u8c).length := by
    rcases h with ⟨h1, h2⟩
    omega
  subst hn
  exact slice_of_own h
/-- Two rows in a slice of two. -/
def TwoJ (B : Nat) (U T : TypeId) (n m : Nat) (a b : List UInt8) : Value → World → Prop := fun v w =>
  ∃ k x y, v = .slice (some ⟨k, 0, none⟩) 2 2 ∧ B ≤ k ∧ w.heap[k]? = some (.cells #[x, y] U (0, 0)) ∧ RowJ B T n (a.map u8c) x w ∧ RowJ B T m (b.map u8c) y w
theorem TwoJ.stay {B : Nat} {U T : TypeId} {n m : Nat} {a b : List UInt8} {v : Value} {w w' : World} (hs : AboveR B w w') (h : TwoJ B U T n m a b v w) : TwoJ B U T n m a b v w' := by
  obtain ⟨k, x, y, e, hB, hk, hx, hy⟩ := h
  exact ⟨k, x, y, e, hB, (hs.2 k hB (Array.getElem?_eq_some_iff.1 hk).1).trans hk, hx.stay hs, hy.stay hs⟩
theorem TwoJ.mk {B : Nat} {U T : TypeId} {n m : Nat} {a b : List UInt8} {x y : Value} {w : World} (hB : B ≤ w.heap.size) (hx : RowJ B T n (a.map u8c) x w) (hy : RowJ B T m (b.map u8c) y w) :
    TwoJ B U T n m a b (.slice (some ⟨w.heap.size, 0, none⟩) 2 2) (w.alloc (.cells #[x, y] U)) := by
  have hb : Below w.heap.size w (w.alloc (.cells #[x, y] U)) := (Below.refl _ _).alloc (Nat.le_refl _) _
  have ha : AboveR B w (w.alloc (.cells #[x, y] U)) := ⟨hb.size, fun k _ hl => hb.block k hl⟩
  exact ⟨_, _, _, rfl, hB, heap_alloc_new w _, hx.stay ha, hy.stay ha⟩
end Go.Reg
namespace Go.Reg
open Go.RowKit Go.Mem
end Go.Reg

