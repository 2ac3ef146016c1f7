/- A make within a region that draws. No condition on a program. -/
import Derived.Test.YtldblmgmcmnepaaRegM
import Derived.Test.YtldblmgmcmnepaaBytes
import Derived.OwnWalk
set_option linter.unusedSimpArgs false
set_option linter.unusedVariables false
namespace Go.Reg
open Go.RowKit Go.Mem
theorem made_u8 (n : Nat) : (madeCells (Value.int .u8 0).cells (n * 1)).toList = (List.replicate n (0 : UInt8)).map u8c := by
  rw [Nat.mul_one]
  have : madeCells (Value.int .u8 0).cells n = Array.replicate n (.int .u8 0) := by
    apply Array.ext
    · simp [madeCells, Value.cells]
    · intro i h1 h2
      simp [madeCells, Value.cells, Nat.mod_one]
  rw [this]
  simp [u8c]
end Go.Reg
namespace Go.Reg
open Go.RowKit Go.Mem
theorem RowJ.bs {B : Nat} {T : TypeId} {n : Nat} {l : List UInt8} {v : Value} {w : World} (h : RowJ B T n (l.map u8c) v w) : Bs w v l := by
  have hn : n = (l.map u8c).length := by
    rcases h with ⟨h1, h2⟩
    omega
  subst hn
  exact slice_of_own h
/-- Two rows in a slice of two. -/
def TwoJ (B : Nat) (U T : TypeId) (n m : Nat) (a b : List UInt8) : Value → World → Prop := fun v w =>
  ∃ k x y, v = .slice (some ⟨k, 0, none⟩) 2 2 ∧ B ≤ k ∧ w.heap[k]? = some (.cells #[x, y] U (0, 0)) ∧ RowJ B T n (a.map u8c) x w ∧ RowJ B T m (b.map u8c) y w
theorem TwoJ.stay {B : Nat} {U T : TypeId} {n m : Nat} {a b : List UInt8} {v : Value} {w w' : World} (hs : AboveR B w w') (h : TwoJ B U T n m a b v w) : TwoJ B U T n m a b v w' := by
  obtain ⟨k, x, y, e, hB, hk, hx, hy⟩ := h
  exact ⟨k, x, y, e, hB, (hs.2 k hB (Array.getElem?_eq_some_iff.1 hk).1).trans hk, hx.stay hs, hy.stay hs⟩
theorem TwoJ.mk {B : Nat} {U T : TypeId} {n m : Nat} {a b : List UInt8} {x y : Value} {w : World} (hB : B ≤ w.heap.size) (hx : RowJ B T n (a.map u8c) x w) (hy : RowJ B T m (b.map u8c) y w) :
    TwoJ B U T n m a b (.slice (some ⟨w.heap.size, 0, none⟩) 2 2) (w.alloc (.cells #[x, y] U)) := by
  have hb : Below w.heap.size w (w.alloc (.cells #[x, y] U)) := (Below.refl _ _).alloc (Nat.le_refl _) _
  have ha : AboveR B w (w.alloc (.cells #[x, y] U)) := ⟨hb.size, fun k _ hl => hb.block k hl⟩
  exact ⟨_, _, _, rfl, hB, heap_alloc_new w _, hx.stay ha, hy.stay ha⟩
end Go.Reg
namespace Go.Reg
open Go.RowKit Go.Mem
end Go.Reg
namespace Go.Reg
open Go.RowKit Go.Mem
/-- A row and a block of another type are apart. -/
theorem row_blk_apart {w : World} {B k : Nat} {T U : TypeId} {s n : Nat} {v : Value} {xs : List Value} {c : Array Value} (h : w.ownsRow B T s v n xs) (hk : w.heap[k]? = some (.cells c U (0, 0))) (hne : T ≠ U) :
    ∀ j, (Ent.row T s v n xs).fp = some j → (Ent.blk k c U).fp = some j → False := by
  intro j h1 h2
  simp only [Ent.fp, Option.some.injEq] at h1 h2
  subst h2
  rcases h.2 with ⟨rfl, -⟩ | ⟨g, cap, cur, rfl, -, hg, -⟩
  · simp [Value.ownBlock] at h1
  · simp only [Value.ownBlock, Option.some.injEq] at h1
    subst h1
    rw [hg] at hk
    injection hk with hk
    injection hk with _ e _
    exact hne e
end Go.Reg

