/- Lemmas and walks on the way to the seat's laws; each theorem says its own conditions. -/
import Derived.Test.YtogliinfdfkobaaDoorB1
import Derived.Test.YtogliinfdfkobaaDoorB36
import Derived.Test.YtogliinfdfkobaaDoorLift
import Derived.Test.YtogliinfdfkobaaDoorH8
import Derived.WalkMore
set_option linter.unusedSimpArgs false
set_option linter.unusedVariables false
set_option linter.unusedSimpArgs false
set_option linter.unusedVariables false
set_option maxRecDepth 100000
namespace Go.Proofs.YtogliinfdfkobaaDoor
open Go.RowKit Go.Mem Go.Reg Oct
/-- A cursor over bytes l at place k: its block holds a slice that reads l, and k. -/
structure Cur (w : World) (b : Nat) (l : List UInt8) (k : Nat) (v : Value) : Prop where
  blk : w.heap[b]? = some (.cells #[v, .int .i64 (k : Int)] 84 (0, 0))
  bs : Bs w v l
  le : k ≤ l.length
  len : l.length ≤ 1000000
theorem Cur.lt {w : World} {b : Nat} {l : List UInt8} {k : Nat} {v : Value} (h : Cur w b l k v) : b < w.heap.size := (Array.getElem?_eq_some_iff.1 h.blk).1
theorem Cur.c0 {w : World} {b : Nat} {l : List UInt8} {k : Nat} {v : Value} (h : Cur w b l k v) : w.cell? ⟨b, 0, none⟩ = some v := by
  rw [cell_of_row w b 0 _ _ _ h.blk]; rfl
theorem Cur.c1 {w : World} {b : Nat} {l : List UInt8} {k : Nat} {v : Value} (h : Cur w b l k v) : w.cell? ⟨b, 1, none⟩ = some (.int .i64 (k : Int)) := by
  rw [cell_of_row w b 1 _ _ _ h.blk]; rfl
theorem Cur.fz {w : World} {b : Nat} {l : List UInt8} {k : Nat} {v : Value} (h : Cur w b l k v) (j : Nat) : w.frozen? ⟨b, j, none⟩ = false := frozen_of_row w b j _ _ h.blk
theorem Cur.step {w w' : World} {b : Nat} {l : List UInt8} {k : Nat} {v : Value} (h : Cur w b l k v) (hb : Below w.heap.size w w') : Cur w' b l k v :=
  ⟨(hb.block b h.lt).trans h.blk, h.bs.step hb, h.le, h.len⟩
/-- The same cursor at another place. -/
theorem Cur.put {w : World} {b : Nat} {l : List UInt8} {k : Nat} {v : Value} (h : Cur w b l k v) (n : Nat) (hn : n ≤ l.length) : (w.setCell ⟨b, 1, none⟩ (.int .i64 (n : Int))).heap[b]? = some (.cells #[v, .int .i64 (n : Int)] 84 (0, 0)) := by
  rw [Mem.heap_same h.blk]
  rfl
end Go.Proofs.YtogliinfdfkobaaDoor

set_option linter.unusedSimpArgs false
set_option linter.unusedVariables false
set_option maxRecDepth 100000
namespace Go.Proofs.YtogliinfdfkobaaDoor
open Go.RowKit Go.Mem Go.Reg Oct
/-- The cursor's block has turned, and nothing else that was there. -/
structure Moved (w : World) (b : Nat) (v : Value) (k : Nat) (w' : World) : Prop where
  only : Only (some b) w w'
  blk : w'.heap[b]? = some (.cells #[v, .int .i64 (k : Int)] 84 (0, 0))
theorem Moved.of_below {w w' : World} {b : Nat} {l : List UInt8} {k : Nat} {v : Value} (h : Cur w b l k v) (hb : Below w.heap.size w w') : Moved w b v k w' := ⟨Only.of_below _ hb, (h.step hb).blk⟩
theorem Moved.put {w w' : World} {b : Nat} {l : List UInt8} {k : Nat} {v : Value} (h : Cur w b l k v) (hb : Below w.heap.size w w') (n : Nat) : Moved w b v n (w'.setCell ⟨b, 1, none⟩ (.int .i64 (n : Int))) :=
  ⟨(Only.of_below _ hb).trans (Only.setCell w' b 1 _), by rw [Mem.heap_same (h.step hb).blk]; rfl⟩
/-- What peeking tells. -/
def peekV (l : List UInt8) (k : Nat) : Value := match l[k]? with
  | some x => .tuple #[u8c x, .int .i64 0]
  | none => .tuple #[.int .u8 0, .int .i64 3]
end Go.Proofs.YtogliinfdfkobaaDoor

set_option linter.unusedSimpArgs false
set_option linter.unusedVariables false
set_option maxRecDepth 100000
namespace Go.Proofs.YtogliinfdfkobaaDoor
open Go.RowKit Go.Mem Go.Reg Oct
/-- What taking tells and leaves. -/
def TakePost (w : World) (b : Nat) (v : Value) (l : List UInt8) (k n : Nat) (e : Ending) (w' : World) : Prop :=
  ∃ v', e = .returned (.tuple #[v', .int .i64 0]) ∧ w'.ownsRow w.heap.size 5 1 v' n (((l.drop k).take n).map u8c) ∧ Moved w b v (k + n) w'
end Go.Proofs.YtogliinfdfkobaaDoor

set_option linter.unusedSimpArgs false
set_option linter.unusedVariables false
set_option maxRecDepth 100000
namespace Go.Proofs.YtogliinfdfkobaaDoor
open Go.RowKit Go.Mem Go.Reg Oct
/-- What making a cursor tells: a new block with a row of its own. -/
def NewCur (w w' : World) (q : Nat) (v : Value) (l : List UInt8) : Prop :=
  w'.heap[q]? = some (.cells #[v, .int .i64 0] 84 (0, 0)) ∧ w.heap.size ≤ q ∧ w'.ownsRow w.heap.size 5 1 v l.length (l.map u8c) ∧ v.ownBlock ≠ some q
theorem NewCur.hp {w0 w w1 : World} {L : List Ent} (H : Hp w0 L w) (hb : Below w.heap.size w w1) {q : Nat} {v : Value} {l : List UInt8} (h : NewCur w w1 q v l) : Hp w0 (.blk q #[v, .int .i64 0] 84 :: .row 5 1 v l.length (l.map u8c) :: L) w1 := by
  have H1 := H.adopt hb (.row 5 1 v l.length (l.map u8c)) h.2.2.1
  refine H1.add (.blk q _ _) ⟨h.1, Nat.le_trans H.low.size h.2.1⟩ ?_
  intro k hk hm
  simp only [Ent.fp, Option.some.injEq] at hk
  subst hk
  rcases List.mem_filterMap.1 hm with ⟨x, hx, hf⟩
  rcases List.mem_cons.1 hx with rfl | hx
  · exact h.2.2.2 hf
  · have := ((H.ok x hx).lt q hf).2
    have := h.2.1
    omega
end Go.Proofs.YtogliinfdfkobaaDoor

set_option linter.unusedSimpArgs false
set_option linter.unusedVariables false
set_option maxRecDepth 100000
namespace Go.Proofs.YtogliinfdfkobaaDoor
open Go.RowKit Go.Mem Go.Reg Oct
/-- What holds at the head of the reference's loop. -/
def RunAt (l : List UInt8) (i : Nat) (n : Int) (xs : List UInt8) : Prop :=
  xs.length = i / 2 ∧ unh (l.take (2 * (i / 2))) = some xs ∧ 0 ≤ n ∧ n ≤ 255 ∧ (i % 2 = 1 → ∃ h : i - 1 < l.length, okB l[i - 1] = true ∧ n % 16 = valI (l[i - 1].toNat : Int))
def RunRel (s : ByteArray) (w : World) (out nx ix : Value) (wr : World) : Prop :=
  ∃ (i : Nat) (n : Int) (xs : List UInt8), i ≤ s.size ∧ ix = .int .i64 i ∧ nx = .int .i64 n ∧ Hid (RunAt s.data.toList i n xs) ∧ Hp w [.row 5 1 out xs.length (xs.map u8c)] wr
end Go.Proofs.YtogliinfdfkobaaDoor

set_option linter.unusedSimpArgs false
set_option linter.unusedVariables false
set_option maxRecDepth 100000
namespace Go.Proofs.YtogliinfdfkobaaDoor
open Go.RowKit Go.Mem Go.Reg Oct
end Go.Proofs.YtogliinfdfkobaaDoor

set_option linter.unusedSimpArgs false
set_option linter.unusedVariables false
set_option maxRecDepth 100000
namespace Go.Proofs.YtogliinfdfkobaaDoor
open Go.RowKit Go.Mem Go.Reg Oct
/-- What taking a part as a cursor tells and leaves: a new cursor over the bytes, that holds a row of its own; the old one has moved. -/
def SubPost (w : World) (b : Nat) (v : Value) (l : List UInt8) (k n : Nat) (e : Ending) (w' : World) : Prop :=
  ∃ q v', e = .returned (.tuple #[.pointer (some ⟨q, 0, none⟩), .int .i64 0]) ∧ w'.heap[q]? = some (.cells #[v', .int .i64 0] 84 (0, 0)) ∧ w.heap.size ≤ q ∧
    w'.ownsRow w.heap.size 5 1 v' n (((l.drop k).take n).map u8c) ∧ v'.ownBlock ≠ some q ∧ Moved w b v (k + n) w'
end Go.Proofs.YtogliinfdfkobaaDoor

set_option linter.unusedSimpArgs false
set_option linter.unusedVariables false
set_option maxRecDepth 100000
namespace Go.Proofs.YtogliinfdfkobaaDoor
open Go.RowKit Go.Mem Go.Reg Oct
end Go.Proofs.YtogliinfdfkobaaDoor

set_option linter.unusedSimpArgs false
set_option linter.unusedVariables false
set_option maxRecDepth 100000
namespace Go.Proofs.YtogliinfdfkobaaDoor
open Go.RowKit Go.Mem Go.Reg Oct
/-- The bytes of a cursor that stands first among what the walk knows are its own, wherever it stands. -/
def CurB (w0 : World) (M : List Ent) (b : Nat) (v : Value) (l : List UInt8) : Prop := ∀ (w : World) (k : Nat), Hp w0 (.blk b #[v, .int .i64 (k : Int)] 84 :: M) w → Bs w v l
end Go.Proofs.YtogliinfdfkobaaDoor

set_option linter.unusedSimpArgs false
set_option linter.unusedVariables false
set_option maxRecDepth 100000
namespace Go.Proofs.YtogliinfdfkobaaDoor
open Go.RowKit Go.Mem Go.Reg Hd Oct
def NumPost (w : World) (b : Nat) (v : Value) (l : List UInt8) (k : Nat) (R : Nat × Nat × Nat) (e : Ending) (w' : World) : Prop :=
  e = .returned (.tuple #[.int .i64 (R.1 : Int), .int .i64 (R.2.1 : Int)]) ∧ ∃ p, k ≤ p ∧ p ≤ l.length ∧ (R.2.1 = 0 → p = R.2.2) ∧ Moved w b v p w'
end Go.Proofs.YtogliinfdfkobaaDoor

set_option linter.unusedSimpArgs false
set_option linter.unusedVariables false
set_option maxRecDepth 100000
namespace Go.Proofs.YtogliinfdfkobaaDoor
open Go.RowKit Go.Mem Go.Reg Hd Oct
/-- What a reader tells before it is kept: an error, and with none the value and the place. -/
def TagRaw (w0 : World) (M : List Ent) (b : Nat) (v : Value) (l : List UInt8) (k : Nat) (R : Tg × Nat × Nat) (e : Ending) (w' : World) : Prop :=
  ∃ (c n : Int) (m : Bool) (p : Nat), e = .returned (.tuple #[.agg #[.int .i64 c, .int .i64 n, .bool m], .int .i64 (R.2.1 : Int)]) ∧ k ≤ p ∧ p ≤ l.length ∧ (R.2.1 = 0 → Tg.mk c n m = R.1 ∧ p = R.2.2) ∧
    Hp w0 (.blk b #[v, .int .i64 (p : Int)] 84 :: M) w'
end Go.Proofs.YtogliinfdfkobaaDoor

set_option linter.unusedSimpArgs false
set_option linter.unusedVariables false
set_option maxRecDepth 100000
namespace Go.Proofs.YtogliinfdfkobaaDoor
open Go.RowKit Go.Mem Go.Reg Hd Oct
theorem CurB.more {w0 : World} {M : List Ent} {b : Nat} {v : Value} {l : List UInt8} {y z : Ent} (h : CurB w0 (y :: M) b v l) : CurB w0 (y :: z :: M) b v l := fun w1 k1 H => h w1 k1 H.no2
/-- What a reader tells. -/
def TagRes (w0 : World) (M : List Ent) (b : Nat) (v : Value) (R : Tg × Nat × Nat) (e : Ending) (w' : World) : Prop :=
  e = .returned (.tuple #[.agg #[.int .i64 R.1.c, .int .i64 R.1.n, .bool R.1.m], .int .i64 (R.2.1 : Int)]) ∧ Hp w0 (.blk b #[v, .int .i64 (R.2.2 : Int)] 84 :: M) w'
end Go.Proofs.YtogliinfdfkobaaDoor

set_option linter.unusedSimpArgs false
set_option linter.unusedVariables false
set_option maxRecDepth 100000
namespace Go.Proofs.YtogliinfdfkobaaDoor
open Go.RowKit Go.Mem Go.Reg Hd Oct
def TagOut (w : World) (b : Nat) (v : Value) (R : Tg × Nat × Nat) (e : Ending) (w' : World) : Prop :=
  e = .returned (.tuple #[.agg #[.int .i64 R.1.c, .int .i64 R.1.n, .bool R.1.m], .int .i64 (R.2.1 : Int)]) ∧ Moved w b v R.2.2 w'
def LenOut (w : World) (b : Nat) (v : Value) (R : Nat × Nat × Nat) (e : Ending) (w' : World) : Prop :=
  e = .returned (.tuple #[.int .i64 (R.1 : Int), .int .i64 (R.2.1 : Int)]) ∧ Moved w b v R.2.2 w'
end Go.Proofs.YtogliinfdfkobaaDoor

set_option linter.unusedSimpArgs false
set_option linter.unusedVariables false
set_option maxRecDepth 100000
namespace Go.Proofs.YtogliinfdfkobaaDoor
open Go.RowKit Go.Mem Go.Reg Hd Oct
def LenRaw (w0 : World) (M : List Ent) (b : Nat) (v : Value) (l : List UInt8) (k : Nat) (R : Nat × Nat × Nat) (e : Ending) (w' : World) : Prop :=
  ∃ (n : Int) (p : Nat), e = .returned (.tuple #[.int .i64 n, .int .i64 (R.2.1 : Int)]) ∧ k ≤ p ∧ p ≤ l.length ∧ (R.2.1 = 0 → n = R.1 ∧ p = R.2.2) ∧
    Hp w0 (.blk b #[v, .int .i64 (p : Int)] 84 :: M) w'
def LenRes (w0 : World) (M : List Ent) (b : Nat) (v : Value) (R : Nat × Nat × Nat) (e : Ending) (w' : World) : Prop :=
  e = .returned (.tuple #[.int .i64 (R.1 : Int), .int .i64 (R.2.1 : Int)]) ∧ Hp w0 (.blk b #[v, .int .i64 (R.2.2 : Int)] 84 :: M) w'
end Go.Proofs.YtogliinfdfkobaaDoor

set_option linter.unusedSimpArgs false
set_option linter.unusedVariables false
set_option maxRecDepth 100000
namespace Go.Proofs.YtogliinfdfkobaaDoor
open Go.RowKit Go.Mem Go.Reg Hd Oct
def FrontRaw (w0 : World) (M : List Ent) (b : Nat) (v : Value) (l : List UInt8) (k : Nat) (R : Tg × Nat × Nat × Nat) (e : Ending) (w' : World) : Prop :=
  ∃ (c n : Int) (m : Bool) (z : Int) (p : Nat), e = .returned (.tuple #[.agg #[.int .i64 c, .int .i64 n, .bool m, .int .i64 z], .int .i64 (R.2.2.1 : Int)]) ∧ k ≤ p ∧ p ≤ l.length ∧ (R.2.2.1 = 0 → Tg.mk c n m = R.1 ∧ z = R.2.1 ∧ p = R.2.2.2) ∧
    Hp w0 (.blk b #[v, .int .i64 (p : Int)] 84 :: M) w'
def FrontRes (w0 : World) (M : List Ent) (b : Nat) (v : Value) (R : Tg × Nat × Nat × Nat) (e : Ending) (w' : World) : Prop :=
  e = .returned (.tuple #[.agg #[.int .i64 R.1.c, .int .i64 R.1.n, .bool R.1.m, .int .i64 (R.2.1 : Int)], .int .i64 (R.2.2.1 : Int)]) ∧ Hp w0 (.blk b #[v, .int .i64 (R.2.2.2 : Int)] 84 :: M) w'
def FrontOut (w : World) (b : Nat) (v : Value) (R : Tg × Nat × Nat × Nat) (e : Ending) (w' : World) : Prop :=
  e = .returned (.tuple #[.agg #[.int .i64 R.1.c, .int .i64 R.1.n, .bool R.1.m, .int .i64 (R.2.1 : Int)], .int .i64 (R.2.2.1 : Int)]) ∧ Moved w b v R.2.2.2 w'
def HeadOut (w : World) (b : Nat) (v : Value) (R : Tg × Nat × Nat × Nat) (e : Ending) (w' : World) : Prop :=
  e = .returned (.tuple #[.agg #[.int .i64 R.1.c, .int .i64 R.1.n, .bool R.1.m], .int .i64 (R.2.1 : Int), .int .i64 (R.2.2.1 : Int)]) ∧ Moved w b v R.2.2.2 w'
end Go.Proofs.YtogliinfdfkobaaDoor

