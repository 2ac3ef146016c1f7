/- Lemmas and walks on the way to the seat's laws; each theorem says its own conditions. -/
import Derived.Test.YtldblmgmcmnepaaH15
import Derived.Test.YtldblmgmcmnepaaHPlain
set_option linter.unusedSimpArgs false
set_option linter.unusedVariables false
set_option linter.unusedSimpArgs false
set_option linter.unusedVariables false
set_option maxRecDepth 100000
namespace Go.Proofs.Ytldblmgmcmnepaa
open Go.RowKit Go.Mem Go.Reg Hd Go.LawLift Oct
theorem wrap_any (c n : Int) (m : Bool) (ls : List (List UInt8)) (v : Value) (w : World) (hb : Bss w v ls) (hl : ls.length ≤ 10000) (hls : ∀ l ∈ ls, l.length ≤ 67108864) :
    Calls Try.prog 59 #[.agg #[.int .i64 c, .int .i64 n, .bool m], v] w (OwnOut w (wrapR ⟨c, n, m⟩ ls).1 (wrapR ⟨c, n, m⟩ ls).2) := by
  cases h : okTag ⟨c, n, m⟩ with
  | false =>
    obtain ⟨A, cc, rfl, -⟩ := hb.open
    rw [show wrapR ⟨c, n, m⟩ ls = ([], 1) by unfold wrapR; rw [h]; rfl]
    exact wrap_no c n m A _ cc h w
  | true =>
    obtain ⟨-, -, h0, -⟩ := okTag_iff.1 h
    obtain ⟨k, rfl⟩ := Int.eq_ofNat_of_zero_le (show 0 ≤ n from h0)
    exact wrap_yes c k m ls v w hb hl hls h
/-- The bytes of a tag, or an error. -/
def tagR (t : Tg) : List UInt8 × Nat := if okTag t then (tagL t, 0) else ([], 1)
def lenR (n : Int) : List UInt8 × Nat := if n < 0 then ([], 1) else if 16777216 < n then ([], 2) else (lenL n, 0)
/-- Two rows as a slice of slices. -/
theorem bss_blk {w0 w : World} {L : List Ent} (H : Hp w0 L w) (i : Nat) {b : Nat} {T : TypeId} {xs : List Value} {ls : List (List UInt8)} (hi : L[i]? = some (.blk b xs.toArray T)) (ha : All2 (Bs w) xs ls) (hl : xs.length ≤ 1000) : Bss w (.slice (some ⟨b, 0, none⟩) xs.length xs.length) ls :=
  ⟨xs, sl_cells (H.get i hi) rfl rfl (by omega), ha⟩
end Go.Proofs.Ytldblmgmcmnepaa

set_option linter.unusedSimpArgs false
set_option linter.unusedVariables false
set_option maxRecDepth 100000
namespace Go.Proofs.Ytldblmgmcmnepaa
open Go.RowKit Go.Mem Go.Reg Hd Go.LawLift Oct
def RTagOut (w : World) (R : Tg × Nat × Nat) (e : Ending) (w' : World) : Prop :=
  e = .returned (.tuple #[.agg #[.int .i64 R.1.c, .int .i64 R.1.n, .bool R.1.m], .int .i64 (R.2.2 : Int), .int .i64 (R.2.1 : Int)]) ∧ Below w.heap.size w w'
def RLenOut (w : World) (R : Nat × Nat × Nat) (e : Ending) (w' : World) : Prop :=
  e = .returned (.tuple #[.int .i64 (R.1 : Int), .int .i64 (R.2.2 : Int), .int .i64 (R.2.1 : Int)]) ∧ Below w.heap.size w w'
end Go.Proofs.Ytldblmgmcmnepaa

set_option linter.unusedSimpArgs false
set_option linter.unusedVariables false
set_option maxRecDepth 100000
namespace Go.Proofs.Ytldblmgmcmnepaa
open Go.RowKit Go.Mem Go.Reg Hd Go.LawLift Oct
end Go.Proofs.Ytldblmgmcmnepaa

set_option linter.unusedSimpArgs false
set_option linter.unusedVariables false
set_option maxRecDepth 100000
namespace Go.Proofs.Ytldblmgmcmnepaa
open Go.RowKit Go.Mem Go.Reg Hd Go.LawLift Oct
def RHeadOut (w : World) (R : Tg × Nat × Nat × Nat) (e : Ending) (w' : World) : Prop :=
  e = .returned (.tuple #[.agg #[.int .i64 R.1.c, .int .i64 R.1.n, .bool R.1.m], .int .i64 (R.2.1 : Int), .int .i64 (R.2.2.2 : Int), .int .i64 (R.2.2.1 : Int)]) ∧ Below w.heap.size w w'
end Go.Proofs.Ytldblmgmcmnepaa

/- Opening a tag and length over bytes, in plain terms. No program in sight. -/
namespace Hd
open Go Go.Mem
deriving instance DecidableEq for Tg
/-- A whole opened at a place: its bytes, the place behind, an error. -/
def opR (l : List UInt8) (k : Nat) (t : Tg) : List UInt8 × Nat × Nat :=
  if (rdHead l k).2.2.1 ≠ 0 then ([], k, (rdHead l k).2.2.1)
  else if (rdHead l k).1 ≠ t then ([], k, 4)
  else if l.length - (rdHead l k).2.2.2 < (rdHead l k).2.1 then ([], k, 3)
  else ((l.drop (rdHead l k).2.2.2).take (rdHead l k).2.1, (rdHead l k).2.2.2 + (rdHead l k).2.1, 0)
/-- A whole that fills the bytes. -/
def alR (l : List UInt8) (t : Tg) : List UInt8 × Nat :=
  if (opR l 0 t).2.2 ≠ 0 then ([], (opR l 0 t).2.2)
  else if (opR l 0 t).2.1 < l.length then ([], 7)
  else ((opR l 0 t).1, 0)
theorem opR_err {l : List UInt8} {k : Nat} {t r : Tg} {z er p : Nat} (h : rdHead l k = (r, z, er, p)) (he : er ≠ 0) : opR l k t = ([], k, er) := by
  unfold opR; rw [h]; simp only; rw [if_pos he]
theorem opR_tag {l : List UInt8} {k : Nat} {t r : Tg} {z p : Nat} (h : rdHead l k = (r, z, 0, p)) (he : r ≠ t) : opR l k t = ([], k, 4) := by
  unfold opR; rw [h]; simp only; rw [if_neg (by simp), if_pos he]
theorem opR_short {l : List UInt8} {k : Nat} {r : Tg} {z p : Nat} (h : rdHead l k = (r, z, 0, p)) (he : l.length - p < z) : opR l k r = ([], k, 3) := by
  unfold opR; rw [h]; simp only; rw [if_neg (by simp), if_neg (by simp), if_pos he]
theorem opR_ok {l : List UInt8} {k : Nat} {r : Tg} {z p : Nat} (h : rdHead l k = (r, z, 0, p)) (he : ¬ l.length - p < z) : opR l k r = ((l.drop p).take z, p + z, 0) := by
  unfold opR; rw [h]; simp only; rw [if_neg (by simp), if_neg (by simp), if_neg he]
end Hd
namespace Hd
open Go Go.Mem
end Hd

