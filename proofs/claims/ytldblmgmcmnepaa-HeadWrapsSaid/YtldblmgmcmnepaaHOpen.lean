/- Lemmas and walks on the way to the seat's laws; each theorem says its own conditions. -/
import Derived.Test.YtldblmgmcmnepaaH16
import Derived.Test.YtldblmgmcmnepaaHPlain
set_option linter.unusedSimpArgs false
set_option linter.unusedVariables false
set_option maxRecDepth 100000
namespace Go.Proofs.Ytldblmgmcmnepaa
open Go.RowKit Go.Mem Go.Reg Hd Go.LawLift Oct
def RTagOut (w : World) (R : Tg × Nat × Nat) (e : Ending) (w' : World) : Prop :=
  e = .returned (.tuple #[.agg #[.int .i64 R.1.c, .int .i64 R.1.n, .bool R.1.m], .int .i64 (R.2.2 : Int), .int .i64 (R.2.1 : Int)]) ∧ Below w.heap.size w w'
def RLenOut (w : World) (R : Nat × Nat × Nat) (e : Ending) (w' : World) : Prop :=
  e = .returned (.tuple #[.int .i64 (R.1 : Int), .int .i64 (R.2.2 : Int), .int .i64 (R.2.1 : Int)]) ∧ Below w.heap.size w w'
end Go.Proofs.Ytldblmgmcmnepaa

set_option linter.unusedSimpArgs false
set_option linter.unusedVariables false
set_option maxRecDepth 100000
namespace Go.Proofs.Ytldblmgmcmnepaa
open Go.RowKit Go.Mem Go.Reg Hd Go.LawLift Oct
end Go.Proofs.Ytldblmgmcmnepaa

set_option linter.unusedSimpArgs false
set_option linter.unusedVariables false
set_option maxRecDepth 100000
namespace Go.Proofs.Ytldblmgmcmnepaa
open Go.RowKit Go.Mem Go.Reg Hd Go.LawLift Oct
def RHeadOut (w : World) (R : Tg × Nat × Nat × Nat) (e : Ending) (w' : World) : Prop :=
  e = .returned (.tuple #[.agg #[.int .i64 R.1.c, .int .i64 R.1.n, .bool R.1.m], .int .i64 (R.2.1 : Int), .int .i64 (R.2.2.2 : Int), .int .i64 (R.2.2.1 : Int)]) ∧ Below w.heap.size w w'
theorem few2_slice (A : Option Addr) (n c : Nat) (w : World) (h1 : n ≤ c) (h2 : c ≤ 9223372036854775807) :
    Calls Try.prog 49 #[.slice A n c] w fun e w' => e = .returned (.slice A (min n 3000) c) ∧ w = w' := by
  rcases Nat.lt_or_ge 3000 n with h | h
  · rw [show min n 3000 = 3000 by omega]
    go_enter Try.func49, Try.ntmps49
    go_wp2_with (fail)
    go_ret
    exact ⟨rfl, rfl⟩
  · rw [show min n 3000 = n by omega]
    go_enter Try.func49, Try.ntmps49
    go_wp2_with (fail)
    go_ret
    exact ⟨rfl, rfl⟩
theorem few2_open {w : World} {v : Value} {l : List UInt8} (hb : Bs w v l) : ∃ A n c L, v = .slice A n c ∧ Bs w (.slice A L.length c) L ∧ L.length ≤ 3000 ∧ L = l.take 3000 ∧
    ∀ w', Calls Try.prog 49 #[.slice A n c] w' fun e w'' => e = .returned (.slice A L.length c) ∧ w' = w'' := by
  have hm := hb.len
  obtain ⟨A, c, rfl, h1, h2, h3, -⟩ := hb.open
  have hL : (l.take 3000).length = min l.length 3000 := by simp; omega
  refine ⟨A, l.length, c, l.take 3000, rfl, ?_, by omega, rfl, fun w' => ?_⟩
  · rw [hL]
    have := hb.front (k := min l.length 3000) (by omega)
    rwa [show l.take (min l.length 3000) = l.take 3000 by rw [Nat.min_comm, ← List.take_take, List.take_length]] at this
  · rw [hL]
    exact few2_slice A l.length c w' h1 h2
theorem few2_long {w : World} {v : Value} {l : List UInt8} (hb : Bs w v l) : ∃ A n c L, v = .slice A n c ∧ Bs w (.slice A L.length c) L ∧ L.length ≤ 3000 ∧ L.length ≤ c ∧ c ≤ 9223372036854775807 ∧ (A = none → c = 0) ∧
    ∀ w', Calls Try.prog 49 #[.slice A n c] w' fun e w'' => e = .returned (.slice A L.length c) ∧ w' = w'' := by
  obtain ⟨A, n, c, L, hv, hB, hL, -, hf⟩ := few2_open hb
  obtain ⟨A', c', he, h1, h2, h3, -⟩ := hB.open
  obtain ⟨rfl, -, rfl⟩ : A = A' ∧ True ∧ c = c' := by simpa using he
  exact ⟨A, n, c, L, hv, hB, hL, h1, h2, h3, hf⟩
end Go.Proofs.Ytldblmgmcmnepaa

/- Opening a tag and length over bytes, in plain terms. No program in sight. -/
namespace Hd
open Go Go.Mem
deriving instance DecidableEq for Tg
/-- A whole opened at a place: its bytes, the place behind, an error. -/
def opR (l : List UInt8) (k : Nat) (t : Tg) : List UInt8 × Nat × Nat :=
  if (rdHead l k).2.2.1 ≠ 0 then ([], k, (rdHead l k).2.2.1)
  else if (rdHead l k).1 ≠ t then ([], k, 4)
  else if l.length - (rdHead l k).2.2.2 < (rdHead l k).2.1 then ([], k, 3)
  else ((l.drop (rdHead l k).2.2.2).take (rdHead l k).2.1, (rdHead l k).2.2.2 + (rdHead l k).2.1, 0)
/-- A whole that fills the bytes. -/
def alR (l : List UInt8) (t : Tg) : List UInt8 × Nat :=
  if (opR l 0 t).2.2 ≠ 0 then ([], (opR l 0 t).2.2)
  else if (opR l 0 t).2.1 < l.length then ([], 7)
  else ((opR l 0 t).1, 0)
theorem opR_err {l : List UInt8} {k : Nat} {t r : Tg} {z er p : Nat} (h : rdHead l k = (r, z, er, p)) (he : er ≠ 0) : opR l k t = ([], k, er) := by
  unfold opR; rw [h]; simp only; rw [if_pos he]
theorem opR_tag {l : List UInt8} {k : Nat} {t r : Tg} {z p : Nat} (h : rdHead l k = (r, z, 0, p)) (he : r ≠ t) : opR l k t = ([], k, 4) := by
  unfold opR; rw [h]; simp only; rw [if_neg (by simp), if_pos he]
theorem opR_short {l : List UInt8} {k : Nat} {r : Tg} {z p : Nat} (h : rdHead l k = (r, z, 0, p)) (he : l.length - p < z) : opR l k r = ([], k, 3) := by
  unfold opR; rw [h]; simp only; rw [if_neg (by simp), if_neg (by simp), if_pos he]
theorem opR_ok {l : List UInt8} {k : Nat} {r : Tg} {z p : Nat} (h : rdHead l k = (r, z, 0, p)) (he : ¬ l.length - p < z) : opR l k r = ((l.drop p).take z, p + z, 0) := by
  unfold opR; rw [h]; simp only; rw [if_neg (by simp), if_neg (by simp), if_neg he]
theorem opR_le {l : List UInt8} {k : Nat} {t : Tg} (hk : k ≤ l.length) : (opR l k t).2.1 ≤ l.length ∧ k ≤ (opR l k t).2.1 := by
  have := rdHead_le hk
  unfold opR
  repeat' split
  all_goals simp only
  all_goals omega
end Hd
namespace Hd
open Go Go.Mem
theorem alR_of {l : List UInt8} {t : Tg} {R : List UInt8 × Nat × Nat} (h : opR l 0 t = R) : alR l t = if R.2.2 ≠ 0 then ([], R.2.2) else if R.2.1 < l.length then ([], 7) else (R.1, 0) := by unfold alR; rw [h]
end Hd

