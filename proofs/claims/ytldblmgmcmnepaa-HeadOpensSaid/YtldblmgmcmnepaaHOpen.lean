/- Opening a tag and length over bytes, in plain terms. No program in sight. -/
import Derived.Test.YtldblmgmcmnepaaHPlain
namespace Hd
open Go Go.Mem
deriving instance DecidableEq for Tg
/-- A whole opened at a place: its bytes, the place behind, an error. -/
def opR (l : List UInt8) (k : Nat) (t : Tg) : List UInt8 × Nat × Nat :=
  if (rdHead l k).2.2.1 ≠ 0 then ([], k, (rdHead l k).2.2.1)
  else if (rdHead l k).1 ≠ t then ([], k, 4)
  else if l.length - (rdHead l k).2.2.2 < (rdHead l k).2.1 then ([], k, 3)
  else ((l.drop (rdHead l k).2.2.2).take (rdHead l k).2.1, (rdHead l k).2.2.2 + (rdHead l k).2.1, 0)
/-- A whole that fills the bytes. -/
def alR (l : List UInt8) (t : Tg) : List UInt8 × Nat :=
  if (opR l 0 t).2.2 ≠ 0 then ([], (opR l 0 t).2.2)
  else if (opR l 0 t).2.1 < l.length then ([], 7)
  else ((opR l 0 t).1, 0)
theorem opR_err {l : List UInt8} {k : Nat} {t r : Tg} {z er p : Nat} (h : rdHead l k = (r, z, er, p)) (he : er ≠ 0) : opR l k t = ([], k, er) := by
  unfold opR; rw [h]; simp only; rw [if_pos he]
theorem opR_tag {l : List UInt8} {k : Nat} {t r : Tg} {z p : Nat} (h : rdHead l k = (r, z, 0, p)) (he : r ≠ t) : opR l k t = ([], k, 4) := by
  unfold opR; rw [h]; simp only; rw [if_neg (by simp), if_pos he]
theorem opR_short {l : List UInt8} {k : Nat} {r : Tg} {z p : Nat} (h : rdHead l k = (r, z, 0, p)) (he : l.length - p < z) : opR l k r = ([], k, 3) := by
  unfold opR; rw [h]; simp only; rw [if_neg (by simp), if_neg (by simp), if_pos he]
theorem opR_ok {l : List UInt8} {k : Nat} {r : Tg} {z p : Nat} (h : rdHead l k = (r, z, 0, p)) (he : ¬ l.length - p < z) : opR l k r = ((l.drop p).take z, p + z, 0) := by
  unfold opR; rw [h]; simp only; rw [if_neg (by simp), if_neg (by simp), if_neg he]
theorem opR_le {l : List UInt8} {k : Nat} {t : Tg} (hk : k ≤ l.length) : (opR l k t).2.1 ≤ l.length ∧ k ≤ (opR l k t).2.1 := by
  have := rdHead_le hk
  unfold opR
  repeat' split
  all_goals simp only
  all_goals omega
theorem opR_nil {l : List UInt8} {k : Nat} {t : Tg} (h : (opR l k t).2.2 ≠ 0) : opR l k t = ([], k, (opR l k t).2.2) := by
  unfold opR at *
  split
  · rfl
  · rename_i h1
    rw [if_neg h1] at h
    split
    · rfl
    · rename_i h2
      rw [if_neg h2] at h
      split
      · rfl
      · rename_i h3
        rw [if_neg h3] at h
        simp at h
end Hd
namespace Hd
open Go Go.Mem
theorem opR_len {l : List UInt8} {k : Nat} {t : Tg} : (opR l k t).1.length ≤ l.length := by
  unfold opR
  repeat' split
  all_goals simp only [List.length_nil, Nat.zero_le]
  rw [List.length_take, List.length_drop]
  omega
theorem alR_len {l : List UInt8} {t : Tg} : (alR l t).1.length ≤ l.length := by
  unfold alR
  repeat' split
  all_goals simp only [List.length_nil, Nat.zero_le]
  exact opR_len
theorem alR_nil {l : List UInt8} {t : Tg} (h : (alR l t).2 ≠ 0) : alR l t = ([], (alR l t).2) := by
  unfold alR at *
  split
  · rfl
  · rename_i h1
    rw [if_neg h1] at h
    split
    · rfl
    · rename_i h2
      rw [if_neg h2] at h
      simp at h
theorem alR_of {l : List UInt8} {t : Tg} {R : List UInt8 × Nat × Nat} (h : opR l 0 t = R) : alR l t = if R.2.2 ≠ 0 then ([], R.2.2) else if R.2.1 < l.length then ([], 7) else (R.1, 0) := by unfold alR; rw [h]
end Hd
