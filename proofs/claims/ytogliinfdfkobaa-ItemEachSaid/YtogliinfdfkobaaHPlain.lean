/- Lemmas and walks on the way to the seat's laws; each theorem says its own conditions. -/
import Derived.Test.YtogliinfdfkobaaO1
import Derived.Test.YtogliinfdfkobaaRegT
import Derived.Test.YtogliinfdfkobaaBytes
import Derived.Laws.BitsLemmas
set_option linter.unusedSimpArgs false
set_option linter.unusedVariables false
set_option linter.unusedSimpArgs false
set_option linter.unusedVariables false
set_option maxRecDepth 100000
namespace Go.Proofs.Ytogliinfdfkobaa
open Go.RowKit Go.Mem Go.Reg Oct
end Go.Proofs.Ytogliinfdfkobaa

set_option linter.unusedSimpArgs false
set_option linter.unusedVariables false
set_option maxRecDepth 100000
namespace Go.Proofs.Ytogliinfdfkobaa
open Go.RowKit Go.Mem Go.Reg Oct
end Go.Proofs.Ytogliinfdfkobaa

set_option linter.unusedSimpArgs false
set_option linter.unusedVariables false
set_option maxRecDepth 100000
namespace Go.Proofs.Ytogliinfdfkobaa
open Go.RowKit Go.Mem Go.Reg Oct
end Go.Proofs.Ytogliinfdfkobaa

set_option linter.unusedSimpArgs false
set_option linter.unusedVariables false
set_option maxRecDepth 100000
namespace Go.Proofs.Ytogliinfdfkobaa
open Go.RowKit Go.Mem Go.Reg Oct
/-- What a parser of hex tells. -/
def UnhPost (w : World) (bad : Value) (l : List UInt8) (ok : Value) (e : Ending) (w' : World) : Prop :=
  (match unh l with
    | some xs => ∃ v, e = .returned (.tuple #[v, ok]) ∧ w'.ownsRow w.heap.size 5 1 v xs.length (xs.map u8c)
    | none => e = .returned (.tuple #[.slice none 0 0, bad])) ∧ Below w.heap.size w w'
theorem ownsOf {w0 w : World} {L : List Ent} (H : Hp w0 L w) (i : Nat) {e : TypeId} {size : Nat} {v : Value} {n : Nat} {xs : List Value} (hi : L[i]? = some (.row e size v n xs)) : w.ownsRow w0.heap.size e size v n xs := H.ok _ (List.mem_of_getElem? hi)
end Go.Proofs.Ytogliinfdfkobaa

set_option linter.unusedSimpArgs false
set_option linter.unusedVariables false
set_option maxRecDepth 100000
namespace Go.Proofs.Ytogliinfdfkobaa
open Go.RowKit Go.Mem Go.Reg Oct
end Go.Proofs.Ytogliinfdfkobaa

/- Tags and lengths in plain terms: their bytes, and what a reader makes of bytes. No program in sight. -/
namespace Hd
open Go Go.Mem
theorem wraps_i64 (n : Int) (h₀ : 0 ≤ n) (h₁ : n < 2 ^ 62) : IntKind.i64.wrap n = n := by rw [IntKind.wrap_i64]; omega
theorem i64_or (i : Nat) (x y : Int) (h0 : 0 ≤ x) (hx : x % 2 ^ i = 0) (h1 : x < 2 ^ 62) (h2 : 0 ≤ y) (hy : y < 2 ^ i) (h3 : y < 2 ^ 62) : bits .or .i64 x y = x + y := bits_join .i64 62 (by decide) wraps_i64 i x y h0 hx h1 h2 hy h3
theorem u8_and127 (x : Int) (h0 : 0 ≤ x) (h1 : x < 256) : bits .and .u8 x 127 = x % 128 := bits_mask .u8 8 (by decide) wraps_u8 7 (by decide) x h0 h1
theorem u8_and31 (x : Int) (h0 : 0 ≤ x) (h1 : x < 256) : bits .and .u8 x 31 = x % 32 := bits_mask .u8 8 (by decide) wraps_u8 5 (by decide) x h0 h1
theorem u8_and32' : ∀ x, x < 256 → bits .and .u8 ((x : Nat) : Int) 32 = ((32 * (x / 32 % 2) : Nat) : Int) := by decide +kernel
theorem u8_and32 (x : Int) (h0 : 0 ≤ x) (h1 : x < 256) : bits .and .u8 x 32 = 32 * (x / 32 % 2) := by
  have := u8_and32' x.toNat (by omega)
  rw [Int.toNat_of_nonneg h0] at this
  rw [this]
  omega
/-- A tag: its class, its number, is it made of others. -/
structure Tg where
  c : Int
  n : Int
  m : Bool
def Tg.zero : Tg := ⟨0, 0, false⟩
def okTag (t : Tg) : Bool := decide (0 ≤ t.c) && decide (t.c ≤ 3) && decide (0 ≤ t.n) && decide (t.n < 2097152)
def ofTag (n : Int) : Tg := ⟨0, n, n == 16 || n == 17⟩
def firstN (t : Tg) : Int := 64 * t.c + (if t.m then 32 else 0)
def byteI (n : Int) : UInt8 := UInt8.ofNat n.toNat
/-- A number's digits to a base, the least first. -/
def digR (B : Nat) : Nat → Nat → List Nat
  | 0, _ => []
  | f + 1, n => if n = 0 then [] else n % B :: digR B f (n / B)
def tagL (t : Tg) : List UInt8 :=
  if t.n < 31 then [byteI (firstN t + t.n)]
  else byteI (firstN t + 31) :: ((if 16384 ≤ t.n then [byteI (128 + t.n / 16384)] else []) ++ (if 128 ≤ t.n then [byteI (128 + t.n / 128 % 128)] else []) ++ [byteI (t.n % 128)])
def lenL (n : Int) : List UInt8 :=
  if n < 128 then [byteI n]
  else if n < 256 then [129, byteI n]
  else if n < 65536 then [130, byteI (n / 256), byteI (n % 256)]
  else if n < 16777216 then [131, byteI (n / 65536), byteI (n / 256 % 256), byteI (n % 256)]
  else [132, byteI (n / 16777216), byteI (n / 65536 % 256), byteI (n / 256 % 256), byteI (n % 256)]
/-- The number of a tag, in digits: the number, an error, the place behind. -/
def numR (l : List UInt8) : Nat → Nat → Nat → Nat × Nat × Nat
  | 0, p, _ => (0, 4, p)
  | f + 1, p, n =>
    match l[p]? with
    | none => (0, 3, p)
    | some d =>
      if (f = 3 ∧ d.toNat = 128) ∨ f = 0 then (0, 4, p)
      else if d.toNat < 128 then (if n * 128 + d.toNat % 128 < 31 then (0, 4, p) else (n * 128 + d.toNat % 128, 0, p + 1))
      else numR l f (p + 1) (n * 128 + d.toNat % 128)
def rdTag (l : List UInt8) (k : Nat) : Tg × Nat × Nat :=
  match l[k]? with
  | none => (.zero, 3, k)
  | some x =>
    if x.toNat % 32 < 31 then (⟨x.toNat / 64, x.toNat % 32, x.toNat / 32 % 2 == 1⟩, 0, k + 1)
    else if (numR l 4 (k + 1) 0).2.1 = 0 then (⟨x.toNat / 64, (numR l 4 (k + 1) 0).1, x.toNat / 32 % 2 == 1⟩, 0, (numR l 4 (k + 1) 0).2.2)
    else (.zero, (numR l 4 (k + 1) 0).2.1, k)
def foldR (a : Nat) (bs : List UInt8) : Nat := bs.foldl (fun a x => 256 * a + x.toNat) a
def rdLen (l : List UInt8) (k : Nat) : Nat × Nat × Nat :=
  match l[k]? with
  | none => (0, 3, k)
  | some x =>
    if x.toNat < 128 then (x.toNat, 0, k + 1)
    else if x.toNat = 128 ∨ 132 < x.toNat then (0, 5, k)
    else if l.length - (k + 1) < x.toNat - 128 then (0, 3, k)
    else if (l[k + 1]?.getD 0).toNat = 0 ∨ foldR 0 ((l.drop (k + 1)).take (x.toNat - 128)) < 128 then (0, 5, k)
    else if 16777216 < foldR 0 ((l.drop (k + 1)).take (x.toNat - 128)) then (0, 2, k)
    else (foldR 0 ((l.drop (k + 1)).take (x.toNat - 128)), 0, k + 1 + (x.toNat - 128))
/-- Both: the tag, the length, an error, the place behind. -/
def rdHead (l : List UInt8) (k : Nat) : Tg × Nat × Nat × Nat :=
  if (rdTag l k).2.1 = 0 then
    if (rdLen l (rdTag l k).2.2).2.1 = 0 then ((rdTag l k).1, (rdLen l (rdTag l k).2.2).1, 0, (rdLen l (rdTag l k).2.2).2.2)
    else (.zero, 0, (rdLen l (rdTag l k).2.2).2.1, k)
  else (.zero, 0, (rdTag l k).2.1, k)
theorem numR_le (l : List UInt8) : ∀ (f p n : Nat), (numR l f p n).2.1 = 0 → p ≤ l.length → (numR l f p n).2.2 ≤ l.length ∧ p < (numR l f p n).2.2 ∧ 31 ≤ (numR l f p n).1 := by
  intro f
  induction f with
  | zero => intro p n h; simp [numR] at h
  | succ f ih =>
    intro p n h hp
    unfold numR at h ⊢
    cases hx : l[p]? with
    | none => rw [hx] at h; simp at h
    | some d =>
      have hlt : p < l.length := (List.getElem?_eq_some_iff.1 hx).1
      rw [hx] at h
      simp only at h ⊢
      split at h
      · simp at h
      · rename_i h1
        rw [if_neg h1]
        split at h
        · rename_i h2
          rw [if_pos h2]
          split at h
          · simp at h
          · rename_i h3
            rw [if_neg h3]
            simp only
            omega
        · rename_i h2
          rw [if_neg h2]
          have := ih (p + 1) _ h (by omega)
          omega
theorem rdTag_le {l : List UInt8} {k : Nat} (hk : k ≤ l.length) : (rdTag l k).2.2 ≤ l.length ∧ k ≤ (rdTag l k).2.2 := by
  unfold rdTag
  cases hx : l[k]? with
  | none => simp [hk]
  | some x =>
    have hlt : k < l.length := (List.getElem?_eq_some_iff.1 hx).1
    simp only
    split
    · simp; omega
    · split
      · rename_i h
        have := numR_le l 4 (k + 1) 0 h (by omega)
        simp
        omega
      · simp [hk]
theorem rdTag_err {l : List UInt8} {k : Nat} (h : (rdTag l k).2.1 ≠ 0) : rdTag l k = (.zero, (rdTag l k).2.1, k) := by
  unfold rdTag at *
  cases hx : l[k]? with
  | none => rfl
  | some x =>
    rw [hx] at h
    simp only at h ⊢
    split at h
    · simp at h
    · rename_i h1
      rw [if_neg h1]
      split at h
      · simp at h
      · rename_i h2
        rw [if_neg h2]
theorem rdLen_le {l : List UInt8} {k : Nat} (hk : k ≤ l.length) : (rdLen l k).2.2 ≤ l.length ∧ k ≤ (rdLen l k).2.2 := by
  unfold rdLen
  cases hx : l[k]? with
  | none => simp [hk]
  | some x =>
    have hlt : k < l.length := (List.getElem?_eq_some_iff.1 hx).1
    simp only
    repeat' split
    all_goals simp
    all_goals omega
theorem rdLen_err {l : List UInt8} {k : Nat} (h : (rdLen l k).2.1 ≠ 0) : rdLen l k = (0, (rdLen l k).2.1, k) := by
  unfold rdLen at *
  cases hx : l[k]? with
  | none => rfl
  | some x =>
    rw [hx] at h
    simp only at h ⊢
    split
    · rename_i h1; rw [if_pos h1] at h; simp at h
    · rename_i h1
      rw [if_neg h1] at h
      split
      · rfl
      · rename_i h2
        rw [if_neg h2] at h
        split
        · rfl
        · rename_i h3
          rw [if_neg h3] at h
          split
          · rfl
          · rename_i h4
            rw [if_neg h4] at h
            split
            · rfl
            · rename_i h5
              rw [if_neg h5] at h
              simp at h
theorem rdHead_le {l : List UInt8} {k : Nat} (hk : k ≤ l.length) : (rdHead l k).2.2.2 ≤ l.length ∧ k ≤ (rdHead l k).2.2.2 := by
  unfold rdHead
  have h1 := rdTag_le hk
  have h2 := rdLen_le h1.1
  split
  · split <;> simp <;> omega
  · simp [hk]
end Hd
namespace Hd
open Go Go.Mem
/-- A number that a block's first cell holds. -/
def cellN (w : World) (b : Nat) : Nat := match w.cell? ⟨b, 0, none⟩ with
  | some (.int _ m) => m.toNat
  | _ => 0
end Hd
namespace Hd
open Go Go.Mem
end Hd
namespace Hd
open Go Go.Mem
/-- Digits, the first i of which say that more follow. -/
def hiL (i : Nat) (D : List UInt8) : List UInt8 := (D.take i).map (fun d => byteI (128 + (d.toNat : Int))) ++ D.drop i
end Hd
namespace Hd
open Go
end Hd
namespace Hd
open Go Go.Mem
theorem foldR_snoc (a : Nat) (bs : List UInt8) (x : UInt8) : foldR a (bs ++ [x]) = 256 * foldR a bs + x.toNat := by simp [foldR, List.foldl_append]
theorem foldR_lt : ∀ (bs : List UInt8), foldR 0 bs < 256 ^ bs.length := by
  intro bs
  have key : ∀ (bs : List UInt8) (a : Nat), foldR a bs < (a + 1) * 256 ^ bs.length := by
    intro bs
    induction bs with
    | nil => intro a; simp [foldR]
    | cons x r ih =>
      intro a
      have h := ih (256 * a + x.toNat)
      have hx := x.toNat_lt
      rw [List.length_cons, Nat.pow_succ, show (a + 1) * (256 ^ r.length * 256) = (256 * (a + 1)) * 256 ^ r.length by rw [← Nat.mul_assoc, Nat.mul_comm ((a+1) * _) 256, ← Nat.mul_assoc]]
      exact Nat.lt_of_lt_of_le h (Nat.mul_le_mul_right _ (by omega))
  simpa using key bs 0
/-- A length of so many bytes at a place. -/
def longR (l : List UInt8) (p n : Nat) : Nat × Nat × Nat :=
  if l.length - p < n then (0, 3, p)
  else if (l[p]?.getD 0).toNat = 0 ∨ foldR 0 ((l.drop p).take n) < 128 then (0, 5, p)
  else if 16777216 < foldR 0 ((l.drop p).take n) then (0, 2, p)
  else (foldR 0 ((l.drop p).take n), 0, p + n)
theorem rdLen_long {l : List UInt8} {k : Nat} (h : k < l.length) (h1 : ¬ l[k].toNat < 128) (h2 : ¬ (l[k].toNat = 128 ∨ 132 < l[k].toNat)) :
    rdLen l k = if (longR l (k + 1) (l[k].toNat - 128)).2.1 = 0 then longR l (k + 1) (l[k].toNat - 128) else (0, (longR l (k + 1) (l[k].toNat - 128)).2.1, k) := by
  unfold rdLen longR
  rw [List.getElem?_eq_getElem h]
  simp only
  rw [if_neg h1, if_neg h2]
  repeat' split
  all_goals simp_all
end Hd
namespace Hd
open Go Go.Mem
/-- A whole: its bytes, or an error. -/
def wrapR (t : Tg) (ls : List (List UInt8)) : List UInt8 × Nat :=
  if okTag t then (if 16777216 < ls.flatten.length then ([], 2) else (tagL t ++ lenL (ls.flatten.length : Nat) ++ ls.flatten, 0)) else ([], 1)
end Hd

