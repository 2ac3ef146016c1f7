/- Tags and lengths in plain terms: their bytes, and what a reader makes of bytes. No program in sight. -/
import Derived.Test.YtogliinfdfkobaaBytes
import Derived.Laws.BitsLemmas
import Derived.Test.YtogliinfdfkobaaMem
import Derived.Test.YtogliinfdfkobaaOPlain
import Derived.ProofKit
import Derived.SizedLaws
import Derived.Carry
import Derived.Lib.SmallJoins
import Derived.Deep.Fields
import Derived.DataShut
set_option linter.unusedSimpArgs false
set_option linter.unusedVariables false
namespace Hd
open Go Go.Mem
theorem wraps_i64 (n : Int) (h₀ : 0 ≤ n) (h₁ : n < 2 ^ 62) : IntKind.i64.wrap n = n := by rw [IntKind.wrap_i64]; omega
theorem i64_or (i : Nat) (x y : Int) (h0 : 0 ≤ x) (hx : x % 2 ^ i = 0) (h1 : x < 2 ^ 62) (h2 : 0 ≤ y) (hy : y < 2 ^ i) (h3 : y < 2 ^ 62) : bits .or .i64 x y = x + y := bits_join .i64 62 (by decide) wraps_i64 i x y h0 hx h1 h2 hy h3
theorem u8_and127 (x : Int) (h0 : 0 ≤ x) (h1 : x < 256) : bits .and .u8 x 127 = x % 128 := bits_mask .u8 8 (by decide) wraps_u8 7 (by decide) x h0 h1
theorem u8_and31 (x : Int) (h0 : 0 ≤ x) (h1 : x < 256) : bits .and .u8 x 31 = x % 32 := bits_mask .u8 8 (by decide) wraps_u8 5 (by decide) x h0 h1
theorem u8_and32' : ∀ x, x < 256 → bits .and .u8 ((x : Nat) : Int) 32 = ((32 * (x / 32 % 2) : Nat) : Int) := by decide +kernel
theorem u8_and32 (x : Int) (h0 : 0 ≤ x) (h1 : x < 256) : bits .and .u8 x 32 = 32 * (x / 32 % 2) := by
  have := u8_and32' x.toNat (by omega)
  rw [Int.toNat_of_nonneg h0] at this
  rw [this]
  omega
/-- A tag: its class, its number, is it made of others. -/
structure Tg where
  c : Int
  n : Int
  m : Bool
def Tg.zero : Tg := ⟨0, 0, false⟩
def okTag (t : Tg) : Bool := decide (0 ≤ t.c) && decide (t.c ≤ 3) && decide (0 ≤ t.n) && decide (t.n < 2097152)
def ofTag (n : Int) : Tg := ⟨0, n, n == 16 || n == 17⟩
def firstN (t : Tg) : Int := 64 * t.c + (if t.m then 32 else 0)
def byteI (n : Int) : UInt8 := UInt8.ofNat n.toNat
/-- A number's digits to a base, the least first. -/
def digR (B : Nat) : Nat → Nat → List Nat
  | 0, _ => []
  | f + 1, n => if n = 0 then [] else n % B :: digR B f (n / B)
def tagL (t : Tg) : List UInt8 :=
  if t.n < 31 then [byteI (firstN t + t.n)]
  else byteI (firstN t + 31) :: ((if 16384 ≤ t.n then [byteI (128 + t.n / 16384)] else []) ++ (if 128 ≤ t.n then [byteI (128 + t.n / 128 % 128)] else []) ++ [byteI (t.n % 128)])
def lenL (n : Int) : List UInt8 :=
  if n < 128 then [byteI n]
  else if n < 256 then [129, byteI n]
  else if n < 65536 then [130, byteI (n / 256), byteI (n % 256)]
  else if n < 16777216 then [131, byteI (n / 65536), byteI (n / 256 % 256), byteI (n % 256)]
  else [132, byteI (n / 16777216), byteI (n / 65536 % 256), byteI (n / 256 % 256), byteI (n % 256)]
/-- The number of a tag, in digits: the number, an error, the place behind. -/
def numR (l : List UInt8) : Nat → Nat → Nat → Nat × Nat × Nat
  | 0, p, _ => (0, 4, p)
  | f + 1, p, n =>
    match l[p]? with
    | none => (0, 3, p)
    | some d =>
      if (f = 3 ∧ d.toNat = 128) ∨ f = 0 then (0, 4, p)
      else if d.toNat < 128 then (if n * 128 + d.toNat % 128 < 31 then (0, 4, p) else (n * 128 + d.toNat % 128, 0, p + 1))
      else numR l f (p + 1) (n * 128 + d.toNat % 128)
def rdTag (l : List UInt8) (k : Nat) : Tg × Nat × Nat :=
  match l[k]? with
  | none => (.zero, 3, k)
  | some x =>
    if x.toNat % 32 < 31 then (⟨x.toNat / 64, x.toNat % 32, x.toNat / 32 % 2 == 1⟩, 0, k + 1)
    else if (numR l 4 (k + 1) 0).2.1 = 0 then (⟨x.toNat / 64, (numR l 4 (k + 1) 0).1, x.toNat / 32 % 2 == 1⟩, 0, (numR l 4 (k + 1) 0).2.2)
    else (.zero, (numR l 4 (k + 1) 0).2.1, k)
def foldR (a : Nat) (bs : List UInt8) : Nat := bs.foldl (fun a x => 256 * a + x.toNat) a
def rdLen (l : List UInt8) (k : Nat) : Nat × Nat × Nat :=
  match l[k]? with
  | none => (0, 3, k)
  | some x =>
    if x.toNat < 128 then (x.toNat, 0, k + 1)
    else if x.toNat = 128 ∨ 132 < x.toNat then (0, 5, k)
    else if l.length - (k + 1) < x.toNat - 128 then (0, 3, k)
    else if (l[k + 1]?.getD 0).toNat = 0 ∨ foldR 0 ((l.drop (k + 1)).take (x.toNat - 128)) < 128 then (0, 5, k)
    else if 16777216 < foldR 0 ((l.drop (k + 1)).take (x.toNat - 128)) then (0, 2, k)
    else (foldR 0 ((l.drop (k + 1)).take (x.toNat - 128)), 0, k + 1 + (x.toNat - 128))
/-- Both: the tag, the length, an error, the place behind. -/
def rdHead (l : List UInt8) (k : Nat) : Tg × Nat × Nat × Nat :=
  if (rdTag l k).2.1 = 0 then
    if (rdLen l (rdTag l k).2.2).2.1 = 0 then ((rdTag l k).1, (rdLen l (rdTag l k).2.2).1, 0, (rdLen l (rdTag l k).2.2).2.2)
    else (.zero, 0, (rdLen l (rdTag l k).2.2).2.1, k)
  else (.zero, 0, (rdTag l k).2.1, k)
theorem numR_le (l : List UInt8) : ∀ (f p n : Nat), (numR l f p n).2.1 = 0 → p ≤ l.length → (numR l f p n).2.2 ≤ l.length ∧ p < (numR l f p n).2.2 ∧ 31 ≤ (numR l f p n).1 := by
  intro f
  induction f with
  | zero => intro p n h; simp [numR] at h
  | succ f ih =>
    intro p n h hp
    unfold numR at h ⊢
    cases hx : l[p]? with
    | none => rw [hx] at h; simp at h
    | some d =>
      have hlt : p < l.length := (List.getElem?_eq_some_iff.1 hx).1
      rw [hx] at h
      simp only at h ⊢
      split at h
      · simp at h
      · rename_i h1
        rw [if_neg h1]
        split at h
        · rename_i h2
          rw [if_pos h2]
          split at h
          · simp at h
          · rename_i h3
            rw [if_neg h3]
            simp only
            omega
        · rename_i h2
          rw [if_neg h2]
          have := ih (p + 1) _ h (by omega)
          omega
theorem rdTag_le {l : List UInt8} {k : Nat} (hk : k ≤ l.length) : (rdTag l k).2.2 ≤ l.length ∧ k ≤ (rdTag l k).2.2 := by
  unfold rdTag
  cases hx : l[k]? with
  | none => simp [hk]
  | some x =>
    have hlt : k < l.length := (List.getElem?_eq_some_iff.1 hx).1
    simp only
    split
    · simp; omega
    · split
      · rename_i h
        have := numR_le l 4 (k + 1) 0 h (by omega)
        simp
        omega
      · simp [hk]
theorem rdTag_err {l : List UInt8} {k : Nat} (h : (rdTag l k).2.1 ≠ 0) : rdTag l k = (.zero, (rdTag l k).2.1, k) := by
  unfold rdTag at *
  cases hx : l[k]? with
  | none => rfl
  | some x =>
    rw [hx] at h
    simp only at h ⊢
    split at h
    · simp at h
    · rename_i h1
      rw [if_neg h1]
      split at h
      · simp at h
      · rename_i h2
        rw [if_neg h2]
theorem rdLen_le {l : List UInt8} {k : Nat} (hk : k ≤ l.length) : (rdLen l k).2.2 ≤ l.length ∧ k ≤ (rdLen l k).2.2 := by
  unfold rdLen
  cases hx : l[k]? with
  | none => simp [hk]
  | some x =>
    have hlt : k < l.length := (List.getElem?_eq_some_iff.1 hx).1
    simp only
    repeat' split
    all_goals simp
    all_goals omega
theorem rdLen_err {l : List UInt8} {k : Nat} (h : (rdLen l k).2.1 ≠ 0) : rdLen l k = (0, (rdLen l k).2.1, k) := by
  unfold rdLen at *
  cases hx : l[k]? with
  | none => rfl
  | some x =>
    rw [hx] at h
    simp only at h ⊢
    split
    · rename_i h1; rw [if_pos h1] at h; simp at h
    · rename_i h1
      rw [if_neg h1] at h
      split
      · rfl
      · rename_i h2
        rw [if_neg h2] at h
        split
        · rfl
        · rename_i h3
          rw [if_neg h3] at h
          split
          · rfl
          · rename_i h4
            rw [if_neg h4] at h
            split
            · rfl
            · rename_i h5
              rw [if_neg h5] at h
              simp at h
theorem rdHead_le {l : List UInt8} {k : Nat} (hk : k ≤ l.length) : (rdHead l k).2.2.2 ≤ l.length ∧ k ≤ (rdHead l k).2.2.2 := by
  unfold rdHead
  have h1 := rdTag_le hk
  have h2 := rdLen_le h1.1
  split
  · split <;> simp <;> omega
  · simp [hk]
end Hd
namespace Hd
open Go Go.Mem
/-- A number that a block's first cell holds. -/
def cellN (w : World) (b : Nat) : Nat := match w.cell? ⟨b, 0, none⟩ with
  | some (.int _ m) => m.toNat
  | _ => 0
end Hd
namespace Hd
open Go Go.Mem
end Hd
namespace Hd
open Go Go.Mem
/-- Digits, the first i of which say that more follow. -/
def hiL (i : Nat) (D : List UInt8) : List UInt8 := (D.take i).map (fun d => byteI (128 + (d.toNat : Int))) ++ D.drop i
end Hd
namespace Hd
open Go
end Hd
namespace Hd
open Go Go.Mem
theorem foldR_snoc (a : Nat) (bs : List UInt8) (x : UInt8) : foldR a (bs ++ [x]) = 256 * foldR a bs + x.toNat := by simp [foldR, List.foldl_append]
theorem foldR_lt : ∀ (bs : List UInt8), foldR 0 bs < 256 ^ bs.length := by
  intro bs
  have key : ∀ (bs : List UInt8) (a : Nat), foldR a bs < (a + 1) * 256 ^ bs.length := by
    intro bs
    induction bs with
    | nil => intro a; simp [foldR]
    | cons x r ih =>
      intro a
      have h := ih (256 * a + x.toNat)
      have hx := x.toNat_lt
      rw [List.length_cons, Nat.pow_succ, show (a + 1) * (256 ^ r.length * 256) = (256 * (a + 1)) * 256 ^ r.length by rw [← Nat.mul_assoc, Nat.mul_comm ((a+1) * _) 256, ← Nat.mul_assoc]]
      exact Nat.lt_of_lt_of_le h (Nat.mul_le_mul_right _ (by omega))
  simpa using key bs 0
/-- A length of so many bytes at a place. -/
def longR (l : List UInt8) (p n : Nat) : Nat × Nat × Nat :=
  if l.length - p < n then (0, 3, p)
  else if (l[p]?.getD 0).toNat = 0 ∨ foldR 0 ((l.drop p).take n) < 128 then (0, 5, p)
  else if 16777216 < foldR 0 ((l.drop p).take n) then (0, 2, p)
  else (foldR 0 ((l.drop p).take n), 0, p + n)
theorem rdLen_long {l : List UInt8} {k : Nat} (h : k < l.length) (h1 : ¬ l[k].toNat < 128) (h2 : ¬ (l[k].toNat = 128 ∨ 132 < l[k].toNat)) :
    rdLen l k = if (longR l (k + 1) (l[k].toNat - 128)).2.1 = 0 then longR l (k + 1) (l[k].toNat - 128) else (0, (longR l (k + 1) (l[k].toNat - 128)).2.1, k) := by
  unfold rdLen longR
  rw [List.getElem?_eq_getElem h]
  simp only
  rw [if_neg h1, if_neg h2]
  repeat' split
  all_goals simp_all
end Hd
namespace Hd
open Go Go.Mem
/-- A whole: its bytes, or an error. -/
def wrapR (t : Tg) (ls : List (List UInt8)) : List UInt8 × Nat :=
  if okTag t then (if 16777216 < ls.flatten.length then ([], 2) else (tagL t ++ lenL (ls.flatten.length : Nat) ++ ls.flatten, 0)) else ([], 1)
end Hd

/- Opening a tag and length over bytes, in plain terms. No program in sight. -/
namespace Hd
open Go Go.Mem
deriving instance DecidableEq for Tg
/-- A whole opened at a place: its bytes, the place behind, an error. -/
def opR (l : List UInt8) (k : Nat) (t : Tg) : List UInt8 × Nat × Nat :=
  if (rdHead l k).2.2.1 ≠ 0 then ([], k, (rdHead l k).2.2.1)
  else if (rdHead l k).1 ≠ t then ([], k, 4)
  else if l.length - (rdHead l k).2.2.2 < (rdHead l k).2.1 then ([], k, 3)
  else ((l.drop (rdHead l k).2.2.2).take (rdHead l k).2.1, (rdHead l k).2.2.2 + (rdHead l k).2.1, 0)
/-- A whole that fills the bytes. -/
def alR (l : List UInt8) (t : Tg) : List UInt8 × Nat :=
  if (opR l 0 t).2.2 ≠ 0 then ([], (opR l 0 t).2.2)
  else if (opR l 0 t).2.1 < l.length then ([], 7)
  else ((opR l 0 t).1, 0)
end Hd
namespace Hd
open Go Go.Mem
end Hd

/- Bits of bytes, in plain terms. No program in sight. -/
namespace Bit
open Go Go.Mem Oct
/-- The last byte's value; none: 0. -/
def lastN (l : List UInt8) : Nat := (l[l.length - 1]?.getD 0).toNat
/-- Is it a bit string, with so many bits unused? -/
def rightB (u : Int) (l : List UInt8) : Bool := if l.length = 0 then u == 0 else decide (0 ≤ u ∧ u ≤ 7) && (lastN l % 2 ^ u.toNat == 0)
/-- One bit of bytes, 0 or 1. -/
def bitI (l : List UInt8) (i : Nat) : Nat := (l[i / 8]?.getD 0).toNat / 2 ^ (7 - i % 8) % 2
def bitN (l : List UInt8) (i : Nat) : Bool := bitI l i == 1
def bitsL (l : List UInt8) (k : Nat) : List Nat := (List.range k).map (bitI l)
/-- Whole numbers as values. -/
def ivs (xs : List Nat) : List Value := xs.map fun (n : Nat) => .int .i64 (n : Int)
def zvs (xs : List Int) : List Value := xs.map (.int .i64)
theorem ivs_zvs (xs : List Nat) : ivs xs = zvs (xs.map fun (n : Nat) => (n : Int)) := by simp [ivs, zvs]
/-- How many bits a string has; a wrong one: none. -/
def lenI (u : Int) (l : List UInt8) : Int := if rightB u l then 8 * (l.length : Int) - u else 0
/-- The places of the bits that are 1. -/
def onesL (l : List UInt8) (n : Nat) : List Nat := (List.range n).filter (bitN l)
/-- The flags of a string, or an error. -/
def flagsR (u : Int) (l : List UInt8) : List Nat × Int :=
  if rightB u l then (if 32 < lenI u l ∨ (0 < lenI u l ∧ bitN l ((lenI u l).toNat - 1) = false) then ([], 6) else (onesL l (lenI u l).toNat, 0)) else ([], 1)
/-- What a string's contents hold. -/
def contL (u : Int) (l : List UInt8) : List UInt8 := UInt8.ofNat u.toNat :: l
/-- The string of contents, or an error: 6. -/
def parseB (b : List UInt8) : Bool := match b with
  | [] => false
  | x :: r => rightB (x.toNat : Int) r
/-- Are they flags: ever greater, from 0 to 31? -/
def okFrom (last : Int) : List Int → Bool
  | [] => true
  | x :: r => decide (last < x ∧ x < 32) && okFrom x r
def okF (l : List Int) : Bool := okFrom (-1) l
def lastF (l : List Int) : Int := l.getLast?.getD (-1)
theorem snoc_cases {α : Type} (l : List α) : l = [] ∨ ∃ r x, l = r ++ [x] := by
  cases h : l.reverse with
  | nil => exact .inl (by simpa using h)
  | cons x r => exact .inr ⟨r.reverse, x, by rw [← List.reverse_reverse l, h, List.reverse_cons]⟩
/-- A bit is set. -/
def orAt (B : List UInt8) (i : Nat) : List UInt8 := B.set (i / 8) (UInt8.ofNat ((B[i / 8]?.getD 0).toNat ||| (128 / 2 ^ (i % 8))))
/-- The bytes whose bits are set at the places l, n places in all. -/
def packL (l : List Int) : List UInt8 := (l.foldl (fun B x => orAt B x.toNat) (List.replicate (((lastF l + 1).toNat + 7) / 8) 0))
end Bit

/- The frame of a law's proof: a call that returns true and leaves all old memory as it was meets the law's specification. No condition. -/
namespace Go.LawLift
open Go.RowKit Go.ChangeShapes Go.WideShapes Go.ChangeAt
theorem trodAll_below {H : Type} {enc : TypeId × Value → H} {P : Program} (hl : laidOutB P = true) {W W' : World} (hb : Below W.heap.size W W') :
    ∀ (ts : List TypeId) (vs : List Value) (ds : List (DataW H)) (ps : List MemPlace), (∀ t ∈ ts, P.readableRec t = true ∧ t < P.types.size) →
      DataW.TrodAll enc P W 0 (fun _ => true) true ts vs ds ps → (∀ x ∈ ps, x.block < W.heap.size) →
      DataW.TrodAll enc P W' 0 (fun b => decide (b < W.heap.size)) true ts vs ds ps
  | [], vs, ds, ps, _, h, _ => by
    obtain ⟨rfl, rfl, rfl⟩ := trodAll_nil h
    exact rfl
  | t :: ts, vs, ds, ps, hr, h, hlt => by
    obtain ⟨v, vs', d, ds', p, q, rfl, rfl, rfl, hd, hrest⟩ := trodAll_cons h
    exact ⟨p, q, Below.trod hl (hr t (by simp)).1 (hr t (by simp)).2 hd hb (fun x hx => hlt x (by simp [hx])), trodAll_below hl hb ts vs' ds' q (fun t' ht' => hr t' (by simp [ht'])) hrest (fun x hx => hlt x (by simp [hx])), rfl⟩
theorem law_post {H : Type} {enc : TypeId × Value → H} {P : Program} {fn : Func} {s : ChangeSpec} {W W' : World} {args : Array Value} {ds gs : List (DataW H)} {before : List MemPlace} {tb : TypeId}
    (hl : laidOutB P = true) (hro0 : (fn.params.toList.all fun t => P.readableRec t && decide (t < P.types.size)) = true) (hv : s.vars = []) (hres : fn.resultTypes = #[tb]) (htb : P.underlying tb = some .bool)
    (hs : (s.fn H (ds ++ [])).results = [.lit (.bool true)] ∧ (s.fn H (ds ++ [])).args = ds ∧ (s.fn H (ds ++ [])).vars = [])
    (hW : DataW.Whole enc P fn.params.toList s.vars false W args.toList ds gs before) (hb : Below W.heap.size W W') :
    s.post enc P fn false true false false W args (.bool true) W' := by
  have hro : ∀ t ∈ fn.params.toList, P.readableRec t = true ∧ t < P.types.size := fun t ht => by simpa using (List.all_eq_true.1 hro0) t ht
  have hW' := hW
  obtain ⟨p, q, hA, hV, rfl, _, _⟩ := hW
  rw [hv] at hV
  obtain ⟨rfl, rfl⟩ := trodVars_none hV
  obtain ⟨s1, s2, s3⟩ := hs
  have hlt : ∀ x ∈ p, x.block < W.heap.size := fun x hx => hW'.lt x (by simp [hx])
  refine ⟨ds, [], p ++ [], [], p, [], hW', ?_, ?_, ?_, hb.frame _, fun h => by cases h⟩
  · rw [s1, hres]
    exact trodAll_mk1 (shut_bool htb true)
  · rw [s2]
    exact trodAll_below hl hb _ _ _ _ hro hA hlt
  · rw [s3, hv]
    exact rfl
end Go.LawLift

/- A law's arguments opened: what a reading of the arguments says of their values. No condition. -/
namespace Go.LawLift
open Go.RowKit Go.ChangeShapes Go.WideShapes Go.Deep
section
variable {H : Type} {enc : TypeId × Value → H} {P : Program} {w : World} {base : Nat} {spare : Nat → Bool} {held : Bool} {t : TypeId}
theorem rd_int {k : IntKind} {fuel : Nat} {v : Value} {x : DataW H × List MemPlace} (ht : P.underlying t = some (.int k)) (h : DataW.trod enc P w base spare held fuel t [v] = some x) : ∃ n, v = .int k n ∧ k.min ≤ n ∧ n ≤ k.max := by
  obtain ⟨n, hc, _, hw⟩ := DataW.trod_int ht h
  injection hc with hc
  exact ⟨n, hc, (Lit.wf_int_iff k n).1 hw⟩
variable {r : Reach} {b0 : Nat} {v : Value} {d : DataW H} {p : List MemPlace}
end
end Go.LawLift

