/- What a reader of tags and lengths took in is what a writer puts out. No program in sight. -/
import Derived.Test.YtogliinfdfkobaaHPlain
import Derived.Test.YtogliinfdfkobaaInts
set_option linter.unusedSimpArgs false
set_option linter.unusedVariables false
namespace Hd
open Go Go.Mem
theorem numQ_end {l : List UInt8} {f p n : Nat} {d : UInt8} (h : l[p]? = some d) (hc : ¬((f = 3 ∧ d.toNat = 128) ∨ f = 0)) (hd : d.toNat < 128) : numR l (f + 1) p n = if n * 128 + d.toNat % 128 < 31 then (0, 4, p) else (n * 128 + d.toNat % 128, 0, p + 1) := by
  rw [numR, h]
  simp only
  rw [if_neg hc, if_pos hd]
theorem numQ_on {l : List UInt8} {f p n : Nat} {d : UInt8} (h : l[p]? = some d) (hc : ¬((f = 3 ∧ d.toNat = 128) ∨ f = 0)) (hd : ¬ d.toNat < 128) : numR l (f + 1) p n = numR l f (p + 1) (n * 128 + d.toNat % 128) := by
  rw [numR, h]
  simp only
  rw [if_neg hc, if_neg hd]
end Hd

/- What a writer of tags and lengths put out is what a reader takes in; a part of it is too short. No program in sight. -/
namespace Hd
open Go Go.Mem
theorem byteI_nat {i : Int} (h0 : 0 ≤ i) (h1 : i ≤ 255) : ((byteI i).toNat : Int) = i := by
  unfold byteI
  rw [UInt8.toNat_ofNat']
  omega
theorem rdLen_shift (a b : List UInt8) : rdLen (a ++ b) a.length = ((rdLen b 0).1, (rdLen b 0).2.1, a.length + (rdLen b 0).2.2) := by
  unfold rdLen
  rw [List.getElem?_append_right (Nat.le_refl _), Nat.sub_self]
  cases hx : b[0]? with
  | none => rfl
  | some x =>
    have hg : (a ++ b)[a.length + 1]? = b[0 + 1]? := by rw [List.getElem?_append_right (by omega)]; congr 1; omega
    have hd : (a ++ b).drop (a.length + 1) = b.drop (0 + 1) := by rw [List.drop_append]; simp
    have hl : (a ++ b).length - (a.length + 1) = b.length - (0 + 1) := by rw [List.length_append]; omega
    simp only [hg, hd, hl]
    repeat' split
    all_goals simp only [Nat.add_zero, Nat.zero_add, Prod.mk.injEq, true_and]
    all_goals omega
theorem rdLen_back (n : Nat) (hn : n ≤ 16777216) (r : List UInt8) : rdLen (lenL (n : Int) ++ r) 0 = (n, 0, (lenL (n : Int)).length) := by
  have b1 : ∀ i : Int, 0 ≤ i → i ≤ 255 → ((byteI i).toNat : Int) = i := fun i h0 h1 => byteI_nat h0 h1
  unfold lenL
  split
  · rename_i h
    have e1 := b1 (n : Int) (by omega) (by omega)
    simp only [rdLen, List.cons_append, List.nil_append, List.getElem?_cons_zero, List.length_cons, List.length_nil]
    rw [if_pos (by omega)]
    simp only [Prod.mk.injEq, and_self, and_true]
    omega
  · split
    · have e1 := b1 (n : Int) (by omega) (by omega)
      simp only [rdLen, List.cons_append, List.nil_append, List.getElem?_cons_zero, List.length_cons, List.length_nil, Nat.zero_add, List.getElem?_cons_succ, Option.getD_some, List.drop_succ_cons, List.drop_zero, foldR, UInt8.reduceToNat, Nat.reduceSub, List.take_succ_cons, List.take_zero, List.foldl_cons, List.foldl_nil]
      rw [if_neg (by omega), if_neg (by omega), if_neg (by omega), if_neg (by omega), if_neg (by omega)]
      simp only [Prod.mk.injEq, true_and, and_true]
      omega
    · split
      · have e1 := b1 ((n : Int) / 256) (by omega) (by omega)
        have e2 := b1 ((n : Int) % 256) (by omega) (by omega)
        simp only [rdLen, List.cons_append, List.nil_append, List.getElem?_cons_zero, List.length_cons, List.length_nil, Nat.zero_add, List.getElem?_cons_succ, Option.getD_some, List.drop_succ_cons, List.drop_zero, foldR, UInt8.reduceToNat, Nat.reduceSub, List.take_succ_cons, List.take_zero, List.foldl_cons, List.foldl_nil]
        rw [if_neg (by omega), if_neg (by omega), if_neg (by omega), if_neg (by omega), if_neg (by omega)]
        simp only [Prod.mk.injEq, true_and, and_true]
        omega
      · split
        · have e1 := b1 ((n : Int) / 65536) (by omega) (by omega)
          have e2 := b1 ((n : Int) / 256 % 256) (by omega) (by omega)
          have e3 := b1 ((n : Int) % 256) (by omega) (by omega)
          simp only [rdLen, List.cons_append, List.nil_append, List.getElem?_cons_zero, List.length_cons, List.length_nil, Nat.zero_add, List.getElem?_cons_succ, Option.getD_some, List.drop_succ_cons, List.drop_zero, foldR, UInt8.reduceToNat, Nat.reduceSub, List.take_succ_cons, List.take_zero, List.foldl_cons, List.foldl_nil]
          rw [if_neg (by omega), if_neg (by omega), if_neg (by omega), if_neg (by omega), if_neg (by omega)]
          simp only [Prod.mk.injEq, true_and, and_true]
          omega
        · obtain rfl : n = 16777216 := by omega
          simp only [rdLen, List.cons_append, List.nil_append, List.getElem?_cons_zero, List.length_cons, List.length_nil, Nat.zero_add, List.getElem?_cons_succ, Option.getD_some, List.drop_succ_cons, List.drop_zero, foldR, UInt8.reduceToNat, Nat.reduceSub, List.take_succ_cons, List.take_zero, List.foldl_cons, List.foldl_nil]
          rw [if_neg (by omega), if_neg (by omega), if_neg (by omega), if_neg (by decide), if_neg (by decide)]
          decide
theorem firstN_parts {c n : Int} {m : Bool} (j : Int) (j0 : 0 ≤ j) (j1 : j ≤ 31) (x : UInt8) (hx : (x.toNat : Int) = firstN ⟨c, n, m⟩ + j) :
    (x.toNat : Int) / 64 = c ∧ (x.toNat : Int) % 32 = j ∧ (x.toNat / 32 % 2 == 1) = m := by
  unfold firstN at hx
  cases m
  · simp only [Bool.false_eq_true, if_false] at hx
    refine ⟨by omega, by omega, ?_⟩
    have : x.toNat / 32 % 2 = 0 := by omega
    rw [this]; rfl
  · simp only [if_true] at hx
    refine ⟨by omega, by omega, ?_⟩
    have : x.toNat / 32 % 2 = 1 := by omega
    rw [this]; rfl
/-- The digits that a tag's first byte is followed by. -/
def tailL (n : Int) : List UInt8 := (if 16384 ≤ n then [byteI (128 + n / 16384)] else []) ++ (if 128 ≤ n then [byteI (128 + n / 128 % 128)] else []) ++ [byteI (n % 128)]
theorem tagL_high {c n : Int} {m : Bool} (h : ¬ n < 31) : tagL ⟨c, n, m⟩ = byteI (firstN ⟨c, n, m⟩ + 31) :: tailL n := by
  unfold tagL tailL
  rw [if_neg (by simpa using h)]
theorem numR_back (k : Nat) (h1 : 31 ≤ k) (h2 : k < 2097152) (x : UInt8) (r : List UInt8) : numR (x :: (tailL (k : Int) ++ r)) 4 1 0 = (k, 0, 1 + (tailL (k : Int)).length) := by
  have b1 : ∀ i : Int, 0 ≤ i → i ≤ 255 → ((byteI i).toNat : Int) = i := fun i h0 h1 => byteI_nat h0 h1
  have e1 := b1 ((k : Int) % 128) (by omega) (by omega)
  unfold tailL
  rcases (by omega : k < 128 ∨ (128 ≤ k ∧ k < 16384) ∨ 16384 ≤ k) with h | h | h
  · rw [if_neg (by omega), if_neg (by omega)]
    simp only [List.nil_append, List.cons_append, List.length_cons, List.length_nil]
    rw [numQ_end (d := byteI ((k : Int) % 128)) rfl (by omega) (by omega), if_neg (by omega)]
    simp only [Prod.mk.injEq, true_and, and_true]
    omega
  · have e2 := b1 (128 + (k : Int) / 128 % 128) (by omega) (by omega)
    rw [if_neg (by omega), if_pos (by omega)]
    simp only [List.nil_append, List.cons_append, List.length_cons, List.length_nil]
    rw [numQ_on (d := byteI (128 + (k : Int) / 128 % 128)) rfl (by omega) (by omega), numQ_end (d := byteI ((k : Int) % 128)) rfl (by omega) (by omega), if_neg (by omega)]
    simp only [Prod.mk.injEq, true_and, and_true]
    omega
  · have e2 := b1 (128 + (k : Int) / 128 % 128) (by omega) (by omega)
    have e3 := b1 (128 + (k : Int) / 16384) (by omega) (by omega)
    rw [if_pos (by omega), if_pos (by omega)]
    simp only [List.nil_append, List.cons_append, List.length_cons, List.length_nil]
    rw [numQ_on (d := byteI (128 + (k : Int) / 16384)) rfl (by omega) (by omega), numQ_on (d := byteI (128 + (k : Int) / 128 % 128)) rfl (by omega) (by omega), numQ_end (d := byteI ((k : Int) % 128)) rfl (by omega) (by omega), if_neg (by omega)]
    simp only [Prod.mk.injEq, true_and, and_true]
    omega
theorem rdTag_back (c n : Int) (m : Bool) (h : okTag ⟨c, n, m⟩ = true) (r : List UInt8) : rdTag (tagL ⟨c, n, m⟩ ++ r) 0 = (⟨c, n, m⟩, 0, (tagL ⟨c, n, m⟩).length) := by
  obtain ⟨h0, h1, h2, h3⟩ := okTag_iff.1 h
  simp only at h0 h1 h2 h3
  have hf := firstN_ok (n := n) (m := m) h0 h1
  by_cases hn : n < 31
  · have e1 := byteI_nat (i := firstN ⟨c, n, m⟩ + n) (by omega) (by omega)
    obtain ⟨p1, p2, p3⟩ := firstN_parts n h2 (by omega) _ e1
    unfold tagL
    rw [if_pos hn]
    simp only [rdTag, List.cons_append, List.nil_append, List.getElem?_cons_zero, List.length_cons, List.length_nil]
    rw [if_pos (by omega), p1, p2, p3]
  · have e1 := byteI_nat (i := firstN ⟨c, n, m⟩ + 31) (by omega) (by omega)
    obtain ⟨p1, p2, p3⟩ := firstN_parts 31 (by omega) (by omega) _ e1
    rw [tagL_high hn]
    obtain ⟨k, rfl⟩ := Int.eq_ofNat_of_zero_le h2
    have hN := numR_back k (by omega) (by omega) (byteI (firstN ⟨c, (k : Int), m⟩ + 31)) r
    simp only [rdTag, List.cons_append, List.getElem?_cons_zero, List.length_cons, Nat.zero_add]
    rw [if_neg (by omega), hN, p1, p3]
    simp only [if_true, Prod.mk.injEq, true_and]
    omega
/-- A whole over content. -/
def wholeL (t : Tg) (l : List UInt8) : List UInt8 := tagL t ++ lenL (l.length : Nat) ++ l
theorem head_back {c n : Int} {m : Bool} (h : okTag ⟨c, n, m⟩ = true) (z : Nat) (hz : z ≤ 16777216) (r : List UInt8) :
    rdHead (tagL ⟨c, n, m⟩ ++ (lenL (z : Int) ++ r)) 0 = (⟨c, n, m⟩, z, 0, (tagL ⟨c, n, m⟩).length + (lenL (z : Int)).length) := by
  unfold rdHead
  rw [rdTag_back c n m h]
  simp only [if_true]
  rw [rdLen_shift, rdLen_back z hz]
  simp only [if_true]
end Hd

