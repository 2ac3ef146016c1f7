/- What a writer of tags and lengths put out is what a reader takes in; a part of it is too short. No program in sight. -/
import Derived.Test.YtldblmgmcmnepaaHOpen
set_option linter.unusedSimpArgs false
set_option linter.unusedVariables false
namespace Hd
open Go Go.Mem
theorem byteI_nat {i : Int} (h0 : 0 ≤ i) (h1 : i ≤ 255) : ((byteI i).toNat : Int) = i := by
  unfold byteI
  rw [UInt8.toNat_ofNat']
  omega
theorem rdLen_back (n : Nat) (hn : n ≤ 16777216) (r : List UInt8) : rdLen (lenL (n : Int) ++ r) 0 = (n, 0, (lenL (n : Int)).length) := by
  have b1 : ∀ i : Int, 0 ≤ i → i ≤ 255 → ((byteI i).toNat : Int) = i := fun i h0 h1 => byteI_nat h0 h1
  unfold lenL
  split
  · rename_i h
    have e1 := b1 (n : Int) (by omega) (by omega)
    simp only [rdLen, List.cons_append, List.nil_append, List.getElem?_cons_zero, List.length_cons, List.length_nil]
    rw [if_pos (by omega)]
    simp only [Prod.mk.injEq, and_self, and_true]
    omega
  · split
    · have e1 := b1 (n : Int) (by omega) (by omega)
      simp only [rdLen, List.cons_append, List.nil_append, List.getElem?_cons_zero, List.length_cons, List.length_nil, Nat.zero_add, List.getElem?_cons_succ, Option.getD_some, List.drop_succ_cons, List.drop_zero, foldR, UInt8.reduceToNat, Nat.reduceSub, List.take_succ_cons, List.take_zero, List.foldl_cons, List.foldl_nil]
      rw [if_neg (by omega), if_neg (by omega), if_neg (by omega), if_neg (by omega), if_neg (by omega)]
      simp only [Prod.mk.injEq, true_and, and_true]
      omega
    · split
      · have e1 := b1 ((n : Int) / 256) (by omega) (by omega)
        have e2 := b1 ((n : Int) % 256) (by omega) (by omega)
        simp only [rdLen, List.cons_append, List.nil_append, List.getElem?_cons_zero, List.length_cons, List.length_nil, Nat.zero_add, List.getElem?_cons_succ, Option.getD_some, List.drop_succ_cons, List.drop_zero, foldR, UInt8.reduceToNat, Nat.reduceSub, List.take_succ_cons, List.take_zero, List.foldl_cons, List.foldl_nil]
        rw [if_neg (by omega), if_neg (by omega), if_neg (by omega), if_neg (by omega), if_neg (by omega)]
        simp only [Prod.mk.injEq, true_and, and_true]
        omega
      · split
        · have e1 := b1 ((n : Int) / 65536) (by omega) (by omega)
          have e2 := b1 ((n : Int) / 256 % 256) (by omega) (by omega)
          have e3 := b1 ((n : Int) % 256) (by omega) (by omega)
          simp only [rdLen, List.cons_append, List.nil_append, List.getElem?_cons_zero, List.length_cons, List.length_nil, Nat.zero_add, List.getElem?_cons_succ, Option.getD_some, List.drop_succ_cons, List.drop_zero, foldR, UInt8.reduceToNat, Nat.reduceSub, List.take_succ_cons, List.take_zero, List.foldl_cons, List.foldl_nil]
          rw [if_neg (by omega), if_neg (by omega), if_neg (by omega), if_neg (by omega), if_neg (by omega)]
          simp only [Prod.mk.injEq, true_and, and_true]
          omega
        · obtain rfl : n = 16777216 := by omega
          simp only [rdLen, List.cons_append, List.nil_append, List.getElem?_cons_zero, List.length_cons, List.length_nil, Nat.zero_add, List.getElem?_cons_succ, Option.getD_some, List.drop_succ_cons, List.drop_zero, foldR, UInt8.reduceToNat, Nat.reduceSub, List.take_succ_cons, List.take_zero, List.foldl_cons, List.foldl_nil]
          rw [if_neg (by omega), if_neg (by omega), if_neg (by omega), if_neg (by decide), if_neg (by decide)]
          decide
/-- The digits that a tag's first byte is followed by. -/
def tailL (n : Int) : List UInt8 := (if 16384 ≤ n then [byteI (128 + n / 16384)] else []) ++ (if 128 ≤ n then [byteI (128 + n / 128 % 128)] else []) ++ [byteI (n % 128)]
/-- A whole over content. -/
def wholeL (t : Tg) (l : List UInt8) : List UInt8 := tagL t ++ lenL (l.length : Nat) ++ l
end Hd

