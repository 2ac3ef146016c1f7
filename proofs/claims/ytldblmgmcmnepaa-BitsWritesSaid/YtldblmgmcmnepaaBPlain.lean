/- Bits of bytes, in plain terms. No program in sight. -/
import Derived.Test.YtldblmgmcmnepaaMem
import Derived.Test.YtldblmgmcmnepaaOPlain
set_option linter.unusedSimpArgs false
set_option linter.unusedVariables false
namespace Bit
open Go Go.Mem Oct
/-- The last byte's value; none: 0. -/
def lastN (l : List UInt8) : Nat := (l[l.length - 1]?.getD 0).toNat
/-- Is it a bit string, with so many bits unused? -/
def rightB (u : Int) (l : List UInt8) : Bool := if l.length = 0 then u == 0 else decide (0 ≤ u ∧ u ≤ 7) && (lastN l % 2 ^ u.toNat == 0)
theorem lastN_at {l : List UInt8} (h : l.length - 1 < l.length) : lastN l = l[l.length - 1].toNat := by
  unfold lastN
  rw [List.getElem?_eq_getElem h]
  rfl
theorem and_low : ∀ u, u < 8 → ∀ n, n < 256 → (bits BinOp.and IntKind.u8 ((n : Nat) : Int) ((2 ^ u - 1 : Nat) : Int) = ((n % 2 ^ u : Nat) : Int)) := by decide +kernel
/-- One bit of bytes, 0 or 1. -/
def bitI (l : List UInt8) (i : Nat) : Nat := (l[i / 8]?.getD 0).toNat / 2 ^ (7 - i % 8) % 2
def bitN (l : List UInt8) (i : Nat) : Bool := bitI l i == 1
theorem bitI_at {l : List UInt8} {i : Nat} (h : i / 8 < l.length) : bitI l i = l[i / 8].toNat / 2 ^ (7 - i % 8) % 2 := by
  unfold bitI
  rw [List.getElem?_eq_getElem h]
  rfl
def bitsL (l : List UInt8) (k : Nat) : List Nat := (List.range k).map (bitI l)
theorem bitsL_length (l : List UInt8) (k : Nat) : (bitsL l k).length = k := by simp [bitsL]
theorem bitsL_succ (l : List UInt8) (k : Nat) : bitsL l (k + 1) = bitsL l k ++ [bitI l k] := by simp [bitsL, List.range_succ]
theorem bitsL_at {l : List UInt8} {k i : Nat} (h : i < k) : (bitsL l k)[i]? = some (bitI l i) := by simp [bitsL, h]
/-- Whole numbers as values. -/
def ivs (xs : List Nat) : List Value := xs.map fun (n : Nat) => .int .i64 (n : Int)
def zvs (xs : List Int) : List Value := xs.map (.int .i64)
theorem ivs_zvs (xs : List Nat) : ivs xs = zvs (xs.map fun (n : Nat) => (n : Int)) := by simp [ivs, zvs]
theorem ivs_snoc (xs : List Nat) (x : Nat) : ivs xs ++ [.int .i64 (x : Int)] = ivs (xs ++ [x]) := by simp [ivs]
theorem low_bits' : (List.range 8).all (fun u => (List.range 256).all fun n => ((List.range 8).all fun i => decide (8 - u ≤ i → n / 2 ^ (7 - i) % 2 = 0)) == decide (n % 2 ^ u = 0)) = true := by decide +kernel
theorem low_bits (u : Nat) (hu : u < 8) (n : Nat) (hn : n < 256) : (∀ i, 8 - u ≤ i → i < 8 → n / 2 ^ (7 - i) % 2 = 0) ↔ n % 2 ^ u = 0 := by
  have h := List.all_eq_true.1 (List.all_eq_true.1 low_bits' u (List.mem_range.2 hu)) n (List.mem_range.2 hn)
  rw [beq_iff_eq] at h
  constructor
  · intro hh
    have : (decide (n % 2 ^ u = 0)) = true := by
      rw [← h, List.all_eq_true]
      intro i hi
      exact decide_eq_true fun h1 => hh i h1 (List.mem_range.1 hi)
    exact of_decide_eq_true this
  · intro hh i h1 h2
    rw [decide_eq_true hh, List.all_eq_true] at h
    exact of_decide_eq_true (h i (List.mem_range.2 h2)) h1
/-- The unused bits are all 0. -/
theorem right_bits {u : Nat} (hu : u < 8) {l : List UInt8} (h : l ≠ []) : rightB (u : Int) l = true ↔ ∀ i, 8 - u ≤ i → i < 8 → bitI [l[l.length - 1]?.getD 0] i = 0 := by
  have hl : l.length ≠ 0 := by simpa using h
  have hlt := (l[l.length - 1]?.getD 0).toNat_lt
  unfold rightB lastN
  rw [if_neg hl, decide_eq_true (by omega), Bool.true_and, beq_iff_eq, Int.toNat_natCast, ← low_bits u hu _ hlt]
  constructor
  · intro hh i h1 h2
    have := hh i h1 h2
    unfold bitI
    rw [show i / 8 = 0 by omega, show i % 8 = i by omega]
    exact this
  · intro hh i h1 h2
    have := hh i h1 h2
    unfold bitI at this
    rw [show i / 8 = 0 by omega, show i % 8 = i by omega] at this
    exact this
/-- How many bits a string has; a wrong one: none. -/
def lenI (u : Int) (l : List UInt8) : Int := if rightB u l then 8 * (l.length : Int) - u else 0
theorem right_range {u : Int} {l : List UInt8} (h : rightB u l = true) : 0 ≤ u ∧ u ≤ 7 ∧ u ≤ 8 * l.length := by
  unfold rightB at h
  split at h
  · rename_i h0
    have : u = 0 := by simpa using h
    subst this
    omega
  · have := (Bool.and_eq_true_iff.1 h).1
    have := of_decide_eq_true this
    omega
/-- The places of the bits that are 1. -/
def onesL (l : List UInt8) (n : Nat) : List Nat := (List.range n).filter (bitN l)
theorem onesL_succ (l : List UInt8) (n : Nat) : onesL l (n + 1) = onesL l n ++ (if bitN l n then [n] else []) := by
  unfold onesL
  rw [List.range_succ, List.filter_append]
  congr 1
  cases h : bitN l n <;> simp [h]
theorem onesL_length (l : List UInt8) (n : Nat) : (onesL l n).length ≤ n := by
  have := List.length_filter_le (bitN l) (List.range n)
  simpa [onesL] using this
/-- The flags of a string, or an error. -/
def flagsR (u : Int) (l : List UInt8) : List Nat × Int :=
  if rightB u l then (if 32 < lenI u l ∨ (0 < lenI u l ∧ bitN l ((lenI u l).toNat - 1) = false) then ([], 6) else (onesL l (lenI u l).toNat, 0)) else ([], 1)
theorem and1' : ∀ x, x < 256 → bits BinOp.and IntKind.u8 ((x : Nat) : Int) 1 = ((x % 2 : Nat) : Int) := by decide +kernel
theorem bit_val {l : List UInt8} {i : Nat} (h : i / 8 < l.length) : (bits BinOp.and IntKind.u8 ((l[i / 8].toNat : Int) / 2 ^ (7 - i % 8)) 1 == 1) = bitN l i := by
  have hlt : l[i / 8].toNat / 2 ^ (7 - i % 8) < 256 := Nat.lt_of_le_of_lt (Nat.div_le_self _ _) l[i / 8].toNat_lt
  have e : (l[i / 8].toNat : Int) / 2 ^ (7 - i % 8) = ((l[i / 8].toNat / 2 ^ (7 - i % 8) : Nat) : Int) := by
    rw [Int.natCast_ediv, Int.natCast_pow]
    rfl
  rw [e, and1' _ hlt]
  unfold bitN
  rw [bitI_at h]
  generalize l[i / 8].toNat / 2 ^ (7 - i % 8) % 2 = x
  cases x with
  | zero => rfl
  | succ n => cases n <;> rfl
/-- What a string's contents hold. -/
def contL (u : Int) (l : List UInt8) : List UInt8 := UInt8.ofNat u.toNat :: l
/-- The string of contents, or an error: 6. -/
def parseB (b : List UInt8) : Bool := match b with
  | [] => false
  | x :: r => rightB (x.toNat : Int) r
/-- Are they flags: ever greater, from 0 to 31? -/
def okFrom (last : Int) : List Int → Bool
  | [] => true
  | x :: r => decide (last < x ∧ x < 32) && okFrom x r
def okF (l : List Int) : Bool := okFrom (-1) l
def lastF (l : List Int) : Int := l.getLast?.getD (-1)
theorem lastF_snoc (l : List Int) (x : Int) : lastF (l ++ [x]) = x := by simp [lastF]
theorem okFrom_snoc (a : Int) (l : List Int) (x : Int) : okFrom a (l ++ [x]) = (okFrom a l && decide (l.getLast?.getD a < x ∧ x < 32)) := by
  induction l generalizing a with
  | nil => simp only [List.nil_append, okFrom, Bool.and_true, Bool.true_and]; rfl
  | cons y r ih =>
    rw [List.cons_append, okFrom, ih, okFrom, Bool.and_assoc]
    have : (y :: r).getLast?.getD a = r.getLast?.getD y := by
      cases r with
      | nil => rfl
      | cons z r => rw [List.getLast?_cons_cons]; simp [List.getLast?_eq_some_getLast]
    rw [this]
theorem okF_snoc (l : List Int) (x : Int) : okF (l ++ [x]) = (okF l && decide (lastF l < x ∧ x < 32)) := okFrom_snoc _ _ _
theorem snoc_cases {α : Type} (l : List α) : l = [] ∨ ∃ r x, l = r ++ [x] := by
  cases h : l.reverse with
  | nil => exact .inl (by simpa using h)
  | cons x r => exact .inr ⟨r.reverse, x, by rw [← List.reverse_reverse l, h, List.reverse_cons]⟩
theorem okFrom_mem {a : Int} {l : List Int} (h : okFrom a l = true) : (∀ x ∈ l, a < x ∧ x < 32) ∧ l.Pairwise (· < ·) := by
  induction l generalizing a with
  | nil => exact ⟨fun x hx => by simp at hx, .nil⟩
  | cons y r ih =>
    rw [okFrom, Bool.and_eq_true_iff] at h
    obtain ⟨h1, h2⟩ := h
    have h1 := of_decide_eq_true h1
    obtain ⟨i1, i2⟩ := ih h2
    refine ⟨fun x hx => ?_, List.pairwise_cons.2 ⟨fun x hx => (i1 x hx).1, i2⟩⟩
    rcases List.mem_cons.1 hx with rfl | hx
    · exact h1
    · have := i1 x hx
      omega
theorem okF_mem {l : List Int} (h : okF l = true) : ∀ x ∈ l, 0 ≤ x ∧ x < 32 := fun x hx => by
  have := (okFrom_mem h).1 x hx
  omega
theorem okF_last {l : List Int} (h : okF l = true) : -1 ≤ lastF l ∧ lastF l < 32 ∧ ∀ x ∈ l, x ≤ lastF l := by
  rcases snoc_cases l with rfl | ⟨r, y, rfl⟩
  · exact ⟨by decide, by decide, fun x hx => by simp at hx⟩
  · have hm := okF_mem h y (by simp)
    have hp := (okFrom_mem h).2
    rw [lastF_snoc]
    refine ⟨by omega, hm.2, fun x hx => ?_⟩
    rcases List.mem_append.1 hx with hx | hx
    · have := (List.pairwise_append.1 hp).2.2 x hx y (by simp)
      omega
    · have : x = y := by simpa using hx
      omega
theorem okF_take {l : List Int} (h : okF l = true) (i : Nat) : okF (l.take i) = true := by
  have key : ∀ (a : Int) (l : List Int), okFrom a l = true → ∀ i, okFrom a (l.take i) = true := by
    intro a l
    induction l generalizing a with
    | nil => intro _ i; simp [okFrom]
    | cons y r ih =>
      intro h i
      cases i with
      | zero => rfl
      | succ i =>
        rw [okFrom, Bool.and_eq_true_iff] at h
        rw [List.take_succ_cons, okFrom, h.1, ih y h.2 i]
        rfl
  exact key _ _ h i
/-- A bit is set. -/
def orAt (B : List UInt8) (i : Nat) : List UInt8 := B.set (i / 8) (UInt8.ofNat ((B[i / 8]?.getD 0).toNat ||| (128 / 2 ^ (i % 8))))
theorem orAt_length (B : List UInt8) (i : Nat) : (orAt B i).length = B.length := by simp [orAt]
theorem or_lt' : (List.range 8).all (fun j => (List.range 256).all fun n => decide ((n ||| (128 / 2 ^ j)) < 256)) = true := by decide +kernel
theorem or_lt {j n : Nat} (hj : j < 8) (hn : n < 256) : (n ||| (128 / 2 ^ j)) < 256 := of_decide_eq_true (List.all_eq_true.1 (List.all_eq_true.1 or_lt' j (List.mem_range.2 hj)) n (List.mem_range.2 hn))
/-- The bytes whose bits are set at the places l, n places in all. -/
def packL (l : List Int) : List UInt8 := (l.foldl (fun B x => orAt B x.toNat) (List.replicate (((lastF l + 1).toNat + 7) / 8) 0))
theorem fold_length (l : List Int) : ∀ B : List UInt8, (l.foldl (fun B x => orAt B x.toNat) B).length = B.length := by
  induction l with
  | nil => intro B; rfl
  | cons x r ih => intro B; rw [List.foldl_cons, ih, orAt_length]
end Bit

