/- Flags and their string, there and back, in plain terms. No program in sight. -/
import Derived.Test.YtldblmgmcmnepaaBPlain
set_option linter.unusedSimpArgs false
set_option linter.unusedVariables false
namespace Bit
open Go Go.Mem Oct
def toZ (xs : List Nat) : List Int := xs.map fun (n : Nat) => (n : Int)
theorem toZ_snoc (xs : List Nat) (x : Nat) : toZ (xs ++ [x]) = toZ xs ++ [(x : Int)] := by simp [toZ]
theorem mem_toZ {xs : List Nat} {k : Nat} : (k : Int) ∈ toZ xs ↔ k ∈ xs := by
  unfold toZ
  rw [List.mem_map]
  constructor
  · rintro ⟨a, ha, e⟩
    have : a = k := by omega
    exact this ▸ ha
  · intro h
    exact ⟨k, h, rfl⟩
/-- The places of a list among the first. -/
def inL (Z : List Int) (N : Nat) : List Nat := (List.range N).filter fun (k : Nat) => decide ((k : Int) ∈ Z)
theorem inL_succ (Z : List Int) (N : Nat) : inL Z (N + 1) = inL Z N ++ (if (N : Int) ∈ Z then [N] else []) := by
  unfold inL
  rw [List.range_succ, List.filter_append]
  congr 1
  by_cases h : (N : Int) ∈ Z <;> simp [h]
theorem inL_more {Z : List Int} (h : okF Z = true) (N : Nat) (hN : lastF Z + 1 ≤ N) (j : Nat) : inL Z (N + j) = inL Z N := by
  induction j with
  | zero => rfl
  | succ j ih =>
    have : ((N + j : Nat) : Int) ∉ Z := fun hm => by
      have := (okF_last h).2.2 _ hm
      omega
    rw [← Nat.add_assoc, inL_succ, if_neg this, ih, List.append_nil]
theorem inL_congr {Z Y : List Int} {N : Nat} (h : ∀ k : Nat, k < N → ((k : Int) ∈ Z ↔ (k : Int) ∈ Y)) : inL Z N = inL Y N := by
  unfold inL
  refine List.filter_congr fun k hk => ?_
  have := h k (List.mem_range.1 hk)
  by_cases h1 : (k : Int) ∈ Z
  · rw [decide_eq_true h1, decide_eq_true (this.1 h1)]
  · rw [decide_eq_false h1, decide_eq_false fun h2 => h1 (this.2 h2)]
theorem inL_all : ∀ (n : Nat) (Z : List Int), Z.length = n → okF Z = true → ∀ N : Nat, lastF Z + 1 ≤ N → toZ (inL Z N) = Z := by
  intro n
  induction n with
  | zero =>
    intro Z hl _ N _
    have : Z = [] := List.eq_nil_of_length_eq_zero hl
    subst this
    simp [inL, toZ]
  | succ n ih =>
    intro Z hl hok N hN
    rcases snoc_cases Z with rfl | ⟨R, x, rfl⟩
    · simp at hl
    · rw [okF_snoc, Bool.and_eq_true_iff] at hok
      obtain ⟨hR, hx⟩ := hok
      have hx := of_decide_eq_true hx
      have hR1 := (okF_last hR)
      rw [lastF_snoc] at hN
      obtain ⟨k, rfl⟩ := Int.eq_ofNat_of_zero_le (show 0 ≤ x by omega)
      have hokZ : okF (R ++ [(k : Int)]) = true := by rw [okF_snoc, hR, decide_eq_true hx]; rfl
      obtain ⟨j, rfl⟩ : ∃ j, N = (k + 1) + j := ⟨N - (k + 1), by omega⟩
      rw [inL_more hokZ (k + 1) (by rw [lastF_snoc]; omega) j, inL_succ, if_pos (by simp), toZ_snoc, inL_congr (Y := R), ih R (by simpa using hl) hR k (by omega)]
      intro i hi
      simp only [List.mem_append, List.mem_singleton]
      constructor
      · rintro (h | h)
        · exact h
        · omega
      · exact .inl
theorem onesL_in {l : List UInt8} {Z : List Int} {N : Nat} (h : ∀ k, k < N → bitI l k = if (k : Int) ∈ Z then 1 else 0) : onesL l N = inL Z N := by
  unfold onesL inL
  refine List.filter_congr fun k hk => ?_
  unfold bitN
  rw [h k (List.mem_range.1 hk)]
  by_cases h1 : (k : Int) ∈ Z <;> simp [h1]
theorem bit_last (l : List UInt8) {i : Nat} (hi : i < 8) (_ : l.length ≠ 0) : bitI [l[l.length - 1]?.getD 0] i = bitI l (8 * (l.length - 1) + i) := by
  unfold bitI
  rw [show i / 8 = 0 by omega, show (8 * (l.length - 1) + i) / 8 = l.length - 1 by omega, show (8 * (l.length - 1) + i) % 8 = i % 8 by omega]
  rfl
theorem lastF_mem {Z : List Int} (h : Z ≠ []) : lastF Z ∈ Z := by
  rcases snoc_cases Z with rfl | ⟨R, x, rfl⟩
  · exact absurd rfl h
  · rw [lastF_snoc]; simp
/-- What flags wrote is read as the flags. -/
theorem flags_back {Z : List Int} (h : okF Z = true) : ∃ xs, flagsR ((8 - (lastF Z + 1) % 8) % 8) (packL Z) = (xs, 0) ∧ toZ xs = Z := by
  obtain ⟨h1, h2, h3⟩ := okF_last h
  obtain ⟨n, hn⟩ := Int.eq_ofNat_of_zero_le (show 0 ≤ lastF Z + 1 by omega)
  have hn' : lastF Z = (n : Int) - 1 := by omega
  have hPl := packL_length Z
  have hPb := packL_bits h
  rw [hn] at hPl ⊢
  rw [Int.toNat_natCast] at hPl
  obtain ⟨u, hu⟩ := Int.eq_ofNat_of_zero_le (show 0 ≤ (8 - (n : Int) % 8) % 8 by omega)
  rw [hu]
  have hu8 : u < 8 := by omega
  have hun : u + n = 8 * (packL Z).length := by omega
  have hR : rightB (u : Int) (packL Z) = true := by
    by_cases h0 : (packL Z).length = 0
    · unfold rightB
      rw [if_pos h0, beq_iff_eq]
      omega
    · rw [right_bits hu8 (by intro e; rw [e] at h0; exact h0 rfl)]
      intro i hi1 hi2
      rw [bit_last _ hi2 h0, hPb, if_neg]
      intro hm
      have := h3 _ hm
      omega
  have hL : lenI (u : Int) (packL Z) = (n : Int) := by
    unfold lenI
    rw [if_pos hR]
    omega
  refine ⟨inL Z n, ?_, inL_all _ Z rfl h n (by omega)⟩
  unfold flagsR
  rw [if_pos hR, hL, if_neg, Int.toNat_natCast, onesL_in fun k _ => hPb k]
  rintro (h4 | ⟨h4, h5⟩)
  · omega
  · rw [Int.toNat_natCast] at h5
    have hz : Z ≠ [] := by
      rintro rfl
      rw [lastF_nil] at hn
      omega
    have hm := lastF_mem hz
    unfold bitN at h5
    rw [hPb, if_pos (by rw [show ((n - 1 : Nat) : Int) = lastF Z by omega]; exact hm)] at h5
    simp at h5
theorem ones_ok (l : List UInt8) : ∀ k : Nat, k ≤ 32 → okF (toZ (onesL l k)) = true ∧ lastF (toZ (onesL l k)) < k
  | 0, _ => ⟨rfl, by show (-1 : Int) < 0; decide⟩
  | k + 1, hk => by
    obtain ⟨h1, h2⟩ := ones_ok l k (by omega)
    rw [onesL_succ]
    cases hb : bitN l k with
    | true =>
      rw [if_pos rfl, toZ_snoc, okF_snoc, lastF_snoc, h1, decide_eq_true (by omega)]
      exact ⟨rfl, by omega⟩
    | false =>
      rw [if_neg (by simp), List.append_nil]
      exact ⟨h1, by omega⟩
/-- The flags of a string write the string. -/
theorem string_back {u : Int} {l : List UInt8} {xs : List Nat} (h : flagsR u l = (xs, 0)) : okF (toZ xs) = true ∧ (8 - (lastF (toZ xs) + 1) % 8) % 8 = u ∧ packL (toZ xs) = l := by
  unfold flagsR at h
  split at h
  · rename_i hR
    split at h
    · cases h
    · rename_i hc
      have hxs : onesL l (lenI u l).toNat = xs := by injection h
      have hr := right_range hR
      have hL : lenI u l = 8 * l.length - u := by unfold lenI; rw [if_pos hR]
      obtain ⟨n, hn⟩ := Int.eq_ofNat_of_zero_le (show 0 ≤ lenI u l by omega)
      rw [hn, Int.toNat_natCast] at hxs
      rw [hn] at hc
      have hn32 : n ≤ 32 := by
        rcases Nat.lt_or_ge 32 n with h1 | h1
        · exact absurd (.inl (by omega)) hc
        · exact h1
      obtain ⟨k1, k2⟩ := ones_ok l n hn32
      rw [hxs] at k1 k2
      have hlast : lastF (toZ xs) = (n : Int) - 1 := by
        rcases Nat.eq_zero_or_pos n with h0 | h0
        · subst h0
          rw [← hxs]
          rfl
        · have hb : bitN l (n - 1) = true := by
            cases hb : bitN l (n - 1) with
            | true => rfl
            | false => exact absurd (.inr ⟨by omega, by rw [Int.toNat_natCast]; exact hb⟩) hc
          have := onesL_succ l (n - 1)
          rw [show n - 1 + 1 = n by omega, hxs, if_pos hb] at this
          rw [this, toZ_snoc, lastF_snoc]
          omega
      obtain ⟨v, hv⟩ := Int.eq_ofNat_of_zero_le hr.1
      subst hv
      refine ⟨k1, by rw [hlast]; omega, ?_⟩
      have hlen : (packL (toZ xs)).length = l.length := by
        rw [packL_length, hlast]
        omega
      refine bits_ext hlen fun k hk => ?_
      rw [packL_bits k1, ← hxs]
      have hk' : k < 8 * l.length := by omega
      by_cases hkn : k < n
      · have : ((k : Int) ∈ toZ (onesL l n)) ↔ bitN l k = true := by
          rw [mem_toZ]
          unfold onesL
          rw [List.mem_filter, List.mem_range]
          exact ⟨fun h => h.2, fun h => ⟨hkn, h⟩⟩
        have hlt := bitI_lt l k
        cases hb : bitN l k with
        | true =>
          rw [if_pos (this.2 hb)]
          have : bitI l k = 1 := by simpa [bitN] using hb
          omega
        | false =>
          rw [if_neg fun h => by rw [this.1 h] at hb; cases hb]
          have : bitI l k ≠ 1 := by simpa [bitN] using hb
          omega
      · have hnm : (k : Int) ∉ toZ (onesL l n) := by
          rw [mem_toZ]
          unfold onesL
          rw [List.mem_filter, List.mem_range]
          exact fun h => hkn h.1
        rw [if_neg hnm]
        have hne : l.length ≠ 0 := by omega
        have hz := (right_bits (u := v) (by omega) (by intro e; rw [e] at hne; exact hne rfl)).1 hR (k - 8 * (l.length - 1)) (by omega) (by omega)
        rw [bit_last l (by omega) hne, show 8 * (l.length - 1) + (k - 8 * (l.length - 1)) = k by omega] at hz
        exact hz.symm
  · cases h
end Bit

