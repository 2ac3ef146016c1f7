/- Texts in plain words: their kinds, which signs each may have, their signs, their bytes; that the strict reading of UTF-8 and the loose one that writes again and compares say the same. No condition on a program. -/
import Derived.Lib.MapLaws
import Derived.Test.YtmmjghdobdendaaDoorSpans
set_option linter.unusedSimpArgs false
set_option linter.unusedVariables false
namespace Go.Txt
open Go.Lib Go.Mem
def knownK (k : Int) : Bool := k == 12 || (k == 19 || (k == 20 || (k == 22 || (k == 26 || k == 30))))
def sur (n : Int) : Bool := decide (55296 ≤ n) && decide (n ≤ 57343)
def signs12 : List Int := [32, 39, 40, 41, 43, 44, 45, 46, 47, 58, 61, 63]
def prt (n : Int) : Bool := decide (97 ≤ n ∧ n ≤ 122) || (decide (65 ≤ n ∧ n ≤ 90) || (decide (48 ≤ n ∧ n ≤ 57) || signs12.contains n))
def may (k n : Int) : Bool :=
  if k = 12 then decide (0 ≤ n ∧ n ≤ 1114111) && !sur n else if k = 19 then prt n else if k = 20 then decide (0 ≤ n ∧ n ≤ 255)
  else if k = 22 then decide (0 ≤ n ∧ n < 128) else if k = 26 then decide (32 ≤ n ∧ n ≤ 126) else if k = 30 then decide (0 ≤ n ∧ n ≤ 65535) && !sur n else false
theorem sur_iff (n : Int) : sur n = true ↔ 55296 ≤ n ∧ n ≤ 57343 := by simp [sur]
theorem may12_iff (n : Int) : may 12 n = true ↔ 0 ≤ n ∧ n ≤ 1114111 ∧ ¬(55296 ≤ n ∧ n ≤ 57343) := by
  unfold may
  rw [if_pos rfl, Bool.and_eq_true, Bool.not_eq_true', ← Bool.not_eq_true, sur_iff, decide_eq_true_eq]
  exact and_assoc
theorem may30_iff (n : Int) : may 30 n = true ↔ 0 ≤ n ∧ n ≤ 65535 ∧ ¬(55296 ≤ n ∧ n ≤ 57343) := by
  unfold may
  rw [if_neg (by decide), if_neg (by decide), if_neg (by decide), if_neg (by decide), if_neg (by decide), if_pos rfl, Bool.and_eq_true, Bool.not_eq_true', ← Bool.not_eq_true, sur_iff, decide_eq_true_eq]
  exact and_assoc
theorem prt_in {n : Int} (h : prt n = true) : 32 ≤ n ∧ n ≤ 122 := by
  unfold prt at h
  simp only [Bool.or_eq_true, decide_eq_true_eq] at h
  rcases h with h | h | h | h
  · omega
  · omega
  · omega
  · have : ∀ z ∈ signs12, (32 : Int) ≤ z ∧ z ≤ 122 := by decide
    exact this n (by simpa using h)
theorem may20_iff (n : Int) : may 20 n = true ↔ 0 ≤ n ∧ n ≤ 255 := by
  unfold may
  rw [if_neg (by decide), if_neg (by decide), if_pos rfl, decide_eq_true_eq]
theorem may22_iff (n : Int) : may 22 n = true ↔ 0 ≤ n ∧ n < 128 := by
  unfold may
  rw [if_neg (by decide), if_neg (by decide), if_neg (by decide), if_pos rfl, decide_eq_true_eq]
theorem may26_iff (n : Int) : may 26 n = true ↔ 32 ≤ n ∧ n ≤ 126 := by
  unfold may
  rw [if_neg (by decide), if_neg (by decide), if_neg (by decide), if_neg (by decide), if_pos rfl, decide_eq_true_eq]
theorem may_no {k : Int} (h : knownK k = false) (n : Int) : may k n = false := by
  unfold knownK at h
  simp only [Bool.or_eq_false_iff, beq_eq_false_iff_ne] at h
  unfold may
  rw [if_neg h.1, if_neg h.2.1, if_neg h.2.2.1, if_neg h.2.2.2.1, if_neg h.2.2.2.2.1, if_neg h.2.2.2.2.2]
theorem may_cases {k n : Int} (h : may k n = true) : (k = 12 ∨ k = 30 ∨ (k = 19 ∨ k = 20 ∨ k = 22 ∨ k = 26) ∧ 0 ≤ n ∧ n ≤ 255) := by
  by_cases h1 : k = 12
  · exact .inl h1
  by_cases h6 : k = 30
  · exact .inr (.inl h6)
  refine .inr (.inr ?_)
  by_cases h2 : k = 19
  · subst h2
    have := prt_in (n := n) h
    omega
  by_cases h3 : k = 20
  · subst h3
    have := (may20_iff n).1 h
    omega
  by_cases h4 : k = 22
  · subst h4
    have := (may22_iff n).1 h
    omega
  by_cases h5 : k = 26
  · subst h5
    have := (may26_iff n).1 h
    omega
  unfold may at h
  rw [if_neg h1, if_neg h2, if_neg h3, if_neg h4, if_neg h5, if_neg h6] at h
  cases h
/-- What any kind may have, UTF-8 may. -/
theorem may_12 {k n : Int} (h : may k n = true) : may 12 n = true := by
  rcases may_cases h with rfl | rfl | ⟨-, h1, h2⟩
  · exact h
  · rw [may30_iff] at h
    rw [may12_iff]
    omega
  · rw [may12_iff]
    omega
/-- The document's question. -/
def mayR (k n : Int) : Bool :=
  if n < 0 ∨ n > 1114111 ∨ (n ≥ 55296 ∧ n ≤ 57343) then false else if k = 12 then true else if k = 19 then prt n else if k = 20 then decide (n < 256)
  else if k = 22 then decide (n < 128) else if k = 26 then decide (n > 31 ∧ n < 127) else k == 30 && decide (n < 65536)
/-- Signs of bytes. -/
def one12 (l : List UInt8) : Int := if (decodeL l).1 = 65533 ∧ (decodeL l).2 ≤ 1 then -1 else ((decodeL l).1 : Int)
def sgW : Nat → List UInt8 → List Int
  | 0, _ => []
  | f + 1, l => if l = [] then [] else one12 l :: sgW f (l.drop (decodeL l).2)
def sgP : List UInt8 → List Int
  | a :: b :: r => ((a.toNat : Int) * 256 + (b.toNat : Int)) :: sgP r
  | [_] => [-1]
  | [] => []
def sgS (l : List UInt8) : List Int := l.map fun x => (x.toNat : Int)
def sg (k : Int) (l : List UInt8) : List Int := if k = 12 then sgW l.length l else if k = 30 then sgP l else sgS l
def rightT (k : Int) (l : List UInt8) : Bool := knownK k && (sg k l).all (may k)
theorem sgW_nil : ∀ f, sgW f [] = []
  | 0 => rfl
  | _ + 1 => by simp [sgW]
theorem sgW_fuel : ∀ (n m : Nat) (l : List UInt8), l.length ≤ n → l.length ≤ m → sgW n l = sgW m l
  | 0, m, l, hn, _ => by
    obtain rfl : l = [] := List.eq_nil_of_length_eq_zero (by omega)
    rw [sgW_nil, sgW_nil]
  | n + 1, 0, l, _, hm => by
    obtain rfl : l = [] := List.eq_nil_of_length_eq_zero (by omega)
    rw [sgW_nil, sgW_nil]
  | n + 1, m + 1, l, hn, hm => by
    by_cases hne : l = []
    · subst hne
      rw [sgW_nil, sgW_nil]
    · have hw := decodeL_width l
      have hl : 0 < l.length := List.length_pos_iff.2 hne
      simp only [sgW, if_neg hne]
      rw [sgW_fuel n m _ (by rw [List.length_drop]; omega) (by rw [List.length_drop]; omega)]
def sg12 (l : List UInt8) : List Int := sgW l.length l
theorem sg12_nil : sg12 [] = [] := rfl
theorem sg12_step {l : List UInt8} (h : l ≠ []) : sg12 l = one12 l :: sg12 (l.drop (decodeL l).2) := by
  have hw := decodeL_width l
  have hl : 0 < l.length := List.length_pos_iff.2 h
  unfold sg12
  obtain ⟨n, hn⟩ : ∃ n, l.length = n + 1 := ⟨l.length - 1, by omega⟩
  rw [hn]
  simp only [sgW, if_neg h]
  rw [sgW_fuel n _ _ (by rw [List.length_drop]; omega) (Nat.le_refl _)]
/-- Bytes of signs. -/
def enc (ns : List Int) : List UInt8 := ns.flatMap encodeRune
theorem enc_cons (n : Int) (ns : List Int) : enc (n :: ns) = encodeRune n ++ enc ns := rfl
theorem one12_no : may 12 (-1) = false := by decide
/-- What is read strictly is what was written. -/
theorem enc_sg12 : ∀ (f : Nat) (l : List UInt8), l.length ≤ f → (sg12 l).all (may 12) = true → enc (sg12 l) = l
  | 0, l, h, _ => by
    obtain rfl : l = [] := List.eq_nil_of_length_eq_zero (by omega)
    rfl
  | f + 1, l, h, ha => by
    by_cases hne : l = []
    · subst hne
      rfl
    · have hw := decodeL_width l
      have hl : 0 < l.length := List.length_pos_iff.2 hne
      rw [sg12_step hne] at ha ⊢
      rw [List.all_cons, Bool.and_eq_true] at ha
      have hv : ¬((decodeL l).1 = 65533 ∧ (decodeL l).2 ≤ 1) := by
        intro hc
        have h1 := ha.1
        unfold one12 at h1
        rw [if_pos hc, one12_no] at h1
        cases h1
      rw [enc_cons, enc_sg12 f (l.drop (decodeL l).2) (by rw [List.length_drop]; omega) ha.2]
      unfold one12
      rw [if_neg hv, encode_decode l hne (fun hc => hv ⟨hc.1, by omega⟩), List.take_append_drop]
/-- A sign's bytes, by their number. -/
theorem encodeRune_shape {n : Int} (h : may 12 n = true) :
    (n < 128 ∧ encodeRune n = [n.toNat.toUInt8]) ∨
    (128 ≤ n ∧ n < 2048 ∧ encodeRune n = [(192 + n / 64).toNat.toUInt8, (128 + n % 64).toNat.toUInt8]) ∨
    (2048 ≤ n ∧ n < 65536 ∧ encodeRune n = [(224 + n / 4096).toNat.toUInt8, (128 + n / 64 % 64).toNat.toUInt8, (128 + n % 64).toNat.toUInt8]) ∨
    (65536 ≤ n ∧ encodeRune n = [(240 + n / 262144).toNat.toUInt8, (128 + n / 4096 % 64).toNat.toUInt8, (128 + n / 64 % 64).toNat.toUInt8, (128 + n % 64).toNat.toUInt8]) := by
  rw [may12_iff] at h
  unfold encodeRune
  by_cases h1 : n < 128
  · exact .inl ⟨h1, by rw [encodeRuneZ_one h.1 (by omega)]; rfl⟩
  by_cases h2 : n < 2048
  · exact .inr (.inl ⟨by omega, h2, by rw [encodeRuneZ_two (by omega) (by omega)]; rfl⟩)
  by_cases h3 : n < 65536
  · exact .inr (.inr (.inl ⟨by omega, h3, by rw [encodeRuneZ_three (by omega)]; rfl⟩))
  · exact .inr (.inr (.inr ⟨by omega, by rw [encodeRuneZ_four (by omega) h.2.1]; rfl⟩))
theorem toU (z : Int) (h0 : 0 ≤ z) (h1 : z < 256) : (z.toNat.toUInt8).toNat = z.toNat := by
  simp only [Nat.toUInt8_eq, UInt8.toNat_ofNat']
  omega
theorem len_enc {n : Int} (h : may 12 n = true) : 1 ≤ (encodeRune n).length := by
  rcases encodeRune_shape h with ⟨-, e⟩ | ⟨-, -, e⟩ | ⟨-, -, e⟩ | ⟨-, e⟩ <;> rw [e] <;> simp
/-- What was written is read strictly as it was. -/
theorem decode_enc {n : Int} (h : may 12 n = true) (r : List UInt8) : decodeL (encodeRune n ++ r) = (n.toNat, (encodeRune n).length) := by
  have hm := (may12_iff n).1 h
  rw [decodeL_N]
  rcases encodeRune_shape h with ⟨h1, e⟩ | ⟨h1, h2, e⟩ | ⟨h1, h2, e⟩ | ⟨h1, e⟩
  · rw [e]
    simp only [List.cons_append, List.nil_append, List.getD_cons_zero, List.length_cons, List.length_nil]
    rw [toU _ hm.1 (by omega)]
    unfold decodeN
    rw [if_pos (by omega)]
  · rw [e]
    simp only [List.cons_append, List.nil_append, List.getD_cons_zero, List.getD_cons_succ, List.length_cons, List.length_nil]
    rw [toU (192 + n / 64) (by omega) (by omega), toU (128 + n % 64) (by omega) (by omega)]
    unfold decodeN
    rw [if_neg (by omega), if_pos (by omega), if_pos (by omega)]
    exact Prod.ext (by simp only; omega) rfl
  · rw [e]
    simp only [List.cons_append, List.nil_append, List.getD_cons_zero, List.getD_cons_succ, List.length_cons, List.length_nil]
    rw [toU (224 + n / 4096) (by omega) (by omega), toU (128 + n / 64 % 64) (by omega) (by omega), toU (128 + n % 64) (by omega) (by omega)]
    unfold decodeN
    rw [if_neg (by omega), if_neg (by omega), if_pos (by omega), if_pos (by omega)]
    exact Prod.ext (by simp only; omega) rfl
  · rw [e]
    simp only [List.cons_append, List.nil_append, List.getD_cons_zero, List.getD_cons_succ, List.length_cons, List.length_nil]
    rw [toU (240 + n / 262144) (by omega) (by omega), toU (128 + n / 4096 % 64) (by omega) (by omega), toU (128 + n / 64 % 64) (by omega) (by omega), toU (128 + n % 64) (by omega) (by omega)]
    unfold decodeN
    rw [if_neg (by omega), if_neg (by omega), if_neg (by omega), if_pos (by omega), if_pos (by omega)]
    exact Prod.ext (by simp only; omega) rfl
theorem sg12_enc : ∀ (ns : List Int), ns.all (may 12) = true → sg12 (enc ns) = ns
  | [], _ => rfl
  | n :: r, h => by
    rw [List.all_cons, Bool.and_eq_true] at h
    have hd := decode_enc h.1 (enc r)
    have hl := len_enc h.1
    have hm := (may12_iff n).1 h.1
    have hne : encodeRune n ++ enc r ≠ [] := by
      intro hc
      rw [List.append_eq_nil_iff] at hc
      rw [hc.1] at hl
      simp at hl
    rw [enc_cons, sg12_step hne]
    unfold one12
    rw [hd]
    simp only
    rw [List.drop_left, sg12_enc r h.2, if_neg]
    · congr 1
      omega
    · rintro ⟨h1, h2⟩
      rcases encodeRune_shape h.1 with ⟨h3, e⟩ | ⟨h3, h4, e⟩ | ⟨h3, h4, e⟩ | ⟨h3, e⟩
      · omega
      · rw [e] at h2; simp at h2
      · rw [e] at h2; simp at h2
      · rw [e] at h2; simp at h2
/-- The loose reading: what the first byte says, and how many are to follow. -/
def head1 (c : Nat) : Nat × Nat := if 240 ≤ c then (c - 240, 3) else if 224 ≤ c then (c - 224, 2) else if 192 ≤ c then (c - 192, 1) else (c, 0)
def loose1 (l : List UInt8) : Nat := ((l.drop 1).take (head1 (l.getD 0 0).toNat).2).foldl (fun a x => 64 * a + x.toNat % 64) (head1 (l.getD 0 0).toNat).1
def wid1 (l : List UInt8) : Nat := (head1 (l.getD 0 0).toNat).2 + 1
def looseF : Nat → List UInt8 → Option (List Int)
  | 0, _ => some []
  | f + 1, l => if l = [] then some [] else if 1114111 < loose1 l then none else (looseF f (l.drop (wid1 l))).map fun t => (loose1 l : Int) :: t
def loose (l : List UInt8) : Option (List Int) := looseF l.length l
theorem looseF_nil : ∀ f, looseF f [] = some []
  | 0 => rfl
  | _ + 1 => by simp [looseF]
theorem looseF_fuel : ∀ (n m : Nat) (l : List UInt8), l.length ≤ n → l.length ≤ m → looseF n l = looseF m l
  | 0, m, l, hn, _ => by
    obtain rfl : l = [] := List.eq_nil_of_length_eq_zero (by omega)
    rw [looseF_nil, looseF_nil]
  | n + 1, 0, l, _, hm => by
    obtain rfl : l = [] := List.eq_nil_of_length_eq_zero (by omega)
    rw [looseF_nil, looseF_nil]
  | n + 1, m + 1, l, hn, hm => by
    by_cases hne : l = []
    · subst hne
      rw [looseF_nil, looseF_nil]
    · have hw : 1 ≤ wid1 l := by unfold wid1; omega
      simp only [looseF, if_neg hne]
      rw [looseF_fuel n m _ (by rw [List.length_drop]; omega) (by rw [List.length_drop]; omega)]
theorem loose_step {l : List UInt8} (h : l ≠ []) : loose l = if 1114111 < loose1 l then none else (loose (l.drop (wid1 l))).map fun t => (loose1 l : Int) :: t := by
  have hl : 0 < l.length := List.length_pos_iff.2 h
  have hw : 1 ≤ wid1 l := by unfold wid1; omega
  unfold loose
  obtain ⟨n, hn⟩ : ∃ n, l.length = n + 1 := ⟨l.length - 1, by omega⟩
  rw [hn]
  simp only [looseF, if_neg h]
  rw [looseF_fuel n _ _ (by rw [List.length_drop]; omega) (Nat.le_refl _)]
/-- The document's reading is the strict one. -/
theorem loose_ok {l : List UInt8} {ns : List Int} (_ : loose l = some ns) (h2 : ns.all (may 12) = true) (h3 : enc ns = l) : sg12 l = ns := by rw [← h3]; exact sg12_enc ns h2
theorem loose_no {l : List UInt8} (h : (sg12 l).all (may 12) = false) : loose l = none ∨ ∃ ns, loose l = some ns ∧ (ns.all (may 12) = false ∨ enc ns ≠ l) := by
  cases hl : loose l with
  | none => exact .inl rfl
  | some ns =>
    refine .inr ⟨ns, rfl, ?_⟩
    cases ha : ns.all (may 12) with
    | false => exact .inl rfl
    | true =>
      refine .inr fun he => ?_
      rw [loose_ok hl ha he, ha] at h
      cases h
/-- A text's bytes, sign by sign. -/
def put1 (k n : Int) : List UInt8 := if k = 12 then encodeRune n else if k = 30 then [(n / 256).toNat.toUInt8, (n % 256).toNat.toUInt8] else [n.toNat.toUInt8]
def putT (k : Int) (ns : List Int) : List UInt8 := ns.flatMap (put1 k)
theorem putT_12 (ns : List Int) : putT 12 ns = enc ns := rfl
theorem putT_snoc (k : Int) (ns : List Int) (i : Nat) (h : i < ns.length) : putT k (ns.take (i + 1)) = putT k (ns.take i) ++ put1 k ns[i] := by
  unfold putT
  rw [List.take_add_one, List.getElem?_eq_getElem h, Option.toList_some, List.flatMap_append]
  simp
theorem put_sgS : ∀ l : List UInt8, (sgS l).flatMap (fun n => [n.toNat.toUInt8]) = l
  | [] => rfl
  | x :: r => by
    have := put_sgS r
    unfold sgS at *
    rw [List.map_cons, List.flatMap_cons, this]
    simp
theorem put_sgP : ∀ l : List UInt8, (sgP l).all (may 30) = true → (sgP l).flatMap (fun n => [(n / 256).toNat.toUInt8, (n % 256).toNat.toUInt8]) = l
  | [], _ => rfl
  | [x], h => by simp [sgP] at h; exact absurd h (by decide)
  | x :: y :: r, h => by
    have hx := x.toNat_lt
    have hy := y.toNat_lt
    rw [sgP, List.all_cons, Bool.and_eq_true] at h
    rw [sgP, List.flatMap_cons, put_sgP r h.2]
    have e1 : (((x.toNat : Int) * 256 + (y.toNat : Int)) / 256).toNat = x.toNat := by omega
    have e2 : (((x.toNat : Int) * 256 + (y.toNat : Int)) % 256).toNat = y.toNat := by omega
    rw [e1, e2]
    simp
/-- There and back. -/
theorem put_sg {k : Int} {l : List UInt8} (h : rightT k l = true) : putT k (sg k l) = l := by
  unfold rightT at h
  rw [Bool.and_eq_true] at h
  unfold sg at *
  unfold putT
  by_cases h1 : k = 12
  · subst h1
    rw [if_pos rfl] at *
    exact enc_sg12 l.length l (Nat.le_refl _) h.2
  rw [if_neg h1] at *
  by_cases h2 : k = 30
  · subst h2
    rw [if_pos rfl] at *
    exact put_sgP l h.2
  · rw [if_neg h2] at *
    have : put1 k = fun n => [n.toNat.toUInt8] := by
      funext n
      unfold put1
      rw [if_neg h1, if_neg h2]
    rw [this]
    exact put_sgS l
theorem sg_12 {k : Int} {l : List UInt8} (h : rightT k l = true) : (sg k l).all (may 12) = true := by
  unfold rightT at h
  rw [Bool.and_eq_true, List.all_eq_true] at h
  rw [List.all_eq_true]
  exact fun n hn => may_12 (h.2 n hn)
#print axioms put_sg
#print axioms loose_no
end Go.Txt

