/- Hex, and the order of rows of bytes, in plain terms. No program in sight. -/
import Derived.Test.YtldblmgmcmnepaaMem
import Derived.Test.YtldblmgmcmnepaaBytes
namespace Oct
open Go.Mem
def digI (n : Int) : Int := if n < 10 then 48 + n else 87 + n
def valI (c : Int) : Int := if 48 ≤ c ∧ c ≤ 57 then c - 48 else if 97 ≤ c ∧ c ≤ 102 then c - 87 else 16
def dig (n : Nat) : UInt8 := UInt8.ofNat (digI n).toNat
theorem digI_bd {n : Int} (h0 : 0 ≤ n) (h1 : n ≤ 15) : 0 ≤ digI n ∧ digI n ≤ 255 := by unfold digI; omega
theorem u8c_dig (n : Nat) (h1 : n ≤ 15) : u8c (dig n) = .int .u8 (digI n) := by
  have := digI_bd (n := n) (by omega) (by omega)
  exact u8c_of this.1 this.2
/-- A byte's two signs. -/
def hex1 (b : UInt8) : List UInt8 := [dig (b.toNat / 16), dig (b.toNat % 16)]
def hexL : List UInt8 → List UInt8
  | [] => []
  | b :: r => hex1 b ++ hexL r
theorem hexL_append (a b : List UInt8) : hexL (a ++ b) = hexL a ++ hexL b := by
  induction a with
  | nil => rfl
  | cons x r ih => simp [hexL, ih]
theorem hexL_length (a : List UInt8) : (hexL a).length = 2 * a.length := by
  induction a with
  | nil => rfl
  | cons x r ih => simp [hexL, hex1, ih]; omega
theorem take_snoc {α : Type} (l : List α) (k : Nat) (h : k < l.length) : l.take (k + 1) = l.take k ++ [l[k]] := by
  rw [List.take_succ_eq_append_getElem h]
theorem flat_snoc {α : Type} (ls : List (List α)) (k : Nat) (h : k < ls.length) : (ls.take (k + 1)).flatten = (ls.take k).flatten ++ ls[k] := by
  rw [take_snoc ls k h, List.flatten_append]
  simp
theorem flat_bd {α : Type} (ls : List (List α)) (hb : ∀ l ∈ ls, l.length ≤ 10000) : ∀ k, ((ls.take k).flatten).length ≤ 10000 * k
  | 0 => by simp
  | k + 1 => by
    have ih := flat_bd ls hb k
    by_cases h : k < ls.length
    · rw [flat_snoc ls k h, List.length_append]
      have := hb ls[k] (List.getElem_mem h)
      omega
    · rw [List.take_of_length_le (by omega)]
      rw [List.take_of_length_le (by omega)] at ih
      omega
theorem hexL_snoc (l : List UInt8) (k : Nat) (h : k < l.length) : hexL (l.take (k + 1)) = hexL (l.take k) ++ hex1 l[k] := by
  rw [take_snoc l k h, hexL_append]
  simp [hexL]
theorem hex1_cells (b : UInt8) : (hex1 b).map u8c = [.int .u8 (digI ((b.toNat : Int) / 16)), .int .u8 (digI ((b.toNat : Int) % 16))] := by
  have := b.toNat_lt
  simp only [hex1, List.map_cons, List.map_nil]
  rw [u8c_dig _ (by omega), u8c_dig _ (by omega)]
  rfl
/-- Two signs' byte. -/
def two (a b : UInt8) : UInt8 := UInt8.ofNat (16 * valI a.toNat + valI b.toNat).toNat
def okB (a : UInt8) : Bool := decide (valI (a.toNat : Int) ≤ 15)
/-- The bytes of a text of hex; none: it is no hex. -/
def unh : List UInt8 → Option (List UInt8)
  | [] => some []
  | [_] => none
  | a :: b :: r => if okB a && okB b then (unh r).map (two a b :: ·) else none
theorem unh_app : ∀ (x y : List UInt8), x.length % 2 = 0 → unh (x ++ y) = (unh x).bind fun a => (unh y).map (a ++ ·)
  | [], y, _ => by cases h : unh y <;> simp [unh, h]
  | [_], _, h => by simp at h
  | a :: b :: r, y, h => by
    have ih := unh_app r y (by simp at h; omega)
    simp only [List.cons_append, unh]
    split
    · rw [ih]
      cases unh r <;> simp
      cases unh y <;> simp
    · rfl
theorem unh_odd : ∀ (x : List UInt8), x.length % 2 = 1 → unh x = none
  | [], h => by simp at h
  | [_], _ => rfl
  | a :: b :: r, h => by
    rw [unh, unh_odd r (by simp at h; omega)]
    simp
theorem take_two (l : List UInt8) (j : Nat) (h : j + 1 < l.length) : l.take (j + 2) = l.take j ++ [l[j], l[j + 1]] := by
  have h1 := take_snoc l (j + 1) h
  rw [take_snoc l j (by omega)] at h1
  rw [show j + 2 = j + 1 + 1 from rfl, h1, List.append_assoc]
  rfl
theorem unh_step {l : List UInt8} {j : Nat} {xs : List UInt8} (h : j + 1 < l.length) (he : j % 2 = 0) (hx : unh (l.take j) = some xs) (ha : okB l[j] = true) (hb : okB l[j + 1] = true) : unh (l.take (j + 2)) = some (xs ++ [two l[j] l[j + 1]]) := by
  rw [take_two l j h, unh_app _ _ (by simp; omega), hx]
  simp [unh, ha, hb]
theorem unh_bad {l : List UInt8} {j : Nat} {xs : List UInt8} (h : j + 1 < l.length) (he : j % 2 = 0) (hx : unh (l.take j) = some xs) (hab : (okB l[j] && okB l[j + 1]) = false) : unh l = none := by
  have hd : l = l.take j ++ (l[j] :: l[j + 1] :: l.drop (j + 2)) := by
    rw [List.getElem_cons_drop, List.getElem_cons_drop, List.take_append_drop]
  rw [hd, unh_app _ _ (by simp; omega), hx]
  simp only [unh, hab]
  simp
theorem valI_bd (a : UInt8) : 0 ≤ valI (a.toNat : Int) ∧ valI (a.toNat : Int) ≤ 16 := by
  have := a.toNat_lt
  unfold valI
  omega
theorem u8c_two (a b : UInt8) (ha : okB a = true) (hb : okB b = true) : u8c (two a b) = .int .u8 (16 * valI a.toNat + valI b.toNat) := by
  have h1 := valI_bd a
  have h2 := valI_bd b
  have h3 : valI (a.toNat : Int) ≤ 15 := by simpa [okB] using ha
  have h4 : valI (b.toNat : Int) ≤ 15 := by simpa [okB] using hb
  exact u8c_of (by omega) (by omega)
theorem unh_badAt {l : List UInt8} {i : Nat} {xs : List UInt8} (h : i < l.length) (hx : unh (l.take (2 * (i / 2))) = some xs) (hb : okB l[i] = false) : unh l = none := by
  by_cases ho : i % 2 = 0
  · by_cases hn : i + 1 < l.length
    · exact unh_bad (j := i) hn ho (by rw [show 2 * (i / 2) = i by omega] at hx; exact hx) (by rw [hb]; rfl)
    · exact unh_odd l (by omega)
  · have e : 2 * (i / 2) = i - 1 := by omega
    have hj : i - 1 + 1 < l.length := by omega
    refine unh_bad (j := i - 1) hj (by omega) (by rw [e] at hx; exact hx) ?_
    have : l[i - 1 + 1] = l[i] := by congr 1; omega
    rw [this, hb, Bool.and_false]
theorem unh_stepAt {l : List UInt8} {i : Nat} {xs : List UInt8} (h : i < l.length) (ho : i % 2 = 1) (hx : unh (l.take (2 * (i / 2))) = some xs) (ha : okB (l[i - 1]'(by omega)) = true) (hb : okB l[i] = true) :
    unh (l.take (2 * ((i + 1) / 2))) = some (xs ++ [two (l[i - 1]'(by omega)) l[i]]) := by
  have e : 2 * (i / 2) = i - 1 := by omega
  have e2 : 2 * ((i + 1) / 2) = i - 1 + 2 := by omega
  rw [e] at hx
  rw [e2]
  have hj : i - 1 + 1 < l.length := by omega
  have e3 : l[i - 1 + 1] = l[i] := by congr 1; omega
  have := unh_step (j := i - 1) hj (by omega) hx ha (by rw [e3]; exact hb)
  rw [e3] at this
  exact this
theorem dig_val : ∀ n, n < 16 → valI ((dig n).toNat : Int) = n ∧ okB (dig n) = true := by decide
theorem two_dig (b : UInt8) : two (dig (b.toNat / 16)) (dig (b.toNat % 16)) = b := by
  have := b.toNat_lt
  have h1 := (dig_val (b.toNat / 16) (by omega)).1
  have h2 := (dig_val (b.toNat % 16) (by omega)).1
  unfold two
  rw [h1, h2]
  apply UInt8.toNat_inj.1
  rw [UInt8.toNat_ofNat']
  omega
theorem unh_hexL : ∀ l : List UInt8, unh (hexL l) = some l
  | [] => rfl
  | b :: r => by
    have hb := b.toNat_lt
    have h1 := (dig_val (b.toNat / 16) (by omega)).2
    have h2 := (dig_val (b.toNat % 16) (by omega)).2
    simp only [hexL, hex1, List.cons_append, List.nil_append, unh, h1, h2, Bool.and_self, if_true, unh_hexL r, two_dig]
    rfl
theorem dig_two : ∀ n, n < 256 → okB (UInt8.ofNat n) = true → ∀ m : Nat, m < 16 → valI ((UInt8.ofNat n).toNat : Int) = (m : Int) → dig m = UInt8.ofNat n := by decide +kernel
theorem hex1_two (a b : UInt8) (ha : okB a = true) (hb : okB b = true) : hex1 (two a b) = [a, b] := by
  have hA := a.toNat_lt
  have hB := b.toNat_lt
  have h1 := valI_bd a
  have h2 := valI_bd b
  have h3 : valI (a.toNat : Int) ≤ 15 := by simpa [okB] using ha
  have h4 : valI (b.toNat : Int) ≤ 15 := by simpa [okB] using hb
  have hn : (two a b).toNat = 16 * (valI a.toNat).toNat + (valI b.toNat).toNat := by
    unfold two
    rw [UInt8.toNat_ofNat']
    omega
  have ea : UInt8.ofNat a.toNat = a := UInt8.ofNat_toNat
  have eb : UInt8.ofNat b.toNat = b := UInt8.ofNat_toNat
  have k1 := dig_two a.toNat hA (by rw [ea]; exact ha) (valI a.toNat).toNat (by omega) (by rw [ea]; omega)
  have k2 := dig_two b.toNat hB (by rw [eb]; exact hb) (valI b.toNat).toNat (by omega) (by rw [eb]; omega)
  unfold hex1
  rw [hn, show (16 * (valI a.toNat).toNat + (valI b.toNat).toNat) / 16 = (valI a.toNat).toNat by omega, show (16 * (valI a.toNat).toNat + (valI b.toNat).toNat) % 16 = (valI b.toNat).toNat by omega, k1, k2, ea, eb]
theorem hexL_unh : ∀ (l xs : List UInt8), unh l = some xs → hexL xs = l
  | [], xs, h => by
    simp only [unh, Option.some.injEq] at h
    subst h
    rfl
  | [_], _, h => by simp [unh] at h
  | a :: b :: r, xs, h => by
    simp only [unh] at h
    split at h
    · rename_i hab
      rw [Bool.and_eq_true] at hab
      cases hr : unh r with
      | none => rw [hr] at h; simp at h
      | some ys =>
        rw [hr] at h
        simp only [Option.map_some, Option.some.injEq] at h
        subst h
        rw [hexL, hex1_two a b hab.1 hab.2, hexL_unh r ys hr]
        rfl
    · cases h
/-- How many signs two rows begin with alike. -/
def comm : List UInt8 → List UInt8 → Nat
  | a :: r, b :: s => if a = b then comm r s + 1 else 0
  | _, _ => 0
theorem comm_le : ∀ (x y : List UInt8), comm x y ≤ x.length ∧ comm x y ≤ y.length
  | [], y => by cases y <;> simp [comm]
  | a :: r, [] => by simp [comm]
  | a :: r, b :: s => by
    have := comm_le r s
    simp only [comm]
    split <;> simp <;> omega
theorem comm_at : ∀ (x y : List UInt8) (k : Nat), k ≤ x.length → k ≤ y.length → x.take k = y.take k → (k = x.length ∨ k = y.length ∨ ∃ (h1 : k < x.length) (h2 : k < y.length), x[k] ≠ y[k]) → comm x y = k
  | [], y, k, h1, _, _, _ => by
    have : k = 0 := by simpa using h1
    subst this
    cases y <;> rfl
  | a :: r, [], k, _, h2, _, _ => by
    have : k = 0 := by simpa using h2
    subst this
    rfl
  | a :: r, b :: s, 0, _, _, _, h => by
    rcases h with h | h | ⟨_, _, h⟩
    · simp at h
    · simp at h
    · simp only [comm]
      rw [if_neg (by simpa using h)]
  | a :: r, b :: s, k + 1, h1, h2, ht, h => by
    simp only [List.take_succ_cons, List.cons.injEq] at ht
    simp only [comm]
    rw [if_pos ht.1, comm_at r s k (by simpa using h1) (by simpa using h2) ht.2 (by simpa using h)]
theorem take_alike (x y : List UInt8) (k : Nat) (h1 : k < x.length) (h2 : k < y.length) (h : x.take k = y.take k) (he : x[k] = y[k]) : x.take (k + 1) = y.take (k + 1) := by
  rw [take_snoc x k h1, take_snoc y k h2, h, he]
/-- Which of two rows is less: -1, 0, 1. -/
def cmpL : List UInt8 → List UInt8 → Int
  | [], [] => 0
  | [], _ :: _ => -1
  | _ :: _, [] => 1
  | a :: r, b :: s => if a.toNat < b.toNat then -1 else if b.toNat < a.toNat then 1 else cmpL r s
theorem cmpL_drop : ∀ (x y : List UInt8) (k : Nat), k ≤ x.length → k ≤ y.length → x.take k = y.take k → cmpL x y = cmpL (x.drop k) (y.drop k)
  | _, _, 0, _, _, _ => rfl
  | [], _, k + 1, h, _, _ => by simp at h
  | _ :: _, [], k + 1, _, h, _ => by simp at h
  | a :: r, b :: s, k + 1, h1, h2, h => by
    simp only [List.take_succ_cons, List.cons.injEq] at h
    obtain ⟨rfl, h⟩ := h
    simp only [cmpL, List.drop_succ_cons]
    rw [if_neg (by omega), if_neg (by omega), cmpL_drop r s k (by simpa using h1) (by simpa using h2) h]
theorem cmpL_self : ∀ (x : List UInt8), cmpL x x = 0
  | [] => rfl
  | a :: r => by simp only [cmpL]; rw [if_neg (by omega), if_neg (by omega), cmpL_self r]
theorem cmpL_zero : ∀ (x y : List UInt8), cmpL x y = 0 ↔ x = y
  | [], [] => by simp [cmpL]
  | [], b :: s => by simp [cmpL]
  | a :: r, [] => by simp [cmpL]
  | a :: r, b :: s => by
    simp only [cmpL, List.cons.injEq]
    split
    · constructor
      · intro h; omega
      · rintro ⟨rfl, _⟩; omega
    · split
      · constructor
        · intro h; omega
        · rintro ⟨rfl, _⟩; omega
      · rw [cmpL_zero r s]
        have : a = b := UInt8.toNat_inj.1 (by omega)
        simp [this]
theorem cmpL_neg : ∀ (x y : List UInt8), cmpL y x = -cmpL x y
  | [], [] => rfl
  | [], b :: s => rfl
  | a :: r, [] => rfl
  | a :: r, b :: s => by
    simp only [cmpL]
    by_cases h1 : a.toNat < b.toNat
    · rw [if_neg (by omega), if_pos h1, if_pos h1]; rfl
    · by_cases h2 : b.toNat < a.toNat
      · rw [if_pos h2, if_neg h1, if_pos h2]
      · rw [if_neg h2, if_neg h1, if_neg h1, if_neg h2, cmpL_neg r s]
theorem cmpL_bd : ∀ (x y : List UInt8), cmpL x y = -1 ∨ cmpL x y = 0 ∨ cmpL x y = 1
  | [], [] => by simp [cmpL]
  | [], b :: s => by simp [cmpL]
  | a :: r, [] => by simp [cmpL]
  | a :: r, b :: s => by
    simp only [cmpL]
    split
    · simp
    · split
      · simp
      · exact cmpL_bd r s
theorem cmpL_trans : ∀ (x y z : List UInt8), cmpL x y ≤ 0 → cmpL y z ≤ 0 → cmpL x z ≤ 0
  | [], _, [], _, _ => by simp [cmpL]
  | [], _, _ :: _, _, _ => by simp [cmpL]
  | a :: r, [], _, h, _ => by simp [cmpL] at h
  | a :: r, b :: s, [], _, h => by simp [cmpL] at h
  | a :: r, b :: s, c :: t, h1, h2 => by
    simp only [cmpL] at h1 h2 ⊢
    by_cases p1 : a.toNat < b.toNat
    · by_cases q1 : b.toNat < c.toNat
      · rw [if_pos (by omega)]; omega
      · by_cases q2 : c.toNat < b.toNat
        · rw [if_neg q1, if_pos q2] at h2; omega
        · rw [if_pos (by omega)]; omega
    · by_cases p2 : b.toNat < a.toNat
      · rw [if_neg p1, if_pos p2] at h1; omega
      · rw [if_neg p1, if_neg p2] at h1
        by_cases q1 : b.toNat < c.toNat
        · rw [if_pos (by omega)]; omega
        · by_cases q2 : c.toNat < b.toNat
          · rw [if_neg q1, if_pos q2] at h2; omega
          · rw [if_neg q1, if_neg q2] at h2
            rw [if_neg (by omega), if_neg (by omega)]
            exact cmpL_trans r s t h1 h2
theorem comm_all : ∀ (x y : List UInt8), (x.length = y.length ∧ comm x y = x.length) ↔ x = y
  | [], [] => by simp [comm]
  | [], b :: s => by simp
  | a :: r, [] => by simp
  | a :: r, b :: s => by
    simp only [comm, List.length_cons, List.cons.injEq]
    split
    · rename_i h
      have := comm_all r s
      constructor
      · rintro ⟨h1, h2⟩
        exact ⟨h, this.1 ⟨by omega, by omega⟩⟩
      · rintro ⟨_, h2⟩
        have := this.2 h2
        omega
    · rename_i h
      constructor
      · rintro ⟨_, h2⟩; omega
      · rintro ⟨h1, _⟩; exact absurd h1 h
theorem comm_take : ∀ (x y : List UInt8), x.take (comm x y) = y.take (comm x y)
  | [], y => by cases y <;> rfl
  | a :: r, [] => rfl
  | a :: r, b :: s => by
    simp only [comm]
    split
    · rename_i h
      rw [List.take_succ_cons, List.take_succ_cons, h, comm_take r s]
    · rfl
theorem cmpL_both {x y : List UInt8} {k : Nat} (h1 : k < x.length) (h2 : k < y.length) (h : x.take k = y.take k) : cmpL x y = if x[k].toNat < y[k].toNat then -1 else if y[k].toNat < x[k].toNat then 1 else cmpL (x.drop (k + 1)) (y.drop (k + 1)) := by
  rw [cmpL_drop x y k (by omega) (by omega) h, List.drop_eq_getElem_cons h1, List.drop_eq_getElem_cons h2, cmpL]
theorem cmpL_left {x y : List UInt8} {k : Nat} (h1 : k = x.length) (h2 : k < y.length) (h : x.take k = y.take k) : cmpL x y = -1 := by
  rw [cmpL_drop x y k (by omega) (by omega) h, List.drop_eq_getElem_cons h2, List.drop_eq_nil_of_le (show x.length ≤ k by omega)]
  rfl
theorem cmpL_right {x y : List UInt8} {k : Nat} (h1 : k < x.length) (h2 : k = y.length) (h : x.take k = y.take k) : cmpL x y = 1 := by
  rw [cmpL_drop x y k (by omega) (by omega) h, List.drop_eq_getElem_cons h1, List.drop_eq_nil_of_le (show y.length ≤ k by omega)]
  rfl
theorem cmpL_none {x y : List UInt8} {k : Nat} (h1 : k = x.length) (h2 : k = y.length) (h : x.take k = y.take k) : cmpL x y = 0 := by
  rw [cmpL_drop x y k (by omega) (by omega) h, List.drop_eq_nil_of_le (by omega), List.drop_eq_nil_of_le (by omega)]
  rfl
theorem comm_ne : ∀ (x y : List UInt8) (h1 : comm x y < x.length) (h2 : comm x y < y.length), x[comm x y] ≠ y[comm x y]
  | [], y, h1, _ => by simp at h1
  | a :: r, [], _, h2 => by simp at h2
  | a :: r, b :: s, h1, h2 => by
    by_cases h : a = b
    · have e : comm (a :: r) (b :: s) = comm r s + 1 := by simp only [comm]; rw [if_pos h]
      have := comm_ne r s (by rw [e] at h1; simpa using h1) (by rw [e] at h2; simpa using h2)
      simpa [e] using this
    · have e : comm (a :: r) (b :: s) = 0 := by simp only [comm]; rw [if_neg h]
      simpa [e] using h
/-- How many signs all rows begin with alike: with the first n rows. -/
def commsN (ls : List (List UInt8)) : Nat → Nat
  | 0 => (ls.headD []).length
  | k + 1 => min (commsN ls k) (comm (ls.headD []) ((ls[k + 1]?).getD []))
def comms (ls : List (List UInt8)) : Nat := commsN ls (ls.length - 1)
theorem comm_self_take : ∀ (x y : List UInt8) (n : Nat), min n (comm (x.take n) y) = min n (comm x y)
  | [], y, n => by simp
  | a :: r, [], n => by cases n <;> simp [comm]
  | a :: r, b :: s, 0 => by simp
  | a :: r, b :: s, n + 1 => by
    have ih := comm_self_take r s n
    simp only [List.take_succ_cons, comm]
    split
    · omega
    · rfl
theorem commsN_le (ls : List (List UInt8)) : ∀ k, commsN ls k ≤ (ls.headD []).length
  | 0 => Nat.le_refl _
  | k + 1 => Nat.le_trans (Nat.min_le_left _ _) (commsN_le ls k)
theorem commsN_at (ls : List (List UInt8)) : ∀ k j, 1 ≤ j → j ≤ k → commsN ls k ≤ comm (ls.headD []) ((ls[j]?).getD [])
  | 0, j, h1, h2 => by omega
  | k + 1, j, h1, h2 => by
    by_cases h : j = k + 1
    · subst h
      exact Nat.min_le_right _ _
    · exact Nat.le_trans (Nat.min_le_left _ _) (commsN_at ls k j h1 (by omega))
theorem commsN_ge (ls : List (List UInt8)) (n : Nat) (h0 : n ≤ (ls.headD []).length) : ∀ k, (∀ j, 1 ≤ j → j ≤ k → n ≤ comm (ls.headD []) ((ls[j]?).getD [])) → n ≤ commsN ls k
  | 0, _ => h0
  | k + 1, h => by
    have := commsN_ge ls n h0 k fun j h1 h2 => h j h1 (by omega)
    have h2 := h (k + 1) (by omega) (Nat.le_refl _)
    simp only [commsN]
    omega
theorem comm_up {x y : List UInt8} {n : Nat} (h : n ≤ comm x y) (h1 : n < x.length) (h2 : n < y.length) (he : x[n] = y[n]) : n + 1 ≤ comm x y := by
  rcases Nat.lt_or_ge n (comm x y) with hlt | hge
  · exact hlt
  · have e : comm x y = n := by omega
    have := comm_ne x y (by omega) (by omega)
    simp only [e] at this
    exact absurd he this
theorem comm_stop {x y : List UInt8} {n : Nat} (h : n ≤ comm x y) (hs : n = x.length ∨ n = y.length ∨ ∃ (h1 : n < x.length) (h2 : n < y.length), x[n] ≠ y[n]) : comm x y = n := by
  have hb := comm_le x y
  have ht := comm_take x y
  have h2 : x.take n = y.take n := by
    have := congrArg (List.take n) ht
    rwa [List.take_take, List.take_take, Nat.min_eq_left h] at this
  exact comm_at x y n (by omega) (by omega) h2 hs
theorem head_at {α : Type} (ls : List α) (d : α) (h : 0 < ls.length) : ls.headD d = ls[0] := by
  cases ls with
  | nil => cases h
  | cons x r => rfl
theorem comms_first (ls : List (List UInt8)) (h : 0 < ls.length) : commsN ls 0 = ls[0].length := by
  show (ls.headD []).length = _
  rw [head_at ls [] h]
theorem commsN_le0 (ls : List (List UInt8)) (k : Nat) (h : 0 < ls.length) : commsN ls k ≤ ls[0].length := by
  have := commsN_le ls k
  rwa [head_at ls [] h] at this
theorem comms_step (ls : List (List UInt8)) (k : Nat) (h0 : 0 < ls.length) (h : k + 1 < ls.length) : commsN ls (k + 1) = min (commsN ls k) (comm (ls[0].take (commsN ls k)) ls[k + 1]) := by
  rw [comm_self_take]
  simp only [commsN]
  rw [head_at ls [] h0, List.getElem?_eq_getElem h]
  rfl
theorem comm_prefix : ∀ (a r : List UInt8), comm (a ++ r) a = a.length
  | [], r => by cases r <;> rfl
  | x :: a, r => by
    have := comm_prefix a r
    simp [comm, this]
theorem cmpL_prefix : ∀ (a r : List UInt8), cmpL a (a ++ r) ≤ 0
  | [], r => by cases r <;> simp [cmpL]
  | x :: a, r => by
    have := cmpL_prefix a r
    simpa [cmpL] using this
theorem comms_two (J a : List UInt8) : comms [J, a] = min J.length (comm J a) := rfl
/-- The first n signs are alike in the rows up to k. -/
def AllC (ls : List (List UInt8)) (n k : Nat) : Prop := ∀ j, 1 ≤ j → j < k → n ≤ comm (ls.headD []) ((ls[j]?).getD [])
theorem allC_nil (ls : List (List UInt8)) (k : Nat) : AllC ls 0 k := fun _ _ _ => Nat.zero_le _
theorem allC_one (ls : List (List UInt8)) (n : Nat) : AllC ls n 1 := fun _ h1 h2 => by omega
theorem allC_at {ls : List (List UInt8)} {n k i : Nat} (h : AllC ls n k) (h0 : 0 < ls.length) (h1 : 1 ≤ i) (hi : i < ls.length) (hk : i < k) : n ≤ comm ls[0] ls[i] := by
  have := h i h1 hk
  rwa [head_at ls [] h0, List.getElem?_eq_getElem hi] at this
theorem allC_step {ls : List (List UInt8)} {n i : Nat} (h : AllC ls n ls.length) (hs : AllC ls (n + 1) i) (h0 : 0 < ls.length) (h1 : 1 ≤ i) (hi : i < ls.length) (k0 : n < ls[0].length) (k1 : n < ls[i].length) (he : ls[0][n] = ls[i][n]) : AllC ls (n + 1) (i + 1) := by
  intro j j1 j2
  by_cases hj : j = i
  · subst hj
    rw [head_at ls [] h0, List.getElem?_eq_getElem hi]
    exact comm_up (allC_at h h0 h1 hi hi) k0 k1 he
  · exact hs j j1 (by omega)
theorem comms_end {ls : List (List UInt8)} (h0 : 0 < ls.length) (h : AllC ls ls[0].length ls.length) : comms ls = ls[0].length := by
  have h1 := commsN_le0 ls (ls.length - 1) h0
  have h2 := commsN_ge ls ls[0].length (by rw [head_at ls [] h0]; exact Nat.le_refl _) (ls.length - 1) fun j j1 j2 => h j j1 (by omega)
  unfold comms
  omega
theorem comms_stop {ls : List (List UInt8)} {n i : Nat} (h : AllC ls n ls.length) (h0 : 0 < ls.length) (hn : n ≤ ls[0].length) (h1 : 1 ≤ i) (hi : i < ls.length) (hs : ls[i].length ≤ n ∨ ∃ (k0 : n < ls[0].length) (k1 : n < ls[i].length), ls[0][n] ≠ ls[i][n]) : comms ls = n := by
  have ha := allC_at h h0 h1 hi hi
  have hb := comm_le ls[0] ls[i]
  have hc : comm ls[0] ls[i] = n := comm_stop ha (by
    rcases hs with hs | hs
    · right; left; omega
    · right; right; exact hs)
  have h2 := commsN_ge ls n (by rw [head_at ls [] h0]; exact hn) (ls.length - 1) fun j j1 j2 => h j j1 (by omega)
  have h3 := commsN_at ls (ls.length - 1) i h1 (by omega)
  rw [head_at ls [] h0, List.getElem?_eq_getElem hi] at h3
  simp only [Option.getD_some] at h3
  unfold comms
  omega
end Oct
