/- Lemmas and walks on the way to the seat's laws; each theorem says its own conditions. -/
namespace Cal
/-- Is a year long? -/
def longB (y : Int) : Bool := decide ((y % 4 = 0 ∧ ¬ y % 100 = 0) ∨ y % 400 = 0)
def lp (y : Int) : Int := if longB y then 1 else 0
def dby (y : Int) : Int := 365 * y + (y + 3) / 4 - (y + 99) / 100 + (y + 399) / 400
def cum (y m : Int) : Int :=
  if m ≤ 1 then 0 else if m ≤ 2 then 31 else lp y + (if m ≤ 3 then 59 else if m ≤ 4 then 90 else if m ≤ 5 then 120 else if m ≤ 6 then 151 else if m ≤ 7 then 181 else if m ≤ 8 then 212 else if m ≤ 9 then 243 else if m ≤ 10 then 273 else if m ≤ 11 then 304 else 334)
def dim (y m : Int) : Int :=
  if m = 1 ∨ m = 3 ∨ m = 5 ∨ m = 7 ∨ m = 8 ∨ m = 10 ∨ m = 12 then 31 else if m = 4 ∨ m = 6 ∨ m = 9 ∨ m = 11 then 30 else if m = 2 then 28 + lp y else 0
def num (y m d : Int) : Int := dby y - 719528 + cum y m + d - 1
def rightB (y m d : Int) : Bool := decide (0 ≤ y ∧ y ≤ 9999 ∧ 1 ≤ d ∧ d ≤ dim y m)

theorem longB_iff (y : Int) : longB y = true ↔ ((y % 4 = 0 ∧ ¬ y % 100 = 0) ∨ y % 400 = 0) := by simp [longB]
theorem tmod_zero (y k : Int) : y.tmod k = 0 ↔ y % k = 0 := by
  rw [← Int.dvd_iff_tmod_eq_zero, Int.dvd_iff_emod_eq_zero]
theorem tmod_beq (y k : Int) : (y.tmod k == 0) = decide (y % k = 0) := by
  rw [Bool.eq_iff_iff]; simp [tmod_zero]
theorem tmod_bne (y k : Int) : (y.tmod k != 0) = !decide (y % k = 0) := by
  rw [bne, tmod_beq]
theorem lp01 (y : Int) : lp y = 0 ∨ lp y = 1 := by unfold lp; split <;> simp
theorem lp_cases (y : Int) : (((y % 4 = 0 ∧ ¬ y % 100 = 0) ∨ y % 400 = 0) ∧ lp y = 1) ∨ (¬ ((y % 4 = 0 ∧ ¬ y % 100 = 0) ∨ y % 400 = 0) ∧ lp y = 0) := by
  unfold lp longB
  by_cases h : ((y % 4 = 0 ∧ ¬ y % 100 = 0) ∨ y % 400 = 0) <;> simp [h]
theorem dby_succ (y : Int) : dby (y+1) = dby y + 365 + lp y := by
  have := lp_cases y
  unfold dby; omega
theorem dim_cases (y m : Int) : (1 ≤ m ∧ m ≤ 12 ∧ 28 ≤ dim y m ∧ dim y m ≤ 31) ∨ (¬ (1 ≤ m ∧ m ≤ 12) ∧ dim y m = 0) := by
  have := lp01 y
  unfold dim
  split
  · omega
  · split
    · omega
    · split <;> omega
theorem right_iff (y m d : Int) : rightB y m d = true ↔ (0 ≤ y ∧ y ≤ 9999 ∧ 1 ≤ d ∧ d ≤ dim y m) := by simp [rightB]
theorem right_false (y m d : Int) : rightB y m d = false ↔ ¬ (0 ≤ y ∧ y ≤ 9999 ∧ 1 ≤ d ∧ d ≤ dim y m) := by simp [rightB]
theorem month_of_right {y m d : Int} (h : rightB y m d = true) : 1 ≤ m ∧ m ≤ 12 := by
  rw [right_iff] at h
  have := dim_cases y m
  omega
theorem months (m : Int) (h1 : 1 ≤ m) (h2 : m ≤ 12) : m = 1 ∨ m = 2 ∨ m = 3 ∨ m = 4 ∨ m = 5 ∨ m = 6 ∨ m = 7 ∨ m = 8 ∨ m = 9 ∨ m = 10 ∨ m = 11 ∨ m = 12 := by omega
theorem cum_succ (y m : Int) (h1 : 1 ≤ m) (h2 : m ≤ 11) : cum y (m + 1) = cum y m + dim y m := by
  have := lp01 y
  rcases months m h1 (by omega) with rfl | rfl | rfl | rfl | rfl | rfl | rfl | rfl | rfl | rfl | rfl | rfl <;> simp [cum, dim] <;> omega
theorem cum12 (y : Int) : cum y 12 + dim y 12 = 365 + lp y := by simp [cum, dim]; omega
theorem cum_bd (y m : Int) : 0 ≤ cum y m ∧ cum y m ≤ 335 := by
  have := lp01 y
  unfold cum; (repeat' split) <;> omega
theorem cum_mono (y m k : Int) (h1 : 1 ≤ m) (h : m < k) (h2 : k ≤ 12) : cum y m + dim y m ≤ cum y k := by
  have := lp01 y
  rcases months m h1 (by omega) with rfl | rfl | rfl | rfl | rfl | rfl | rfl | rfl | rfl | rfl | rfl | rfl <;>
  rcases months k (by omega) h2 with rfl | rfl | rfl | rfl | rfl | rfl | rfl | rfl | rfl | rfl | rfl | rfl <;> simp [cum, dim] at * <;> omega
theorem cum_dim (y m : Int) (h1 : 1 ≤ m) (h2 : m ≤ 12) : cum y m + dim y m ≤ 365 + lp y := by
  have := lp01 y
  rcases months m h1 h2 with rfl | rfl | rfl | rfl | rfl | rfl | rfl | rfl | rfl | rfl | rfl | rfl <;> simp [cum, dim] <;> omega
theorem dby_mono (a b : Int) (h : a ≤ b) : dby a ≤ dby b := by unfold dby; omega
theorem dby_lt (a b : Int) (h : a < b) : dby a + 365 + lp a ≤ dby b := by
  have := dby_succ a
  have := dby_mono (a+1) b (by omega)
  omega
/-- No two right dates have one number. -/
theorem num_inj {y m d y' m' d' : Int} (h : rightB y m d = true) (h' : rightB y' m' d' = true) (he : num y m d = num y' m' d') : y = y' ∧ m = m' ∧ d = d' := by
  have a := month_of_right h
  have b := month_of_right h'
  rw [right_iff] at h h'
  unfold num at he
  have c1 := cum_bd y m
  have c2 := cum_bd y' m'
  have e1 := cum_dim y m a.1 a.2
  have e2 := cum_dim y' m' b.1 b.2
  have hy : y = y' := by
    rcases Int.lt_trichotomy y y' with h1 | h1 | h1
    · have := dby_lt _ _ h1; omega
    · exact h1
    · have := dby_lt _ _ h1; omega
  subst hy
  have hm : m = m' := by
    rcases Int.lt_trichotomy m m' with h1 | h1 | h1
    · have := cum_mono y m m' a.1 h1 b.2; omega
    · exact h1
    · have := cum_mono y m' m b.1 h1 a.2; omega
  subst hm
  exact ⟨rfl, rfl, by omega⟩
theorem num_bd {y m d : Int} (h : rightB y m d = true) : -719528 ≤ num y m d ∧ num y m d ≤ 2932896 := by
  have a := month_of_right h
  rw [right_iff] at h
  have c1 := cum_bd y m
  have e1 := cum_dim y m a.1 a.2
  have h0 := dby_mono 0 y h.1
  have h1 := dby_lt y 10000 (by omega)
  have h3 : dby 0 = 0 := by decide
  have h4 : dby 10000 = 3652425 := by decide
  unfold num
  omega
/-- The order of dates is that of their numbers. -/
theorem num_lt {y m d y' m' d' : Int} (h : rightB y m d = true) (h' : rightB y' m' d' = true) : num y m d < num y' m' d' ↔ (y < y' ∨ y = y' ∧ (m < m' ∨ m = m' ∧ d < d')) := by
  have a := month_of_right h
  have b := month_of_right h'
  rw [right_iff] at h h'
  unfold num
  have c1 := cum_bd y m
  have c2 := cum_bd y' m'
  have e1 := cum_dim y m a.1 a.2
  have e2 := cum_dim y' m' b.1 b.2
  rcases Int.lt_trichotomy y y' with h1 | h1 | h1
  · have := dby_lt _ _ h1; constructor <;> intro <;> omega
  · subst h1
    rcases Int.lt_trichotomy m m' with h1 | h1 | h1
    · have := cum_mono y m m' a.1 h1 b.2; constructor <;> intro <;> omega
    · subst h1; constructor <;> intro <;> omega
    · have := cum_mono y m' m b.1 h1 a.2; constructor <;> intro <;> omega
  · have := dby_lt _ _ h1; constructor <;> intro <;> omega

/-- The program's number, by years that begin in March. -/
def era (y : Int) : Int := if y < 0 then -1 else y / 400
def pnum (y m d : Int) : Int := era y * 146097 + (y - 400 * era y) * 365 + (y - 400 * era y) / 4 - (y - 400 * era y) / 100 + (153 * m + 2) / 5 + d - 1 - 719468
theorem pnum_hi (y m d : Int) (h0 : 0 ≤ y) (h1 : 3 ≤ m) (h2 : m ≤ 12) : pnum y (m - 3) d = num y m d := by
  have := lp_cases y
  unfold pnum num dby era
  rw [if_neg (by omega)]
  rcases months m (by omega) h2 with rfl | rfl | rfl | rfl | rfl | rfl | rfl | rfl | rfl | rfl | rfl | rfl <;> simp [cum] <;> omega
theorem pnum_lo (y m d : Int) (h0 : 0 ≤ y) (h1 : 1 ≤ m) (h2 : m ≤ 2) : pnum (y - 1) (m - 3 + 12) d = num y m d := by
  have := lp_cases y
  unfold pnum num dby era
  have hm : m = 1 ∨ m = 2 := by omega
  split
  · rcases hm with rfl | rfl <;> simp [cum] <;> omega
  · rcases hm with rfl | rfl <;> simp [cum] <;> omega
end Cal
