/- Lemmas and walks on the way to the seat's laws; each theorem says its own conditions. -/
import Derived.Test.YtaojfkfdfpiejaaDPlain
namespace Cal
/-- The program's way from a number to a date: of years that begin in March. -/
def pyear (rest : Int) : Int := (rest - rest/1460 + rest/36524 - rest/146096) / 365
theorem pyear_of (c q s t : Int) (hc : 0 ≤ c ∧ c ≤ 3) (hq : 0 ≤ q ∧ q ≤ 24) (hs : 0 ≤ s ∧ s ≤ 3) (ht : 0 ≤ t ∧ t ≤ 365) (ht' : t = 365 → s = 3 ∧ (q = 24 → c = 3)) :
   pyear (36524 * c + 1461 * q + 365 * s + t) = 100 * c + 4 * q + s := by
  generalize hr : 36524 * c + 1461 * q + 365 * s + t = r
  unfold pyear
  have h3 : r / 146096 = if r = 146096 then 1 else 0 := by split <;> omega
  have h2 : r / 36524 = c + if r = 146096 then 1 else 0 := by split <;> omega
  by_cases hx : 24 * c + q + 365 * s + t < 1460
  · have h1 : r / 1460 = 25 * c + q := by omega
    rw [h1, h2, h3]
    split <;> omega
  · have h1 : r / 1460 = 25 * c + q + 1 := by omega
    rw [h1, h2, h3]
    split <;> omega
theorem parts (rest : Int) (h0 : 0 ≤ rest) (h1 : rest < 146097) : ∃ c q s t : Int, rest = 36524 * c + 1461 * q + 365 * s + t ∧ (0 ≤ c ∧ c ≤ 3) ∧ (0 ≤ q ∧ q ≤ 24) ∧ (0 ≤ s ∧ s ≤ 3) ∧ (0 ≤ t ∧ t ≤ 365) ∧ (t = 365 → s = 3 ∧ (q = 24 → c = 3)) := by
  obtain ⟨c, hc⟩ : ∃ c : Int, 0 ≤ c ∧ c ≤ 3 ∧ 36524 * c ≤ rest ∧ (rest ≤ 36524 * c + 36523 ∨ c = 3 ∧ rest = 146096) := by
    by_cases h : rest = 146096
    · exact ⟨3, by omega⟩
    · exact ⟨rest / 36524, by omega⟩
  obtain ⟨q, hq⟩ : ∃ q : Int, 0 ≤ q ∧ q ≤ 24 ∧ 1461 * q ≤ rest - 36524 * c ∧ rest - 36524 * c ≤ 1461 * q + 1460 := ⟨(rest - 36524 * c) / 1461, by omega⟩
  obtain ⟨s, hs⟩ : ∃ s : Int, 0 ≤ s ∧ s ≤ 3 ∧ 365 * s ≤ rest - 36524 * c - 1461 * q ∧ (rest - 36524 * c - 1461 * q ≤ 365 * s + 364 ∨ s = 3 ∧ rest - 36524 * c - 1461 * q = 1460) := by
    by_cases h : rest - 36524 * c - 1461 * q = 1460
    · exact ⟨3, by omega⟩
    · exact ⟨(rest - 36524 * c - 1461 * q) / 365, by omega⟩
  exact ⟨c, q, s, rest - 36524 * c - 1461 * q - 365 * s, by omega⟩

def oEra (n : Int) : Int := if n + 719468 < 0 then -1 else (n + 719468) / 146097
def oRest (n : Int) : Int := n + 719468 - oEra n * 146097
def oYr (n : Int) : Int := pyear (oRest n)
def oDay (n : Int) : Int := oRest n - (365 * oYr n + oYr n / 4 - oYr n / 100)
def oMon (n : Int) : Int := (5 * oDay n + 2) / 153
def pY (n : Int) : Int := if 12 < oMon n + 3 then oYr n + 400 * oEra n + 1 else oYr n + 400 * oEra n
def pM (n : Int) : Int := if 12 < oMon n + 3 then oMon n + 3 - 12 else oMon n + 3
def pD (n : Int) : Int := oDay n - (153 * oMon n + 2) / 5 + 1

theorem oRest_bd (n : Int) (h1 : -719528 ≤ n) (h2 : n ≤ 2932896) : -1 ≤ oEra n ∧ oEra n ≤ 24 ∧ 0 ≤ oRest n ∧ oRest n < 146097 ∧ (oEra n = -1 → n + 719468 < 0) := by
  unfold oRest oEra; split <;> omega
theorem oYr_ok (n : Int) (h1 : -719528 ≤ n) (h2 : n ≤ 2932896) : 0 ≤ oYr n ∧ oYr n ≤ 399 ∧ 0 ≤ oDay n ∧ oDay n ≤ 365 ∧ (oDay n = 365 → oYr n % 4 = 3 ∧ (oYr n % 100 = 99 → oYr n = 399)) := by
  obtain ⟨_, _, h3, h4, _⟩ := oRest_bd n h1 h2
  obtain ⟨c, q, s, t, hr, hc, hq, hs, ht, hx⟩ := parts _ h3 h4
  have hp := pyear_of c q s t hc hq hs ht hx
  unfold oDay oYr
  rw [hr, hp]
  clear hp hr
  omega
theorem pdate_ok (n : Int) (h1 : -719528 ≤ n) (h2 : n ≤ 2932896) : rightB (pY n) (pM n) (pD n) = true ∧ num (pY n) (pM n) (pD n) = n := by
  obtain ⟨e1, e2, r1, r2, e3⟩ := oRest_bd n h1 h2
  obtain ⟨y1, y2, d1, d2, d3⟩ := oYr_ok n h1 h2
  have hd : oDay n = oRest n - (365 * oYr n + oYr n / 4 - oYr n / 100) := rfl
  have hm : oMon n = (5 * oDay n + 2) / 153 := rfl
  have hD : pD n = oDay n - (153 * oMon n + 2) / 5 + 1 := rfl
  have hR : oRest n = n + 719468 - oEra n * 146097 := rfl
  have m1 : 0 ≤ oMon n ∧ oMon n ≤ 11 := by omega
  have hnum : ∀ d, pnum (oYr n + 400 * oEra n) (oMon n) d = oEra n * 146097 + oYr n * 365 + oYr n / 4 - oYr n / 100 + (153 * oMon n + 2) / 5 + d - 1 - 719468 := by
    intro d
    have he : era (oYr n + 400 * oEra n) = oEra n := by unfold era; split <;> omega
    unfold pnum; rw [he]
    have : oYr n + 400 * oEra n - 400 * oEra n = oYr n := by omega
    rw [this]
  have hn : pnum (oYr n + 400 * oEra n) (oMon n) (pD n) = n := by rw [hnum, hD]; omega
  unfold pY pM
  by_cases hc : 12 < oMon n + 3
  · rw [if_pos hc, if_pos hc]
    have hy0 : 0 ≤ oYr n + 400 * oEra n + 1 := by omega
    have hy9 : oYr n + 400 * oEra n + 1 ≤ 9999 := by omega
    have hlo := pnum_lo (oYr n + 400 * oEra n + 1) (oMon n + 3 - 12) (pD n) hy0 (by omega) (by omega)
    rw [show oYr n + 400 * oEra n + 1 - 1 = oYr n + 400 * oEra n by omega, show oMon n + 3 - 12 - 3 + 12 = oMon n by omega] at hlo
    refine ⟨(right_iff _ _ _).2 ⟨hy0, hy9, by omega, ?_⟩, by rw [← hlo]; exact hn⟩
    have hl := lp_cases (oYr n + 400 * oEra n + 1)
    have hmm : oMon n = 10 ∨ oMon n = 11 := by omega
    rcases hmm with h | h
    · rw [h]; simp [dim]; omega
    · rw [h]; simp [dim]; omega
  · rw [if_neg hc, if_neg hc]
    have hy0 : 0 ≤ oYr n + 400 * oEra n := by
      by_cases he : oEra n = -1
      · have := e3 he; omega
      · omega
    have hy9 : oYr n + 400 * oEra n ≤ 9999 := by omega
    have hhi := pnum_hi (oYr n + 400 * oEra n) (oMon n + 3) (pD n) hy0 (by omega) (by omega)
    rw [show oMon n + 3 - 3 = oMon n by omega] at hhi
    refine ⟨(right_iff _ _ _).2 ⟨hy0, hy9, by omega, ?_⟩, by rw [← hhi]; exact hn⟩
    have hmm : oMon n = 0 ∨ oMon n = 1 ∨ oMon n = 2 ∨ oMon n = 3 ∨ oMon n = 4 ∨ oMon n = 5 ∨ oMon n = 6 ∨ oMon n = 7 ∨ oMon n = 8 ∨ oMon n = 9 := by omega
    rcases hmm with h | h | h | h | h | h | h | h | h | h <;> (rw [h]; simp [dim]; omega)
end Cal
