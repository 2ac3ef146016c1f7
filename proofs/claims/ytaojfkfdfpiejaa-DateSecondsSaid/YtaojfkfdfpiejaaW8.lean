/- Lemmas and walks on the way to the seat's laws; each theorem says its own conditions. -/
import Derived.Test.YtaojfkfdfpiejaaW7
import Derived.Test.YtaojfkfdfpiejaaDPlain2
namespace Go.Proofs.Ytaojfkfdfpiejaa
open Go.RowKit
theorem ret_date {y m d y' m' d' : Int} (h1 : y = y') (h2 : m = m') (h3 : d = d') (x : Value) : Ending.returned (.tuple #[.agg #[.int .i64 y, .int .i64 m, .int .i64 d], x]) = .returned (.tuple #[.agg #[.int .i64 y', .int .i64 m', .int .i64 d'], x]) := by rw [h1, h2, h3]
set_option maxHeartbeats 800000 in
theorem of_yes (n : Int) (h1 : -719528 ≤ n) (h2 : n ≤ 2932896) (w : World) :
    Calls Try.prog 20 #[.int .i64 n] w fun e w' => e = .returned (.tuple #[.agg #[.int .i64 (Cal.pY n), .int .i64 (Cal.pM n), .int .i64 (Cal.pD n)], .int .i64 0]) ∧ Below w.heap.size w w' := by
  obtain ⟨e1, e2, r1, r2, e3⟩ := Cal.oRest_bd n h1 h2
  obtain ⟨y1, y2, d1, d2, d3⟩ := Cal.oYr_ok n h1 h2
  have HE : Hid (Cal.oEra n = if n + 719468 < 0 then -1 else (n + 719468) / 146097) := rfl
  have HR : Hid (Cal.oRest n = n + 719468 - Cal.oEra n * 146097) := rfl
  have HY : Hid (Cal.oYr n = (Cal.oRest n - Cal.oRest n/1460 + Cal.oRest n/36524 - Cal.oRest n/146096) / 365) := rfl
  have HD : Hid (Cal.oDay n = Cal.oRest n - (365 * Cal.oYr n + Cal.oYr n / 4 - Cal.oYr n / 100)) := rfl
  have HM : Hid (Cal.oMon n = (5 * Cal.oDay n + 2) / 153) := rfl
  have M1 : 0 ≤ Cal.oMon n ∧ Cal.oMon n ≤ 11 := by have := HM.out; omega
  have HpD : Hid (Cal.pD n = Cal.oDay n - (153 * Cal.oMon n + 2) / 5 + 1) := rfl
  have HpY : Hid (Cal.pY n = if 12 < Cal.oMon n + 3 then Cal.oYr n + 400 * Cal.oEra n + 1 else Cal.oYr n + 400 * Cal.oEra n) := rfl
  have HpM : Hid (Cal.pM n = if 12 < Cal.oMon n + 3 then Cal.oMon n + 3 - 12 else Cal.oMon n + 3) := rfl
  generalize Cal.oEra n = er at *
  generalize Cal.oRest n = rest at *
  generalize Cal.oYr n = yr at *
  generalize Cal.oDay n = day at *
  generalize Cal.oMon n = mon at *
  generalize Cal.pD n = pd at *
  generalize Cal.pM n = pm at *
  generalize Cal.pY n = py at *
  clear e3 d3
  obtain ⟨M1, M2⟩ := M1
  by_cases he : n + 719468 < 0
  · obtain rfl : er = -1 := by have := HE.out; omega
    go_enter Try.func20, Try.ntmps20
    go_upto_region 8 with (fail)
    rw [show n + 719468 + 146097 = rest by have := HR.out; omega]
    go_upto_region 9 with (fail)
    rw [← HY.out]
    go_upto_region 10 with (fail)
    rw [← HD.out]
    go_upto_region 11 with (fail)
    rw [← HM.out]
    by_cases hc : 12 < mon + 3
    · go_wp2
      refine bodyPost_ret (v := .tuple #[.agg #[.int .i64 py, .int .i64 pm, .int .i64 pd], .int .i64 0]) ?_ rfl ⟨rfl, ?_⟩
      · simp [results, Try.results20, go_sem]
        have p1 := HpY.out
        have p2 := HpM.out
        have p3 := HpD.out
        split at p1 <;> split at p2 <;> omega
      · repeat (first | exact Below.refl _ _ | refine Below.alloc ?_ (by simp) _ | refine Below.setCell ?_ (by simp) _ | refine below_drewN ?_ _)
    · go_wp2
      refine bodyPost_ret (v := .tuple #[.agg #[.int .i64 py, .int .i64 pm, .int .i64 pd], .int .i64 0]) ?_ rfl ⟨rfl, ?_⟩
      · simp [results, Try.results20, go_sem]
        have p1 := HpY.out
        have p2 := HpM.out
        have p3 := HpD.out
        split at p1 <;> split at p2 <;> omega
      · repeat (first | exact Below.refl _ _ | refine Below.alloc ?_ (by simp) _ | refine Below.setCell ?_ (by simp) _ | refine below_drewN ?_ _)
  · have hee : (n + 719468) / 146097 = er := by have := HE.out; omega
    have Hee := Lib.hid hee; clear hee
    go_enter Try.func20, Try.ntmps20
    go_upto_region 7 with (fail)
    rw [Hee.out]
    go_upto_region 8 with (fail)
    rw [show n + 719468 - er * 146097 = rest by have := HR.out; omega]
    go_upto_region 9 with (fail)
    rw [← HY.out]
    go_upto_region 10 with (fail)
    rw [← HD.out]
    go_upto_region 11 with (fail)
    rw [← HM.out]
    by_cases hc : 12 < mon + 3
    · go_wp2
      refine bodyPost_ret (v := .tuple #[.agg #[.int .i64 py, .int .i64 pm, .int .i64 pd], .int .i64 0]) ?_ rfl ⟨rfl, ?_⟩
      · simp [results, Try.results20, go_sem]
        have p1 := HpY.out
        have p2 := HpM.out
        have p3 := HpD.out
        split at p1 <;> split at p2 <;> omega
      · repeat (first | exact Below.refl _ _ | refine Below.alloc ?_ (by simp) _ | refine Below.setCell ?_ (by simp) _ | refine below_drewN ?_ _)
    · go_wp2
      refine bodyPost_ret (v := .tuple #[.agg #[.int .i64 py, .int .i64 pm, .int .i64 pd], .int .i64 0]) ?_ rfl ⟨rfl, ?_⟩
      · simp [results, Try.results20, go_sem]
        have p1 := HpY.out
        have p2 := HpM.out
        have p3 := HpD.out
        split at p1 <;> split at p2 <;> omega
      · repeat (first | exact Below.refl _ _ | refine Below.alloc ?_ (by simp) _ | refine Below.setCell ?_ (by simp) _ | refine below_drewN ?_ _)
set_option maxHeartbeats 400000 in
theorem of_no (n : Int) (h : n < -719528 ∨ 2932896 < n) (w : World) :
    Calls Try.prog 20 #[.int .i64 n] w fun e w' => e = .returned (.tuple #[.agg #[.int .i64 0, .int .i64 0, .int .i64 0], .int .i64 1]) ∧ Below w.heap.size w w' := by
  rcases h with h | h
  · go_enter Try.func20, Try.ntmps20
    go_wp2
    refine bodyPost_ret (by simp [results, Try.results20, go_sem]) rfl ⟨rfl, ?_⟩
    repeat (first | exact Below.refl _ _ | refine Below.alloc ?_ (by simp) _ | refine Below.setCell ?_ (by simp) _ | refine below_drewN ?_ _)
  · have h' : ¬ n < -719528 := by omega
    go_enter Try.func20, Try.ntmps20
    go_wp2
    refine bodyPost_ret (by simp [results, Try.results20, go_sem]) rfl ⟨rfl, ?_⟩
    repeat (first | exact Below.refl _ _ | refine Below.alloc ?_ (by simp) _ | refine Below.setCell ?_ (by simp) _ | refine below_drewN ?_ _)
end Go.Proofs.Ytaojfkfdfpiejaa
