/- Lemmas and walks on the way to the seat's laws; each theorem says its own conditions. -/
import Derived.Test.YtaojfkfdfpiejaaW21
namespace Cal
theorem shift400 (n : Int) (h1 : -719528 ≤ n) : pY (n + 146097) = pY n + 400 ∧ pM (n + 146097) = pM n ∧ pD (n + 146097) = pD n := by
  have he : oEra (n + 146097) = oEra n + 1 := by unfold oEra; split <;> split <;> omega
  have hr : oRest (n + 146097) = oRest n := by unfold oRest; rw [he]; omega
  have hy : oYr (n + 146097) = oYr n := by unfold oYr; rw [hr]
  have hd : oDay (n + 146097) = oDay n := by unfold oDay; rw [hr, hy]
  have hm : oMon (n + 146097) = oMon n := by unfold oMon; rw [hd]
  refine ⟨?_, ?_, ?_⟩
  · unfold pY; rw [hm, hy, he]; split <;> omega
  · unfold pM; rw [hm]
  · unfold pD; rw [hd, hm]
end Cal
namespace Go.Proofs.Ytaojfkfdfpiejaa
open Go.RowKit
set_option maxHeartbeats 1000000 in
theorem day_any (n : Int) (h1 : -719528 ≤ n) (h2 : n ≤ 2932896) (w : World) :
    Calls Try.prog 19 #[.int .i64 n] w fun e w' => e = .returned (.tuple #[.agg #[.int .i64 (Cal.pY n), .int .i64 (Cal.pM n), .int .i64 (Cal.pD n)], .int .i64 (Cal.wd n)]) ∧ Below w.heap.size w w' := by
  have PD := Lib.hid (Cal.pdate_ok n h1 h2)
  go_enter Try.func19, Try.ntmps19
  go_wp2_with (go_at_call 20; refine (of_yes n h1 h2 _).mono ?_; rintro e w1 ⟨rfl, hb1⟩)
  refine (weekday_yes _ _ _ PD.out.1 _).mono ?_
  rintro e w2 ⟨rfl, hb2⟩
  rw [PD.out.2]
  obtain ⟨hp, hz1, hbw1⟩ := newblk hb1
  have hh2 : w2.heap[w.heap.size]? = _ := (hb2.block _ (by simp; omega)).trans ((heap_alloc_old _ _ hz1).trans hp)
  obtain ⟨c0, c1, c2, cf⟩ := cells3 hh2
  obtain ⟨hq, hz2, hbw2⟩ := newblk hb2
  obtain ⟨d0, d1, d2, _⟩ := cells3 hq
  have HH := Lib.hid hh2
  clear hh2 hp hq
  go_wp2_with (fail)
  obtain ⟨z0, z1, z2, _⟩ := cells3 (three_written HH.out (.int .i64 (Cal.pY n)) (.int .i64 (Cal.pM n)) (.int .i64 (Cal.pD n)))
  have hB : Below w.heap.size w w2 := hbw1.trans (hbw2.mono hbw1.size)
  refine bodyPost_ret (v := .tuple #[.agg #[.int .i64 (Cal.pY n), .int .i64 (Cal.pM n), .int .i64 (Cal.pD n)], .int .i64 (Cal.wd n)]) ?_ rfl ⟨rfl, ?_⟩
  · simp [results, Try.results19, go_sem, z0, z1, z2]
  · repeat (first | with_reducible exact hB | with_reducible refine Below.setCell ?_ (by simp) _)
theorem keepblk {w w' : World} {o ob : Obj} {b : Nat} (h : w.heap[b]? = some ob) (hb : Below (w.alloc o).heap.size (w.alloc o) w') : w'.heap[b]? = some ob := by
  have hlt : b < w.heap.size := (Array.getElem?_eq_some_iff.1 h).1
  exact (hb.block _ (by simp; omega)).trans ((heap_alloc_old _ _ hlt).trans h)
theorem weeks_arg (n : Int) : ∃ k, -719528 ≤ k ∧ k ≤ 2786798 ∧ wrap64 (wrap64 ((IntKind.u64.wrap n).tmod 3506327) - 719528) = k := by
  have h0 : 0 ≤ IntKind.u64.wrap n := by simp [IntKind.wrap, IntKind.signed, IntKind.bits]; omega
  rw [Int.tmod_eq_emod_of_nonneg h0]
  generalize IntKind.u64.wrap n = u at *
  rw [IntWalk.wrap64_in (u % 3506327) ⟨by omega, by omega⟩, IntWalk.wrap64_in (u % 3506327 - 719528) ⟨by omega, by omega⟩]
  exact ⟨_, by omega, by omega, rfl⟩
set_option maxRecDepth 100000 in
set_option maxHeartbeats 4000000 in
theorem dateWeeks_any (n : Int) (w : World) :
    Calls Try.prog 4 #[.int .i64 n] w fun e w' => e = .returned (.bool true) ∧ Below w.heap.size w w' := by
  obtain ⟨k, k1, k2, ke⟩ := weeks_arg n
  have KE := Lib.hid ke
  clear ke
  go_enter Try.func4, Try.ntmps4
  go_wp2_with (fail)
  rw [KE.out]
  have e1 := Lib.hid (show Cal.wd (k + 1) = (Cal.wd k + 1) % 7 by unfold Cal.wd; omega)
  have e7 := Lib.hid (show Cal.wd (k + 7) = Cal.wd k by unfold Cal.wd; omega)
  have e4 := Lib.hid (show Cal.wd (k + 146097) = Cal.wd k by unfold Cal.wd; omega)
  have s4 := Lib.hid (Cal.shift400 k k1)
  have pb := Lib.hid (Cal.pdate_bd k k1 (by omega))
  have wb : 0 ≤ Cal.wd k ∧ Cal.wd k ≤ 6 := by unfold Cal.wd; omega
  have P1 := Lib.hid (day_any k k1 (by omega))
  have P4 := Lib.hid (day_any (k + 146097) (by omega) (by omega))
  rw [e4.out, s4.out.1, s4.out.2.1, s4.out.2.2] at P4
  have P2 := Lib.hid (day_any (k + 1) (by omega) (by omega))
  have P3 := Lib.hid (day_any (k + 7) (by omega) (by omega))
  rw [e1.out] at P2
  rw [e7.out] at P3
  obtain ⟨wb1, wb2⟩ := wb
  have PB := pb.out
  clear e1 e7 e4 s4 pb
  generalize Cal.wd k = a at *
  generalize Cal.pY k = y at *
  generalize Cal.pM k = m at *
  generalize Cal.pD k = d at *
  obtain ⟨q1, q2, q3, q4, q5, q6⟩ := PB
  have t1 : (a != (a + 1) % 7) = true := by simp; omega
  refine (P1.out _).mono ?_
  rintro e w1 ⟨rfl, hb1⟩
  go_wp2_with (fail)
  refine (P2.out _).mono ?_
  rintro e w2 ⟨rfl, hb2⟩
  obtain ⟨x2, z2, u2⟩ := newblk hb2
  have X2 := Lib.hid x2
  clear x2
  go_wp2_with (fail)
  refine (P3.out _).mono ?_
  rintro e w3 ⟨rfl, hb3⟩
  have X3 := Lib.hid (keepblk X2.out hb3)
  have u3 := (newblk hb3).2.2
  go_wp2_with (fail)
  refine (P4.out _).mono ?_
  rintro e w4 ⟨rfl, hb4⟩
  have X4 := Lib.hid (keepblk X3.out hb4)
  have u4 := (newblk hb4).2.2
  go_wp2_with (fail)
  refine (known_any _).mono ?_
  rintro e w5 ⟨rfl, hb5⟩
  obtain ⟨x5, z5, u5⟩ := newblk hb5
  obtain ⟨c0, c1, c2, _⟩ := cells3 (keepblk X4.out hb5)
  obtain ⟨d0, d1, d2, _⟩ := cells3 x5
  clear x5 X2 X3 X4 hb2 hb3 hb4 hb5
  go_wp2_with (fail)
  go_ret
  exact ⟨rfl, hb1.trans ((u2.trans ((u3.trans ((u4.trans (u5.mono u4.size)).mono u3.size)).mono u2.size)).mono hb1.size)⟩
end Go.Proofs.Ytaojfkfdfpiejaa
