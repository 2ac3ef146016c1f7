/- Lemmas and walks on the way to the seat's laws; each theorem says its own conditions. -/
import Derived.Test.YtaojfkfdfpiejaaW17
namespace Go.Proofs.Ytaojfkfdfpiejaa
open Go.RowKit
/-- Two boxes of three cells above all that was there: the first one zero, the second one as told. -/
def Two (T : TypeId) (w : World) (a b c : Value) (wr : World) : Prop :=
  wr.heap[w.heap.size]? = some (.cells #[.int .i64 0, .int .i64 0, .int .i64 0] T (0, 0)) ∧ wr.heap[w.heap.size + 1]? = some (.cells #[a, b, c] T (0, 0)) ∧ w.heap.size + 1 < wr.heap.size ∧ Below w.heap.size w wr
theorem Two.start (T : TypeId) (w : World) (a b c : Value) : Two T w a b c ((w.alloc (.cells #[.int .i64 0, .int .i64 0, .int .i64 0] T)).alloc (.cells #[a, b, c] T)) := by
  refine ⟨?_, ?_, by simp, ((Below.refl _ _).alloc (Nat.le_refl _) _).alloc (by simp) _⟩
  · exact (heap_alloc_old _ _ (by simp)).trans (heap_alloc_new w _)
  · have := heap_alloc_new (w.alloc (.cells #[.int .i64 0, .int .i64 0, .int .i64 0] T)) (.cells #[a, b, c] T)
    simpa using this
theorem Two.step {T : TypeId} {w wr w1 : World} {a b c : Value} (h : Two T w a b c wr) (hb : Below wr.heap.size wr w1) : Two T w a b c w1 :=
  ⟨(hb.block _ (Nat.lt_of_succ_lt h.2.2.1)).trans h.1, (hb.block _ h.2.2.1).trans h.2.1, Nat.lt_of_lt_of_le h.2.2.1 hb.size, h.2.2.2.trans (hb.mono h.2.2.2.size)⟩
theorem Two.set {T : TypeId} {w wr : World} {a b c : Value} (h : Two T w a b c wr) (j : Nat) (v : Value) (a' b' c' : Value) (he : #[a, b, c].setIfInBounds j v = #[a', b', c']) : Two T w a' b' c' (wr.setCell ⟨w.heap.size + 1, j, none⟩ v) :=
  ⟨(Below.heap_setCell _ _ _ _ (by simp)).trans h.1, by rw [heap_setCell_same h.2.1 v, he], by simpa [World.setCell] using h.2.2.1, h.2.2.2.setCell (by simp) _⟩
theorem Two.facts {T : TypeId} {w wr : World} {a b c : Value} (h : Two T w a b c wr) :
    wr.cell? ⟨w.heap.size + 1, 0, none⟩ = some a ∧ wr.cell? ⟨w.heap.size + 1, 1, none⟩ = some b ∧ wr.cell? ⟨w.heap.size + 1, 2, none⟩ = some c ∧ (∀ j, wr.frozen? ⟨w.heap.size + 1, j, none⟩ = false) := cells3 h.2.1
theorem three_written {w : World} {b : Nat} {a0 a1 a2 : Value} {T : TypeId} (h : w.heap[b]? = some (.cells #[a0, a1, a2] T (0, 0))) (x0 x1 x2 : Value) :
    (((w.setCell ⟨b, 0, none⟩ x0).setCell ⟨b, 1, none⟩ x1).setCell ⟨b, 2, none⟩ x2).heap[b]? = some (.cells #[x0, x1, x2] T (0, 0)) := by
  have h0 := heap_setCell_same (j := 0) h x0
  have h1 := heap_setCell_same (j := 1) h0 x1
  have h2 := heap_setCell_same (j := 2) h1 x2
  rw [h2]; rfl
set_option maxHeartbeats 1000000 in
theorem rof_yes (n : Int) (h1 : -719528 ≤ n) (h2 : n ≤ 2932896) (w : World) :
    Calls Try.prog 31 #[.int .i64 n] w fun e w' => e = .returned (.tuple #[.agg #[.int .i64 (Cal.pY n), .int .i64 (Cal.pM n), .int .i64 (Cal.pD n)], .bool true]) ∧ Below w.heap.size w w' := by
  have PD := Lib.hid (Cal.pdate_ok n h1 h2)
  have y0 : 0 ≤ (n + 719528) / 146097 := by omega
  have y1 : (n + 719528) / 146097 ≤ 25 := by omega
  have GS : Hid (Cal.dby ((n + 719528) / 146097 * 400) = (n + 719528) / 146097 * 146097) := by show _ = _; unfold Cal.dby; omega
  go_enter Try.func31, Try.ntmps31
  go_wp2_with (fail)
  go_loopw [5] (fun l wr => ∃ y left : Int, 0 ≤ y ∧ y ≤ 9999 ∧ 0 ≤ left ∧ l = .int .i64 left ∧ left = n + 719528 - Cal.dby y ∧ Two 23 w (.int .i64 y) (.int .i64 1) (.int .i64 0) wr) (fun l _ => (intOf l).toNat)
  case atStart =>
    have g := GS.out
    exact ⟨_, _, by omega, by omega, by omega, rfl, by omega, Two.start 23 w _ _ _⟩
  case round =>
    obtain ⟨y, left, hy0, hy9, hl0, rfl, hle, hT⟩ := hrel
    have HL := Lib.hid hle; clear hle
    obtain ⟨c0, c1, c2, hfz⟩ := hT.facts
    have lpb := Cal.lp01 y
    have HS := Lib.hid (Cal.dby_succ y)
    have hd0 := Cal.dby_mono 0 y hy0
    have z0 : Cal.dby 0 ≥ 0 := by decide
    have l9 : left ≤ 3652424 := by have := HL.out; omega
    by_cases hlt : 365 + Cal.lp y ≤ left
    · have hy8 : y + 1 ≤ 9999 := by
        have g1 := HL.out
        have g2 := HS.out
        by_cases e : y = 9999
        · subst e
          have : Cal.dby (9999 + 1) = 3652425 := by decide
          omega
        · omega
      go_wp2_with (go_at_call 38; refine (year_any _ _).mono ?_; rintro e w' ⟨rfl, rfl⟩)
      go_roundw
      case rel =>
        have g1 := HL.out
        have g2 := HS.out
        exact ⟨y + 1, _, by omega, hy8, by omega, rfl, by omega, hT.set 0 _ _ _ _ rfl⟩
      case measure => simp [intOf]; omega
    · have hlt' : left < 365 + Cal.lp y := by omega
      clear hlt
      go_wp2_with (go_at_call 38; refine (year_any _ _).mono ?_; rintro e w' ⟨rfl, rfl⟩)
      obtain ⟨wo, rfl⟩ : ∃ wo : World, wo = wr := ⟨_, rfl⟩
      go_loopw [5] (fun l wr => ∃ m k : Int, 1 ≤ m ∧ m ≤ 12 ∧ 0 ≤ k ∧ l = .int .i64 k ∧ k = n + 719528 - Cal.dby y - Cal.cum y m ∧ Two 23 w (.int .i64 y) (.int .i64 m) (.int .i64 0) wr) (fun l _ => (intOf l).toNat)
      case atStart =>
        have g := HL.out
        exact ⟨1, left, by omega, by omega, by omega, rfl, by simp [Cal.cum]; omega, hT⟩
      case round =>
        obtain ⟨m, k, hm1, hm12, hk0, rfl, hke, hT2⟩ := hrel
        have HK := Lib.hid hke; clear hke
        clear c0 c1 c2 hfz
        obtain ⟨c0, c1, c2, hfz⟩ := hT2.facts
        have db := Cal.dim_cases y m
        have cb := Cal.cum_bd y m
        have k9 : k ≤ 400 := by have := HK.out; have := HL.out; omega
        by_cases hlt : Cal.dim y m ≤ k
        · have hm11 : m + 1 ≤ 12 := by
            have g1 := HK.out
            have g2 := HL.out
            by_cases e : m = 12
            · subst e
              have := Cal.cum12 y
              omega
            · omega
          have HC := Lib.hid (Cal.cum_succ y m hm1 (by omega))
          go_wp2_with (go_at_call 17; refine (rdays_any _ _ _).mono ?_; rintro e w' ⟨rfl, hb⟩; have hTT := Two.step ‹_› hb; obtain ⟨d0, d1, d2, dfz⟩ := hTT.facts)
          go_roundw
          case rel =>
            have g1 := HK.out
            have g2 := HC.out
            exact ⟨m + 1, _, by omega, hm11, by omega, rfl, by omega, hTT.set 1 _ _ _ _ rfl⟩
          case measure => simp [intOf]; omega
        · have hlt' : k < Cal.dim y m := by omega
          clear hlt
          have HP : Hid (y = Cal.pY n ∧ m = Cal.pM n ∧ k + 1 = Cal.pD n) := by
            obtain ⟨p1, p2⟩ := PD.out
            have g := HK.out
            have hr : Cal.rightB y m (k + 1) = true := (Cal.right_iff _ _ _).2 ⟨hy0, hy9, by omega, by omega⟩
            refine Cal.num_inj hr p1 ?_
            rw [p2]; unfold Cal.num; omega
          go_wp2_with (go_at_call 17; refine (rdays_any _ _ _).mono ?_; rintro e w' ⟨rfl, hb⟩; have hTT := Two.step ‹_› hb; obtain ⟨d0, d1, d2, dfz⟩ := hTT.facts; obtain ⟨r0, r1, r2, rfz⟩ := cells3 hTT.1; have rz := hTT.2.2.1)
          obtain ⟨p1, p2, p3⟩ := HP.out
          have hw3 := three_written ((Below.heap_setCell w' ⟨w.heap.size + 1, 2, none⟩ (.int .i64 (k + 1)) w.heap.size (by simp)).trans hTT.1) (.int .i64 y) (.int .i64 m) (.int .i64 (k + 1))
          obtain ⟨z0, z1, z2, _⟩ := cells3 hw3
          refine bodyPost_ret (v := .tuple #[.agg #[.int .i64 (Cal.pY n), .int .i64 (Cal.pM n), .int .i64 (Cal.pD n)], .bool true]) ?_ rfl ⟨rfl, ?_⟩
          · rw [← p1, ← p2, ← p3]
            simp [results, Try.results31, go_sem, z0, z1, z2]
          · have hbb : Below w.heap.size w w' := hTT.2.2.2
            repeat (first | with_reducible exact hbb | with_reducible refine Below.setCell ?_ (by simp) _)
set_option maxHeartbeats 400000 in
theorem rof_no (n : Int) (h : n < -719528 ∨ 2932896 < n) (w : World) :
    Calls Try.prog 31 #[.int .i64 n] w fun e w' => e = .returned (.tuple #[.agg #[.int .i64 0, .int .i64 0, .int .i64 0], .bool false]) ∧ Below w.heap.size w w' := by
  rcases h with h | h
  · go_enter Try.func31, Try.ntmps31
    go_wp2
    refine bodyPost_ret (by simp [results, Try.results31, go_sem]) rfl ⟨rfl, ?_⟩
    repeat (first | exact Below.refl _ _ | refine Below.alloc ?_ (by simp) _ | refine Below.setCell ?_ (by simp) _ | refine below_drewN ?_ _)
  · have h' : ¬ n < -719528 := by omega
    go_enter Try.func31, Try.ntmps31
    go_wp2
    refine bodyPost_ret (by simp [results, Try.results31, go_sem]) rfl ⟨rfl, ?_⟩
    repeat (first | exact Below.refl _ _ | refine Below.alloc ?_ (by simp) _ | refine Below.setCell ?_ (by simp) _ | refine below_drewN ?_ _)
end Go.Proofs.Ytaojfkfdfpiejaa
