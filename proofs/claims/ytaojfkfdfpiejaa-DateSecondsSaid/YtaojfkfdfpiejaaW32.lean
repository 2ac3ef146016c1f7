/- Lemmas and walks on the way to the seat's laws; each theorem says its own conditions. -/
import Derived.Test.YtaojfkfdfpiejaaW31
namespace Go.Proofs.Ytaojfkfdfpiejaa
open Go.RowKit
set_option maxHeartbeats 1000000 in
theorem two_any (n : Int) (h0 : 0 ≤ n) (h1 : n ≤ 9999) (w : World) :
    Calls Try.prog 37 #[.int .i64 n] w fun e w' => e = .returned (.string ⟨(Cal.digs n 2).toArray⟩) ∧ Below w.heap.size w w' := by
  have hc := run_convert_bytes_back (P := Try.prog) (w.alloc (.cells #[.int .u8 (48 + n / 10 % 10), .int .u8 (48 + n % 10)] 5)) 72 9 5 ⟨w.heap.size, 0, none⟩ 2 (Cal.digs n 2) Try.underlying72 Try.underlying5 Try.underlying9 (by
    intro j hj
    have hj2 : j < 2 := by simpa [Cal.digs] using hj
    match j, hj2 with
    | 0, _ => simp [Cal.digs, Addr.add, Cal.digb_nat]
    | 1, _ => simp [Cal.digs, Addr.add, Cal.digb_nat])
  have hl : (Cal.digs n 2).length = 2 := by simp [Cal.digs]
  rw [hl] at hc
  have HC := Lib.hid hc
  clear hc hl
  go_enter Try.func37, Try.ntmps37
  go_wp2_with (fail)
  rw [HC.out]
  go_wp2_with (fail)
  go_ret
  exact ⟨rfl, (Below.refl _ _).alloc (Nat.le_refl _) _⟩
theorem digb_mod (n : Int) : Cal.digb (n % 10) = Cal.digb n := by unfold Cal.digb; rw [Int.emod_emod_of_dvd _ (by decide)]
theorem digb_eq {a b : Int} (h : a % 10 = b % 10) : Cal.digb a = Cal.digb b := by unfold Cal.digb; rw [h]
theorem four_eq (n : Int) : Cal.digs (n / 100) 2 ++ Cal.digs (n % 100) 2 = Cal.digs n 4 := by
  simp only [Cal.digs]
  simp
  refine ⟨digb_eq (by omega), digb_eq (by omega), digb_eq (by omega), digb_eq (by omega)⟩
theorem ba_append (a b : List UInt8) : (⟨a.toArray⟩ : ByteArray) ++ ⟨b.toArray⟩ = ⟨(a ++ b).toArray⟩ := by
  apply ByteArray.ext
  simp
theorem ret_str {a b : ByteArray} (h : a = b) : Ending.returned (.string a) = .returned (.string b) := by rw [h]
set_option maxHeartbeats 1000000 in
theorem four_any (n : Int) (h0 : 0 ≤ n) (h1 : n ≤ 9999) (w : World) :
    Calls Try.prog 36 #[.int .i64 n] w fun e w' => e = .returned (.string ⟨(Cal.digs n 4).toArray⟩) ∧ Below w.heap.size w w' := by
  go_enter Try.func36, Try.ntmps36
  go_wp2_with (fail)
  refine (two_any _ (by omega) (by omega) _).mono ?_
  rintro e w1 ⟨rfl, hb1⟩
  go_wp2_with (fail)
  refine (two_any _ (by omega) (by omega) _).mono ?_
  rintro e w2 ⟨rfl, hb2⟩
  go_wp2_with (fail)
  go_ret
  refine ⟨ret_str ?_, hb1.trans (hb2.mono hb1.size)⟩
  rw [← four_eq n]
  exact ba_append _ _
set_option maxHeartbeats 1000000 in
theorem rat_yes (s : Int) (h1 : -62167219200 ≤ s) (h2 : s ≤ 253402300799) (w : World) :
    Calls Try.prog 28 #[.int .i64 s] w fun e w' => e = .returned (.tuple #[atV s, .bool true]) ∧ Below w.heap.size w w' := by
  have P := Lib.hid (rof_yes (s / 86400) (by omega) (by omega))
  have k1 := Lib.hid (show (s + 62167219200) / 86400 - 719528 = s / 86400 by omega)
  have k2 := Lib.hid (show (s + 62167219200) % 86400 = s % 86400 by omega)
  go_enter Try.func28, Try.ntmps28
  go_wp2_with (fail)
  rw [k1.out]
  refine (P.out _).mono ?_
  rintro e w1 ⟨rfl, hb⟩
  obtain ⟨hn, hz, hb'⟩ := newblk hb
  obtain ⟨c0, c1, c2, c3, c4, c5, hfz⟩ := cells6 hn
  have HN := Lib.hid hn
  clear hn hb
  have hb0 : 0 ≤ s + 62167219200 := by omega
  go_upto_region 6 with (fail)
  rw [k2.out]
  have r0 : 0 ≤ s % 86400 := by omega
  have r1 : s % 86400 < 86400 := by omega
  go_wp2_with (fail)
  refine bodyPost_ret (v := .tuple #[atV s, .bool true]) ?_ rfl ⟨rfl, ?_⟩
  · obtain ⟨z0, z1, z2, z3, z4, z5, _⟩ := cells6 (six_written HN.out (.int .i64 (Cal.pY (s / 86400))) (.int .i64 (Cal.pM (s / 86400))) (.int .i64 (Cal.pD (s / 86400))) (.int .i64 (s % 86400 / 3600)) (.int .i64 (s % 3600 / 60)) (.int .i64 (s % 60)) (Obj.cells #[.int .i64 (Cal.pY (s / 86400)), .int .i64 (Cal.pM (s / 86400)), .int .i64 (Cal.pD (s / 86400))] 23))
    simp only [atV, clockV]
    simp [results, Try.results28, go_sem, z0, z1, z2, z3, z4, z5]
    omega
  · repeat (first | with_reducible exact hb' | with_reducible refine Below.alloc ?_ (by first | omega | (simp; omega)) _ | with_reducible refine Below.setCell ?_ (by simp) _)
set_option maxHeartbeats 400000 in
theorem rat_no (s : Int) (h : s < -62167219200 ∨ 253402300799 < s) (w : World) :
    Calls Try.prog 28 #[.int .i64 s] w fun e w' => e = .returned (.tuple #[clockV 0 0 0 0 0 0, .bool false]) ∧ Below w.heap.size w w' := by
  rcases h with h | h
  · go_enter Try.func28, Try.ntmps28
    go_wp2
    refine bodyPost_ret (by simp [results, Try.results28, go_sem]; exact (clockV_def _ _ _ _ _ _).symm) rfl ⟨rfl, ?_⟩
    repeat (first | exact Below.refl _ _ | refine Below.alloc ?_ (by simp) _ | refine Below.setCell ?_ (by simp) _ | refine below_drewN ?_ _)
  · have h' : ¬ s < -62167219200 := by omega
    go_enter Try.func28, Try.ntmps28
    go_wp2
    refine bodyPost_ret (by simp [results, Try.results28, go_sem]; exact (clockV_def _ _ _ _ _ _).symm) rfl ⟨rfl, ?_⟩
    repeat (first | exact Below.refl _ _ | refine Below.alloc ?_ (by simp) _ | refine Below.setCell ?_ (by simp) _ | refine below_drewN ?_ _)
/-- A number's digits as a string. -/
def strD (n : Int) (k : Nat) : ByteArray := ⟨(Cal.digs n k).toArray⟩
theorem strD_def (n : Int) (k : Nat) : strD n k = ⟨(Cal.digs n k).toArray⟩ := rfl
theorem strD_size2 (n : Int) : (strD n 2).size = 2 := by simp [strD, Cal.digs, ByteArray.size]
theorem strD_size4 (n : Int) : (strD n 4).size = 4 := by simp [strD, Cal.digs, ByteArray.size]
theorem two_str (n : Int) (h0 : 0 ≤ n) (h1 : n ≤ 9999) (w : World) :
    Calls Try.prog 37 #[.int .i64 n] w fun e w' => e = .returned (.string (strD n 2)) ∧ Below w.heap.size w w' := two_any n h0 h1 w
theorem four_str (n : Int) (h0 : 0 ≤ n) (h1 : n ≤ 9999) (w : World) :
    Calls Try.prog 36 #[.int .i64 n] w fun e w' => e = .returned (.string (strD n 4)) ∧ Below w.heap.size w w' := four_any n h0 h1 w
/-- The text of the document's moment. -/
def textS (y m d h mi s : Int) : ByteArray := ⟨(Cal.allText (Cal.textPieces y m d h mi s)).toArray⟩
theorem textS_eq (y m d h mi s : Int) : strD y 4 ++ ⟨#[45]⟩ ++ strD m 2 ++ ⟨#[45]⟩ ++ strD d 2 ++ ⟨#[84]⟩ ++ strD h 2 ++ ⟨#[58]⟩ ++ strD mi 2 ++ ⟨#[58]⟩ ++ strD s 2 ++ ⟨#[90]⟩ = textS y m d h mi s := by
  apply ByteArray.ext
  simp [strD, textS, Cal.allText, Cal.textPieces, Cal.pieceText, Cal.digs]
set_option maxHeartbeats 2000000 in
theorem rtext_any (y m d h mi s : Int) (b0 : 0 ≤ y ∧ y ≤ 9999) (b1 : 0 ≤ m ∧ m ≤ 9999) (b2 : 0 ≤ d ∧ d ≤ 9999) (b3 : 0 ≤ h ∧ h ≤ 9999) (b4 : 0 ≤ mi ∧ mi ≤ 9999) (b5 : 0 ≤ s ∧ s ≤ 9999) (w : World) :
    Calls Try.prog 30 #[.agg #[.int .i64 y, .int .i64 m, .int .i64 d, .int .i64 h, .int .i64 mi, .int .i64 s]] w fun e w' => e = .returned (.string (textS y m d h mi s)) ∧ Below w.heap.size w w' := by
  have B0 := Box6.start w 41 (.int .i64 y) (.int .i64 m) (.int .i64 d) (.int .i64 h) (.int .i64 mi) (.int .i64 s)
  have HT := Lib.hid (textS_eq y m d h mi s)
  have s0 := strD_size4 y
  have s1 := strD_size2 m
  have s2 := strD_size2 d
  have s3 := strD_size2 h
  have s4 := strD_size2 mi
  have s5 := strD_size2 s
  go_enter Try.func30, Try.ntmps30
  go_wp2_with (fail)
  (first | go_region_held3 (fun w' => w'.cell? ⟨w.heap.size, 0, none⟩ = some (.int .i64 y) ∧ w'.cell? ⟨w.heap.size, 1, none⟩ = some (.int .i64 m) ∧ w'.cell? ⟨w.heap.size, 2, none⟩ = some (.int .i64 d) ∧ w'.cell? ⟨w.heap.size, 3, none⟩ = some (.int .i64 h) ∧ w'.cell? ⟨w.heap.size, 4, none⟩ = some (.int .i64 mi) ∧ w'.cell? ⟨w.heap.size, 5, none⟩ = some (.int .i64 s) ∧ w.heap.size < w'.heap.size ∧ Below w.heap.size w w') (first | with_reducible exact Box6.drew B0 | with_reducible exact Box6.step ‹_› hb) (first | (go_at_call 36; refine (four_str _ b0.1 b0.2 _).mono ?_; rintro e w1 ⟨rfl, hb⟩) | (go_at_call_of 37 (Value.int .i64 m); refine (two_str _ b1.1 b1.2 _).mono ?_; rintro e w1 ⟨rfl, hb⟩) | (go_at_call_of 37 (Value.int .i64 d); refine (two_str _ b2.1 b2.2 _).mono ?_; rintro e w1 ⟨rfl, hb⟩) | (go_at_call_of 37 (Value.int .i64 h); refine (two_str _ b3.1 b3.2 _).mono ?_; rintro e w1 ⟨rfl, hb⟩) | (go_at_call_of 37 (Value.int .i64 mi); refine (two_str _ b4.1 b4.2 _).mono ?_; rintro e w1 ⟨rfl, hb⟩) | (go_at_call_of 37 (Value.int .i64 s); refine (two_str _ b5.1 b5.2 _).mono ?_; rintro e w1 ⟨rfl, hb⟩)) | fail)
  rename_i hh
  go_wp2_with (fail)
  go_ret
  exact ⟨ret_str HT.out, Box6.below hh⟩
end Go.Proofs.Ytaojfkfdfpiejaa
