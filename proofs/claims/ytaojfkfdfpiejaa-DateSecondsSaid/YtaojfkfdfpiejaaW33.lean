/- Lemmas and walks on the way to the seat's laws; each theorem says its own conditions. -/
import Derived.Test.YtaojfkfdfpiejaaW32
namespace Cal
theorem at_clock (s : Int) (h1 : -62167219200 ≤ s) (h2 : s ≤ 253402300799) : clockB (pY (s / 86400)) (pM (s / 86400)) (pD (s / 86400)) (s % 86400 / 3600) (s % 86400 / 60 % 60) (s % 60) = true ∧ sec (pY (s / 86400)) (pM (s / 86400)) (pD (s / 86400)) (s % 86400 / 3600) (s % 86400 / 60 % 60) (s % 60) = s := by
  obtain ⟨r, n⟩ := pdate_ok (s / 86400) (by omega) (by omega)
  refine ⟨(clock_iff _ _ _ _ _ _).2 ⟨r, by omega, by omega, by omega, by omega, by omega, by omega⟩, ?_⟩
  unfold sec; rw [n]; omega
end Cal
namespace Go.Proofs.Ytaojfkfdfpiejaa
open Go.RowKit
theorem twelve_step {B : Nat} {w w' w1 : World} {p q : Nat} {a0 a1 a2 a3 a4 a5 b0 b1 b2 b3 b4 b5 : Value} (h : w'.cell? ⟨p, 0, none⟩ = some a0 ∧ w'.cell? ⟨p, 1, none⟩ = some a1 ∧ w'.cell? ⟨p, 2, none⟩ = some a2 ∧ w'.cell? ⟨p, 3, none⟩ = some a3 ∧ w'.cell? ⟨p, 4, none⟩ = some a4 ∧ w'.cell? ⟨p, 5, none⟩ = some a5 ∧ w'.cell? ⟨q, 0, none⟩ = some b0 ∧ w'.cell? ⟨q, 1, none⟩ = some b1 ∧ w'.cell? ⟨q, 2, none⟩ = some b2 ∧ w'.cell? ⟨q, 3, none⟩ = some b3 ∧ w'.cell? ⟨q, 4, none⟩ = some b4 ∧ w'.cell? ⟨q, 5, none⟩ = some b5 ∧ p < w'.heap.size ∧ q < w'.heap.size ∧ B ≤ w'.heap.size ∧ Below B w w') (hb : Below w'.heap.size w' w1) : w1.cell? ⟨p, 0, none⟩ = some a0 ∧ w1.cell? ⟨p, 1, none⟩ = some a1 ∧ w1.cell? ⟨p, 2, none⟩ = some a2 ∧ w1.cell? ⟨p, 3, none⟩ = some a3 ∧ w1.cell? ⟨p, 4, none⟩ = some a4 ∧ w1.cell? ⟨p, 5, none⟩ = some a5 ∧ w1.cell? ⟨q, 0, none⟩ = some b0 ∧ w1.cell? ⟨q, 1, none⟩ = some b1 ∧ w1.cell? ⟨q, 2, none⟩ = some b2 ∧ w1.cell? ⟨q, 3, none⟩ = some b3 ∧ w1.cell? ⟨q, 4, none⟩ = some b4 ∧ w1.cell? ⟨q, 5, none⟩ = some b5 ∧ p < w1.heap.size ∧ q < w1.heap.size ∧ B ≤ w1.heap.size ∧ Below B w w1 := by
  obtain ⟨h0, h1, h2, h3, h4, h5, g0, g1, g2, g3, g4, g5, hp, hq, hB, hw⟩ := h
  exact ⟨(hb.cell (p := ⟨p, 0, none⟩) hp).trans h0, (hb.cell (p := ⟨p, 1, none⟩) hp).trans h1, (hb.cell (p := ⟨p, 2, none⟩) hp).trans h2, (hb.cell (p := ⟨p, 3, none⟩) hp).trans h3, (hb.cell (p := ⟨p, 4, none⟩) hp).trans h4, (hb.cell (p := ⟨p, 5, none⟩) hp).trans h5, (hb.cell (p := ⟨q, 0, none⟩) hq).trans g0, (hb.cell (p := ⟨q, 1, none⟩) hq).trans g1, (hb.cell (p := ⟨q, 2, none⟩) hq).trans g2, (hb.cell (p := ⟨q, 3, none⟩) hq).trans g3, (hb.cell (p := ⟨q, 4, none⟩) hq).trans g4, (hb.cell (p := ⟨q, 5, none⟩) hq).trans g5, Nat.lt_of_lt_of_le hp hb.size, Nat.lt_of_lt_of_le hq hb.size, Nat.le_trans hB hb.size, hw.trans (hb.mono hB)⟩
theorem twelve_start {B : Nat} {w w' : World} {p q : Nat} {a0 a1 a2 a3 a4 a5 b0 b1 b2 b3 b4 b5 : Value} {T U : TypeId} (hp : w'.heap[p]? = some (.cells #[a0, a1, a2, a3, a4, a5] T (0, 0))) (hq : w'.heap[q]? = some (.cells #[b0, b1, b2, b3, b4, b5] U (0, 0))) (hB : B ≤ w'.heap.size) (hw : Below B w w') : w'.drew.cell? ⟨p, 0, none⟩ = some a0 ∧ w'.drew.cell? ⟨p, 1, none⟩ = some a1 ∧ w'.drew.cell? ⟨p, 2, none⟩ = some a2 ∧ w'.drew.cell? ⟨p, 3, none⟩ = some a3 ∧ w'.drew.cell? ⟨p, 4, none⟩ = some a4 ∧ w'.drew.cell? ⟨p, 5, none⟩ = some a5 ∧ w'.drew.cell? ⟨q, 0, none⟩ = some b0 ∧ w'.drew.cell? ⟨q, 1, none⟩ = some b1 ∧ w'.drew.cell? ⟨q, 2, none⟩ = some b2 ∧ w'.drew.cell? ⟨q, 3, none⟩ = some b3 ∧ w'.drew.cell? ⟨q, 4, none⟩ = some b4 ∧ w'.drew.cell? ⟨q, 5, none⟩ = some b5 ∧ p < w'.drew.heap.size ∧ q < w'.drew.heap.size ∧ B ≤ w'.drew.heap.size ∧ Below B w w'.drew := by
  obtain ⟨h0, h1, h2, h3, h4, h5, _⟩ := cells6 hp
  obtain ⟨g0, g1, g2, g3, g4, g5, _⟩ := cells6 hq
  exact ⟨h0, h1, h2, h3, h4, h5, g0, g1, g2, g3, g4, g5, (Array.getElem?_eq_some_iff.1 hp).1, (Array.getElem?_eq_some_iff.1 hq).1, hB, hw.drew⟩
theorem keepblk' {w w' : World} {o ob : Obj} {b : Nat} (h : w.heap[b]? = some ob) (hb : Below (w.alloc o).heap.size (w.alloc o) w') : w'.heap[b]? = some ob := by
  have hlt : b < w.heap.size := (Array.getElem?_eq_some_iff.1 h).1
  exact (hb.block _ (by simp; omega)).trans ((heap_alloc_old _ _ hlt).trans h)
set_option maxRecDepth 100000 in
set_option maxHeartbeats 8000000 in
theorem dsec_yy (y m d h mi s t : Int) (hc : Cal.clockB y m d h mi s = true) (h1 : -62167219200 ≤ t) (h2 : t ≤ 253402300799) (w : World) :
    Calls Try.prog 5 #[.agg #[.int .i64 y, .int .i64 m, .int .i64 d, .int .i64 h, .int .i64 mi, .int .i64 s], .int .i64 t] w fun e w' => e = .returned (.bool true) ∧ Below w.heap.size w w' := by
  have B0 := Box6.start w 41 (.int .i64 y) (.int .i64 m) (.int .i64 d) (.int .i64 h) (.int .i64 mi) (.int .i64 s)
  have HC := Lib.hid hc
  clear hc
  obtain ⟨k1, k2⟩ := Cal.at_clock t h1 h2
  have KC := Lib.hid k1
  have KS := Lib.hid k2
  have PB := Cal.pdate_bd (t / 86400) (by omega) (by omega)
  have bb3 : 0 ≤ t % 86400 / 3600 ∧ t % 86400 / 3600 ≤ 9999 := by omega
  have bb4 : 0 ≤ t % 86400 / 60 % 60 ∧ t % 86400 / 60 % 60 ≤ 9999 := by omega
  have bb5 : 0 ≤ t % 60 ∧ t % 60 ≤ 9999 := by omega
  have bb0 : 0 ≤ Cal.pY (t / 86400) ∧ Cal.pY (t / 86400) ≤ 9999 := by omega
  have bb1 : 0 ≤ Cal.pM (t / 86400) ∧ Cal.pM (t / 86400) ≤ 9999 := by omega
  have bb2 : 0 ≤ Cal.pD (t / 86400) ∧ Cal.pD (t / 86400) ≤ 9999 := by omega
  have P26 := Lib.hid (at_yes t h1 h2)
  have P28 := Lib.hid (rat_yes t h1 h2)
  have HT : Hid ((⟨(Cal.textOf t).toArray⟩ : ByteArray) = textS (Cal.pY (t / 86400)) (Cal.pM (t / 86400)) (Cal.pD (t / 86400)) (t % 86400 / 3600) (t % 86400 / 60 % 60) (t % 60)) := rfl
  have HA : Hid (atV t = .agg #[.int .i64 (Cal.pY (t / 86400)), .int .i64 (Cal.pM (t / 86400)), .int .i64 (Cal.pD (t / 86400)), .int .i64 (t % 86400 / 3600), .int .i64 (t % 86400 / 60 % 60), .int .i64 (t % 60)]) := rfl
  clear k1 k2 PB
  generalize Cal.pY (t / 86400) = a0 at *
  generalize Cal.pM (t / 86400) = a1 at *
  generalize Cal.pD (t / 86400) = a2 at *
  generalize t % 86400 / 3600 = a3 at *
  generalize t % 86400 / 60 % 60 = a4 at *
  generalize t % 60 = a5 at *
  go_enter Try.func5, Try.ntmps5
  go_wp2_with (first | (go_at_call 22; refine (clock_any _ _ _ _ _ _ _).mono ?_; rintro e w1 ⟨rfl, hb⟩; have B1 := Box6.step ‹_› hb; obtain ⟨c0, c1, c2, c3, c4, c5, cz, cb⟩ := id B1) | (go_at_call 23; refine (rrclock_any _ _ _ _ _ _ _).mono ?_; rintro e w1 ⟨rfl, hb⟩; rw [HC.out]; have B1 := Box6.step ‹_› hb; obtain ⟨c0, c1, c2, c3, c4, c5, cz, cb⟩ := id B1) | (go_at_call 24; refine (rclock_any _ _ _ _ _ _ _).mono ?_; rintro e w1 ⟨rfl, hb⟩; rw [HC.out]; have B1 := Box6.step ‹_› hb; obtain ⟨c0, c1, c2, c3, c4, c5, cz, cb⟩ := id B1) | (go_at_call 11; refine (known_any _).mono ?_; rintro e w1 ⟨rfl, hb⟩; have B1 := Box6.step ‹_› hb; obtain ⟨c0, c1, c2, c3, c4, c5, cz, cb⟩ := id B1) | (go_at_call 21; refine (second_yes _ _ _ _ _ _ HC.out _).mono ?_; rintro e w1 ⟨rfl, hb⟩; have B1 := Box6.step ‹_› hb; obtain ⟨c0, c1, c2, c3, c4, c5, cz, cb⟩ := id B1) | (go_at_call 25; refine (rsecond_any _ _ _ _ _ _ HC.out _).mono ?_; rintro e w1 ⟨rfl, hb⟩; have B1 := Box6.step ‹_› hb; obtain ⟨c0, c1, c2, c3, c4, c5, cz, cb⟩ := id B1))
  refine (P26.out _).mono ?_
  rintro e wx ⟨rfl, hbx⟩
  rw [HA.out]
  have U1 := Below.trans cb (hbx.mono (Nat.le_of_lt (Nat.lt_of_le_of_lt (Nat.le_refl _) cz)))
  have Z1 : w.heap.size ≤ wx.heap.size := Nat.le_trans (Nat.le_of_lt cz) hbx.size
  clear B0 B1 c0 c1 c2 c3 c4 c5 cz cb hbx
  go_wp2_with (fail)
  refine (text_yes t h1 h2 _).mono ?_
  rintro e wy ⟨rfl, hby⟩
  rw [HT.out]
  obtain ⟨xx, zx, ux⟩ := newblk hby
  have X2 := Lib.hid xx
  clear xx hby
  go_wp2_with (fail)
  refine (P28.out _).mono ?_
  rintro e wz ⟨rfl, hbz⟩
  rw [HA.out]
  have X3 := Lib.hid ((hbz.block _ zx).trans X2.out)
  have zz : wx.heap.size < wz.heap.size := Nat.lt_of_lt_of_le zx hbz.size
  have U3 := U1.trans ((ux.trans (hbz.mono ux.size)).mono Z1)
  obtain ⟨x0, x1, x2, x3, x4, x5, _⟩ := cells6 X3.out
  clear X2
  go_wp2_with (fail)
  refine (second_yes _ _ _ _ _ _ KC.out _).mono ?_
  rintro e wq ⟨rfl, hbq⟩
  rw [KS.out]
  obtain ⟨yy, zq, uq⟩ := newblk hbq
  have Y5 := Lib.hid yy
  have X5 := Lib.hid (keepblk' X3.out hbq)
  have z5 : w.heap.size ≤ wq.heap.size := by have := uq.size; omega
  have u5 := U3.trans (uq.mono (by omega))
  clear yy hbq x0 x1 x2 x3 x4 x5 X3
  go_wp2_with (fail)
  refine wp_region_held_drew (S := (fun w' => w'.cell? ⟨wx.heap.size, 0, none⟩ = some (.int .i64 a0) ∧ w'.cell? ⟨wx.heap.size, 1, none⟩ = some (.int .i64 a1) ∧ w'.cell? ⟨wx.heap.size, 2, none⟩ = some (.int .i64 a2) ∧ w'.cell? ⟨wx.heap.size, 3, none⟩ = some (.int .i64 a3) ∧ w'.cell? ⟨wx.heap.size, 4, none⟩ = some (.int .i64 a4) ∧ w'.cell? ⟨wx.heap.size, 5, none⟩ = some (.int .i64 a5) ∧ w'.cell? ⟨wz.heap.size, 0, none⟩ = some (.int .i64 a0) ∧ w'.cell? ⟨wz.heap.size, 1, none⟩ = some (.int .i64 a1) ∧ w'.cell? ⟨wz.heap.size, 2, none⟩ = some (.int .i64 a2) ∧ w'.cell? ⟨wz.heap.size, 3, none⟩ = some (.int .i64 a3) ∧ w'.cell? ⟨wz.heap.size, 4, none⟩ = some (.int .i64 a4) ∧ w'.cell? ⟨wz.heap.size, 5, none⟩ = some (.int .i64 a5) ∧ wx.heap.size < w'.heap.size ∧ wz.heap.size < w'.heap.size ∧ w.heap.size ≤ w'.heap.size ∧ Below w.heap.size w w')) (by kernel_rfl) ?_ (fun hH0 => ?_)
  · exact twelve_start (T := 44) (U := 41) X5.out Y5.out z5 u5
  first | (refine wpAnyH_take (i := 0) (oi := { dst := some 96, op := Op.move (Operand.tmp 9), type := 24, pos := _, after := _, guard := none }) (v := ?_) rfl (by kernel_rfl) (by kernel_rfl) (by kernel_rfl) (fun _ _ _ h => h) (Or.inl ⟨by rfl, ?_⟩) hH0 ?_; rotate_left; (((intro w hSw; (try dsimp only at hSw); go_simp); try with_reducible rfl))) | fail
  try simp only [Act.put, List.setIfInBounds_toArray, List.set_cons_zero, List.set_cons_succ]
  first | (refine wpAnyH_take (i := 1) (oi := { dst := some 97, op := Op.binOp BinOp.eql 24 (Operand.tmp 96) (Operand.const (Value.int IntKind.i64 0)) 24, type := 4, pos := _, after := _, guard := none }) (v := ?_) rfl (by kernel_rfl) (by kernel_rfl) (by kernel_rfl) (fun _ _ _ h => h) (Or.inl ⟨by rfl, ?_⟩) hH0 ?_; rotate_left; (((intro w hSw; (try dsimp only at hSw); go_simp); try with_reducible rfl))) | fail
  try simp only [Act.put, List.setIfInBounds_toArray, List.set_cons_zero, List.set_cons_succ]
  first | (refine wpAnyH_take (i := 2) (oi := { dst := some 98, op := Op.move (Operand.tmp 97), type := 4, pos := _, after := _, guard := none }) (v := ?_) rfl (by kernel_rfl) (by kernel_rfl) (by kernel_rfl) (fun _ _ _ h => h) (Or.inl ⟨by rfl, ?_⟩) hH0 ?_; rotate_left; (((intro w hSw; (try dsimp only at hSw); go_simp); try with_reducible rfl))) | fail
  try simp only [Act.put, List.setIfInBounds_toArray, List.set_cons_zero, List.set_cons_succ]
  first | (refine wpAnyH_take (i := 3) (oi := { dst := some 99, op := Op.load 44 (Operand.tmp 8), type := 44, pos := _, after := _, guard := some (2, true) }) (v := undef) rfl (by kernel_rfl) (by kernel_rfl) (by kernel_rfl) (fun _ _ _ h => h) (Or.inr ⟨by rfl, rfl⟩) hH0 ?_) | (refine wpAnyH_take (i := 3) (oi := { dst := some 99, op := Op.load 44 (Operand.tmp 8), type := 44, pos := _, after := _, guard := some (2, true) }) (v := ?_) rfl (by kernel_rfl) (by kernel_rfl) (by kernel_rfl) (fun _ _ _ h => h) (Or.inl ⟨by rfl, ?_⟩) hH0 ?_; rotate_left; (((intro w hSw; (try dsimp only at hSw); go_simp); try with_reducible rfl))) | fail
  try simp only [Act.put, List.setIfInBounds_toArray, List.set_cons_zero, List.set_cons_succ]
  first | (refine wpAnyH_take (i := 5) (oi := { dst := some 101, op := Op.load 41 (Operand.tmp 12), type := 41, pos := _, after := _, guard := some (2, true) }) (v := undef) rfl (by kernel_rfl) (by kernel_rfl) (by kernel_rfl) (fun _ _ _ h => h) (Or.inr ⟨by rfl, rfl⟩) hH0 ?_) | (refine wpAnyH_take (i := 5) (oi := { dst := some 101, op := Op.load 41 (Operand.tmp 12), type := 41, pos := _, after := _, guard := some (2, true) }) (v := ?_) rfl (by kernel_rfl) (by kernel_rfl) (by kernel_rfl) (fun _ _ _ h => h) (Or.inl ⟨by rfl, ?_⟩) hH0 ?_; rotate_left; (((intro w hSw; (try dsimp only at hSw); go_simp); try with_reducible rfl))) | fail
  try simp only [Act.put, List.setIfInBounds_toArray, List.set_cons_zero, List.set_cons_succ]
  first | ((refine wpAnyH_take (i := 4) (oi := { dst := some 100, op := Op.call { callee := Callee.value (Operand.func 29), args := #[Operand.tmp 99], argTypes := #[44] }, type := 41, pos := _, after := _, guard := some (2, true) }) (v := undef) rfl (by kernel_rfl) (by kernel_rfl) (by kernel_rfl) (fun _ _ _ h => h) (Or.inr ⟨by rfl, rfl⟩) hH0 ?_); (have hH1 := hH0); clear hH0) | (refine wpAnyH_ready (rs := [4]) (by kernel_rfl) (by simp) ?_; refine AllReadyH.cons (o := { dst := some 100, op := Op.call { callee := Callee.value (Operand.func 29), args := #[Operand.tmp 99], argTypes := #[44] }, type := 41, pos := _, after := _, guard := some (2, true) }) rfl (fun K hK => ?_) AllReadyH.nil; go_simp; (try (first | (go_at_call 29; refine (ofc_any _ _ _ _ _ _ _).mono ?_; rintro e w' ⟨rfl, hb⟩) | (go_at_call 30; refine (rtext_any _ _ _ _ _ _ bb0 bb1 bb2 bb3 bb4 bb5 _).mono ?_; rintro e w' ⟨rfl, hb⟩))); (try go_wp2_with fail); refine hK.out _ _ (by first | exact twelve_step hH0 hb | exact hH0) (fun hH1 => ?_); clear hK K hH0) | fail
  try simp only [Act.put, List.setIfInBounds_toArray, List.set_cons_zero, List.set_cons_succ]
  first | (refine wpAnyH_take (i := 6) (oi := { dst := some 102, op := Op.binOp BinOp.eql 41 (Operand.tmp 100) (Operand.tmp 101) 41, type := 4, pos := _, after := _, guard := some (2, true) }) (v := undef) rfl (by kernel_rfl) (by kernel_rfl) (by kernel_rfl) (fun _ _ _ h => h) (Or.inr ⟨by rfl, rfl⟩) hH1 ?_) | (refine wpAnyH_take (i := 6) (oi := { dst := some 102, op := Op.binOp BinOp.eql 41 (Operand.tmp 100) (Operand.tmp 101) 41, type := 4, pos := _, after := _, guard := some (2, true) }) (v := ?_) rfl (by kernel_rfl) (by kernel_rfl) (by kernel_rfl) (fun _ _ _ h => h) (Or.inl ⟨by rfl, ?_⟩) hH1 ?_; rotate_left; (((intro w hSw; (try dsimp only at hSw); go_simp); try with_reducible rfl))) | fail
  try simp only [Act.put, List.setIfInBounds_toArray, List.set_cons_zero, List.set_cons_succ]
  first | (refine wpAnyH_take (i := 7) (oi := { dst := some 103, op := Op.pick (Operand.tmp 98) (Operand.tmp 102) (Operand.const (Value.bool false)), type := 4, pos := _, after := _, guard := none }) (v := ?_) rfl (by kernel_rfl) (by kernel_rfl) (by kernel_rfl) (fun _ _ _ h => h) (Or.inl ⟨by rfl, ?_⟩) hH1 ?_; rotate_left; (((intro w hSw; (try dsimp only at hSw); go_simp); try with_reducible rfl))) | fail
  try simp only [Act.put, List.setIfInBounds_toArray, List.set_cons_zero, List.set_cons_succ]
  first | (refine wpAnyH_take (i := 8) (oi := { dst := some 104, op := Op.move (Operand.tmp 103), type := 4, pos := _, after := _, guard := none }) (v := ?_) rfl (by kernel_rfl) (by kernel_rfl) (by kernel_rfl) (fun _ _ _ h => h) (Or.inl ⟨by rfl, ?_⟩) hH1 ?_; rotate_left; (((intro w hSw; (try dsimp only at hSw); go_simp); try with_reducible rfl))) | fail
  try simp only [Act.put, List.setIfInBounds_toArray, List.set_cons_zero, List.set_cons_succ]
  first | (refine wpAnyH_take (i := 9) (oi := { dst := some 105, op := Op.move (Operand.tmp 11), type := 24, pos := _, after := _, guard := some (8, true) }) (v := undef) rfl (by kernel_rfl) (by kernel_rfl) (by kernel_rfl) (fun _ _ _ h => h) (Or.inr ⟨by rfl, rfl⟩) hH1 ?_) | (refine wpAnyH_take (i := 9) (oi := { dst := some 105, op := Op.move (Operand.tmp 11), type := 24, pos := _, after := _, guard := some (8, true) }) (v := ?_) rfl (by kernel_rfl) (by kernel_rfl) (by kernel_rfl) (fun _ _ _ h => h) (Or.inl ⟨by rfl, ?_⟩) hH1 ?_; rotate_left; (((intro w hSw; (try dsimp only at hSw); go_simp); try with_reducible rfl))) | fail
  try simp only [Act.put, List.setIfInBounds_toArray, List.set_cons_zero, List.set_cons_succ]
  first | (refine wpAnyH_take (i := 10) (oi := { dst := some 106, op := Op.binOp BinOp.eql 24 (Operand.tmp 105) (Operand.const (Value.int IntKind.i64 0)) 24, type := 4, pos := _, after := _, guard := some (8, true) }) (v := undef) rfl (by kernel_rfl) (by kernel_rfl) (by kernel_rfl) (fun _ _ _ h => h) (Or.inr ⟨by rfl, rfl⟩) hH1 ?_) | (refine wpAnyH_take (i := 10) (oi := { dst := some 106, op := Op.binOp BinOp.eql 24 (Operand.tmp 105) (Operand.const (Value.int IntKind.i64 0)) 24, type := 4, pos := _, after := _, guard := some (8, true) }) (v := ?_) rfl (by kernel_rfl) (by kernel_rfl) (by kernel_rfl) (fun _ _ _ h => h) (Or.inl ⟨by rfl, ?_⟩) hH1 ?_; rotate_left; (((intro w hSw; (try dsimp only at hSw); go_simp); try with_reducible rfl))) | fail
  try simp only [Act.put, List.setIfInBounds_toArray, List.set_cons_zero, List.set_cons_succ]
  first | (refine wpAnyH_take (i := 11) (oi := { dst := some 107, op := Op.pick (Operand.tmp 104) (Operand.tmp 106) (Operand.const (Value.bool false)), type := 4, pos := _, after := _, guard := none }) (v := ?_) rfl (by kernel_rfl) (by kernel_rfl) (by kernel_rfl) (fun _ _ _ h => h) (Or.inl ⟨by rfl, ?_⟩) hH1 ?_; rotate_left; (((intro w hSw; (try dsimp only at hSw); go_simp); try with_reducible rfl))) | fail
  try simp only [Act.put, List.setIfInBounds_toArray, List.set_cons_zero, List.set_cons_succ]
  first | (refine wpAnyH_take (i := 12) (oi := { dst := some 108, op := Op.move (Operand.tmp 107), type := 4, pos := _, after := _, guard := none }) (v := ?_) rfl (by kernel_rfl) (by kernel_rfl) (by kernel_rfl) (fun _ _ _ h => h) (Or.inl ⟨by rfl, ?_⟩) hH1 ?_; rotate_left; (((intro w hSw; (try dsimp only at hSw); go_simp); try with_reducible rfl))) | fail
  try simp only [Act.put, List.setIfInBounds_toArray, List.set_cons_zero, List.set_cons_succ]
  first | (refine wpAnyH_take (i := 13) (oi := { dst := some 109, op := Op.move (Operand.tmp 10), type := 9, pos := _, after := _, guard := some (12, true) }) (v := undef) rfl (by kernel_rfl) (by kernel_rfl) (by kernel_rfl) (fun _ _ _ h => h) (Or.inr ⟨by rfl, rfl⟩) hH1 ?_) | (refine wpAnyH_take (i := 13) (oi := { dst := some 109, op := Op.move (Operand.tmp 10), type := 9, pos := _, after := _, guard := some (12, true) }) (v := ?_) rfl (by kernel_rfl) (by kernel_rfl) (by kernel_rfl) (fun _ _ _ h => h) (Or.inl ⟨by rfl, ?_⟩) hH1 ?_; rotate_left; (((intro w hSw; (try dsimp only at hSw); go_simp); try with_reducible rfl))) | fail
  try simp only [Act.put, List.setIfInBounds_toArray, List.set_cons_zero, List.set_cons_succ]
  first | (refine wpAnyH_take (i := 14) (oi := { dst := some 110, op := Op.load 41 (Operand.tmp 12), type := 41, pos := _, after := _, guard := some (12, true) }) (v := undef) rfl (by kernel_rfl) (by kernel_rfl) (by kernel_rfl) (fun _ _ _ h => h) (Or.inr ⟨by rfl, rfl⟩) hH1 ?_) | (refine wpAnyH_take (i := 14) (oi := { dst := some 110, op := Op.load 41 (Operand.tmp 12), type := 41, pos := _, after := _, guard := some (12, true) }) (v := ?_) rfl (by kernel_rfl) (by kernel_rfl) (by kernel_rfl) (fun _ _ _ h => h) (Or.inl ⟨by rfl, ?_⟩) hH1 ?_; rotate_left; (((intro w hSw; (try dsimp only at hSw); go_simp); try with_reducible rfl))) | fail
  try simp only [Act.put, List.setIfInBounds_toArray, List.set_cons_zero, List.set_cons_succ]
  first | ((refine wpAnyH_take (i := 15) (oi := { dst := some 111, op := Op.call { callee := Callee.value (Operand.func 30), args := #[Operand.tmp 110], argTypes := #[41] }, type := 9, pos := _, after := _, guard := some (12, true) }) (v := undef) rfl (by kernel_rfl) (by kernel_rfl) (by kernel_rfl) (fun _ _ _ h => h) (Or.inr ⟨by rfl, rfl⟩) hH1 ?_); (have hH2 := hH1); clear hH1) | (refine wpAnyH_ready (rs := [15]) (by kernel_rfl) (by simp) ?_; refine AllReadyH.cons (o := { dst := some 111, op := Op.call { callee := Callee.value (Operand.func 30), args := #[Operand.tmp 110], argTypes := #[41] }, type := 9, pos := _, after := _, guard := some (12, true) }) rfl (fun K hK => ?_) AllReadyH.nil; go_simp; (try (first | (go_at_call 29; refine (ofc_any _ _ _ _ _ _ _).mono ?_; rintro e w' ⟨rfl, hb⟩) | (go_at_call 30; refine (rtext_any _ _ _ _ _ _ bb0 bb1 bb2 bb3 bb4 bb5 _).mono ?_; rintro e w' ⟨rfl, hb⟩))); (try go_wp2_with fail); refine hK.out _ _ (by first | exact twelve_step hH1 hb | exact hH1) (fun hH2 => ?_); clear hK K hH1) | fail
  try simp only [Act.put, List.setIfInBounds_toArray, List.set_cons_zero, List.set_cons_succ]
  first | (refine wpAnyH_take (i := 16) (oi := { dst := some 112, op := Op.binOp BinOp.eql 9 (Operand.tmp 109) (Operand.tmp 111) 9, type := 4, pos := _, after := _, guard := some (12, true) }) (v := undef) rfl (by kernel_rfl) (by kernel_rfl) (by kernel_rfl) (fun _ _ _ h => h) (Or.inr ⟨by rfl, rfl⟩) hH2 ?_) | (refine wpAnyH_take (i := 16) (oi := { dst := some 112, op := Op.binOp BinOp.eql 9 (Operand.tmp 109) (Operand.tmp 111) 9, type := 4, pos := _, after := _, guard := some (12, true) }) (v := ?_) rfl (by kernel_rfl) (by kernel_rfl) (by kernel_rfl) (fun _ _ _ h => h) (Or.inl ⟨by rfl, ?_⟩) hH2 ?_; rotate_left; (((intro w hSw; (try dsimp only at hSw); go_simp); try with_reducible rfl))) | fail
  try simp only [Act.put, List.setIfInBounds_toArray, List.set_cons_zero, List.set_cons_succ]
  first | (refine wpAnyH_take (i := 17) (oi := { dst := some 113, op := Op.pick (Operand.tmp 108) (Operand.tmp 112) (Operand.const (Value.bool false)), type := 4, pos := _, after := _, guard := none }) (v := ?_) rfl (by kernel_rfl) (by kernel_rfl) (by kernel_rfl) (fun _ _ _ h => h) (Or.inl ⟨by rfl, ?_⟩) hH2 ?_; rotate_left; (((intro w hSw; (try dsimp only at hSw); go_simp); try with_reducible rfl))) | fail
  try simp only [Act.put, List.setIfInBounds_toArray, List.set_cons_zero, List.set_cons_succ]
  first | (refine wpAnyH_take (i := 18) (oi := { dst := some 114, op := Op.move (Operand.tmp 113), type := 4, pos := _, after := _, guard := none }) (v := ?_) rfl (by kernel_rfl) (by kernel_rfl) (by kernel_rfl) (fun _ _ _ h => h) (Or.inl ⟨by rfl, ?_⟩) hH2 ?_; rotate_left; (((intro w hSw; (try dsimp only at hSw); go_simp); try with_reducible rfl))) | fail
  try simp only [Act.put, List.setIfInBounds_toArray, List.set_cons_zero, List.set_cons_succ]
  first | (refine wpAnyH_take (i := 19) (oi := { dst := some 115, op := Op.move (Operand.tmp 15), type := 24, pos := _, after := _, guard := some (18, true) }) (v := undef) rfl (by kernel_rfl) (by kernel_rfl) (by kernel_rfl) (fun _ _ _ h => h) (Or.inr ⟨by rfl, rfl⟩) hH2 ?_) | (refine wpAnyH_take (i := 19) (oi := { dst := some 115, op := Op.move (Operand.tmp 15), type := 24, pos := _, after := _, guard := some (18, true) }) (v := ?_) rfl (by kernel_rfl) (by kernel_rfl) (by kernel_rfl) (fun _ _ _ h => h) (Or.inl ⟨by rfl, ?_⟩) hH2 ?_; rotate_left; (((intro w hSw; (try dsimp only at hSw); go_simp); try with_reducible rfl))) | fail
  try simp only [Act.put, List.setIfInBounds_toArray, List.set_cons_zero, List.set_cons_succ]
  first | (refine wpAnyH_take (i := 20) (oi := { dst := some 116, op := Op.binOp BinOp.eql 24 (Operand.tmp 115) (Operand.const (Value.int IntKind.i64 0)) 24, type := 4, pos := _, after := _, guard := some (18, true) }) (v := undef) rfl (by kernel_rfl) (by kernel_rfl) (by kernel_rfl) (fun _ _ _ h => h) (Or.inr ⟨by rfl, rfl⟩) hH2 ?_) | (refine wpAnyH_take (i := 20) (oi := { dst := some 116, op := Op.binOp BinOp.eql 24 (Operand.tmp 115) (Operand.const (Value.int IntKind.i64 0)) 24, type := 4, pos := _, after := _, guard := some (18, true) }) (v := ?_) rfl (by kernel_rfl) (by kernel_rfl) (by kernel_rfl) (fun _ _ _ h => h) (Or.inl ⟨by rfl, ?_⟩) hH2 ?_; rotate_left; (((intro w hSw; (try dsimp only at hSw); go_simp); try with_reducible rfl))) | fail
  try simp only [Act.put, List.setIfInBounds_toArray, List.set_cons_zero, List.set_cons_succ]
  first | (refine wpAnyH_take (i := 21) (oi := { dst := some 117, op := Op.pick (Operand.tmp 114) (Operand.tmp 116) (Operand.const (Value.bool false)), type := 4, pos := _, after := _, guard := none }) (v := ?_) rfl (by kernel_rfl) (by kernel_rfl) (by kernel_rfl) (fun _ _ _ h => h) (Or.inl ⟨by rfl, ?_⟩) hH2 ?_; rotate_left; (((intro w hSw; (try dsimp only at hSw); go_simp); try with_reducible rfl))) | fail
  try simp only [Act.put, List.setIfInBounds_toArray, List.set_cons_zero, List.set_cons_succ]
  first | (refine wpAnyH_take (i := 22) (oi := { dst := some 118, op := Op.move (Operand.tmp 117), type := 4, pos := _, after := _, guard := none }) (v := ?_) rfl (by kernel_rfl) (by kernel_rfl) (by kernel_rfl) (fun _ _ _ h => h) (Or.inl ⟨by rfl, ?_⟩) hH2 ?_; rotate_left; (((intro w hSw; (try dsimp only at hSw); go_simp); try with_reducible rfl))) | fail
  try simp only [Act.put, List.setIfInBounds_toArray, List.set_cons_zero, List.set_cons_succ]
  first | (refine wpAnyH_take (i := 23) (oi := { dst := some 119, op := Op.move (Operand.tmp 14), type := 3, pos := _, after := _, guard := some (22, true) }) (v := undef) rfl (by kernel_rfl) (by kernel_rfl) (by kernel_rfl) (fun _ _ _ h => h) (Or.inr ⟨by rfl, rfl⟩) hH2 ?_) | (refine wpAnyH_take (i := 23) (oi := { dst := some 119, op := Op.move (Operand.tmp 14), type := 3, pos := _, after := _, guard := some (22, true) }) (v := ?_) rfl (by kernel_rfl) (by kernel_rfl) (by kernel_rfl) (fun _ _ _ h => h) (Or.inl ⟨by rfl, ?_⟩) hH2 ?_; rotate_left; (((intro w hSw; (try dsimp only at hSw); go_simp); try with_reducible rfl))) | fail
  try simp only [Act.put, List.setIfInBounds_toArray, List.set_cons_zero, List.set_cons_succ]
  first | (refine wpAnyH_take (i := 24) (oi := { dst := some 120, op := Op.move (Operand.tmp 1), type := 3, pos := _, after := _, guard := some (22, true) }) (v := undef) rfl (by kernel_rfl) (by kernel_rfl) (by kernel_rfl) (fun _ _ _ h => h) (Or.inr ⟨by rfl, rfl⟩) hH2 ?_) | (refine wpAnyH_take (i := 24) (oi := { dst := some 120, op := Op.move (Operand.tmp 1), type := 3, pos := _, after := _, guard := some (22, true) }) (v := ?_) rfl (by kernel_rfl) (by kernel_rfl) (by kernel_rfl) (fun _ _ _ h => h) (Or.inl ⟨by rfl, ?_⟩) hH2 ?_; rotate_left; (((intro w hSw; (try dsimp only at hSw); go_simp); try with_reducible rfl))) | fail
  try simp only [Act.put, List.setIfInBounds_toArray, List.set_cons_zero, List.set_cons_succ]
  first | (refine wpAnyH_take (i := 25) (oi := { dst := some 121, op := Op.binOp BinOp.eql 3 (Operand.tmp 119) (Operand.tmp 120) 3, type := 4, pos := _, after := _, guard := some (22, true) }) (v := undef) rfl (by kernel_rfl) (by kernel_rfl) (by kernel_rfl) (fun _ _ _ h => h) (Or.inr ⟨by rfl, rfl⟩) hH2 ?_) | (refine wpAnyH_take (i := 25) (oi := { dst := some 121, op := Op.binOp BinOp.eql 3 (Operand.tmp 119) (Operand.tmp 120) 3, type := 4, pos := _, after := _, guard := some (22, true) }) (v := ?_) rfl (by kernel_rfl) (by kernel_rfl) (by kernel_rfl) (fun _ _ _ h => h) (Or.inl ⟨by rfl, ?_⟩) hH2 ?_; rotate_left; (((intro w hSw; (try dsimp only at hSw); go_simp); try with_reducible rfl))) | fail
  try simp only [Act.put, List.setIfInBounds_toArray, List.set_cons_zero, List.set_cons_succ]
  first | (refine wpAnyH_take (i := 26) (oi := { dst := some 122, op := Op.pick (Operand.tmp 118) (Operand.tmp 121) (Operand.const (Value.bool false)), type := 4, pos := _, after := _, guard := none }) (v := ?_) rfl (by kernel_rfl) (by kernel_rfl) (by kernel_rfl) (fun _ _ _ h => h) (Or.inl ⟨by rfl, ?_⟩) hH2 ?_; rotate_left; (((intro w hSw; (try dsimp only at hSw); go_simp); try with_reducible rfl))) | fail
  try simp only [Act.put, List.setIfInBounds_toArray, List.set_cons_zero, List.set_cons_succ]
  first | (refine wpAnyH_take (i := 27) (oi := { dst := some 4, op := Op.assign (Operand.tmp 122), type := 4, pos := _, after := _, guard := none }) (v := ?_) rfl (by kernel_rfl) (by kernel_rfl) (by kernel_rfl) (fun _ _ _ h => h) (Or.inl ⟨by rfl, ?_⟩) hH2 ?_; rotate_left; (((intro w hSw; (try dsimp only at hSw); go_simp); try with_reducible rfl))) | fail
  try simp only [Act.put, List.setIfInBounds_toArray, List.set_cons_zero, List.set_cons_succ]
  refine wpAnyH_done (by kernel_rfl) ?_ _
  have hh := hH2
  go_wp2_with (fail)
  go_ret
  exact ⟨rfl, hh.2.2.2.2.2.2.2.2.2.2.2.2.2.2.2⟩
set_option maxRecDepth 100000 in
set_option maxHeartbeats 8000000 in
theorem dsec_ny (y m d h mi s t : Int) (hc : Cal.clockB y m d h mi s = false) (h1 : -62167219200 ≤ t) (h2 : t ≤ 253402300799) (w : World) :
    Calls Try.prog 5 #[.agg #[.int .i64 y, .int .i64 m, .int .i64 d, .int .i64 h, .int .i64 mi, .int .i64 s], .int .i64 t] w fun e w' => e = .returned (.bool true) ∧ Below w.heap.size w w' := by
  have B0 := Box6.start w 41 (.int .i64 y) (.int .i64 m) (.int .i64 d) (.int .i64 h) (.int .i64 mi) (.int .i64 s)
  have HC := Lib.hid hc
  clear hc
  obtain ⟨k1, k2⟩ := Cal.at_clock t h1 h2
  have KC := Lib.hid k1
  have KS := Lib.hid k2
  have PB := Cal.pdate_bd (t / 86400) (by omega) (by omega)
  have bb3 : 0 ≤ t % 86400 / 3600 ∧ t % 86400 / 3600 ≤ 9999 := by omega
  have bb4 : 0 ≤ t % 86400 / 60 % 60 ∧ t % 86400 / 60 % 60 ≤ 9999 := by omega
  have bb5 : 0 ≤ t % 60 ∧ t % 60 ≤ 9999 := by omega
  have bb0 : 0 ≤ Cal.pY (t / 86400) ∧ Cal.pY (t / 86400) ≤ 9999 := by omega
  have bb1 : 0 ≤ Cal.pM (t / 86400) ∧ Cal.pM (t / 86400) ≤ 9999 := by omega
  have bb2 : 0 ≤ Cal.pD (t / 86400) ∧ Cal.pD (t / 86400) ≤ 9999 := by omega
  have P26 := Lib.hid (at_yes t h1 h2)
  have P28 := Lib.hid (rat_yes t h1 h2)
  have HT : Hid ((⟨(Cal.textOf t).toArray⟩ : ByteArray) = textS (Cal.pY (t / 86400)) (Cal.pM (t / 86400)) (Cal.pD (t / 86400)) (t % 86400 / 3600) (t % 86400 / 60 % 60) (t % 60)) := rfl
  have HA : Hid (atV t = .agg #[.int .i64 (Cal.pY (t / 86400)), .int .i64 (Cal.pM (t / 86400)), .int .i64 (Cal.pD (t / 86400)), .int .i64 (t % 86400 / 3600), .int .i64 (t % 86400 / 60 % 60), .int .i64 (t % 60)]) := rfl
  clear k1 k2 PB
  generalize Cal.pY (t / 86400) = a0 at *
  generalize Cal.pM (t / 86400) = a1 at *
  generalize Cal.pD (t / 86400) = a2 at *
  generalize t % 86400 / 3600 = a3 at *
  generalize t % 86400 / 60 % 60 = a4 at *
  generalize t % 60 = a5 at *
  go_enter Try.func5, Try.ntmps5
  go_wp2_with (first | (go_at_call 22; refine (clock_any _ _ _ _ _ _ _).mono ?_; rintro e w1 ⟨rfl, hb⟩; have B1 := Box6.step ‹_› hb; obtain ⟨c0, c1, c2, c3, c4, c5, cz, cb⟩ := id B1) | (go_at_call 23; refine (rrclock_any _ _ _ _ _ _ _).mono ?_; rintro e w1 ⟨rfl, hb⟩; rw [HC.out]; have B1 := Box6.step ‹_› hb; obtain ⟨c0, c1, c2, c3, c4, c5, cz, cb⟩ := id B1) | (go_at_call 24; refine (rclock_any _ _ _ _ _ _ _).mono ?_; rintro e w1 ⟨rfl, hb⟩; rw [HC.out]; have B1 := Box6.step ‹_› hb; obtain ⟨c0, c1, c2, c3, c4, c5, cz, cb⟩ := id B1) | (go_at_call 11; refine (known_any _).mono ?_; rintro e w1 ⟨rfl, hb⟩; have B1 := Box6.step ‹_› hb; obtain ⟨c0, c1, c2, c3, c4, c5, cz, cb⟩ := id B1) | (go_at_call 21; refine (second_no _ _ _ _ _ _ HC.out _).mono ?_; rintro e w1 ⟨rfl, hb⟩; have B1 := Box6.step ‹_› hb; obtain ⟨c0, c1, c2, c3, c4, c5, cz, cb⟩ := id B1))
  refine (P26.out _).mono ?_
  rintro e wx ⟨rfl, hbx⟩
  rw [HA.out]
  have U1 := Below.trans cb (hbx.mono (Nat.le_of_lt (Nat.lt_of_le_of_lt (Nat.le_refl _) cz)))
  have Z1 : w.heap.size ≤ wx.heap.size := Nat.le_trans (Nat.le_of_lt cz) hbx.size
  clear B0 B1 c0 c1 c2 c3 c4 c5 cz cb hbx
  go_wp2_with (fail)
  refine (text_yes t h1 h2 _).mono ?_
  rintro e wy ⟨rfl, hby⟩
  rw [HT.out]
  obtain ⟨xx, zx, ux⟩ := newblk hby
  have X2 := Lib.hid xx
  clear xx hby
  go_wp2_with (fail)
  refine (P28.out _).mono ?_
  rintro e wz ⟨rfl, hbz⟩
  rw [HA.out]
  have X3 := Lib.hid ((hbz.block _ zx).trans X2.out)
  have zz : wx.heap.size < wz.heap.size := Nat.lt_of_lt_of_le zx hbz.size
  have U3 := U1.trans ((ux.trans (hbz.mono ux.size)).mono Z1)
  obtain ⟨x0, x1, x2, x3, x4, x5, _⟩ := cells6 X3.out
  clear X2
  go_wp2_with (fail)
  refine (second_yes _ _ _ _ _ _ KC.out _).mono ?_
  rintro e wq ⟨rfl, hbq⟩
  rw [KS.out]
  obtain ⟨yy, zq, uq⟩ := newblk hbq
  have Y5 := Lib.hid yy
  have X5 := Lib.hid (keepblk' X3.out hbq)
  have z5 : w.heap.size ≤ wq.heap.size := by have := uq.size; omega
  have u5 := U3.trans (uq.mono (by omega))
  clear yy hbq x0 x1 x2 x3 x4 x5 X3
  go_wp2_with (fail)
  refine wp_region_held_drew (S := (fun w' => w'.cell? ⟨wx.heap.size, 0, none⟩ = some (.int .i64 a0) ∧ w'.cell? ⟨wx.heap.size, 1, none⟩ = some (.int .i64 a1) ∧ w'.cell? ⟨wx.heap.size, 2, none⟩ = some (.int .i64 a2) ∧ w'.cell? ⟨wx.heap.size, 3, none⟩ = some (.int .i64 a3) ∧ w'.cell? ⟨wx.heap.size, 4, none⟩ = some (.int .i64 a4) ∧ w'.cell? ⟨wx.heap.size, 5, none⟩ = some (.int .i64 a5) ∧ w'.cell? ⟨wz.heap.size, 0, none⟩ = some (.int .i64 a0) ∧ w'.cell? ⟨wz.heap.size, 1, none⟩ = some (.int .i64 a1) ∧ w'.cell? ⟨wz.heap.size, 2, none⟩ = some (.int .i64 a2) ∧ w'.cell? ⟨wz.heap.size, 3, none⟩ = some (.int .i64 a3) ∧ w'.cell? ⟨wz.heap.size, 4, none⟩ = some (.int .i64 a4) ∧ w'.cell? ⟨wz.heap.size, 5, none⟩ = some (.int .i64 a5) ∧ wx.heap.size < w'.heap.size ∧ wz.heap.size < w'.heap.size ∧ w.heap.size ≤ w'.heap.size ∧ Below w.heap.size w w')) (by kernel_rfl) ?_ (fun hH0 => ?_)
  · exact twelve_start (T := 44) (U := 41) X5.out Y5.out z5 u5
  first | (refine wpAnyH_take (i := 0) (oi := { dst := some 96, op := Op.move (Operand.tmp 9), type := 24, pos := _, after := _, guard := none }) (v := ?_) rfl (by kernel_rfl) (by kernel_rfl) (by kernel_rfl) (fun _ _ _ h => h) (Or.inl ⟨by rfl, ?_⟩) hH0 ?_; rotate_left; (((intro w hSw; (try dsimp only at hSw); go_simp); try with_reducible rfl))) | fail
  try simp only [Act.put, List.setIfInBounds_toArray, List.set_cons_zero, List.set_cons_succ]
  first | (refine wpAnyH_take (i := 1) (oi := { dst := some 97, op := Op.binOp BinOp.eql 24 (Operand.tmp 96) (Operand.const (Value.int IntKind.i64 0)) 24, type := 4, pos := _, after := _, guard := none }) (v := ?_) rfl (by kernel_rfl) (by kernel_rfl) (by kernel_rfl) (fun _ _ _ h => h) (Or.inl ⟨by rfl, ?_⟩) hH0 ?_; rotate_left; (((intro w hSw; (try dsimp only at hSw); go_simp); try with_reducible rfl))) | fail
  try simp only [Act.put, List.setIfInBounds_toArray, List.set_cons_zero, List.set_cons_succ]
  first | (refine wpAnyH_take (i := 2) (oi := { dst := some 98, op := Op.move (Operand.tmp 97), type := 4, pos := _, after := _, guard := none }) (v := ?_) rfl (by kernel_rfl) (by kernel_rfl) (by kernel_rfl) (fun _ _ _ h => h) (Or.inl ⟨by rfl, ?_⟩) hH0 ?_; rotate_left; (((intro w hSw; (try dsimp only at hSw); go_simp); try with_reducible rfl))) | fail
  try simp only [Act.put, List.setIfInBounds_toArray, List.set_cons_zero, List.set_cons_succ]
  first | (refine wpAnyH_take (i := 3) (oi := { dst := some 99, op := Op.load 44 (Operand.tmp 8), type := 44, pos := _, after := _, guard := some (2, true) }) (v := undef) rfl (by kernel_rfl) (by kernel_rfl) (by kernel_rfl) (fun _ _ _ h => h) (Or.inr ⟨by rfl, rfl⟩) hH0 ?_) | (refine wpAnyH_take (i := 3) (oi := { dst := some 99, op := Op.load 44 (Operand.tmp 8), type := 44, pos := _, after := _, guard := some (2, true) }) (v := ?_) rfl (by kernel_rfl) (by kernel_rfl) (by kernel_rfl) (fun _ _ _ h => h) (Or.inl ⟨by rfl, ?_⟩) hH0 ?_; rotate_left; (((intro w hSw; (try dsimp only at hSw); go_simp); try with_reducible rfl))) | fail
  try simp only [Act.put, List.setIfInBounds_toArray, List.set_cons_zero, List.set_cons_succ]
  first | (refine wpAnyH_take (i := 5) (oi := { dst := some 101, op := Op.load 41 (Operand.tmp 12), type := 41, pos := _, after := _, guard := some (2, true) }) (v := undef) rfl (by kernel_rfl) (by kernel_rfl) (by kernel_rfl) (fun _ _ _ h => h) (Or.inr ⟨by rfl, rfl⟩) hH0 ?_) | (refine wpAnyH_take (i := 5) (oi := { dst := some 101, op := Op.load 41 (Operand.tmp 12), type := 41, pos := _, after := _, guard := some (2, true) }) (v := ?_) rfl (by kernel_rfl) (by kernel_rfl) (by kernel_rfl) (fun _ _ _ h => h) (Or.inl ⟨by rfl, ?_⟩) hH0 ?_; rotate_left; (((intro w hSw; (try dsimp only at hSw); go_simp); try with_reducible rfl))) | fail
  try simp only [Act.put, List.setIfInBounds_toArray, List.set_cons_zero, List.set_cons_succ]
  first | ((refine wpAnyH_take (i := 4) (oi := { dst := some 100, op := Op.call { callee := Callee.value (Operand.func 29), args := #[Operand.tmp 99], argTypes := #[44] }, type := 41, pos := _, after := _, guard := some (2, true) }) (v := undef) rfl (by kernel_rfl) (by kernel_rfl) (by kernel_rfl) (fun _ _ _ h => h) (Or.inr ⟨by rfl, rfl⟩) hH0 ?_); (have hH1 := hH0); clear hH0) | (refine wpAnyH_ready (rs := [4]) (by kernel_rfl) (by simp) ?_; refine AllReadyH.cons (o := { dst := some 100, op := Op.call { callee := Callee.value (Operand.func 29), args := #[Operand.tmp 99], argTypes := #[44] }, type := 41, pos := _, after := _, guard := some (2, true) }) rfl (fun K hK => ?_) AllReadyH.nil; go_simp; (try (first | (go_at_call 29; refine (ofc_any _ _ _ _ _ _ _).mono ?_; rintro e w' ⟨rfl, hb⟩) | (go_at_call 30; refine (rtext_any _ _ _ _ _ _ bb0 bb1 bb2 bb3 bb4 bb5 _).mono ?_; rintro e w' ⟨rfl, hb⟩))); (try go_wp2_with fail); refine hK.out _ _ (by first | exact twelve_step hH0 hb | exact hH0) (fun hH1 => ?_); clear hK K hH0) | fail
  try simp only [Act.put, List.setIfInBounds_toArray, List.set_cons_zero, List.set_cons_succ]
  first | (refine wpAnyH_take (i := 6) (oi := { dst := some 102, op := Op.binOp BinOp.eql 41 (Operand.tmp 100) (Operand.tmp 101) 41, type := 4, pos := _, after := _, guard := some (2, true) }) (v := undef) rfl (by kernel_rfl) (by kernel_rfl) (by kernel_rfl) (fun _ _ _ h => h) (Or.inr ⟨by rfl, rfl⟩) hH1 ?_) | (refine wpAnyH_take (i := 6) (oi := { dst := some 102, op := Op.binOp BinOp.eql 41 (Operand.tmp 100) (Operand.tmp 101) 41, type := 4, pos := _, after := _, guard := some (2, true) }) (v := ?_) rfl (by kernel_rfl) (by kernel_rfl) (by kernel_rfl) (fun _ _ _ h => h) (Or.inl ⟨by rfl, ?_⟩) hH1 ?_; rotate_left; (((intro w hSw; (try dsimp only at hSw); go_simp); try with_reducible rfl))) | fail
  try simp only [Act.put, List.setIfInBounds_toArray, List.set_cons_zero, List.set_cons_succ]
  first | (refine wpAnyH_take (i := 7) (oi := { dst := some 103, op := Op.pick (Operand.tmp 98) (Operand.tmp 102) (Operand.const (Value.bool false)), type := 4, pos := _, after := _, guard := none }) (v := ?_) rfl (by kernel_rfl) (by kernel_rfl) (by kernel_rfl) (fun _ _ _ h => h) (Or.inl ⟨by rfl, ?_⟩) hH1 ?_; rotate_left; (((intro w hSw; (try dsimp only at hSw); go_simp); try with_reducible rfl))) | fail
  try simp only [Act.put, List.setIfInBounds_toArray, List.set_cons_zero, List.set_cons_succ]
  first | (refine wpAnyH_take (i := 8) (oi := { dst := some 104, op := Op.move (Operand.tmp 103), type := 4, pos := _, after := _, guard := none }) (v := ?_) rfl (by kernel_rfl) (by kernel_rfl) (by kernel_rfl) (fun _ _ _ h => h) (Or.inl ⟨by rfl, ?_⟩) hH1 ?_; rotate_left; (((intro w hSw; (try dsimp only at hSw); go_simp); try with_reducible rfl))) | fail
  try simp only [Act.put, List.setIfInBounds_toArray, List.set_cons_zero, List.set_cons_succ]
  first | (refine wpAnyH_take (i := 9) (oi := { dst := some 105, op := Op.move (Operand.tmp 11), type := 24, pos := _, after := _, guard := some (8, true) }) (v := undef) rfl (by kernel_rfl) (by kernel_rfl) (by kernel_rfl) (fun _ _ _ h => h) (Or.inr ⟨by rfl, rfl⟩) hH1 ?_) | (refine wpAnyH_take (i := 9) (oi := { dst := some 105, op := Op.move (Operand.tmp 11), type := 24, pos := _, after := _, guard := some (8, true) }) (v := ?_) rfl (by kernel_rfl) (by kernel_rfl) (by kernel_rfl) (fun _ _ _ h => h) (Or.inl ⟨by rfl, ?_⟩) hH1 ?_; rotate_left; (((intro w hSw; (try dsimp only at hSw); go_simp); try with_reducible rfl))) | fail
  try simp only [Act.put, List.setIfInBounds_toArray, List.set_cons_zero, List.set_cons_succ]
  first | (refine wpAnyH_take (i := 10) (oi := { dst := some 106, op := Op.binOp BinOp.eql 24 (Operand.tmp 105) (Operand.const (Value.int IntKind.i64 0)) 24, type := 4, pos := _, after := _, guard := some (8, true) }) (v := undef) rfl (by kernel_rfl) (by kernel_rfl) (by kernel_rfl) (fun _ _ _ h => h) (Or.inr ⟨by rfl, rfl⟩) hH1 ?_) | (refine wpAnyH_take (i := 10) (oi := { dst := some 106, op := Op.binOp BinOp.eql 24 (Operand.tmp 105) (Operand.const (Value.int IntKind.i64 0)) 24, type := 4, pos := _, after := _, guard := some (8, true) }) (v := ?_) rfl (by kernel_rfl) (by kernel_rfl) (by kernel_rfl) (fun _ _ _ h => h) (Or.inl ⟨by rfl, ?_⟩) hH1 ?_; rotate_left; (((intro w hSw; (try dsimp only at hSw); go_simp); try with_reducible rfl))) | fail
  try simp only [Act.put, List.setIfInBounds_toArray, List.set_cons_zero, List.set_cons_succ]
  first | (refine wpAnyH_take (i := 11) (oi := { dst := some 107, op := Op.pick (Operand.tmp 104) (Operand.tmp 106) (Operand.const (Value.bool false)), type := 4, pos := _, after := _, guard := none }) (v := ?_) rfl (by kernel_rfl) (by kernel_rfl) (by kernel_rfl) (fun _ _ _ h => h) (Or.inl ⟨by rfl, ?_⟩) hH1 ?_; rotate_left; (((intro w hSw; (try dsimp only at hSw); go_simp); try with_reducible rfl))) | fail
  try simp only [Act.put, List.setIfInBounds_toArray, List.set_cons_zero, List.set_cons_succ]
  first | (refine wpAnyH_take (i := 12) (oi := { dst := some 108, op := Op.move (Operand.tmp 107), type := 4, pos := _, after := _, guard := none }) (v := ?_) rfl (by kernel_rfl) (by kernel_rfl) (by kernel_rfl) (fun _ _ _ h => h) (Or.inl ⟨by rfl, ?_⟩) hH1 ?_; rotate_left; (((intro w hSw; (try dsimp only at hSw); go_simp); try with_reducible rfl))) | fail
  try simp only [Act.put, List.setIfInBounds_toArray, List.set_cons_zero, List.set_cons_succ]
  first | (refine wpAnyH_take (i := 13) (oi := { dst := some 109, op := Op.move (Operand.tmp 10), type := 9, pos := _, after := _, guard := some (12, true) }) (v := undef) rfl (by kernel_rfl) (by kernel_rfl) (by kernel_rfl) (fun _ _ _ h => h) (Or.inr ⟨by rfl, rfl⟩) hH1 ?_) | (refine wpAnyH_take (i := 13) (oi := { dst := some 109, op := Op.move (Operand.tmp 10), type := 9, pos := _, after := _, guard := some (12, true) }) (v := ?_) rfl (by kernel_rfl) (by kernel_rfl) (by kernel_rfl) (fun _ _ _ h => h) (Or.inl ⟨by rfl, ?_⟩) hH1 ?_; rotate_left; (((intro w hSw; (try dsimp only at hSw); go_simp); try with_reducible rfl))) | fail
  try simp only [Act.put, List.setIfInBounds_toArray, List.set_cons_zero, List.set_cons_succ]
  first | (refine wpAnyH_take (i := 14) (oi := { dst := some 110, op := Op.load 41 (Operand.tmp 12), type := 41, pos := _, after := _, guard := some (12, true) }) (v := undef) rfl (by kernel_rfl) (by kernel_rfl) (by kernel_rfl) (fun _ _ _ h => h) (Or.inr ⟨by rfl, rfl⟩) hH1 ?_) | (refine wpAnyH_take (i := 14) (oi := { dst := some 110, op := Op.load 41 (Operand.tmp 12), type := 41, pos := _, after := _, guard := some (12, true) }) (v := ?_) rfl (by kernel_rfl) (by kernel_rfl) (by kernel_rfl) (fun _ _ _ h => h) (Or.inl ⟨by rfl, ?_⟩) hH1 ?_; rotate_left; (((intro w hSw; (try dsimp only at hSw); go_simp); try with_reducible rfl))) | fail
  try simp only [Act.put, List.setIfInBounds_toArray, List.set_cons_zero, List.set_cons_succ]
  first | ((refine wpAnyH_take (i := 15) (oi := { dst := some 111, op := Op.call { callee := Callee.value (Operand.func 30), args := #[Operand.tmp 110], argTypes := #[41] }, type := 9, pos := _, after := _, guard := some (12, true) }) (v := undef) rfl (by kernel_rfl) (by kernel_rfl) (by kernel_rfl) (fun _ _ _ h => h) (Or.inr ⟨by rfl, rfl⟩) hH1 ?_); (have hH2 := hH1); clear hH1) | (refine wpAnyH_ready (rs := [15]) (by kernel_rfl) (by simp) ?_; refine AllReadyH.cons (o := { dst := some 111, op := Op.call { callee := Callee.value (Operand.func 30), args := #[Operand.tmp 110], argTypes := #[41] }, type := 9, pos := _, after := _, guard := some (12, true) }) rfl (fun K hK => ?_) AllReadyH.nil; go_simp; (try (first | (go_at_call 29; refine (ofc_any _ _ _ _ _ _ _).mono ?_; rintro e w' ⟨rfl, hb⟩) | (go_at_call 30; refine (rtext_any _ _ _ _ _ _ bb0 bb1 bb2 bb3 bb4 bb5 _).mono ?_; rintro e w' ⟨rfl, hb⟩))); (try go_wp2_with fail); refine hK.out _ _ (by first | exact twelve_step hH1 hb | exact hH1) (fun hH2 => ?_); clear hK K hH1) | fail
  try simp only [Act.put, List.setIfInBounds_toArray, List.set_cons_zero, List.set_cons_succ]
  first | (refine wpAnyH_take (i := 16) (oi := { dst := some 112, op := Op.binOp BinOp.eql 9 (Operand.tmp 109) (Operand.tmp 111) 9, type := 4, pos := _, after := _, guard := some (12, true) }) (v := undef) rfl (by kernel_rfl) (by kernel_rfl) (by kernel_rfl) (fun _ _ _ h => h) (Or.inr ⟨by rfl, rfl⟩) hH2 ?_) | (refine wpAnyH_take (i := 16) (oi := { dst := some 112, op := Op.binOp BinOp.eql 9 (Operand.tmp 109) (Operand.tmp 111) 9, type := 4, pos := _, after := _, guard := some (12, true) }) (v := ?_) rfl (by kernel_rfl) (by kernel_rfl) (by kernel_rfl) (fun _ _ _ h => h) (Or.inl ⟨by rfl, ?_⟩) hH2 ?_; rotate_left; (((intro w hSw; (try dsimp only at hSw); go_simp); try with_reducible rfl))) | fail
  try simp only [Act.put, List.setIfInBounds_toArray, List.set_cons_zero, List.set_cons_succ]
  first | (refine wpAnyH_take (i := 17) (oi := { dst := some 113, op := Op.pick (Operand.tmp 108) (Operand.tmp 112) (Operand.const (Value.bool false)), type := 4, pos := _, after := _, guard := none }) (v := ?_) rfl (by kernel_rfl) (by kernel_rfl) (by kernel_rfl) (fun _ _ _ h => h) (Or.inl ⟨by rfl, ?_⟩) hH2 ?_; rotate_left; (((intro w hSw; (try dsimp only at hSw); go_simp); try with_reducible rfl))) | fail
  try simp only [Act.put, List.setIfInBounds_toArray, List.set_cons_zero, List.set_cons_succ]
  first | (refine wpAnyH_take (i := 18) (oi := { dst := some 114, op := Op.move (Operand.tmp 113), type := 4, pos := _, after := _, guard := none }) (v := ?_) rfl (by kernel_rfl) (by kernel_rfl) (by kernel_rfl) (fun _ _ _ h => h) (Or.inl ⟨by rfl, ?_⟩) hH2 ?_; rotate_left; (((intro w hSw; (try dsimp only at hSw); go_simp); try with_reducible rfl))) | fail
  try simp only [Act.put, List.setIfInBounds_toArray, List.set_cons_zero, List.set_cons_succ]
  first | (refine wpAnyH_take (i := 19) (oi := { dst := some 115, op := Op.move (Operand.tmp 15), type := 24, pos := _, after := _, guard := some (18, true) }) (v := undef) rfl (by kernel_rfl) (by kernel_rfl) (by kernel_rfl) (fun _ _ _ h => h) (Or.inr ⟨by rfl, rfl⟩) hH2 ?_) | (refine wpAnyH_take (i := 19) (oi := { dst := some 115, op := Op.move (Operand.tmp 15), type := 24, pos := _, after := _, guard := some (18, true) }) (v := ?_) rfl (by kernel_rfl) (by kernel_rfl) (by kernel_rfl) (fun _ _ _ h => h) (Or.inl ⟨by rfl, ?_⟩) hH2 ?_; rotate_left; (((intro w hSw; (try dsimp only at hSw); go_simp); try with_reducible rfl))) | fail
  try simp only [Act.put, List.setIfInBounds_toArray, List.set_cons_zero, List.set_cons_succ]
  first | (refine wpAnyH_take (i := 20) (oi := { dst := some 116, op := Op.binOp BinOp.eql 24 (Operand.tmp 115) (Operand.const (Value.int IntKind.i64 0)) 24, type := 4, pos := _, after := _, guard := some (18, true) }) (v := undef) rfl (by kernel_rfl) (by kernel_rfl) (by kernel_rfl) (fun _ _ _ h => h) (Or.inr ⟨by rfl, rfl⟩) hH2 ?_) | (refine wpAnyH_take (i := 20) (oi := { dst := some 116, op := Op.binOp BinOp.eql 24 (Operand.tmp 115) (Operand.const (Value.int IntKind.i64 0)) 24, type := 4, pos := _, after := _, guard := some (18, true) }) (v := ?_) rfl (by kernel_rfl) (by kernel_rfl) (by kernel_rfl) (fun _ _ _ h => h) (Or.inl ⟨by rfl, ?_⟩) hH2 ?_; rotate_left; (((intro w hSw; (try dsimp only at hSw); go_simp); try with_reducible rfl))) | fail
  try simp only [Act.put, List.setIfInBounds_toArray, List.set_cons_zero, List.set_cons_succ]
  first | (refine wpAnyH_take (i := 21) (oi := { dst := some 117, op := Op.pick (Operand.tmp 114) (Operand.tmp 116) (Operand.const (Value.bool false)), type := 4, pos := _, after := _, guard := none }) (v := ?_) rfl (by kernel_rfl) (by kernel_rfl) (by kernel_rfl) (fun _ _ _ h => h) (Or.inl ⟨by rfl, ?_⟩) hH2 ?_; rotate_left; (((intro w hSw; (try dsimp only at hSw); go_simp); try with_reducible rfl))) | fail
  try simp only [Act.put, List.setIfInBounds_toArray, List.set_cons_zero, List.set_cons_succ]
  first | (refine wpAnyH_take (i := 22) (oi := { dst := some 118, op := Op.move (Operand.tmp 117), type := 4, pos := _, after := _, guard := none }) (v := ?_) rfl (by kernel_rfl) (by kernel_rfl) (by kernel_rfl) (fun _ _ _ h => h) (Or.inl ⟨by rfl, ?_⟩) hH2 ?_; rotate_left; (((intro w hSw; (try dsimp only at hSw); go_simp); try with_reducible rfl))) | fail
  try simp only [Act.put, List.setIfInBounds_toArray, List.set_cons_zero, List.set_cons_succ]
  first | (refine wpAnyH_take (i := 23) (oi := { dst := some 119, op := Op.move (Operand.tmp 14), type := 3, pos := _, after := _, guard := some (22, true) }) (v := undef) rfl (by kernel_rfl) (by kernel_rfl) (by kernel_rfl) (fun _ _ _ h => h) (Or.inr ⟨by rfl, rfl⟩) hH2 ?_) | (refine wpAnyH_take (i := 23) (oi := { dst := some 119, op := Op.move (Operand.tmp 14), type := 3, pos := _, after := _, guard := some (22, true) }) (v := ?_) rfl (by kernel_rfl) (by kernel_rfl) (by kernel_rfl) (fun _ _ _ h => h) (Or.inl ⟨by rfl, ?_⟩) hH2 ?_; rotate_left; (((intro w hSw; (try dsimp only at hSw); go_simp); try with_reducible rfl))) | fail
  try simp only [Act.put, List.setIfInBounds_toArray, List.set_cons_zero, List.set_cons_succ]
  first | (refine wpAnyH_take (i := 24) (oi := { dst := some 120, op := Op.move (Operand.tmp 1), type := 3, pos := _, after := _, guard := some (22, true) }) (v := undef) rfl (by kernel_rfl) (by kernel_rfl) (by kernel_rfl) (fun _ _ _ h => h) (Or.inr ⟨by rfl, rfl⟩) hH2 ?_) | (refine wpAnyH_take (i := 24) (oi := { dst := some 120, op := Op.move (Operand.tmp 1), type := 3, pos := _, after := _, guard := some (22, true) }) (v := ?_) rfl (by kernel_rfl) (by kernel_rfl) (by kernel_rfl) (fun _ _ _ h => h) (Or.inl ⟨by rfl, ?_⟩) hH2 ?_; rotate_left; (((intro w hSw; (try dsimp only at hSw); go_simp); try with_reducible rfl))) | fail
  try simp only [Act.put, List.setIfInBounds_toArray, List.set_cons_zero, List.set_cons_succ]
  first | (refine wpAnyH_take (i := 25) (oi := { dst := some 121, op := Op.binOp BinOp.eql 3 (Operand.tmp 119) (Operand.tmp 120) 3, type := 4, pos := _, after := _, guard := some (22, true) }) (v := undef) rfl (by kernel_rfl) (by kernel_rfl) (by kernel_rfl) (fun _ _ _ h => h) (Or.inr ⟨by rfl, rfl⟩) hH2 ?_) | (refine wpAnyH_take (i := 25) (oi := { dst := some 121, op := Op.binOp BinOp.eql 3 (Operand.tmp 119) (Operand.tmp 120) 3, type := 4, pos := _, after := _, guard := some (22, true) }) (v := ?_) rfl (by kernel_rfl) (by kernel_rfl) (by kernel_rfl) (fun _ _ _ h => h) (Or.inl ⟨by rfl, ?_⟩) hH2 ?_; rotate_left; (((intro w hSw; (try dsimp only at hSw); go_simp); try with_reducible rfl))) | fail
  try simp only [Act.put, List.setIfInBounds_toArray, List.set_cons_zero, List.set_cons_succ]
  first | (refine wpAnyH_take (i := 26) (oi := { dst := some 122, op := Op.pick (Operand.tmp 118) (Operand.tmp 121) (Operand.const (Value.bool false)), type := 4, pos := _, after := _, guard := none }) (v := ?_) rfl (by kernel_rfl) (by kernel_rfl) (by kernel_rfl) (fun _ _ _ h => h) (Or.inl ⟨by rfl, ?_⟩) hH2 ?_; rotate_left; (((intro w hSw; (try dsimp only at hSw); go_simp); try with_reducible rfl))) | fail
  try simp only [Act.put, List.setIfInBounds_toArray, List.set_cons_zero, List.set_cons_succ]
  first | (refine wpAnyH_take (i := 27) (oi := { dst := some 4, op := Op.assign (Operand.tmp 122), type := 4, pos := _, after := _, guard := none }) (v := ?_) rfl (by kernel_rfl) (by kernel_rfl) (by kernel_rfl) (fun _ _ _ h => h) (Or.inl ⟨by rfl, ?_⟩) hH2 ?_; rotate_left; (((intro w hSw; (try dsimp only at hSw); go_simp); try with_reducible rfl))) | fail
  try simp only [Act.put, List.setIfInBounds_toArray, List.set_cons_zero, List.set_cons_succ]
  refine wpAnyH_done (by kernel_rfl) ?_ _
  have hh := hH2
  go_wp2_with (fail)
  go_ret
  exact ⟨rfl, hh.2.2.2.2.2.2.2.2.2.2.2.2.2.2.2⟩
end Go.Proofs.Ytaojfkfdfpiejaa
