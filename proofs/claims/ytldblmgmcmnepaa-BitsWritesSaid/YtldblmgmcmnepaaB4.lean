/- Lemmas and walks on the way to the seat's laws; each theorem says its own conditions. -/
import Derived.Test.YtldblmgmcmnepaaB9
set_option linter.unusedSimpArgs false
set_option linter.unusedVariables false
set_option linter.unusedSimpArgs false
set_option linter.unusedVariables false
set_option maxRecDepth 100000
namespace Go.Proofs.Ytldblmgmcmnepaa
open Go.RowKit Go.Mem Go.Reg Oct Bit
/-- What a byte string's truth is: an error where it is none. -/
def boolR : List UInt8 → Bool × Int
  | [x] => if x.toNat = 0 then (false, 0) else if x.toNat = 255 then (true, 0) else (false, 6)
  | _ => (false, 6)
/-- What a parser tells. -/
def parseR (b : List UInt8) : Int × List UInt8 × Bool := match b with
  | [] => (0, [], false)
  | x :: r => if rightB (x.toNat : Int) r then ((x.toNat : Int), r, true) else (0, [], false)
set_option maxHeartbeats 1600000 in
theorem pbool_len (l : List UInt8) (v : Value) (w : World) (hb : Bs w v l) (hl : l.length ≠ 1) :
    Calls Try.prog 33 #[v] w fun e w' => e = .returned (.tuple #[.bool false, .int .i64 6]) ∧ Below w.heap.size w w' := by
  obtain ⟨A, c, rfl, hlc, hcm, hA, hcell⟩ := hb.open
  have g1 : ((l.length : Int) != 1) = true := by simp; omega
  have H := Hp.start w
  have C : True := trivial
  go_enter Try.func33, Try.ntmps33
  (repeat' ((fail_if_success (with_reducible show bodyPost _ _ _ _ _ _)); first | ((with_reducible refine Hp.abs_alloc H ?_); intro b' w' H' hb'; (try simp only [hb']); clear hb'; ((try simp only [z0, z1, z2] at H'); clear C H; have H := H'; clear H'; have C := Hp.facts H; simp only [Facts, factsL, and_true, true_and, z0, z1, z2] at C)) | ((with_reducible show wpList _ _ _ _ _ (World.setCell _ _ _)); (with_reducible apply Hp.abs_gen H); (first | ((repeat (with_reducible apply Hp.set' 0)); (with_reducible exact H); (repeat rfl); intro w' H') | ((repeat (with_reducible apply Hp.set' 1)); (with_reducible exact H); (repeat rfl); intro w' H') | ((repeat (with_reducible apply Hp.set' 2)); (with_reducible exact H); (repeat rfl); intro w' H') | ((repeat (with_reducible apply Hp.set' 3)); (with_reducible exact H); (repeat rfl); intro w' H') | ((repeat (with_reducible apply Hp.set' 4)); (with_reducible exact H); (repeat rfl); intro w' H') | ((repeat (with_reducible apply Hp.set' 5)); (with_reducible exact H); (repeat rfl); intro w' H') | ((repeat (with_reducible apply Hp.set' 6)); (with_reducible exact H); (repeat rfl); intro w' H') | ((repeat (with_reducible apply Hp.set' 7)); (with_reducible exact H); (repeat rfl); intro w' H')); ((try simp only [z0, z1, z2] at H'); clear C H; have H := H'; clear H'; have C := Hp.facts H; simp only [Facts, factsL, and_true, true_and, z0, z1, z2] at C)) | go_values | go_skip | go_guarded | go_step | go_upon | go_back | (simp only [Int.not_lt, Int.not_le] at *; go_simp) | (go_values <;> (try go_simp)) | (go_ite <;> go_prune <;> (try go_simp)) | (split <;> (first | (rename_i hx; exact (hx _ rfl).elim) | go_prune))))
  go_ret2
  exact ⟨rfl, H.low⟩
set_option maxHeartbeats 1600000 in
theorem pbool_0 (l : List UInt8) (v : Value) (w : World) (hb : Bs w v l) (hl : l.length = 1) (hx : l[0].toNat = 0) :
    Calls Try.prog 33 #[v] w fun e w' => e = .returned (.tuple #[.bool false, .int .i64 0]) ∧ Below w.heap.size w w' := by
  obtain ⟨A, c, rfl, hlc, hcm, hA, hcell⟩ := hb.open
  obtain ⟨b, o, rfl, hgl, hc⟩ := hcell 0 (by omega)
  have hc := hc 0 (by omega)
  rw [Nat.add_zero] at hc
  have g1 : ((l.length : Int) != 1) = false := by simp; omega
  rw [hx] at hc
  clear hx
  have H := Hp.start w
  have C : True := trivial
  go_enter Try.func33, Try.ntmps33
  (repeat' ((fail_if_success (with_reducible show bodyPost _ _ _ _ _ _)); first | ((with_reducible refine Hp.abs_alloc H ?_); intro b' w' H' hb'; (try simp only [hb']); clear hb'; ((try simp only [z0, z1, z2] at H'); clear C H; have H := H'; clear H'; have C := Hp.facts H; simp only [Facts, factsL, and_true, true_and, z0, z1, z2] at C)) | ((with_reducible show wpList _ _ _ _ _ (World.setCell _ _ _)); (with_reducible apply Hp.abs_gen H); (first | ((repeat (with_reducible apply Hp.set' 0)); (with_reducible exact H); (repeat rfl); intro w' H') | ((repeat (with_reducible apply Hp.set' 1)); (with_reducible exact H); (repeat rfl); intro w' H') | ((repeat (with_reducible apply Hp.set' 2)); (with_reducible exact H); (repeat rfl); intro w' H') | ((repeat (with_reducible apply Hp.set' 3)); (with_reducible exact H); (repeat rfl); intro w' H') | ((repeat (with_reducible apply Hp.set' 4)); (with_reducible exact H); (repeat rfl); intro w' H') | ((repeat (with_reducible apply Hp.set' 5)); (with_reducible exact H); (repeat rfl); intro w' H') | ((repeat (with_reducible apply Hp.set' 6)); (with_reducible exact H); (repeat rfl); intro w' H') | ((repeat (with_reducible apply Hp.set' 7)); (with_reducible exact H); (repeat rfl); intro w' H')); ((try simp only [z0, z1, z2] at H'); clear C H; have H := H'; clear H'; have C := Hp.facts H; simp only [Facts, factsL, and_true, true_and, z0, z1, z2] at C)) | go_values | go_skip | go_guarded | go_step | go_upon | go_back | (simp only [Int.not_lt, Int.not_le] at *; go_simp) | (go_values <;> (try go_simp)) | (go_ite <;> go_prune <;> (try go_simp)) | (split <;> (first | (rename_i hx; exact (hx _ rfl).elim) | go_prune))))
  go_ret2
  exact ⟨rfl, H.low⟩
set_option maxHeartbeats 1600000 in
theorem pbool_1 (l : List UInt8) (v : Value) (w : World) (hb : Bs w v l) (hl : l.length = 1) (hx : l[0].toNat = 255) :
    Calls Try.prog 33 #[v] w fun e w' => e = .returned (.tuple #[.bool true, .int .i64 0]) ∧ Below w.heap.size w w' := by
  obtain ⟨A, c, rfl, hlc, hcm, hA, hcell⟩ := hb.open
  obtain ⟨b, o, rfl, hgl, hc⟩ := hcell 0 (by omega)
  have hc := hc 0 (by omega)
  rw [Nat.add_zero] at hc
  have g1 : ((l.length : Int) != 1) = false := by simp; omega
  rw [hx] at hc
  clear hx
  have H := Hp.start w
  have C : True := trivial
  go_enter Try.func33, Try.ntmps33
  (repeat' ((fail_if_success (with_reducible show bodyPost _ _ _ _ _ _)); first | ((with_reducible refine Hp.abs_alloc H ?_); intro b' w' H' hb'; (try simp only [hb']); clear hb'; ((try simp only [z0, z1, z2] at H'); clear C H; have H := H'; clear H'; have C := Hp.facts H; simp only [Facts, factsL, and_true, true_and, z0, z1, z2] at C)) | ((with_reducible show wpList _ _ _ _ _ (World.setCell _ _ _)); (with_reducible apply Hp.abs_gen H); (first | ((repeat (with_reducible apply Hp.set' 0)); (with_reducible exact H); (repeat rfl); intro w' H') | ((repeat (with_reducible apply Hp.set' 1)); (with_reducible exact H); (repeat rfl); intro w' H') | ((repeat (with_reducible apply Hp.set' 2)); (with_reducible exact H); (repeat rfl); intro w' H') | ((repeat (with_reducible apply Hp.set' 3)); (with_reducible exact H); (repeat rfl); intro w' H') | ((repeat (with_reducible apply Hp.set' 4)); (with_reducible exact H); (repeat rfl); intro w' H') | ((repeat (with_reducible apply Hp.set' 5)); (with_reducible exact H); (repeat rfl); intro w' H') | ((repeat (with_reducible apply Hp.set' 6)); (with_reducible exact H); (repeat rfl); intro w' H') | ((repeat (with_reducible apply Hp.set' 7)); (with_reducible exact H); (repeat rfl); intro w' H')); ((try simp only [z0, z1, z2] at H'); clear C H; have H := H'; clear H'; have C := Hp.facts H; simp only [Facts, factsL, and_true, true_and, z0, z1, z2] at C)) | go_values | go_skip | go_guarded | go_step | go_upon | go_back | (simp only [Int.not_lt, Int.not_le] at *; go_simp) | (go_values <;> (try go_simp)) | (go_ite <;> go_prune <;> (try go_simp)) | (split <;> (first | (rename_i hx; exact (hx _ rfl).elim) | go_prune))))
  go_ret2
  exact ⟨rfl, H.low⟩
set_option maxHeartbeats 1600000 in
theorem pbool_2 (l : List UInt8) (v : Value) (w : World) (hb : Bs w v l) (hl : l.length = 1) (h0 : l[0].toNat ≠ 0) (h1 : l[0].toNat ≠ 255) :
    Calls Try.prog 33 #[v] w fun e w' => e = .returned (.tuple #[.bool false, .int .i64 6]) ∧ Below w.heap.size w w' := by
  obtain ⟨A, c, rfl, hlc, hcm, hA, hcell⟩ := hb.open
  obtain ⟨b, o, rfl, hgl, hc⟩ := hcell 0 (by omega)
  have hc := hc 0 (by omega)
  rw [Nat.add_zero] at hc
  have g1 : ((l.length : Int) != 1) = false := by simp; omega
  have e0 : ((l[0].toNat : Int) != 0) = true := by simp; omega
  have e1 : ((l[0].toNat : Int) != 255) = true := by simp; omega
  have H := Hp.start w
  have C : True := trivial
  go_enter Try.func33, Try.ntmps33
  (repeat' ((fail_if_success (with_reducible show bodyPost _ _ _ _ _ _)); first | ((with_reducible refine Hp.abs_alloc H ?_); intro b' w' H' hb'; (try simp only [hb']); clear hb'; ((try simp only [z0, z1, z2] at H'); clear C H; have H := H'; clear H'; have C := Hp.facts H; simp only [Facts, factsL, and_true, true_and, z0, z1, z2] at C)) | ((with_reducible show wpList _ _ _ _ _ (World.setCell _ _ _)); (with_reducible apply Hp.abs_gen H); (first | ((repeat (with_reducible apply Hp.set' 0)); (with_reducible exact H); (repeat rfl); intro w' H') | ((repeat (with_reducible apply Hp.set' 1)); (with_reducible exact H); (repeat rfl); intro w' H') | ((repeat (with_reducible apply Hp.set' 2)); (with_reducible exact H); (repeat rfl); intro w' H') | ((repeat (with_reducible apply Hp.set' 3)); (with_reducible exact H); (repeat rfl); intro w' H') | ((repeat (with_reducible apply Hp.set' 4)); (with_reducible exact H); (repeat rfl); intro w' H') | ((repeat (with_reducible apply Hp.set' 5)); (with_reducible exact H); (repeat rfl); intro w' H') | ((repeat (with_reducible apply Hp.set' 6)); (with_reducible exact H); (repeat rfl); intro w' H') | ((repeat (with_reducible apply Hp.set' 7)); (with_reducible exact H); (repeat rfl); intro w' H')); ((try simp only [z0, z1, z2] at H'); clear C H; have H := H'; clear H'; have C := Hp.facts H; simp only [Facts, factsL, and_true, true_and, z0, z1, z2] at C)) | go_values | go_skip | go_guarded | go_step | go_upon | go_back | (simp only [Int.not_lt, Int.not_le] at *; go_simp) | (go_values <;> (try go_simp)) | (go_ite <;> go_prune <;> (try go_simp)) | (split <;> (first | (rename_i hx; exact (hx _ rfl).elim) | go_prune))))
  go_ret2
  exact ⟨rfl, H.low⟩
theorem pbool_any (l : List UInt8) (v : Value) (w : World) (hb : Bs w v l) :
    Calls Try.prog 33 #[v] w fun e w' => e = .returned (.tuple #[.bool (boolR l).1, .int .i64 (boolR l).2]) ∧ Below w.heap.size w w' := by
  match l, hb with
  | [], hb => exact pbool_len _ v w hb (by simp)
  | [x], hb =>
    unfold boolR
    simp only
    split
    · exact pbool_0 [x] v w hb rfl (by assumption)
    · split
      · exact pbool_1 [x] v w hb rfl (by assumption)
      · exact pbool_2 [x] v w hb rfl (by assumption) (by assumption)
  | x :: y :: r, hb => exact pbool_len _ v w hb (by simp)
set_option maxHeartbeats 1600000 in
theorem bparse_nil (v : Value) (w : World) (hb : Bs w v []) :
    Calls Try.prog 34 #[v] w (StrB w 0 [] (.int .i64 6)) := by
  obtain ⟨A, c, rfl, hlc, hcm, hA, -⟩ := hb.open
  have H := Hp.start w
  have C : True := trivial
  go_enter Try.func34, Try.ntmps34
  (repeat' ((fail_if_success (with_reducible show bodyPost _ _ _ _ _ _)); first | ((with_reducible refine Hp.abs_alloc H ?_); intro b' w' H' hb'; (try simp only [hb']); clear hb'; ((try simp only [z0, z1, z2] at H'); clear C H; have H := H'; clear H'; have C := Hp.facts H; simp only [Facts, factsL, and_true, true_and, z0, z1, z2] at C)) | ((with_reducible show wpList _ _ _ _ _ (World.setCell _ _ _)); (with_reducible apply Hp.abs_gen H); (first | ((repeat (with_reducible apply Hp.set' 0)); (with_reducible exact H); (repeat rfl); intro w' H') | ((repeat (with_reducible apply Hp.set' 1)); (with_reducible exact H); (repeat rfl); intro w' H') | ((repeat (with_reducible apply Hp.set' 2)); (with_reducible exact H); (repeat rfl); intro w' H') | ((repeat (with_reducible apply Hp.set' 3)); (with_reducible exact H); (repeat rfl); intro w' H') | ((repeat (with_reducible apply Hp.set' 4)); (with_reducible exact H); (repeat rfl); intro w' H') | ((repeat (with_reducible apply Hp.set' 5)); (with_reducible exact H); (repeat rfl); intro w' H') | ((repeat (with_reducible apply Hp.set' 6)); (with_reducible exact H); (repeat rfl); intro w' H') | ((repeat (with_reducible apply Hp.set' 7)); (with_reducible exact H); (repeat rfl); intro w' H')); ((try simp only [z0, z1, z2] at H'); clear C H; have H := H'; clear H'; have C := Hp.facts H; simp only [Facts, factsL, and_true, true_and, z0, z1, z2] at C)) | go_values | go_skip | go_guarded | go_step | go_upon | go_back | (simp only [Int.not_lt, Int.not_le] at *; go_simp) | (go_values <;> (try go_simp)) | (go_ite <;> go_prune <;> (try go_simp)) | (split <;> (first | (rename_i hx; exact (hx _ rfl).elim) | go_prune))))
  refine bodyPost_ret (v := .tuple #[.agg #[.int .i64 0, .slice none 0 0], .int .i64 6]) (by simp [results, go_sem, C]) rfl ?_
  exact StrB.none rfl H.low
set_option maxHeartbeats 1600000 in
theorem bparse_cons (x : UInt8) (r : List UInt8) (v : Value) (w : World) (hb : Bs w v (x :: r)) (hl : r.length ≤ 100000) :
    Calls Try.prog 34 #[v] w (StrB w (parseR (x :: r)).1 (parseR (x :: r)).2.1 (if rightB (x.toNat : Int) r then .int .i64 0 else .int .i64 6)) := by
  obtain ⟨i0, hi, hz0, hz1, hz2⟩ := info_parts info_u8
  obtain ⟨A, c, rfl, hlc, hcm, hA, hcell⟩ := hb.open
  obtain ⟨b, o, rfl, hgl, hc⟩ := hcell 0 (by simp)
  have hc := hc 0 (by simp)
  rw [Nat.add_zero] at hc
  simp only [List.length_cons, List.getElem_cons_zero] at hc hlc hb ⊢
  have hB2 : ∀ (w : World), Bs w (.slice (some ⟨b, o, none⟩) (r.length + 1) c) (x :: r) → Bs w (.slice (if c = 1 then some ⟨b, o, none⟩ else Option.map (fun a : Addr => a.add 1) (some ⟨b, o, none⟩)) r.length (c - 1)) r := fun w hb => by
    have := hb.cut 1 r.length (by simp; omega)
    simpa using this
  obtain ⟨A2, hA2⟩ : ∃ A2 : Option Addr, A2 = (if c = 1 then some ⟨b, o, none⟩ else Option.map (fun a : Addr => a.add 1) (some (⟨b, o, none⟩ : Addr))) := ⟨_, rfl⟩
  obtain ⟨c2, hc2⟩ : ∃ c2 : Nat, c2 = c - 1 := ⟨_, rfl⟩
  rw [← hA2, ← hc2] at hB2
  have gA := Lib.hid hA2
  have gc := Lib.hid hc2
  clear hA2 hc2
  have hp : parseR (x :: r) = if rightB (x.toNat : Int) r then ((x.toNat : Int), r, true) else (0, [], false) := rfl
  have hr := bright_any (x.toNat : Int) r
  generalize parseR (x :: r) = pr at *
  obtain ⟨er, her⟩ : ∃ er : Value, (if rightB (x.toNat : Int) r then .int .i64 0 else .int .i64 6) = er := ⟨_, rfl⟩
  rw [her]
  generalize rightB (x.toNat : Int) r = rb at *
  have gp := Lib.hid hp
  have ge := Lib.hid her
  clear hp her
  have hx := x.toNat_lt
  have H := Hp.start w
  have C : True := trivial
  go_enter Try.func34, Try.ntmps34
  (repeat' ((fail_if_success (with_reducible show bodyPost _ _ _ _ _ _)); first | ((with_reducible refine Hp.abs_alloc H ?_); intro b' w' H' hb'; (try simp only [hb']); clear hb'; ((try simp only [z0, z1, z2] at H'); clear C H; have H := H'; clear H'; have C := Hp.facts H; simp only [Facts, factsL, and_true, true_and, z0, z1, z2] at C)) | ((with_reducible show wpList _ _ _ _ _ (World.setCell _ _ _)); (with_reducible apply Hp.abs_gen H); (first | ((repeat (with_reducible apply Hp.set' 0)); (with_reducible exact H); (repeat rfl); intro w' H') | ((repeat (with_reducible apply Hp.set' 1)); (with_reducible exact H); (repeat rfl); intro w' H') | ((repeat (with_reducible apply Hp.set' 2)); (with_reducible exact H); (repeat rfl); intro w' H') | ((repeat (with_reducible apply Hp.set' 3)); (with_reducible exact H); (repeat rfl); intro w' H') | ((repeat (with_reducible apply Hp.set' 4)); (with_reducible exact H); (repeat rfl); intro w' H') | ((repeat (with_reducible apply Hp.set' 5)); (with_reducible exact H); (repeat rfl); intro w' H') | ((repeat (with_reducible apply Hp.set' 6)); (with_reducible exact H); (repeat rfl); intro w' H') | ((repeat (with_reducible apply Hp.set' 7)); (with_reducible exact H); (repeat rfl); intro w' H')); ((try simp only [z0, z1, z2] at H'); clear C H; have H := H'; clear H'; have C := Hp.facts H; simp only [Facts, factsL, and_true, true_and, z0, z1, z2] at C)) | go_values | go_skip | go_guarded | go_step | go_upon | go_back | (simp only [Int.not_lt, Int.not_le] at *; go_simp) | (go_values <;> (try go_simp)) | (go_ite <;> go_prune <;> (try go_simp)) | (split <;> (first | (rename_i hx; exact (hx _ rfl).elim) | go_prune))))
  try simp (disch := omega) only [decide_eq_true, decide_eq_false]
  obtain ⟨wR3, rfl⟩ := Hp.nameW H
  apply region_n (frm wR3.heap.size (fun _ => Hp _ _)) (frm_ok ?hfs_1) frm_sz [] [.light 0 0, .light 0 0, .light 0 0, .light 0 0, .light 0 0, .light 0 0, .light 0 0, .light 0 0, .light 0 0] [false, false, false, false, false, false, false, false, true] 9 22 [9, 9, 9, 9, 9, 9, 9, 9, 9] [some 9, some 10, some 11, some 12, some 13, some 14, some 15, some 16, some 4] [[], [0], [1], [2], [], [4], [5], [3, 6], []] [Eq1 _, Eq1 _, Eq1 _, Eq1 _, Eq1 _, Eq1 (.slice A2 r.length c2), (RowJ wR3.heap.size 5 r.length (r.map u8c)), (fun v w2 => ∃ u, v = .agg #[.int .i64 (x.toNat : Int), u] ∧ RowJ wR3.heap.size 5 r.length (r.map u8c) u w2), NewPt wR3.heap.size _ _] ?hq1_1 ?hq2_1 ?hq3_1 ?hq4_1 ?hq5_1 ?hq6_1 _ ?hA_1 ?hst_1 ?h0_1 ?hsteps_1 ?hend_1
  case hq1_1 => kernel_rfl
  case hq2_1 => kernel_rfl
  case hq3_1 => kernel_rfl
  case hq5_1 => kernel_rfl
  case hq4_1 => rfl
  case hq6_1 => rfl
  case hA_1 => intro vs; simp only [fillD, Nat.reduceAdd, Act.put, List.setIfInBounds_toArray, List.set_cons_zero, List.set_cons_succ]; rfl
  case h0_1 => exact H.drew
  case hfs_1 => exact fun _ _ _ hb h => Hp.step h hb
  case hsteps_1 =>
    refine ⟨?_, ?_, ?_, ?_, ?_, ?_, ?_, ?_, ?_, trivial⟩
    · intro p vs w' K hJ hp1 hp2 hS hR hK
      rw [if_pos (by rfl)]
      go_step
      exact hK.out _ _ (Below.refl _ _) Eq1.mk Fresh.no
    · intro p vs w' K hJ hp1 hp2 hS hR hK
      simp only [DepJ, List.getD_cons_zero, List.getD_cons_succ] at hJ
      obtain ⟨j0, -⟩ := hJ
      have j0 := Eq1.out j0
      simp only [j0] at hK ⊢
      rw [if_pos (by rfl)]
      go_step
      exact hK.out _ _ (Below.refl _ _) Eq1.mk Fresh.no
    · intro p vs w' K hJ hp1 hp2 hS hR hK
      simp only [DepJ, List.getD_cons_zero, List.getD_cons_succ] at hJ
      obtain ⟨j1, -⟩ := hJ
      have j1 := Eq1.out j1
      simp only [j1] at hK ⊢
      rw [if_pos (by rfl)]
      have C := Hp.facts hS
      simp only [Facts, factsL, and_true, true_and, z0, z1, z2] at C
      have hsz := hR.1
      go_step
      exact hK.out _ _ (Below.refl _ _) Eq1.mk Fresh.no
    · intro p vs w' K hJ hp1 hp2 hS hR hK
      simp only [DepJ, List.getD_cons_zero, List.getD_cons_succ] at hJ
      obtain ⟨j2, -⟩ := hJ
      have j2 := Eq1.out j2
      simp only [j2] at hK ⊢
      rw [if_pos (by rfl)]
      go_step
      exact hK.out _ _ (Below.refl _ _) Eq1.mk Fresh.no
    · intro p vs w' K hJ hp1 hp2 hS hR hK
      rw [if_pos (by rfl)]
      go_step
      exact hK.out _ _ (Below.refl _ _) Eq1.mk Fresh.no
    · intro p vs w' K hJ hp1 hp2 hS hR hK
      simp only [DepJ, List.getD_cons_zero, List.getD_cons_succ] at hJ
      obtain ⟨j4, -⟩ := hJ
      have j4 := Eq1.out j4
      simp only [j4] at hK ⊢
      rw [if_pos (by rfl)]
      go_step
      exact hK.out _ _ (Below.refl _ _) (Eq1.of (by first | (rw [gA.out, gc.out]; done) | (rw [gA.out, gc.out]; congr 1; done) | (rw [gA.out, gc.out]; congr 1; omega))) Fresh.no
    · intro p vs w' K hJ hp1 hp2 hS hR hK
      simp only [DepJ, List.getD_cons_zero, List.getD_cons_succ] at hJ
      obtain ⟨j5, -⟩ := hJ
      have j5 := Eq1.out j5
      simp only [j5] at hK ⊢
      rw [if_pos (by rfl)]
      replace hS : Hp _ _ _ := hS
      go_step
      refine (clone_any r _ _ (hB2 _ (hS.bs hb)) hl).mono ?_
      rintro e' w'' ⟨⟨v', rfl, ho⟩, hb⟩
      exact hK.out _ _ hb (RowJ.mk hR.1 ho) Fresh.no
    · intro p vs w' K hJ hp1 hp2 hS hR hK
      simp only [DepJ, List.getD_cons_zero, List.getD_cons_succ] at hJ
      obtain ⟨j3, j6, -⟩ := hJ
      have j3 := Eq1.out j3
      have jo6 := j6
      obtain ⟨A6, c6, j6⟩ := Go.LawLift.own_form jo6
      rw [j6] at jo6
      simp only [j3, j6] at hK ⊢
      rw [if_pos (by rfl)]
      go_step
      exact hK.out _ _ (Below.refl _ _) ⟨_, rfl, jo6⟩ Fresh.no
    · intro p vs w' K hJ hp1 hp2 hS hR hK
      rw [if_pos (by rfl)]
      go_step
      exact hK.out _ _ ((Below.refl _ _).alloc (Nat.le_refl _) _) (NewPt.mk _ _ _ _ hR.1) Fresh.pt
  case hst_1 => refine ⟨fun _ _ _ _ h => h, fun _ _ _ _ h => h, fun _ _ _ _ h => h, fun _ _ _ _ h => h, fun _ _ _ _ h => h, fun _ _ _ _ h => h, fun _ _ _ hs h => RowJ.stay hs h, fun _ _ _ hs ⟨u, e, h⟩ => ⟨u, e, RowJ.stay hs h⟩, fun _ _ _ hs h => NewPt.stayR hs h, trivial⟩
  intro vs w' hJ hD hS hR
  simp only [AllJ, Nat.reduceAdd] at hJ
  obtain ⟨v0, v1, v2, v3, v4, v5, v6, v7, v8, -⟩ := hJ
  clear C
  replace v0 := Eq1.out v0
  replace v1 := Eq1.out v1
  replace v2 := Eq1.out v2
  replace v3 := Eq1.out v3
  replace v4 := Eq1.out v4
  replace v5 := Eq1.out v5
  have vo6 := (show World.ownsRow _ _ _ _ _ _ _ from v6)
  obtain ⟨A6, c6, e6⟩ := Go.LawLift.own_form vo6
  rw [e6] at vo6
  obtain ⟨u7, e7, vo7⟩ := v7
  replace vo7 := (show World.ownsRow _ _ _ _ _ _ _ from vo7)
  obtain ⟨A7, c7, f7⟩ := Go.LawLift.own_form vo7
  rw [f7] at e7 vo7
  obtain ⟨k8, e8, hB8, hh8⟩ := v8
  simp only [v0, v1, v2, v3, v4, v5, e6, e7, e8, List.drop_succ_cons, List.drop_zero]
  replace hS : Hp _ _ _ := hS
  have H' := Hp.adopts hS H.low.size (fun k hk => Hp.lows H k hk) [.blk k8 _ _, .row _ 1 (.slice A7 _ c7) _ _] (by intro x hx; simp only [List.mem_cons, List.not_mem_nil, or_false] at hx; rcases hx with rfl | rfl; exact ⟨hh8, hB8⟩; exact vo7) (nodup2 (fun k h1 h2 => row_blk_apart vo7 hh8 (by decide) k h2 h1))
  simp only [List.cons_append, List.nil_append] at H'
  clear hD hR hS v0 v1 v2 v3 v4 v5
  clear e8 hB8 hh8
  clear vo6 e6 v6
  clear e7 f7 vo7
  clear vs H
  have H := H'; clear H'; have C := Hp.facts H; simp only [Facts, factsL, and_true, true_and, z0, z1, z2] at C
  (repeat' ((fail_if_success (with_reducible show bodyPost _ _ _ _ _ _)); first | ((with_reducible refine Hp.abs_alloc H ?_); intro b' w' H' hb'; (try simp only [hb']); clear hb'; ((try simp only [z0, z1, z2] at H'); clear C H; have H := H'; clear H'; have C := Hp.facts H; simp only [Facts, factsL, and_true, true_and, z0, z1, z2] at C)) | ((with_reducible show wpList _ _ _ _ _ (World.setCell _ _ _)); (with_reducible apply Hp.abs_gen H); (first | ((repeat (with_reducible apply Hp.set' 0)); (with_reducible exact H); (repeat rfl); intro w' H') | ((repeat (with_reducible apply Hp.set' 1)); (with_reducible exact H); (repeat rfl); intro w' H') | ((repeat (with_reducible apply Hp.set' 2)); (with_reducible exact H); (repeat rfl); intro w' H') | ((repeat (with_reducible apply Hp.set' 3)); (with_reducible exact H); (repeat rfl); intro w' H') | ((repeat (with_reducible apply Hp.set' 4)); (with_reducible exact H); (repeat rfl); intro w' H') | ((repeat (with_reducible apply Hp.set' 5)); (with_reducible exact H); (repeat rfl); intro w' H') | ((repeat (with_reducible apply Hp.set' 6)); (with_reducible exact H); (repeat rfl); intro w' H') | ((repeat (with_reducible apply Hp.set' 7)); (with_reducible exact H); (repeat rfl); intro w' H')); ((try simp only [z0, z1, z2] at H'); clear C H; have H := H'; clear H'; have C := Hp.facts H; simp only [Facts, factsL, and_true, true_and, z0, z1, z2] at C)) | go_values | go_skip | go_guarded | go_step | go_upon | go_back | (simp only [Int.not_lt, Int.not_le] at *; go_simp) | (go_values <;> (try go_simp)) | (go_ite <;> go_prune <;> (try go_simp)) | (split <;> (first | (rename_i hx; exact (hx _ rfl).elim) | go_prune))))
  refine (hr _ _ (Hp.row H 1 rfl)).mono ?_
  (rintro e' w' ⟨rfl, hb'⟩; (have H' := Hp.step H hb'; clear hb'; ((try simp only [z0, z1, z2] at H'); clear C H; have H := H'; clear H'; have C := Hp.facts H; simp only [Facts, factsL, and_true, true_and, z0, z1, z2] at C)))
  cases rb
  · have gp := gp.out
    have ge := ge.out
    rw [if_neg (by simp)] at gp ge
    subst gp ge
    (repeat' ((fail_if_success (with_reducible show bodyPost _ _ _ _ _ _)); first | ((with_reducible refine Hp.abs_alloc H ?_); intro b' w' H' hb'; (try simp only [hb']); clear hb'; ((try simp only [z0, z1, z2] at H'); clear C H; have H := H'; clear H'; have C := Hp.facts H; simp only [Facts, factsL, and_true, true_and, z0, z1, z2] at C)) | ((with_reducible show wpList _ _ _ _ _ (World.setCell _ _ _)); (with_reducible apply Hp.abs_gen H); (first | ((repeat (with_reducible apply Hp.set' 0)); (with_reducible exact H); (repeat rfl); intro w' H') | ((repeat (with_reducible apply Hp.set' 1)); (with_reducible exact H); (repeat rfl); intro w' H') | ((repeat (with_reducible apply Hp.set' 2)); (with_reducible exact H); (repeat rfl); intro w' H') | ((repeat (with_reducible apply Hp.set' 3)); (with_reducible exact H); (repeat rfl); intro w' H') | ((repeat (with_reducible apply Hp.set' 4)); (with_reducible exact H); (repeat rfl); intro w' H') | ((repeat (with_reducible apply Hp.set' 5)); (with_reducible exact H); (repeat rfl); intro w' H') | ((repeat (with_reducible apply Hp.set' 6)); (with_reducible exact H); (repeat rfl); intro w' H') | ((repeat (with_reducible apply Hp.set' 7)); (with_reducible exact H); (repeat rfl); intro w' H')); ((try simp only [z0, z1, z2] at H'); clear C H; have H := H'; clear H'; have C := Hp.facts H; simp only [Facts, factsL, and_true, true_and, z0, z1, z2] at C)) | go_values | go_skip | go_guarded | go_step | go_upon | go_back | (simp only [Int.not_lt, Int.not_le] at *; go_simp) | (go_values <;> (try go_simp)) | (go_ite <;> go_prune <;> (try go_simp)) | (split <;> (first | (rename_i hx; exact (hx _ rfl).elim) | go_prune))))
    refine bodyPost_ret (v := .tuple #[.agg #[.int .i64 0, .slice none 0 0], .int .i64 6]) (by simp [results, go_sem, C]) rfl ?_
    exact StrB.none rfl H.low
  · have gp := gp.out
    have ge := ge.out
    rw [if_pos rfl] at gp ge
    subst gp ge
    (repeat' ((fail_if_success (with_reducible show bodyPost _ _ _ _ _ _)); first | ((with_reducible refine Hp.abs_alloc H ?_); intro b' w' H' hb'; (try simp only [hb']); clear hb'; ((try simp only [z0, z1, z2] at H'); clear C H; have H := H'; clear H'; have C := Hp.facts H; simp only [Facts, factsL, and_true, true_and, z0, z1, z2] at C)) | ((with_reducible show wpList _ _ _ _ _ (World.setCell _ _ _)); (with_reducible apply Hp.abs_gen H); (first | ((repeat (with_reducible apply Hp.set' 0)); (with_reducible exact H); (repeat rfl); intro w' H') | ((repeat (with_reducible apply Hp.set' 1)); (with_reducible exact H); (repeat rfl); intro w' H') | ((repeat (with_reducible apply Hp.set' 2)); (with_reducible exact H); (repeat rfl); intro w' H') | ((repeat (with_reducible apply Hp.set' 3)); (with_reducible exact H); (repeat rfl); intro w' H') | ((repeat (with_reducible apply Hp.set' 4)); (with_reducible exact H); (repeat rfl); intro w' H') | ((repeat (with_reducible apply Hp.set' 5)); (with_reducible exact H); (repeat rfl); intro w' H') | ((repeat (with_reducible apply Hp.set' 6)); (with_reducible exact H); (repeat rfl); intro w' H') | ((repeat (with_reducible apply Hp.set' 7)); (with_reducible exact H); (repeat rfl); intro w' H')); ((try simp only [z0, z1, z2] at H'); clear C H; have H := H'; clear H'; have C := Hp.facts H; simp only [Facts, factsL, and_true, true_and, z0, z1, z2] at C)) | go_values | go_skip | go_guarded | go_step | go_upon | go_back | (simp only [Int.not_lt, Int.not_le] at *; go_simp) | (go_values <;> (try go_simp)) | (go_ite <;> go_prune <;> (try go_simp)) | (split <;> (first | (rename_i hx; exact (hx _ rfl).elim) | go_prune))))
    refine bodyPost_ret (v := .tuple #[.agg #[.int .i64 (x.toNat : Int), .slice A7 r.length c7], .int .i64 0]) (by simp [results, go_sem, C]) rfl ?_
    exact StrB.of H 1 rfl rfl rfl rfl
set_option maxHeartbeats 1600000 in
theorem rparse_cons (x : UInt8) (r : List UInt8) (v : Value) (w : World) (hb : Bs w v (x :: r)) (hl : r.length ≤ 100000) :
    Calls Try.prog 35 #[v] w (StrB w (parseR (x :: r)).1 (parseR (x :: r)).2.1 (if rightB (x.toNat : Int) r then .bool true else .bool false)) := by
  obtain ⟨i0, hi, hz0, hz1, hz2⟩ := info_parts info_u8
  obtain ⟨A, c, rfl, hlc, hcm, hA, hcell⟩ := hb.open
  obtain ⟨b, o, rfl, hgl, hc⟩ := hcell 0 (by simp)
  have hc := hc 0 (by simp)
  rw [Nat.add_zero] at hc
  simp only [List.length_cons, List.getElem_cons_zero] at hc hlc hb ⊢
  have hB2 : ∀ (w : World), Bs w (.slice (some ⟨b, o, none⟩) (r.length + 1) c) (x :: r) → Bs w (.slice (if c = 1 then some ⟨b, o, none⟩ else Option.map (fun a : Addr => a.add 1) (some ⟨b, o, none⟩)) r.length (c - 1)) r := fun w hb => by
    have := hb.cut 1 r.length (by simp; omega)
    simpa using this
  obtain ⟨A2, hA2⟩ : ∃ A2 : Option Addr, A2 = (if c = 1 then some ⟨b, o, none⟩ else Option.map (fun a : Addr => a.add 1) (some (⟨b, o, none⟩ : Addr))) := ⟨_, rfl⟩
  obtain ⟨c2, hc2⟩ : ∃ c2 : Nat, c2 = c - 1 := ⟨_, rfl⟩
  rw [← hA2, ← hc2] at hB2
  have gA := Lib.hid hA2
  have gc := Lib.hid hc2
  clear hA2 hc2
  have hp : parseR (x :: r) = if rightB (x.toNat : Int) r then ((x.toNat : Int), r, true) else (0, [], false) := rfl
  have hr := fun v w hb => rright5_any (x.toNat : Int) r v w hb hl
  generalize parseR (x :: r) = pr at *
  obtain ⟨er, her⟩ : ∃ er : Value, (if rightB (x.toNat : Int) r then .bool true else .bool false) = er := ⟨_, rfl⟩
  rw [her]
  generalize rightB (x.toNat : Int) r = rb at *
  have gp := Lib.hid hp
  have ge := Lib.hid her
  clear hp her
  have hx := x.toNat_lt
  have H := Hp.start w
  have C : True := trivial
  go_enter Try.func35, Try.ntmps35
  (repeat' ((fail_if_success (with_reducible show bodyPost _ _ _ _ _ _)); first | ((with_reducible refine Hp.abs_alloc H ?_); intro b' w' H' hb'; (try simp only [hb']); clear hb'; ((try simp only [z0, z1, z2] at H'); clear C H; have H := H'; clear H'; have C := Hp.facts H; simp only [Facts, factsL, and_true, true_and, z0, z1, z2] at C)) | ((with_reducible show wpList _ _ _ _ _ (World.setCell _ _ _)); (with_reducible apply Hp.abs_gen H); (first | ((repeat (with_reducible apply Hp.set' 0)); (with_reducible exact H); (repeat rfl); intro w' H') | ((repeat (with_reducible apply Hp.set' 1)); (with_reducible exact H); (repeat rfl); intro w' H') | ((repeat (with_reducible apply Hp.set' 2)); (with_reducible exact H); (repeat rfl); intro w' H') | ((repeat (with_reducible apply Hp.set' 3)); (with_reducible exact H); (repeat rfl); intro w' H') | ((repeat (with_reducible apply Hp.set' 4)); (with_reducible exact H); (repeat rfl); intro w' H') | ((repeat (with_reducible apply Hp.set' 5)); (with_reducible exact H); (repeat rfl); intro w' H') | ((repeat (with_reducible apply Hp.set' 6)); (with_reducible exact H); (repeat rfl); intro w' H') | ((repeat (with_reducible apply Hp.set' 7)); (with_reducible exact H); (repeat rfl); intro w' H')); ((try simp only [z0, z1, z2] at H'); clear C H; have H := H'; clear H'; have C := Hp.facts H; simp only [Facts, factsL, and_true, true_and, z0, z1, z2] at C)) | go_values | go_skip | go_guarded | go_step | go_upon | go_back | (simp only [Int.not_lt, Int.not_le] at *; go_simp) | (go_values <;> (try go_simp)) | (go_ite <;> go_prune <;> (try go_simp)) | (split <;> (first | (rename_i hx; exact (hx _ rfl).elim) | go_prune))))
  try simp (disch := omega) only [decide_eq_true, decide_eq_false]
  obtain ⟨wR3, rfl⟩ := Hp.nameW H
  apply region_n (frm wR3.heap.size (fun _ => Hp _ _)) (frm_ok ?hfs_2) frm_sz [] [.light 0 0, .light 0 0, .light 0 0, .light 0 0, .light 0 0, .light 0 0, .light 0 0, .light 0 0, .light 0 0, .light 0 0] [false, false, false, false, false, false, false, false, false, true] 10 23 [10, 10, 10, 10, 10, 10, 10, 10, 10, 10] [some 9, some 10, some 11, some 12, some 13, some 14, some 15, some 16, some 17, some 4] [[], [0], [1], [2], [], [], [5], [4, 6], [3, 7], []] [Eq1 _, Eq1 _, Eq1 _, Eq1 _, (NewSl wR3.heap.size 0 #[] 5), Eq1 _, Eq1 (.slice A2 r.length c2), (RowJ wR3.heap.size 5 r.length (r.map u8c)), (fun v w2 => ∃ u, v = .agg #[.int .i64 (x.toNat : Int), u] ∧ RowJ wR3.heap.size 5 r.length (r.map u8c) u w2), NewPt wR3.heap.size _ _] ?hq1_2 ?hq2_2 ?hq3_2 ?hq4_2 ?hq5_2 ?hq6_2 _ ?hA_2 ?hst_2 ?h0_2 ?hsteps_2 ?hend_2
  case hq1_2 => kernel_rfl
  case hq2_2 => kernel_rfl
  case hq3_2 => kernel_rfl
  case hq5_2 => kernel_rfl
  case hq4_2 => rfl
  case hq6_2 => rfl
  case hA_2 => intro vs; simp only [fillD, Nat.reduceAdd, Act.put, List.setIfInBounds_toArray, List.set_cons_zero, List.set_cons_succ]; rfl
  case h0_2 => exact H.drew
  case hfs_2 => exact fun _ _ _ hb h => Hp.step h hb
  case hsteps_2 =>
    refine ⟨?_, ?_, ?_, ?_, ?_, ?_, ?_, ?_, ?_, ?_, trivial⟩
    · intro p vs w' K hJ hp1 hp2 hS hR hK
      rw [if_pos (by rfl)]
      go_step
      exact hK.out _ _ (Below.refl _ _) Eq1.mk Fresh.no
    · intro p vs w' K hJ hp1 hp2 hS hR hK
      simp only [DepJ, List.getD_cons_zero, List.getD_cons_succ] at hJ
      obtain ⟨j0, -⟩ := hJ
      have j0 := Eq1.out j0
      simp only [j0] at hK ⊢
      rw [if_pos (by rfl)]
      go_step
      exact hK.out _ _ (Below.refl _ _) Eq1.mk Fresh.no
    · intro p vs w' K hJ hp1 hp2 hS hR hK
      simp only [DepJ, List.getD_cons_zero, List.getD_cons_succ] at hJ
      obtain ⟨j1, -⟩ := hJ
      have j1 := Eq1.out j1
      simp only [j1] at hK ⊢
      rw [if_pos (by rfl)]
      have C := Hp.facts hS
      simp only [Facts, factsL, and_true, true_and, z0, z1, z2] at C
      have hsz := hR.1
      go_step
      exact hK.out _ _ (Below.refl _ _) Eq1.mk Fresh.no
    · intro p vs w' K hJ hp1 hp2 hS hR hK
      simp only [DepJ, List.getD_cons_zero, List.getD_cons_succ] at hJ
      obtain ⟨j2, -⟩ := hJ
      have j2 := Eq1.out j2
      simp only [j2] at hK ⊢
      rw [if_pos (by rfl)]
      go_step
      exact hK.out _ _ (Below.refl _ _) Eq1.mk Fresh.no
    · intro p vs w' K hJ hp1 hp2 hS hR hK
      rw [if_pos (by rfl)]
      go_step
      exact hK.out _ _ ((Below.refl _ _).alloc (Nat.le_refl _) _) (NewSl.mk _ _ _ _ _ hR.1) Fresh.no
    · intro p vs w' K hJ hp1 hp2 hS hR hK
      rw [if_pos (by rfl)]
      go_step
      exact hK.out _ _ (Below.refl _ _) Eq1.mk Fresh.no
    · intro p vs w' K hJ hp1 hp2 hS hR hK
      simp only [DepJ, List.getD_cons_zero, List.getD_cons_succ] at hJ
      obtain ⟨j5, -⟩ := hJ
      have j5 := Eq1.out j5
      simp only [j5] at hK ⊢
      rw [if_pos (by rfl)]
      go_step
      exact hK.out _ _ (Below.refl _ _) (Eq1.of (by first | (rw [gA.out, gc.out]; done) | (rw [gA.out, gc.out]; congr 1; done) | (rw [gA.out, gc.out]; congr 1; omega))) Fresh.no
    · intro p vs w' K hJ hp1 hp2 hS hR hK
      simp only [DepJ, List.getD_cons_zero, List.getD_cons_succ] at hJ
      obtain ⟨j4, j6, -⟩ := hJ
      obtain ⟨k4, j4, kB4, kh4⟩ := j4
      have j6 := Eq1.out j6
      simp only [j4, j6] at hK ⊢
      rw [if_pos (by rfl)]
      replace hS : Hp _ _ _ := hS
      refine wp_append_new _ _ _ rfl Try.underlying23 hi hz0 hz1 hz2 rfl rfl kh4 (A := A2) (m := r.length) (c := c2) (news := r.map u8c) rfl (by simp) (hB2 _ (hS.bs hb)).src.1 (hB2 _ (hS.bs hb)).src.2.2 (u8c_one _) (by unfold maxLen; omega) (by omega) hR.1 kB4 ?_
      intro v' w'' hb hj
      exact hK.out _ _ hb hj Fresh.no
    · intro p vs w' K hJ hp1 hp2 hS hR hK
      simp only [DepJ, List.getD_cons_zero, List.getD_cons_succ] at hJ
      obtain ⟨j3, j7, -⟩ := hJ
      have j3 := Eq1.out j3
      have jo7 := j7
      obtain ⟨A7, c7, j7⟩ := Go.LawLift.own_form jo7
      rw [j7] at jo7
      simp only [j3, j7] at hK ⊢
      rw [if_pos (by rfl)]
      go_step
      exact hK.out _ _ (Below.refl _ _) ⟨_, rfl, jo7⟩ Fresh.no
    · intro p vs w' K hJ hp1 hp2 hS hR hK
      rw [if_pos (by rfl)]
      go_step
      exact hK.out _ _ ((Below.refl _ _).alloc (Nat.le_refl _) _) (NewPt.mk _ _ _ _ hR.1) Fresh.pt
  case hst_2 => refine ⟨fun _ _ _ _ h => h, fun _ _ _ _ h => h, fun _ _ _ _ h => h, fun _ _ _ _ h => h, fun _ _ _ hs h => NewSl.stayR hs h, fun _ _ _ _ h => h, fun _ _ _ _ h => h, fun _ _ _ hs h => RowJ.stay hs h, fun _ _ _ hs ⟨u, e, h⟩ => ⟨u, e, RowJ.stay hs h⟩, fun _ _ _ hs h => NewPt.stayR hs h, trivial⟩
  intro vs w' hJ hD hS hR
  simp only [AllJ, Nat.reduceAdd] at hJ
  obtain ⟨v0, v1, v2, v3, v4, v5, v6, v7, v8, v9, -⟩ := hJ
  clear C
  replace v0 := Eq1.out v0
  replace v1 := Eq1.out v1
  replace v2 := Eq1.out v2
  replace v3 := Eq1.out v3
  replace v5 := Eq1.out v5
  replace v6 := Eq1.out v6
  obtain ⟨k4, e4, -⟩ := v4
  have vo7 := (show World.ownsRow _ _ _ _ _ _ _ from v7)
  obtain ⟨A7, c7, e7⟩ := Go.LawLift.own_form vo7
  rw [e7] at vo7
  obtain ⟨u8, e8, vo8⟩ := v8
  replace vo8 := (show World.ownsRow _ _ _ _ _ _ _ from vo8)
  obtain ⟨A8, c8, f8⟩ := Go.LawLift.own_form vo8
  rw [f8] at e8 vo8
  obtain ⟨k9, e9, hB9, hh9⟩ := v9
  simp only [v0, v1, v2, v3, v5, v6, e4, e7, e8, e9, List.drop_succ_cons, List.drop_zero]
  replace hS : Hp _ _ _ := hS
  have H' := Hp.adopts hS H.low.size (fun k hk => Hp.lows H k hk) [.blk k9 _ _, .row _ 1 (.slice A8 _ c8) _ _] (by intro x hx; simp only [List.mem_cons, List.not_mem_nil, or_false] at hx; rcases hx with rfl | rfl; exact ⟨hh9, hB9⟩; exact vo8) (nodup2 (fun k h1 h2 => row_blk_apart vo8 hh9 (by decide) k h2 h1))
  simp only [List.cons_append, List.nil_append] at H'
  clear hD hR hS v0 v1 v2 v3 v5 v6
  clear e9 hB9 hh9
  clear e4
  clear vo7 e7 v7
  clear e8 f8 vo8
  clear vs H
  have H := H'; clear H'; have C := Hp.facts H; simp only [Facts, factsL, and_true, true_and, z0, z1, z2] at C
  (repeat' ((fail_if_success (with_reducible show bodyPost _ _ _ _ _ _)); first | ((with_reducible refine Hp.abs_alloc H ?_); intro b' w' H' hb'; (try simp only [hb']); clear hb'; ((try simp only [z0, z1, z2] at H'); clear C H; have H := H'; clear H'; have C := Hp.facts H; simp only [Facts, factsL, and_true, true_and, z0, z1, z2] at C)) | ((with_reducible show wpList _ _ _ _ _ (World.setCell _ _ _)); (with_reducible apply Hp.abs_gen H); (first | ((repeat (with_reducible apply Hp.set' 0)); (with_reducible exact H); (repeat rfl); intro w' H') | ((repeat (with_reducible apply Hp.set' 1)); (with_reducible exact H); (repeat rfl); intro w' H') | ((repeat (with_reducible apply Hp.set' 2)); (with_reducible exact H); (repeat rfl); intro w' H') | ((repeat (with_reducible apply Hp.set' 3)); (with_reducible exact H); (repeat rfl); intro w' H') | ((repeat (with_reducible apply Hp.set' 4)); (with_reducible exact H); (repeat rfl); intro w' H') | ((repeat (with_reducible apply Hp.set' 5)); (with_reducible exact H); (repeat rfl); intro w' H') | ((repeat (with_reducible apply Hp.set' 6)); (with_reducible exact H); (repeat rfl); intro w' H') | ((repeat (with_reducible apply Hp.set' 7)); (with_reducible exact H); (repeat rfl); intro w' H')); ((try simp only [z0, z1, z2] at H'); clear C H; have H := H'; clear H'; have C := Hp.facts H; simp only [Facts, factsL, and_true, true_and, z0, z1, z2] at C)) | go_values | go_skip | go_guarded | go_step | go_upon | go_back | (simp only [Int.not_lt, Int.not_le] at *; go_simp) | (go_values <;> (try go_simp)) | (go_ite <;> go_prune <;> (try go_simp)) | (split <;> (first | (rename_i hx; exact (hx _ rfl).elim) | go_prune))))
  refine (hr _ _ (Hp.row H 1 rfl)).mono ?_
  (rintro e' w' ⟨rfl, hb'⟩; (have H' := Hp.step H hb'; clear hb'; ((try simp only [z0, z1, z2] at H'); clear C H; have H := H'; clear H'; have C := Hp.facts H; simp only [Facts, factsL, and_true, true_and, z0, z1, z2] at C)))
  cases rb
  · have gp := gp.out
    have ge := ge.out
    rw [if_neg (by simp)] at gp ge
    subst gp ge
    (repeat' ((fail_if_success (with_reducible show bodyPost _ _ _ _ _ _)); first | ((with_reducible refine Hp.abs_alloc H ?_); intro b' w' H' hb'; (try simp only [hb']); clear hb'; ((try simp only [z0, z1, z2] at H'); clear C H; have H := H'; clear H'; have C := Hp.facts H; simp only [Facts, factsL, and_true, true_and, z0, z1, z2] at C)) | ((with_reducible show wpList _ _ _ _ _ (World.setCell _ _ _)); (with_reducible apply Hp.abs_gen H); (first | ((repeat (with_reducible apply Hp.set' 0)); (with_reducible exact H); (repeat rfl); intro w' H') | ((repeat (with_reducible apply Hp.set' 1)); (with_reducible exact H); (repeat rfl); intro w' H') | ((repeat (with_reducible apply Hp.set' 2)); (with_reducible exact H); (repeat rfl); intro w' H') | ((repeat (with_reducible apply Hp.set' 3)); (with_reducible exact H); (repeat rfl); intro w' H') | ((repeat (with_reducible apply Hp.set' 4)); (with_reducible exact H); (repeat rfl); intro w' H') | ((repeat (with_reducible apply Hp.set' 5)); (with_reducible exact H); (repeat rfl); intro w' H') | ((repeat (with_reducible apply Hp.set' 6)); (with_reducible exact H); (repeat rfl); intro w' H') | ((repeat (with_reducible apply Hp.set' 7)); (with_reducible exact H); (repeat rfl); intro w' H')); ((try simp only [z0, z1, z2] at H'); clear C H; have H := H'; clear H'; have C := Hp.facts H; simp only [Facts, factsL, and_true, true_and, z0, z1, z2] at C)) | go_values | go_skip | go_guarded | go_step | go_upon | go_back | (simp only [Int.not_lt, Int.not_le] at *; go_simp) | (go_values <;> (try go_simp)) | (go_ite <;> go_prune <;> (try go_simp)) | (split <;> (first | (rename_i hx; exact (hx _ rfl).elim) | go_prune))))
    refine bodyPost_ret (v := .tuple #[.agg #[.int .i64 0, .slice none 0 0], .bool false]) (by simp [results, go_sem, C]) rfl ?_
    exact StrB.none rfl H.low
  · have gp := gp.out
    have ge := ge.out
    rw [if_pos rfl] at gp ge
    subst gp ge
    (repeat' ((fail_if_success (with_reducible show bodyPost _ _ _ _ _ _)); first | ((with_reducible refine Hp.abs_alloc H ?_); intro b' w' H' hb'; (try simp only [hb']); clear hb'; ((try simp only [z0, z1, z2] at H'); clear C H; have H := H'; clear H'; have C := Hp.facts H; simp only [Facts, factsL, and_true, true_and, z0, z1, z2] at C)) | ((with_reducible show wpList _ _ _ _ _ (World.setCell _ _ _)); (with_reducible apply Hp.abs_gen H); (first | ((repeat (with_reducible apply Hp.set' 0)); (with_reducible exact H); (repeat rfl); intro w' H') | ((repeat (with_reducible apply Hp.set' 1)); (with_reducible exact H); (repeat rfl); intro w' H') | ((repeat (with_reducible apply Hp.set' 2)); (with_reducible exact H); (repeat rfl); intro w' H') | ((repeat (with_reducible apply Hp.set' 3)); (with_reducible exact H); (repeat rfl); intro w' H') | ((repeat (with_reducible apply Hp.set' 4)); (with_reducible exact H); (repeat rfl); intro w' H') | ((repeat (with_reducible apply Hp.set' 5)); (with_reducible exact H); (repeat rfl); intro w' H') | ((repeat (with_reducible apply Hp.set' 6)); (with_reducible exact H); (repeat rfl); intro w' H') | ((repeat (with_reducible apply Hp.set' 7)); (with_reducible exact H); (repeat rfl); intro w' H')); ((try simp only [z0, z1, z2] at H'); clear C H; have H := H'; clear H'; have C := Hp.facts H; simp only [Facts, factsL, and_true, true_and, z0, z1, z2] at C)) | go_values | go_skip | go_guarded | go_step | go_upon | go_back | (simp only [Int.not_lt, Int.not_le] at *; go_simp) | (go_values <;> (try go_simp)) | (go_ite <;> go_prune <;> (try go_simp)) | (split <;> (first | (rename_i hx; exact (hx _ rfl).elim) | go_prune))))
    refine bodyPost_ret (v := .tuple #[.agg #[.int .i64 (x.toNat : Int), .slice A8 r.length c8], .bool true]) (by simp [results, go_sem, C]) rfl ?_
    exact StrB.of H 1 rfl rfl rfl rfl
end Go.Proofs.Ytldblmgmcmnepaa

