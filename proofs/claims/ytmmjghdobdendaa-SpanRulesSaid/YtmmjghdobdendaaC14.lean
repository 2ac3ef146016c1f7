/- Lemmas and walks on the way to the seat's laws; each theorem says its own conditions. -/
import Derived.Test.YtmmjghdobdendaaC11
import Derived.Deep.DeepCutAuto
set_option linter.unusedSimpArgs false
set_option linter.unusedVariables false
set_option linter.unusedSimpArgs false
set_option linter.unusedVariables false
set_option maxRecDepth 100000
namespace Go.Proofs.Ytmmjghdobdendaa
open Go.RowKit Go.Mem Go.Reg Bit Go.LawLift
theorem len_full {a b : Int} (h : a ≤ b) : lenS a b = satI (satI (b - a) + 1) := by unfold lenS; rw [if_neg (by omega)]
theorem move_full {a b n : Int} (h : a ≤ b) : moveS a b n = (satI (a + n), satI (b + n)) := by unfold moveS; rw [if_neg (by omega)]
theorem sums_one (a b : Int) : sumS a [b] = satI (a + b) := rfl
theorem sums_nil (a : Int) : sumS a [] = a := rfl
theorem sat_mono {x y : Int} (h : x ≤ y) : satI x ≤ satI y := by unfold satI; (repeat' split) <;> omega
theorem sat_back {a b : Int} (ha : In64 a) (h : (satI (a + b) == -9223372036854775808 || satI (a + b) == 9223372036854775807) = false) : satI (satI (a + b) - b) = a ∧ satI (a + b) = a + b := by
  rw [Bool.or_eq_false_iff, beq_eq_false_iff_ne, beq_eq_false_iff_ne] at h
  unfold In64 at ha
  unfold satI at *
  (repeat' split at h) <;> (repeat' split) <;> omega
theorem neg_neg_max {a : Int} (ha : In64 a) : satI (-(satI (-a))) = max a (-9223372036854775807) := by
  unfold In64 at ha
  unfold satI
  (repeat' split) <;> omega
theorem move_in (p q b : Int) : In64 (moveS p q b).1 ∧ In64 (moveS p q b).2 := by
  unfold moveS
  split
  · exact ⟨by unfold In64; simp, by unfold In64; simp⟩
  · exact ⟨satI_in _, satI_in _⟩
def endsB (x : Int) : Bool := x == -9223372036854775808 || x == 9223372036854775807
theorem sat_mid {z : Int} (h : endsB (satI z) = false) : satI z = z := by
  unfold endsB at h
  rw [Bool.or_eq_false_iff, beq_eq_false_iff_ne, beq_eq_false_iff_ne] at h
  unfold satI at *
  (repeat' split at h) <;> (repeat' split) <;> omega
theorem move_len {p q b : Int} (h : decide (q < p) = false) (h1 : endsB (moveS p q b).1 = false) (h2 : endsB (moveS p q b).2 = false) : lenS (moveS p q b).1 (moveS p q b).2 = lenS p q := by
  have h := of_decide_eq_false h
  rw [move_full (by omega)] at *
  simp only at *
  rw [sat_mid h1, sat_mid h2]
  rw [len_full (by omega), len_full (by omega), show q + b - (p + b) = q - p by omega]
theorem zs_nil (w : World) : Zs w (.slice none 0 0) [] := ⟨none, 0, rfl, Nat.le_refl _, by omega, fun _ => rfl, fun h => absurd h (by simp [zvs])⟩
set_option maxHeartbeats 3200000 in
theorem spanRules_any (a b c p q : Int) (ha : In64 a) (hb : In64 b) (hc : In64 c) (hp : In64 p) (hq : In64 q) (w : World) :
    Calls Try.prog 6 #[.int .i64 a, .int .i64 b, .int .i64 c, .agg #[.int .i64 p, .int .i64 q]] w fun e w' => e = .returned (.bool true) ∧ Below w.heap.size w w' := by
  have hA1 := fun v w hz => add_any a [b] v ha (fun z hz => by obtain rfl := List.mem_singleton.1 hz; exact hb) (by simp) w hz
  have hA2 := fun v w hz => add_any a [c] v ha (fun z hz => by obtain rfl := List.mem_singleton.1 hz; exact hc) (by simp) w hz
  have hA3 := fun v w hz => add_any b [a] v hb (fun z hz => by obtain rfl := List.mem_singleton.1 hz; exact ha) (by simp) w hz
  have hA4 := fun w => add_any a [] (.slice none 0 0) ha (by simp) (by decide) w (zs_nil w)
  rw [sums_one] at hA1 hA2 hA3
  rw [sums_nil] at hA4
  rw [Int.add_comm b a] at hA3
  have hE := ends_any (satI (a + b))
  have hSb := sub_any (satI (a + b)) b (satI_in _) hb
  have hsb := @sat_back a b ha
  have hm1 := @sat_mono (a + b) (a + c)
  have hm2 := @sat_mono (a + c) (a + b)
  have hN1 := neg_any a ha
  have hN2 := neg_any (satI (-a)) (satI_in _)
  rw [neg_neg_max ha] at hN2
  have hmid : (b ≤ c ∧ satI (a + b) ≤ satI (a + c)) ∨ (c < b ∧ satI (a + b) = satI (a + c)) ∨ (c < b ∧ satI (a + c) < satI (a + b)) := by
    rcases Int.lt_or_le c b with h | h
    · have := hm2 (by omega)
      omega
    · have := hm1 (by omega)
      omega
  have hMv := move_any p q b hp hq hb
  have hLX := length_any _ _ (move_in p q b).1 (move_in p q b).2
  have hLP := length_any p q hp hq
  have hmv := Kp.mk (@move_len p q b)
  have hEX := ends_any (moveS p q b).1
  have hEY := ends_any (moveS p q b).2
  change ∀ w, Calls Try.prog _ _ w (fun e w' => e = .returned (.bool (endsB (moveS p q b).1)) ∧ _) at hEX
  change ∀ w, Calls Try.prog _ _ w (fun e w' => e = .returned (.bool (endsB (moveS p q b).2)) ∧ _) at hEY
  have hEm := empty_any p q
  generalize (moveS p q b).1 = X at *
  generalize (moveS p q b).2 = Y at *
  generalize endsB X = E1 at *
  generalize endsB Y = E2 at *
  generalize lenS X Y = L1 at *
  generalize lenS p q = L2 at *
  generalize decide (q < p) = E0 at *
  clear hm1 hm2 ha hb hc hp hq
  replace hsb := Kp.mk hsb
  replace hmid := Kp.mk hmid
  generalize satI (a + b) = x at *
  generalize satI (a + c) = y at *
  have H := Hp.start w
  have C : True := trivial
  go_enter Try.func6, Try.ntmps6
  (repeat' ((fail_if_success (with_reducible show bodyPost _ _ _ _ _ _)); first | ((with_reducible refine Hp.abs_alloc H ?_); intro b' w' H' hb'; (try simp only [hb']); clear hb'; ((try simp only [List.set_cons_zero, List.set_cons_succ, List.setIfInBounds_toArray] at H'); clear C H; have H := H'; clear H'; have C := Hp.facts H; simp only [Facts, factsL, and_true, true_and, List.set_cons_zero, List.set_cons_succ, List.setIfInBounds_toArray] at C)) | ((with_reducible show wpList _ _ _ _ _ (World.setCell _ _ _)); (with_reducible apply Hp.abs_gen H); (first | ((repeat (with_reducible apply Hp.set' 0)); (with_reducible exact H); (repeat rfl); intro w' H') | ((repeat (with_reducible apply Hp.set' 1)); (with_reducible exact H); (repeat rfl); intro w' H') | ((repeat (with_reducible apply Hp.set' 2)); (with_reducible exact H); (repeat rfl); intro w' H') | ((repeat (with_reducible apply Hp.set' 3)); (with_reducible exact H); (repeat rfl); intro w' H') | ((repeat (with_reducible apply Hp.set' 4)); (with_reducible exact H); (repeat rfl); intro w' H') | ((repeat (with_reducible apply Hp.set' 5)); (with_reducible exact H); (repeat rfl); intro w' H') | ((repeat (with_reducible apply Hp.set' 6)); (with_reducible exact H); (repeat rfl); intro w' H') | ((repeat (with_reducible apply Hp.set' 7)); (with_reducible exact H); (repeat rfl); intro w' H')); ((try simp only [List.set_cons_zero, List.set_cons_succ, List.setIfInBounds_toArray] at H'); clear C H; have H := H'; clear H'; have C := Hp.facts H; simp only [Facts, factsL, and_true, true_and, List.set_cons_zero, List.set_cons_succ, List.setIfInBounds_toArray] at C)) | go_values | go_skip | go_guarded | go_step | go_upon | go_back | (simp only [Int.not_lt, Int.not_le] at *; go_simp) | (go_values <;> (try go_simp)) | (go_ite <;> go_prune <;> (try go_simp)) | (split <;> (first | (rename_i hx; exact (hx _ rfl).elim) | go_prune))))
  ((have H := Hp.blkRow H 0 rfl 1 1 rfl (by unfold maxLen; omega)); (simp only [List.set_cons_zero, List.set_cons_succ] at H))
  refine (hA1 _ _ (show Zs _ _ [b] from Hp.row H 0 rfl)).mono ?_
  (rintro e' w' ⟨rfl, hb'⟩; (have H' := Hp.step H hb'; clear hb'; ((try simp only [List.set_cons_zero, List.set_cons_succ, List.setIfInBounds_toArray] at H'); clear C H; have H := H'; clear H'; have C := Hp.facts H; simp only [Facts, factsL, and_true, true_and, List.set_cons_zero, List.set_cons_succ, List.setIfInBounds_toArray] at C)))
  (repeat' ((fail_if_success (with_reducible show bodyPost _ _ _ _ _ _)); first | ((with_reducible refine Hp.abs_alloc H ?_); intro b' w' H' hb'; (try simp only [hb']); clear hb'; ((try simp only [List.set_cons_zero, List.set_cons_succ, List.setIfInBounds_toArray] at H'); clear C H; have H := H'; clear H'; have C := Hp.facts H; simp only [Facts, factsL, and_true, true_and, List.set_cons_zero, List.set_cons_succ, List.setIfInBounds_toArray] at C)) | ((with_reducible show wpList _ _ _ _ _ (World.setCell _ _ _)); (with_reducible apply Hp.abs_gen H); (first | ((repeat (with_reducible apply Hp.set' 0)); (with_reducible exact H); (repeat rfl); intro w' H') | ((repeat (with_reducible apply Hp.set' 1)); (with_reducible exact H); (repeat rfl); intro w' H') | ((repeat (with_reducible apply Hp.set' 2)); (with_reducible exact H); (repeat rfl); intro w' H') | ((repeat (with_reducible apply Hp.set' 3)); (with_reducible exact H); (repeat rfl); intro w' H') | ((repeat (with_reducible apply Hp.set' 4)); (with_reducible exact H); (repeat rfl); intro w' H') | ((repeat (with_reducible apply Hp.set' 5)); (with_reducible exact H); (repeat rfl); intro w' H') | ((repeat (with_reducible apply Hp.set' 6)); (with_reducible exact H); (repeat rfl); intro w' H') | ((repeat (with_reducible apply Hp.set' 7)); (with_reducible exact H); (repeat rfl); intro w' H')); ((try simp only [List.set_cons_zero, List.set_cons_succ, List.setIfInBounds_toArray] at H'); clear C H; have H := H'; clear H'; have C := Hp.facts H; simp only [Facts, factsL, and_true, true_and, List.set_cons_zero, List.set_cons_succ, List.setIfInBounds_toArray] at C)) | go_values | go_skip | go_guarded | go_step | go_upon | go_back | (simp only [Int.not_lt, Int.not_le] at *; go_simp) | (go_values <;> (try go_simp)) | (go_ite <;> go_prune <;> (try go_simp)) | (split <;> (first | (rename_i hx; exact (hx _ rfl).elim) | go_prune))))
  ((have H := Hp.blkRow H 0 rfl 1 1 rfl (by unfold maxLen; omega)); (simp only [List.set_cons_zero, List.set_cons_succ] at H))
  refine (hA2 _ _ (show Zs _ _ [c] from Hp.row H 0 rfl)).mono ?_
  (rintro e' w' ⟨rfl, hb'⟩; (have H' := Hp.step H hb'; clear hb'; ((try simp only [List.set_cons_zero, List.set_cons_succ, List.setIfInBounds_toArray] at H'); clear C H; have H := H'; clear H'; have C := Hp.facts H; simp only [Facts, factsL, and_true, true_and, List.set_cons_zero, List.set_cons_succ, List.setIfInBounds_toArray] at C)))
  have H' := H.sel [2] (by decide)
  ((try simp only [List.set_cons_zero, List.set_cons_succ, List.setIfInBounds_toArray] at H'); clear C H; have H := H'; clear H'; have C := Hp.facts H; simp only [Facts, factsL, and_true, true_and, List.set_cons_zero, List.set_cons_succ, List.setIfInBounds_toArray] at C)
  (obtain ⟨bb, rfl⟩ := Hp.name H 0 rfl)
  go_upto_region 2 with fail
  go_cut [31] (fun sx wx => sx = .bool false ∧ wx = w')
  case first =>
    rcases hmid.out with ⟨h1, h2⟩ | ⟨h1, h2⟩ | ⟨h1, h2⟩
    all_goals (clear hmid)
    · go_wp2_with fail
      go_meet
      exact ⟨rfl, rfl⟩
    · subst h2
      go_wp2_with fail
      go_meet
      exact ⟨rfl, rfl⟩
    · go_wp2_with fail
      go_meet
      exact ⟨rfl, rfl⟩
  case rest =>
    obtain ⟨rfl, rfl⟩ := hcut
    generalize (x == -9223372036854775808 || x == 9223372036854775807) = E at *
    go_upto_region 4 with fail
    go_cut [41] (fun sx wx => sx = .bool false ∧ Hp w [.blk bb #[.int .i64 p, .int .i64 q] 24] wx)
    case first =>
      (repeat' ((fail_if_success (with_reducible show bodyPost _ _ _ _ _ _)); first | ((with_reducible refine Hp.abs_alloc H ?_); intro b' w' H' hb'; (try simp only [hb']); clear hb'; ((try simp only [List.set_cons_zero, List.set_cons_succ, List.setIfInBounds_toArray] at H'); clear C H; have H := H'; clear H'; have C := Hp.facts H; simp only [Facts, factsL, and_true, true_and, List.set_cons_zero, List.set_cons_succ, List.setIfInBounds_toArray] at C)) | ((with_reducible show wpList _ _ _ _ _ (World.setCell _ _ _)); (with_reducible apply Hp.abs_gen H); (first | ((repeat (with_reducible apply Hp.set' 0)); (with_reducible exact H); (repeat rfl); intro w' H') | ((repeat (with_reducible apply Hp.set' 1)); (with_reducible exact H); (repeat rfl); intro w' H') | ((repeat (with_reducible apply Hp.set' 2)); (with_reducible exact H); (repeat rfl); intro w' H') | ((repeat (with_reducible apply Hp.set' 3)); (with_reducible exact H); (repeat rfl); intro w' H') | ((repeat (with_reducible apply Hp.set' 4)); (with_reducible exact H); (repeat rfl); intro w' H') | ((repeat (with_reducible apply Hp.set' 5)); (with_reducible exact H); (repeat rfl); intro w' H') | ((repeat (with_reducible apply Hp.set' 6)); (with_reducible exact H); (repeat rfl); intro w' H') | ((repeat (with_reducible apply Hp.set' 7)); (with_reducible exact H); (repeat rfl); intro w' H')); ((try simp only [List.set_cons_zero, List.set_cons_succ, List.setIfInBounds_toArray] at H'); clear C H; have H := H'; clear H'; have C := Hp.facts H; simp only [Facts, factsL, and_true, true_and, List.set_cons_zero, List.set_cons_succ, List.setIfInBounds_toArray] at C)) | go_values | go_skip | go_guarded | go_step | go_upon | go_back | (simp only [Int.not_lt, Int.not_le] at *; go_simp) | (go_values <;> (try go_simp)) | (go_ite <;> go_prune <;> (try go_simp)) | (split <;> (first | (rename_i hx; exact (hx _ rfl).elim) | go_prune))))
      refine (hE _).mono ?_
      (rintro e' w' ⟨rfl, hb'⟩; (have H' := Hp.step H hb'; clear hb'; ((try simp only [List.set_cons_zero, List.set_cons_succ, List.setIfInBounds_toArray] at H'); clear C H; have H := H'; clear H'; have C := Hp.facts H; simp only [Facts, factsL, and_true, true_and, List.set_cons_zero, List.set_cons_succ, List.setIfInBounds_toArray] at C)))
      cases E with
      | true =>
        go_wp2_with fail
        go_meet
        exact ⟨rfl, H⟩
      | false =>
        have h1 := (hsb.out rfl).1
        rw [h1] at hSb
        go_wp2_with fail
        refine (hSb _).mono ?_
        (rintro e' w' ⟨rfl, hb'⟩; (have H' := Hp.step H hb'; clear hb'; ((try simp only [List.set_cons_zero, List.set_cons_succ, List.setIfInBounds_toArray] at H'); clear C H; have H := H'; clear H'; have C := Hp.facts H; simp only [Facts, factsL, and_true, true_and, List.set_cons_zero, List.set_cons_succ, List.setIfInBounds_toArray] at C)))
        go_wp2_with fail
        go_meet
        exact ⟨rfl, H⟩
    case rest =>
      clear H C
      obtain ⟨rfl, H⟩ := hcut
      have C := Hp.facts H
      simp only [Facts, factsL, and_true, true_and, List.set_cons_zero, List.set_cons_succ, List.setIfInBounds_toArray] at C
      (repeat' ((fail_if_success (with_reducible show bodyPost _ _ _ _ _ _)); first | ((with_reducible refine Hp.abs_alloc H ?_); intro b' w' H' hb'; (try simp only [hb']); clear hb'; ((try simp only [List.set_cons_zero, List.set_cons_succ, List.setIfInBounds_toArray] at H'); clear C H; have H := H'; clear H'; have C := Hp.facts H; simp only [Facts, factsL, and_true, true_and, List.set_cons_zero, List.set_cons_succ, List.setIfInBounds_toArray] at C)) | ((with_reducible show wpList _ _ _ _ _ (World.setCell _ _ _)); (with_reducible apply Hp.abs_gen H); (first | ((repeat (with_reducible apply Hp.set' 0)); (with_reducible exact H); (repeat rfl); intro w' H') | ((repeat (with_reducible apply Hp.set' 1)); (with_reducible exact H); (repeat rfl); intro w' H') | ((repeat (with_reducible apply Hp.set' 2)); (with_reducible exact H); (repeat rfl); intro w' H') | ((repeat (with_reducible apply Hp.set' 3)); (with_reducible exact H); (repeat rfl); intro w' H') | ((repeat (with_reducible apply Hp.set' 4)); (with_reducible exact H); (repeat rfl); intro w' H') | ((repeat (with_reducible apply Hp.set' 5)); (with_reducible exact H); (repeat rfl); intro w' H') | ((repeat (with_reducible apply Hp.set' 6)); (with_reducible exact H); (repeat rfl); intro w' H') | ((repeat (with_reducible apply Hp.set' 7)); (with_reducible exact H); (repeat rfl); intro w' H')); ((try simp only [List.set_cons_zero, List.set_cons_succ, List.setIfInBounds_toArray] at H'); clear C H; have H := H'; clear H'; have C := Hp.facts H; simp only [Facts, factsL, and_true, true_and, List.set_cons_zero, List.set_cons_succ, List.setIfInBounds_toArray] at C)) | (go_at_call 12; refine (to_any _ _ _).mono ?_; rintro e' w' ⟨rfl, hb'⟩; (have H' := Hp.step H hb'; clear hb'; ((try simp only [List.set_cons_zero, List.set_cons_succ, List.setIfInBounds_toArray] at H'); clear C H; have H := H'; clear H'; have C := Hp.facts H; simp only [Facts, factsL, and_true, true_and, List.set_cons_zero, List.set_cons_succ, List.setIfInBounds_toArray] at C))) | go_values | go_skip | go_guarded | go_step | go_upon | go_back | (simp only [Int.not_lt, Int.not_le] at *; go_simp) | (go_values <;> (try go_simp)) | (go_ite <;> go_prune <;> (try go_simp)) | (split <;> (first | (rename_i hx; exact (hx _ rfl).elim) | go_prune))))
      refine (hMv _).mono ?_
      (rintro e' w' ⟨rfl, hb'⟩; (have H' := Hp.step H hb'; clear hb'; ((try simp only [List.set_cons_zero, List.set_cons_succ, List.setIfInBounds_toArray] at H'); clear C H; have H := H'; clear H'; have C := Hp.facts H; simp only [Facts, factsL, and_true, true_and, List.set_cons_zero, List.set_cons_succ, List.setIfInBounds_toArray] at C)))
      (repeat' ((fail_if_success (with_reducible show bodyPost _ _ _ _ _ _)); first | ((with_reducible refine Hp.abs_alloc H ?_); intro b' w' H' hb'; (try simp only [hb']); clear hb'; ((try simp only [List.set_cons_zero, List.set_cons_succ, List.setIfInBounds_toArray] at H'); clear C H; have H := H'; clear H'; have C := Hp.facts H; simp only [Facts, factsL, and_true, true_and, List.set_cons_zero, List.set_cons_succ, List.setIfInBounds_toArray] at C)) | ((with_reducible show wpList _ _ _ _ _ (World.setCell _ _ _)); (with_reducible apply Hp.abs_gen H); (first | ((repeat (with_reducible apply Hp.set' 0)); (with_reducible exact H); (repeat rfl); intro w' H') | ((repeat (with_reducible apply Hp.set' 1)); (with_reducible exact H); (repeat rfl); intro w' H') | ((repeat (with_reducible apply Hp.set' 2)); (with_reducible exact H); (repeat rfl); intro w' H') | ((repeat (with_reducible apply Hp.set' 3)); (with_reducible exact H); (repeat rfl); intro w' H') | ((repeat (with_reducible apply Hp.set' 4)); (with_reducible exact H); (repeat rfl); intro w' H') | ((repeat (with_reducible apply Hp.set' 5)); (with_reducible exact H); (repeat rfl); intro w' H') | ((repeat (with_reducible apply Hp.set' 6)); (with_reducible exact H); (repeat rfl); intro w' H') | ((repeat (with_reducible apply Hp.set' 7)); (with_reducible exact H); (repeat rfl); intro w' H')); ((try simp only [List.set_cons_zero, List.set_cons_succ, List.setIfInBounds_toArray] at H'); clear C H; have H := H'; clear H'; have C := Hp.facts H; simp only [Facts, factsL, and_true, true_and, List.set_cons_zero, List.set_cons_succ, List.setIfInBounds_toArray] at C)) | go_values | go_skip | go_guarded | go_step | go_upon | go_back | (simp only [Int.not_lt, Int.not_le] at *; go_simp) | (go_values <;> (try go_simp)) | (go_ite <;> go_prune <;> (try go_simp)) | (split <;> (first | (rename_i hx; exact (hx _ rfl).elim) | go_prune))))
      go_cut [69] (fun sx wx => sx = .bool false ∧ Hp w [] wx)
      case first =>
        cases E0
        · cases E1
          · cases E2
            · obtain rfl := hmv.out rfl rfl rfl
              try simp (disch := omega) only [decide_eq_true, decide_eq_false]
              obtain ⟨wR7, rfl⟩ := Hp.nameW H
              apply region_n (frm wR7.heap.size (fun _ => Hp _ _)) (frm_ok ?hfs_1) frm_sz [] [.light 0 0, .light 0 0, .light 0 0, .light 0 0, .light 0 0, .light 0 0, .light 0 0, .light 0 0, .light 0 0, .light 0 0, .light 0 0, .light 0 0, .light 0 0, .light 0 0, .light 0 0, .light 0 0, .light 0 0, .light 0 0, .light 0 0, .light 0 0, .light 0 0, .light 0 0, .light 0 0, .light 0 0] [false, false, false, false, false, false, false, false, false, false, false, false, false, false, false, false, false, false, false, false, false, false, false, false] 24 96 [] [some 46, some 47, some 48, some 49, some 50, some 51, some 52, some 53, some 54, some 55, some 56, some 57, some 58, some 59, some 60, some 61, some 62, some 63, some 64, some 65, some 66, some 67, some 68, some 69] [[], [0], [1], [2], [3], [4], [4, 5], [4, 6], [4, 7], [4, 8], [9], [10], [10, 11], [10, 12], [10, 13], [10, 14], [15], [16], [16, 17], [16], [16, 19], [16, 20], [16, 18, 21], [16, 22]] [Eq1 _, Eq1 _, Eq1 (.bool false), Eq1 _, Eq1 _, Eq1 _, Eq1 _, Eq1 (.bool false), Eq1 _, Eq1 _, Eq1 _, Eq1 _, Eq1 _, Eq1 (.bool false), Eq1 _, Eq1 _, Eq1 _, Eq1 _, Eq1 _, Eq1 _, Eq1 _, Eq1 _, Eq1 (.bool false), Eq1 _] ?hq1_1 ?hq2_1 ?hq3_1 ?hq4_1 ?hq5_1 ?hq6_1 _ ?hA_1 ?hst_1 ?h0_1 ?hsteps_1 ?hend_1
              case hq1_1 => kernel_rfl
              case hq2_1 => kernel_rfl
              case hq3_1 => kernel_rfl
              case hq5_1 => kernel_rfl
              case hq4_1 => rfl
              case hq6_1 => rfl
              case hA_1 => intro vs; simp only [fillD, Nat.reduceAdd, Act.put, List.setIfInBounds_toArray, List.set_cons_zero, List.set_cons_succ]; rfl
              case h0_1 => exact H.drew
              case hfs_1 => exact fun _ _ _ hb h => Hp.step h hb
              case hsteps_1 =>
                refine ⟨?_, ?_, ?_, ?_, ?_, ?_, ?_, ?_, ?_, ?_, ?_, ?_, ?_, ?_, ?_, ?_, ?_, ?_, ?_, ?_, ?_, ?_, ?_, ?_, trivial⟩
                · intro p vs w' K hJ hp1 hp2 hS hR hK
                  rw [if_pos (by rfl)]
                  have C := Hp.facts hS
                  simp only [Facts, factsL, and_true, true_and, List.set_cons_zero, List.set_cons_succ, List.setIfInBounds_toArray] at C
                  have hsz := hR.1
                  go_step
                  exact hK.out _ _ (Below.refl _ _) Eq1.mk Fresh.no
                · intro p vs w' K hJ hp1 hp2 hS hR hK
                  simp only [DepJ, List.getD_cons_zero, List.getD_cons_succ] at hJ
                  obtain ⟨j0, -⟩ := hJ
                  have j0 := Eq1.out j0
                  simp only [j0] at hK ⊢
                  rw [if_pos (by rfl)]
                  have C := Hp.facts hS
                  simp only [Facts, factsL, and_true, true_and, List.set_cons_zero, List.set_cons_succ, List.setIfInBounds_toArray] at C
                  have hsz := hR.1
                  go_step
                  refine (to_any _ _ _).mono ?_
                  rintro e' w'' ⟨rfl, hb⟩
                  exact hK.out _ _ hb Eq1.mk Fresh.no
                · intro p vs w' K hJ hp1 hp2 hS hR hK
                  simp only [DepJ, List.getD_cons_zero, List.getD_cons_succ] at hJ
                  obtain ⟨j1, -⟩ := hJ
                  have j1 := Eq1.out j1
                  simp only [j1] at hK ⊢
                  rw [if_pos (by rfl)]
                  have C := Hp.facts hS
                  simp only [Facts, factsL, and_true, true_and, List.set_cons_zero, List.set_cons_succ, List.setIfInBounds_toArray] at C
                  have hsz := hR.1
                  go_step
                  refine (hEm _).mono ?_
                  rintro e' w'' ⟨rfl, hb⟩
                  exact hK.out _ _ hb (Eq1.of (rfl)) Fresh.no
                · intro p vs w' K hJ hp1 hp2 hS hR hK
                  simp only [DepJ, List.getD_cons_zero, List.getD_cons_succ] at hJ
                  obtain ⟨j2, -⟩ := hJ
                  have j2 := Eq1.out j2
                  simp only [j2] at hK ⊢
                  rw [if_pos (by rfl)]
                  go_step
                  exact hK.out _ _ (Below.refl _ _) Eq1.mk Fresh.no
                · intro p vs w' K hJ hp1 hp2 hS hR hK
                  simp only [DepJ, List.getD_cons_zero, List.getD_cons_succ] at hJ
                  obtain ⟨j3, -⟩ := hJ
                  have j3 := Eq1.out j3
                  simp only [j3] at hK ⊢
                  rw [if_pos (by rfl)]
                  go_step
                  exact hK.out _ _ (Below.refl _ _) Eq1.mk Fresh.no
                · intro p vs w' K hJ hp1 hp2 hS hR hK
                  simp only [DepJ, List.getD_cons_zero, List.getD_cons_succ] at hJ
                  obtain ⟨j4, -⟩ := hJ
                  have j4 := Eq1.out j4
                  simp only [j4] at hK ⊢
                  rw [if_pos (by rfl)]
                  go_step
                  exact hK.out _ _ (Below.refl _ _) Eq1.mk Fresh.no
                · intro p vs w' K hJ hp1 hp2 hS hR hK
                  simp only [DepJ, List.getD_cons_zero, List.getD_cons_succ] at hJ
                  obtain ⟨j4, j5, -⟩ := hJ
                  have j4 := Eq1.out j4
                  have j5 := Eq1.out j5
                  simp only [j4, j5] at hK ⊢
                  rw [if_pos (by rfl)]
                  have C := Hp.facts hS
                  simp only [Facts, factsL, and_true, true_and, List.set_cons_zero, List.set_cons_succ, List.setIfInBounds_toArray] at C
                  have hsz := hR.1
                  go_step
                  exact hK.out _ _ (Below.refl _ _) Eq1.mk Fresh.no
                · intro p vs w' K hJ hp1 hp2 hS hR hK
                  simp only [DepJ, List.getD_cons_zero, List.getD_cons_succ] at hJ
                  obtain ⟨j4, j6, -⟩ := hJ
                  have j4 := Eq1.out j4
                  have j6 := Eq1.out j6
                  simp only [j4, j6] at hK ⊢
                  rw [if_pos (by rfl)]
                  have C := Hp.facts hS
                  simp only [Facts, factsL, and_true, true_and, List.set_cons_zero, List.set_cons_succ, List.setIfInBounds_toArray] at C
                  have hsz := hR.1
                  go_step
                  refine (hEX _).mono ?_
                  rintro e' w'' ⟨rfl, hb⟩
                  exact hK.out _ _ hb (Eq1.of (rfl)) Fresh.no
                · intro p vs w' K hJ hp1 hp2 hS hR hK
                  simp only [DepJ, List.getD_cons_zero, List.getD_cons_succ] at hJ
                  obtain ⟨j4, j7, -⟩ := hJ
                  have j4 := Eq1.out j4
                  have j7 := Eq1.out j7
                  simp only [j4, j7] at hK ⊢
                  rw [if_pos (by rfl)]
                  go_step
                  exact hK.out _ _ (Below.refl _ _) Eq1.mk Fresh.no
                · intro p vs w' K hJ hp1 hp2 hS hR hK
                  simp only [DepJ, List.getD_cons_zero, List.getD_cons_succ] at hJ
                  obtain ⟨j4, j8, -⟩ := hJ
                  have j4 := Eq1.out j4
                  have j8 := Eq1.out j8
                  simp only [j4, j8] at hK ⊢
                  rw [if_pos (by rfl)]
                  go_step
                  exact hK.out _ _ (Below.refl _ _) Eq1.mk Fresh.no
                · intro p vs w' K hJ hp1 hp2 hS hR hK
                  simp only [DepJ, List.getD_cons_zero, List.getD_cons_succ] at hJ
                  obtain ⟨j9, -⟩ := hJ
                  have j9 := Eq1.out j9
                  simp only [j9] at hK ⊢
                  rw [if_pos (by rfl)]
                  go_step
                  exact hK.out _ _ (Below.refl _ _) Eq1.mk Fresh.no
                · intro p vs w' K hJ hp1 hp2 hS hR hK
                  simp only [DepJ, List.getD_cons_zero, List.getD_cons_succ] at hJ
                  obtain ⟨j10, -⟩ := hJ
                  have j10 := Eq1.out j10
                  simp only [j10] at hK ⊢
                  rw [if_pos (by rfl)]
                  go_step
                  exact hK.out _ _ (Below.refl _ _) Eq1.mk Fresh.no
                · intro p vs w' K hJ hp1 hp2 hS hR hK
                  simp only [DepJ, List.getD_cons_zero, List.getD_cons_succ] at hJ
                  obtain ⟨j10, j11, -⟩ := hJ
                  have j10 := Eq1.out j10
                  have j11 := Eq1.out j11
                  simp only [j10, j11] at hK ⊢
                  rw [if_pos (by rfl)]
                  have C := Hp.facts hS
                  simp only [Facts, factsL, and_true, true_and, List.set_cons_zero, List.set_cons_succ, List.setIfInBounds_toArray] at C
                  have hsz := hR.1
                  go_step
                  exact hK.out _ _ (Below.refl _ _) Eq1.mk Fresh.no
                · intro p vs w' K hJ hp1 hp2 hS hR hK
                  simp only [DepJ, List.getD_cons_zero, List.getD_cons_succ] at hJ
                  obtain ⟨j10, j12, -⟩ := hJ
                  have j10 := Eq1.out j10
                  have j12 := Eq1.out j12
                  simp only [j10, j12] at hK ⊢
                  rw [if_pos (by rfl)]
                  have C := Hp.facts hS
                  simp only [Facts, factsL, and_true, true_and, List.set_cons_zero, List.set_cons_succ, List.setIfInBounds_toArray] at C
                  have hsz := hR.1
                  go_step
                  refine (hEY _).mono ?_
                  rintro e' w'' ⟨rfl, hb⟩
                  exact hK.out _ _ hb (Eq1.of (rfl)) Fresh.no
                · intro p vs w' K hJ hp1 hp2 hS hR hK
                  simp only [DepJ, List.getD_cons_zero, List.getD_cons_succ] at hJ
                  obtain ⟨j10, j13, -⟩ := hJ
                  have j10 := Eq1.out j10
                  have j13 := Eq1.out j13
                  simp only [j10, j13] at hK ⊢
                  rw [if_pos (by rfl)]
                  go_step
                  exact hK.out _ _ (Below.refl _ _) Eq1.mk Fresh.no
                · intro p vs w' K hJ hp1 hp2 hS hR hK
                  simp only [DepJ, List.getD_cons_zero, List.getD_cons_succ] at hJ
                  obtain ⟨j10, j14, -⟩ := hJ
                  have j10 := Eq1.out j10
                  have j14 := Eq1.out j14
                  simp only [j10, j14] at hK ⊢
                  rw [if_pos (by rfl)]
                  go_step
                  exact hK.out _ _ (Below.refl _ _) Eq1.mk Fresh.no
                · intro p vs w' K hJ hp1 hp2 hS hR hK
                  simp only [DepJ, List.getD_cons_zero, List.getD_cons_succ] at hJ
                  obtain ⟨j15, -⟩ := hJ
                  have j15 := Eq1.out j15
                  simp only [j15] at hK ⊢
                  rw [if_pos (by rfl)]
                  go_step
                  exact hK.out _ _ (Below.refl _ _) Eq1.mk Fresh.no
                · intro p vs w' K hJ hp1 hp2 hS hR hK
                  simp only [DepJ, List.getD_cons_zero, List.getD_cons_succ] at hJ
                  obtain ⟨j16, -⟩ := hJ
                  have j16 := Eq1.out j16
                  simp only [j16] at hK ⊢
                  rw [if_pos (by rfl)]
                  have C := Hp.facts hS
                  simp only [Facts, factsL, and_true, true_and, List.set_cons_zero, List.set_cons_succ, List.setIfInBounds_toArray] at C
                  have hsz := hR.1
                  go_step
                  exact hK.out _ _ (Below.refl _ _) Eq1.mk Fresh.no
                · intro p vs w' K hJ hp1 hp2 hS hR hK
                  simp only [DepJ, List.getD_cons_zero, List.getD_cons_succ] at hJ
                  obtain ⟨j16, j17, -⟩ := hJ
                  have j16 := Eq1.out j16
                  have j17 := Eq1.out j17
                  simp only [j16, j17] at hK ⊢
                  rw [if_pos (by rfl)]
                  have C := Hp.facts hS
                  simp only [Facts, factsL, and_true, true_and, List.set_cons_zero, List.set_cons_succ, List.setIfInBounds_toArray] at C
                  have hsz := hR.1
                  go_step
                  refine (hLX _).mono ?_
                  rintro e' w'' ⟨rfl, hb⟩
                  exact hK.out _ _ hb Eq1.mk Fresh.no
                · intro p vs w' K hJ hp1 hp2 hS hR hK
                  simp only [DepJ, List.getD_cons_zero, List.getD_cons_succ] at hJ
                  obtain ⟨j16, -⟩ := hJ
                  have j16 := Eq1.out j16
                  simp only [j16] at hK ⊢
                  rw [if_pos (by rfl)]
                  have C := Hp.facts hS
                  simp only [Facts, factsL, and_true, true_and, List.set_cons_zero, List.set_cons_succ, List.setIfInBounds_toArray] at C
                  have hsz := hR.1
                  go_step
                  exact hK.out _ _ (Below.refl _ _) Eq1.mk Fresh.no
                · intro p vs w' K hJ hp1 hp2 hS hR hK
                  simp only [DepJ, List.getD_cons_zero, List.getD_cons_succ] at hJ
                  obtain ⟨j16, j19, -⟩ := hJ
                  have j16 := Eq1.out j16
                  have j19 := Eq1.out j19
                  simp only [j16, j19] at hK ⊢
                  rw [if_pos (by rfl)]
                  have C := Hp.facts hS
                  simp only [Facts, factsL, and_true, true_and, List.set_cons_zero, List.set_cons_succ, List.setIfInBounds_toArray] at C
                  have hsz := hR.1
                  go_step
                  refine (to_any _ _ _).mono ?_
                  rintro e' w'' ⟨rfl, hb⟩
                  exact hK.out _ _ hb Eq1.mk Fresh.no
                · intro p vs w' K hJ hp1 hp2 hS hR hK
                  simp only [DepJ, List.getD_cons_zero, List.getD_cons_succ] at hJ
                  obtain ⟨j16, j20, -⟩ := hJ
                  have j16 := Eq1.out j16
                  have j20 := Eq1.out j20
                  simp only [j16, j20] at hK ⊢
                  rw [if_pos (by rfl)]
                  have C := Hp.facts hS
                  simp only [Facts, factsL, and_true, true_and, List.set_cons_zero, List.set_cons_succ, List.setIfInBounds_toArray] at C
                  have hsz := hR.1
                  go_step
                  refine (hLP _).mono ?_
                  rintro e' w'' ⟨rfl, hb⟩
                  exact hK.out _ _ hb Eq1.mk Fresh.no
                · intro p vs w' K hJ hp1 hp2 hS hR hK
                  simp only [DepJ, List.getD_cons_zero, List.getD_cons_succ] at hJ
                  obtain ⟨j16, j18, j21, -⟩ := hJ
                  have j16 := Eq1.out j16
                  have j18 := Eq1.out j18
                  have j21 := Eq1.out j21
                  simp only [j16, j18, j21] at hK ⊢
                  rw [if_pos (by rfl)]
                  go_step
                  exact hK.out _ _ (Below.refl _ _) (Eq1.of (by first | rfl | (simp; done) | (simp; omega))) Fresh.no
                · intro p vs w' K hJ hp1 hp2 hS hR hK
                  simp only [DepJ, List.getD_cons_zero, List.getD_cons_succ] at hJ
                  obtain ⟨j16, j22, -⟩ := hJ
                  have j16 := Eq1.out j16
                  have j22 := Eq1.out j22
                  simp only [j16, j22] at hK ⊢
                  rw [if_pos (by rfl)]
                  go_step
                  exact hK.out _ _ (Below.refl _ _) Eq1.mk Fresh.no
              case hst_1 => refine ⟨fun _ _ _ _ h => h, fun _ _ _ _ h => h, fun _ _ _ _ h => h, fun _ _ _ _ h => h, fun _ _ _ _ h => h, fun _ _ _ _ h => h, fun _ _ _ _ h => h, fun _ _ _ _ h => h, fun _ _ _ _ h => h, fun _ _ _ _ h => h, fun _ _ _ _ h => h, fun _ _ _ _ h => h, fun _ _ _ _ h => h, fun _ _ _ _ h => h, fun _ _ _ _ h => h, fun _ _ _ _ h => h, fun _ _ _ _ h => h, fun _ _ _ _ h => h, fun _ _ _ _ h => h, fun _ _ _ _ h => h, fun _ _ _ _ h => h, fun _ _ _ _ h => h, fun _ _ _ _ h => h, fun _ _ _ _ h => h, trivial⟩
              intro vs w' hJ hD hS hR
              simp only [AllJ, Nat.reduceAdd] at hJ
              obtain ⟨v0, v1, v2, v3, v4, v5, v6, v7, v8, v9, v10, v11, v12, v13, v14, v15, v16, v17, v18, v19, v20, v21, v22, v23, -⟩ := hJ
              clear C
              replace v0 := Eq1.out v0
              replace v1 := Eq1.out v1
              replace v2 := Eq1.out v2
              replace v3 := Eq1.out v3
              replace v4 := Eq1.out v4
              replace v5 := Eq1.out v5
              replace v6 := Eq1.out v6
              replace v7 := Eq1.out v7
              replace v8 := Eq1.out v8
              replace v9 := Eq1.out v9
              replace v10 := Eq1.out v10
              replace v11 := Eq1.out v11
              replace v12 := Eq1.out v12
              replace v13 := Eq1.out v13
              replace v14 := Eq1.out v14
              replace v15 := Eq1.out v15
              replace v16 := Eq1.out v16
              replace v17 := Eq1.out v17
              replace v18 := Eq1.out v18
              replace v19 := Eq1.out v19
              replace v20 := Eq1.out v20
              replace v21 := Eq1.out v21
              replace v22 := Eq1.out v22
              replace v23 := Eq1.out v23
              simp only [v0, v1, v2, v3, v4, v5, v6, v7, v8, v9, v10, v11, v12, v13, v14, v15, v16, v17, v18, v19, v20, v21, v22, v23, List.drop_succ_cons, List.drop_zero]
              refine wpList_nil' ?_
              have H' : Hp _ _ _ := hS
              clear hD hR hS v0 v1 v2 v3 v4 v5 v6 v7 v8 v9 v10 v11 v12 v13 v14 v15 v16 v17 v18 v19 v20 v21 v22 v23
              clear vs H
              have H := H'; clear H'; have C := Hp.facts H; simp only [Facts, factsL, and_true, true_and, List.set_cons_zero, List.set_cons_succ, List.setIfInBounds_toArray] at C
              (repeat' ((fail_if_success (with_reducible show bodyPost _ _ _ _ _ _)); first | ((with_reducible refine Hp.abs_alloc H ?_); intro b' w' H' hb'; (try simp only [hb']); clear hb'; ((try simp only [List.set_cons_zero, List.set_cons_succ, List.setIfInBounds_toArray] at H'); clear C H; have H := H'; clear H'; have C := Hp.facts H; simp only [Facts, factsL, and_true, true_and, List.set_cons_zero, List.set_cons_succ, List.setIfInBounds_toArray] at C)) | ((with_reducible show wpList _ _ _ _ _ (World.setCell _ _ _)); (with_reducible apply Hp.abs_gen H); (first | ((repeat (with_reducible apply Hp.set' 0)); (with_reducible exact H); (repeat rfl); intro w' H') | ((repeat (with_reducible apply Hp.set' 1)); (with_reducible exact H); (repeat rfl); intro w' H') | ((repeat (with_reducible apply Hp.set' 2)); (with_reducible exact H); (repeat rfl); intro w' H') | ((repeat (with_reducible apply Hp.set' 3)); (with_reducible exact H); (repeat rfl); intro w' H') | ((repeat (with_reducible apply Hp.set' 4)); (with_reducible exact H); (repeat rfl); intro w' H') | ((repeat (with_reducible apply Hp.set' 5)); (with_reducible exact H); (repeat rfl); intro w' H') | ((repeat (with_reducible apply Hp.set' 6)); (with_reducible exact H); (repeat rfl); intro w' H') | ((repeat (with_reducible apply Hp.set' 7)); (with_reducible exact H); (repeat rfl); intro w' H')); ((try simp only [List.set_cons_zero, List.set_cons_succ, List.setIfInBounds_toArray] at H'); clear C H; have H := H'; clear H'; have C := Hp.facts H; simp only [Facts, factsL, and_true, true_and, List.set_cons_zero, List.set_cons_succ, List.setIfInBounds_toArray] at C)) | go_values | go_skip | go_guarded | go_step | go_upon | go_back | (simp only [Int.not_lt, Int.not_le] at *; go_simp) | (go_values <;> (try go_simp)) | (go_ite <;> go_prune <;> (try go_simp)) | (split <;> (first | (rename_i hx; exact (hx _ rfl).elim) | go_prune))))
              go_meet
              exact ⟨rfl, H.sel [] (by decide)⟩
            ·
              try simp (disch := omega) only [decide_eq_true, decide_eq_false]
              obtain ⟨wR7, rfl⟩ := Hp.nameW H
              apply region_n (frm wR7.heap.size (fun _ => Hp _ _)) (frm_ok ?hfs_2) frm_sz [] [.light 0 0, .light 0 0, .light 0 0, .light 0 0, .light 0 0, .light 0 0, .light 0 0, .light 0 0, .light 0 0, .light 0 0, .light 0 0, .light 0 0, .light 0 0, .light 0 0, .light 0 0, .light 0 0, .light 0 0, .light 0 0, .light 0 0, .light 0 0, .light 0 0, .light 0 0, .light 0 0, .light 0 0] [false, false, false, false, false, false, false, false, false, false, false, false, false, false, false, false, false, false, false, false, false, false, false, false] 24 96 [] [some 46, some 47, some 48, some 49, some 50, some 51, some 52, some 53, some 54, some 55, some 56, some 57, some 58, some 59, some 60, some 61, some 62, some 63, some 64, some 65, some 66, some 67, some 68, some 69] [[], [0], [1], [2], [3], [4], [4, 5], [4, 6], [4, 7], [4, 8], [9], [10], [10, 11], [10, 12], [10, 13], [10, 14], [15], [16], [16, 17], [16], [16, 19], [16, 20], [16, 18, 21], [16, 22]] [Eq1 _, Eq1 _, Eq1 (.bool false), Eq1 _, Eq1 _, Eq1 _, Eq1 _, Eq1 (.bool false), Eq1 _, Eq1 _, Eq1 _, Eq1 _, Eq1 _, Eq1 (.bool true), Eq1 _, Eq1 _, Eq1 _, Eq1 _, Eq1 _, Eq1 _, Eq1 _, Eq1 _, Eq1 _, Eq1 _] ?hq1_2 ?hq2_2 ?hq3_2 ?hq4_2 ?hq5_2 ?hq6_2 _ ?hA_2 ?hst_2 ?h0_2 ?hsteps_2 ?hend_2
              case hq1_2 => kernel_rfl
              case hq2_2 => kernel_rfl
              case hq3_2 => kernel_rfl
              case hq5_2 => kernel_rfl
              case hq4_2 => rfl
              case hq6_2 => rfl
              case hA_2 => intro vs; simp only [fillD, Nat.reduceAdd, Act.put, List.setIfInBounds_toArray, List.set_cons_zero, List.set_cons_succ]; rfl
              case h0_2 => exact H.drew
              case hfs_2 => exact fun _ _ _ hb h => Hp.step h hb
              case hsteps_2 =>
                refine ⟨?_, ?_, ?_, ?_, ?_, ?_, ?_, ?_, ?_, ?_, ?_, ?_, ?_, ?_, ?_, ?_, ?_, ?_, ?_, ?_, ?_, ?_, ?_, ?_, trivial⟩
                · intro p vs w' K hJ hp1 hp2 hS hR hK
                  rw [if_pos (by rfl)]
                  have C := Hp.facts hS
                  simp only [Facts, factsL, and_true, true_and, List.set_cons_zero, List.set_cons_succ, List.setIfInBounds_toArray] at C
                  have hsz := hR.1
                  go_step
                  exact hK.out _ _ (Below.refl _ _) Eq1.mk Fresh.no
                · intro p vs w' K hJ hp1 hp2 hS hR hK
                  simp only [DepJ, List.getD_cons_zero, List.getD_cons_succ] at hJ
                  obtain ⟨j0, -⟩ := hJ
                  have j0 := Eq1.out j0
                  simp only [j0] at hK ⊢
                  rw [if_pos (by rfl)]
                  have C := Hp.facts hS
                  simp only [Facts, factsL, and_true, true_and, List.set_cons_zero, List.set_cons_succ, List.setIfInBounds_toArray] at C
                  have hsz := hR.1
                  go_step
                  refine (to_any _ _ _).mono ?_
                  rintro e' w'' ⟨rfl, hb⟩
                  exact hK.out _ _ hb Eq1.mk Fresh.no
                · intro p vs w' K hJ hp1 hp2 hS hR hK
                  simp only [DepJ, List.getD_cons_zero, List.getD_cons_succ] at hJ
                  obtain ⟨j1, -⟩ := hJ
                  have j1 := Eq1.out j1
                  simp only [j1] at hK ⊢
                  rw [if_pos (by rfl)]
                  have C := Hp.facts hS
                  simp only [Facts, factsL, and_true, true_and, List.set_cons_zero, List.set_cons_succ, List.setIfInBounds_toArray] at C
                  have hsz := hR.1
                  go_step
                  refine (hEm _).mono ?_
                  rintro e' w'' ⟨rfl, hb⟩
                  exact hK.out _ _ hb (Eq1.of (rfl)) Fresh.no
                · intro p vs w' K hJ hp1 hp2 hS hR hK
                  simp only [DepJ, List.getD_cons_zero, List.getD_cons_succ] at hJ
                  obtain ⟨j2, -⟩ := hJ
                  have j2 := Eq1.out j2
                  simp only [j2] at hK ⊢
                  rw [if_pos (by rfl)]
                  go_step
                  exact hK.out _ _ (Below.refl _ _) Eq1.mk Fresh.no
                · intro p vs w' K hJ hp1 hp2 hS hR hK
                  simp only [DepJ, List.getD_cons_zero, List.getD_cons_succ] at hJ
                  obtain ⟨j3, -⟩ := hJ
                  have j3 := Eq1.out j3
                  simp only [j3] at hK ⊢
                  rw [if_pos (by rfl)]
                  go_step
                  exact hK.out _ _ (Below.refl _ _) Eq1.mk Fresh.no
                · intro p vs w' K hJ hp1 hp2 hS hR hK
                  simp only [DepJ, List.getD_cons_zero, List.getD_cons_succ] at hJ
                  obtain ⟨j4, -⟩ := hJ
                  have j4 := Eq1.out j4
                  simp only [j4] at hK ⊢
                  rw [if_pos (by rfl)]
                  go_step
                  exact hK.out _ _ (Below.refl _ _) Eq1.mk Fresh.no
                · intro p vs w' K hJ hp1 hp2 hS hR hK
                  simp only [DepJ, List.getD_cons_zero, List.getD_cons_succ] at hJ
                  obtain ⟨j4, j5, -⟩ := hJ
                  have j4 := Eq1.out j4
                  have j5 := Eq1.out j5
                  simp only [j4, j5] at hK ⊢
                  rw [if_pos (by rfl)]
                  have C := Hp.facts hS
                  simp only [Facts, factsL, and_true, true_and, List.set_cons_zero, List.set_cons_succ, List.setIfInBounds_toArray] at C
                  have hsz := hR.1
                  go_step
                  exact hK.out _ _ (Below.refl _ _) Eq1.mk Fresh.no
                · intro p vs w' K hJ hp1 hp2 hS hR hK
                  simp only [DepJ, List.getD_cons_zero, List.getD_cons_succ] at hJ
                  obtain ⟨j4, j6, -⟩ := hJ
                  have j4 := Eq1.out j4
                  have j6 := Eq1.out j6
                  simp only [j4, j6] at hK ⊢
                  rw [if_pos (by rfl)]
                  have C := Hp.facts hS
                  simp only [Facts, factsL, and_true, true_and, List.set_cons_zero, List.set_cons_succ, List.setIfInBounds_toArray] at C
                  have hsz := hR.1
                  go_step
                  refine (hEX _).mono ?_
                  rintro e' w'' ⟨rfl, hb⟩
                  exact hK.out _ _ hb (Eq1.of (rfl)) Fresh.no
                · intro p vs w' K hJ hp1 hp2 hS hR hK
                  simp only [DepJ, List.getD_cons_zero, List.getD_cons_succ] at hJ
                  obtain ⟨j4, j7, -⟩ := hJ
                  have j4 := Eq1.out j4
                  have j7 := Eq1.out j7
                  simp only [j4, j7] at hK ⊢
                  rw [if_pos (by rfl)]
                  go_step
                  exact hK.out _ _ (Below.refl _ _) Eq1.mk Fresh.no
                · intro p vs w' K hJ hp1 hp2 hS hR hK
                  simp only [DepJ, List.getD_cons_zero, List.getD_cons_succ] at hJ
                  obtain ⟨j4, j8, -⟩ := hJ
                  have j4 := Eq1.out j4
                  have j8 := Eq1.out j8
                  simp only [j4, j8] at hK ⊢
                  rw [if_pos (by rfl)]
                  go_step
                  exact hK.out _ _ (Below.refl _ _) Eq1.mk Fresh.no
                · intro p vs w' K hJ hp1 hp2 hS hR hK
                  simp only [DepJ, List.getD_cons_zero, List.getD_cons_succ] at hJ
                  obtain ⟨j9, -⟩ := hJ
                  have j9 := Eq1.out j9
                  simp only [j9] at hK ⊢
                  rw [if_pos (by rfl)]
                  go_step
                  exact hK.out _ _ (Below.refl _ _) Eq1.mk Fresh.no
                · intro p vs w' K hJ hp1 hp2 hS hR hK
                  simp only [DepJ, List.getD_cons_zero, List.getD_cons_succ] at hJ
                  obtain ⟨j10, -⟩ := hJ
                  have j10 := Eq1.out j10
                  simp only [j10] at hK ⊢
                  rw [if_pos (by rfl)]
                  go_step
                  exact hK.out _ _ (Below.refl _ _) Eq1.mk Fresh.no
                · intro p vs w' K hJ hp1 hp2 hS hR hK
                  simp only [DepJ, List.getD_cons_zero, List.getD_cons_succ] at hJ
                  obtain ⟨j10, j11, -⟩ := hJ
                  have j10 := Eq1.out j10
                  have j11 := Eq1.out j11
                  simp only [j10, j11] at hK ⊢
                  rw [if_pos (by rfl)]
                  have C := Hp.facts hS
                  simp only [Facts, factsL, and_true, true_and, List.set_cons_zero, List.set_cons_succ, List.setIfInBounds_toArray] at C
                  have hsz := hR.1
                  go_step
                  exact hK.out _ _ (Below.refl _ _) Eq1.mk Fresh.no
                · intro p vs w' K hJ hp1 hp2 hS hR hK
                  simp only [DepJ, List.getD_cons_zero, List.getD_cons_succ] at hJ
                  obtain ⟨j10, j12, -⟩ := hJ
                  have j10 := Eq1.out j10
                  have j12 := Eq1.out j12
                  simp only [j10, j12] at hK ⊢
                  rw [if_pos (by rfl)]
                  have C := Hp.facts hS
                  simp only [Facts, factsL, and_true, true_and, List.set_cons_zero, List.set_cons_succ, List.setIfInBounds_toArray] at C
                  have hsz := hR.1
                  go_step
                  refine (hEY _).mono ?_
                  rintro e' w'' ⟨rfl, hb⟩
                  exact hK.out _ _ hb (Eq1.of (rfl)) Fresh.no
                · intro p vs w' K hJ hp1 hp2 hS hR hK
                  simp only [DepJ, List.getD_cons_zero, List.getD_cons_succ] at hJ
                  obtain ⟨j10, j13, -⟩ := hJ
                  have j10 := Eq1.out j10
                  have j13 := Eq1.out j13
                  simp only [j10, j13] at hK ⊢
                  rw [if_pos (by rfl)]
                  go_step
                  exact hK.out _ _ (Below.refl _ _) Eq1.mk Fresh.no
                · intro p vs w' K hJ hp1 hp2 hS hR hK
                  simp only [DepJ, List.getD_cons_zero, List.getD_cons_succ] at hJ
                  obtain ⟨j10, j14, -⟩ := hJ
                  have j10 := Eq1.out j10
                  have j14 := Eq1.out j14
                  simp only [j10, j14] at hK ⊢
                  rw [if_pos (by rfl)]
                  go_step
                  exact hK.out _ _ (Below.refl _ _) Eq1.mk Fresh.no
                · intro p vs w' K hJ hp1 hp2 hS hR hK
                  simp only [DepJ, List.getD_cons_zero, List.getD_cons_succ] at hJ
                  obtain ⟨j15, -⟩ := hJ
                  have j15 := Eq1.out j15
                  simp only [j15] at hK ⊢
                  rw [if_pos (by rfl)]
                  go_step
                  exact hK.out _ _ (Below.refl _ _) Eq1.mk Fresh.no
                · intro p vs w' K hJ hp1 hp2 hS hR hK
                  simp only [DepJ, List.getD_cons_zero, List.getD_cons_succ] at hJ
                  obtain ⟨j16, -⟩ := hJ
                  have j16 := Eq1.out j16
                  simp only [j16] at hK ⊢
                  rw [if_neg (by simp [Region.wanted, yielded, undef])]
                  exact hK.out _ _ (Below.refl _ _) Eq1.mk Fresh.no
                · intro p vs w' K hJ hp1 hp2 hS hR hK
                  simp only [DepJ, List.getD_cons_zero, List.getD_cons_succ] at hJ
                  obtain ⟨j16, j17, -⟩ := hJ
                  have j16 := Eq1.out j16
                  have j17 := Eq1.out j17
                  simp only [j16, j17] at hK ⊢
                  rw [if_neg (by simp [Region.wanted, yielded, undef])]
                  exact hK.out _ _ (Below.refl _ _) Eq1.mk Fresh.no
                · intro p vs w' K hJ hp1 hp2 hS hR hK
                  simp only [DepJ, List.getD_cons_zero, List.getD_cons_succ] at hJ
                  obtain ⟨j16, -⟩ := hJ
                  have j16 := Eq1.out j16
                  simp only [j16] at hK ⊢
                  rw [if_neg (by simp [Region.wanted, yielded, undef])]
                  exact hK.out _ _ (Below.refl _ _) Eq1.mk Fresh.no
                · intro p vs w' K hJ hp1 hp2 hS hR hK
                  simp only [DepJ, List.getD_cons_zero, List.getD_cons_succ] at hJ
                  obtain ⟨j16, j19, -⟩ := hJ
                  have j16 := Eq1.out j16
                  have j19 := Eq1.out j19
                  simp only [j16, j19] at hK ⊢
                  rw [if_neg (by simp [Region.wanted, yielded, undef])]
                  exact hK.out _ _ (Below.refl _ _) Eq1.mk Fresh.no
                · intro p vs w' K hJ hp1 hp2 hS hR hK
                  simp only [DepJ, List.getD_cons_zero, List.getD_cons_succ] at hJ
                  obtain ⟨j16, j20, -⟩ := hJ
                  have j16 := Eq1.out j16
                  have j20 := Eq1.out j20
                  simp only [j16, j20] at hK ⊢
                  rw [if_neg (by simp [Region.wanted, yielded, undef])]
                  exact hK.out _ _ (Below.refl _ _) Eq1.mk Fresh.no
                · intro p vs w' K hJ hp1 hp2 hS hR hK
                  simp only [DepJ, List.getD_cons_zero, List.getD_cons_succ] at hJ
                  obtain ⟨j16, j18, j21, -⟩ := hJ
                  have j16 := Eq1.out j16
                  have j18 := Eq1.out j18
                  have j21 := Eq1.out j21
                  simp only [j16, j18, j21] at hK ⊢
                  rw [if_neg (by simp [Region.wanted, yielded, undef])]
                  exact hK.out _ _ (Below.refl _ _) Eq1.mk Fresh.no
                · intro p vs w' K hJ hp1 hp2 hS hR hK
                  simp only [DepJ, List.getD_cons_zero, List.getD_cons_succ] at hJ
                  obtain ⟨j16, j22, -⟩ := hJ
                  have j16 := Eq1.out j16
                  have j22 := Eq1.out j22
                  simp only [j16, j22] at hK ⊢
                  rw [if_pos (by rfl)]
                  go_step
                  exact hK.out _ _ (Below.refl _ _) Eq1.mk Fresh.no
              case hst_2 => refine ⟨fun _ _ _ _ h => h, fun _ _ _ _ h => h, fun _ _ _ _ h => h, fun _ _ _ _ h => h, fun _ _ _ _ h => h, fun _ _ _ _ h => h, fun _ _ _ _ h => h, fun _ _ _ _ h => h, fun _ _ _ _ h => h, fun _ _ _ _ h => h, fun _ _ _ _ h => h, fun _ _ _ _ h => h, fun _ _ _ _ h => h, fun _ _ _ _ h => h, fun _ _ _ _ h => h, fun _ _ _ _ h => h, fun _ _ _ _ h => h, fun _ _ _ _ h => h, fun _ _ _ _ h => h, fun _ _ _ _ h => h, fun _ _ _ _ h => h, fun _ _ _ _ h => h, fun _ _ _ _ h => h, fun _ _ _ _ h => h, trivial⟩
              intro vs w' hJ hD hS hR
              simp only [AllJ, Nat.reduceAdd] at hJ
              obtain ⟨v0, v1, v2, v3, v4, v5, v6, v7, v8, v9, v10, v11, v12, v13, v14, v15, v16, v17, v18, v19, v20, v21, v22, v23, -⟩ := hJ
              clear C
              replace v0 := Eq1.out v0
              replace v1 := Eq1.out v1
              replace v2 := Eq1.out v2
              replace v3 := Eq1.out v3
              replace v4 := Eq1.out v4
              replace v5 := Eq1.out v5
              replace v6 := Eq1.out v6
              replace v7 := Eq1.out v7
              replace v8 := Eq1.out v8
              replace v9 := Eq1.out v9
              replace v10 := Eq1.out v10
              replace v11 := Eq1.out v11
              replace v12 := Eq1.out v12
              replace v13 := Eq1.out v13
              replace v14 := Eq1.out v14
              replace v15 := Eq1.out v15
              replace v16 := Eq1.out v16
              replace v17 := Eq1.out v17
              replace v18 := Eq1.out v18
              replace v19 := Eq1.out v19
              replace v20 := Eq1.out v20
              replace v21 := Eq1.out v21
              replace v22 := Eq1.out v22
              replace v23 := Eq1.out v23
              simp only [v0, v1, v2, v3, v4, v5, v6, v7, v8, v9, v10, v11, v12, v13, v14, v15, v16, v17, v18, v19, v20, v21, v22, v23, List.drop_succ_cons, List.drop_zero]
              refine wpList_nil' ?_
              have H' : Hp _ _ _ := hS
              clear hD hR hS v0 v1 v2 v3 v4 v5 v6 v7 v8 v9 v10 v11 v12 v13 v14 v15 v16 v17 v18 v19 v20 v21 v22 v23
              clear vs H
              have H := H'; clear H'; have C := Hp.facts H; simp only [Facts, factsL, and_true, true_and, List.set_cons_zero, List.set_cons_succ, List.setIfInBounds_toArray] at C
              (repeat' ((fail_if_success (with_reducible show bodyPost _ _ _ _ _ _)); first | ((with_reducible refine Hp.abs_alloc H ?_); intro b' w' H' hb'; (try simp only [hb']); clear hb'; ((try simp only [List.set_cons_zero, List.set_cons_succ, List.setIfInBounds_toArray] at H'); clear C H; have H := H'; clear H'; have C := Hp.facts H; simp only [Facts, factsL, and_true, true_and, List.set_cons_zero, List.set_cons_succ, List.setIfInBounds_toArray] at C)) | ((with_reducible show wpList _ _ _ _ _ (World.setCell _ _ _)); (with_reducible apply Hp.abs_gen H); (first | ((repeat (with_reducible apply Hp.set' 0)); (with_reducible exact H); (repeat rfl); intro w' H') | ((repeat (with_reducible apply Hp.set' 1)); (with_reducible exact H); (repeat rfl); intro w' H') | ((repeat (with_reducible apply Hp.set' 2)); (with_reducible exact H); (repeat rfl); intro w' H') | ((repeat (with_reducible apply Hp.set' 3)); (with_reducible exact H); (repeat rfl); intro w' H') | ((repeat (with_reducible apply Hp.set' 4)); (with_reducible exact H); (repeat rfl); intro w' H') | ((repeat (with_reducible apply Hp.set' 5)); (with_reducible exact H); (repeat rfl); intro w' H') | ((repeat (with_reducible apply Hp.set' 6)); (with_reducible exact H); (repeat rfl); intro w' H') | ((repeat (with_reducible apply Hp.set' 7)); (with_reducible exact H); (repeat rfl); intro w' H')); ((try simp only [List.set_cons_zero, List.set_cons_succ, List.setIfInBounds_toArray] at H'); clear C H; have H := H'; clear H'; have C := Hp.facts H; simp only [Facts, factsL, and_true, true_and, List.set_cons_zero, List.set_cons_succ, List.setIfInBounds_toArray] at C)) | go_values | go_skip | go_guarded | go_step | go_upon | go_back | (simp only [Int.not_lt, Int.not_le] at *; go_simp) | (go_values <;> (try go_simp)) | (go_ite <;> go_prune <;> (try go_simp)) | (split <;> (first | (rename_i hx; exact (hx _ rfl).elim) | go_prune))))
              go_meet
              exact ⟨rfl, H.sel [] (by decide)⟩
          ·
            try simp (disch := omega) only [decide_eq_true, decide_eq_false]
            obtain ⟨wR7, rfl⟩ := Hp.nameW H
            apply region_n (frm wR7.heap.size (fun _ => Hp _ _)) (frm_ok ?hfs_3) frm_sz [] [.light 0 0, .light 0 0, .light 0 0, .light 0 0, .light 0 0, .light 0 0, .light 0 0, .light 0 0, .light 0 0, .light 0 0, .light 0 0, .light 0 0, .light 0 0, .light 0 0, .light 0 0, .light 0 0, .light 0 0, .light 0 0, .light 0 0, .light 0 0, .light 0 0, .light 0 0, .light 0 0, .light 0 0] [false, false, false, false, false, false, false, false, false, false, false, false, false, false, false, false, false, false, false, false, false, false, false, false] 24 96 [] [some 46, some 47, some 48, some 49, some 50, some 51, some 52, some 53, some 54, some 55, some 56, some 57, some 58, some 59, some 60, some 61, some 62, some 63, some 64, some 65, some 66, some 67, some 68, some 69] [[], [0], [1], [2], [3], [4], [4, 5], [4, 6], [4, 7], [4, 8], [9], [10], [10, 11], [10, 12], [10, 13], [10, 14], [15], [16], [16, 17], [16], [16, 19], [16, 20], [16, 18, 21], [16, 22]] [Eq1 _, Eq1 _, Eq1 (.bool false), Eq1 _, Eq1 _, Eq1 _, Eq1 _, Eq1 (.bool true), Eq1 _, Eq1 _, Eq1 _, Eq1 _, Eq1 _, Eq1 _, Eq1 _, Eq1 _, Eq1 _, Eq1 _, Eq1 _, Eq1 _, Eq1 _, Eq1 _, Eq1 _, Eq1 _] ?hq1_3 ?hq2_3 ?hq3_3 ?hq4_3 ?hq5_3 ?hq6_3 _ ?hA_3 ?hst_3 ?h0_3 ?hsteps_3 ?hend_3
            case hq1_3 => kernel_rfl
            case hq2_3 => kernel_rfl
            case hq3_3 => kernel_rfl
            case hq5_3 => kernel_rfl
            case hq4_3 => rfl
            case hq6_3 => rfl
            case hA_3 => intro vs; simp only [fillD, Nat.reduceAdd, Act.put, List.setIfInBounds_toArray, List.set_cons_zero, List.set_cons_succ]; rfl
            case h0_3 => exact H.drew
            case hfs_3 => exact fun _ _ _ hb h => Hp.step h hb
            case hsteps_3 =>
              refine ⟨?_, ?_, ?_, ?_, ?_, ?_, ?_, ?_, ?_, ?_, ?_, ?_, ?_, ?_, ?_, ?_, ?_, ?_, ?_, ?_, ?_, ?_, ?_, ?_, trivial⟩
              · intro p vs w' K hJ hp1 hp2 hS hR hK
                rw [if_pos (by rfl)]
                have C := Hp.facts hS
                simp only [Facts, factsL, and_true, true_and, List.set_cons_zero, List.set_cons_succ, List.setIfInBounds_toArray] at C
                have hsz := hR.1
                go_step
                exact hK.out _ _ (Below.refl _ _) Eq1.mk Fresh.no
              · intro p vs w' K hJ hp1 hp2 hS hR hK
                simp only [DepJ, List.getD_cons_zero, List.getD_cons_succ] at hJ
                obtain ⟨j0, -⟩ := hJ
                have j0 := Eq1.out j0
                simp only [j0] at hK ⊢
                rw [if_pos (by rfl)]
                have C := Hp.facts hS
                simp only [Facts, factsL, and_true, true_and, List.set_cons_zero, List.set_cons_succ, List.setIfInBounds_toArray] at C
                have hsz := hR.1
                go_step
                refine (to_any _ _ _).mono ?_
                rintro e' w'' ⟨rfl, hb⟩
                exact hK.out _ _ hb Eq1.mk Fresh.no
              · intro p vs w' K hJ hp1 hp2 hS hR hK
                simp only [DepJ, List.getD_cons_zero, List.getD_cons_succ] at hJ
                obtain ⟨j1, -⟩ := hJ
                have j1 := Eq1.out j1
                simp only [j1] at hK ⊢
                rw [if_pos (by rfl)]
                have C := Hp.facts hS
                simp only [Facts, factsL, and_true, true_and, List.set_cons_zero, List.set_cons_succ, List.setIfInBounds_toArray] at C
                have hsz := hR.1
                go_step
                refine (hEm _).mono ?_
                rintro e' w'' ⟨rfl, hb⟩
                exact hK.out _ _ hb (Eq1.of (rfl)) Fresh.no
              · intro p vs w' K hJ hp1 hp2 hS hR hK
                simp only [DepJ, List.getD_cons_zero, List.getD_cons_succ] at hJ
                obtain ⟨j2, -⟩ := hJ
                have j2 := Eq1.out j2
                simp only [j2] at hK ⊢
                rw [if_pos (by rfl)]
                go_step
                exact hK.out _ _ (Below.refl _ _) Eq1.mk Fresh.no
              · intro p vs w' K hJ hp1 hp2 hS hR hK
                simp only [DepJ, List.getD_cons_zero, List.getD_cons_succ] at hJ
                obtain ⟨j3, -⟩ := hJ
                have j3 := Eq1.out j3
                simp only [j3] at hK ⊢
                rw [if_pos (by rfl)]
                go_step
                exact hK.out _ _ (Below.refl _ _) Eq1.mk Fresh.no
              · intro p vs w' K hJ hp1 hp2 hS hR hK
                simp only [DepJ, List.getD_cons_zero, List.getD_cons_succ] at hJ
                obtain ⟨j4, -⟩ := hJ
                have j4 := Eq1.out j4
                simp only [j4] at hK ⊢
                rw [if_pos (by rfl)]
                go_step
                exact hK.out _ _ (Below.refl _ _) Eq1.mk Fresh.no
              · intro p vs w' K hJ hp1 hp2 hS hR hK
                simp only [DepJ, List.getD_cons_zero, List.getD_cons_succ] at hJ
                obtain ⟨j4, j5, -⟩ := hJ
                have j4 := Eq1.out j4
                have j5 := Eq1.out j5
                simp only [j4, j5] at hK ⊢
                rw [if_pos (by rfl)]
                have C := Hp.facts hS
                simp only [Facts, factsL, and_true, true_and, List.set_cons_zero, List.set_cons_succ, List.setIfInBounds_toArray] at C
                have hsz := hR.1
                go_step
                exact hK.out _ _ (Below.refl _ _) Eq1.mk Fresh.no
              · intro p vs w' K hJ hp1 hp2 hS hR hK
                simp only [DepJ, List.getD_cons_zero, List.getD_cons_succ] at hJ
                obtain ⟨j4, j6, -⟩ := hJ
                have j4 := Eq1.out j4
                have j6 := Eq1.out j6
                simp only [j4, j6] at hK ⊢
                rw [if_pos (by rfl)]
                have C := Hp.facts hS
                simp only [Facts, factsL, and_true, true_and, List.set_cons_zero, List.set_cons_succ, List.setIfInBounds_toArray] at C
                have hsz := hR.1
                go_step
                refine (hEX _).mono ?_
                rintro e' w'' ⟨rfl, hb⟩
                exact hK.out _ _ hb (Eq1.of (rfl)) Fresh.no
              · intro p vs w' K hJ hp1 hp2 hS hR hK
                simp only [DepJ, List.getD_cons_zero, List.getD_cons_succ] at hJ
                obtain ⟨j4, j7, -⟩ := hJ
                have j4 := Eq1.out j4
                have j7 := Eq1.out j7
                simp only [j4, j7] at hK ⊢
                rw [if_pos (by rfl)]
                go_step
                exact hK.out _ _ (Below.refl _ _) Eq1.mk Fresh.no
              · intro p vs w' K hJ hp1 hp2 hS hR hK
                simp only [DepJ, List.getD_cons_zero, List.getD_cons_succ] at hJ
                obtain ⟨j4, j8, -⟩ := hJ
                have j4 := Eq1.out j4
                have j8 := Eq1.out j8
                simp only [j4, j8] at hK ⊢
                rw [if_pos (by rfl)]
                go_step
                exact hK.out _ _ (Below.refl _ _) Eq1.mk Fresh.no
              · intro p vs w' K hJ hp1 hp2 hS hR hK
                simp only [DepJ, List.getD_cons_zero, List.getD_cons_succ] at hJ
                obtain ⟨j9, -⟩ := hJ
                have j9 := Eq1.out j9
                simp only [j9] at hK ⊢
                rw [if_pos (by rfl)]
                go_step
                exact hK.out _ _ (Below.refl _ _) Eq1.mk Fresh.no
              · intro p vs w' K hJ hp1 hp2 hS hR hK
                simp only [DepJ, List.getD_cons_zero, List.getD_cons_succ] at hJ
                obtain ⟨j10, -⟩ := hJ
                have j10 := Eq1.out j10
                simp only [j10] at hK ⊢
                rw [if_neg (by simp [Region.wanted, yielded, undef])]
                exact hK.out _ _ (Below.refl _ _) Eq1.mk Fresh.no
              · intro p vs w' K hJ hp1 hp2 hS hR hK
                simp only [DepJ, List.getD_cons_zero, List.getD_cons_succ] at hJ
                obtain ⟨j10, j11, -⟩ := hJ
                have j10 := Eq1.out j10
                have j11 := Eq1.out j11
                simp only [j10, j11] at hK ⊢
                rw [if_neg (by simp [Region.wanted, yielded, undef])]
                exact hK.out _ _ (Below.refl _ _) Eq1.mk Fresh.no
              · intro p vs w' K hJ hp1 hp2 hS hR hK
                simp only [DepJ, List.getD_cons_zero, List.getD_cons_succ] at hJ
                obtain ⟨j10, j12, -⟩ := hJ
                have j10 := Eq1.out j10
                have j12 := Eq1.out j12
                simp only [j10, j12] at hK ⊢
                rw [if_neg (by simp [Region.wanted, yielded, undef])]
                exact hK.out _ _ (Below.refl _ _) Eq1.mk Fresh.no
              · intro p vs w' K hJ hp1 hp2 hS hR hK
                simp only [DepJ, List.getD_cons_zero, List.getD_cons_succ] at hJ
                obtain ⟨j10, j13, -⟩ := hJ
                have j10 := Eq1.out j10
                have j13 := Eq1.out j13
                simp only [j10, j13] at hK ⊢
                rw [if_neg (by simp [Region.wanted, yielded, undef])]
                exact hK.out _ _ (Below.refl _ _) Eq1.mk Fresh.no
              · intro p vs w' K hJ hp1 hp2 hS hR hK
                simp only [DepJ, List.getD_cons_zero, List.getD_cons_succ] at hJ
                obtain ⟨j10, j14, -⟩ := hJ
                have j10 := Eq1.out j10
                have j14 := Eq1.out j14
                simp only [j10, j14] at hK ⊢
                rw [if_pos (by rfl)]
                go_step
                exact hK.out _ _ (Below.refl _ _) Eq1.mk Fresh.no
              · intro p vs w' K hJ hp1 hp2 hS hR hK
                simp only [DepJ, List.getD_cons_zero, List.getD_cons_succ] at hJ
                obtain ⟨j15, -⟩ := hJ
                have j15 := Eq1.out j15
                simp only [j15] at hK ⊢
                rw [if_pos (by rfl)]
                go_step
                exact hK.out _ _ (Below.refl _ _) Eq1.mk Fresh.no
              · intro p vs w' K hJ hp1 hp2 hS hR hK
                simp only [DepJ, List.getD_cons_zero, List.getD_cons_succ] at hJ
                obtain ⟨j16, -⟩ := hJ
                have j16 := Eq1.out j16
                simp only [j16] at hK ⊢
                rw [if_neg (by simp [Region.wanted, yielded, undef])]
                exact hK.out _ _ (Below.refl _ _) Eq1.mk Fresh.no
              · intro p vs w' K hJ hp1 hp2 hS hR hK
                simp only [DepJ, List.getD_cons_zero, List.getD_cons_succ] at hJ
                obtain ⟨j16, j17, -⟩ := hJ
                have j16 := Eq1.out j16
                have j17 := Eq1.out j17
                simp only [j16, j17] at hK ⊢
                rw [if_neg (by simp [Region.wanted, yielded, undef])]
                exact hK.out _ _ (Below.refl _ _) Eq1.mk Fresh.no
              · intro p vs w' K hJ hp1 hp2 hS hR hK
                simp only [DepJ, List.getD_cons_zero, List.getD_cons_succ] at hJ
                obtain ⟨j16, -⟩ := hJ
                have j16 := Eq1.out j16
                simp only [j16] at hK ⊢
                rw [if_neg (by simp [Region.wanted, yielded, undef])]
                exact hK.out _ _ (Below.refl _ _) Eq1.mk Fresh.no
              · intro p vs w' K hJ hp1 hp2 hS hR hK
                simp only [DepJ, List.getD_cons_zero, List.getD_cons_succ] at hJ
                obtain ⟨j16, j19, -⟩ := hJ
                have j16 := Eq1.out j16
                have j19 := Eq1.out j19
                simp only [j16, j19] at hK ⊢
                rw [if_neg (by simp [Region.wanted, yielded, undef])]
                exact hK.out _ _ (Below.refl _ _) Eq1.mk Fresh.no
              · intro p vs w' K hJ hp1 hp2 hS hR hK
                simp only [DepJ, List.getD_cons_zero, List.getD_cons_succ] at hJ
                obtain ⟨j16, j20, -⟩ := hJ
                have j16 := Eq1.out j16
                have j20 := Eq1.out j20
                simp only [j16, j20] at hK ⊢
                rw [if_neg (by simp [Region.wanted, yielded, undef])]
                exact hK.out _ _ (Below.refl _ _) Eq1.mk Fresh.no
              · intro p vs w' K hJ hp1 hp2 hS hR hK
                simp only [DepJ, List.getD_cons_zero, List.getD_cons_succ] at hJ
                obtain ⟨j16, j18, j21, -⟩ := hJ
                have j16 := Eq1.out j16
                have j18 := Eq1.out j18
                have j21 := Eq1.out j21
                simp only [j16, j18, j21] at hK ⊢
                rw [if_neg (by simp [Region.wanted, yielded, undef])]
                exact hK.out _ _ (Below.refl _ _) Eq1.mk Fresh.no
              · intro p vs w' K hJ hp1 hp2 hS hR hK
                simp only [DepJ, List.getD_cons_zero, List.getD_cons_succ] at hJ
                obtain ⟨j16, j22, -⟩ := hJ
                have j16 := Eq1.out j16
                have j22 := Eq1.out j22
                simp only [j16, j22] at hK ⊢
                rw [if_pos (by rfl)]
                go_step
                exact hK.out _ _ (Below.refl _ _) Eq1.mk Fresh.no
            case hst_3 => refine ⟨fun _ _ _ _ h => h, fun _ _ _ _ h => h, fun _ _ _ _ h => h, fun _ _ _ _ h => h, fun _ _ _ _ h => h, fun _ _ _ _ h => h, fun _ _ _ _ h => h, fun _ _ _ _ h => h, fun _ _ _ _ h => h, fun _ _ _ _ h => h, fun _ _ _ _ h => h, fun _ _ _ _ h => h, fun _ _ _ _ h => h, fun _ _ _ _ h => h, fun _ _ _ _ h => h, fun _ _ _ _ h => h, fun _ _ _ _ h => h, fun _ _ _ _ h => h, fun _ _ _ _ h => h, fun _ _ _ _ h => h, fun _ _ _ _ h => h, fun _ _ _ _ h => h, fun _ _ _ _ h => h, fun _ _ _ _ h => h, trivial⟩
            intro vs w' hJ hD hS hR
            simp only [AllJ, Nat.reduceAdd] at hJ
            obtain ⟨v0, v1, v2, v3, v4, v5, v6, v7, v8, v9, v10, v11, v12, v13, v14, v15, v16, v17, v18, v19, v20, v21, v22, v23, -⟩ := hJ
            clear C
            replace v0 := Eq1.out v0
            replace v1 := Eq1.out v1
            replace v2 := Eq1.out v2
            replace v3 := Eq1.out v3
            replace v4 := Eq1.out v4
            replace v5 := Eq1.out v5
            replace v6 := Eq1.out v6
            replace v7 := Eq1.out v7
            replace v8 := Eq1.out v8
            replace v9 := Eq1.out v9
            replace v10 := Eq1.out v10
            replace v11 := Eq1.out v11
            replace v12 := Eq1.out v12
            replace v13 := Eq1.out v13
            replace v14 := Eq1.out v14
            replace v15 := Eq1.out v15
            replace v16 := Eq1.out v16
            replace v17 := Eq1.out v17
            replace v18 := Eq1.out v18
            replace v19 := Eq1.out v19
            replace v20 := Eq1.out v20
            replace v21 := Eq1.out v21
            replace v22 := Eq1.out v22
            replace v23 := Eq1.out v23
            simp only [v0, v1, v2, v3, v4, v5, v6, v7, v8, v9, v10, v11, v12, v13, v14, v15, v16, v17, v18, v19, v20, v21, v22, v23, List.drop_succ_cons, List.drop_zero]
            refine wpList_nil' ?_
            have H' : Hp _ _ _ := hS
            clear hD hR hS v0 v1 v2 v3 v4 v5 v6 v7 v8 v9 v10 v11 v12 v13 v14 v15 v16 v17 v18 v19 v20 v21 v22 v23
            clear vs H
            have H := H'; clear H'; have C := Hp.facts H; simp only [Facts, factsL, and_true, true_and, List.set_cons_zero, List.set_cons_succ, List.setIfInBounds_toArray] at C
            (repeat' ((fail_if_success (with_reducible show bodyPost _ _ _ _ _ _)); first | ((with_reducible refine Hp.abs_alloc H ?_); intro b' w' H' hb'; (try simp only [hb']); clear hb'; ((try simp only [List.set_cons_zero, List.set_cons_succ, List.setIfInBounds_toArray] at H'); clear C H; have H := H'; clear H'; have C := Hp.facts H; simp only [Facts, factsL, and_true, true_and, List.set_cons_zero, List.set_cons_succ, List.setIfInBounds_toArray] at C)) | ((with_reducible show wpList _ _ _ _ _ (World.setCell _ _ _)); (with_reducible apply Hp.abs_gen H); (first | ((repeat (with_reducible apply Hp.set' 0)); (with_reducible exact H); (repeat rfl); intro w' H') | ((repeat (with_reducible apply Hp.set' 1)); (with_reducible exact H); (repeat rfl); intro w' H') | ((repeat (with_reducible apply Hp.set' 2)); (with_reducible exact H); (repeat rfl); intro w' H') | ((repeat (with_reducible apply Hp.set' 3)); (with_reducible exact H); (repeat rfl); intro w' H') | ((repeat (with_reducible apply Hp.set' 4)); (with_reducible exact H); (repeat rfl); intro w' H') | ((repeat (with_reducible apply Hp.set' 5)); (with_reducible exact H); (repeat rfl); intro w' H') | ((repeat (with_reducible apply Hp.set' 6)); (with_reducible exact H); (repeat rfl); intro w' H') | ((repeat (with_reducible apply Hp.set' 7)); (with_reducible exact H); (repeat rfl); intro w' H')); ((try simp only [List.set_cons_zero, List.set_cons_succ, List.setIfInBounds_toArray] at H'); clear C H; have H := H'; clear H'; have C := Hp.facts H; simp only [Facts, factsL, and_true, true_and, List.set_cons_zero, List.set_cons_succ, List.setIfInBounds_toArray] at C)) | go_values | go_skip | go_guarded | go_step | go_upon | go_back | (simp only [Int.not_lt, Int.not_le] at *; go_simp) | (go_values <;> (try go_simp)) | (go_ite <;> go_prune <;> (try go_simp)) | (split <;> (first | (rename_i hx; exact (hx _ rfl).elim) | go_prune))))
            go_meet
            exact ⟨rfl, H.sel [] (by decide)⟩
        ·
          try simp (disch := omega) only [decide_eq_true, decide_eq_false]
          obtain ⟨wR7, rfl⟩ := Hp.nameW H
          apply region_n (frm wR7.heap.size (fun _ => Hp _ _)) (frm_ok ?hfs_4) frm_sz [] [.light 0 0, .light 0 0, .light 0 0, .light 0 0, .light 0 0, .light 0 0, .light 0 0, .light 0 0, .light 0 0, .light 0 0, .light 0 0, .light 0 0, .light 0 0, .light 0 0, .light 0 0, .light 0 0, .light 0 0, .light 0 0, .light 0 0, .light 0 0, .light 0 0, .light 0 0, .light 0 0, .light 0 0] [false, false, false, false, false, false, false, false, false, false, false, false, false, false, false, false, false, false, false, false, false, false, false, false] 24 96 [] [some 46, some 47, some 48, some 49, some 50, some 51, some 52, some 53, some 54, some 55, some 56, some 57, some 58, some 59, some 60, some 61, some 62, some 63, some 64, some 65, some 66, some 67, some 68, some 69] [[], [0], [1], [2], [3], [4], [4, 5], [4, 6], [4, 7], [4, 8], [9], [10], [10, 11], [10, 12], [10, 13], [10, 14], [15], [16], [16, 17], [16], [16, 19], [16, 20], [16, 18, 21], [16, 22]] [Eq1 _, Eq1 _, Eq1 (.bool true), Eq1 _, Eq1 _, Eq1 _, Eq1 _, Eq1 _, Eq1 _, Eq1 _, Eq1 _, Eq1 _, Eq1 _, Eq1 _, Eq1 _, Eq1 _, Eq1 _, Eq1 _, Eq1 _, Eq1 _, Eq1 _, Eq1 _, Eq1 _, Eq1 _] ?hq1_4 ?hq2_4 ?hq3_4 ?hq4_4 ?hq5_4 ?hq6_4 _ ?hA_4 ?hst_4 ?h0_4 ?hsteps_4 ?hend_4
          case hq1_4 => kernel_rfl
          case hq2_4 => kernel_rfl
          case hq3_4 => kernel_rfl
          case hq5_4 => kernel_rfl
          case hq4_4 => rfl
          case hq6_4 => rfl
          case hA_4 => intro vs; simp only [fillD, Nat.reduceAdd, Act.put, List.setIfInBounds_toArray, List.set_cons_zero, List.set_cons_succ]; rfl
          case h0_4 => exact H.drew
          case hfs_4 => exact fun _ _ _ hb h => Hp.step h hb
          case hsteps_4 =>
            refine ⟨?_, ?_, ?_, ?_, ?_, ?_, ?_, ?_, ?_, ?_, ?_, ?_, ?_, ?_, ?_, ?_, ?_, ?_, ?_, ?_, ?_, ?_, ?_, ?_, trivial⟩
            · intro p vs w' K hJ hp1 hp2 hS hR hK
              rw [if_pos (by rfl)]
              have C := Hp.facts hS
              simp only [Facts, factsL, and_true, true_and, List.set_cons_zero, List.set_cons_succ, List.setIfInBounds_toArray] at C
              have hsz := hR.1
              go_step
              exact hK.out _ _ (Below.refl _ _) Eq1.mk Fresh.no
            · intro p vs w' K hJ hp1 hp2 hS hR hK
              simp only [DepJ, List.getD_cons_zero, List.getD_cons_succ] at hJ
              obtain ⟨j0, -⟩ := hJ
              have j0 := Eq1.out j0
              simp only [j0] at hK ⊢
              rw [if_pos (by rfl)]
              have C := Hp.facts hS
              simp only [Facts, factsL, and_true, true_and, List.set_cons_zero, List.set_cons_succ, List.setIfInBounds_toArray] at C
              have hsz := hR.1
              go_step
              refine (to_any _ _ _).mono ?_
              rintro e' w'' ⟨rfl, hb⟩
              exact hK.out _ _ hb Eq1.mk Fresh.no
            · intro p vs w' K hJ hp1 hp2 hS hR hK
              simp only [DepJ, List.getD_cons_zero, List.getD_cons_succ] at hJ
              obtain ⟨j1, -⟩ := hJ
              have j1 := Eq1.out j1
              simp only [j1] at hK ⊢
              rw [if_pos (by rfl)]
              have C := Hp.facts hS
              simp only [Facts, factsL, and_true, true_and, List.set_cons_zero, List.set_cons_succ, List.setIfInBounds_toArray] at C
              have hsz := hR.1
              go_step
              refine (hEm _).mono ?_
              rintro e' w'' ⟨rfl, hb⟩
              exact hK.out _ _ hb (Eq1.of (rfl)) Fresh.no
            · intro p vs w' K hJ hp1 hp2 hS hR hK
              simp only [DepJ, List.getD_cons_zero, List.getD_cons_succ] at hJ
              obtain ⟨j2, -⟩ := hJ
              have j2 := Eq1.out j2
              simp only [j2] at hK ⊢
              rw [if_pos (by rfl)]
              go_step
              exact hK.out _ _ (Below.refl _ _) Eq1.mk Fresh.no
            · intro p vs w' K hJ hp1 hp2 hS hR hK
              simp only [DepJ, List.getD_cons_zero, List.getD_cons_succ] at hJ
              obtain ⟨j3, -⟩ := hJ
              have j3 := Eq1.out j3
              simp only [j3] at hK ⊢
              rw [if_pos (by rfl)]
              go_step
              exact hK.out _ _ (Below.refl _ _) Eq1.mk Fresh.no
            · intro p vs w' K hJ hp1 hp2 hS hR hK
              simp only [DepJ, List.getD_cons_zero, List.getD_cons_succ] at hJ
              obtain ⟨j4, -⟩ := hJ
              have j4 := Eq1.out j4
              simp only [j4] at hK ⊢
              rw [if_neg (by simp [Region.wanted, yielded, undef])]
              exact hK.out _ _ (Below.refl _ _) Eq1.mk Fresh.no
            · intro p vs w' K hJ hp1 hp2 hS hR hK
              simp only [DepJ, List.getD_cons_zero, List.getD_cons_succ] at hJ
              obtain ⟨j4, j5, -⟩ := hJ
              have j4 := Eq1.out j4
              have j5 := Eq1.out j5
              simp only [j4, j5] at hK ⊢
              rw [if_neg (by simp [Region.wanted, yielded, undef])]
              exact hK.out _ _ (Below.refl _ _) Eq1.mk Fresh.no
            · intro p vs w' K hJ hp1 hp2 hS hR hK
              simp only [DepJ, List.getD_cons_zero, List.getD_cons_succ] at hJ
              obtain ⟨j4, j6, -⟩ := hJ
              have j4 := Eq1.out j4
              have j6 := Eq1.out j6
              simp only [j4, j6] at hK ⊢
              rw [if_neg (by simp [Region.wanted, yielded, undef])]
              exact hK.out _ _ (Below.refl _ _) Eq1.mk Fresh.no
            · intro p vs w' K hJ hp1 hp2 hS hR hK
              simp only [DepJ, List.getD_cons_zero, List.getD_cons_succ] at hJ
              obtain ⟨j4, j7, -⟩ := hJ
              have j4 := Eq1.out j4
              have j7 := Eq1.out j7
              simp only [j4, j7] at hK ⊢
              rw [if_neg (by simp [Region.wanted, yielded, undef])]
              exact hK.out _ _ (Below.refl _ _) Eq1.mk Fresh.no
            · intro p vs w' K hJ hp1 hp2 hS hR hK
              simp only [DepJ, List.getD_cons_zero, List.getD_cons_succ] at hJ
              obtain ⟨j4, j8, -⟩ := hJ
              have j4 := Eq1.out j4
              have j8 := Eq1.out j8
              simp only [j4, j8] at hK ⊢
              rw [if_pos (by rfl)]
              go_step
              exact hK.out _ _ (Below.refl _ _) Eq1.mk Fresh.no
            · intro p vs w' K hJ hp1 hp2 hS hR hK
              simp only [DepJ, List.getD_cons_zero, List.getD_cons_succ] at hJ
              obtain ⟨j9, -⟩ := hJ
              have j9 := Eq1.out j9
              simp only [j9] at hK ⊢
              rw [if_pos (by rfl)]
              go_step
              exact hK.out _ _ (Below.refl _ _) Eq1.mk Fresh.no
            · intro p vs w' K hJ hp1 hp2 hS hR hK
              simp only [DepJ, List.getD_cons_zero, List.getD_cons_succ] at hJ
              obtain ⟨j10, -⟩ := hJ
              have j10 := Eq1.out j10
              simp only [j10] at hK ⊢
              rw [if_neg (by simp [Region.wanted, yielded, undef])]
              exact hK.out _ _ (Below.refl _ _) Eq1.mk Fresh.no
            · intro p vs w' K hJ hp1 hp2 hS hR hK
              simp only [DepJ, List.getD_cons_zero, List.getD_cons_succ] at hJ
              obtain ⟨j10, j11, -⟩ := hJ
              have j10 := Eq1.out j10
              have j11 := Eq1.out j11
              simp only [j10, j11] at hK ⊢
              rw [if_neg (by simp [Region.wanted, yielded, undef])]
              exact hK.out _ _ (Below.refl _ _) Eq1.mk Fresh.no
            · intro p vs w' K hJ hp1 hp2 hS hR hK
              simp only [DepJ, List.getD_cons_zero, List.getD_cons_succ] at hJ
              obtain ⟨j10, j12, -⟩ := hJ
              have j10 := Eq1.out j10
              have j12 := Eq1.out j12
              simp only [j10, j12] at hK ⊢
              rw [if_neg (by simp [Region.wanted, yielded, undef])]
              exact hK.out _ _ (Below.refl _ _) Eq1.mk Fresh.no
            · intro p vs w' K hJ hp1 hp2 hS hR hK
              simp only [DepJ, List.getD_cons_zero, List.getD_cons_succ] at hJ
              obtain ⟨j10, j13, -⟩ := hJ
              have j10 := Eq1.out j10
              have j13 := Eq1.out j13
              simp only [j10, j13] at hK ⊢
              rw [if_neg (by simp [Region.wanted, yielded, undef])]
              exact hK.out _ _ (Below.refl _ _) Eq1.mk Fresh.no
            · intro p vs w' K hJ hp1 hp2 hS hR hK
              simp only [DepJ, List.getD_cons_zero, List.getD_cons_succ] at hJ
              obtain ⟨j10, j14, -⟩ := hJ
              have j10 := Eq1.out j10
              have j14 := Eq1.out j14
              simp only [j10, j14] at hK ⊢
              rw [if_pos (by rfl)]
              go_step
              exact hK.out _ _ (Below.refl _ _) Eq1.mk Fresh.no
            · intro p vs w' K hJ hp1 hp2 hS hR hK
              simp only [DepJ, List.getD_cons_zero, List.getD_cons_succ] at hJ
              obtain ⟨j15, -⟩ := hJ
              have j15 := Eq1.out j15
              simp only [j15] at hK ⊢
              rw [if_pos (by rfl)]
              go_step
              exact hK.out _ _ (Below.refl _ _) Eq1.mk Fresh.no
            · intro p vs w' K hJ hp1 hp2 hS hR hK
              simp only [DepJ, List.getD_cons_zero, List.getD_cons_succ] at hJ
              obtain ⟨j16, -⟩ := hJ
              have j16 := Eq1.out j16
              simp only [j16] at hK ⊢
              rw [if_neg (by simp [Region.wanted, yielded, undef])]
              exact hK.out _ _ (Below.refl _ _) Eq1.mk Fresh.no
            · intro p vs w' K hJ hp1 hp2 hS hR hK
              simp only [DepJ, List.getD_cons_zero, List.getD_cons_succ] at hJ
              obtain ⟨j16, j17, -⟩ := hJ
              have j16 := Eq1.out j16
              have j17 := Eq1.out j17
              simp only [j16, j17] at hK ⊢
              rw [if_neg (by simp [Region.wanted, yielded, undef])]
              exact hK.out _ _ (Below.refl _ _) Eq1.mk Fresh.no
            · intro p vs w' K hJ hp1 hp2 hS hR hK
              simp only [DepJ, List.getD_cons_zero, List.getD_cons_succ] at hJ
              obtain ⟨j16, -⟩ := hJ
              have j16 := Eq1.out j16
              simp only [j16] at hK ⊢
              rw [if_neg (by simp [Region.wanted, yielded, undef])]
              exact hK.out _ _ (Below.refl _ _) Eq1.mk Fresh.no
            · intro p vs w' K hJ hp1 hp2 hS hR hK
              simp only [DepJ, List.getD_cons_zero, List.getD_cons_succ] at hJ
              obtain ⟨j16, j19, -⟩ := hJ
              have j16 := Eq1.out j16
              have j19 := Eq1.out j19
              simp only [j16, j19] at hK ⊢
              rw [if_neg (by simp [Region.wanted, yielded, undef])]
              exact hK.out _ _ (Below.refl _ _) Eq1.mk Fresh.no
            · intro p vs w' K hJ hp1 hp2 hS hR hK
              simp only [DepJ, List.getD_cons_zero, List.getD_cons_succ] at hJ
              obtain ⟨j16, j20, -⟩ := hJ
              have j16 := Eq1.out j16
              have j20 := Eq1.out j20
              simp only [j16, j20] at hK ⊢
              rw [if_neg (by simp [Region.wanted, yielded, undef])]
              exact hK.out _ _ (Below.refl _ _) Eq1.mk Fresh.no
            · intro p vs w' K hJ hp1 hp2 hS hR hK
              simp only [DepJ, List.getD_cons_zero, List.getD_cons_succ] at hJ
              obtain ⟨j16, j18, j21, -⟩ := hJ
              have j16 := Eq1.out j16
              have j18 := Eq1.out j18
              have j21 := Eq1.out j21
              simp only [j16, j18, j21] at hK ⊢
              rw [if_neg (by simp [Region.wanted, yielded, undef])]
              exact hK.out _ _ (Below.refl _ _) Eq1.mk Fresh.no
            · intro p vs w' K hJ hp1 hp2 hS hR hK
              simp only [DepJ, List.getD_cons_zero, List.getD_cons_succ] at hJ
              obtain ⟨j16, j22, -⟩ := hJ
              have j16 := Eq1.out j16
              have j22 := Eq1.out j22
              simp only [j16, j22] at hK ⊢
              rw [if_pos (by rfl)]
              go_step
              exact hK.out _ _ (Below.refl _ _) Eq1.mk Fresh.no
          case hst_4 => refine ⟨fun _ _ _ _ h => h, fun _ _ _ _ h => h, fun _ _ _ _ h => h, fun _ _ _ _ h => h, fun _ _ _ _ h => h, fun _ _ _ _ h => h, fun _ _ _ _ h => h, fun _ _ _ _ h => h, fun _ _ _ _ h => h, fun _ _ _ _ h => h, fun _ _ _ _ h => h, fun _ _ _ _ h => h, fun _ _ _ _ h => h, fun _ _ _ _ h => h, fun _ _ _ _ h => h, fun _ _ _ _ h => h, fun _ _ _ _ h => h, fun _ _ _ _ h => h, fun _ _ _ _ h => h, fun _ _ _ _ h => h, fun _ _ _ _ h => h, fun _ _ _ _ h => h, fun _ _ _ _ h => h, fun _ _ _ _ h => h, trivial⟩
          intro vs w' hJ hD hS hR
          simp only [AllJ, Nat.reduceAdd] at hJ
          obtain ⟨v0, v1, v2, v3, v4, v5, v6, v7, v8, v9, v10, v11, v12, v13, v14, v15, v16, v17, v18, v19, v20, v21, v22, v23, -⟩ := hJ
          clear C
          replace v0 := Eq1.out v0
          replace v1 := Eq1.out v1
          replace v2 := Eq1.out v2
          replace v3 := Eq1.out v3
          replace v4 := Eq1.out v4
          replace v5 := Eq1.out v5
          replace v6 := Eq1.out v6
          replace v7 := Eq1.out v7
          replace v8 := Eq1.out v8
          replace v9 := Eq1.out v9
          replace v10 := Eq1.out v10
          replace v11 := Eq1.out v11
          replace v12 := Eq1.out v12
          replace v13 := Eq1.out v13
          replace v14 := Eq1.out v14
          replace v15 := Eq1.out v15
          replace v16 := Eq1.out v16
          replace v17 := Eq1.out v17
          replace v18 := Eq1.out v18
          replace v19 := Eq1.out v19
          replace v20 := Eq1.out v20
          replace v21 := Eq1.out v21
          replace v22 := Eq1.out v22
          replace v23 := Eq1.out v23
          simp only [v0, v1, v2, v3, v4, v5, v6, v7, v8, v9, v10, v11, v12, v13, v14, v15, v16, v17, v18, v19, v20, v21, v22, v23, List.drop_succ_cons, List.drop_zero]
          refine wpList_nil' ?_
          have H' : Hp _ _ _ := hS
          clear hD hR hS v0 v1 v2 v3 v4 v5 v6 v7 v8 v9 v10 v11 v12 v13 v14 v15 v16 v17 v18 v19 v20 v21 v22 v23
          clear vs H
          have H := H'; clear H'; have C := Hp.facts H; simp only [Facts, factsL, and_true, true_and, List.set_cons_zero, List.set_cons_succ, List.setIfInBounds_toArray] at C
          (repeat' ((fail_if_success (with_reducible show bodyPost _ _ _ _ _ _)); first | ((with_reducible refine Hp.abs_alloc H ?_); intro b' w' H' hb'; (try simp only [hb']); clear hb'; ((try simp only [List.set_cons_zero, List.set_cons_succ, List.setIfInBounds_toArray] at H'); clear C H; have H := H'; clear H'; have C := Hp.facts H; simp only [Facts, factsL, and_true, true_and, List.set_cons_zero, List.set_cons_succ, List.setIfInBounds_toArray] at C)) | ((with_reducible show wpList _ _ _ _ _ (World.setCell _ _ _)); (with_reducible apply Hp.abs_gen H); (first | ((repeat (with_reducible apply Hp.set' 0)); (with_reducible exact H); (repeat rfl); intro w' H') | ((repeat (with_reducible apply Hp.set' 1)); (with_reducible exact H); (repeat rfl); intro w' H') | ((repeat (with_reducible apply Hp.set' 2)); (with_reducible exact H); (repeat rfl); intro w' H') | ((repeat (with_reducible apply Hp.set' 3)); (with_reducible exact H); (repeat rfl); intro w' H') | ((repeat (with_reducible apply Hp.set' 4)); (with_reducible exact H); (repeat rfl); intro w' H') | ((repeat (with_reducible apply Hp.set' 5)); (with_reducible exact H); (repeat rfl); intro w' H') | ((repeat (with_reducible apply Hp.set' 6)); (with_reducible exact H); (repeat rfl); intro w' H') | ((repeat (with_reducible apply Hp.set' 7)); (with_reducible exact H); (repeat rfl); intro w' H')); ((try simp only [List.set_cons_zero, List.set_cons_succ, List.setIfInBounds_toArray] at H'); clear C H; have H := H'; clear H'; have C := Hp.facts H; simp only [Facts, factsL, and_true, true_and, List.set_cons_zero, List.set_cons_succ, List.setIfInBounds_toArray] at C)) | go_values | go_skip | go_guarded | go_step | go_upon | go_back | (simp only [Int.not_lt, Int.not_le] at *; go_simp) | (go_values <;> (try go_simp)) | (go_ite <;> go_prune <;> (try go_simp)) | (split <;> (first | (rename_i hx; exact (hx _ rfl).elim) | go_prune))))
          go_meet
          exact ⟨rfl, H.sel [] (by decide)⟩
      case rest =>
        clear H C
        obtain ⟨rfl, H⟩ := hcut
        have C := Hp.facts H
        simp only [Facts, factsL, and_true, true_and, List.set_cons_zero, List.set_cons_succ, List.setIfInBounds_toArray] at C
        (repeat' ((fail_if_success (with_reducible show bodyPost _ _ _ _ _ _)); first | ((with_reducible refine Hp.abs_alloc H ?_); intro b' w' H' hb'; (try simp only [hb']); clear hb'; ((try simp only [List.set_cons_zero, List.set_cons_succ, List.setIfInBounds_toArray] at H'); clear C H; have H := H'; clear H'; have C := Hp.facts H; simp only [Facts, factsL, and_true, true_and, List.set_cons_zero, List.set_cons_succ, List.setIfInBounds_toArray] at C)) | ((with_reducible show wpList _ _ _ _ _ (World.setCell _ _ _)); (with_reducible apply Hp.abs_gen H); (first | ((repeat (with_reducible apply Hp.set' 0)); (with_reducible exact H); (repeat rfl); intro w' H') | ((repeat (with_reducible apply Hp.set' 1)); (with_reducible exact H); (repeat rfl); intro w' H') | ((repeat (with_reducible apply Hp.set' 2)); (with_reducible exact H); (repeat rfl); intro w' H') | ((repeat (with_reducible apply Hp.set' 3)); (with_reducible exact H); (repeat rfl); intro w' H') | ((repeat (with_reducible apply Hp.set' 4)); (with_reducible exact H); (repeat rfl); intro w' H') | ((repeat (with_reducible apply Hp.set' 5)); (with_reducible exact H); (repeat rfl); intro w' H') | ((repeat (with_reducible apply Hp.set' 6)); (with_reducible exact H); (repeat rfl); intro w' H') | ((repeat (with_reducible apply Hp.set' 7)); (with_reducible exact H); (repeat rfl); intro w' H')); ((try simp only [List.set_cons_zero, List.set_cons_succ, List.setIfInBounds_toArray] at H'); clear C H; have H := H'; clear H'; have C := Hp.facts H; simp only [Facts, factsL, and_true, true_and, List.set_cons_zero, List.set_cons_succ, List.setIfInBounds_toArray] at C)) | (go_at_call 13; refine (known11_any _).mono ?_; rintro e' w' ⟨rfl, hb'⟩; (have H' := Hp.step H hb'; clear hb'; ((try simp only [List.set_cons_zero, List.set_cons_succ, List.setIfInBounds_toArray] at H'); clear C H; have H := H'; clear H'; have C := Hp.facts H; simp only [Facts, factsL, and_true, true_and, List.set_cons_zero, List.set_cons_succ, List.setIfInBounds_toArray] at C))) | go_values | go_skip | go_guarded | go_step | go_upon | go_back | (simp only [Int.not_lt, Int.not_le] at *; go_simp) | (go_values <;> (try go_simp)) | (go_ite <;> go_prune <;> (try go_simp)) | (split <;> (first | (rename_i hx; exact (hx _ rfl).elim) | go_prune))))
        refine (hN1 _).mono ?_
        (rintro e' w' ⟨rfl, hb'⟩; (have H' := Hp.step H hb'; clear hb'; ((try simp only [List.set_cons_zero, List.set_cons_succ, List.setIfInBounds_toArray] at H'); clear C H; have H := H'; clear H'; have C := Hp.facts H; simp only [Facts, factsL, and_true, true_and, List.set_cons_zero, List.set_cons_succ, List.setIfInBounds_toArray] at C)))
        (repeat' ((fail_if_success (with_reducible show bodyPost _ _ _ _ _ _)); first | ((with_reducible refine Hp.abs_alloc H ?_); intro b' w' H' hb'; (try simp only [hb']); clear hb'; ((try simp only [List.set_cons_zero, List.set_cons_succ, List.setIfInBounds_toArray] at H'); clear C H; have H := H'; clear H'; have C := Hp.facts H; simp only [Facts, factsL, and_true, true_and, List.set_cons_zero, List.set_cons_succ, List.setIfInBounds_toArray] at C)) | ((with_reducible show wpList _ _ _ _ _ (World.setCell _ _ _)); (with_reducible apply Hp.abs_gen H); (first | ((repeat (with_reducible apply Hp.set' 0)); (with_reducible exact H); (repeat rfl); intro w' H') | ((repeat (with_reducible apply Hp.set' 1)); (with_reducible exact H); (repeat rfl); intro w' H') | ((repeat (with_reducible apply Hp.set' 2)); (with_reducible exact H); (repeat rfl); intro w' H') | ((repeat (with_reducible apply Hp.set' 3)); (with_reducible exact H); (repeat rfl); intro w' H') | ((repeat (with_reducible apply Hp.set' 4)); (with_reducible exact H); (repeat rfl); intro w' H') | ((repeat (with_reducible apply Hp.set' 5)); (with_reducible exact H); (repeat rfl); intro w' H') | ((repeat (with_reducible apply Hp.set' 6)); (with_reducible exact H); (repeat rfl); intro w' H') | ((repeat (with_reducible apply Hp.set' 7)); (with_reducible exact H); (repeat rfl); intro w' H')); ((try simp only [List.set_cons_zero, List.set_cons_succ, List.setIfInBounds_toArray] at H'); clear C H; have H := H'; clear H'; have C := Hp.facts H; simp only [Facts, factsL, and_true, true_and, List.set_cons_zero, List.set_cons_succ, List.setIfInBounds_toArray] at C)) | go_values | go_skip | go_guarded | go_step | go_upon | go_back | (simp only [Int.not_lt, Int.not_le] at *; go_simp) | (go_values <;> (try go_simp)) | (go_ite <;> go_prune <;> (try go_simp)) | (split <;> (first | (rename_i hx; exact (hx _ rfl).elim) | go_prune))))
        refine (hN2 _).mono ?_
        (rintro e' w' ⟨rfl, hb'⟩; (have H' := Hp.step H hb'; clear hb'; ((try simp only [List.set_cons_zero, List.set_cons_succ, List.setIfInBounds_toArray] at H'); clear C H; have H := H'; clear H'; have C := Hp.facts H; simp only [Facts, factsL, and_true, true_and, List.set_cons_zero, List.set_cons_succ, List.setIfInBounds_toArray] at C)))
        (repeat' ((fail_if_success (with_reducible show bodyPost _ _ _ _ _ _)); first | ((with_reducible refine Hp.abs_alloc H ?_); intro b' w' H' hb'; (try simp only [hb']); clear hb'; ((try simp only [List.set_cons_zero, List.set_cons_succ, List.setIfInBounds_toArray] at H'); clear C H; have H := H'; clear H'; have C := Hp.facts H; simp only [Facts, factsL, and_true, true_and, List.set_cons_zero, List.set_cons_succ, List.setIfInBounds_toArray] at C)) | ((with_reducible show wpList _ _ _ _ _ (World.setCell _ _ _)); (with_reducible apply Hp.abs_gen H); (first | ((repeat (with_reducible apply Hp.set' 0)); (with_reducible exact H); (repeat rfl); intro w' H') | ((repeat (with_reducible apply Hp.set' 1)); (with_reducible exact H); (repeat rfl); intro w' H') | ((repeat (with_reducible apply Hp.set' 2)); (with_reducible exact H); (repeat rfl); intro w' H') | ((repeat (with_reducible apply Hp.set' 3)); (with_reducible exact H); (repeat rfl); intro w' H') | ((repeat (with_reducible apply Hp.set' 4)); (with_reducible exact H); (repeat rfl); intro w' H') | ((repeat (with_reducible apply Hp.set' 5)); (with_reducible exact H); (repeat rfl); intro w' H') | ((repeat (with_reducible apply Hp.set' 6)); (with_reducible exact H); (repeat rfl); intro w' H') | ((repeat (with_reducible apply Hp.set' 7)); (with_reducible exact H); (repeat rfl); intro w' H')); ((try simp only [List.set_cons_zero, List.set_cons_succ, List.setIfInBounds_toArray] at H'); clear C H; have H := H'; clear H'; have C := Hp.facts H; simp only [Facts, factsL, and_true, true_and, List.set_cons_zero, List.set_cons_succ, List.setIfInBounds_toArray] at C)) | go_values | go_skip | go_guarded | go_step | go_upon | go_back | (simp only [Int.not_lt, Int.not_le] at *; go_simp) | (go_values <;> (try go_simp)) | (go_ite <;> go_prune <;> (try go_simp)) | (split <;> (first | (rename_i hx; exact (hx _ rfl).elim) | go_prune))))
        refine (hA4 _).mono ?_
        (rintro e' w' ⟨rfl, hb'⟩; (have H' := Hp.step H hb'; clear hb'; ((try simp only [List.set_cons_zero, List.set_cons_succ, List.setIfInBounds_toArray] at H'); clear C H; have H := H'; clear H'; have C := Hp.facts H; simp only [Facts, factsL, and_true, true_and, List.set_cons_zero, List.set_cons_succ, List.setIfInBounds_toArray] at C)))
        (repeat' ((fail_if_success (with_reducible show bodyPost _ _ _ _ _ _)); first | ((with_reducible refine Hp.abs_alloc H ?_); intro b' w' H' hb'; (try simp only [hb']); clear hb'; ((try simp only [List.set_cons_zero, List.set_cons_succ, List.setIfInBounds_toArray] at H'); clear C H; have H := H'; clear H'; have C := Hp.facts H; simp only [Facts, factsL, and_true, true_and, List.set_cons_zero, List.set_cons_succ, List.setIfInBounds_toArray] at C)) | ((with_reducible show wpList _ _ _ _ _ (World.setCell _ _ _)); (with_reducible apply Hp.abs_gen H); (first | ((repeat (with_reducible apply Hp.set' 0)); (with_reducible exact H); (repeat rfl); intro w' H') | ((repeat (with_reducible apply Hp.set' 1)); (with_reducible exact H); (repeat rfl); intro w' H') | ((repeat (with_reducible apply Hp.set' 2)); (with_reducible exact H); (repeat rfl); intro w' H') | ((repeat (with_reducible apply Hp.set' 3)); (with_reducible exact H); (repeat rfl); intro w' H') | ((repeat (with_reducible apply Hp.set' 4)); (with_reducible exact H); (repeat rfl); intro w' H') | ((repeat (with_reducible apply Hp.set' 5)); (with_reducible exact H); (repeat rfl); intro w' H') | ((repeat (with_reducible apply Hp.set' 6)); (with_reducible exact H); (repeat rfl); intro w' H') | ((repeat (with_reducible apply Hp.set' 7)); (with_reducible exact H); (repeat rfl); intro w' H')); ((try simp only [List.set_cons_zero, List.set_cons_succ, List.setIfInBounds_toArray] at H'); clear C H; have H := H'; clear H'; have C := Hp.facts H; simp only [Facts, factsL, and_true, true_and, List.set_cons_zero, List.set_cons_succ, List.setIfInBounds_toArray] at C)) | go_values | go_skip | go_guarded | go_step | go_upon | go_back | (simp only [Int.not_lt, Int.not_le] at *; go_simp) | (go_values <;> (try go_simp)) | (go_ite <;> go_prune <;> (try go_simp)) | (split <;> (first | (rename_i hx; exact (hx _ rfl).elim) | go_prune))))
        ((have H := Hp.blkRow H 0 rfl 1 1 rfl (by unfold maxLen; omega)); (simp only [List.set_cons_zero, List.set_cons_succ] at H))
        refine (hA1 _ _ (show Zs _ _ [b] from Hp.row H 0 rfl)).mono ?_
        (rintro e' w' ⟨rfl, hb'⟩; (have H' := Hp.step H hb'; clear hb'; ((try simp only [List.set_cons_zero, List.set_cons_succ, List.setIfInBounds_toArray] at H'); clear C H; have H := H'; clear H'; have C := Hp.facts H; simp only [Facts, factsL, and_true, true_and, List.set_cons_zero, List.set_cons_succ, List.setIfInBounds_toArray] at C)))
        (repeat' ((fail_if_success (with_reducible show bodyPost _ _ _ _ _ _)); first | ((with_reducible refine Hp.abs_alloc H ?_); intro b' w' H' hb'; (try simp only [hb']); clear hb'; ((try simp only [List.set_cons_zero, List.set_cons_succ, List.setIfInBounds_toArray] at H'); clear C H; have H := H'; clear H'; have C := Hp.facts H; simp only [Facts, factsL, and_true, true_and, List.set_cons_zero, List.set_cons_succ, List.setIfInBounds_toArray] at C)) | ((with_reducible show wpList _ _ _ _ _ (World.setCell _ _ _)); (with_reducible apply Hp.abs_gen H); (first | ((repeat (with_reducible apply Hp.set' 0)); (with_reducible exact H); (repeat rfl); intro w' H') | ((repeat (with_reducible apply Hp.set' 1)); (with_reducible exact H); (repeat rfl); intro w' H') | ((repeat (with_reducible apply Hp.set' 2)); (with_reducible exact H); (repeat rfl); intro w' H') | ((repeat (with_reducible apply Hp.set' 3)); (with_reducible exact H); (repeat rfl); intro w' H') | ((repeat (with_reducible apply Hp.set' 4)); (with_reducible exact H); (repeat rfl); intro w' H') | ((repeat (with_reducible apply Hp.set' 5)); (with_reducible exact H); (repeat rfl); intro w' H') | ((repeat (with_reducible apply Hp.set' 6)); (with_reducible exact H); (repeat rfl); intro w' H') | ((repeat (with_reducible apply Hp.set' 7)); (with_reducible exact H); (repeat rfl); intro w' H')); ((try simp only [List.set_cons_zero, List.set_cons_succ, List.setIfInBounds_toArray] at H'); clear C H; have H := H'; clear H'; have C := Hp.facts H; simp only [Facts, factsL, and_true, true_and, List.set_cons_zero, List.set_cons_succ, List.setIfInBounds_toArray] at C)) | go_values | go_skip | go_guarded | go_step | go_upon | go_back | (simp only [Int.not_lt, Int.not_le] at *; go_simp) | (go_values <;> (try go_simp)) | (go_ite <;> go_prune <;> (try go_simp)) | (split <;> (first | (rename_i hx; exact (hx _ rfl).elim) | go_prune))))
        ((have H := Hp.blkRow H 0 rfl 1 1 rfl (by unfold maxLen; omega)); (simp only [List.set_cons_zero, List.set_cons_succ] at H))
        refine (hA3 _ _ (show Zs _ _ [a] from Hp.row H 0 rfl)).mono ?_
        (rintro e' w' ⟨rfl, hb'⟩; (have H' := Hp.step H hb'; clear hb'; ((try simp only [List.set_cons_zero, List.set_cons_succ, List.setIfInBounds_toArray] at H'); clear C H; have H := H'; clear H'; have C := Hp.facts H; simp only [Facts, factsL, and_true, true_and, List.set_cons_zero, List.set_cons_succ, List.setIfInBounds_toArray] at C)))
        (repeat' ((fail_if_success (with_reducible show bodyPost _ _ _ _ _ _)); first | ((with_reducible refine Hp.abs_alloc H ?_); intro b' w' H' hb'; (try simp only [hb']); clear hb'; ((try simp only [List.set_cons_zero, List.set_cons_succ, List.setIfInBounds_toArray] at H'); clear C H; have H := H'; clear H'; have C := Hp.facts H; simp only [Facts, factsL, and_true, true_and, List.set_cons_zero, List.set_cons_succ, List.setIfInBounds_toArray] at C)) | ((with_reducible show wpList _ _ _ _ _ (World.setCell _ _ _)); (with_reducible apply Hp.abs_gen H); (first | ((repeat (with_reducible apply Hp.set' 0)); (with_reducible exact H); (repeat rfl); intro w' H') | ((repeat (with_reducible apply Hp.set' 1)); (with_reducible exact H); (repeat rfl); intro w' H') | ((repeat (with_reducible apply Hp.set' 2)); (with_reducible exact H); (repeat rfl); intro w' H') | ((repeat (with_reducible apply Hp.set' 3)); (with_reducible exact H); (repeat rfl); intro w' H') | ((repeat (with_reducible apply Hp.set' 4)); (with_reducible exact H); (repeat rfl); intro w' H') | ((repeat (with_reducible apply Hp.set' 5)); (with_reducible exact H); (repeat rfl); intro w' H') | ((repeat (with_reducible apply Hp.set' 6)); (with_reducible exact H); (repeat rfl); intro w' H') | ((repeat (with_reducible apply Hp.set' 7)); (with_reducible exact H); (repeat rfl); intro w' H')); ((try simp only [List.set_cons_zero, List.set_cons_succ, List.setIfInBounds_toArray] at H'); clear C H; have H := H'; clear H'; have C := Hp.facts H; simp only [Facts, factsL, and_true, true_and, List.set_cons_zero, List.set_cons_succ, List.setIfInBounds_toArray] at C)) | go_values | go_skip | go_guarded | go_step | go_upon | go_back | (simp only [Int.not_lt, Int.not_le] at *; go_simp) | (go_values <;> (try go_simp)) | (go_ite <;> go_prune <;> (try go_simp)) | (split <;> (first | (rename_i hx; exact (hx _ rfl).elim) | go_prune))))
        go_ret
        exact ⟨rfl, H.low⟩
end Go.Proofs.Ytmmjghdobdendaa

