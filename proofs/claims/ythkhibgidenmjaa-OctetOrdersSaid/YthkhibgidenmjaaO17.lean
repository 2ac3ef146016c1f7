/- Lemmas and walks on the way to the seat's laws; each theorem says its own conditions. -/
import Derived.Test.YthkhibgidenmjaaO16
set_option linter.unusedSimpArgs false
set_option linter.unusedVariables false
namespace Go.Proofs.Ythkhibgidenmjaa
open Go.RowKit Go.Mem Go.Reg Oct Go.LawLift
set_option maxHeartbeats 4000000 in
theorem rcommon_any (ls : List (List UInt8)) (v : Value) (w : World) (hb : Bss w v ls) (hl : ls.length ≤ 100) (hls : ∀ l ∈ ls, l.length ≤ 1000000) :
    Calls Try.prog 22 #[v] w fun e w' => e = .returned (.int .i64 (comms ls : Nat)) ∧ Below w.heap.size w w' := by
  obtain ⟨A, c, rfl, hlc, hcm, hA, hcell⟩ := hb.open
  have H := Hp.start w
  have C : True := trivial
  by_cases h0 : ls.length = 0
  · obtain rfl : ls = [] := List.eq_nil_of_length_eq_zero h0
    have g0 : ((([] : List (List UInt8)).length : Int) == 0) = true := rfl
    go_enter Try.func22, Try.ntmps22
    (repeat' ((fail_if_success (with_reducible show bodyPost _ _ _ _ _ _)); first | ((with_reducible refine Hp.abs_alloc H ?_); intro b' w' H' hb'; (try simp only [hb']); clear hb'; ((try simp only [List.set_cons_zero, List.set_cons_succ, List.setIfInBounds_toArray] at H'); clear C H; have H := H'; clear H'; have C := Hp.facts H; simp only [Facts, factsL, and_true, true_and, List.set_cons_zero, List.set_cons_succ, List.setIfInBounds_toArray] at C)) | ((with_reducible show wpList _ _ _ _ _ (World.setCell _ _ _)); first | ((with_reducible apply Hp.abs_gen H); (repeat (with_reducible apply Hp.set' 0)); (with_reducible exact H); (repeat rfl); intro w' H'; ((try simp only [List.set_cons_zero, List.set_cons_succ, List.setIfInBounds_toArray] at H'); clear C H; have H := H'; clear H'; have C := Hp.facts H; simp only [Facts, factsL, and_true, true_and, List.set_cons_zero, List.set_cons_succ, List.setIfInBounds_toArray] at C)) | ((with_reducible apply Hp.abs_gen H); (repeat (with_reducible apply Hp.set' 1)); (with_reducible exact H); (repeat rfl); intro w' H'; ((try simp only [List.set_cons_zero, List.set_cons_succ, List.setIfInBounds_toArray] at H'); clear C H; have H := H'; clear H'; have C := Hp.facts H; simp only [Facts, factsL, and_true, true_and, List.set_cons_zero, List.set_cons_succ, List.setIfInBounds_toArray] at C)) | ((with_reducible apply Hp.abs_gen H); (repeat (with_reducible apply Hp.set' 2)); (with_reducible exact H); (repeat rfl); intro w' H'; ((try simp only [List.set_cons_zero, List.set_cons_succ, List.setIfInBounds_toArray] at H'); clear C H; have H := H'; clear H'; have C := Hp.facts H; simp only [Facts, factsL, and_true, true_and, List.set_cons_zero, List.set_cons_succ, List.setIfInBounds_toArray] at C)) | ((with_reducible apply Hp.abs_gen H); (repeat (with_reducible apply Hp.set' 3)); (with_reducible exact H); (repeat rfl); intro w' H'; ((try simp only [List.set_cons_zero, List.set_cons_succ, List.setIfInBounds_toArray] at H'); clear C H; have H := H'; clear H'; have C := Hp.facts H; simp only [Facts, factsL, and_true, true_and, List.set_cons_zero, List.set_cons_succ, List.setIfInBounds_toArray] at C)) | ((with_reducible apply Hp.abs_gen H); (repeat (with_reducible apply Hp.set' 4)); (with_reducible exact H); (repeat rfl); intro w' H'; ((try simp only [List.set_cons_zero, List.set_cons_succ, List.setIfInBounds_toArray] at H'); clear C H; have H := H'; clear H'; have C := Hp.facts H; simp only [Facts, factsL, and_true, true_and, List.set_cons_zero, List.set_cons_succ, List.setIfInBounds_toArray] at C)) | ((with_reducible apply Hp.abs_gen H); (repeat (with_reducible apply Hp.set' 5)); (with_reducible exact H); (repeat rfl); intro w' H'; ((try simp only [List.set_cons_zero, List.set_cons_succ, List.setIfInBounds_toArray] at H'); clear C H; have H := H'; clear H'; have C := Hp.facts H; simp only [Facts, factsL, and_true, true_and, List.set_cons_zero, List.set_cons_succ, List.setIfInBounds_toArray] at C)) | ((with_reducible apply Hp.abs_gen H); (repeat (with_reducible apply Hp.set' 6)); (with_reducible exact H); (repeat rfl); intro w' H'; ((try simp only [List.set_cons_zero, List.set_cons_succ, List.setIfInBounds_toArray] at H'); clear C H; have H := H'; clear H'; have C := Hp.facts H; simp only [Facts, factsL, and_true, true_and, List.set_cons_zero, List.set_cons_succ, List.setIfInBounds_toArray] at C)) | ((with_reducible apply Hp.abs_gen H); (repeat (with_reducible apply Hp.set' 7)); (with_reducible exact H); (repeat rfl); intro w' H'; ((try simp only [List.set_cons_zero, List.set_cons_succ, List.setIfInBounds_toArray] at H'); clear C H; have H := H'; clear H'; have C := Hp.facts H; simp only [Facts, factsL, and_true, true_and, List.set_cons_zero, List.set_cons_succ, List.setIfInBounds_toArray] at C))) | go_values | go_skip | go_guarded | go_step | go_upon | go_back | (simp only [Int.not_lt, Int.not_le] at *; go_simp) | (go_values <;> (try go_simp)) | (go_ite <;> go_prune <;> (try go_simp)) | (split <;> (first | (rename_i hx; exact (hx _ rfl).elim) | go_prune))))
    go_ret
    exact ⟨rfl, H.low⟩
  · have hp : 0 < ls.length := by omega
    obtain ⟨b, o, u, rfl, hbl, hc0, hu⟩ := hcell 0 hp
    have k0 := hls ls[0] (List.getElem_mem hp)
    obtain ⟨A0, c0, rfl, hlc0, hcm0, hA0, hcell0⟩ := hu.open
    have g0 : ((ls.length : Int) == 0) = false := by
      rw [beq_eq_false_iff_ne]
      omega
    rw [Nat.add_zero] at hc0
    go_enter Try.func22, Try.ntmps22
    (repeat' ((fail_if_success (with_reducible show bodyPost _ _ _ _ _ _)); first | ((with_reducible refine Hp.abs_alloc H ?_); intro b' w' H' hb'; (try simp only [hb']); clear hb'; ((try simp only [List.set_cons_zero, List.set_cons_succ, List.setIfInBounds_toArray] at H'); clear C H; have H := H'; clear H'; have C := Hp.facts H; simp only [Facts, factsL, and_true, true_and, List.set_cons_zero, List.set_cons_succ, List.setIfInBounds_toArray] at C)) | ((with_reducible show wpList _ _ _ _ _ (World.setCell _ _ _)); first | ((with_reducible apply Hp.abs_gen H); (repeat (with_reducible apply Hp.set' 0)); (with_reducible exact H); (repeat rfl); intro w' H'; ((try simp only [List.set_cons_zero, List.set_cons_succ, List.setIfInBounds_toArray] at H'); clear C H; have H := H'; clear H'; have C := Hp.facts H; simp only [Facts, factsL, and_true, true_and, List.set_cons_zero, List.set_cons_succ, List.setIfInBounds_toArray] at C)) | ((with_reducible apply Hp.abs_gen H); (repeat (with_reducible apply Hp.set' 1)); (with_reducible exact H); (repeat rfl); intro w' H'; ((try simp only [List.set_cons_zero, List.set_cons_succ, List.setIfInBounds_toArray] at H'); clear C H; have H := H'; clear H'; have C := Hp.facts H; simp only [Facts, factsL, and_true, true_and, List.set_cons_zero, List.set_cons_succ, List.setIfInBounds_toArray] at C)) | ((with_reducible apply Hp.abs_gen H); (repeat (with_reducible apply Hp.set' 2)); (with_reducible exact H); (repeat rfl); intro w' H'; ((try simp only [List.set_cons_zero, List.set_cons_succ, List.setIfInBounds_toArray] at H'); clear C H; have H := H'; clear H'; have C := Hp.facts H; simp only [Facts, factsL, and_true, true_and, List.set_cons_zero, List.set_cons_succ, List.setIfInBounds_toArray] at C)) | ((with_reducible apply Hp.abs_gen H); (repeat (with_reducible apply Hp.set' 3)); (with_reducible exact H); (repeat rfl); intro w' H'; ((try simp only [List.set_cons_zero, List.set_cons_succ, List.setIfInBounds_toArray] at H'); clear C H; have H := H'; clear H'; have C := Hp.facts H; simp only [Facts, factsL, and_true, true_and, List.set_cons_zero, List.set_cons_succ, List.setIfInBounds_toArray] at C)) | ((with_reducible apply Hp.abs_gen H); (repeat (with_reducible apply Hp.set' 4)); (with_reducible exact H); (repeat rfl); intro w' H'; ((try simp only [List.set_cons_zero, List.set_cons_succ, List.setIfInBounds_toArray] at H'); clear C H; have H := H'; clear H'; have C := Hp.facts H; simp only [Facts, factsL, and_true, true_and, List.set_cons_zero, List.set_cons_succ, List.setIfInBounds_toArray] at C)) | ((with_reducible apply Hp.abs_gen H); (repeat (with_reducible apply Hp.set' 5)); (with_reducible exact H); (repeat rfl); intro w' H'; ((try simp only [List.set_cons_zero, List.set_cons_succ, List.setIfInBounds_toArray] at H'); clear C H; have H := H'; clear H'; have C := Hp.facts H; simp only [Facts, factsL, and_true, true_and, List.set_cons_zero, List.set_cons_succ, List.setIfInBounds_toArray] at C)) | ((with_reducible apply Hp.abs_gen H); (repeat (with_reducible apply Hp.set' 6)); (with_reducible exact H); (repeat rfl); intro w' H'; ((try simp only [List.set_cons_zero, List.set_cons_succ, List.setIfInBounds_toArray] at H'); clear C H; have H := H'; clear H'; have C := Hp.facts H; simp only [Facts, factsL, and_true, true_and, List.set_cons_zero, List.set_cons_succ, List.setIfInBounds_toArray] at C)) | ((with_reducible apply Hp.abs_gen H); (repeat (with_reducible apply Hp.set' 7)); (with_reducible exact H); (repeat rfl); intro w' H'; ((try simp only [List.set_cons_zero, List.set_cons_succ, List.setIfInBounds_toArray] at H'); clear C H; have H := H'; clear H'; have C := Hp.facts H; simp only [Facts, factsL, and_true, true_and, List.set_cons_zero, List.set_cons_succ, List.setIfInBounds_toArray] at C))) | go_values | go_skip | go_guarded | go_step | go_upon | go_back | (simp only [Int.not_lt, Int.not_le] at *; go_simp) | (go_values <;> (try go_simp)) | (go_ite <;> go_prune <;> (try go_simp)) | (split <;> (first | (rename_i hx; exact (hx _ rfl).elim) | go_prune))))
    go_loopw [3] (fun nx wr => ∃ n : Nat, n ≤ ls[0].length ∧ nx = .int .i64 n ∧ AllC ls n ls.length ∧ Hp w [] wr) (fun nx _ => ls[0].length - (intOf nx).toNat)
    case atStart => exact ⟨0, Nat.zero_le _, rfl, allC_nil _ _, H⟩
    case round =>
      clear H C
      obtain ⟨n, hn, rfl, hal, H⟩ := hrel
      have C := Hp.facts H
      simp only [Facts, factsL, and_true, true_and, List.set_cons_zero, List.set_cons_succ, List.setIfInBounds_toArray] at C
      by_cases hlt : n < ls[0].length
      · obtain ⟨b4, o4, rfl, hbl4, hc4⟩ := hcell0 n hlt
        have hc4 := hc4 n hlt
        (repeat' ((fail_if_success (with_reducible show bodyPost _ _ _ _ _ _)); first | ((with_reducible refine Hp.abs_alloc H ?_); intro b' w' H' hb'; (try simp only [hb']); clear hb'; ((try simp only [List.set_cons_zero, List.set_cons_succ, List.setIfInBounds_toArray] at H'); clear C H; have H := H'; clear H'; have C := Hp.facts H; simp only [Facts, factsL, and_true, true_and, List.set_cons_zero, List.set_cons_succ, List.setIfInBounds_toArray] at C)) | ((with_reducible show wpList _ _ _ _ _ (World.setCell _ _ _)); first | ((with_reducible apply Hp.abs_gen H); (repeat (with_reducible apply Hp.set' 0)); (with_reducible exact H); (repeat rfl); intro w' H'; ((try simp only [List.set_cons_zero, List.set_cons_succ, List.setIfInBounds_toArray] at H'); clear C H; have H := H'; clear H'; have C := Hp.facts H; simp only [Facts, factsL, and_true, true_and, List.set_cons_zero, List.set_cons_succ, List.setIfInBounds_toArray] at C)) | ((with_reducible apply Hp.abs_gen H); (repeat (with_reducible apply Hp.set' 1)); (with_reducible exact H); (repeat rfl); intro w' H'; ((try simp only [List.set_cons_zero, List.set_cons_succ, List.setIfInBounds_toArray] at H'); clear C H; have H := H'; clear H'; have C := Hp.facts H; simp only [Facts, factsL, and_true, true_and, List.set_cons_zero, List.set_cons_succ, List.setIfInBounds_toArray] at C)) | ((with_reducible apply Hp.abs_gen H); (repeat (with_reducible apply Hp.set' 2)); (with_reducible exact H); (repeat rfl); intro w' H'; ((try simp only [List.set_cons_zero, List.set_cons_succ, List.setIfInBounds_toArray] at H'); clear C H; have H := H'; clear H'; have C := Hp.facts H; simp only [Facts, factsL, and_true, true_and, List.set_cons_zero, List.set_cons_succ, List.setIfInBounds_toArray] at C)) | ((with_reducible apply Hp.abs_gen H); (repeat (with_reducible apply Hp.set' 3)); (with_reducible exact H); (repeat rfl); intro w' H'; ((try simp only [List.set_cons_zero, List.set_cons_succ, List.setIfInBounds_toArray] at H'); clear C H; have H := H'; clear H'; have C := Hp.facts H; simp only [Facts, factsL, and_true, true_and, List.set_cons_zero, List.set_cons_succ, List.setIfInBounds_toArray] at C)) | ((with_reducible apply Hp.abs_gen H); (repeat (with_reducible apply Hp.set' 4)); (with_reducible exact H); (repeat rfl); intro w' H'; ((try simp only [List.set_cons_zero, List.set_cons_succ, List.setIfInBounds_toArray] at H'); clear C H; have H := H'; clear H'; have C := Hp.facts H; simp only [Facts, factsL, and_true, true_and, List.set_cons_zero, List.set_cons_succ, List.setIfInBounds_toArray] at C)) | ((with_reducible apply Hp.abs_gen H); (repeat (with_reducible apply Hp.set' 5)); (with_reducible exact H); (repeat rfl); intro w' H'; ((try simp only [List.set_cons_zero, List.set_cons_succ, List.setIfInBounds_toArray] at H'); clear C H; have H := H'; clear H'; have C := Hp.facts H; simp only [Facts, factsL, and_true, true_and, List.set_cons_zero, List.set_cons_succ, List.setIfInBounds_toArray] at C)) | ((with_reducible apply Hp.abs_gen H); (repeat (with_reducible apply Hp.set' 6)); (with_reducible exact H); (repeat rfl); intro w' H'; ((try simp only [List.set_cons_zero, List.set_cons_succ, List.setIfInBounds_toArray] at H'); clear C H; have H := H'; clear H'; have C := Hp.facts H; simp only [Facts, factsL, and_true, true_and, List.set_cons_zero, List.set_cons_succ, List.setIfInBounds_toArray] at C)) | ((with_reducible apply Hp.abs_gen H); (repeat (with_reducible apply Hp.set' 7)); (with_reducible exact H); (repeat rfl); intro w' H'; ((try simp only [List.set_cons_zero, List.set_cons_succ, List.setIfInBounds_toArray] at H'); clear C H; have H := H'; clear H'; have C := Hp.facts H; simp only [Facts, factsL, and_true, true_and, List.set_cons_zero, List.set_cons_succ, List.setIfInBounds_toArray] at C))) | go_values | go_skip | go_guarded | go_step | go_upon | go_back | (simp only [Int.not_lt, Int.not_le] at *; go_simp) | (go_values <;> (try go_simp)) | (go_ite <;> go_prune <;> (try go_simp)) | (split <;> (first | (rename_i hx; exact (hx _ rfl).elim) | go_prune))))
        go_loopw [4] (fun ix wr => ∃ i : Nat, 1 ≤ i ∧ i ≤ ls.length ∧ ix = .int .i64 i ∧ AllC ls (n + 1) i ∧ Hp w [] wr) (fun ix _ => ls.length - (intOf ix).toNat)
        case atStart => exact ⟨1, Nat.le_refl _, hp, rfl, allC_one _ _, H⟩
        case round =>
          clear H C
          obtain ⟨i, hi1, hil, rfl, hai, H⟩ := hrel
          have C := Hp.facts H
          simp only [Facts, factsL, and_true, true_and, List.set_cons_zero, List.set_cons_succ, List.setIfInBounds_toArray] at C
          by_cases hit : i < ls.length
          · obtain ⟨b2, o2, u2, e, hbl2, hc2, hu2⟩ := hcell i hit
            injection e with e
            injection e with e1 e2
            subst e1 e2
            have k2 := hls ls[i] (List.getElem_mem hit)
            obtain ⟨A3, c3, rfl, hlc3, hcm3, hA3, hcell3⟩ := hu2.open
            by_cases hs : n < ls[i].length
            · obtain ⟨b3, o3, rfl, hbl3, hc3⟩ := hcell3 n hs
              have hc3 := hc3 n hs
              by_cases he : ls[0][n] = ls[i][n]
              · have gc := Lib.hid he
                clear he
                (repeat' ((fail_if_success (with_reducible show bodyPost _ _ _ _ _ _)); first | ((with_reducible refine Hp.abs_alloc H ?_); intro b' w' H' hb'; (try simp only [hb']); clear hb'; ((try simp only [List.set_cons_zero, List.set_cons_succ, List.setIfInBounds_toArray] at H'); clear C H; have H := H'; clear H'; have C := Hp.facts H; simp only [Facts, factsL, and_true, true_and, List.set_cons_zero, List.set_cons_succ, List.setIfInBounds_toArray] at C)) | ((with_reducible show wpList _ _ _ _ _ (World.setCell _ _ _)); first | ((with_reducible apply Hp.abs_gen H); (repeat (with_reducible apply Hp.set' 0)); (with_reducible exact H); (repeat rfl); intro w' H'; ((try simp only [List.set_cons_zero, List.set_cons_succ, List.setIfInBounds_toArray] at H'); clear C H; have H := H'; clear H'; have C := Hp.facts H; simp only [Facts, factsL, and_true, true_and, List.set_cons_zero, List.set_cons_succ, List.setIfInBounds_toArray] at C)) | ((with_reducible apply Hp.abs_gen H); (repeat (with_reducible apply Hp.set' 1)); (with_reducible exact H); (repeat rfl); intro w' H'; ((try simp only [List.set_cons_zero, List.set_cons_succ, List.setIfInBounds_toArray] at H'); clear C H; have H := H'; clear H'; have C := Hp.facts H; simp only [Facts, factsL, and_true, true_and, List.set_cons_zero, List.set_cons_succ, List.setIfInBounds_toArray] at C)) | ((with_reducible apply Hp.abs_gen H); (repeat (with_reducible apply Hp.set' 2)); (with_reducible exact H); (repeat rfl); intro w' H'; ((try simp only [List.set_cons_zero, List.set_cons_succ, List.setIfInBounds_toArray] at H'); clear C H; have H := H'; clear H'; have C := Hp.facts H; simp only [Facts, factsL, and_true, true_and, List.set_cons_zero, List.set_cons_succ, List.setIfInBounds_toArray] at C)) | ((with_reducible apply Hp.abs_gen H); (repeat (with_reducible apply Hp.set' 3)); (with_reducible exact H); (repeat rfl); intro w' H'; ((try simp only [List.set_cons_zero, List.set_cons_succ, List.setIfInBounds_toArray] at H'); clear C H; have H := H'; clear H'; have C := Hp.facts H; simp only [Facts, factsL, and_true, true_and, List.set_cons_zero, List.set_cons_succ, List.setIfInBounds_toArray] at C)) | ((with_reducible apply Hp.abs_gen H); (repeat (with_reducible apply Hp.set' 4)); (with_reducible exact H); (repeat rfl); intro w' H'; ((try simp only [List.set_cons_zero, List.set_cons_succ, List.setIfInBounds_toArray] at H'); clear C H; have H := H'; clear H'; have C := Hp.facts H; simp only [Facts, factsL, and_true, true_and, List.set_cons_zero, List.set_cons_succ, List.setIfInBounds_toArray] at C)) | ((with_reducible apply Hp.abs_gen H); (repeat (with_reducible apply Hp.set' 5)); (with_reducible exact H); (repeat rfl); intro w' H'; ((try simp only [List.set_cons_zero, List.set_cons_succ, List.setIfInBounds_toArray] at H'); clear C H; have H := H'; clear H'; have C := Hp.facts H; simp only [Facts, factsL, and_true, true_and, List.set_cons_zero, List.set_cons_succ, List.setIfInBounds_toArray] at C)) | ((with_reducible apply Hp.abs_gen H); (repeat (with_reducible apply Hp.set' 6)); (with_reducible exact H); (repeat rfl); intro w' H'; ((try simp only [List.set_cons_zero, List.set_cons_succ, List.setIfInBounds_toArray] at H'); clear C H; have H := H'; clear H'; have C := Hp.facts H; simp only [Facts, factsL, and_true, true_and, List.set_cons_zero, List.set_cons_succ, List.setIfInBounds_toArray] at C)) | ((with_reducible apply Hp.abs_gen H); (repeat (with_reducible apply Hp.set' 7)); (with_reducible exact H); (repeat rfl); intro w' H'; ((try simp only [List.set_cons_zero, List.set_cons_succ, List.setIfInBounds_toArray] at H'); clear C H; have H := H'; clear H'; have C := Hp.facts H; simp only [Facts, factsL, and_true, true_and, List.set_cons_zero, List.set_cons_succ, List.setIfInBounds_toArray] at C))) | go_values | go_skip | go_guarded | go_step | go_upon | go_back | (simp only [Int.not_lt, Int.not_le] at *; go_simp) | (go_values <;> (try go_simp)) | (go_ite <;> go_prune <;> (try go_simp)) | (split <;> (first | (rename_i hx; exact (hx _ rfl).elim) | go_prune))))
                refine region_b 50 [some 22, some 23, some 24, some 25, some 26, some 27, some 28, some 29, some 30, some 31, some 32, some 33, some 34, some 35, some 36, some 37, some 38, some 39, some 40, some 41, some 42, some 43, some 44] [[], [], [], [1, 2], [3], [4], [0, 5], [6], [7], [7], [7, 8, 9], [7, 10], [7], [7, 11, 12], [7, 13], [7], [7, 15], [7, 16], [7], [7, 17, 18], [7, 19], [7, 14, 20], [7, 21]] [fun v _ => v = .int .i64 (n : Int), fun v _ => v = .slice (some ⟨b, o, none⟩) ls.length c, fun v _ => v = .int .i64 (i : Int), fun v _ => v = .pointer (some ⟨b, o + i, none⟩), fun v _ => v = .slice (some ⟨b3, o3, none⟩) ls[i].length c3, fun v _ => v = .int .i64 (ls[i].length : Int), fun v _ => v = .bool false, fun v _ => v = .bool false, fun v _ => v = .slice (some ⟨b, o, none⟩) ls.length c, fun v _ => v = .int .i64 (i : Int), fun v _ => v = .pointer (some ⟨b, o + i, none⟩), fun v _ => v = .slice (some ⟨b3, o3, none⟩) ls[i].length c3, fun v _ => v = .int .i64 (n : Int), fun v _ => v = .pointer (some ⟨b3, o3 + n, none⟩), fun v _ => v = .int .u8 (ls[i][n].toNat : Int), fun v _ => v = .slice (some ⟨b, o, none⟩) ls.length c, fun v _ => v = .pointer (some ⟨b, o, none⟩), fun v _ => v = .slice (some ⟨b4, o4, none⟩) ls[0].length c0, fun v _ => v = .int .i64 (n : Int), fun v _ => v = .pointer (some ⟨b4, o4 + n, none⟩), fun v _ => v = .int .u8 (ls[0][n].toNat : Int), fun v _ => v = .bool false, fun v _ => v = .bool false] (by kernel_rfl) (by kernel_rfl) rfl (by kernel_rfl) rfl _ (fun vs => (by simp only [fillD, Nat.reduceAdd, Act.put, List.setIfInBounds_toArray, List.set_cons_zero, List.set_cons_succ]; rfl)) ?_ ?_ ?_
                · refine ⟨fun _ _ _ _ h => h, fun _ _ _ _ h => h, fun _ _ _ _ h => h, fun _ _ _ _ h => h, fun _ _ _ _ h => h, fun _ _ _ _ h => h, fun _ _ _ _ h => h, fun _ _ _ _ h => h, fun _ _ _ _ h => h, fun _ _ _ _ h => h, fun _ _ _ _ h => h, fun _ _ _ _ h => h, fun _ _ _ _ h => h, fun _ _ _ _ h => h, fun _ _ _ _ h => h, fun _ _ _ _ h => h, fun _ _ _ _ h => h, fun _ _ _ _ h => h, fun _ _ _ _ h => h, fun _ _ _ _ h => h, fun _ _ _ _ h => h, fun _ _ _ _ h => h, fun _ _ _ _ h => h, trivial⟩
                · refine ⟨?_, ?_, ?_, ?_, ?_, ?_, ?_, ?_, ?_, ?_, ?_, ?_, ?_, ?_, ?_, ?_, ?_, ?_, ?_, ?_, ?_, ?_, ?_, trivial⟩
                  · intro vs w' K hJ hR hK
                    rw [if_pos (by rfl)]
                    go_step
                    exact hK.out _ _ (Below.refl _ _) (rfl)
                  · intro vs w' K hJ hR hK
                    rw [if_pos (by rfl)]
                    go_step
                    exact hK.out _ _ (Below.refl _ _) (rfl)
                  · intro vs w' K hJ hR hK
                    rw [if_pos (by rfl)]
                    go_step
                    exact hK.out _ _ (Below.refl _ _) (rfl)
                  · intro vs w' K hJ hR hK
                    simp only [DepJ, List.getD_cons_zero, List.getD_cons_succ] at hJ
                    obtain ⟨j1, j2, -⟩ := hJ
                    simp only [j1, j2] at hK ⊢
                    rw [if_pos (by rfl)]
                    go_step
                    exact hK.out _ _ (Below.refl _ _) (rfl)
                  · intro vs w' K hJ hR hK
                    simp only [DepJ, List.getD_cons_zero, List.getD_cons_succ] at hJ
                    obtain ⟨j3, -⟩ := hJ
                    simp only [j3] at hK ⊢
                    rw [if_pos (by rfl)]
                    have C := Hp.facts (Hp.step H.drew hR)
                    simp only [Facts, factsL, and_true, true_and, List.set_cons_zero, List.set_cons_succ, List.setIfInBounds_toArray] at C
                    go_step
                    exact hK.out _ _ (Below.refl _ _) rfl
                  · intro vs w' K hJ hR hK
                    simp only [DepJ, List.getD_cons_zero, List.getD_cons_succ] at hJ
                    obtain ⟨j4, -⟩ := hJ
                    simp only [j4] at hK ⊢
                    rw [if_pos (by rfl)]
                    go_step
                    exact hK.out _ _ (Below.refl _ _) (rfl)
                  · intro vs w' K hJ hR hK
                    simp only [DepJ, List.getD_cons_zero, List.getD_cons_succ] at hJ
                    obtain ⟨j0, j5, -⟩ := hJ
                    simp only [j0, j5] at hK ⊢
                    rw [if_pos (by rfl)]
                    go_step
                    exact hK.out _ _ (Below.refl _ _) (by first | (simp; done) | (simp; omega))
                  · intro vs w' K hJ hR hK
                    simp only [DepJ, List.getD_cons_zero, List.getD_cons_succ] at hJ
                    obtain ⟨j6, -⟩ := hJ
                    simp only [j6] at hK ⊢
                    rw [if_pos (by rfl)]
                    go_step
                    exact hK.out _ _ (Below.refl _ _) (rfl)
                  · intro vs w' K hJ hR hK
                    simp only [DepJ, List.getD_cons_zero, List.getD_cons_succ] at hJ
                    obtain ⟨j7, -⟩ := hJ
                    simp only [j7] at hK ⊢
                    rw [if_pos (by rfl)]
                    go_step
                    exact hK.out _ _ (Below.refl _ _) (rfl)
                  · intro vs w' K hJ hR hK
                    simp only [DepJ, List.getD_cons_zero, List.getD_cons_succ] at hJ
                    obtain ⟨j7, -⟩ := hJ
                    simp only [j7] at hK ⊢
                    rw [if_pos (by rfl)]
                    go_step
                    exact hK.out _ _ (Below.refl _ _) (rfl)
                  · intro vs w' K hJ hR hK
                    simp only [DepJ, List.getD_cons_zero, List.getD_cons_succ] at hJ
                    obtain ⟨j7, j8, j9, -⟩ := hJ
                    simp only [j7, j8, j9] at hK ⊢
                    rw [if_pos (by rfl)]
                    go_step
                    exact hK.out _ _ (Below.refl _ _) (rfl)
                  · intro vs w' K hJ hR hK
                    simp only [DepJ, List.getD_cons_zero, List.getD_cons_succ] at hJ
                    obtain ⟨j7, j10, -⟩ := hJ
                    simp only [j7, j10] at hK ⊢
                    rw [if_pos (by rfl)]
                    have C := Hp.facts (Hp.step H.drew hR)
                    simp only [Facts, factsL, and_true, true_and, List.set_cons_zero, List.set_cons_succ, List.setIfInBounds_toArray] at C
                    go_step
                    exact hK.out _ _ (Below.refl _ _) rfl
                  · intro vs w' K hJ hR hK
                    simp only [DepJ, List.getD_cons_zero, List.getD_cons_succ] at hJ
                    obtain ⟨j7, -⟩ := hJ
                    simp only [j7] at hK ⊢
                    rw [if_pos (by rfl)]
                    go_step
                    exact hK.out _ _ (Below.refl _ _) (rfl)
                  · intro vs w' K hJ hR hK
                    simp only [DepJ, List.getD_cons_zero, List.getD_cons_succ] at hJ
                    obtain ⟨j7, j11, j12, -⟩ := hJ
                    simp only [j7, j11, j12] at hK ⊢
                    rw [if_pos (by rfl)]
                    go_step
                    exact hK.out _ _ (Below.refl _ _) (rfl)
                  · intro vs w' K hJ hR hK
                    simp only [DepJ, List.getD_cons_zero, List.getD_cons_succ] at hJ
                    obtain ⟨j7, j13, -⟩ := hJ
                    simp only [j7, j13] at hK ⊢
                    rw [if_pos (by rfl)]
                    have C := Hp.facts (Hp.step H.drew hR)
                    simp only [Facts, factsL, and_true, true_and, List.set_cons_zero, List.set_cons_succ, List.setIfInBounds_toArray] at C
                    go_step
                    exact hK.out _ _ (Below.refl _ _) rfl
                  · intro vs w' K hJ hR hK
                    simp only [DepJ, List.getD_cons_zero, List.getD_cons_succ] at hJ
                    obtain ⟨j7, -⟩ := hJ
                    simp only [j7] at hK ⊢
                    rw [if_pos (by rfl)]
                    go_step
                    exact hK.out _ _ (Below.refl _ _) (rfl)
                  · intro vs w' K hJ hR hK
                    simp only [DepJ, List.getD_cons_zero, List.getD_cons_succ] at hJ
                    obtain ⟨j7, j15, -⟩ := hJ
                    simp only [j7, j15] at hK ⊢
                    rw [if_pos (by rfl)]
                    go_step
                    exact hK.out _ _ (Below.refl _ _) (rfl)
                  · intro vs w' K hJ hR hK
                    simp only [DepJ, List.getD_cons_zero, List.getD_cons_succ] at hJ
                    obtain ⟨j7, j16, -⟩ := hJ
                    simp only [j7, j16] at hK ⊢
                    rw [if_pos (by rfl)]
                    have C := Hp.facts (Hp.step H.drew hR)
                    simp only [Facts, factsL, and_true, true_and, List.set_cons_zero, List.set_cons_succ, List.setIfInBounds_toArray] at C
                    go_step
                    exact hK.out _ _ (Below.refl _ _) rfl
                  · intro vs w' K hJ hR hK
                    simp only [DepJ, List.getD_cons_zero, List.getD_cons_succ] at hJ
                    obtain ⟨j7, -⟩ := hJ
                    simp only [j7] at hK ⊢
                    rw [if_pos (by rfl)]
                    go_step
                    exact hK.out _ _ (Below.refl _ _) (rfl)
                  · intro vs w' K hJ hR hK
                    simp only [DepJ, List.getD_cons_zero, List.getD_cons_succ] at hJ
                    obtain ⟨j7, j17, j18, -⟩ := hJ
                    simp only [j7, j17, j18] at hK ⊢
                    rw [if_pos (by rfl)]
                    go_step
                    exact hK.out _ _ (Below.refl _ _) (rfl)
                  · intro vs w' K hJ hR hK
                    simp only [DepJ, List.getD_cons_zero, List.getD_cons_succ] at hJ
                    obtain ⟨j7, j19, -⟩ := hJ
                    simp only [j7, j19] at hK ⊢
                    rw [if_pos (by rfl)]
                    have C := Hp.facts (Hp.step H.drew hR)
                    simp only [Facts, factsL, and_true, true_and, List.set_cons_zero, List.set_cons_succ, List.setIfInBounds_toArray] at C
                    go_step
                    exact hK.out _ _ (Below.refl _ _) rfl
                  · intro vs w' K hJ hR hK
                    simp only [DepJ, List.getD_cons_zero, List.getD_cons_succ] at hJ
                    obtain ⟨j7, j14, j20, -⟩ := hJ
                    simp only [j7, j14, j20] at hK ⊢
                    rw [if_pos (by rfl)]
                    go_step
                    exact hK.out _ _ (Below.refl _ _) (by rw [gc.out]; simp)
                  · intro vs w' K hJ hR hK
                    simp only [DepJ, List.getD_cons_zero, List.getD_cons_succ] at hJ
                    obtain ⟨j7, j21, -⟩ := hJ
                    simp only [j7, j21] at hK ⊢
                    rw [if_pos (by rfl)]
                    go_step
                    exact hK.out _ _ (Below.refl _ _) (rfl)
                intro vs w' hJ hR
                simp only [AllJ, Nat.reduceAdd] at hJ
                obtain ⟨v0, v1, v2, v3, v4, v5, v6, v7, v8, v9, v10, v11, v12, v13, v14, v15, v16, v17, v18, v19, v20, v21, v22, -⟩ := hJ
                simp only [v22]
                have H' := Hp.step H.drew hR
                ((try simp only [List.set_cons_zero, List.set_cons_succ, List.setIfInBounds_toArray] at H'); clear C H; have H := H'; clear H'; have C := Hp.facts H; simp only [Facts, factsL, and_true, true_and, List.set_cons_zero, List.set_cons_succ, List.setIfInBounds_toArray] at C)
                clear v0 v1 v2 v3 v4 v5 v6 v7 v8 v9 v10 v11 v12 v13 v14 v15 v16 v17 v18 v19 v20 v21 v22
                (repeat' ((fail_if_success (with_reducible show bodyPost _ _ _ _ _ _)); first | ((with_reducible refine Hp.abs_alloc H ?_); intro b' w' H' hb'; (try simp only [hb']); clear hb'; ((try simp only [List.set_cons_zero, List.set_cons_succ, List.setIfInBounds_toArray] at H'); clear C H; have H := H'; clear H'; have C := Hp.facts H; simp only [Facts, factsL, and_true, true_and, List.set_cons_zero, List.set_cons_succ, List.setIfInBounds_toArray] at C)) | ((with_reducible show wpList _ _ _ _ _ (World.setCell _ _ _)); first | ((with_reducible apply Hp.abs_gen H); (repeat (with_reducible apply Hp.set' 0)); (with_reducible exact H); (repeat rfl); intro w' H'; ((try simp only [List.set_cons_zero, List.set_cons_succ, List.setIfInBounds_toArray] at H'); clear C H; have H := H'; clear H'; have C := Hp.facts H; simp only [Facts, factsL, and_true, true_and, List.set_cons_zero, List.set_cons_succ, List.setIfInBounds_toArray] at C)) | ((with_reducible apply Hp.abs_gen H); (repeat (with_reducible apply Hp.set' 1)); (with_reducible exact H); (repeat rfl); intro w' H'; ((try simp only [List.set_cons_zero, List.set_cons_succ, List.setIfInBounds_toArray] at H'); clear C H; have H := H'; clear H'; have C := Hp.facts H; simp only [Facts, factsL, and_true, true_and, List.set_cons_zero, List.set_cons_succ, List.setIfInBounds_toArray] at C)) | ((with_reducible apply Hp.abs_gen H); (repeat (with_reducible apply Hp.set' 2)); (with_reducible exact H); (repeat rfl); intro w' H'; ((try simp only [List.set_cons_zero, List.set_cons_succ, List.setIfInBounds_toArray] at H'); clear C H; have H := H'; clear H'; have C := Hp.facts H; simp only [Facts, factsL, and_true, true_and, List.set_cons_zero, List.set_cons_succ, List.setIfInBounds_toArray] at C)) | ((with_reducible apply Hp.abs_gen H); (repeat (with_reducible apply Hp.set' 3)); (with_reducible exact H); (repeat rfl); intro w' H'; ((try simp only [List.set_cons_zero, List.set_cons_succ, List.setIfInBounds_toArray] at H'); clear C H; have H := H'; clear H'; have C := Hp.facts H; simp only [Facts, factsL, and_true, true_and, List.set_cons_zero, List.set_cons_succ, List.setIfInBounds_toArray] at C)) | ((with_reducible apply Hp.abs_gen H); (repeat (with_reducible apply Hp.set' 4)); (with_reducible exact H); (repeat rfl); intro w' H'; ((try simp only [List.set_cons_zero, List.set_cons_succ, List.setIfInBounds_toArray] at H'); clear C H; have H := H'; clear H'; have C := Hp.facts H; simp only [Facts, factsL, and_true, true_and, List.set_cons_zero, List.set_cons_succ, List.setIfInBounds_toArray] at C)) | ((with_reducible apply Hp.abs_gen H); (repeat (with_reducible apply Hp.set' 5)); (with_reducible exact H); (repeat rfl); intro w' H'; ((try simp only [List.set_cons_zero, List.set_cons_succ, List.setIfInBounds_toArray] at H'); clear C H; have H := H'; clear H'; have C := Hp.facts H; simp only [Facts, factsL, and_true, true_and, List.set_cons_zero, List.set_cons_succ, List.setIfInBounds_toArray] at C)) | ((with_reducible apply Hp.abs_gen H); (repeat (with_reducible apply Hp.set' 6)); (with_reducible exact H); (repeat rfl); intro w' H'; ((try simp only [List.set_cons_zero, List.set_cons_succ, List.setIfInBounds_toArray] at H'); clear C H; have H := H'; clear H'; have C := Hp.facts H; simp only [Facts, factsL, and_true, true_and, List.set_cons_zero, List.set_cons_succ, List.setIfInBounds_toArray] at C)) | ((with_reducible apply Hp.abs_gen H); (repeat (with_reducible apply Hp.set' 7)); (with_reducible exact H); (repeat rfl); intro w' H'; ((try simp only [List.set_cons_zero, List.set_cons_succ, List.setIfInBounds_toArray] at H'); clear C H; have H := H'; clear H'; have C := Hp.facts H; simp only [Facts, factsL, and_true, true_and, List.set_cons_zero, List.set_cons_succ, List.setIfInBounds_toArray] at C))) | go_values | go_skip | go_guarded | go_step | go_upon | go_back | (simp only [Int.not_lt, Int.not_le] at *; go_simp) | (go_values <;> (try go_simp)) | (go_ite <;> go_prune <;> (try go_simp)) | (split <;> (first | (rename_i hx; exact (hx _ rfl).elim) | go_prune))))
                exact ⟨⟨i + 1, by omega, by omega, by go_num, allC_step hal hai hp hi1 hit hlt hs gc.out, H⟩, by simp [intOf]; omega⟩
              · have hne : (ls[i][n].toNat : Int) ≠ (ls[0][n].toNat : Int) := fun h => he (UInt8.toNat_inj.1 (by omega))
                have gc := Lib.hid hne
                clear hne
                (repeat' ((fail_if_success (with_reducible show bodyPost _ _ _ _ _ _)); first | ((with_reducible refine Hp.abs_alloc H ?_); intro b' w' H' hb'; (try simp only [hb']); clear hb'; ((try simp only [List.set_cons_zero, List.set_cons_succ, List.setIfInBounds_toArray] at H'); clear C H; have H := H'; clear H'; have C := Hp.facts H; simp only [Facts, factsL, and_true, true_and, List.set_cons_zero, List.set_cons_succ, List.setIfInBounds_toArray] at C)) | ((with_reducible show wpList _ _ _ _ _ (World.setCell _ _ _)); first | ((with_reducible apply Hp.abs_gen H); (repeat (with_reducible apply Hp.set' 0)); (with_reducible exact H); (repeat rfl); intro w' H'; ((try simp only [List.set_cons_zero, List.set_cons_succ, List.setIfInBounds_toArray] at H'); clear C H; have H := H'; clear H'; have C := Hp.facts H; simp only [Facts, factsL, and_true, true_and, List.set_cons_zero, List.set_cons_succ, List.setIfInBounds_toArray] at C)) | ((with_reducible apply Hp.abs_gen H); (repeat (with_reducible apply Hp.set' 1)); (with_reducible exact H); (repeat rfl); intro w' H'; ((try simp only [List.set_cons_zero, List.set_cons_succ, List.setIfInBounds_toArray] at H'); clear C H; have H := H'; clear H'; have C := Hp.facts H; simp only [Facts, factsL, and_true, true_and, List.set_cons_zero, List.set_cons_succ, List.setIfInBounds_toArray] at C)) | ((with_reducible apply Hp.abs_gen H); (repeat (with_reducible apply Hp.set' 2)); (with_reducible exact H); (repeat rfl); intro w' H'; ((try simp only [List.set_cons_zero, List.set_cons_succ, List.setIfInBounds_toArray] at H'); clear C H; have H := H'; clear H'; have C := Hp.facts H; simp only [Facts, factsL, and_true, true_and, List.set_cons_zero, List.set_cons_succ, List.setIfInBounds_toArray] at C)) | ((with_reducible apply Hp.abs_gen H); (repeat (with_reducible apply Hp.set' 3)); (with_reducible exact H); (repeat rfl); intro w' H'; ((try simp only [List.set_cons_zero, List.set_cons_succ, List.setIfInBounds_toArray] at H'); clear C H; have H := H'; clear H'; have C := Hp.facts H; simp only [Facts, factsL, and_true, true_and, List.set_cons_zero, List.set_cons_succ, List.setIfInBounds_toArray] at C)) | ((with_reducible apply Hp.abs_gen H); (repeat (with_reducible apply Hp.set' 4)); (with_reducible exact H); (repeat rfl); intro w' H'; ((try simp only [List.set_cons_zero, List.set_cons_succ, List.setIfInBounds_toArray] at H'); clear C H; have H := H'; clear H'; have C := Hp.facts H; simp only [Facts, factsL, and_true, true_and, List.set_cons_zero, List.set_cons_succ, List.setIfInBounds_toArray] at C)) | ((with_reducible apply Hp.abs_gen H); (repeat (with_reducible apply Hp.set' 5)); (with_reducible exact H); (repeat rfl); intro w' H'; ((try simp only [List.set_cons_zero, List.set_cons_succ, List.setIfInBounds_toArray] at H'); clear C H; have H := H'; clear H'; have C := Hp.facts H; simp only [Facts, factsL, and_true, true_and, List.set_cons_zero, List.set_cons_succ, List.setIfInBounds_toArray] at C)) | ((with_reducible apply Hp.abs_gen H); (repeat (with_reducible apply Hp.set' 6)); (with_reducible exact H); (repeat rfl); intro w' H'; ((try simp only [List.set_cons_zero, List.set_cons_succ, List.setIfInBounds_toArray] at H'); clear C H; have H := H'; clear H'; have C := Hp.facts H; simp only [Facts, factsL, and_true, true_and, List.set_cons_zero, List.set_cons_succ, List.setIfInBounds_toArray] at C)) | ((with_reducible apply Hp.abs_gen H); (repeat (with_reducible apply Hp.set' 7)); (with_reducible exact H); (repeat rfl); intro w' H'; ((try simp only [List.set_cons_zero, List.set_cons_succ, List.setIfInBounds_toArray] at H'); clear C H; have H := H'; clear H'; have C := Hp.facts H; simp only [Facts, factsL, and_true, true_and, List.set_cons_zero, List.set_cons_succ, List.setIfInBounds_toArray] at C))) | go_values | go_skip | go_guarded | go_step | go_upon | go_back | (simp only [Int.not_lt, Int.not_le] at *; go_simp) | (go_values <;> (try go_simp)) | (go_ite <;> go_prune <;> (try go_simp)) | (split <;> (first | (rename_i hx; exact (hx _ rfl).elim) | go_prune))))
                refine region_b 50 [some 22, some 23, some 24, some 25, some 26, some 27, some 28, some 29, some 30, some 31, some 32, some 33, some 34, some 35, some 36, some 37, some 38, some 39, some 40, some 41, some 42, some 43, some 44] [[], [], [], [1, 2], [3], [4], [0, 5], [6], [7], [7], [7, 8, 9], [7, 10], [7], [7, 11, 12], [7, 13], [7], [7, 15], [7, 16], [7], [7, 17, 18], [7, 19], [7, 14, 20], [7, 21]] [fun v _ => v = .int .i64 (n : Int), fun v _ => v = .slice (some ⟨b, o, none⟩) ls.length c, fun v _ => v = .int .i64 (i : Int), fun v _ => v = .pointer (some ⟨b, o + i, none⟩), fun v _ => v = .slice (some ⟨b3, o3, none⟩) ls[i].length c3, fun v _ => v = .int .i64 (ls[i].length : Int), fun v _ => v = .bool false, fun v _ => v = .bool false, fun v _ => v = .slice (some ⟨b, o, none⟩) ls.length c, fun v _ => v = .int .i64 (i : Int), fun v _ => v = .pointer (some ⟨b, o + i, none⟩), fun v _ => v = .slice (some ⟨b3, o3, none⟩) ls[i].length c3, fun v _ => v = .int .i64 (n : Int), fun v _ => v = .pointer (some ⟨b3, o3 + n, none⟩), fun v _ => v = .int .u8 (ls[i][n].toNat : Int), fun v _ => v = .slice (some ⟨b, o, none⟩) ls.length c, fun v _ => v = .pointer (some ⟨b, o, none⟩), fun v _ => v = .slice (some ⟨b4, o4, none⟩) ls[0].length c0, fun v _ => v = .int .i64 (n : Int), fun v _ => v = .pointer (some ⟨b4, o4 + n, none⟩), fun v _ => v = .int .u8 (ls[0][n].toNat : Int), fun v _ => v = .bool true, fun v _ => v = .bool true] (by kernel_rfl) (by kernel_rfl) rfl (by kernel_rfl) rfl _ (fun vs => (by simp only [fillD, Nat.reduceAdd, Act.put, List.setIfInBounds_toArray, List.set_cons_zero, List.set_cons_succ]; rfl)) ?_ ?_ ?_
                · refine ⟨fun _ _ _ _ h => h, fun _ _ _ _ h => h, fun _ _ _ _ h => h, fun _ _ _ _ h => h, fun _ _ _ _ h => h, fun _ _ _ _ h => h, fun _ _ _ _ h => h, fun _ _ _ _ h => h, fun _ _ _ _ h => h, fun _ _ _ _ h => h, fun _ _ _ _ h => h, fun _ _ _ _ h => h, fun _ _ _ _ h => h, fun _ _ _ _ h => h, fun _ _ _ _ h => h, fun _ _ _ _ h => h, fun _ _ _ _ h => h, fun _ _ _ _ h => h, fun _ _ _ _ h => h, fun _ _ _ _ h => h, fun _ _ _ _ h => h, fun _ _ _ _ h => h, fun _ _ _ _ h => h, trivial⟩
                · refine ⟨?_, ?_, ?_, ?_, ?_, ?_, ?_, ?_, ?_, ?_, ?_, ?_, ?_, ?_, ?_, ?_, ?_, ?_, ?_, ?_, ?_, ?_, ?_, trivial⟩
                  · intro vs w' K hJ hR hK
                    rw [if_pos (by rfl)]
                    go_step
                    exact hK.out _ _ (Below.refl _ _) (rfl)
                  · intro vs w' K hJ hR hK
                    rw [if_pos (by rfl)]
                    go_step
                    exact hK.out _ _ (Below.refl _ _) (rfl)
                  · intro vs w' K hJ hR hK
                    rw [if_pos (by rfl)]
                    go_step
                    exact hK.out _ _ (Below.refl _ _) (rfl)
                  · intro vs w' K hJ hR hK
                    simp only [DepJ, List.getD_cons_zero, List.getD_cons_succ] at hJ
                    obtain ⟨j1, j2, -⟩ := hJ
                    simp only [j1, j2] at hK ⊢
                    rw [if_pos (by rfl)]
                    go_step
                    exact hK.out _ _ (Below.refl _ _) (rfl)
                  · intro vs w' K hJ hR hK
                    simp only [DepJ, List.getD_cons_zero, List.getD_cons_succ] at hJ
                    obtain ⟨j3, -⟩ := hJ
                    simp only [j3] at hK ⊢
                    rw [if_pos (by rfl)]
                    have C := Hp.facts (Hp.step H.drew hR)
                    simp only [Facts, factsL, and_true, true_and, List.set_cons_zero, List.set_cons_succ, List.setIfInBounds_toArray] at C
                    go_step
                    exact hK.out _ _ (Below.refl _ _) rfl
                  · intro vs w' K hJ hR hK
                    simp only [DepJ, List.getD_cons_zero, List.getD_cons_succ] at hJ
                    obtain ⟨j4, -⟩ := hJ
                    simp only [j4] at hK ⊢
                    rw [if_pos (by rfl)]
                    go_step
                    exact hK.out _ _ (Below.refl _ _) (rfl)
                  · intro vs w' K hJ hR hK
                    simp only [DepJ, List.getD_cons_zero, List.getD_cons_succ] at hJ
                    obtain ⟨j0, j5, -⟩ := hJ
                    simp only [j0, j5] at hK ⊢
                    rw [if_pos (by rfl)]
                    go_step
                    exact hK.out _ _ (Below.refl _ _) (by first | (simp; done) | (simp; omega))
                  · intro vs w' K hJ hR hK
                    simp only [DepJ, List.getD_cons_zero, List.getD_cons_succ] at hJ
                    obtain ⟨j6, -⟩ := hJ
                    simp only [j6] at hK ⊢
                    rw [if_pos (by rfl)]
                    go_step
                    exact hK.out _ _ (Below.refl _ _) (rfl)
                  · intro vs w' K hJ hR hK
                    simp only [DepJ, List.getD_cons_zero, List.getD_cons_succ] at hJ
                    obtain ⟨j7, -⟩ := hJ
                    simp only [j7] at hK ⊢
                    rw [if_pos (by rfl)]
                    go_step
                    exact hK.out _ _ (Below.refl _ _) (rfl)
                  · intro vs w' K hJ hR hK
                    simp only [DepJ, List.getD_cons_zero, List.getD_cons_succ] at hJ
                    obtain ⟨j7, -⟩ := hJ
                    simp only [j7] at hK ⊢
                    rw [if_pos (by rfl)]
                    go_step
                    exact hK.out _ _ (Below.refl _ _) (rfl)
                  · intro vs w' K hJ hR hK
                    simp only [DepJ, List.getD_cons_zero, List.getD_cons_succ] at hJ
                    obtain ⟨j7, j8, j9, -⟩ := hJ
                    simp only [j7, j8, j9] at hK ⊢
                    rw [if_pos (by rfl)]
                    go_step
                    exact hK.out _ _ (Below.refl _ _) (rfl)
                  · intro vs w' K hJ hR hK
                    simp only [DepJ, List.getD_cons_zero, List.getD_cons_succ] at hJ
                    obtain ⟨j7, j10, -⟩ := hJ
                    simp only [j7, j10] at hK ⊢
                    rw [if_pos (by rfl)]
                    have C := Hp.facts (Hp.step H.drew hR)
                    simp only [Facts, factsL, and_true, true_and, List.set_cons_zero, List.set_cons_succ, List.setIfInBounds_toArray] at C
                    go_step
                    exact hK.out _ _ (Below.refl _ _) rfl
                  · intro vs w' K hJ hR hK
                    simp only [DepJ, List.getD_cons_zero, List.getD_cons_succ] at hJ
                    obtain ⟨j7, -⟩ := hJ
                    simp only [j7] at hK ⊢
                    rw [if_pos (by rfl)]
                    go_step
                    exact hK.out _ _ (Below.refl _ _) (rfl)
                  · intro vs w' K hJ hR hK
                    simp only [DepJ, List.getD_cons_zero, List.getD_cons_succ] at hJ
                    obtain ⟨j7, j11, j12, -⟩ := hJ
                    simp only [j7, j11, j12] at hK ⊢
                    rw [if_pos (by rfl)]
                    go_step
                    exact hK.out _ _ (Below.refl _ _) (rfl)
                  · intro vs w' K hJ hR hK
                    simp only [DepJ, List.getD_cons_zero, List.getD_cons_succ] at hJ
                    obtain ⟨j7, j13, -⟩ := hJ
                    simp only [j7, j13] at hK ⊢
                    rw [if_pos (by rfl)]
                    have C := Hp.facts (Hp.step H.drew hR)
                    simp only [Facts, factsL, and_true, true_and, List.set_cons_zero, List.set_cons_succ, List.setIfInBounds_toArray] at C
                    go_step
                    exact hK.out _ _ (Below.refl _ _) rfl
                  · intro vs w' K hJ hR hK
                    simp only [DepJ, List.getD_cons_zero, List.getD_cons_succ] at hJ
                    obtain ⟨j7, -⟩ := hJ
                    simp only [j7] at hK ⊢
                    rw [if_pos (by rfl)]
                    go_step
                    exact hK.out _ _ (Below.refl _ _) (rfl)
                  · intro vs w' K hJ hR hK
                    simp only [DepJ, List.getD_cons_zero, List.getD_cons_succ] at hJ
                    obtain ⟨j7, j15, -⟩ := hJ
                    simp only [j7, j15] at hK ⊢
                    rw [if_pos (by rfl)]
                    go_step
                    exact hK.out _ _ (Below.refl _ _) (rfl)
                  · intro vs w' K hJ hR hK
                    simp only [DepJ, List.getD_cons_zero, List.getD_cons_succ] at hJ
                    obtain ⟨j7, j16, -⟩ := hJ
                    simp only [j7, j16] at hK ⊢
                    rw [if_pos (by rfl)]
                    have C := Hp.facts (Hp.step H.drew hR)
                    simp only [Facts, factsL, and_true, true_and, List.set_cons_zero, List.set_cons_succ, List.setIfInBounds_toArray] at C
                    go_step
                    exact hK.out _ _ (Below.refl _ _) rfl
                  · intro vs w' K hJ hR hK
                    simp only [DepJ, List.getD_cons_zero, List.getD_cons_succ] at hJ
                    obtain ⟨j7, -⟩ := hJ
                    simp only [j7] at hK ⊢
                    rw [if_pos (by rfl)]
                    go_step
                    exact hK.out _ _ (Below.refl _ _) (rfl)
                  · intro vs w' K hJ hR hK
                    simp only [DepJ, List.getD_cons_zero, List.getD_cons_succ] at hJ
                    obtain ⟨j7, j17, j18, -⟩ := hJ
                    simp only [j7, j17, j18] at hK ⊢
                    rw [if_pos (by rfl)]
                    go_step
                    exact hK.out _ _ (Below.refl _ _) (rfl)
                  · intro vs w' K hJ hR hK
                    simp only [DepJ, List.getD_cons_zero, List.getD_cons_succ] at hJ
                    obtain ⟨j7, j19, -⟩ := hJ
                    simp only [j7, j19] at hK ⊢
                    rw [if_pos (by rfl)]
                    have C := Hp.facts (Hp.step H.drew hR)
                    simp only [Facts, factsL, and_true, true_and, List.set_cons_zero, List.set_cons_succ, List.setIfInBounds_toArray] at C
                    go_step
                    exact hK.out _ _ (Below.refl _ _) rfl
                  · intro vs w' K hJ hR hK
                    simp only [DepJ, List.getD_cons_zero, List.getD_cons_succ] at hJ
                    obtain ⟨j7, j14, j20, -⟩ := hJ
                    simp only [j7, j14, j20] at hK ⊢
                    rw [if_pos (by rfl)]
                    go_step
                    exact hK.out _ _ (Below.refl _ _) (by have h := gc.out; first | (simp; done) | (simp; omega))
                  · intro vs w' K hJ hR hK
                    simp only [DepJ, List.getD_cons_zero, List.getD_cons_succ] at hJ
                    obtain ⟨j7, j21, -⟩ := hJ
                    simp only [j7, j21] at hK ⊢
                    rw [if_pos (by rfl)]
                    go_step
                    exact hK.out _ _ (Below.refl _ _) (rfl)
                intro vs w' hJ hR
                simp only [AllJ, Nat.reduceAdd] at hJ
                obtain ⟨v0, v1, v2, v3, v4, v5, v6, v7, v8, v9, v10, v11, v12, v13, v14, v15, v16, v17, v18, v19, v20, v21, v22, -⟩ := hJ
                simp only [v22]
                have H' := Hp.step H.drew hR
                ((try simp only [List.set_cons_zero, List.set_cons_succ, List.setIfInBounds_toArray] at H'); clear C H; have H := H'; clear H'; have C := Hp.facts H; simp only [Facts, factsL, and_true, true_and, List.set_cons_zero, List.set_cons_succ, List.setIfInBounds_toArray] at C)
                clear v0 v1 v2 v3 v4 v5 v6 v7 v8 v9 v10 v11 v12 v13 v14 v15 v16 v17 v18 v19 v20 v21 v22
                (repeat' ((fail_if_success (with_reducible show bodyPost _ _ _ _ _ _)); first | ((with_reducible refine Hp.abs_alloc H ?_); intro b' w' H' hb'; (try simp only [hb']); clear hb'; ((try simp only [List.set_cons_zero, List.set_cons_succ, List.setIfInBounds_toArray] at H'); clear C H; have H := H'; clear H'; have C := Hp.facts H; simp only [Facts, factsL, and_true, true_and, List.set_cons_zero, List.set_cons_succ, List.setIfInBounds_toArray] at C)) | ((with_reducible show wpList _ _ _ _ _ (World.setCell _ _ _)); first | ((with_reducible apply Hp.abs_gen H); (repeat (with_reducible apply Hp.set' 0)); (with_reducible exact H); (repeat rfl); intro w' H'; ((try simp only [List.set_cons_zero, List.set_cons_succ, List.setIfInBounds_toArray] at H'); clear C H; have H := H'; clear H'; have C := Hp.facts H; simp only [Facts, factsL, and_true, true_and, List.set_cons_zero, List.set_cons_succ, List.setIfInBounds_toArray] at C)) | ((with_reducible apply Hp.abs_gen H); (repeat (with_reducible apply Hp.set' 1)); (with_reducible exact H); (repeat rfl); intro w' H'; ((try simp only [List.set_cons_zero, List.set_cons_succ, List.setIfInBounds_toArray] at H'); clear C H; have H := H'; clear H'; have C := Hp.facts H; simp only [Facts, factsL, and_true, true_and, List.set_cons_zero, List.set_cons_succ, List.setIfInBounds_toArray] at C)) | ((with_reducible apply Hp.abs_gen H); (repeat (with_reducible apply Hp.set' 2)); (with_reducible exact H); (repeat rfl); intro w' H'; ((try simp only [List.set_cons_zero, List.set_cons_succ, List.setIfInBounds_toArray] at H'); clear C H; have H := H'; clear H'; have C := Hp.facts H; simp only [Facts, factsL, and_true, true_and, List.set_cons_zero, List.set_cons_succ, List.setIfInBounds_toArray] at C)) | ((with_reducible apply Hp.abs_gen H); (repeat (with_reducible apply Hp.set' 3)); (with_reducible exact H); (repeat rfl); intro w' H'; ((try simp only [List.set_cons_zero, List.set_cons_succ, List.setIfInBounds_toArray] at H'); clear C H; have H := H'; clear H'; have C := Hp.facts H; simp only [Facts, factsL, and_true, true_and, List.set_cons_zero, List.set_cons_succ, List.setIfInBounds_toArray] at C)) | ((with_reducible apply Hp.abs_gen H); (repeat (with_reducible apply Hp.set' 4)); (with_reducible exact H); (repeat rfl); intro w' H'; ((try simp only [List.set_cons_zero, List.set_cons_succ, List.setIfInBounds_toArray] at H'); clear C H; have H := H'; clear H'; have C := Hp.facts H; simp only [Facts, factsL, and_true, true_and, List.set_cons_zero, List.set_cons_succ, List.setIfInBounds_toArray] at C)) | ((with_reducible apply Hp.abs_gen H); (repeat (with_reducible apply Hp.set' 5)); (with_reducible exact H); (repeat rfl); intro w' H'; ((try simp only [List.set_cons_zero, List.set_cons_succ, List.setIfInBounds_toArray] at H'); clear C H; have H := H'; clear H'; have C := Hp.facts H; simp only [Facts, factsL, and_true, true_and, List.set_cons_zero, List.set_cons_succ, List.setIfInBounds_toArray] at C)) | ((with_reducible apply Hp.abs_gen H); (repeat (with_reducible apply Hp.set' 6)); (with_reducible exact H); (repeat rfl); intro w' H'; ((try simp only [List.set_cons_zero, List.set_cons_succ, List.setIfInBounds_toArray] at H'); clear C H; have H := H'; clear H'; have C := Hp.facts H; simp only [Facts, factsL, and_true, true_and, List.set_cons_zero, List.set_cons_succ, List.setIfInBounds_toArray] at C)) | ((with_reducible apply Hp.abs_gen H); (repeat (with_reducible apply Hp.set' 7)); (with_reducible exact H); (repeat rfl); intro w' H'; ((try simp only [List.set_cons_zero, List.set_cons_succ, List.setIfInBounds_toArray] at H'); clear C H; have H := H'; clear H'; have C := Hp.facts H; simp only [Facts, factsL, and_true, true_and, List.set_cons_zero, List.set_cons_succ, List.setIfInBounds_toArray] at C))) | go_values | go_skip | go_guarded | go_step | go_upon | go_back | (simp only [Int.not_lt, Int.not_le] at *; go_simp) | (go_values <;> (try go_simp)) | (go_ite <;> go_prune <;> (try go_simp)) | (split <;> (first | (rename_i hx; exact (hx _ rfl).elim) | go_prune))))
                go_ret
                exact ⟨ret_int (by rw [comms_stop hal hp (by omega) hi1 hit (.inr ⟨hlt, hs, he⟩)]), H.low⟩
            · (repeat' ((fail_if_success (with_reducible show bodyPost _ _ _ _ _ _)); first | ((with_reducible refine Hp.abs_alloc H ?_); intro b' w' H' hb'; (try simp only [hb']); clear hb'; ((try simp only [List.set_cons_zero, List.set_cons_succ, List.setIfInBounds_toArray] at H'); clear C H; have H := H'; clear H'; have C := Hp.facts H; simp only [Facts, factsL, and_true, true_and, List.set_cons_zero, List.set_cons_succ, List.setIfInBounds_toArray] at C)) | ((with_reducible show wpList _ _ _ _ _ (World.setCell _ _ _)); first | ((with_reducible apply Hp.abs_gen H); (repeat (with_reducible apply Hp.set' 0)); (with_reducible exact H); (repeat rfl); intro w' H'; ((try simp only [List.set_cons_zero, List.set_cons_succ, List.setIfInBounds_toArray] at H'); clear C H; have H := H'; clear H'; have C := Hp.facts H; simp only [Facts, factsL, and_true, true_and, List.set_cons_zero, List.set_cons_succ, List.setIfInBounds_toArray] at C)) | ((with_reducible apply Hp.abs_gen H); (repeat (with_reducible apply Hp.set' 1)); (with_reducible exact H); (repeat rfl); intro w' H'; ((try simp only [List.set_cons_zero, List.set_cons_succ, List.setIfInBounds_toArray] at H'); clear C H; have H := H'; clear H'; have C := Hp.facts H; simp only [Facts, factsL, and_true, true_and, List.set_cons_zero, List.set_cons_succ, List.setIfInBounds_toArray] at C)) | ((with_reducible apply Hp.abs_gen H); (repeat (with_reducible apply Hp.set' 2)); (with_reducible exact H); (repeat rfl); intro w' H'; ((try simp only [List.set_cons_zero, List.set_cons_succ, List.setIfInBounds_toArray] at H'); clear C H; have H := H'; clear H'; have C := Hp.facts H; simp only [Facts, factsL, and_true, true_and, List.set_cons_zero, List.set_cons_succ, List.setIfInBounds_toArray] at C)) | ((with_reducible apply Hp.abs_gen H); (repeat (with_reducible apply Hp.set' 3)); (with_reducible exact H); (repeat rfl); intro w' H'; ((try simp only [List.set_cons_zero, List.set_cons_succ, List.setIfInBounds_toArray] at H'); clear C H; have H := H'; clear H'; have C := Hp.facts H; simp only [Facts, factsL, and_true, true_and, List.set_cons_zero, List.set_cons_succ, List.setIfInBounds_toArray] at C)) | ((with_reducible apply Hp.abs_gen H); (repeat (with_reducible apply Hp.set' 4)); (with_reducible exact H); (repeat rfl); intro w' H'; ((try simp only [List.set_cons_zero, List.set_cons_succ, List.setIfInBounds_toArray] at H'); clear C H; have H := H'; clear H'; have C := Hp.facts H; simp only [Facts, factsL, and_true, true_and, List.set_cons_zero, List.set_cons_succ, List.setIfInBounds_toArray] at C)) | ((with_reducible apply Hp.abs_gen H); (repeat (with_reducible apply Hp.set' 5)); (with_reducible exact H); (repeat rfl); intro w' H'; ((try simp only [List.set_cons_zero, List.set_cons_succ, List.setIfInBounds_toArray] at H'); clear C H; have H := H'; clear H'; have C := Hp.facts H; simp only [Facts, factsL, and_true, true_and, List.set_cons_zero, List.set_cons_succ, List.setIfInBounds_toArray] at C)) | ((with_reducible apply Hp.abs_gen H); (repeat (with_reducible apply Hp.set' 6)); (with_reducible exact H); (repeat rfl); intro w' H'; ((try simp only [List.set_cons_zero, List.set_cons_succ, List.setIfInBounds_toArray] at H'); clear C H; have H := H'; clear H'; have C := Hp.facts H; simp only [Facts, factsL, and_true, true_and, List.set_cons_zero, List.set_cons_succ, List.setIfInBounds_toArray] at C)) | ((with_reducible apply Hp.abs_gen H); (repeat (with_reducible apply Hp.set' 7)); (with_reducible exact H); (repeat rfl); intro w' H'; ((try simp only [List.set_cons_zero, List.set_cons_succ, List.setIfInBounds_toArray] at H'); clear C H; have H := H'; clear H'; have C := Hp.facts H; simp only [Facts, factsL, and_true, true_and, List.set_cons_zero, List.set_cons_succ, List.setIfInBounds_toArray] at C))) | go_values | go_skip | go_guarded | go_step | go_upon | go_back | (simp only [Int.not_lt, Int.not_le] at *; go_simp) | (go_values <;> (try go_simp)) | (go_ite <;> go_prune <;> (try go_simp)) | (split <;> (first | (rename_i hx; exact (hx _ rfl).elim) | go_prune))))
              refine region_b 50 [some 22, some 23, some 24, some 25, some 26, some 27, some 28, some 29, some 30, some 31, some 32, some 33, some 34, some 35, some 36, some 37, some 38, some 39, some 40, some 41, some 42, some 43, some 44] [[], [], [], [1, 2], [3], [4], [0, 5], [6], [7], [7], [7, 8, 9], [7, 10], [7], [7, 11, 12], [7, 13], [7], [7, 15], [7, 16], [7], [7, 17, 18], [7, 19], [7, 14, 20], [7, 21]] [fun v _ => v = .int .i64 (n : Int), fun v _ => v = .slice (some ⟨b, o, none⟩) ls.length c, fun v _ => v = .int .i64 (i : Int), fun v _ => v = .pointer (some ⟨b, o + i, none⟩), fun v _ => v = .slice A3 ls[i].length c3, fun v _ => v = .int .i64 (ls[i].length : Int), fun v _ => v = .bool true, fun v _ => v = .bool true, fun v _ => v = undef, fun v _ => v = undef, fun v _ => v = undef, fun v _ => v = undef, fun v _ => v = undef, fun v _ => v = undef, fun v _ => v = undef, fun v _ => v = undef, fun v _ => v = undef, fun v _ => v = undef, fun v _ => v = undef, fun v _ => v = undef, fun v _ => v = undef, fun v _ => v = undef, fun v _ => v = .bool true] (by kernel_rfl) (by kernel_rfl) rfl (by kernel_rfl) rfl _ (fun vs => (by simp only [fillD, Nat.reduceAdd, Act.put, List.setIfInBounds_toArray, List.set_cons_zero, List.set_cons_succ]; rfl)) ?_ ?_ ?_
              · refine ⟨fun _ _ _ _ h => h, fun _ _ _ _ h => h, fun _ _ _ _ h => h, fun _ _ _ _ h => h, fun _ _ _ _ h => h, fun _ _ _ _ h => h, fun _ _ _ _ h => h, fun _ _ _ _ h => h, fun _ _ _ _ h => h, fun _ _ _ _ h => h, fun _ _ _ _ h => h, fun _ _ _ _ h => h, fun _ _ _ _ h => h, fun _ _ _ _ h => h, fun _ _ _ _ h => h, fun _ _ _ _ h => h, fun _ _ _ _ h => h, fun _ _ _ _ h => h, fun _ _ _ _ h => h, fun _ _ _ _ h => h, fun _ _ _ _ h => h, fun _ _ _ _ h => h, fun _ _ _ _ h => h, trivial⟩
              · refine ⟨?_, ?_, ?_, ?_, ?_, ?_, ?_, ?_, ?_, ?_, ?_, ?_, ?_, ?_, ?_, ?_, ?_, ?_, ?_, ?_, ?_, ?_, ?_, trivial⟩
                · intro vs w' K hJ hR hK
                  rw [if_pos (by rfl)]
                  go_step
                  exact hK.out _ _ (Below.refl _ _) (rfl)
                · intro vs w' K hJ hR hK
                  rw [if_pos (by rfl)]
                  go_step
                  exact hK.out _ _ (Below.refl _ _) (rfl)
                · intro vs w' K hJ hR hK
                  rw [if_pos (by rfl)]
                  go_step
                  exact hK.out _ _ (Below.refl _ _) (rfl)
                · intro vs w' K hJ hR hK
                  simp only [DepJ, List.getD_cons_zero, List.getD_cons_succ] at hJ
                  obtain ⟨j1, j2, -⟩ := hJ
                  simp only [j1, j2] at hK ⊢
                  rw [if_pos (by rfl)]
                  go_step
                  exact hK.out _ _ (Below.refl _ _) (rfl)
                · intro vs w' K hJ hR hK
                  simp only [DepJ, List.getD_cons_zero, List.getD_cons_succ] at hJ
                  obtain ⟨j3, -⟩ := hJ
                  simp only [j3] at hK ⊢
                  rw [if_pos (by rfl)]
                  have C := Hp.facts (Hp.step H.drew hR)
                  simp only [Facts, factsL, and_true, true_and, List.set_cons_zero, List.set_cons_succ, List.setIfInBounds_toArray] at C
                  go_step
                  exact hK.out _ _ (Below.refl _ _) rfl
                · intro vs w' K hJ hR hK
                  simp only [DepJ, List.getD_cons_zero, List.getD_cons_succ] at hJ
                  obtain ⟨j4, -⟩ := hJ
                  simp only [j4] at hK ⊢
                  rw [if_pos (by rfl)]
                  go_step
                  exact hK.out _ _ (Below.refl _ _) (rfl)
                · intro vs w' K hJ hR hK
                  simp only [DepJ, List.getD_cons_zero, List.getD_cons_succ] at hJ
                  obtain ⟨j0, j5, -⟩ := hJ
                  simp only [j0, j5] at hK ⊢
                  rw [if_pos (by rfl)]
                  go_step
                  exact hK.out _ _ (Below.refl _ _) (by first | (simp; done) | (simp; omega))
                · intro vs w' K hJ hR hK
                  simp only [DepJ, List.getD_cons_zero, List.getD_cons_succ] at hJ
                  obtain ⟨j6, -⟩ := hJ
                  simp only [j6] at hK ⊢
                  rw [if_pos (by rfl)]
                  go_step
                  exact hK.out _ _ (Below.refl _ _) (rfl)
                · intro vs w' K hJ hR hK
                  simp only [DepJ, List.getD_cons_zero, List.getD_cons_succ] at hJ
                  obtain ⟨j7, -⟩ := hJ
                  simp only [j7] at hK ⊢
                  rw [if_neg (by simp [Region.wanted, yielded, undef])]
                  exact hK.out _ _ (Below.refl _ _) (rfl)
                · intro vs w' K hJ hR hK
                  simp only [DepJ, List.getD_cons_zero, List.getD_cons_succ] at hJ
                  obtain ⟨j7, -⟩ := hJ
                  simp only [j7] at hK ⊢
                  rw [if_neg (by simp [Region.wanted, yielded, undef])]
                  exact hK.out _ _ (Below.refl _ _) (rfl)
                · intro vs w' K hJ hR hK
                  simp only [DepJ, List.getD_cons_zero, List.getD_cons_succ] at hJ
                  obtain ⟨j7, j8, j9, -⟩ := hJ
                  simp only [j7, j8, j9] at hK ⊢
                  rw [if_neg (by simp [Region.wanted, yielded, undef])]
                  exact hK.out _ _ (Below.refl _ _) (rfl)
                · intro vs w' K hJ hR hK
                  simp only [DepJ, List.getD_cons_zero, List.getD_cons_succ] at hJ
                  obtain ⟨j7, j10, -⟩ := hJ
                  simp only [j7, j10] at hK ⊢
                  rw [if_neg (by simp [Region.wanted, yielded, undef])]
                  exact hK.out _ _ (Below.refl _ _) (rfl)
                · intro vs w' K hJ hR hK
                  simp only [DepJ, List.getD_cons_zero, List.getD_cons_succ] at hJ
                  obtain ⟨j7, -⟩ := hJ
                  simp only [j7] at hK ⊢
                  rw [if_neg (by simp [Region.wanted, yielded, undef])]
                  exact hK.out _ _ (Below.refl _ _) (rfl)
                · intro vs w' K hJ hR hK
                  simp only [DepJ, List.getD_cons_zero, List.getD_cons_succ] at hJ
                  obtain ⟨j7, j11, j12, -⟩ := hJ
                  simp only [j7, j11, j12] at hK ⊢
                  rw [if_neg (by simp [Region.wanted, yielded, undef])]
                  exact hK.out _ _ (Below.refl _ _) (rfl)
                · intro vs w' K hJ hR hK
                  simp only [DepJ, List.getD_cons_zero, List.getD_cons_succ] at hJ
                  obtain ⟨j7, j13, -⟩ := hJ
                  simp only [j7, j13] at hK ⊢
                  rw [if_neg (by simp [Region.wanted, yielded, undef])]
                  exact hK.out _ _ (Below.refl _ _) (rfl)
                · intro vs w' K hJ hR hK
                  simp only [DepJ, List.getD_cons_zero, List.getD_cons_succ] at hJ
                  obtain ⟨j7, -⟩ := hJ
                  simp only [j7] at hK ⊢
                  rw [if_neg (by simp [Region.wanted, yielded, undef])]
                  exact hK.out _ _ (Below.refl _ _) (rfl)
                · intro vs w' K hJ hR hK
                  simp only [DepJ, List.getD_cons_zero, List.getD_cons_succ] at hJ
                  obtain ⟨j7, j15, -⟩ := hJ
                  simp only [j7, j15] at hK ⊢
                  rw [if_neg (by simp [Region.wanted, yielded, undef])]
                  exact hK.out _ _ (Below.refl _ _) (rfl)
                · intro vs w' K hJ hR hK
                  simp only [DepJ, List.getD_cons_zero, List.getD_cons_succ] at hJ
                  obtain ⟨j7, j16, -⟩ := hJ
                  simp only [j7, j16] at hK ⊢
                  rw [if_neg (by simp [Region.wanted, yielded, undef])]
                  exact hK.out _ _ (Below.refl _ _) (rfl)
                · intro vs w' K hJ hR hK
                  simp only [DepJ, List.getD_cons_zero, List.getD_cons_succ] at hJ
                  obtain ⟨j7, -⟩ := hJ
                  simp only [j7] at hK ⊢
                  rw [if_neg (by simp [Region.wanted, yielded, undef])]
                  exact hK.out _ _ (Below.refl _ _) (rfl)
                · intro vs w' K hJ hR hK
                  simp only [DepJ, List.getD_cons_zero, List.getD_cons_succ] at hJ
                  obtain ⟨j7, j17, j18, -⟩ := hJ
                  simp only [j7, j17, j18] at hK ⊢
                  rw [if_neg (by simp [Region.wanted, yielded, undef])]
                  exact hK.out _ _ (Below.refl _ _) (rfl)
                · intro vs w' K hJ hR hK
                  simp only [DepJ, List.getD_cons_zero, List.getD_cons_succ] at hJ
                  obtain ⟨j7, j19, -⟩ := hJ
                  simp only [j7, j19] at hK ⊢
                  rw [if_neg (by simp [Region.wanted, yielded, undef])]
                  exact hK.out _ _ (Below.refl _ _) (rfl)
                · intro vs w' K hJ hR hK
                  simp only [DepJ, List.getD_cons_zero, List.getD_cons_succ] at hJ
                  obtain ⟨j7, j14, j20, -⟩ := hJ
                  simp only [j7, j14, j20] at hK ⊢
                  rw [if_neg (by simp [Region.wanted, yielded, undef])]
                  exact hK.out _ _ (Below.refl _ _) (rfl)
                · intro vs w' K hJ hR hK
                  simp only [DepJ, List.getD_cons_zero, List.getD_cons_succ] at hJ
                  obtain ⟨j7, j21, -⟩ := hJ
                  simp only [j7, j21] at hK ⊢
                  rw [if_pos (by rfl)]
                  go_step
                  exact hK.out _ _ (Below.refl _ _) (rfl)
              intro vs w' hJ hR
              simp only [AllJ, Nat.reduceAdd] at hJ
              obtain ⟨v0, v1, v2, v3, v4, v5, v6, v7, v8, v9, v10, v11, v12, v13, v14, v15, v16, v17, v18, v19, v20, v21, v22, -⟩ := hJ
              simp only [v22]
              have H' := Hp.step H.drew hR
              ((try simp only [List.set_cons_zero, List.set_cons_succ, List.setIfInBounds_toArray] at H'); clear C H; have H := H'; clear H'; have C := Hp.facts H; simp only [Facts, factsL, and_true, true_and, List.set_cons_zero, List.set_cons_succ, List.setIfInBounds_toArray] at C)
              clear v0 v1 v2 v3 v4 v5 v6 v7 v8 v9 v10 v11 v12 v13 v14 v15 v16 v17 v18 v19 v20 v21 v22
              (repeat' ((fail_if_success (with_reducible show bodyPost _ _ _ _ _ _)); first | ((with_reducible refine Hp.abs_alloc H ?_); intro b' w' H' hb'; (try simp only [hb']); clear hb'; ((try simp only [List.set_cons_zero, List.set_cons_succ, List.setIfInBounds_toArray] at H'); clear C H; have H := H'; clear H'; have C := Hp.facts H; simp only [Facts, factsL, and_true, true_and, List.set_cons_zero, List.set_cons_succ, List.setIfInBounds_toArray] at C)) | ((with_reducible show wpList _ _ _ _ _ (World.setCell _ _ _)); first | ((with_reducible apply Hp.abs_gen H); (repeat (with_reducible apply Hp.set' 0)); (with_reducible exact H); (repeat rfl); intro w' H'; ((try simp only [List.set_cons_zero, List.set_cons_succ, List.setIfInBounds_toArray] at H'); clear C H; have H := H'; clear H'; have C := Hp.facts H; simp only [Facts, factsL, and_true, true_and, List.set_cons_zero, List.set_cons_succ, List.setIfInBounds_toArray] at C)) | ((with_reducible apply Hp.abs_gen H); (repeat (with_reducible apply Hp.set' 1)); (with_reducible exact H); (repeat rfl); intro w' H'; ((try simp only [List.set_cons_zero, List.set_cons_succ, List.setIfInBounds_toArray] at H'); clear C H; have H := H'; clear H'; have C := Hp.facts H; simp only [Facts, factsL, and_true, true_and, List.set_cons_zero, List.set_cons_succ, List.setIfInBounds_toArray] at C)) | ((with_reducible apply Hp.abs_gen H); (repeat (with_reducible apply Hp.set' 2)); (with_reducible exact H); (repeat rfl); intro w' H'; ((try simp only [List.set_cons_zero, List.set_cons_succ, List.setIfInBounds_toArray] at H'); clear C H; have H := H'; clear H'; have C := Hp.facts H; simp only [Facts, factsL, and_true, true_and, List.set_cons_zero, List.set_cons_succ, List.setIfInBounds_toArray] at C)) | ((with_reducible apply Hp.abs_gen H); (repeat (with_reducible apply Hp.set' 3)); (with_reducible exact H); (repeat rfl); intro w' H'; ((try simp only [List.set_cons_zero, List.set_cons_succ, List.setIfInBounds_toArray] at H'); clear C H; have H := H'; clear H'; have C := Hp.facts H; simp only [Facts, factsL, and_true, true_and, List.set_cons_zero, List.set_cons_succ, List.setIfInBounds_toArray] at C)) | ((with_reducible apply Hp.abs_gen H); (repeat (with_reducible apply Hp.set' 4)); (with_reducible exact H); (repeat rfl); intro w' H'; ((try simp only [List.set_cons_zero, List.set_cons_succ, List.setIfInBounds_toArray] at H'); clear C H; have H := H'; clear H'; have C := Hp.facts H; simp only [Facts, factsL, and_true, true_and, List.set_cons_zero, List.set_cons_succ, List.setIfInBounds_toArray] at C)) | ((with_reducible apply Hp.abs_gen H); (repeat (with_reducible apply Hp.set' 5)); (with_reducible exact H); (repeat rfl); intro w' H'; ((try simp only [List.set_cons_zero, List.set_cons_succ, List.setIfInBounds_toArray] at H'); clear C H; have H := H'; clear H'; have C := Hp.facts H; simp only [Facts, factsL, and_true, true_and, List.set_cons_zero, List.set_cons_succ, List.setIfInBounds_toArray] at C)) | ((with_reducible apply Hp.abs_gen H); (repeat (with_reducible apply Hp.set' 6)); (with_reducible exact H); (repeat rfl); intro w' H'; ((try simp only [List.set_cons_zero, List.set_cons_succ, List.setIfInBounds_toArray] at H'); clear C H; have H := H'; clear H'; have C := Hp.facts H; simp only [Facts, factsL, and_true, true_and, List.set_cons_zero, List.set_cons_succ, List.setIfInBounds_toArray] at C)) | ((with_reducible apply Hp.abs_gen H); (repeat (with_reducible apply Hp.set' 7)); (with_reducible exact H); (repeat rfl); intro w' H'; ((try simp only [List.set_cons_zero, List.set_cons_succ, List.setIfInBounds_toArray] at H'); clear C H; have H := H'; clear H'; have C := Hp.facts H; simp only [Facts, factsL, and_true, true_and, List.set_cons_zero, List.set_cons_succ, List.setIfInBounds_toArray] at C))) | go_values | go_skip | go_guarded | go_step | go_upon | go_back | (simp only [Int.not_lt, Int.not_le] at *; go_simp) | (go_values <;> (try go_simp)) | (go_ite <;> go_prune <;> (try go_simp)) | (split <;> (first | (rename_i hx; exact (hx _ rfl).elim) | go_prune))))
              go_ret
              exact ⟨ret_int (by rw [comms_stop hal hp (by omega) hi1 hit (.inl (by omega))]), H.low⟩
          · obtain rfl : i = ls.length := by omega
            (repeat' ((fail_if_success (with_reducible show bodyPost _ _ _ _ _ _)); first | ((with_reducible refine Hp.abs_alloc H ?_); intro b' w' H' hb'; (try simp only [hb']); clear hb'; ((try simp only [List.set_cons_zero, List.set_cons_succ, List.setIfInBounds_toArray] at H'); clear C H; have H := H'; clear H'; have C := Hp.facts H; simp only [Facts, factsL, and_true, true_and, List.set_cons_zero, List.set_cons_succ, List.setIfInBounds_toArray] at C)) | ((with_reducible show wpList _ _ _ _ _ (World.setCell _ _ _)); first | ((with_reducible apply Hp.abs_gen H); (repeat (with_reducible apply Hp.set' 0)); (with_reducible exact H); (repeat rfl); intro w' H'; ((try simp only [List.set_cons_zero, List.set_cons_succ, List.setIfInBounds_toArray] at H'); clear C H; have H := H'; clear H'; have C := Hp.facts H; simp only [Facts, factsL, and_true, true_and, List.set_cons_zero, List.set_cons_succ, List.setIfInBounds_toArray] at C)) | ((with_reducible apply Hp.abs_gen H); (repeat (with_reducible apply Hp.set' 1)); (with_reducible exact H); (repeat rfl); intro w' H'; ((try simp only [List.set_cons_zero, List.set_cons_succ, List.setIfInBounds_toArray] at H'); clear C H; have H := H'; clear H'; have C := Hp.facts H; simp only [Facts, factsL, and_true, true_and, List.set_cons_zero, List.set_cons_succ, List.setIfInBounds_toArray] at C)) | ((with_reducible apply Hp.abs_gen H); (repeat (with_reducible apply Hp.set' 2)); (with_reducible exact H); (repeat rfl); intro w' H'; ((try simp only [List.set_cons_zero, List.set_cons_succ, List.setIfInBounds_toArray] at H'); clear C H; have H := H'; clear H'; have C := Hp.facts H; simp only [Facts, factsL, and_true, true_and, List.set_cons_zero, List.set_cons_succ, List.setIfInBounds_toArray] at C)) | ((with_reducible apply Hp.abs_gen H); (repeat (with_reducible apply Hp.set' 3)); (with_reducible exact H); (repeat rfl); intro w' H'; ((try simp only [List.set_cons_zero, List.set_cons_succ, List.setIfInBounds_toArray] at H'); clear C H; have H := H'; clear H'; have C := Hp.facts H; simp only [Facts, factsL, and_true, true_and, List.set_cons_zero, List.set_cons_succ, List.setIfInBounds_toArray] at C)) | ((with_reducible apply Hp.abs_gen H); (repeat (with_reducible apply Hp.set' 4)); (with_reducible exact H); (repeat rfl); intro w' H'; ((try simp only [List.set_cons_zero, List.set_cons_succ, List.setIfInBounds_toArray] at H'); clear C H; have H := H'; clear H'; have C := Hp.facts H; simp only [Facts, factsL, and_true, true_and, List.set_cons_zero, List.set_cons_succ, List.setIfInBounds_toArray] at C)) | ((with_reducible apply Hp.abs_gen H); (repeat (with_reducible apply Hp.set' 5)); (with_reducible exact H); (repeat rfl); intro w' H'; ((try simp only [List.set_cons_zero, List.set_cons_succ, List.setIfInBounds_toArray] at H'); clear C H; have H := H'; clear H'; have C := Hp.facts H; simp only [Facts, factsL, and_true, true_and, List.set_cons_zero, List.set_cons_succ, List.setIfInBounds_toArray] at C)) | ((with_reducible apply Hp.abs_gen H); (repeat (with_reducible apply Hp.set' 6)); (with_reducible exact H); (repeat rfl); intro w' H'; ((try simp only [List.set_cons_zero, List.set_cons_succ, List.setIfInBounds_toArray] at H'); clear C H; have H := H'; clear H'; have C := Hp.facts H; simp only [Facts, factsL, and_true, true_and, List.set_cons_zero, List.set_cons_succ, List.setIfInBounds_toArray] at C)) | ((with_reducible apply Hp.abs_gen H); (repeat (with_reducible apply Hp.set' 7)); (with_reducible exact H); (repeat rfl); intro w' H'; ((try simp only [List.set_cons_zero, List.set_cons_succ, List.setIfInBounds_toArray] at H'); clear C H; have H := H'; clear H'; have C := Hp.facts H; simp only [Facts, factsL, and_true, true_and, List.set_cons_zero, List.set_cons_succ, List.setIfInBounds_toArray] at C))) | go_values | go_skip | go_guarded | go_step | go_upon | go_back | (simp only [Int.not_lt, Int.not_le] at *; go_simp) | (go_values <;> (try go_simp)) | (go_ite <;> go_prune <;> (try go_simp)) | (split <;> (first | (rename_i hx; exact (hx _ rfl).elim) | go_prune))))
            exact ⟨⟨n + 1, by omega, by go_num, hai, H⟩, by simp [intOf]; omega⟩
      · obtain rfl : n = ls[0].length := by omega
        (repeat' ((fail_if_success (with_reducible show bodyPost _ _ _ _ _ _)); first | ((with_reducible refine Hp.abs_alloc H ?_); intro b' w' H' hb'; (try simp only [hb']); clear hb'; ((try simp only [List.set_cons_zero, List.set_cons_succ, List.setIfInBounds_toArray] at H'); clear C H; have H := H'; clear H'; have C := Hp.facts H; simp only [Facts, factsL, and_true, true_and, List.set_cons_zero, List.set_cons_succ, List.setIfInBounds_toArray] at C)) | ((with_reducible show wpList _ _ _ _ _ (World.setCell _ _ _)); first | ((with_reducible apply Hp.abs_gen H); (repeat (with_reducible apply Hp.set' 0)); (with_reducible exact H); (repeat rfl); intro w' H'; ((try simp only [List.set_cons_zero, List.set_cons_succ, List.setIfInBounds_toArray] at H'); clear C H; have H := H'; clear H'; have C := Hp.facts H; simp only [Facts, factsL, and_true, true_and, List.set_cons_zero, List.set_cons_succ, List.setIfInBounds_toArray] at C)) | ((with_reducible apply Hp.abs_gen H); (repeat (with_reducible apply Hp.set' 1)); (with_reducible exact H); (repeat rfl); intro w' H'; ((try simp only [List.set_cons_zero, List.set_cons_succ, List.setIfInBounds_toArray] at H'); clear C H; have H := H'; clear H'; have C := Hp.facts H; simp only [Facts, factsL, and_true, true_and, List.set_cons_zero, List.set_cons_succ, List.setIfInBounds_toArray] at C)) | ((with_reducible apply Hp.abs_gen H); (repeat (with_reducible apply Hp.set' 2)); (with_reducible exact H); (repeat rfl); intro w' H'; ((try simp only [List.set_cons_zero, List.set_cons_succ, List.setIfInBounds_toArray] at H'); clear C H; have H := H'; clear H'; have C := Hp.facts H; simp only [Facts, factsL, and_true, true_and, List.set_cons_zero, List.set_cons_succ, List.setIfInBounds_toArray] at C)) | ((with_reducible apply Hp.abs_gen H); (repeat (with_reducible apply Hp.set' 3)); (with_reducible exact H); (repeat rfl); intro w' H'; ((try simp only [List.set_cons_zero, List.set_cons_succ, List.setIfInBounds_toArray] at H'); clear C H; have H := H'; clear H'; have C := Hp.facts H; simp only [Facts, factsL, and_true, true_and, List.set_cons_zero, List.set_cons_succ, List.setIfInBounds_toArray] at C)) | ((with_reducible apply Hp.abs_gen H); (repeat (with_reducible apply Hp.set' 4)); (with_reducible exact H); (repeat rfl); intro w' H'; ((try simp only [List.set_cons_zero, List.set_cons_succ, List.setIfInBounds_toArray] at H'); clear C H; have H := H'; clear H'; have C := Hp.facts H; simp only [Facts, factsL, and_true, true_and, List.set_cons_zero, List.set_cons_succ, List.setIfInBounds_toArray] at C)) | ((with_reducible apply Hp.abs_gen H); (repeat (with_reducible apply Hp.set' 5)); (with_reducible exact H); (repeat rfl); intro w' H'; ((try simp only [List.set_cons_zero, List.set_cons_succ, List.setIfInBounds_toArray] at H'); clear C H; have H := H'; clear H'; have C := Hp.facts H; simp only [Facts, factsL, and_true, true_and, List.set_cons_zero, List.set_cons_succ, List.setIfInBounds_toArray] at C)) | ((with_reducible apply Hp.abs_gen H); (repeat (with_reducible apply Hp.set' 6)); (with_reducible exact H); (repeat rfl); intro w' H'; ((try simp only [List.set_cons_zero, List.set_cons_succ, List.setIfInBounds_toArray] at H'); clear C H; have H := H'; clear H'; have C := Hp.facts H; simp only [Facts, factsL, and_true, true_and, List.set_cons_zero, List.set_cons_succ, List.setIfInBounds_toArray] at C)) | ((with_reducible apply Hp.abs_gen H); (repeat (with_reducible apply Hp.set' 7)); (with_reducible exact H); (repeat rfl); intro w' H'; ((try simp only [List.set_cons_zero, List.set_cons_succ, List.setIfInBounds_toArray] at H'); clear C H; have H := H'; clear H'; have C := Hp.facts H; simp only [Facts, factsL, and_true, true_and, List.set_cons_zero, List.set_cons_succ, List.setIfInBounds_toArray] at C))) | go_values | go_skip | go_guarded | go_step | go_upon | go_back | (simp only [Int.not_lt, Int.not_le] at *; go_simp) | (go_values <;> (try go_simp)) | (go_ite <;> go_prune <;> (try go_simp)) | (split <;> (first | (rename_i hx; exact (hx _ rfl).elim) | go_prune))))
        go_ret
        exact ⟨ret_int (by rw [comms_end hp hal]), H.low⟩
end Go.Proofs.Ythkhibgidenmjaa
