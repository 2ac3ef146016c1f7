/- Lemmas and walks on the way to the seat's laws; each theorem says its own conditions. -/
import Derived.Test.YtldblmgmcmnepaaO27
import Derived.Test.YtldblmgmcmnepaaLiftC
set_option linter.unusedSimpArgs false
set_option linter.unusedVariables false
set_option maxRecDepth 100000
namespace Go.Proofs.Ytldblmgmcmnepaa
open Go.RowKit Go.Mem Go.Reg Oct Go.LawLift
def PlaysRel (w : World) (L : List UInt8) (d q : Nat) (wv v : Value) (m : Nat) (ix : Value) (wr : World) : Prop :=
  ∃ (i k : Nat), k ≤ L.length ∧ i ≤ m ∧ i ≤ 200 ∧ ix = .int .i64 i ∧ Hp w [.blk d #[wv, .int .i64 (k : Int)] 120, .row 5 1 wv L.length (L.map u8c), .blk q #[v, .int .i64 (k : Int)] 140, .row 5 1 v L.length (L.map u8c)] wr
set_option maxHeartbeats 4000000 in
theorem octetPlays_any (l : List UInt8) (zs : List (Int × Int)) (va vz : Value) (w : World) (ha : Bs w va l) (hz : Prs .i64 w vz zs) (hzs : ∀ z ∈ zs, (IntKind.i64.min ≤ z.1 ∧ z.1 ≤ IntKind.i64.max) ∧ (IntKind.i64.min ≤ z.2 ∧ z.2 ≤ IntKind.i64.max)) :
    Calls Try.prog 14 #[va, vz] w fun e w' => e = .returned (.bool true) ∧ Below w.heap.size w w' := by
  obtain ⟨A, n, c, L, rfl, hB, hL, -, hfew⟩ := few_open ha
  obtain ⟨AZ, cz, rfl, hz1, hz2, hz3, hz4⟩ := hz
  have H := Hp.start w
  have C : True := trivial
  go_enter Try.func14, Try.ntmps14
  (repeat' ((fail_if_success (with_reducible show bodyPost _ _ _ _ _ _)); first | ((with_reducible refine Hp.abs_alloc H ?_); intro b' w' H' hb'; (try simp only [hb']); clear hb'; ((try simp only [List.set_cons_zero, List.set_cons_succ, List.setIfInBounds_toArray] at H'); clear C H; have H := H'; clear H'; have C := Hp.facts H; simp only [Facts, factsL, and_true, true_and, List.set_cons_zero, List.set_cons_succ, List.setIfInBounds_toArray] at C)) | ((with_reducible show wpList _ _ _ _ _ (World.setCell _ _ _)); first | ((with_reducible apply Hp.abs_gen H); (repeat (with_reducible apply Hp.set' 0)); (with_reducible exact H); (repeat rfl); intro w' H'; ((try simp only [List.set_cons_zero, List.set_cons_succ, List.setIfInBounds_toArray] at H'); clear C H; have H := H'; clear H'; have C := Hp.facts H; simp only [Facts, factsL, and_true, true_and, List.set_cons_zero, List.set_cons_succ, List.setIfInBounds_toArray] at C)) | ((with_reducible apply Hp.abs_gen H); (repeat (with_reducible apply Hp.set' 1)); (with_reducible exact H); (repeat rfl); intro w' H'; ((try simp only [List.set_cons_zero, List.set_cons_succ, List.setIfInBounds_toArray] at H'); clear C H; have H := H'; clear H'; have C := Hp.facts H; simp only [Facts, factsL, and_true, true_and, List.set_cons_zero, List.set_cons_succ, List.setIfInBounds_toArray] at C)) | ((with_reducible apply Hp.abs_gen H); (repeat (with_reducible apply Hp.set' 2)); (with_reducible exact H); (repeat rfl); intro w' H'; ((try simp only [List.set_cons_zero, List.set_cons_succ, List.setIfInBounds_toArray] at H'); clear C H; have H := H'; clear H'; have C := Hp.facts H; simp only [Facts, factsL, and_true, true_and, List.set_cons_zero, List.set_cons_succ, List.setIfInBounds_toArray] at C)) | ((with_reducible apply Hp.abs_gen H); (repeat (with_reducible apply Hp.set' 3)); (with_reducible exact H); (repeat rfl); intro w' H'; ((try simp only [List.set_cons_zero, List.set_cons_succ, List.setIfInBounds_toArray] at H'); clear C H; have H := H'; clear H'; have C := Hp.facts H; simp only [Facts, factsL, and_true, true_and, List.set_cons_zero, List.set_cons_succ, List.setIfInBounds_toArray] at C)) | ((with_reducible apply Hp.abs_gen H); (repeat (with_reducible apply Hp.set' 4)); (with_reducible exact H); (repeat rfl); intro w' H'; ((try simp only [List.set_cons_zero, List.set_cons_succ, List.setIfInBounds_toArray] at H'); clear C H; have H := H'; clear H'; have C := Hp.facts H; simp only [Facts, factsL, and_true, true_and, List.set_cons_zero, List.set_cons_succ, List.setIfInBounds_toArray] at C)) | ((with_reducible apply Hp.abs_gen H); (repeat (with_reducible apply Hp.set' 5)); (with_reducible exact H); (repeat rfl); intro w' H'; ((try simp only [List.set_cons_zero, List.set_cons_succ, List.setIfInBounds_toArray] at H'); clear C H; have H := H'; clear H'; have C := Hp.facts H; simp only [Facts, factsL, and_true, true_and, List.set_cons_zero, List.set_cons_succ, List.setIfInBounds_toArray] at C)) | ((with_reducible apply Hp.abs_gen H); (repeat (with_reducible apply Hp.set' 6)); (with_reducible exact H); (repeat rfl); intro w' H'; ((try simp only [List.set_cons_zero, List.set_cons_succ, List.setIfInBounds_toArray] at H'); clear C H; have H := H'; clear H'; have C := Hp.facts H; simp only [Facts, factsL, and_true, true_and, List.set_cons_zero, List.set_cons_succ, List.setIfInBounds_toArray] at C)) | ((with_reducible apply Hp.abs_gen H); (repeat (with_reducible apply Hp.set' 7)); (with_reducible exact H); (repeat rfl); intro w' H'; ((try simp only [List.set_cons_zero, List.set_cons_succ, List.setIfInBounds_toArray] at H'); clear C H; have H := H'; clear H'; have C := Hp.facts H; simp only [Facts, factsL, and_true, true_and, List.set_cons_zero, List.set_cons_succ, List.setIfInBounds_toArray] at C))) | go_values | go_skip | go_guarded | go_step | go_upon | go_back | (simp only [Int.not_lt, Int.not_le] at *; go_simp) | (go_values <;> (try go_simp)) | (go_ite <;> go_prune <;> (try go_simp)) | (split <;> (first | (rename_i hx; exact (hx _ rfl).elim) | go_prune))))
  refine (hfew _).mono ?_
  rintro e' w' ⟨rfl, rfl⟩
  (repeat' ((fail_if_success (with_reducible show bodyPost _ _ _ _ _ _)); first | ((with_reducible refine Hp.abs_alloc H ?_); intro b' w' H' hb'; (try simp only [hb']); clear hb'; ((try simp only [List.set_cons_zero, List.set_cons_succ, List.setIfInBounds_toArray] at H'); clear C H; have H := H'; clear H'; have C := Hp.facts H; simp only [Facts, factsL, and_true, true_and, List.set_cons_zero, List.set_cons_succ, List.setIfInBounds_toArray] at C)) | ((with_reducible show wpList _ _ _ _ _ (World.setCell _ _ _)); first | ((with_reducible apply Hp.abs_gen H); (repeat (with_reducible apply Hp.set' 0)); (with_reducible exact H); (repeat rfl); intro w' H'; ((try simp only [List.set_cons_zero, List.set_cons_succ, List.setIfInBounds_toArray] at H'); clear C H; have H := H'; clear H'; have C := Hp.facts H; simp only [Facts, factsL, and_true, true_and, List.set_cons_zero, List.set_cons_succ, List.setIfInBounds_toArray] at C)) | ((with_reducible apply Hp.abs_gen H); (repeat (with_reducible apply Hp.set' 1)); (with_reducible exact H); (repeat rfl); intro w' H'; ((try simp only [List.set_cons_zero, List.set_cons_succ, List.setIfInBounds_toArray] at H'); clear C H; have H := H'; clear H'; have C := Hp.facts H; simp only [Facts, factsL, and_true, true_and, List.set_cons_zero, List.set_cons_succ, List.setIfInBounds_toArray] at C)) | ((with_reducible apply Hp.abs_gen H); (repeat (with_reducible apply Hp.set' 2)); (with_reducible exact H); (repeat rfl); intro w' H'; ((try simp only [List.set_cons_zero, List.set_cons_succ, List.setIfInBounds_toArray] at H'); clear C H; have H := H'; clear H'; have C := Hp.facts H; simp only [Facts, factsL, and_true, true_and, List.set_cons_zero, List.set_cons_succ, List.setIfInBounds_toArray] at C)) | ((with_reducible apply Hp.abs_gen H); (repeat (with_reducible apply Hp.set' 3)); (with_reducible exact H); (repeat rfl); intro w' H'; ((try simp only [List.set_cons_zero, List.set_cons_succ, List.setIfInBounds_toArray] at H'); clear C H; have H := H'; clear H'; have C := Hp.facts H; simp only [Facts, factsL, and_true, true_and, List.set_cons_zero, List.set_cons_succ, List.setIfInBounds_toArray] at C)) | ((with_reducible apply Hp.abs_gen H); (repeat (with_reducible apply Hp.set' 4)); (with_reducible exact H); (repeat rfl); intro w' H'; ((try simp only [List.set_cons_zero, List.set_cons_succ, List.setIfInBounds_toArray] at H'); clear C H; have H := H'; clear H'; have C := Hp.facts H; simp only [Facts, factsL, and_true, true_and, List.set_cons_zero, List.set_cons_succ, List.setIfInBounds_toArray] at C)) | ((with_reducible apply Hp.abs_gen H); (repeat (with_reducible apply Hp.set' 5)); (with_reducible exact H); (repeat rfl); intro w' H'; ((try simp only [List.set_cons_zero, List.set_cons_succ, List.setIfInBounds_toArray] at H'); clear C H; have H := H'; clear H'; have C := Hp.facts H; simp only [Facts, factsL, and_true, true_and, List.set_cons_zero, List.set_cons_succ, List.setIfInBounds_toArray] at C)) | ((with_reducible apply Hp.abs_gen H); (repeat (with_reducible apply Hp.set' 6)); (with_reducible exact H); (repeat rfl); intro w' H'; ((try simp only [List.set_cons_zero, List.set_cons_succ, List.setIfInBounds_toArray] at H'); clear C H; have H := H'; clear H'; have C := Hp.facts H; simp only [Facts, factsL, and_true, true_and, List.set_cons_zero, List.set_cons_succ, List.setIfInBounds_toArray] at C)) | ((with_reducible apply Hp.abs_gen H); (repeat (with_reducible apply Hp.set' 7)); (with_reducible exact H); (repeat rfl); intro w' H'; ((try simp only [List.set_cons_zero, List.set_cons_succ, List.setIfInBounds_toArray] at H'); clear C H; have H := H'; clear H'; have C := Hp.facts H; simp only [Facts, factsL, and_true, true_and, List.set_cons_zero, List.set_cons_succ, List.setIfInBounds_toArray] at C))) | go_values | go_skip | go_guarded | go_step | go_upon | go_back | (simp only [Int.not_lt, Int.not_le] at *; go_simp) | (go_values <;> (try go_simp)) | (go_ite <;> go_prune <;> (try go_simp)) | (split <;> (first | (rename_i hx; exact (hx _ rfl).elim) | go_prune))))
  refine (copy_any L _ _ (H.bs hB) (by omega)).mono ?_
  rintro e' w' ⟨⟨wv, rfl, ho⟩, hb⟩
  have H' := Hp.rowOf H hb ho
  clear ho hb
  obtain ⟨A1, c1, rfl⟩ := own_form (ownsOf H' 0 rfl)
  ((try simp only [List.set_cons_zero, List.set_cons_succ, List.setIfInBounds_toArray] at H'); clear C H; have H := H'; clear H'; have C := Hp.facts H; simp only [Facts, factsL, and_true, true_and, List.set_cons_zero, List.set_cons_succ, List.setIfInBounds_toArray] at C)
  (repeat' ((fail_if_success (with_reducible show bodyPost _ _ _ _ _ _)); first | ((with_reducible refine Hp.abs_alloc H ?_); intro b' w' H' hb'; (try simp only [hb']); clear hb'; ((try simp only [List.set_cons_zero, List.set_cons_succ, List.setIfInBounds_toArray] at H'); clear C H; have H := H'; clear H'; have C := Hp.facts H; simp only [Facts, factsL, and_true, true_and, List.set_cons_zero, List.set_cons_succ, List.setIfInBounds_toArray] at C)) | ((with_reducible show wpList _ _ _ _ _ (World.setCell _ _ _)); first | ((with_reducible apply Hp.abs_gen H); (repeat (with_reducible apply Hp.set' 0)); (with_reducible exact H); (repeat rfl); intro w' H'; ((try simp only [List.set_cons_zero, List.set_cons_succ, List.setIfInBounds_toArray] at H'); clear C H; have H := H'; clear H'; have C := Hp.facts H; simp only [Facts, factsL, and_true, true_and, List.set_cons_zero, List.set_cons_succ, List.setIfInBounds_toArray] at C)) | ((with_reducible apply Hp.abs_gen H); (repeat (with_reducible apply Hp.set' 1)); (with_reducible exact H); (repeat rfl); intro w' H'; ((try simp only [List.set_cons_zero, List.set_cons_succ, List.setIfInBounds_toArray] at H'); clear C H; have H := H'; clear H'; have C := Hp.facts H; simp only [Facts, factsL, and_true, true_and, List.set_cons_zero, List.set_cons_succ, List.setIfInBounds_toArray] at C)) | ((with_reducible apply Hp.abs_gen H); (repeat (with_reducible apply Hp.set' 2)); (with_reducible exact H); (repeat rfl); intro w' H'; ((try simp only [List.set_cons_zero, List.set_cons_succ, List.setIfInBounds_toArray] at H'); clear C H; have H := H'; clear H'; have C := Hp.facts H; simp only [Facts, factsL, and_true, true_and, List.set_cons_zero, List.set_cons_succ, List.setIfInBounds_toArray] at C)) | ((with_reducible apply Hp.abs_gen H); (repeat (with_reducible apply Hp.set' 3)); (with_reducible exact H); (repeat rfl); intro w' H'; ((try simp only [List.set_cons_zero, List.set_cons_succ, List.setIfInBounds_toArray] at H'); clear C H; have H := H'; clear H'; have C := Hp.facts H; simp only [Facts, factsL, and_true, true_and, List.set_cons_zero, List.set_cons_succ, List.setIfInBounds_toArray] at C)) | ((with_reducible apply Hp.abs_gen H); (repeat (with_reducible apply Hp.set' 4)); (with_reducible exact H); (repeat rfl); intro w' H'; ((try simp only [List.set_cons_zero, List.set_cons_succ, List.setIfInBounds_toArray] at H'); clear C H; have H := H'; clear H'; have C := Hp.facts H; simp only [Facts, factsL, and_true, true_and, List.set_cons_zero, List.set_cons_succ, List.setIfInBounds_toArray] at C)) | ((with_reducible apply Hp.abs_gen H); (repeat (with_reducible apply Hp.set' 5)); (with_reducible exact H); (repeat rfl); intro w' H'; ((try simp only [List.set_cons_zero, List.set_cons_succ, List.setIfInBounds_toArray] at H'); clear C H; have H := H'; clear H'; have C := Hp.facts H; simp only [Facts, factsL, and_true, true_and, List.set_cons_zero, List.set_cons_succ, List.setIfInBounds_toArray] at C)) | ((with_reducible apply Hp.abs_gen H); (repeat (with_reducible apply Hp.set' 6)); (with_reducible exact H); (repeat rfl); intro w' H'; ((try simp only [List.set_cons_zero, List.set_cons_succ, List.setIfInBounds_toArray] at H'); clear C H; have H := H'; clear H'; have C := Hp.facts H; simp only [Facts, factsL, and_true, true_and, List.set_cons_zero, List.set_cons_succ, List.setIfInBounds_toArray] at C)) | ((with_reducible apply Hp.abs_gen H); (repeat (with_reducible apply Hp.set' 7)); (with_reducible exact H); (repeat rfl); intro w' H'; ((try simp only [List.set_cons_zero, List.set_cons_succ, List.setIfInBounds_toArray] at H'); clear C H; have H := H'; clear H'; have C := Hp.facts H; simp only [Facts, factsL, and_true, true_and, List.set_cons_zero, List.set_cons_succ, List.setIfInBounds_toArray] at C))) | go_values | go_skip | go_guarded | go_step | go_upon | go_back | (simp only [Int.not_lt, Int.not_le] at *; go_simp) | (go_values <;> (try go_simp)) | (go_ite <;> go_prune <;> (try go_simp)) | (split <;> (first | (rename_i hx; exact (hx _ rfl).elim) | go_prune))))
  refine (new_any L _ _ (H.bs hB) (by omega)).mono ?_
  rintro e' w' ⟨⟨q, vq, rfl, hc⟩, hb⟩
  have H' := hc.hp H hb
  clear hc hb
  obtain ⟨A2, c2, rfl⟩ := own_form (ownsOf H' 1 rfl)
  ((try simp only [List.set_cons_zero, List.set_cons_succ, List.setIfInBounds_toArray] at H'); clear C H; have H := H'; clear H'; have C := Hp.facts H; simp only [Facts, factsL, and_true, true_and, List.set_cons_zero, List.set_cons_succ, List.setIfInBounds_toArray] at C)
  (repeat' ((fail_if_success (with_reducible show bodyPost _ _ _ _ _ _)); first | ((with_reducible refine Hp.abs_alloc H ?_); intro b' w' H' hb'; (try simp only [hb']); clear hb'; ((try simp only [List.set_cons_zero, List.set_cons_succ, List.setIfInBounds_toArray] at H'); clear C H; have H := H'; clear H'; have C := Hp.facts H; simp only [Facts, factsL, and_true, true_and, List.set_cons_zero, List.set_cons_succ, List.setIfInBounds_toArray] at C)) | ((with_reducible show wpList _ _ _ _ _ (World.setCell _ _ _)); first | ((with_reducible apply Hp.abs_gen H); (repeat (with_reducible apply Hp.set' 0)); (with_reducible exact H); (repeat rfl); intro w' H'; ((try simp only [List.set_cons_zero, List.set_cons_succ, List.setIfInBounds_toArray] at H'); clear C H; have H := H'; clear H'; have C := Hp.facts H; simp only [Facts, factsL, and_true, true_and, List.set_cons_zero, List.set_cons_succ, List.setIfInBounds_toArray] at C)) | ((with_reducible apply Hp.abs_gen H); (repeat (with_reducible apply Hp.set' 1)); (with_reducible exact H); (repeat rfl); intro w' H'; ((try simp only [List.set_cons_zero, List.set_cons_succ, List.setIfInBounds_toArray] at H'); clear C H; have H := H'; clear H'; have C := Hp.facts H; simp only [Facts, factsL, and_true, true_and, List.set_cons_zero, List.set_cons_succ, List.setIfInBounds_toArray] at C)) | ((with_reducible apply Hp.abs_gen H); (repeat (with_reducible apply Hp.set' 2)); (with_reducible exact H); (repeat rfl); intro w' H'; ((try simp only [List.set_cons_zero, List.set_cons_succ, List.setIfInBounds_toArray] at H'); clear C H; have H := H'; clear H'; have C := Hp.facts H; simp only [Facts, factsL, and_true, true_and, List.set_cons_zero, List.set_cons_succ, List.setIfInBounds_toArray] at C)) | ((with_reducible apply Hp.abs_gen H); (repeat (with_reducible apply Hp.set' 3)); (with_reducible exact H); (repeat rfl); intro w' H'; ((try simp only [List.set_cons_zero, List.set_cons_succ, List.setIfInBounds_toArray] at H'); clear C H; have H := H'; clear H'; have C := Hp.facts H; simp only [Facts, factsL, and_true, true_and, List.set_cons_zero, List.set_cons_succ, List.setIfInBounds_toArray] at C)) | ((with_reducible apply Hp.abs_gen H); (repeat (with_reducible apply Hp.set' 4)); (with_reducible exact H); (repeat rfl); intro w' H'; ((try simp only [List.set_cons_zero, List.set_cons_succ, List.setIfInBounds_toArray] at H'); clear C H; have H := H'; clear H'; have C := Hp.facts H; simp only [Facts, factsL, and_true, true_and, List.set_cons_zero, List.set_cons_succ, List.setIfInBounds_toArray] at C)) | ((with_reducible apply Hp.abs_gen H); (repeat (with_reducible apply Hp.set' 5)); (with_reducible exact H); (repeat rfl); intro w' H'; ((try simp only [List.set_cons_zero, List.set_cons_succ, List.setIfInBounds_toArray] at H'); clear C H; have H := H'; clear H'; have C := Hp.facts H; simp only [Facts, factsL, and_true, true_and, List.set_cons_zero, List.set_cons_succ, List.setIfInBounds_toArray] at C)) | ((with_reducible apply Hp.abs_gen H); (repeat (with_reducible apply Hp.set' 6)); (with_reducible exact H); (repeat rfl); intro w' H'; ((try simp only [List.set_cons_zero, List.set_cons_succ, List.setIfInBounds_toArray] at H'); clear C H; have H := H'; clear H'; have C := Hp.facts H; simp only [Facts, factsL, and_true, true_and, List.set_cons_zero, List.set_cons_succ, List.setIfInBounds_toArray] at C)) | ((with_reducible apply Hp.abs_gen H); (repeat (with_reducible apply Hp.set' 7)); (with_reducible exact H); (repeat rfl); intro w' H'; ((try simp only [List.set_cons_zero, List.set_cons_succ, List.setIfInBounds_toArray] at H'); clear C H; have H := H'; clear H'; have C := Hp.facts H; simp only [Facts, factsL, and_true, true_and, List.set_cons_zero, List.set_cons_succ, List.setIfInBounds_toArray] at C))) | go_values | go_skip | go_guarded | go_step | go_upon | go_back | (simp only [Int.not_lt, Int.not_le] at *; go_simp) | (go_values <;> (try go_simp)) | (go_ite <;> go_prune <;> (try go_simp)) | (split <;> (first | (rename_i hx; exact (hx _ rfl).elim) | go_prune))))
  have H' := (Hp.sel H [0, 3, 1, 2] (by decide) : Hp w [_, _, _, _] _)
  ((try simp only [List.set_cons_zero, List.set_cons_succ, List.setIfInBounds_toArray] at H'); clear C H; have H := H'; clear H'; have C := Hp.facts H; simp only [Facts, factsL, and_true, true_and, List.set_cons_zero, List.set_cons_succ, List.setIfInBounds_toArray] at C)
  go_loopw [8] (fun ix wr => PlaysRel w L b' q (.slice A1 L.length c1) (.slice A2 L.length c2) zs.length ix wr) (fun ix _ => 200 - (intOf ix).toNat)
  case atStart => exact ⟨0, 0, Nat.zero_le _, Nat.zero_le _, Nat.zero_le _, rfl, H⟩
  case round =>
    clear H C
    obtain ⟨i, k, hk, hi1, hi2, rfl, H⟩ := hrel
    have C := Hp.facts H
    simp only [Facts, factsL, and_true, true_and, List.set_cons_zero, List.set_cons_succ, List.setIfInBounds_toArray] at C
    by_cases hlt : i < zs.length
    · by_cases h50 : i < 200
      · obtain ⟨b0, o0, rfl, hbl, hcz⟩ := hz4 (by omega)
        obtain ⟨z1, z2, hz0, hz0'⟩ : ∃ z1 z2, w.cell? ⟨b0, o0 + i * 2, none⟩ = some (.int .i64 z1) ∧ w.cell? ⟨b0, o0 + i * 2 + 1, none⟩ = some (.int .i64 z2) := ⟨_, _, hcz i hlt⟩
        clear hcz hz4
        obtain ⟨r, hr, hr2⟩ := modU z1 8 (by omega) (by omega)
        have hr8 : r < 8 := by omega
        have gr := Lib.hid hr
        clear hr hr2
        (repeat' ((fail_if_success (with_reducible show bodyPost _ _ _ _ _ _)); first | ((with_reducible refine Hp.abs_alloc H ?_); intro b' w' H' hb'; (try simp only [hb']); clear hb'; ((try simp only [List.set_cons_zero, List.set_cons_succ, List.setIfInBounds_toArray] at H'); clear C H; have H := H'; clear H'; have C := Hp.facts H; simp only [Facts, factsL, and_true, true_and, List.set_cons_zero, List.set_cons_succ, List.setIfInBounds_toArray] at C)) | ((with_reducible show wpList _ _ _ _ _ (World.setCell _ _ _)); first | ((with_reducible apply Hp.abs_gen H); (repeat (with_reducible apply Hp.set' 0)); (with_reducible exact H); (repeat rfl); intro w' H'; ((try simp only [List.set_cons_zero, List.set_cons_succ, List.setIfInBounds_toArray] at H'); clear C H; have H := H'; clear H'; have C := Hp.facts H; simp only [Facts, factsL, and_true, true_and, List.set_cons_zero, List.set_cons_succ, List.setIfInBounds_toArray] at C)) | ((with_reducible apply Hp.abs_gen H); (repeat (with_reducible apply Hp.set' 1)); (with_reducible exact H); (repeat rfl); intro w' H'; ((try simp only [List.set_cons_zero, List.set_cons_succ, List.setIfInBounds_toArray] at H'); clear C H; have H := H'; clear H'; have C := Hp.facts H; simp only [Facts, factsL, and_true, true_and, List.set_cons_zero, List.set_cons_succ, List.setIfInBounds_toArray] at C)) | ((with_reducible apply Hp.abs_gen H); (repeat (with_reducible apply Hp.set' 2)); (with_reducible exact H); (repeat rfl); intro w' H'; ((try simp only [List.set_cons_zero, List.set_cons_succ, List.setIfInBounds_toArray] at H'); clear C H; have H := H'; clear H'; have C := Hp.facts H; simp only [Facts, factsL, and_true, true_and, List.set_cons_zero, List.set_cons_succ, List.setIfInBounds_toArray] at C)) | ((with_reducible apply Hp.abs_gen H); (repeat (with_reducible apply Hp.set' 3)); (with_reducible exact H); (repeat rfl); intro w' H'; ((try simp only [List.set_cons_zero, List.set_cons_succ, List.setIfInBounds_toArray] at H'); clear C H; have H := H'; clear H'; have C := Hp.facts H; simp only [Facts, factsL, and_true, true_and, List.set_cons_zero, List.set_cons_succ, List.setIfInBounds_toArray] at C)) | ((with_reducible apply Hp.abs_gen H); (repeat (with_reducible apply Hp.set' 4)); (with_reducible exact H); (repeat rfl); intro w' H'; ((try simp only [List.set_cons_zero, List.set_cons_succ, List.setIfInBounds_toArray] at H'); clear C H; have H := H'; clear H'; have C := Hp.facts H; simp only [Facts, factsL, and_true, true_and, List.set_cons_zero, List.set_cons_succ, List.setIfInBounds_toArray] at C)) | ((with_reducible apply Hp.abs_gen H); (repeat (with_reducible apply Hp.set' 5)); (with_reducible exact H); (repeat rfl); intro w' H'; ((try simp only [List.set_cons_zero, List.set_cons_succ, List.setIfInBounds_toArray] at H'); clear C H; have H := H'; clear H'; have C := Hp.facts H; simp only [Facts, factsL, and_true, true_and, List.set_cons_zero, List.set_cons_succ, List.setIfInBounds_toArray] at C)) | ((with_reducible apply Hp.abs_gen H); (repeat (with_reducible apply Hp.set' 6)); (with_reducible exact H); (repeat rfl); intro w' H'; ((try simp only [List.set_cons_zero, List.set_cons_succ, List.setIfInBounds_toArray] at H'); clear C H; have H := H'; clear H'; have C := Hp.facts H; simp only [Facts, factsL, and_true, true_and, List.set_cons_zero, List.set_cons_succ, List.setIfInBounds_toArray] at C)) | ((with_reducible apply Hp.abs_gen H); (repeat (with_reducible apply Hp.set' 7)); (with_reducible exact H); (repeat rfl); intro w' H'; ((try simp only [List.set_cons_zero, List.set_cons_succ, List.setIfInBounds_toArray] at H'); clear C H; have H := H'; clear H'; have C := Hp.facts H; simp only [Facts, factsL, and_true, true_and, List.set_cons_zero, List.set_cons_succ, List.setIfInBounds_toArray] at C))) | go_values | go_skip | go_guarded | go_step | go_upon | go_back | (simp only [Int.not_lt, Int.not_le] at *; go_simp) | (go_values <;> (try go_simp)) | (go_ite <;> go_prune <;> (try go_simp)) | (split <;> (first | (rename_i hx; exact (hx _ rfl).elim) | go_prune))))
        simp only [show decide ((i : Int) < 200) = true by simp; omega]
        obtain ⟨wR8, rfl⟩ := Hp.nameW H
        apply region_n (frm wR8.heap.size (fun _ => Hp _ _)) (frm_ok ?hfs_1) frm_sz [] [.light 0 0, .light 0 0, .light 0 0, .light 0 0, .light 0 0, .light 0 0, .light 0 0, .light 0 0, .light 0 0, .light 0 0, .light 0 0, .light 0 0, .light 0 0, .light 0 0, .light 0 0] [false, false, false, false, false, false, false, false, false, false, false, false, false, false, true] 15 95 [15, 15, 15, 15, 15, 15, 15, 15, 15, 15, 15, 15, 15, 15, 15] [some 32, some 33, some 34, some 35, some 36, some 37, some 38, some 39, some 40, some 41, some 42, some 43, some 44, some 45, some 9] [[], [], [0, 1], [2], [3], [4], [5], [6], [], [], [8, 9], [10], [11], [7, 12], []] [Eq1 _, Eq1 _, Eq1 _, Eq1 _, Eq1 _, Eq1 _, Eq1 _, Eq1 (.int .i64 (r : Int)), Eq1 _, Eq1 _, Eq1 _, Eq1 _, Eq1 _, Eq1 _, NewPt wR8.heap.size _ _] ?hq1_1 ?hq2_1 ?hq3_1 ?hq4_1 ?hq5_1 ?hq6_1 _ ?hA_1 ?hst_1 ?h0_1 ?hsteps_1 ?hend_1
        case hq1_1 => kernel_rfl
        case hq2_1 => kernel_rfl
        case hq3_1 => kernel_rfl
        case hq5_1 => kernel_rfl
        case hq4_1 => rfl
        case hq6_1 => rfl
        case hA_1 => intro vs; simp only [fillD, Nat.reduceAdd, Act.put, List.setIfInBounds_toArray, List.set_cons_zero, List.set_cons_succ]; rfl
        case h0_1 => exact H.drew
        case hfs_1 => exact fun _ _ _ hb h => Hp.step h hb
        case hsteps_1 =>
          refine ⟨?_, ?_, ?_, ?_, ?_, ?_, ?_, ?_, ?_, ?_, ?_, ?_, ?_, ?_, ?_, trivial⟩
          · intro p vs w' K hJ hp1 hp2 hS hR hK
            rw [if_pos (by rfl)]
            go_step
            exact hK.out _ _ (Below.refl _ _) Eq1.mk Fresh.no
          · intro p vs w' K hJ hp1 hp2 hS hR hK
            rw [if_pos (by rfl)]
            go_step
            exact hK.out _ _ (Below.refl _ _) Eq1.mk Fresh.no
          · intro p vs w' K hJ hp1 hp2 hS hR hK
            simp only [DepJ, List.getD_cons_zero, List.getD_cons_succ] at hJ
            obtain ⟨j0, j1, -⟩ := hJ
            have j0 := Eq1.out j0
            have j1 := Eq1.out j1
            simp only [j0, j1] at hK ⊢
            rw [if_pos (by rfl)]
            have C := Hp.facts hS
            simp only [Facts, factsL, and_true, true_and, List.set_cons_zero, List.set_cons_succ, List.setIfInBounds_toArray] at C
            have hsz := hR.1
            go_step
            exact hK.out _ _ (Below.refl _ _) Eq1.mk Fresh.no
          · intro p vs w' K hJ hp1 hp2 hS hR hK
            simp only [DepJ, List.getD_cons_zero, List.getD_cons_succ] at hJ
            obtain ⟨j2, -⟩ := hJ
            have j2 := Eq1.out j2
            simp only [j2] at hK ⊢
            rw [if_pos (by rfl)]
            go_step
            exact hK.out _ _ (Below.refl _ _) Eq1.mk Fresh.no
          · intro p vs w' K hJ hp1 hp2 hS hR hK
            simp only [DepJ, List.getD_cons_zero, List.getD_cons_succ] at hJ
            obtain ⟨j3, -⟩ := hJ
            have j3 := Eq1.out j3
            simp only [j3] at hK ⊢
            rw [if_pos (by rfl)]
            have C := Hp.facts hS
            simp only [Facts, factsL, and_true, true_and, List.set_cons_zero, List.set_cons_succ, List.setIfInBounds_toArray] at C
            have hsz := hR.1
            have hq := hz0
            go_step
            exact hK.out _ _ (Below.refl _ _) Eq1.mk Fresh.no
          · intro p vs w' K hJ hp1 hp2 hS hR hK
            simp only [DepJ, List.getD_cons_zero, List.getD_cons_succ] at hJ
            obtain ⟨j4, -⟩ := hJ
            have j4 := Eq1.out j4
            simp only [j4] at hK ⊢
            rw [if_pos (by rfl)]
            go_step
            exact hK.out _ _ (Below.refl _ _) Eq1.mk Fresh.no
          · intro p vs w' K hJ hp1 hp2 hS hR hK
            simp only [DepJ, List.getD_cons_zero, List.getD_cons_succ] at hJ
            obtain ⟨j5, -⟩ := hJ
            have j5 := Eq1.out j5
            simp only [j5] at hK ⊢
            rw [if_pos (by rfl)]
            go_step
            exact hK.out _ _ (Below.refl _ _) Eq1.mk Fresh.no
          · intro p vs w' K hJ hp1 hp2 hS hR hK
            simp only [DepJ, List.getD_cons_zero, List.getD_cons_succ] at hJ
            obtain ⟨j6, -⟩ := hJ
            have j6 := Eq1.out j6
            simp only [j6] at hK ⊢
            rw [if_pos (by rfl)]
            go_step
            exact hK.out _ _ (Below.refl _ _) (Eq1.of (by rw [gr.out])) Fresh.no
          · intro p vs w' K hJ hp1 hp2 hS hR hK
            rw [if_pos (by rfl)]
            go_step
            exact hK.out _ _ (Below.refl _ _) Eq1.mk Fresh.no
          · intro p vs w' K hJ hp1 hp2 hS hR hK
            rw [if_pos (by rfl)]
            go_step
            exact hK.out _ _ (Below.refl _ _) Eq1.mk Fresh.no
          · intro p vs w' K hJ hp1 hp2 hS hR hK
            simp only [DepJ, List.getD_cons_zero, List.getD_cons_succ] at hJ
            obtain ⟨j8, j9, -⟩ := hJ
            have j8 := Eq1.out j8
            have j9 := Eq1.out j9
            simp only [j8, j9] at hK ⊢
            rw [if_pos (by rfl)]
            have C := Hp.facts hS
            simp only [Facts, factsL, and_true, true_and, List.set_cons_zero, List.set_cons_succ, List.setIfInBounds_toArray] at C
            have hsz := hR.1
            go_step
            exact hK.out _ _ (Below.refl _ _) Eq1.mk Fresh.no
          · intro p vs w' K hJ hp1 hp2 hS hR hK
            simp only [DepJ, List.getD_cons_zero, List.getD_cons_succ] at hJ
            obtain ⟨j10, -⟩ := hJ
            have j10 := Eq1.out j10
            simp only [j10] at hK ⊢
            rw [if_pos (by rfl)]
            go_step
            exact hK.out _ _ (Below.refl _ _) Eq1.mk Fresh.no
          · intro p vs w' K hJ hp1 hp2 hS hR hK
            simp only [DepJ, List.getD_cons_zero, List.getD_cons_succ] at hJ
            obtain ⟨j11, -⟩ := hJ
            have j11 := Eq1.out j11
            simp only [j11] at hK ⊢
            rw [if_pos (by rfl)]
            have C := Hp.facts hS
            simp only [Facts, factsL, and_true, true_and, List.set_cons_zero, List.set_cons_succ, List.setIfInBounds_toArray] at C
            have hsz := hR.1
            have hq := hz0'
            go_step
            exact hK.out _ _ (Below.refl _ _) Eq1.mk Fresh.no
          · intro p vs w' K hJ hp1 hp2 hS hR hK
            simp only [DepJ, List.getD_cons_zero, List.getD_cons_succ] at hJ
            obtain ⟨j7, j12, -⟩ := hJ
            have j7 := Eq1.out j7
            have j12 := Eq1.out j12
            simp only [j7, j12] at hK ⊢
            rw [if_pos (by rfl)]
            go_step
            exact hK.out _ _ (Below.refl _ _) Eq1.mk Fresh.no
          · intro p vs w' K hJ hp1 hp2 hS hR hK
            rw [if_pos (by rfl)]
            go_step
            exact hK.out _ _ ((Below.refl _ _).alloc (Nat.le_refl _) _) (NewPt.mk _ _ _ _ hR.1) Fresh.pt
        case hst_1 => refine ⟨fun _ _ _ _ h => h, fun _ _ _ _ h => h, fun _ _ _ _ h => h, fun _ _ _ _ h => h, fun _ _ _ _ h => h, fun _ _ _ _ h => h, fun _ _ _ _ h => h, fun _ _ _ _ h => h, fun _ _ _ _ h => h, fun _ _ _ _ h => h, fun _ _ _ _ h => h, fun _ _ _ _ h => h, fun _ _ _ _ h => h, fun _ _ _ _ h => h, fun _ _ _ hs h => NewPt.stayR hs h, trivial⟩
        intro vs w' hJ hD hS hR
        simp only [AllJ, Nat.reduceAdd] at hJ
        obtain ⟨v0, v1, v2, v3, v4, v5, v6, v7, v8, v9, v10, v11, v12, v13, v14, -⟩ := hJ
        clear C
        replace v0 := Eq1.out v0
        replace v1 := Eq1.out v1
        replace v2 := Eq1.out v2
        replace v3 := Eq1.out v3
        replace v4 := Eq1.out v4
        replace v5 := Eq1.out v5
        replace v6 := Eq1.out v6
        replace v7 := Eq1.out v7
        replace v8 := Eq1.out v8
        replace v9 := Eq1.out v9
        replace v10 := Eq1.out v10
        replace v11 := Eq1.out v11
        replace v12 := Eq1.out v12
        replace v13 := Eq1.out v13
        obtain ⟨k14, e14, hB14, hh14⟩ := v14
        simp only [v0, v1, v2, v3, v4, v5, v6, v7, v8, v9, v10, v11, v12, v13, e14, List.drop_succ_cons, List.drop_zero]
        replace hS : Hp _ _ _ := hS
        have H' := Hp.adopts hS H.low.size (fun k hk => Hp.lows H k hk) [.blk k14 _ _] (by intro x hx; simp only [List.mem_cons, List.not_mem_nil, or_false] at hx; subst hx; exact ⟨hh14, hB14⟩) (nodup1 _)
        simp only [List.cons_append, List.nil_append] at H'
        clear hD hR hS v0 v1 v2 v3 v4 v5 v6 v7 v8 v9 v10 v11 v12 v13
        clear e14 hB14 hh14
        clear vs H
        have H := H'; clear H'; have C := Hp.facts H; simp only [Facts, factsL, and_true, true_and, List.set_cons_zero, List.set_cons_succ, List.setIfInBounds_toArray] at C
        (repeat' ((fail_if_success (with_reducible show bodyPost _ _ _ _ _ _)); first | ((with_reducible refine Hp.abs_alloc H ?_); intro b' w' H' hb'; (try simp only [hb']); clear hb'; ((try simp only [List.set_cons_zero, List.set_cons_succ, List.setIfInBounds_toArray] at H'); clear C H; have H := H'; clear H'; have C := Hp.facts H; simp only [Facts, factsL, and_true, true_and, List.set_cons_zero, List.set_cons_succ, List.setIfInBounds_toArray] at C)) | ((with_reducible show wpList _ _ _ _ _ (World.setCell _ _ _)); first | ((with_reducible apply Hp.abs_gen H); (repeat (with_reducible apply Hp.set' 0)); (with_reducible exact H); (repeat rfl); intro w' H'; ((try simp only [List.set_cons_zero, List.set_cons_succ, List.setIfInBounds_toArray] at H'); clear C H; have H := H'; clear H'; have C := Hp.facts H; simp only [Facts, factsL, and_true, true_and, List.set_cons_zero, List.set_cons_succ, List.setIfInBounds_toArray] at C)) | ((with_reducible apply Hp.abs_gen H); (repeat (with_reducible apply Hp.set' 1)); (with_reducible exact H); (repeat rfl); intro w' H'; ((try simp only [List.set_cons_zero, List.set_cons_succ, List.setIfInBounds_toArray] at H'); clear C H; have H := H'; clear H'; have C := Hp.facts H; simp only [Facts, factsL, and_true, true_and, List.set_cons_zero, List.set_cons_succ, List.setIfInBounds_toArray] at C)) | ((with_reducible apply Hp.abs_gen H); (repeat (with_reducible apply Hp.set' 2)); (with_reducible exact H); (repeat rfl); intro w' H'; ((try simp only [List.set_cons_zero, List.set_cons_succ, List.setIfInBounds_toArray] at H'); clear C H; have H := H'; clear H'; have C := Hp.facts H; simp only [Facts, factsL, and_true, true_and, List.set_cons_zero, List.set_cons_succ, List.setIfInBounds_toArray] at C)) | ((with_reducible apply Hp.abs_gen H); (repeat (with_reducible apply Hp.set' 3)); (with_reducible exact H); (repeat rfl); intro w' H'; ((try simp only [List.set_cons_zero, List.set_cons_succ, List.setIfInBounds_toArray] at H'); clear C H; have H := H'; clear H'; have C := Hp.facts H; simp only [Facts, factsL, and_true, true_and, List.set_cons_zero, List.set_cons_succ, List.setIfInBounds_toArray] at C)) | ((with_reducible apply Hp.abs_gen H); (repeat (with_reducible apply Hp.set' 4)); (with_reducible exact H); (repeat rfl); intro w' H'; ((try simp only [List.set_cons_zero, List.set_cons_succ, List.setIfInBounds_toArray] at H'); clear C H; have H := H'; clear H'; have C := Hp.facts H; simp only [Facts, factsL, and_true, true_and, List.set_cons_zero, List.set_cons_succ, List.setIfInBounds_toArray] at C)) | ((with_reducible apply Hp.abs_gen H); (repeat (with_reducible apply Hp.set' 5)); (with_reducible exact H); (repeat rfl); intro w' H'; ((try simp only [List.set_cons_zero, List.set_cons_succ, List.setIfInBounds_toArray] at H'); clear C H; have H := H'; clear H'; have C := Hp.facts H; simp only [Facts, factsL, and_true, true_and, List.set_cons_zero, List.set_cons_succ, List.setIfInBounds_toArray] at C)) | ((with_reducible apply Hp.abs_gen H); (repeat (with_reducible apply Hp.set' 6)); (with_reducible exact H); (repeat rfl); intro w' H'; ((try simp only [List.set_cons_zero, List.set_cons_succ, List.setIfInBounds_toArray] at H'); clear C H; have H := H'; clear H'; have C := Hp.facts H; simp only [Facts, factsL, and_true, true_and, List.set_cons_zero, List.set_cons_succ, List.setIfInBounds_toArray] at C)) | ((with_reducible apply Hp.abs_gen H); (repeat (with_reducible apply Hp.set' 7)); (with_reducible exact H); (repeat rfl); intro w' H'; ((try simp only [List.set_cons_zero, List.set_cons_succ, List.setIfInBounds_toArray] at H'); clear C H; have H := H'; clear H'; have C := Hp.facts H; simp only [Facts, factsL, and_true, true_and, List.set_cons_zero, List.set_cons_succ, List.setIfInBounds_toArray] at C))) | go_values | go_skip | go_guarded | go_step | go_upon | go_back | (simp only [Int.not_lt, Int.not_le] at *; go_simp) | (go_values <;> (try go_simp)) | (go_ite <;> go_prune <;> (try go_simp)) | (split <;> (first | (rename_i hx; exact (hx _ rfl).elim) | go_prune))))
        obtain ⟨R, hR⟩ : ∃ R, actR L k r z2 = R := ⟨_, rfl⟩
        obtain ⟨hRk, hRl⟩ := actR_le L k r z2 hk hr8
        rw [hR] at hRk hRl
        have hRk' := hRk
        have gR := Lib.hid hR
        clear hR
        obtain ⟨wR9, rfl⟩ := Hp.nameW H
        apply region_n (frm wR9.heap.size (fun p => match p with | 0 => Hp w [.blk k14 #[.int .i64 (r : Int), .int .i64 z2] 122, .blk b' #[.slice A1 L.length c1, .int .i64 (k : Int)] 120, .row 5 1 (.slice A1 L.length c1) L.length (L.map u8c), .blk q #[.slice A2 L.length c2, .int .i64 (k : Int)] 140, .row 5 1 (.slice A2 L.length c2) L.length (L.map u8c)] | 1 => Hp w [.blk k14 #[.int .i64 (r : Int), .int .i64 z2] 122, .blk b' #[.slice A1 L.length c1, .int .i64 (k : Int)] 120, .row 5 1 (.slice A1 L.length c1) L.length (L.map u8c), .blk q #[.slice A2 L.length c2, .int .i64 (R.2.2.2 : Int)] 140, .row 5 1 (.slice A2 L.length c2) L.length (L.map u8c)] | _ => Hp w [.blk k14 #[.int .i64 (r : Int), .int .i64 z2] 122, .blk b' #[.slice A1 L.length c1, .int .i64 (R.2.2.2 : Int)] 120, .row 5 1 (.slice A1 L.length c1) L.length (L.map u8c), .blk q #[.slice A2 L.length c2, .int .i64 (R.2.2.2 : Int)] 140, .row 5 1 (.slice A2 L.length c2) L.length (L.map u8c)])) (frm_ok ?hfs_2) frm_sz [2, 5] [.light 0 2, .light 0 2, .turns 0, .light 0 2, .light 0 2, .turns 1, .light 0 2, .light 0 2] [false, false, true, false, false, false, true, true] 8 95 [8, 8, 8, 5, 5, 8, 8, 8] [some 46, some 47, some 48, some 49, some 50, some 51, some 10, some 11] [[], [], [0, 1], [], [], [3, 4], [], []] [Eq1 _, Eq1 _, (fun v w' => ∃ u, v = .agg #[.int .i64 R.1, u, .int .i64 R.2.2.1] ∧ RowJ wR9.heap.size 5 R.2.1.length (R.2.1.map u8c) u w'), Eq1 _, Eq1 _, (fun v _ => ∃ u, v = .agg #[.int .i64 R.1, u, .int .i64 R.2.2.1] ∧ ∀ w, Bs w (.slice A1 L.length c1) L → Bs w u R.2.1), NewPt wR9.heap.size _ _, NewPt wR9.heap.size _ _] ?hq1_2 ?hq2_2 ?hq3_2 ?hq4_2 ?hq5_2 ?hq6_2 _ ?hA_2 ?hst_2 ?h0_2 ?hsteps_2 ?hend_2
        case hq1_2 => kernel_rfl
        case hq2_2 => kernel_rfl
        case hq3_2 => kernel_rfl
        case hq5_2 => kernel_rfl
        case hq4_2 => rfl
        case hq6_2 => rfl
        case hA_2 => intro vs; simp only [fillD, Nat.reduceAdd, Act.put, List.setIfInBounds_toArray, List.set_cons_zero, List.set_cons_succ]; rfl
        case h0_2 => exact H.drew
        case hfs_2 => intro p x y hb h; rcases p with _ | _ | _ <;> exact Hp.step h hb
        case hsteps_2 =>
          refine ⟨?_, ?_, ?_, ?_, ?_, ?_, ?_, ?_, trivial⟩
          · intro p vs w' K hJ hp1 hp2 hS hR hK
            rw [if_pos (by rfl)]
            go_step
            exact hK.out _ _ (Below.refl _ _) Eq1.mk Fresh.no
          · intro p vs w' K hJ hp1 hp2 hS hR hK
            rcases (by omega : p = 0 ∨ p = 1 ∨ p = 2) with rfl | rfl | rfl
            all_goals (
            rw [if_pos (by rfl)]
            have C := Hp.facts hS
            simp only [Facts, factsL, and_true, true_and, List.set_cons_zero, List.set_cons_succ, List.setIfInBounds_toArray] at C
            have hsz := hR.1
            go_step
            exact hK.out _ _ (Below.refl _ _) Eq1.mk Fresh.no
            )
          · intro vs w' K hJ hS hR hK
            simp only [DepJ, List.getD_cons_zero, List.getD_cons_succ] at hJ
            obtain ⟨j0, j1, -⟩ := hJ
            have j0 := Eq1.out j0
            have j1 := Eq1.out j1
            simp only [j0, j1] at hK ⊢
            rw [if_pos (by rfl)]
            replace hS : Hp _ _ _ := hS
            go_step
            refine (do_rel q L k _ r hr8 z2 _ (cur_hp hS 3 4 rfl rfl hk (by omega))).mono ?_
            rintro e' w'' ⟨v', rfl, ho, m⟩
            rw [gR.out] at ho m ⊢
            exact hK.out _ _ (AboveR.only m.only (H.lt 3 rfl)) (moved_hp hS 3 rfl m) ⟨v', rfl, RowJ.mk hR.1 ho⟩ (Fresh.agg1 ho)
          · intro p vs w' K hJ hp1 hp2 hS hR hK
            rw [if_pos (by rfl)]
            go_step
            exact hK.out _ _ (Below.refl _ _) Eq1.mk Fresh.no
          · intro p vs w' K hJ hp1 hp2 hS hR hK
            rcases (by omega : p = 0 ∨ p = 1 ∨ p = 2) with rfl | rfl | rfl
            all_goals (
            rw [if_pos (by rfl)]
            have C := Hp.facts hS
            simp only [Facts, factsL, and_true, true_and, List.set_cons_zero, List.set_cons_succ, List.setIfInBounds_toArray] at C
            have hsz := hR.1
            go_step
            exact hK.out _ _ (Below.refl _ _) Eq1.mk Fresh.no
            )
          · intro vs w' K hJ hS hR hK
            simp only [DepJ, List.getD_cons_zero, List.getD_cons_succ] at hJ
            obtain ⟨j3, j4, -⟩ := hJ
            have j3 := Eq1.out j3
            have j4 := Eq1.out j4
            simp only [j3, j4] at hK ⊢
            rw [if_pos (by rfl)]
            replace hS : Hp _ _ _ := hS
            go_step
            have hrc : RCur w' b' L k (.slice A1 L.length c1) := ⟨hS.get 1 rfl, Hp.row hS 2 rfl, hk, by omega⟩
            refine (rdo_rel b' L k _ r hr8 z2 _ hrc).mono ?_
            rintro e' w'' ⟨v', rfl, hv, ho, hb⟩
            rw [gR.out] at hv hb ⊢
            exact hK.out _ _ (AboveR.only ho (H.lt 1 rfl)) (hS.turn 1 rfl ho ⟨hb, (hS.ok _ (List.mem_of_getElem? (i := 1) rfl)).2⟩ fun _ hk => .inl hk) ⟨v', rfl, hv⟩ Fresh.no
          · intro p vs w' K hJ hp1 hp2 hS hR hK
            rw [if_pos (by rfl)]
            go_step
            exact hK.out _ _ ((Below.refl _ _).alloc (Nat.le_refl _) _) (NewPt.mk _ _ _ _ hR.1) Fresh.pt
          · intro p vs w' K hJ hp1 hp2 hS hR hK
            rw [if_pos (by rfl)]
            go_step
            exact hK.out _ _ ((Below.refl _ _).alloc (Nat.le_refl _) _) (NewPt.mk _ _ _ _ hR.1) Fresh.pt
        case hst_2 => refine ⟨fun _ _ _ _ h => h, fun _ _ _ _ h => h, fun _ _ _ hs ⟨u, e, h⟩ => ⟨u, e, RowJ.stay hs h⟩, fun _ _ _ _ h => h, fun _ _ _ _ h => h, fun _ _ _ _ h => h, fun _ _ _ hs h => NewPt.stayR hs h, fun _ _ _ hs h => NewPt.stayR hs h, trivial⟩
        intro vs w' hJ hD hS hR
        simp only [AllJ, Nat.reduceAdd] at hJ
        obtain ⟨v0, v1, v2, v3, v4, v5, v6, v7, -⟩ := hJ
        clear C
        replace v0 := Eq1.out v0
        replace v1 := Eq1.out v1
        replace v3 := Eq1.out v3
        replace v4 := Eq1.out v4
        obtain ⟨u2, e2, ho2⟩ := v2
        obtain ⟨u5, e5, ho5⟩ := v5
        obtain ⟨k6, e6, hB6, hh6⟩ := v6
        obtain ⟨k7, e7, hB7, hh7⟩ := v7
        simp only [v0, v1, v3, v4, e2, e5, e6, e7, List.drop_succ_cons, List.drop_zero]
        replace hS : Hp _ _ _ := hS
        have H' := Hp.adopts hS H.low.size (fun k hk => Hp.lows H k hk) [.blk k7 _ _, .blk k6 _ _, .row _ 1 u2 _ _] (by intro x hx; simp only [List.mem_cons, List.not_mem_nil, or_false] at hx; rcases hx with rfl | rfl | rfl; exact ⟨hh7, hB7⟩; exact ⟨hh6, hB6⟩; exact ho2) (nodup3 (fun k h1 h2 => hD 7 6 rfl rfl (by decide) k (by rw [e7]; simp only [Ent.fp, Option.some.injEq] at h1; subst h1; simp [vb, vb0]) (by rw [e6]; simp only [Ent.fp, Option.some.injEq] at h2; subst h2; simp [vb, vb0])) (fun k h1 h2 => hD 7 2 rfl rfl (by decide) k (by rw [e7]; simp only [Ent.fp, Option.some.injEq] at h1; subst h1; simp [vb, vb0]) (by rw [e2]; exact agg_vb1 h2)) (fun k h1 h2 => hD 6 2 rfl rfl (by decide) k (by rw [e6]; simp only [Ent.fp, Option.some.injEq] at h1; subst h1; simp [vb, vb0]) (by rw [e2]; exact agg_vb1 h2)))
        simp only [List.cons_append, List.nil_append] at H'
        clear hD hR hS v0 v1 v3 v4
        clear e7 hB7 hh7 e6 hB6 hh6
        clear ho2 e2
        clear e5
        clear vs H
        have H := H'; clear H'; have C := Hp.facts H; simp only [Facts, factsL, and_true, true_and, List.set_cons_zero, List.set_cons_succ, List.setIfInBounds_toArray] at C
        clear gr gR hz0 hz0' hbl hz3 hr8 hRk
        obtain ⟨N, bs, E, k'⟩ := R
        simp only at ho5 hRl hRk' H C ⊢
        obtain ⟨A3, c3, rfl⟩ := own_form (ownsOf H 2 rfl)
        obtain ⟨A5, c5, rfl, -⟩ := (ho5 _ (Hp.row H 5 rfl)).open
        (repeat' ((fail_if_success (with_reducible show bodyPost _ _ _ _ _ _)); first | ((with_reducible refine Hp.abs_alloc H ?_); intro b' w' H' hb'; (try simp only [hb']); clear hb'; ((try simp only [List.set_cons_zero, List.set_cons_succ, List.setIfInBounds_toArray] at H'); clear C H; have H := H'; clear H'; have C := Hp.facts H; simp only [Facts, factsL, and_true, true_and, List.set_cons_zero, List.set_cons_succ, List.setIfInBounds_toArray] at C)) | ((with_reducible show wpList _ _ _ _ _ (World.setCell _ _ _)); first | ((with_reducible apply Hp.abs_gen H); (repeat (with_reducible apply Hp.set' 0)); (with_reducible exact H); (repeat rfl); intro w' H'; ((try simp only [List.set_cons_zero, List.set_cons_succ, List.setIfInBounds_toArray] at H'); clear C H; have H := H'; clear H'; have C := Hp.facts H; simp only [Facts, factsL, and_true, true_and, List.set_cons_zero, List.set_cons_succ, List.setIfInBounds_toArray] at C)) | ((with_reducible apply Hp.abs_gen H); (repeat (with_reducible apply Hp.set' 1)); (with_reducible exact H); (repeat rfl); intro w' H'; ((try simp only [List.set_cons_zero, List.set_cons_succ, List.setIfInBounds_toArray] at H'); clear C H; have H := H'; clear H'; have C := Hp.facts H; simp only [Facts, factsL, and_true, true_and, List.set_cons_zero, List.set_cons_succ, List.setIfInBounds_toArray] at C)) | ((with_reducible apply Hp.abs_gen H); (repeat (with_reducible apply Hp.set' 2)); (with_reducible exact H); (repeat rfl); intro w' H'; ((try simp only [List.set_cons_zero, List.set_cons_succ, List.setIfInBounds_toArray] at H'); clear C H; have H := H'; clear H'; have C := Hp.facts H; simp only [Facts, factsL, and_true, true_and, List.set_cons_zero, List.set_cons_succ, List.setIfInBounds_toArray] at C)) | ((with_reducible apply Hp.abs_gen H); (repeat (with_reducible apply Hp.set' 3)); (with_reducible exact H); (repeat rfl); intro w' H'; ((try simp only [List.set_cons_zero, List.set_cons_succ, List.setIfInBounds_toArray] at H'); clear C H; have H := H'; clear H'; have C := Hp.facts H; simp only [Facts, factsL, and_true, true_and, List.set_cons_zero, List.set_cons_succ, List.setIfInBounds_toArray] at C)) | ((with_reducible apply Hp.abs_gen H); (repeat (with_reducible apply Hp.set' 4)); (with_reducible exact H); (repeat rfl); intro w' H'; ((try simp only [List.set_cons_zero, List.set_cons_succ, List.setIfInBounds_toArray] at H'); clear C H; have H := H'; clear H'; have C := Hp.facts H; simp only [Facts, factsL, and_true, true_and, List.set_cons_zero, List.set_cons_succ, List.setIfInBounds_toArray] at C)) | ((with_reducible apply Hp.abs_gen H); (repeat (with_reducible apply Hp.set' 5)); (with_reducible exact H); (repeat rfl); intro w' H'; ((try simp only [List.set_cons_zero, List.set_cons_succ, List.setIfInBounds_toArray] at H'); clear C H; have H := H'; clear H'; have C := Hp.facts H; simp only [Facts, factsL, and_true, true_and, List.set_cons_zero, List.set_cons_succ, List.setIfInBounds_toArray] at C)) | ((with_reducible apply Hp.abs_gen H); (repeat (with_reducible apply Hp.set' 6)); (with_reducible exact H); (repeat rfl); intro w' H'; ((try simp only [List.set_cons_zero, List.set_cons_succ, List.setIfInBounds_toArray] at H'); clear C H; have H := H'; clear H'; have C := Hp.facts H; simp only [Facts, factsL, and_true, true_and, List.set_cons_zero, List.set_cons_succ, List.setIfInBounds_toArray] at C)) | ((with_reducible apply Hp.abs_gen H); (repeat (with_reducible apply Hp.set' 7)); (with_reducible exact H); (repeat rfl); intro w' H'; ((try simp only [List.set_cons_zero, List.set_cons_succ, List.setIfInBounds_toArray] at H'); clear C H; have H := H'; clear H'; have C := Hp.facts H; simp only [Facts, factsL, and_true, true_and, List.set_cons_zero, List.set_cons_succ, List.setIfInBounds_toArray] at C))) | go_values | go_skip | go_guarded | go_step | go_upon | go_back | (simp only [Int.not_lt, Int.not_le] at *; go_simp) | (go_values <;> (try go_simp)) | (go_ite <;> go_prune <;> (try go_simp)) | (split <;> (first | (rename_i hx; exact (hx _ rfl).elim) | go_prune))))
        refine (same_any bs bs _ _ _ (Hp.row H 2 rfl) (ho5 _ (Hp.row H 5 rfl)) (by omega) (by omega)).mono ?_
        rintro e' w' ⟨rfl, hb'⟩
        rw [decide_eq_true (rfl : bs = bs)]
        (have H' := Hp.step H hb'; clear hb'; ((try simp only [List.set_cons_zero, List.set_cons_succ, List.setIfInBounds_toArray] at H'); clear C H; have H := H'; clear H'; have C := Hp.facts H; simp only [Facts, factsL, and_true, true_and, List.set_cons_zero, List.set_cons_succ, List.setIfInBounds_toArray] at C))
        (repeat' ((fail_if_success (with_reducible show bodyPost _ _ _ _ _ _)); first | ((with_reducible refine Hp.abs_alloc H ?_); intro b' w' H' hb'; (try simp only [hb']); clear hb'; ((try simp only [List.set_cons_zero, List.set_cons_succ, List.setIfInBounds_toArray] at H'); clear C H; have H := H'; clear H'; have C := Hp.facts H; simp only [Facts, factsL, and_true, true_and, List.set_cons_zero, List.set_cons_succ, List.setIfInBounds_toArray] at C)) | ((with_reducible show wpList _ _ _ _ _ (World.setCell _ _ _)); first | ((with_reducible apply Hp.abs_gen H); (repeat (with_reducible apply Hp.set' 0)); (with_reducible exact H); (repeat rfl); intro w' H'; ((try simp only [List.set_cons_zero, List.set_cons_succ, List.setIfInBounds_toArray] at H'); clear C H; have H := H'; clear H'; have C := Hp.facts H; simp only [Facts, factsL, and_true, true_and, List.set_cons_zero, List.set_cons_succ, List.setIfInBounds_toArray] at C)) | ((with_reducible apply Hp.abs_gen H); (repeat (with_reducible apply Hp.set' 1)); (with_reducible exact H); (repeat rfl); intro w' H'; ((try simp only [List.set_cons_zero, List.set_cons_succ, List.setIfInBounds_toArray] at H'); clear C H; have H := H'; clear H'; have C := Hp.facts H; simp only [Facts, factsL, and_true, true_and, List.set_cons_zero, List.set_cons_succ, List.setIfInBounds_toArray] at C)) | ((with_reducible apply Hp.abs_gen H); (repeat (with_reducible apply Hp.set' 2)); (with_reducible exact H); (repeat rfl); intro w' H'; ((try simp only [List.set_cons_zero, List.set_cons_succ, List.setIfInBounds_toArray] at H'); clear C H; have H := H'; clear H'; have C := Hp.facts H; simp only [Facts, factsL, and_true, true_and, List.set_cons_zero, List.set_cons_succ, List.setIfInBounds_toArray] at C)) | ((with_reducible apply Hp.abs_gen H); (repeat (with_reducible apply Hp.set' 3)); (with_reducible exact H); (repeat rfl); intro w' H'; ((try simp only [List.set_cons_zero, List.set_cons_succ, List.setIfInBounds_toArray] at H'); clear C H; have H := H'; clear H'; have C := Hp.facts H; simp only [Facts, factsL, and_true, true_and, List.set_cons_zero, List.set_cons_succ, List.setIfInBounds_toArray] at C)) | ((with_reducible apply Hp.abs_gen H); (repeat (with_reducible apply Hp.set' 4)); (with_reducible exact H); (repeat rfl); intro w' H'; ((try simp only [List.set_cons_zero, List.set_cons_succ, List.setIfInBounds_toArray] at H'); clear C H; have H := H'; clear H'; have C := Hp.facts H; simp only [Facts, factsL, and_true, true_and, List.set_cons_zero, List.set_cons_succ, List.setIfInBounds_toArray] at C)) | ((with_reducible apply Hp.abs_gen H); (repeat (with_reducible apply Hp.set' 5)); (with_reducible exact H); (repeat rfl); intro w' H'; ((try simp only [List.set_cons_zero, List.set_cons_succ, List.setIfInBounds_toArray] at H'); clear C H; have H := H'; clear H'; have C := Hp.facts H; simp only [Facts, factsL, and_true, true_and, List.set_cons_zero, List.set_cons_succ, List.setIfInBounds_toArray] at C)) | ((with_reducible apply Hp.abs_gen H); (repeat (with_reducible apply Hp.set' 6)); (with_reducible exact H); (repeat rfl); intro w' H'; ((try simp only [List.set_cons_zero, List.set_cons_succ, List.setIfInBounds_toArray] at H'); clear C H; have H := H'; clear H'; have C := Hp.facts H; simp only [Facts, factsL, and_true, true_and, List.set_cons_zero, List.set_cons_succ, List.setIfInBounds_toArray] at C)) | ((with_reducible apply Hp.abs_gen H); (repeat (with_reducible apply Hp.set' 7)); (with_reducible exact H); (repeat rfl); intro w' H'; ((try simp only [List.set_cons_zero, List.set_cons_succ, List.setIfInBounds_toArray] at H'); clear C H; have H := H'; clear H'; have C := Hp.facts H; simp only [Facts, factsL, and_true, true_and, List.set_cons_zero, List.set_cons_succ, List.setIfInBounds_toArray] at C))) | go_values | go_skip | go_guarded | go_step | go_upon | go_back | (simp only [Int.not_lt, Int.not_le] at *; go_simp) | (go_values <;> (try go_simp)) | (go_ite <;> go_prune <;> (try go_simp)) | (split <;> (first | (rename_i hx; exact (hx _ rfl).elim) | go_prune))))
        go_loopw [12] (fun jx wr => ∃ (j : Nat) (xs : List Value), j ≤ bs.length ∧ jx = .int .i64 j ∧ (∀ i, j ≤ i → xs[i]? = (bs.map u8c)[i]?) ∧ Hp w [.blk k7 #[.int .i64 N, .slice A5 bs.length c5, .int .i64 E] 124, .blk k6 #[.int .i64 N, .slice A3 bs.length c3, .int .i64 E] 124, .row 5 1 (.slice A3 bs.length c3) bs.length xs, .blk k14 #[.int .i64 (r : Int), .int .i64 z2] 122, .blk b' #[.slice A1 L.length c1, .int .i64 (k' : Int)] 120, .row 5 1 (.slice A1 L.length c1) L.length (L.map u8c), .blk q #[.slice A2 L.length c2, .int .i64 (k' : Int)] 140, .row 5 1 (.slice A2 L.length c2) L.length (L.map u8c)] wr) (fun jx _ => bs.length - (intOf jx).toNat)
        case atStart => exact ⟨0, _, Nat.zero_le _, rfl, fun _ _ => rfl, H⟩
        case round =>
          clear H C
          obtain ⟨j, xs, hj, rfl, hxs, H⟩ := hrel
          have C := Hp.facts H
          simp only [Facts, factsL, and_true, true_and, List.set_cons_zero, List.set_cons_succ, List.setIfInBounds_toArray] at C
          by_cases hjl : j < bs.length
          · obtain ⟨g, rfl⟩ : ∃ g, A3 = some ⟨g, 0, none⟩ := by
              rcases Hp.rowForm H 2 rfl with ⟨_, h0, _⟩ | ⟨g, c', e, _⟩
              · omega
              · injection e with e
                exact ⟨g, e⟩
            have hx := hxs j (Nat.le_refl _)
            rw [List.getElem?_map, List.getElem?_eq_getElem hjl] at hx
            generalize bs[j] = x at *
            have hx1 := x.toNat_lt
            have hx : xs[j]? = some (.int .u8 (x.toNat : Int)) := hx
            have hfr := (Hp.rowCell H 2 rfl).2.2.1
            (repeat' ((fail_if_success (with_reducible show bodyPost _ _ _ _ _ _)); first | ((with_reducible refine Hp.abs_alloc H ?_); intro b' w' H' hb'; (try simp only [hb']); clear hb'; ((try simp only [List.set_cons_zero, List.set_cons_succ, List.setIfInBounds_toArray] at H'); clear C H; have H := H'; clear H'; have C := Hp.facts H; simp only [Facts, factsL, and_true, true_and, List.set_cons_zero, List.set_cons_succ, List.setIfInBounds_toArray] at C)) | ((with_reducible show wpList _ _ _ _ _ (World.setCell _ _ _)); first | ((with_reducible apply Hp.abs_gen H); (repeat (with_reducible apply Hp.set' 0)); (with_reducible exact H); (repeat rfl); intro w' H'; ((try simp only [List.set_cons_zero, List.set_cons_succ, List.setIfInBounds_toArray] at H'); clear C H; have H := H'; clear H'; have C := Hp.facts H; simp only [Facts, factsL, and_true, true_and, List.set_cons_zero, List.set_cons_succ, List.setIfInBounds_toArray] at C)) | ((with_reducible apply Hp.abs_gen H); (repeat (with_reducible apply Hp.set' 1)); (with_reducible exact H); (repeat rfl); intro w' H'; ((try simp only [List.set_cons_zero, List.set_cons_succ, List.setIfInBounds_toArray] at H'); clear C H; have H := H'; clear H'; have C := Hp.facts H; simp only [Facts, factsL, and_true, true_and, List.set_cons_zero, List.set_cons_succ, List.setIfInBounds_toArray] at C)) | ((with_reducible apply Hp.abs_gen H); (repeat (with_reducible apply Hp.set' 2)); (with_reducible exact H); (repeat rfl); intro w' H'; ((try simp only [List.set_cons_zero, List.set_cons_succ, List.setIfInBounds_toArray] at H'); clear C H; have H := H'; clear H'; have C := Hp.facts H; simp only [Facts, factsL, and_true, true_and, List.set_cons_zero, List.set_cons_succ, List.setIfInBounds_toArray] at C)) | ((with_reducible apply Hp.abs_gen H); (repeat (with_reducible apply Hp.set' 3)); (with_reducible exact H); (repeat rfl); intro w' H'; ((try simp only [List.set_cons_zero, List.set_cons_succ, List.setIfInBounds_toArray] at H'); clear C H; have H := H'; clear H'; have C := Hp.facts H; simp only [Facts, factsL, and_true, true_and, List.set_cons_zero, List.set_cons_succ, List.setIfInBounds_toArray] at C)) | ((with_reducible apply Hp.abs_gen H); (repeat (with_reducible apply Hp.set' 4)); (with_reducible exact H); (repeat rfl); intro w' H'; ((try simp only [List.set_cons_zero, List.set_cons_succ, List.setIfInBounds_toArray] at H'); clear C H; have H := H'; clear H'; have C := Hp.facts H; simp only [Facts, factsL, and_true, true_and, List.set_cons_zero, List.set_cons_succ, List.setIfInBounds_toArray] at C)) | ((with_reducible apply Hp.abs_gen H); (repeat (with_reducible apply Hp.set' 5)); (with_reducible exact H); (repeat rfl); intro w' H'; ((try simp only [List.set_cons_zero, List.set_cons_succ, List.setIfInBounds_toArray] at H'); clear C H; have H := H'; clear H'; have C := Hp.facts H; simp only [Facts, factsL, and_true, true_and, List.set_cons_zero, List.set_cons_succ, List.setIfInBounds_toArray] at C)) | ((with_reducible apply Hp.abs_gen H); (repeat (with_reducible apply Hp.set' 6)); (with_reducible exact H); (repeat rfl); intro w' H'; ((try simp only [List.set_cons_zero, List.set_cons_succ, List.setIfInBounds_toArray] at H'); clear C H; have H := H'; clear H'; have C := Hp.facts H; simp only [Facts, factsL, and_true, true_and, List.set_cons_zero, List.set_cons_succ, List.setIfInBounds_toArray] at C)) | ((with_reducible apply Hp.abs_gen H); (repeat (with_reducible apply Hp.set' 7)); (with_reducible exact H); (repeat rfl); intro w' H'; ((try simp only [List.set_cons_zero, List.set_cons_succ, List.setIfInBounds_toArray] at H'); clear C H; have H := H'; clear H'; have C := Hp.facts H; simp only [Facts, factsL, and_true, true_and, List.set_cons_zero, List.set_cons_succ, List.setIfInBounds_toArray] at C))) | go_values | go_skip | go_guarded | go_step | go_upon | go_back | (simp only [Int.not_lt, Int.not_le] at *; go_simp) | (go_values <;> (try go_simp)) | (go_ite <;> go_prune <;> (try go_simp)) | (split <;> (first | (rename_i hx; exact (hx _ rfl).elim) | go_prune))))
            obtain ⟨wR15, rfl⟩ := Hp.nameW H
            apply region_n (frm wR15.heap.size (fun _ => Hp _ _)) (frm_ok ?hfs_3) frm_sz [] [.light 0 0, .light 0 0, .light 0 0, .light 0 0, .light 0 0, .light 0 0, .light 0 0, .light 0 0, .light 0 0, .light 0 0] [false, false, false, false, false, false, false, false, false, false] 10 95 [10, 10, 10, 10, 10, 10, 10, 10, 10, 10] [some 79, some 80, some 81, some 82, some 83, some 84, some 85, some 86, some 87, some 88] [[], [0], [], [], [3], [], [4, 5], [6], [7], [1, 2]] [Eq1 _, Eq1 _, Eq1 _, Eq1 _, Eq1 _, Eq1 _, Eq1 _, Eq1 _, Eq1 _, Eq1 _] ?hq1_3 ?hq2_3 ?hq3_3 ?hq4_3 ?hq5_3 ?hq6_3 _ ?hA_3 ?hst_3 ?h0_3 ?hsteps_3 ?hend_3
            case hq1_3 => kernel_rfl
            case hq2_3 => kernel_rfl
            case hq3_3 => kernel_rfl
            case hq5_3 => kernel_rfl
            case hq4_3 => rfl
            case hq6_3 => rfl
            case hA_3 => intro vs; simp only [fillD, Nat.reduceAdd, Act.put, List.setIfInBounds_toArray, List.set_cons_zero, List.set_cons_succ]; rfl
            case h0_3 => exact H.drew
            case hfs_3 => exact fun _ _ _ hb h => Hp.step h hb
            case hsteps_3 =>
              refine ⟨?_, ?_, ?_, ?_, ?_, ?_, ?_, ?_, ?_, ?_, trivial⟩
              · intro p vs w' K hJ hp1 hp2 hS hR hK
                rw [if_pos (by rfl)]
                go_step
                exact hK.out _ _ (Below.refl _ _) Eq1.mk Fresh.no
              · intro p vs w' K hJ hp1 hp2 hS hR hK
                simp only [DepJ, List.getD_cons_zero, List.getD_cons_succ] at hJ
                obtain ⟨j0, -⟩ := hJ
                have j0 := Eq1.out j0
                simp only [j0] at hK ⊢
                rw [if_pos (by rfl)]
                have C := Hp.facts hS
                simp only [Facts, factsL, and_true, true_and, List.set_cons_zero, List.set_cons_succ, List.setIfInBounds_toArray] at C
                have hsz := hR.1
                go_step
                exact hK.out _ _ (Below.refl _ _) Eq1.mk Fresh.no
              · intro p vs w' K hJ hp1 hp2 hS hR hK
                rw [if_pos (by rfl)]
                go_step
                exact hK.out _ _ (Below.refl _ _) Eq1.mk Fresh.no
              · intro p vs w' K hJ hp1 hp2 hS hR hK
                rw [if_pos (by rfl)]
                go_step
                exact hK.out _ _ (Below.refl _ _) Eq1.mk Fresh.no
              · intro p vs w' K hJ hp1 hp2 hS hR hK
                simp only [DepJ, List.getD_cons_zero, List.getD_cons_succ] at hJ
                obtain ⟨j3, -⟩ := hJ
                have j3 := Eq1.out j3
                simp only [j3] at hK ⊢
                rw [if_pos (by rfl)]
                have C := Hp.facts hS
                simp only [Facts, factsL, and_true, true_and, List.set_cons_zero, List.set_cons_succ, List.setIfInBounds_toArray] at C
                have hsz := hR.1
                go_step
                exact hK.out _ _ (Below.refl _ _) Eq1.mk Fresh.no
              · intro p vs w' K hJ hp1 hp2 hS hR hK
                rw [if_pos (by rfl)]
                go_step
                exact hK.out _ _ (Below.refl _ _) Eq1.mk Fresh.no
              · intro p vs w' K hJ hp1 hp2 hS hR hK
                simp only [DepJ, List.getD_cons_zero, List.getD_cons_succ] at hJ
                obtain ⟨j4, j5, -⟩ := hJ
                have j4 := Eq1.out j4
                have j5 := Eq1.out j5
                simp only [j4, j5] at hK ⊢
                rw [if_pos (by rfl)]
                have C := Hp.facts hS
                simp only [Facts, factsL, and_true, true_and, List.set_cons_zero, List.set_cons_succ, List.setIfInBounds_toArray] at C
                have hsz := hR.1
                go_step
                exact hK.out _ _ (Below.refl _ _) Eq1.mk Fresh.no
              · intro p vs w' K hJ hp1 hp2 hS hR hK
                simp only [DepJ, List.getD_cons_zero, List.getD_cons_succ] at hJ
                obtain ⟨j6, -⟩ := hJ
                have j6 := Eq1.out j6
                simp only [j6] at hK ⊢
                rw [if_pos (by rfl)]
                have C := Hp.facts hS
                simp only [Facts, factsL, and_true, true_and, List.set_cons_zero, List.set_cons_succ, List.setIfInBounds_toArray] at C
                have hsz := hR.1
                have hq := (Hp.rowCell hS 2 rfl).2.2.2 j _ hx
                go_step
                exact hK.out _ _ (Below.refl _ _) Eq1.mk Fresh.no
              · intro p vs w' K hJ hp1 hp2 hS hR hK
                simp only [DepJ, List.getD_cons_zero, List.getD_cons_succ] at hJ
                obtain ⟨j7, -⟩ := hJ
                have j7 := Eq1.out j7
                simp only [j7] at hK ⊢
                rw [if_pos (by rfl)]
                go_step
                exact hK.out _ _ (Below.refl _ _) Eq1.mk Fresh.no
              · intro p vs w' K hJ hp1 hp2 hS hR hK
                simp only [DepJ, List.getD_cons_zero, List.getD_cons_succ] at hJ
                obtain ⟨j1, j2, -⟩ := hJ
                have j1 := Eq1.out j1
                have j2 := Eq1.out j2
                simp only [j1, j2] at hK ⊢
                rw [if_pos (by rfl)]
                have C := Hp.facts hS
                simp only [Facts, factsL, and_true, true_and, List.set_cons_zero, List.set_cons_succ, List.setIfInBounds_toArray] at C
                have hsz := hR.1
                go_step
                exact hK.out _ _ (Below.refl _ _) Eq1.mk Fresh.no
            case hst_3 => refine ⟨fun _ _ _ _ h => h, fun _ _ _ _ h => h, fun _ _ _ _ h => h, fun _ _ _ _ h => h, fun _ _ _ _ h => h, fun _ _ _ _ h => h, fun _ _ _ _ h => h, fun _ _ _ _ h => h, fun _ _ _ _ h => h, fun _ _ _ _ h => h, trivial⟩
            intro vs w' hJ hD hS hR
            simp only [AllJ, Nat.reduceAdd] at hJ
            obtain ⟨v0, v1, v2, v3, v4, v5, v6, v7, v8, v9, -⟩ := hJ
            clear C
            replace v0 := Eq1.out v0
            replace v1 := Eq1.out v1
            replace v2 := Eq1.out v2
            replace v3 := Eq1.out v3
            replace v4 := Eq1.out v4
            replace v5 := Eq1.out v5
            replace v6 := Eq1.out v6
            replace v7 := Eq1.out v7
            replace v8 := Eq1.out v8
            replace v9 := Eq1.out v9
            simp only [v0, v1, v2, v3, v4, v5, v6, v7, v8, v9, List.drop_succ_cons, List.drop_zero]
            have H' : Hp _ _ _ := hS
            clear hD hR hS v0 v1 v2 v3 v4 v5 v6 v7 v8 v9
            clear vs H
            have H := H'; clear H'; have C := Hp.facts H; simp only [Facts, factsL, and_true, true_and, List.set_cons_zero, List.set_cons_succ, List.setIfInBounds_toArray] at C
            have hfr := (Hp.rowCell H 2 rfl).2.2.1
            have hq := (Hp.rowCell H 2 rfl).2.2.2 j _ hx
            (repeat' ((fail_if_success (with_reducible show bodyPost _ _ _ _ _ _)); first | ((with_reducible refine Hp.abs_alloc H ?_); intro b' w' H' hb'; (try simp only [hb']); clear hb'; ((try simp only [List.set_cons_zero, List.set_cons_succ, List.setIfInBounds_toArray] at H'); clear C H; have H := H'; clear H'; have C := Hp.facts H; simp only [Facts, factsL, and_true, true_and, List.set_cons_zero, List.set_cons_succ, List.setIfInBounds_toArray] at C)) | ((with_reducible show wpList _ _ _ _ _ (World.setCell _ _ _)); first | ((with_reducible apply Hp.abs_gen H); (repeat (with_reducible apply Hp.set' 0)); (with_reducible exact H); (repeat rfl); intro w' H'; ((try simp only [List.set_cons_zero, List.set_cons_succ, List.setIfInBounds_toArray] at H'); clear C H; have H := H'; clear H'; have C := Hp.facts H; simp only [Facts, factsL, and_true, true_and, List.set_cons_zero, List.set_cons_succ, List.setIfInBounds_toArray] at C)) | ((with_reducible apply Hp.abs_gen H); (repeat (with_reducible apply Hp.set' 1)); (with_reducible exact H); (repeat rfl); intro w' H'; ((try simp only [List.set_cons_zero, List.set_cons_succ, List.setIfInBounds_toArray] at H'); clear C H; have H := H'; clear H'; have C := Hp.facts H; simp only [Facts, factsL, and_true, true_and, List.set_cons_zero, List.set_cons_succ, List.setIfInBounds_toArray] at C)) | ((with_reducible apply Hp.abs_gen H); (repeat (with_reducible apply Hp.set' 2)); (with_reducible exact H); (repeat rfl); intro w' H'; ((try simp only [List.set_cons_zero, List.set_cons_succ, List.setIfInBounds_toArray] at H'); clear C H; have H := H'; clear H'; have C := Hp.facts H; simp only [Facts, factsL, and_true, true_and, List.set_cons_zero, List.set_cons_succ, List.setIfInBounds_toArray] at C)) | ((with_reducible apply Hp.abs_gen H); (repeat (with_reducible apply Hp.set' 3)); (with_reducible exact H); (repeat rfl); intro w' H'; ((try simp only [List.set_cons_zero, List.set_cons_succ, List.setIfInBounds_toArray] at H'); clear C H; have H := H'; clear H'; have C := Hp.facts H; simp only [Facts, factsL, and_true, true_and, List.set_cons_zero, List.set_cons_succ, List.setIfInBounds_toArray] at C)) | ((with_reducible apply Hp.abs_gen H); (repeat (with_reducible apply Hp.set' 4)); (with_reducible exact H); (repeat rfl); intro w' H'; ((try simp only [List.set_cons_zero, List.set_cons_succ, List.setIfInBounds_toArray] at H'); clear C H; have H := H'; clear H'; have C := Hp.facts H; simp only [Facts, factsL, and_true, true_and, List.set_cons_zero, List.set_cons_succ, List.setIfInBounds_toArray] at C)) | ((with_reducible apply Hp.abs_gen H); (repeat (with_reducible apply Hp.set' 5)); (with_reducible exact H); (repeat rfl); intro w' H'; ((try simp only [List.set_cons_zero, List.set_cons_succ, List.setIfInBounds_toArray] at H'); clear C H; have H := H'; clear H'; have C := Hp.facts H; simp only [Facts, factsL, and_true, true_and, List.set_cons_zero, List.set_cons_succ, List.setIfInBounds_toArray] at C)) | ((with_reducible apply Hp.abs_gen H); (repeat (with_reducible apply Hp.set' 6)); (with_reducible exact H); (repeat rfl); intro w' H'; ((try simp only [List.set_cons_zero, List.set_cons_succ, List.setIfInBounds_toArray] at H'); clear C H; have H := H'; clear H'; have C := Hp.facts H; simp only [Facts, factsL, and_true, true_and, List.set_cons_zero, List.set_cons_succ, List.setIfInBounds_toArray] at C)) | ((with_reducible apply Hp.abs_gen H); (repeat (with_reducible apply Hp.set' 7)); (with_reducible exact H); (repeat rfl); intro w' H'; ((try simp only [List.set_cons_zero, List.set_cons_succ, List.setIfInBounds_toArray] at H'); clear C H; have H := H'; clear H'; have C := Hp.facts H; simp only [Facts, factsL, and_true, true_and, List.set_cons_zero, List.set_cons_succ, List.setIfInBounds_toArray] at C))) | ((with_reducible show wpList _ _ _ _ _ (World.setCell _ _ _)); with_reducible refine Hp.abs_gen H (Hp.rowSet H 2 rfl _ _) ?_; intro w' H'; ((try simp only [List.set_cons_zero, List.set_cons_succ, List.setIfInBounds_toArray] at H'); clear C H; have H := H'; clear H'; have C := Hp.facts H; simp only [Facts, factsL, and_true, true_and, List.set_cons_zero, List.set_cons_succ, List.setIfInBounds_toArray] at C)) | go_values | go_skip | go_guarded | go_step | go_upon | go_back | (simp only [Int.not_lt, Int.not_le] at *; go_simp) | (go_values <;> (try go_simp)) | (go_ite <;> go_prune <;> (try go_simp)) | (split <;> (first | (rename_i hx; exact (hx _ rfl).elim) | go_prune))))
            refine ⟨⟨j + 1, _, by omega, by go_num, fun i hi => ?_, H⟩, by simp [intOf]; omega⟩
            rw [List.getElem?_set_ne (by omega)]
            exact hxs i (by omega)
          · (repeat' ((fail_if_success (with_reducible show bodyPost _ _ _ _ _ _)); first | ((with_reducible refine Hp.abs_alloc H ?_); intro b' w' H' hb'; (try simp only [hb']); clear hb'; ((try simp only [List.set_cons_zero, List.set_cons_succ, List.setIfInBounds_toArray] at H'); clear C H; have H := H'; clear H'; have C := Hp.facts H; simp only [Facts, factsL, and_true, true_and, List.set_cons_zero, List.set_cons_succ, List.setIfInBounds_toArray] at C)) | ((with_reducible show wpList _ _ _ _ _ (World.setCell _ _ _)); first | ((with_reducible apply Hp.abs_gen H); (repeat (with_reducible apply Hp.set' 0)); (with_reducible exact H); (repeat rfl); intro w' H'; ((try simp only [List.set_cons_zero, List.set_cons_succ, List.setIfInBounds_toArray] at H'); clear C H; have H := H'; clear H'; have C := Hp.facts H; simp only [Facts, factsL, and_true, true_and, List.set_cons_zero, List.set_cons_succ, List.setIfInBounds_toArray] at C)) | ((with_reducible apply Hp.abs_gen H); (repeat (with_reducible apply Hp.set' 1)); (with_reducible exact H); (repeat rfl); intro w' H'; ((try simp only [List.set_cons_zero, List.set_cons_succ, List.setIfInBounds_toArray] at H'); clear C H; have H := H'; clear H'; have C := Hp.facts H; simp only [Facts, factsL, and_true, true_and, List.set_cons_zero, List.set_cons_succ, List.setIfInBounds_toArray] at C)) | ((with_reducible apply Hp.abs_gen H); (repeat (with_reducible apply Hp.set' 2)); (with_reducible exact H); (repeat rfl); intro w' H'; ((try simp only [List.set_cons_zero, List.set_cons_succ, List.setIfInBounds_toArray] at H'); clear C H; have H := H'; clear H'; have C := Hp.facts H; simp only [Facts, factsL, and_true, true_and, List.set_cons_zero, List.set_cons_succ, List.setIfInBounds_toArray] at C)) | ((with_reducible apply Hp.abs_gen H); (repeat (with_reducible apply Hp.set' 3)); (with_reducible exact H); (repeat rfl); intro w' H'; ((try simp only [List.set_cons_zero, List.set_cons_succ, List.setIfInBounds_toArray] at H'); clear C H; have H := H'; clear H'; have C := Hp.facts H; simp only [Facts, factsL, and_true, true_and, List.set_cons_zero, List.set_cons_succ, List.setIfInBounds_toArray] at C)) | ((with_reducible apply Hp.abs_gen H); (repeat (with_reducible apply Hp.set' 4)); (with_reducible exact H); (repeat rfl); intro w' H'; ((try simp only [List.set_cons_zero, List.set_cons_succ, List.setIfInBounds_toArray] at H'); clear C H; have H := H'; clear H'; have C := Hp.facts H; simp only [Facts, factsL, and_true, true_and, List.set_cons_zero, List.set_cons_succ, List.setIfInBounds_toArray] at C)) | ((with_reducible apply Hp.abs_gen H); (repeat (with_reducible apply Hp.set' 5)); (with_reducible exact H); (repeat rfl); intro w' H'; ((try simp only [List.set_cons_zero, List.set_cons_succ, List.setIfInBounds_toArray] at H'); clear C H; have H := H'; clear H'; have C := Hp.facts H; simp only [Facts, factsL, and_true, true_and, List.set_cons_zero, List.set_cons_succ, List.setIfInBounds_toArray] at C)) | ((with_reducible apply Hp.abs_gen H); (repeat (with_reducible apply Hp.set' 6)); (with_reducible exact H); (repeat rfl); intro w' H'; ((try simp only [List.set_cons_zero, List.set_cons_succ, List.setIfInBounds_toArray] at H'); clear C H; have H := H'; clear H'; have C := Hp.facts H; simp only [Facts, factsL, and_true, true_and, List.set_cons_zero, List.set_cons_succ, List.setIfInBounds_toArray] at C)) | ((with_reducible apply Hp.abs_gen H); (repeat (with_reducible apply Hp.set' 7)); (with_reducible exact H); (repeat rfl); intro w' H'; ((try simp only [List.set_cons_zero, List.set_cons_succ, List.setIfInBounds_toArray] at H'); clear C H; have H := H'; clear H'; have C := Hp.facts H; simp only [Facts, factsL, and_true, true_and, List.set_cons_zero, List.set_cons_succ, List.setIfInBounds_toArray] at C))) | go_values | go_skip | go_guarded | go_step | go_upon | go_back | (simp only [Int.not_lt, Int.not_le] at *; go_simp) | (go_values <;> (try go_simp)) | (go_ite <;> go_prune <;> (try go_simp)) | (split <;> (first | (rename_i hx; exact (hx _ rfl).elim) | go_prune))))
            refine ⟨⟨i + 1, k', hRk', by omega, by omega, by go_num, ?_⟩, by simp [intOf]; omega⟩
            exact (Hp.sel H [4, 5, 6, 7] (by decide) : Hp w [_, _, _, _] _)
      · have hnl : ¬ (i : Int) < 200 := by omega
        (repeat' ((fail_if_success (with_reducible show bodyPost _ _ _ _ _ _)); first | ((with_reducible refine Hp.abs_alloc H ?_); intro b' w' H' hb'; (try simp only [hb']); clear hb'; ((try simp only [List.set_cons_zero, List.set_cons_succ, List.setIfInBounds_toArray] at H'); clear C H; have H := H'; clear H'; have C := Hp.facts H; simp only [Facts, factsL, and_true, true_and, List.set_cons_zero, List.set_cons_succ, List.setIfInBounds_toArray] at C)) | ((with_reducible show wpList _ _ _ _ _ (World.setCell _ _ _)); first | ((with_reducible apply Hp.abs_gen H); (repeat (with_reducible apply Hp.set' 0)); (with_reducible exact H); (repeat rfl); intro w' H'; ((try simp only [List.set_cons_zero, List.set_cons_succ, List.setIfInBounds_toArray] at H'); clear C H; have H := H'; clear H'; have C := Hp.facts H; simp only [Facts, factsL, and_true, true_and, List.set_cons_zero, List.set_cons_succ, List.setIfInBounds_toArray] at C)) | ((with_reducible apply Hp.abs_gen H); (repeat (with_reducible apply Hp.set' 1)); (with_reducible exact H); (repeat rfl); intro w' H'; ((try simp only [List.set_cons_zero, List.set_cons_succ, List.setIfInBounds_toArray] at H'); clear C H; have H := H'; clear H'; have C := Hp.facts H; simp only [Facts, factsL, and_true, true_and, List.set_cons_zero, List.set_cons_succ, List.setIfInBounds_toArray] at C)) | ((with_reducible apply Hp.abs_gen H); (repeat (with_reducible apply Hp.set' 2)); (with_reducible exact H); (repeat rfl); intro w' H'; ((try simp only [List.set_cons_zero, List.set_cons_succ, List.setIfInBounds_toArray] at H'); clear C H; have H := H'; clear H'; have C := Hp.facts H; simp only [Facts, factsL, and_true, true_and, List.set_cons_zero, List.set_cons_succ, List.setIfInBounds_toArray] at C)) | ((with_reducible apply Hp.abs_gen H); (repeat (with_reducible apply Hp.set' 3)); (with_reducible exact H); (repeat rfl); intro w' H'; ((try simp only [List.set_cons_zero, List.set_cons_succ, List.setIfInBounds_toArray] at H'); clear C H; have H := H'; clear H'; have C := Hp.facts H; simp only [Facts, factsL, and_true, true_and, List.set_cons_zero, List.set_cons_succ, List.setIfInBounds_toArray] at C)) | ((with_reducible apply Hp.abs_gen H); (repeat (with_reducible apply Hp.set' 4)); (with_reducible exact H); (repeat rfl); intro w' H'; ((try simp only [List.set_cons_zero, List.set_cons_succ, List.setIfInBounds_toArray] at H'); clear C H; have H := H'; clear H'; have C := Hp.facts H; simp only [Facts, factsL, and_true, true_and, List.set_cons_zero, List.set_cons_succ, List.setIfInBounds_toArray] at C)) | ((with_reducible apply Hp.abs_gen H); (repeat (with_reducible apply Hp.set' 5)); (with_reducible exact H); (repeat rfl); intro w' H'; ((try simp only [List.set_cons_zero, List.set_cons_succ, List.setIfInBounds_toArray] at H'); clear C H; have H := H'; clear H'; have C := Hp.facts H; simp only [Facts, factsL, and_true, true_and, List.set_cons_zero, List.set_cons_succ, List.setIfInBounds_toArray] at C)) | ((with_reducible apply Hp.abs_gen H); (repeat (with_reducible apply Hp.set' 6)); (with_reducible exact H); (repeat rfl); intro w' H'; ((try simp only [List.set_cons_zero, List.set_cons_succ, List.setIfInBounds_toArray] at H'); clear C H; have H := H'; clear H'; have C := Hp.facts H; simp only [Facts, factsL, and_true, true_and, List.set_cons_zero, List.set_cons_succ, List.setIfInBounds_toArray] at C)) | ((with_reducible apply Hp.abs_gen H); (repeat (with_reducible apply Hp.set' 7)); (with_reducible exact H); (repeat rfl); intro w' H'; ((try simp only [List.set_cons_zero, List.set_cons_succ, List.setIfInBounds_toArray] at H'); clear C H; have H := H'; clear H'; have C := Hp.facts H; simp only [Facts, factsL, and_true, true_and, List.set_cons_zero, List.set_cons_succ, List.setIfInBounds_toArray] at C))) | (go_at_call 82; refine (known_any _).mono ?_; rintro e' w' ⟨rfl, hb'⟩; (have H' := Hp.step H hb'; clear hb'; ((try simp only [List.set_cons_zero, List.set_cons_succ, List.setIfInBounds_toArray] at H'); clear C H; have H := H'; clear H'; have C := Hp.facts H; simp only [Facts, factsL, and_true, true_and, List.set_cons_zero, List.set_cons_succ, List.setIfInBounds_toArray] at C))) | go_values | go_skip | go_guarded | go_step | go_upon | go_back | (simp only [Int.not_lt, Int.not_le] at *; go_simp) | (go_values <;> (try go_simp)) | (go_ite <;> go_prune <;> (try go_simp)) | (split <;> (first | (rename_i hx; exact (hx _ rfl).elim) | go_prune))))
        refine (same_any L L _ _ _ (H.bs hB) (Hp.row H 1 rfl) (by omega) (by omega)).mono ?_
        rintro e' w' ⟨rfl, hb'⟩
        rw [decide_eq_true (rfl : L = L)]
        (have H' := Hp.step H hb'; clear hb'; ((try simp only [List.set_cons_zero, List.set_cons_succ, List.setIfInBounds_toArray] at H'); clear C H; have H := H'; clear H'; have C := Hp.facts H; simp only [Facts, factsL, and_true, true_and, List.set_cons_zero, List.set_cons_succ, List.setIfInBounds_toArray] at C))
        (repeat' ((fail_if_success (with_reducible show bodyPost _ _ _ _ _ _)); first | ((with_reducible refine Hp.abs_alloc H ?_); intro b' w' H' hb'; (try simp only [hb']); clear hb'; ((try simp only [List.set_cons_zero, List.set_cons_succ, List.setIfInBounds_toArray] at H'); clear C H; have H := H'; clear H'; have C := Hp.facts H; simp only [Facts, factsL, and_true, true_and, List.set_cons_zero, List.set_cons_succ, List.setIfInBounds_toArray] at C)) | ((with_reducible show wpList _ _ _ _ _ (World.setCell _ _ _)); first | ((with_reducible apply Hp.abs_gen H); (repeat (with_reducible apply Hp.set' 0)); (with_reducible exact H); (repeat rfl); intro w' H'; ((try simp only [List.set_cons_zero, List.set_cons_succ, List.setIfInBounds_toArray] at H'); clear C H; have H := H'; clear H'; have C := Hp.facts H; simp only [Facts, factsL, and_true, true_and, List.set_cons_zero, List.set_cons_succ, List.setIfInBounds_toArray] at C)) | ((with_reducible apply Hp.abs_gen H); (repeat (with_reducible apply Hp.set' 1)); (with_reducible exact H); (repeat rfl); intro w' H'; ((try simp only [List.set_cons_zero, List.set_cons_succ, List.setIfInBounds_toArray] at H'); clear C H; have H := H'; clear H'; have C := Hp.facts H; simp only [Facts, factsL, and_true, true_and, List.set_cons_zero, List.set_cons_succ, List.setIfInBounds_toArray] at C)) | ((with_reducible apply Hp.abs_gen H); (repeat (with_reducible apply Hp.set' 2)); (with_reducible exact H); (repeat rfl); intro w' H'; ((try simp only [List.set_cons_zero, List.set_cons_succ, List.setIfInBounds_toArray] at H'); clear C H; have H := H'; clear H'; have C := Hp.facts H; simp only [Facts, factsL, and_true, true_and, List.set_cons_zero, List.set_cons_succ, List.setIfInBounds_toArray] at C)) | ((with_reducible apply Hp.abs_gen H); (repeat (with_reducible apply Hp.set' 3)); (with_reducible exact H); (repeat rfl); intro w' H'; ((try simp only [List.set_cons_zero, List.set_cons_succ, List.setIfInBounds_toArray] at H'); clear C H; have H := H'; clear H'; have C := Hp.facts H; simp only [Facts, factsL, and_true, true_and, List.set_cons_zero, List.set_cons_succ, List.setIfInBounds_toArray] at C)) | ((with_reducible apply Hp.abs_gen H); (repeat (with_reducible apply Hp.set' 4)); (with_reducible exact H); (repeat rfl); intro w' H'; ((try simp only [List.set_cons_zero, List.set_cons_succ, List.setIfInBounds_toArray] at H'); clear C H; have H := H'; clear H'; have C := Hp.facts H; simp only [Facts, factsL, and_true, true_and, List.set_cons_zero, List.set_cons_succ, List.setIfInBounds_toArray] at C)) | ((with_reducible apply Hp.abs_gen H); (repeat (with_reducible apply Hp.set' 5)); (with_reducible exact H); (repeat rfl); intro w' H'; ((try simp only [List.set_cons_zero, List.set_cons_succ, List.setIfInBounds_toArray] at H'); clear C H; have H := H'; clear H'; have C := Hp.facts H; simp only [Facts, factsL, and_true, true_and, List.set_cons_zero, List.set_cons_succ, List.setIfInBounds_toArray] at C)) | ((with_reducible apply Hp.abs_gen H); (repeat (with_reducible apply Hp.set' 6)); (with_reducible exact H); (repeat rfl); intro w' H'; ((try simp only [List.set_cons_zero, List.set_cons_succ, List.setIfInBounds_toArray] at H'); clear C H; have H := H'; clear H'; have C := Hp.facts H; simp only [Facts, factsL, and_true, true_and, List.set_cons_zero, List.set_cons_succ, List.setIfInBounds_toArray] at C)) | ((with_reducible apply Hp.abs_gen H); (repeat (with_reducible apply Hp.set' 7)); (with_reducible exact H); (repeat rfl); intro w' H'; ((try simp only [List.set_cons_zero, List.set_cons_succ, List.setIfInBounds_toArray] at H'); clear C H; have H := H'; clear H'; have C := Hp.facts H; simp only [Facts, factsL, and_true, true_and, List.set_cons_zero, List.set_cons_succ, List.setIfInBounds_toArray] at C))) | go_values | go_skip | go_guarded | go_step | go_upon | go_back | (simp only [Int.not_lt, Int.not_le] at *; go_simp) | (go_values <;> (try go_simp)) | (go_ite <;> go_prune <;> (try go_simp)) | (split <;> (first | (rename_i hx; exact (hx _ rfl).elim) | go_prune))))
        go_ret
        exact ⟨rfl, H.low⟩
    · have hnl : ¬ (i : Int) < (zs.length : Int) := by omega
      (repeat' ((fail_if_success (with_reducible show bodyPost _ _ _ _ _ _)); first | ((with_reducible refine Hp.abs_alloc H ?_); intro b' w' H' hb'; (try simp only [hb']); clear hb'; ((try simp only [List.set_cons_zero, List.set_cons_succ, List.setIfInBounds_toArray] at H'); clear C H; have H := H'; clear H'; have C := Hp.facts H; simp only [Facts, factsL, and_true, true_and, List.set_cons_zero, List.set_cons_succ, List.setIfInBounds_toArray] at C)) | ((with_reducible show wpList _ _ _ _ _ (World.setCell _ _ _)); first | ((with_reducible apply Hp.abs_gen H); (repeat (with_reducible apply Hp.set' 0)); (with_reducible exact H); (repeat rfl); intro w' H'; ((try simp only [List.set_cons_zero, List.set_cons_succ, List.setIfInBounds_toArray] at H'); clear C H; have H := H'; clear H'; have C := Hp.facts H; simp only [Facts, factsL, and_true, true_and, List.set_cons_zero, List.set_cons_succ, List.setIfInBounds_toArray] at C)) | ((with_reducible apply Hp.abs_gen H); (repeat (with_reducible apply Hp.set' 1)); (with_reducible exact H); (repeat rfl); intro w' H'; ((try simp only [List.set_cons_zero, List.set_cons_succ, List.setIfInBounds_toArray] at H'); clear C H; have H := H'; clear H'; have C := Hp.facts H; simp only [Facts, factsL, and_true, true_and, List.set_cons_zero, List.set_cons_succ, List.setIfInBounds_toArray] at C)) | ((with_reducible apply Hp.abs_gen H); (repeat (with_reducible apply Hp.set' 2)); (with_reducible exact H); (repeat rfl); intro w' H'; ((try simp only [List.set_cons_zero, List.set_cons_succ, List.setIfInBounds_toArray] at H'); clear C H; have H := H'; clear H'; have C := Hp.facts H; simp only [Facts, factsL, and_true, true_and, List.set_cons_zero, List.set_cons_succ, List.setIfInBounds_toArray] at C)) | ((with_reducible apply Hp.abs_gen H); (repeat (with_reducible apply Hp.set' 3)); (with_reducible exact H); (repeat rfl); intro w' H'; ((try simp only [List.set_cons_zero, List.set_cons_succ, List.setIfInBounds_toArray] at H'); clear C H; have H := H'; clear H'; have C := Hp.facts H; simp only [Facts, factsL, and_true, true_and, List.set_cons_zero, List.set_cons_succ, List.setIfInBounds_toArray] at C)) | ((with_reducible apply Hp.abs_gen H); (repeat (with_reducible apply Hp.set' 4)); (with_reducible exact H); (repeat rfl); intro w' H'; ((try simp only [List.set_cons_zero, List.set_cons_succ, List.setIfInBounds_toArray] at H'); clear C H; have H := H'; clear H'; have C := Hp.facts H; simp only [Facts, factsL, and_true, true_and, List.set_cons_zero, List.set_cons_succ, List.setIfInBounds_toArray] at C)) | ((with_reducible apply Hp.abs_gen H); (repeat (with_reducible apply Hp.set' 5)); (with_reducible exact H); (repeat rfl); intro w' H'; ((try simp only [List.set_cons_zero, List.set_cons_succ, List.setIfInBounds_toArray] at H'); clear C H; have H := H'; clear H'; have C := Hp.facts H; simp only [Facts, factsL, and_true, true_and, List.set_cons_zero, List.set_cons_succ, List.setIfInBounds_toArray] at C)) | ((with_reducible apply Hp.abs_gen H); (repeat (with_reducible apply Hp.set' 6)); (with_reducible exact H); (repeat rfl); intro w' H'; ((try simp only [List.set_cons_zero, List.set_cons_succ, List.setIfInBounds_toArray] at H'); clear C H; have H := H'; clear H'; have C := Hp.facts H; simp only [Facts, factsL, and_true, true_and, List.set_cons_zero, List.set_cons_succ, List.setIfInBounds_toArray] at C)) | ((with_reducible apply Hp.abs_gen H); (repeat (with_reducible apply Hp.set' 7)); (with_reducible exact H); (repeat rfl); intro w' H'; ((try simp only [List.set_cons_zero, List.set_cons_succ, List.setIfInBounds_toArray] at H'); clear C H; have H := H'; clear H'; have C := Hp.facts H; simp only [Facts, factsL, and_true, true_and, List.set_cons_zero, List.set_cons_succ, List.setIfInBounds_toArray] at C))) | (go_at_call 82; refine (known_any _).mono ?_; rintro e' w' ⟨rfl, hb'⟩; (have H' := Hp.step H hb'; clear hb'; ((try simp only [List.set_cons_zero, List.set_cons_succ, List.setIfInBounds_toArray] at H'); clear C H; have H := H'; clear H'; have C := Hp.facts H; simp only [Facts, factsL, and_true, true_and, List.set_cons_zero, List.set_cons_succ, List.setIfInBounds_toArray] at C))) | go_values | go_skip | go_guarded | go_step | go_upon | go_back | (simp only [Int.not_lt, Int.not_le] at *; go_simp) | (go_values <;> (try go_simp)) | (go_ite <;> go_prune <;> (try go_simp)) | (split <;> (first | (rename_i hx; exact (hx _ rfl).elim) | go_prune))))
      refine (same_any L L _ _ _ (H.bs hB) (Hp.row H 1 rfl) (by omega) (by omega)).mono ?_
      rintro e' w' ⟨rfl, hb'⟩
      rw [decide_eq_true (rfl : L = L)]
      (have H' := Hp.step H hb'; clear hb'; ((try simp only [List.set_cons_zero, List.set_cons_succ, List.setIfInBounds_toArray] at H'); clear C H; have H := H'; clear H'; have C := Hp.facts H; simp only [Facts, factsL, and_true, true_and, List.set_cons_zero, List.set_cons_succ, List.setIfInBounds_toArray] at C))
      (repeat' ((fail_if_success (with_reducible show bodyPost _ _ _ _ _ _)); first | ((with_reducible refine Hp.abs_alloc H ?_); intro b' w' H' hb'; (try simp only [hb']); clear hb'; ((try simp only [List.set_cons_zero, List.set_cons_succ, List.setIfInBounds_toArray] at H'); clear C H; have H := H'; clear H'; have C := Hp.facts H; simp only [Facts, factsL, and_true, true_and, List.set_cons_zero, List.set_cons_succ, List.setIfInBounds_toArray] at C)) | ((with_reducible show wpList _ _ _ _ _ (World.setCell _ _ _)); first | ((with_reducible apply Hp.abs_gen H); (repeat (with_reducible apply Hp.set' 0)); (with_reducible exact H); (repeat rfl); intro w' H'; ((try simp only [List.set_cons_zero, List.set_cons_succ, List.setIfInBounds_toArray] at H'); clear C H; have H := H'; clear H'; have C := Hp.facts H; simp only [Facts, factsL, and_true, true_and, List.set_cons_zero, List.set_cons_succ, List.setIfInBounds_toArray] at C)) | ((with_reducible apply Hp.abs_gen H); (repeat (with_reducible apply Hp.set' 1)); (with_reducible exact H); (repeat rfl); intro w' H'; ((try simp only [List.set_cons_zero, List.set_cons_succ, List.setIfInBounds_toArray] at H'); clear C H; have H := H'; clear H'; have C := Hp.facts H; simp only [Facts, factsL, and_true, true_and, List.set_cons_zero, List.set_cons_succ, List.setIfInBounds_toArray] at C)) | ((with_reducible apply Hp.abs_gen H); (repeat (with_reducible apply Hp.set' 2)); (with_reducible exact H); (repeat rfl); intro w' H'; ((try simp only [List.set_cons_zero, List.set_cons_succ, List.setIfInBounds_toArray] at H'); clear C H; have H := H'; clear H'; have C := Hp.facts H; simp only [Facts, factsL, and_true, true_and, List.set_cons_zero, List.set_cons_succ, List.setIfInBounds_toArray] at C)) | ((with_reducible apply Hp.abs_gen H); (repeat (with_reducible apply Hp.set' 3)); (with_reducible exact H); (repeat rfl); intro w' H'; ((try simp only [List.set_cons_zero, List.set_cons_succ, List.setIfInBounds_toArray] at H'); clear C H; have H := H'; clear H'; have C := Hp.facts H; simp only [Facts, factsL, and_true, true_and, List.set_cons_zero, List.set_cons_succ, List.setIfInBounds_toArray] at C)) | ((with_reducible apply Hp.abs_gen H); (repeat (with_reducible apply Hp.set' 4)); (with_reducible exact H); (repeat rfl); intro w' H'; ((try simp only [List.set_cons_zero, List.set_cons_succ, List.setIfInBounds_toArray] at H'); clear C H; have H := H'; clear H'; have C := Hp.facts H; simp only [Facts, factsL, and_true, true_and, List.set_cons_zero, List.set_cons_succ, List.setIfInBounds_toArray] at C)) | ((with_reducible apply Hp.abs_gen H); (repeat (with_reducible apply Hp.set' 5)); (with_reducible exact H); (repeat rfl); intro w' H'; ((try simp only [List.set_cons_zero, List.set_cons_succ, List.setIfInBounds_toArray] at H'); clear C H; have H := H'; clear H'; have C := Hp.facts H; simp only [Facts, factsL, and_true, true_and, List.set_cons_zero, List.set_cons_succ, List.setIfInBounds_toArray] at C)) | ((with_reducible apply Hp.abs_gen H); (repeat (with_reducible apply Hp.set' 6)); (with_reducible exact H); (repeat rfl); intro w' H'; ((try simp only [List.set_cons_zero, List.set_cons_succ, List.setIfInBounds_toArray] at H'); clear C H; have H := H'; clear H'; have C := Hp.facts H; simp only [Facts, factsL, and_true, true_and, List.set_cons_zero, List.set_cons_succ, List.setIfInBounds_toArray] at C)) | ((with_reducible apply Hp.abs_gen H); (repeat (with_reducible apply Hp.set' 7)); (with_reducible exact H); (repeat rfl); intro w' H'; ((try simp only [List.set_cons_zero, List.set_cons_succ, List.setIfInBounds_toArray] at H'); clear C H; have H := H'; clear H'; have C := Hp.facts H; simp only [Facts, factsL, and_true, true_and, List.set_cons_zero, List.set_cons_succ, List.setIfInBounds_toArray] at C))) | go_values | go_skip | go_guarded | go_step | go_upon | go_back | (simp only [Int.not_lt, Int.not_le] at *; go_simp) | (go_values <;> (try go_simp)) | (go_ite <;> go_prune <;> (try go_simp)) | (split <;> (first | (rename_i hx; exact (hx _ rfl).elim) | go_prune))))
      go_ret
      exact ⟨rfl, H.low⟩
end Go.Proofs.Ytldblmgmcmnepaa
