/- Lemmas and walks on the way to the seat's laws; each theorem says its own conditions. -/
import Derived.Test.YtmmjghdobdendaaC19
import Derived.Test.YtmmjghdobdendaaRegI
set_option linter.unusedSimpArgs false
set_option linter.unusedVariables false
set_option linter.unusedSimpArgs false
set_option linter.unusedVariables false
set_option maxRecDepth 100000
namespace Go.Proofs.Ytmmjghdobdendaa
open Go.RowKit Go.Mem Go.Reg Bit Go.LawLift
set_option maxHeartbeats 3200000 in
theorem spanWithout_any (l : List (Int × Int)) (v : Value) (a b t : Int) (hin : ∀ x ∈ l, In2 x) (ha : In64 a) (hb' : In64 b) (ht : In64 t) (hl : l.length ≤ 9223372036854775807) (w : World) (hb : Prs .i64 w v l) :
    Calls Try.prog 3 #[v, .agg #[.int .i64 a, .int .i64 b], .int .i64 t] w fun e w' => e = .returned (.bool true) ∧ Below w.heap.size w w' := by
  have hF := fun w hb => few_new l v hl w hb
  obtain ⟨A0, c0, rfl, -⟩ := hb.open
  have hml : (l.take 40).length ≤ 40 := by rw [List.length_take]; omega
  have hmi : ∀ x ∈ l.take 40, In2 x := fun x hx => hin x (List.mem_of_mem_take hx)
  generalize l.take 40 = m at *
  have hAm := fun v w hb => all_new m v (by omega) w hb
  have hN := fun v w hb => without_any m v (a, b) ⟨ha, hb'⟩ hmi (by omega) w hb
  have hAw := fun t v w hb => rany_any m v t (by omega) w hb
  have hIs := rin_any a b
  change ∀ t w, Calls Try.prog _ _ w (fun e w' => e = .returned (.bool (inS (a, b) t)) ∧ _) at hIs
  obtain ⟨i0, hi, hz0, hz1, hz2⟩ := info_parts info_in
  obtain ⟨i1, hi', hy0, hy1, hy2⟩ := info_parts info_rs
  have H := Hp.start w
  have C : True := trivial
  go_enter Try.func3, Try.ntmps3
  (repeat' ((fail_if_success (with_reducible show bodyPost _ _ _ _ _ _)); first | ((with_reducible refine Hp.abs_alloc H ?_); intro b' w' H' hb'; (try simp only [hb']); clear hb'; ((try simp only [List.set_cons_zero, List.set_cons_succ, List.setIfInBounds_toArray] at H'); clear C H; have H := H'; clear H'; have C := Hp.facts H; simp only [Facts, factsL, and_true, true_and, List.set_cons_zero, List.set_cons_succ, List.setIfInBounds_toArray] at C)) | ((with_reducible show wpList _ _ _ _ _ (World.setCell _ _ _)); (with_reducible apply Hp.abs_gen H); (first | ((repeat (with_reducible apply Hp.set' 0)); (with_reducible exact H); (repeat rfl); intro w' H') | ((repeat (with_reducible apply Hp.set' 1)); (with_reducible exact H); (repeat rfl); intro w' H') | ((repeat (with_reducible apply Hp.set' 2)); (with_reducible exact H); (repeat rfl); intro w' H') | ((repeat (with_reducible apply Hp.set' 3)); (with_reducible exact H); (repeat rfl); intro w' H') | ((repeat (with_reducible apply Hp.set' 4)); (with_reducible exact H); (repeat rfl); intro w' H') | ((repeat (with_reducible apply Hp.set' 5)); (with_reducible exact H); (repeat rfl); intro w' H') | ((repeat (with_reducible apply Hp.set' 6)); (with_reducible exact H); (repeat rfl); intro w' H') | ((repeat (with_reducible apply Hp.set' 7)); (with_reducible exact H); (repeat rfl); intro w' H')); ((try simp only [List.set_cons_zero, List.set_cons_succ, List.setIfInBounds_toArray] at H'); clear C H; have H := H'; clear H'; have C := Hp.facts H; simp only [Facts, factsL, and_true, true_and, List.set_cons_zero, List.set_cons_succ, List.setIfInBounds_toArray] at C)) | go_values | go_skip | go_guarded | go_step | go_upon | go_back | (simp only [Int.not_lt, Int.not_le] at *; go_simp) | (go_values <;> (try go_simp)) | (go_ite <;> go_prune <;> (try go_simp)) | (split <;> (first | (rename_i hx; exact (hx _ rfl).elim) | go_prune))))
  (obtain ⟨sb, rfl⟩ := Hp.name H 0 rfl)
  refine (hF _ (H.pz hb)).mono ?_
  rintro e' w' ⟨v1, rfl, H'⟩
  have H' := H.took H'
  obtain ⟨Am, cm, rfl⟩ := own_form (ownsOf H' 0 rfl)
  ((try simp only [List.set_cons_zero, List.set_cons_succ, List.setIfInBounds_toArray] at H'); clear C H; have H := H'; clear H'; have C := Hp.facts H; simp only [Facts, factsL, and_true, true_and, List.set_cons_zero, List.set_cons_succ, List.setIfInBounds_toArray] at C)
  clear hF hin hb
  (repeat' ((fail_if_success (with_reducible show bodyPost _ _ _ _ _ _)); first | ((with_reducible refine Hp.abs_alloc H ?_); intro b' w' H' hb'; (try simp only [hb']); clear hb'; ((try simp only [List.set_cons_zero, List.set_cons_succ, List.setIfInBounds_toArray] at H'); clear C H; have H := H'; clear H'; have C := Hp.facts H; simp only [Facts, factsL, and_true, true_and, List.set_cons_zero, List.set_cons_succ, List.setIfInBounds_toArray] at C)) | ((with_reducible show wpList _ _ _ _ _ (World.setCell _ _ _)); (with_reducible apply Hp.abs_gen H); (first | ((repeat (with_reducible apply Hp.set' 0)); (with_reducible exact H); (repeat rfl); intro w' H') | ((repeat (with_reducible apply Hp.set' 1)); (with_reducible exact H); (repeat rfl); intro w' H') | ((repeat (with_reducible apply Hp.set' 2)); (with_reducible exact H); (repeat rfl); intro w' H') | ((repeat (with_reducible apply Hp.set' 3)); (with_reducible exact H); (repeat rfl); intro w' H') | ((repeat (with_reducible apply Hp.set' 4)); (with_reducible exact H); (repeat rfl); intro w' H') | ((repeat (with_reducible apply Hp.set' 5)); (with_reducible exact H); (repeat rfl); intro w' H') | ((repeat (with_reducible apply Hp.set' 6)); (with_reducible exact H); (repeat rfl); intro w' H') | ((repeat (with_reducible apply Hp.set' 7)); (with_reducible exact H); (repeat rfl); intro w' H')); ((try simp only [List.set_cons_zero, List.set_cons_succ, List.setIfInBounds_toArray] at H'); clear C H; have H := H'; clear H'; have C := Hp.facts H; simp only [Facts, factsL, and_true, true_and, List.set_cons_zero, List.set_cons_succ, List.setIfInBounds_toArray] at C)) | go_values | go_skip | go_guarded | go_step | go_upon | go_back | (simp only [Int.not_lt, Int.not_le] at *; go_simp) | (go_values <;> (try go_simp)) | (go_ite <;> go_prune <;> (try go_simp)) | (split <;> (first | (rename_i hx; exact (hx _ rfl).elim) | go_prune))))
  refine (hAm _ _ (Hp.prs H 0 rfl).1).mono ?_
  rintro e' w' ⟨v2, rfl, H'⟩
  have H' := H.took H'
  obtain ⟨Aw, cw, rfl⟩ := own_form (ownsOf H' 0 rfl)
  ((try simp only [List.set_cons_zero, List.set_cons_succ, List.setIfInBounds_toArray] at H'); clear C H; have H := H'; clear H'; have C := Hp.facts H; simp only [Facts, factsL, and_true, true_and, List.set_cons_zero, List.set_cons_succ, List.setIfInBounds_toArray] at C)
  (repeat' ((fail_if_success (with_reducible show bodyPost _ _ _ _ _ _)); first | ((with_reducible refine Hp.abs_alloc H ?_); intro b' w' H' hb'; (try simp only [hb']); clear hb'; ((try simp only [List.set_cons_zero, List.set_cons_succ, List.setIfInBounds_toArray] at H'); clear C H; have H := H'; clear H'; have C := Hp.facts H; simp only [Facts, factsL, and_true, true_and, List.set_cons_zero, List.set_cons_succ, List.setIfInBounds_toArray] at C)) | ((with_reducible show wpList _ _ _ _ _ (World.setCell _ _ _)); (with_reducible apply Hp.abs_gen H); (first | ((repeat (with_reducible apply Hp.set' 0)); (with_reducible exact H); (repeat rfl); intro w' H') | ((repeat (with_reducible apply Hp.set' 1)); (with_reducible exact H); (repeat rfl); intro w' H') | ((repeat (with_reducible apply Hp.set' 2)); (with_reducible exact H); (repeat rfl); intro w' H') | ((repeat (with_reducible apply Hp.set' 3)); (with_reducible exact H); (repeat rfl); intro w' H') | ((repeat (with_reducible apply Hp.set' 4)); (with_reducible exact H); (repeat rfl); intro w' H') | ((repeat (with_reducible apply Hp.set' 5)); (with_reducible exact H); (repeat rfl); intro w' H') | ((repeat (with_reducible apply Hp.set' 6)); (with_reducible exact H); (repeat rfl); intro w' H') | ((repeat (with_reducible apply Hp.set' 7)); (with_reducible exact H); (repeat rfl); intro w' H')); ((try simp only [List.set_cons_zero, List.set_cons_succ, List.setIfInBounds_toArray] at H'); clear C H; have H := H'; clear H'; have C := Hp.facts H; simp only [Facts, factsL, and_true, true_and, List.set_cons_zero, List.set_cons_succ, List.setIfInBounds_toArray] at C)) | (go_at_call 12; refine (to_any _ _ _).mono ?_; rintro e' w' ⟨rfl, hb'⟩; (have H' := Hp.step H hb'; clear hb'; ((try simp only [List.set_cons_zero, List.set_cons_succ, List.setIfInBounds_toArray] at H'); clear C H; have H := H'; clear H'; have C := Hp.facts H; simp only [Facts, factsL, and_true, true_and, List.set_cons_zero, List.set_cons_succ, List.setIfInBounds_toArray] at C))) | go_values | go_skip | go_guarded | go_step | go_upon | go_back | (simp only [Int.not_lt, Int.not_le] at *; go_simp) | (go_values <;> (try go_simp)) | (go_ite <;> go_prune <;> (try go_simp)) | (split <;> (first | (rename_i hx; exact (hx _ rfl).elim) | go_prune))))
  refine (hN _ _ (Hp.prs H 1 rfl).1).mono ?_
  rintro e' w' ⟨v3, n, k, rfl, hn, hk, H'⟩
  have H' := H.took H'
  obtain ⟨Ak, ck, rfl⟩ := own_form (ownsOf H' 0 rfl)
  ((try simp only [List.set_cons_zero, List.set_cons_succ, List.setIfInBounds_toArray] at H'); clear C H; have H := H'; clear H'; have C := Hp.facts H; simp only [Facts, factsL, and_true, true_and, List.set_cons_zero, List.set_cons_succ, List.setIfInBounds_toArray] at C)
  obtain ⟨hord, hany, hnl⟩ := normS_ok hmi hn
  obtain ⟨hordk, hanyk, hkl⟩ := normS_ok (less_in (s := (a, b)) ⟨ha, hb'⟩ hord.ok) hk
  have hkl : k.length ≤ 1000000 := by have := less_len (a, b) n; omega
  have hval : ∀ t, In64 t → anyS k t = (anyS m t && !inS (a, b) t) := fun t ht => by rw [hanyk t ht, less_any, hany t ht]
  have hAn := fun v w hb => all_new k v hkl w hb
  have hOr := fun v w hb => ordered_any k v hkl hordk w hb
  have hAa := fun t (ht : In64 t) v w hb => (show Calls Try.prog 16 #[v, .int .i64 t] w fun e w' => e = .returned (.bool (anyS m t && !inS (a, b) t)) ∧ Below w.heap.size w w' by rw [← hval t ht]; exact rany_any k v t hkl w hb)
  have hEd := fun (zs : List (Int × Int)) (h1 : zs.length = m.length + 1) (h2 : ∀ z ∈ zs, In2 z) v w hb => edges_any zs v h2 (by omega) w hb
  clear hval hanyk hordk hany hord hnl hN hn hk hAm
  have hmi' := Kp.mk (pv_ints hmi)
  clear hmi
  (repeat' ((fail_if_success (with_reducible show bodyPost _ _ _ _ _ _)); first | ((with_reducible refine Hp.abs_alloc H ?_); intro b' w' H' hb'; (try simp only [hb']); clear hb'; ((try simp only [List.set_cons_zero, List.set_cons_succ, List.setIfInBounds_toArray] at H'); clear C H; have H := H'; clear H'; have C := Hp.facts H; simp only [Facts, factsL, and_true, true_and, List.set_cons_zero, List.set_cons_succ, List.setIfInBounds_toArray] at C)) | ((with_reducible show wpList _ _ _ _ _ (World.setCell _ _ _)); (with_reducible apply Hp.abs_gen H); (first | ((repeat (with_reducible apply Hp.set' 0)); (with_reducible exact H); (repeat rfl); intro w' H') | ((repeat (with_reducible apply Hp.set' 1)); (with_reducible exact H); (repeat rfl); intro w' H') | ((repeat (with_reducible apply Hp.set' 2)); (with_reducible exact H); (repeat rfl); intro w' H') | ((repeat (with_reducible apply Hp.set' 3)); (with_reducible exact H); (repeat rfl); intro w' H') | ((repeat (with_reducible apply Hp.set' 4)); (with_reducible exact H); (repeat rfl); intro w' H') | ((repeat (with_reducible apply Hp.set' 5)); (with_reducible exact H); (repeat rfl); intro w' H') | ((repeat (with_reducible apply Hp.set' 6)); (with_reducible exact H); (repeat rfl); intro w' H') | ((repeat (with_reducible apply Hp.set' 7)); (with_reducible exact H); (repeat rfl); intro w' H')); ((try simp only [List.set_cons_zero, List.set_cons_succ, List.setIfInBounds_toArray] at H'); clear C H; have H := H'; clear H'; have C := Hp.facts H; simp only [Facts, factsL, and_true, true_and, List.set_cons_zero, List.set_cons_succ, List.setIfInBounds_toArray] at C)) | (go_at_call 13; refine (known11_any _).mono ?_; rintro e' w' ⟨rfl, hb'⟩; (have H' := Hp.step H hb'; clear hb'; ((try simp only [List.set_cons_zero, List.set_cons_succ, List.setIfInBounds_toArray] at H'); clear C H; have H := H'; clear H'; have C := Hp.facts H; simp only [Facts, factsL, and_true, true_and, List.set_cons_zero, List.set_cons_succ, List.setIfInBounds_toArray] at C))) | go_values | go_skip | go_guarded | go_step | go_upon | go_back | (simp only [Int.not_lt, Int.not_le] at *; go_simp) | (go_values <;> (try go_simp)) | (go_ite <;> go_prune <;> (try go_simp)) | (split <;> (first | (rename_i hx; exact (hx _ rfl).elim) | go_prune))))
  refine (hAn _ _ (Hp.prs H 0 rfl).1).mono ?_
  rintro e' w' ⟨v4, rfl, H'⟩
  have H' := H.took H'
  obtain ⟨A4, c4, rfl⟩ := own_form (ownsOf H' 0 rfl)
  ((try simp only [List.set_cons_zero, List.set_cons_succ, List.setIfInBounds_toArray] at H'); clear C H; have H := H'; clear H'; have C := Hp.facts H; simp only [Facts, factsL, and_true, true_and, List.set_cons_zero, List.set_cons_succ, List.setIfInBounds_toArray] at C)
  (repeat' ((fail_if_success (with_reducible show bodyPost _ _ _ _ _ _)); first | ((with_reducible refine Hp.abs_alloc H ?_); intro b' w' H' hb'; (try simp only [hb']); clear hb'; ((try simp only [List.set_cons_zero, List.set_cons_succ, List.setIfInBounds_toArray] at H'); clear C H; have H := H'; clear H'; have C := Hp.facts H; simp only [Facts, factsL, and_true, true_and, List.set_cons_zero, List.set_cons_succ, List.setIfInBounds_toArray] at C)) | ((with_reducible show wpList _ _ _ _ _ (World.setCell _ _ _)); (with_reducible apply Hp.abs_gen H); (first | ((repeat (with_reducible apply Hp.set' 0)); (with_reducible exact H); (repeat rfl); intro w' H') | ((repeat (with_reducible apply Hp.set' 1)); (with_reducible exact H); (repeat rfl); intro w' H') | ((repeat (with_reducible apply Hp.set' 2)); (with_reducible exact H); (repeat rfl); intro w' H') | ((repeat (with_reducible apply Hp.set' 3)); (with_reducible exact H); (repeat rfl); intro w' H') | ((repeat (with_reducible apply Hp.set' 4)); (with_reducible exact H); (repeat rfl); intro w' H') | ((repeat (with_reducible apply Hp.set' 5)); (with_reducible exact H); (repeat rfl); intro w' H') | ((repeat (with_reducible apply Hp.set' 6)); (with_reducible exact H); (repeat rfl); intro w' H') | ((repeat (with_reducible apply Hp.set' 7)); (with_reducible exact H); (repeat rfl); intro w' H')); ((try simp only [List.set_cons_zero, List.set_cons_succ, List.setIfInBounds_toArray] at H'); clear C H; have H := H'; clear H'; have C := Hp.facts H; simp only [Facts, factsL, and_true, true_and, List.set_cons_zero, List.set_cons_succ, List.setIfInBounds_toArray] at C)) | go_values | go_skip | go_guarded | go_step | go_upon | go_back | (simp only [Int.not_lt, Int.not_le] at *; go_simp) | (go_values <;> (try go_simp)) | (go_ite <;> go_prune <;> (try go_simp)) | (split <;> (first | (rename_i hx; exact (hx _ rfl).elim) | go_prune))))
  refine (hOr _ _ (Hp.prs H 0 rfl).1).mono ?_
  (rintro e' w' ⟨rfl, hb'⟩; (have H' := Hp.step H hb'; clear hb'; ((try simp only [List.set_cons_zero, List.set_cons_succ, List.setIfInBounds_toArray] at H'); clear C H; have H := H'; clear H'; have C := Hp.facts H; simp only [Facts, factsL, and_true, true_and, List.set_cons_zero, List.set_cons_succ, List.setIfInBounds_toArray] at C)))
  have H' := H.tail
  ((try simp only [List.set_cons_zero, List.set_cons_succ, List.setIfInBounds_toArray] at H'); clear C H; have H := H'; clear H'; have C := Hp.facts H; simp only [Facts, factsL, and_true, true_and, List.set_cons_zero, List.set_cons_succ, List.setIfInBounds_toArray] at C)
  clear hOr
  obtain ⟨K, hKK⟩ : ∃ K, K = 6 * (m.length + 1) + 3 := ⟨_, rfl⟩
  obtain ⟨N, hNN⟩ : ∃ N, K + 1 = N := ⟨_, rfl⟩
  have hKb : N ≤ 1000 := by omega
  have hKc : K ≤ 1000 := by omega
  replace hKK := Kp.mk hKK
  replace hNN := Kp.mk hNN
  (repeat' ((fail_if_success (with_reducible show bodyPost _ _ _ _ _ _)); first | ((with_reducible refine Hp.abs_alloc H ?_); intro b' w' H' hb'; (try simp only [hb']); clear hb'; ((try simp only [List.set_cons_zero, List.set_cons_succ, List.setIfInBounds_toArray] at H'); clear C H; have H := H'; clear H'; have C := Hp.facts H; simp only [Facts, factsL, and_true, true_and, List.set_cons_zero, List.set_cons_succ, List.setIfInBounds_toArray] at C)) | ((with_reducible show wpList _ _ _ _ _ (World.setCell _ _ _)); (with_reducible apply Hp.abs_gen H); (first | ((repeat (with_reducible apply Hp.set' 0)); (with_reducible exact H); (repeat rfl); intro w' H') | ((repeat (with_reducible apply Hp.set' 1)); (with_reducible exact H); (repeat rfl); intro w' H') | ((repeat (with_reducible apply Hp.set' 2)); (with_reducible exact H); (repeat rfl); intro w' H') | ((repeat (with_reducible apply Hp.set' 3)); (with_reducible exact H); (repeat rfl); intro w' H') | ((repeat (with_reducible apply Hp.set' 4)); (with_reducible exact H); (repeat rfl); intro w' H') | ((repeat (with_reducible apply Hp.set' 5)); (with_reducible exact H); (repeat rfl); intro w' H') | ((repeat (with_reducible apply Hp.set' 6)); (with_reducible exact H); (repeat rfl); intro w' H') | ((repeat (with_reducible apply Hp.set' 7)); (with_reducible exact H); (repeat rfl); intro w' H')); ((try simp only [List.set_cons_zero, List.set_cons_succ, List.setIfInBounds_toArray] at H'); clear C H; have H := H'; clear H'; have C := Hp.facts H; simp only [Facts, factsL, and_true, true_and, List.set_cons_zero, List.set_cons_succ, List.setIfInBounds_toArray] at C)) | go_values | go_skip | go_guarded | go_step | go_upon | go_back | (simp only [Int.not_lt, Int.not_le] at *; go_simp) | (go_values <;> (try go_simp)) | (go_ite <;> go_prune <;> (try go_simp)) | (split <;> (first | (rename_i hx; exact (hx _ rfl).elim) | go_prune))))
  try simp (disch := omega) only [decide_eq_true, decide_eq_false]
  obtain ⟨wR6, rfl⟩ := Hp.nameW H
  apply region_n (frmI wR6.heap.size (fun _ => Hp _ _)) (frmI_ok ?hfs_1) frmI_sz [] [.light 0 0, .light 0 0, .light 0 0, .light 0 0, .light 0 0, .light 0 0, .light 0 0, .light 0 0, .light 0 0, .light 0 0, .light 0 0] [false, false, false, false, false, false, false, false, false, false, false] 11 84 [] [some 29, some 30, some 31, some 32, some 33, some 34, some 35, some 36, some 37, some 38, some 10] [[], [], [0, 1], [], [3], [2, 4], [5], [], [7], [6, 8], [9]] [(RowI wR6.heap.size 24 2 (0)), Eq1 _, (RowI wR6.heap.size 24 2 (m.length)), Eq1 _, (RowI wR6.heap.size 24 2 (1)), (RowI wR6.heap.size 24 2 (m.length + 1)), (RowI wR6.heap.size 3 1 (K)), Eq1 _, (RowI wR6.heap.size 3 1 (1)), (RowI wR6.heap.size 3 1 (N)), (RowI wR6.heap.size 3 1 (N))] ?hq1_1 ?hq2_1 ?hq3_1 ?hq4_1 ?hq5_1 ?hq6_1 _ ?hA_1 ?hst_1 ?h0_1 ?hsteps_1 ?hend_1
  case hq1_1 => kernel_rfl
  case hq2_1 => kernel_rfl
  case hq3_1 => kernel_rfl
  case hq5_1 => kernel_rfl
  case hq4_1 => rfl
  case hq6_1 => rfl
  case hA_1 => intro vs; simp only [fillD, Nat.reduceAdd, Act.put, List.setIfInBounds_toArray, List.set_cons_zero, List.set_cons_succ]; rfl
  case h0_1 => exact H.drew
  case hfs_1 => exact fun _ _ _ hb h => Hp.stepI h hb (fun k hk => Hp.lows H k hk) H.low.size
  case hsteps_1 =>
    refine ⟨?_, ?_, ?_, ?_, ?_, ?_, ?_, ?_, ?_, ?_, ?_, trivial⟩
    · intro p vs w' K hJ hp1 hp2 hS hR hK
      rw [if_pos (by rfl)]
      go_step
      exact hK.out _ _ (PreI.of ((Below.refl _ _).alloc (Nat.le_refl _) _)) (RowI.new (c := #[]) hR.1 rfl (by unfold maxLen; omega) (by intro u hu; simp at hu)) Fresh.no
    · intro p vs w' K hJ hp1 hp2 hS hR hK
      rw [if_pos (by rfl)]
      go_step
      exact hK.out _ _ (PreI.of (Below.refl _ _)) Eq1.mk Fresh.no
    · intro p vs w' K hJ hp1 hp2 hS hR hK
      simp only [DepJ, List.getD_cons_zero, List.getD_cons_succ] at hJ
      obtain ⟨j0, j1, -⟩ := hJ
      have ji0 := j0
      obtain ⟨xs0, hx0, jo0⟩ := j0
      obtain ⟨A0, c0, j0⟩ := Go.LawLift.own_form jo0
      rw [j0] at jo0 ji0
      have j1 := Eq1.out j1
      simp only [j0, j1] at hK ⊢
      rw [if_pos (by rfl)]
      replace hS : Hp _ _ _ := hS
      refine wp_append_I _ _ _ rfl Try.underlying22 hi' hy0 hy1 hy2 rfl (by decide) rfl ji0 (A := Aw) (m := m.length) (c := cw) (news := pv m) rfl (pv_len m) ((Hp.prs hS 1 rfl).1).src.1 ((Hp.prs hS 1 rfl).1).src.2.2 hmi'.out (by unfold maxLen; omega) (by omega) hR.1 ?_
      intro v' w'' hp' hj
      rw [Nat.zero_add] at hj
      exact hK.out _ _ hp' hj Fresh.no
    · intro p vs w' K hJ hp1 hp2 hS hR hK
      rw [if_pos (by rfl)]
      have C := Hp.facts hS
      simp only [Facts, factsL, and_true, true_and, List.set_cons_zero, List.set_cons_succ, List.setIfInBounds_toArray] at C
      have hsz := hR.1
      go_step
      exact hK.out _ _ (PreI.of (Below.refl _ _)) Eq1.mk Fresh.no
    · intro p vs w' K hJ hp1 hp2 hS hR hK
      simp only [DepJ, List.getD_cons_zero, List.getD_cons_succ] at hJ
      obtain ⟨j3, -⟩ := hJ
      have j3 := Eq1.out j3
      simp only [j3] at hK ⊢
      rw [if_pos (by rfl)]
      go_step
      exact hK.out _ _ (PreI.of ((Below.refl _ _).alloc (Nat.le_refl _) _)) (RowI.new (c := #[.int .i64 a, .int .i64 b]) hR.1 rfl (by unfold maxLen; omega) (by intro u hu; simp at hu; rcases hu with rfl | rfl; exact ⟨_, ha, rfl⟩; exact ⟨_, hb', rfl⟩)) Fresh.no
    · intro p vs w' K hJ hp1 hp2 hS hR hK
      simp only [DepJ, List.getD_cons_zero, List.getD_cons_succ] at hJ
      obtain ⟨j2, j4, -⟩ := hJ
      have ji2 := j2
      obtain ⟨xs2, hx2, jo2⟩ := j2
      obtain ⟨A2, c2, j2⟩ := Go.LawLift.own_form jo2
      rw [j2] at jo2 ji2
      have ji4 := j4
      obtain ⟨xs4, hx4, jo4⟩ := j4
      obtain ⟨A4, c4, j4⟩ := Go.LawLift.own_form jo4
      rw [j4] at jo4 ji4
      simp only [j2, j4] at hK ⊢
      rw [if_pos (by rfl)]
      refine wp_append_I _ _ _ rfl Try.underlying22 hi' hy0 hy1 hy2 rfl (by decide) rfl ji2 (A := A4) (m := 1) (c := c4) (news := xs4) rfl (own_src jo4).2.1 (own_src jo4).1 (own_src jo4).2.2 hx4 (by unfold maxLen; omega) (by omega) hR.1 ?_
      intro v' w'' hp' hj
      exact hK.out _ _ hp' hj Fresh.no
    · intro p vs w' K hJ hp1 hp2 hS hR hK
      simp only [DepJ, List.getD_cons_zero, List.getD_cons_succ] at hJ
      obtain ⟨j5, -⟩ := hJ
      have ji5 := j5
      obtain ⟨xs5, hx5, jo5⟩ := j5
      obtain ⟨A5, c5, j5⟩ := Go.LawLift.own_form jo5
      rw [j5] at jo5 ji5
      simp only [j5] at hK ⊢
      rw [if_pos (by rfl)]
      obtain ⟨zs, hq1, hq2, e⟩ := ints_pv _ _ jo5.1 hx5
      rw [e] at jo5
      go_step
      refine (hEd zs hq1 hq2 _ _ (prs_of_own jo5).1).mono ?_
      rintro e' w'' ⟨v', E, rfl, hE, hEl, H'⟩
      have ho := ownsOf H' 0 rfl
      rw [hEl, hq1, ← hKK.out] at ho
      exact hK.out _ _ (PreI.of H'.low) (RowI.mk hR.1 (zv_ints hE) ho) Fresh.no
    · intro p vs w' K hJ hp1 hp2 hS hR hK
      rw [if_pos (by rfl)]
      go_step
      exact hK.out _ _ (PreI.of (Below.refl _ _)) Eq1.mk Fresh.no
    · intro p vs w' K hJ hp1 hp2 hS hR hK
      simp only [DepJ, List.getD_cons_zero, List.getD_cons_succ] at hJ
      obtain ⟨j7, -⟩ := hJ
      have j7 := Eq1.out j7
      simp only [j7] at hK ⊢
      rw [if_pos (by rfl)]
      go_step
      exact hK.out _ _ (PreI.of ((Below.refl _ _).alloc (Nat.le_refl _) _)) (RowI.new (c := #[.int .i64 t]) hR.1 rfl (by unfold maxLen; omega) (by intro u hu; simp at hu; subst hu; exact ⟨_, ht, rfl⟩)) Fresh.no
    · intro p vs w' K hJ hp1 hp2 hS hR hK
      simp only [DepJ, List.getD_cons_zero, List.getD_cons_succ] at hJ
      obtain ⟨j6, j8, -⟩ := hJ
      have ji6 := j6
      obtain ⟨xs6, hx6, jo6⟩ := j6
      obtain ⟨A6, c6, j6⟩ := Go.LawLift.own_form jo6
      rw [j6] at jo6 ji6
      have ji8 := j8
      obtain ⟨xs8, hx8, jo8⟩ := j8
      obtain ⟨A8, c8, j8⟩ := Go.LawLift.own_form jo8
      rw [j8] at jo8 ji8
      simp only [j6, j8] at hK ⊢
      rw [if_pos (by rfl)]
      refine wp_append_I _ _ _ rfl Try.underlying33 hi hz0 hz1 hz2 rfl (by decide) rfl ji6 (A := A8) (m := 1) (c := c8) (news := xs8) rfl (own_src jo8).2.1 (own_src jo8).1 (own_src jo8).2.2 hx8 (by unfold maxLen; omega) (by omega) hR.1 ?_
      intro v' w'' hp' hj
      rw [hNN.out] at hj
      exact hK.out _ _ hp' hj Fresh.no
    · intro p vs w' K hJ hp1 hp2 hS hR hK
      simp only [DepJ, List.getD_cons_zero, List.getD_cons_succ] at hJ
      obtain ⟨j9, -⟩ := hJ
      have ji9 := j9
      obtain ⟨xs9, hx9, jo9⟩ := j9
      obtain ⟨A9, c9, j9⟩ := Go.LawLift.own_form jo9
      rw [j9] at jo9 ji9
      simp only [j9] at hK ⊢
      rw [if_pos (by rfl)]
      go_step
      exact hK.out _ _ (PreI.refl _) ji9 Fresh.no
  case hst_1 => refine ⟨fun _ _ _ hs h => RowI.stay hs h, fun _ _ _ _ h => h, fun _ _ _ hs h => RowI.stay hs h, fun _ _ _ _ h => h, fun _ _ _ hs h => RowI.stay hs h, fun _ _ _ hs h => RowI.stay hs h, fun _ _ _ hs h => RowI.stay hs h, fun _ _ _ _ h => h, fun _ _ _ hs h => RowI.stay hs h, fun _ _ _ hs h => RowI.stay hs h, fun _ _ _ hs h => RowI.stay hs h, trivial⟩
  intro vs w' hJ hD hS hR
  simp only [AllJ, Nat.reduceAdd] at hJ
  obtain ⟨v0, v1, v2, v3, v4, v5, v6, v7, v8, v9, v10, -⟩ := hJ
  clear C
  replace v1 := Eq1.out v1
  replace v3 := Eq1.out v3
  replace v7 := Eq1.out v7
  obtain ⟨xs0, hx0, vo0⟩ := v0
  replace vo0 := (show World.ownsRow _ _ _ _ _ _ _ from vo0)
  obtain ⟨A0, c0, e0⟩ := Go.LawLift.own_form vo0
  rw [e0] at vo0
  obtain ⟨xs2, hx2, vo2⟩ := v2
  replace vo2 := (show World.ownsRow _ _ _ _ _ _ _ from vo2)
  obtain ⟨A2, c2, e2⟩ := Go.LawLift.own_form vo2
  rw [e2] at vo2
  obtain ⟨xs4, hx4, vo4⟩ := v4
  replace vo4 := (show World.ownsRow _ _ _ _ _ _ _ from vo4)
  obtain ⟨A4, c4, e4⟩ := Go.LawLift.own_form vo4
  rw [e4] at vo4
  obtain ⟨xs5, hx5, vo5⟩ := v5
  replace vo5 := (show World.ownsRow _ _ _ _ _ _ _ from vo5)
  obtain ⟨A5, c5, e5⟩ := Go.LawLift.own_form vo5
  rw [e5] at vo5
  obtain ⟨xs6, hx6, vo6⟩ := v6
  replace vo6 := (show World.ownsRow _ _ _ _ _ _ _ from vo6)
  obtain ⟨A6, c6, e6⟩ := Go.LawLift.own_form vo6
  rw [e6] at vo6
  obtain ⟨xs8, hx8, vo8⟩ := v8
  replace vo8 := (show World.ownsRow _ _ _ _ _ _ _ from vo8)
  obtain ⟨A8, c8, e8⟩ := Go.LawLift.own_form vo8
  rw [e8] at vo8
  obtain ⟨xs9, hx9, vo9⟩ := v9
  replace vo9 := (show World.ownsRow _ _ _ _ _ _ _ from vo9)
  obtain ⟨A9, c9, e9⟩ := Go.LawLift.own_form vo9
  rw [e9] at vo9
  obtain ⟨xs10, hx10, vo10⟩ := v10
  replace vo10 := (show World.ownsRow _ _ _ _ _ _ _ from vo10)
  obtain ⟨A10, c10, e10⟩ := Go.LawLift.own_form vo10
  rw [e10] at vo10
  simp only [v1, v3, v7, e0, e2, e4, e5, e6, e8, e9, e10, List.drop_succ_cons, List.drop_zero]
  refine wpList_nil' ?_
  replace hS : Hp _ _ _ := hS
  have H' := Hp.adopts hS H.low.size (fun k hk => Hp.lows H k hk) [.row _ 1 (.slice A10 _ c10) _ _] (by intro x hx; simp only [List.mem_cons, List.not_mem_nil, or_false] at hx; subst hx; exact vo10) (nodup1 _)
  simp only [List.cons_append, List.nil_append] at H'
  clear hD hR hS v1 v3 v7
  clear hx0 vo0 e0
  clear hx2 vo2 e2
  clear hx4 vo4 e4
  clear hx5 vo5 e5
  clear hx6 vo6 e6
  clear hx8 vo8 e8
  clear hx9 vo9 e9
  clear e10 vo10
  clear vs H
  have H := H'; clear H'; have C := Hp.facts H; simp only [Facts, factsL, and_true, true_and, List.set_cons_zero, List.set_cons_succ, List.setIfInBounds_toArray] at C
  obtain ⟨G, hG, rfl⟩ := ints_zv xs10 hx10
  have hGl : G.length = N := by
    have := (ownsOf H 0 rfl).1
    rw [zvs_len] at this
    omega
  replace hGl := Kp.mk hGl
  clear hx10 hEd hmi'
  (repeat' ((fail_if_success (with_reducible show bodyPost _ _ _ _ _ _)); first | ((with_reducible refine Hp.abs_alloc H ?_); intro b' w' H' hb'; (try simp only [hb']); clear hb'; ((try simp only [List.set_cons_zero, List.set_cons_succ, List.setIfInBounds_toArray] at H'); clear C H; have H := H'; clear H'; have C := Hp.facts H; simp only [Facts, factsL, and_true, true_and, List.set_cons_zero, List.set_cons_succ, List.setIfInBounds_toArray] at C)) | ((with_reducible show wpList _ _ _ _ _ (World.setCell _ _ _)); (with_reducible apply Hp.abs_gen H); (first | ((repeat (with_reducible apply Hp.set' 0)); (with_reducible exact H); (repeat rfl); intro w' H') | ((repeat (with_reducible apply Hp.set' 1)); (with_reducible exact H); (repeat rfl); intro w' H') | ((repeat (with_reducible apply Hp.set' 2)); (with_reducible exact H); (repeat rfl); intro w' H') | ((repeat (with_reducible apply Hp.set' 3)); (with_reducible exact H); (repeat rfl); intro w' H') | ((repeat (with_reducible apply Hp.set' 4)); (with_reducible exact H); (repeat rfl); intro w' H') | ((repeat (with_reducible apply Hp.set' 5)); (with_reducible exact H); (repeat rfl); intro w' H') | ((repeat (with_reducible apply Hp.set' 6)); (with_reducible exact H); (repeat rfl); intro w' H') | ((repeat (with_reducible apply Hp.set' 7)); (with_reducible exact H); (repeat rfl); intro w' H')); ((try simp only [List.set_cons_zero, List.set_cons_succ, List.setIfInBounds_toArray] at H'); clear C H; have H := H'; clear H'; have C := Hp.facts H; simp only [Facts, factsL, and_true, true_and, List.set_cons_zero, List.set_cons_succ, List.setIfInBounds_toArray] at C)) | go_values | go_skip | go_guarded | go_step | go_upon | go_back | (simp only [Int.not_lt, Int.not_le] at *; go_simp) | (go_values <;> (try go_simp)) | (go_ite <;> go_prune <;> (try go_simp)) | (split <;> (first | (rename_i hx; exact (hx _ rfl).elim) | go_prune))))
  go_loopw [11] (fun ix wr => ∃ j : Nat, j ≤ N ∧ ix = .int .i64 j ∧ Hp w [.row 3 1 (.slice A10 N c10) N (zvs G), .row 29 2 (.slice Ak k.length ck) k.length (pv k), .row 24 2 (.slice Aw m.length cw) m.length (pv m), .row 29 2 (.slice Am m.length cm) m.length (pv m), .blk sb #[.int .i64 a, .int .i64 b] 24] wr) (fun ix _ => N - (intOf ix).toNat)
  case atStart => exact ⟨0, Nat.zero_le _, rfl, H⟩
  case round =>
    clear H C
    obtain ⟨j, hj, rfl, H⟩ := hrel
    have C := Hp.facts H
    simp only [Facts, factsL, and_true, true_and, List.set_cons_zero, List.set_cons_succ, List.setIfInBounds_toArray] at C
    by_cases hlt : j < N
    · rcases Hp.rowFormN H 0 rfl with ⟨-, h, -⟩ | ⟨g, c', e, hc1, hc2⟩
      · omega
      injection e with e1 e2 e3
      subst e1 e3
      clear e2
      have hjG : j < G.length := by rw [hGl.out]; exact hlt
      have hz := zvs_at hjG
      have h1 := hAw G[j]
      have h2 := hAa G[j] (hG _ (List.getElem_mem hjG))
      have h3 := hIs G[j]
      clear hAw hAa hIs
      generalize G[j] = z at *
      generalize anyS m z = R at *
      generalize inS (a, b) z = I at *
      cases R with
      | true =>
        rw [Bool.true_and] at h2
        (repeat' ((fail_if_success (with_reducible show bodyPost _ _ _ _ _ _)); first | ((with_reducible refine Hp.abs_alloc H ?_); intro b' w' H' hb'; (try simp only [hb']); clear hb'; ((try simp only [List.set_cons_zero, List.set_cons_succ, List.setIfInBounds_toArray] at H'); clear C H; have H := H'; clear H'; have C := Hp.facts H; simp only [Facts, factsL, and_true, true_and, List.set_cons_zero, List.set_cons_succ, List.setIfInBounds_toArray] at C)) | ((with_reducible show wpList _ _ _ _ _ (World.setCell _ _ _)); (with_reducible apply Hp.abs_gen H); (first | ((repeat (with_reducible apply Hp.set' 0)); (with_reducible exact H); (repeat rfl); intro w' H') | ((repeat (with_reducible apply Hp.set' 1)); (with_reducible exact H); (repeat rfl); intro w' H') | ((repeat (with_reducible apply Hp.set' 2)); (with_reducible exact H); (repeat rfl); intro w' H') | ((repeat (with_reducible apply Hp.set' 3)); (with_reducible exact H); (repeat rfl); intro w' H') | ((repeat (with_reducible apply Hp.set' 4)); (with_reducible exact H); (repeat rfl); intro w' H') | ((repeat (with_reducible apply Hp.set' 5)); (with_reducible exact H); (repeat rfl); intro w' H') | ((repeat (with_reducible apply Hp.set' 6)); (with_reducible exact H); (repeat rfl); intro w' H') | ((repeat (with_reducible apply Hp.set' 7)); (with_reducible exact H); (repeat rfl); intro w' H')); ((try simp only [List.set_cons_zero, List.set_cons_succ, List.setIfInBounds_toArray] at H'); clear C H; have H := H'; clear H'; have C := Hp.facts H; simp only [Facts, factsL, and_true, true_and, List.set_cons_zero, List.set_cons_succ, List.setIfInBounds_toArray] at C)) | go_values | go_skip | go_guarded | go_step | go_upon | go_back | (simp only [Int.not_lt, Int.not_le] at *; go_simp) | (go_values <;> (try go_simp)) | (go_ite <;> go_prune <;> (try go_simp)) | (split <;> (first | (rename_i hx; exact (hx _ rfl).elim) | go_prune))))
        try simp (disch := omega) only [decide_eq_true, decide_eq_false]
        obtain ⟨wR10, rfl⟩ := Hp.nameW H
        apply region_n (frm wR10.heap.size (fun _ => Hp _ _)) (frm_ok ?hfs_2) frm_sz [] [.light 0 0, .light 0 0, .light 0 0, .light 0 0, .light 0 0, .light 0 0, .light 0 0, .light 0 0, .light 0 0, .light 0 0, .light 0 0, .light 0 0, .light 0 0, .light 0 0, .light 0 0, .light 0 0, .light 0 0, .light 0 0, .light 0 0, .light 0 0, .light 0 0, .light 0 0, .light 0 0] [false, false, false, false, false, false, false, false, false, false, false, false, false, false, false, false, false, false, false, false, false, false, false] 23 84 [] [some 45, some 46, some 47, some 48, some 49, some 50, some 51, some 52, some 53, some 54, some 55, some 56, some 57, some 58, some 59, some 60, some 61, some 62, some 63, some 64, some 65, some 66, some 67] [[], [0], [], [], [2, 3], [4], [1, 5], [], [], [], [8, 9], [10], [7, 11], [12], [13], [13], [13], [13, 15, 16], [13, 17], [13, 14, 18], [13, 19], [13, 20], [6, 21]] [Eq1 _, (RowS wR10.heap.size 24 2 _ _), Eq1 _, Eq1 _, Eq1 _, Eq1 _, Eq1 _, Eq1 _, Eq1 _, Eq1 _, Eq1 _, Eq1 _, Eq1 (.bool true), Eq1 _, Eq1 _, Eq1 _, Eq1 _, Eq1 _, Eq1 _, Eq1 _, Eq1 _, Eq1 _, Eq1 (.bool false)] ?hq1_2 ?hq2_2 ?hq3_2 ?hq4_2 ?hq5_2 ?hq6_2 _ ?hA_2 ?hst_2 ?h0_2 ?hsteps_2 ?hend_2
        case hq1_2 => kernel_rfl
        case hq2_2 => kernel_rfl
        case hq3_2 => kernel_rfl
        case hq5_2 => kernel_rfl
        case hq4_2 => rfl
        case hq6_2 => rfl
        case hA_2 => intro vs; simp only [fillD, Nat.reduceAdd, Act.put, List.setIfInBounds_toArray, List.set_cons_zero, List.set_cons_succ]; rfl
        case h0_2 => exact H.drew
        case hfs_2 => exact fun _ _ _ hb h => Hp.step h hb
        case hsteps_2 =>
          refine ⟨?_, ?_, ?_, ?_, ?_, ?_, ?_, ?_, ?_, ?_, ?_, ?_, ?_, ?_, ?_, ?_, ?_, ?_, ?_, ?_, ?_, ?_, ?_, trivial⟩
          · intro p vs w' K hJ hp1 hp2 hS hR hK
            rw [if_pos (by rfl)]
            go_step
            exact hK.out _ _ (Below.refl _ _) Eq1.mk Fresh.no
          · intro p vs w' K hJ hp1 hp2 hS hR hK
            simp only [DepJ, List.getD_cons_zero, List.getD_cons_succ] at hJ
            obtain ⟨j0, -⟩ := hJ
            have j0 := Eq1.out j0
            simp only [j0] at hK ⊢
            rw [if_pos (by rfl)]
            replace hS : Hp _ _ _ := hS
            go_step
            refine (hAn _ _ (Hp.prs hS 1 rfl).1).mono ?_
            rintro e' w'' ⟨v', rfl, H'⟩
            exact hK.out _ _ H'.low (RowS.mk hR.1 (ownsOf H' 0 rfl)) Fresh.no
          · intro p vs w' K hJ hp1 hp2 hS hR hK
            rw [if_pos (by rfl)]
            go_step
            exact hK.out _ _ (Below.refl _ _) Eq1.mk Fresh.no
          · intro p vs w' K hJ hp1 hp2 hS hR hK
            rw [if_pos (by rfl)]
            go_step
            exact hK.out _ _ (Below.refl _ _) Eq1.mk Fresh.no
          · intro p vs w' K hJ hp1 hp2 hS hR hK
            simp only [DepJ, List.getD_cons_zero, List.getD_cons_succ] at hJ
            obtain ⟨j2, j3, -⟩ := hJ
            have j2 := Eq1.out j2
            have j3 := Eq1.out j3
            simp only [j2, j3] at hK ⊢
            rw [if_pos (by rfl)]
            go_step
            exact hK.out _ _ (Below.refl _ _) Eq1.mk Fresh.no
          · intro p vs w' K hJ hp1 hp2 hS hR hK
            simp only [DepJ, List.getD_cons_zero, List.getD_cons_succ] at hJ
            obtain ⟨j4, -⟩ := hJ
            have j4 := Eq1.out j4
            simp only [j4] at hK ⊢
            rw [if_pos (by rfl)]
            have C := Hp.facts hS
            simp only [Facts, factsL, and_true, true_and, List.set_cons_zero, List.set_cons_succ, List.setIfInBounds_toArray] at C
            have hsz := hR.1
            replace hS : Hp _ _ _ := hS
            have hq1 := (Hp.rowCellN hS 0 rfl).2.2.2 _ _ hz
            go_step
            exact hK.out _ _ (Below.refl _ _) Eq1.mk Fresh.no
          · intro p vs w' K hJ hp1 hp2 hS hR hK
            simp only [DepJ, List.getD_cons_zero, List.getD_cons_succ] at hJ
            obtain ⟨j1, j5, -⟩ := hJ
            have jo1 := j1
            obtain ⟨A1, c1, j1⟩ := Go.LawLift.own_form jo1
            rw [j1] at jo1
            have j5 := Eq1.out j5
            simp only [j1, j5] at hK ⊢
            rw [if_pos (by rfl)]
            have C := Hp.facts hS
            simp only [Facts, factsL, and_true, true_and, List.set_cons_zero, List.set_cons_succ, List.setIfInBounds_toArray] at C
            have hsz := hR.1
            go_step
            refine (h2 _ _ (prs_of_own jo1).1).mono ?_
            rintro e' w'' ⟨rfl, hb⟩
            exact hK.out _ _ hb Eq1.mk Fresh.no
          · intro p vs w' K hJ hp1 hp2 hS hR hK
            rw [if_pos (by rfl)]
            go_step
            exact hK.out _ _ (Below.refl _ _) Eq1.mk Fresh.no
          · intro p vs w' K hJ hp1 hp2 hS hR hK
            rw [if_pos (by rfl)]
            go_step
            exact hK.out _ _ (Below.refl _ _) Eq1.mk Fresh.no
          · intro p vs w' K hJ hp1 hp2 hS hR hK
            rw [if_pos (by rfl)]
            go_step
            exact hK.out _ _ (Below.refl _ _) Eq1.mk Fresh.no
          · intro p vs w' K hJ hp1 hp2 hS hR hK
            simp only [DepJ, List.getD_cons_zero, List.getD_cons_succ] at hJ
            obtain ⟨j8, j9, -⟩ := hJ
            have j8 := Eq1.out j8
            have j9 := Eq1.out j9
            simp only [j8, j9] at hK ⊢
            rw [if_pos (by rfl)]
            go_step
            exact hK.out _ _ (Below.refl _ _) Eq1.mk Fresh.no
          · intro p vs w' K hJ hp1 hp2 hS hR hK
            simp only [DepJ, List.getD_cons_zero, List.getD_cons_succ] at hJ
            obtain ⟨j10, -⟩ := hJ
            have j10 := Eq1.out j10
            simp only [j10] at hK ⊢
            rw [if_pos (by rfl)]
            have C := Hp.facts hS
            simp only [Facts, factsL, and_true, true_and, List.set_cons_zero, List.set_cons_succ, List.setIfInBounds_toArray] at C
            have hsz := hR.1
            replace hS : Hp _ _ _ := hS
            have hq1 := (Hp.rowCellN hS 0 rfl).2.2.2 _ _ hz
            go_step
            exact hK.out _ _ (Below.refl _ _) Eq1.mk Fresh.no
          · intro p vs w' K hJ hp1 hp2 hS hR hK
            simp only [DepJ, List.getD_cons_zero, List.getD_cons_succ] at hJ
            obtain ⟨j7, j11, -⟩ := hJ
            have j7 := Eq1.out j7
            have j11 := Eq1.out j11
            simp only [j7, j11] at hK ⊢
            rw [if_pos (by rfl)]
            have C := Hp.facts hS
            simp only [Facts, factsL, and_true, true_and, List.set_cons_zero, List.set_cons_succ, List.setIfInBounds_toArray] at C
            have hsz := hR.1
            replace hS : Hp _ _ _ := hS
            go_step
            refine (h1 _ _ (Hp.prs hS 2 rfl).1).mono ?_
            rintro e' w'' ⟨rfl, hb⟩
            exact hK.out _ _ hb (Eq1.of (rfl)) Fresh.no
          · intro p vs w' K hJ hp1 hp2 hS hR hK
            simp only [DepJ, List.getD_cons_zero, List.getD_cons_succ] at hJ
            obtain ⟨j12, -⟩ := hJ
            have j12 := Eq1.out j12
            simp only [j12] at hK ⊢
            rw [if_pos (by rfl)]
            go_step
            exact hK.out _ _ (Below.refl _ _) Eq1.mk Fresh.no
          · intro p vs w' K hJ hp1 hp2 hS hR hK
            simp only [DepJ, List.getD_cons_zero, List.getD_cons_succ] at hJ
            obtain ⟨j13, -⟩ := hJ
            have j13 := Eq1.out j13
            simp only [j13] at hK ⊢
            rw [if_pos (by rfl)]
            have C := Hp.facts hS
            simp only [Facts, factsL, and_true, true_and, List.set_cons_zero, List.set_cons_succ, List.setIfInBounds_toArray] at C
            have hsz := hR.1
            go_step
            exact hK.out _ _ (Below.refl _ _) Eq1.mk Fresh.no
          · intro p vs w' K hJ hp1 hp2 hS hR hK
            simp only [DepJ, List.getD_cons_zero, List.getD_cons_succ] at hJ
            obtain ⟨j13, -⟩ := hJ
            have j13 := Eq1.out j13
            simp only [j13] at hK ⊢
            rw [if_pos (by rfl)]
            go_step
            exact hK.out _ _ (Below.refl _ _) Eq1.mk Fresh.no
          · intro p vs w' K hJ hp1 hp2 hS hR hK
            simp only [DepJ, List.getD_cons_zero, List.getD_cons_succ] at hJ
            obtain ⟨j13, -⟩ := hJ
            have j13 := Eq1.out j13
            simp only [j13] at hK ⊢
            rw [if_pos (by rfl)]
            go_step
            exact hK.out _ _ (Below.refl _ _) Eq1.mk Fresh.no
          · intro p vs w' K hJ hp1 hp2 hS hR hK
            simp only [DepJ, List.getD_cons_zero, List.getD_cons_succ] at hJ
            obtain ⟨j13, j15, j16, -⟩ := hJ
            have j13 := Eq1.out j13
            have j15 := Eq1.out j15
            have j16 := Eq1.out j16
            simp only [j13, j15, j16] at hK ⊢
            rw [if_pos (by rfl)]
            go_step
            exact hK.out _ _ (Below.refl _ _) Eq1.mk Fresh.no
          · intro p vs w' K hJ hp1 hp2 hS hR hK
            simp only [DepJ, List.getD_cons_zero, List.getD_cons_succ] at hJ
            obtain ⟨j13, j17, -⟩ := hJ
            have j13 := Eq1.out j13
            have j17 := Eq1.out j17
            simp only [j13, j17] at hK ⊢
            rw [if_pos (by rfl)]
            have C := Hp.facts hS
            simp only [Facts, factsL, and_true, true_and, List.set_cons_zero, List.set_cons_succ, List.setIfInBounds_toArray] at C
            have hsz := hR.1
            replace hS : Hp _ _ _ := hS
            have hq1 := (Hp.rowCellN hS 0 rfl).2.2.2 _ _ hz
            go_step
            exact hK.out _ _ (Below.refl _ _) Eq1.mk Fresh.no
          · intro p vs w' K hJ hp1 hp2 hS hR hK
            simp only [DepJ, List.getD_cons_zero, List.getD_cons_succ] at hJ
            obtain ⟨j13, j14, j18, -⟩ := hJ
            have j13 := Eq1.out j13
            have j14 := Eq1.out j14
            have j18 := Eq1.out j18
            simp only [j13, j14, j18] at hK ⊢
            rw [if_pos (by rfl)]
            have C := Hp.facts hS
            simp only [Facts, factsL, and_true, true_and, List.set_cons_zero, List.set_cons_succ, List.setIfInBounds_toArray] at C
            have hsz := hR.1
            go_step
            refine (h3 _).mono ?_
            rintro e' w'' ⟨rfl, hb⟩
            exact hK.out _ _ hb Eq1.mk Fresh.no
          · intro p vs w' K hJ hp1 hp2 hS hR hK
            simp only [DepJ, List.getD_cons_zero, List.getD_cons_succ] at hJ
            obtain ⟨j13, j19, -⟩ := hJ
            have j13 := Eq1.out j13
            have j19 := Eq1.out j19
            simp only [j13, j19] at hK ⊢
            rw [if_pos (by rfl)]
            go_step
            exact hK.out _ _ (Below.refl _ _) Eq1.mk Fresh.no
          · intro p vs w' K hJ hp1 hp2 hS hR hK
            simp only [DepJ, List.getD_cons_zero, List.getD_cons_succ] at hJ
            obtain ⟨j13, j20, -⟩ := hJ
            have j13 := Eq1.out j13
            have j20 := Eq1.out j20
            simp only [j13, j20] at hK ⊢
            rw [if_pos (by rfl)]
            go_step
            exact hK.out _ _ (Below.refl _ _) Eq1.mk Fresh.no
          · intro p vs w' K hJ hp1 hp2 hS hR hK
            simp only [DepJ, List.getD_cons_zero, List.getD_cons_succ] at hJ
            obtain ⟨j6, j21, -⟩ := hJ
            have j6 := Eq1.out j6
            have j21 := Eq1.out j21
            simp only [j6, j21] at hK ⊢
            rw [if_pos (by rfl)]
            go_step
            exact hK.out _ _ (Below.refl _ _) (Eq1.of (by first | rfl | (simp; done) | (simp; omega))) Fresh.no
        case hst_2 => refine ⟨fun _ _ _ _ h => h, fun _ _ _ hs h => RowS.stay hs h, fun _ _ _ _ h => h, fun _ _ _ _ h => h, fun _ _ _ _ h => h, fun _ _ _ _ h => h, fun _ _ _ _ h => h, fun _ _ _ _ h => h, fun _ _ _ _ h => h, fun _ _ _ _ h => h, fun _ _ _ _ h => h, fun _ _ _ _ h => h, fun _ _ _ _ h => h, fun _ _ _ _ h => h, fun _ _ _ _ h => h, fun _ _ _ _ h => h, fun _ _ _ _ h => h, fun _ _ _ _ h => h, fun _ _ _ _ h => h, fun _ _ _ _ h => h, fun _ _ _ _ h => h, fun _ _ _ _ h => h, fun _ _ _ _ h => h, trivial⟩
        intro vs w' hJ hD hS hR
        simp only [AllJ, Nat.reduceAdd] at hJ
        obtain ⟨v0, v1, v2, v3, v4, v5, v6, v7, v8, v9, v10, v11, v12, v13, v14, v15, v16, v17, v18, v19, v20, v21, v22, -⟩ := hJ
        clear C
        replace v0 := Eq1.out v0
        replace v2 := Eq1.out v2
        replace v3 := Eq1.out v3
        replace v4 := Eq1.out v4
        replace v5 := Eq1.out v5
        replace v6 := Eq1.out v6
        replace v7 := Eq1.out v7
        replace v8 := Eq1.out v8
        replace v9 := Eq1.out v9
        replace v10 := Eq1.out v10
        replace v11 := Eq1.out v11
        replace v12 := Eq1.out v12
        replace v13 := Eq1.out v13
        replace v14 := Eq1.out v14
        replace v15 := Eq1.out v15
        replace v16 := Eq1.out v16
        replace v17 := Eq1.out v17
        replace v18 := Eq1.out v18
        replace v19 := Eq1.out v19
        replace v20 := Eq1.out v20
        replace v21 := Eq1.out v21
        replace v22 := Eq1.out v22
        have vo1 := (show World.ownsRow _ _ _ _ _ _ _ from v1)
        obtain ⟨A1, c1, e1⟩ := Go.LawLift.own_form vo1
        rw [e1] at vo1
        simp only [v0, v2, v3, v4, v5, v6, v7, v8, v9, v10, v11, v12, v13, v14, v15, v16, v17, v18, v19, v20, v21, v22, e1, List.drop_succ_cons, List.drop_zero]
        refine wpList_nil' ?_
        have H' : Hp _ _ _ := hS
        clear hD hR hS v0 v2 v3 v4 v5 v6 v7 v8 v9 v10 v11 v12 v13 v14 v15 v16 v17 v18 v19 v20 v21 v22
        clear vo1 e1 v1
        clear vs H
        have H := H'; clear H'; have C := Hp.facts H; simp only [Facts, factsL, and_true, true_and, List.set_cons_zero, List.set_cons_succ, List.setIfInBounds_toArray] at C
        (repeat' ((fail_if_success (with_reducible show bodyPost _ _ _ _ _ _)); first | ((with_reducible refine Hp.abs_alloc H ?_); intro b' w' H' hb'; (try simp only [hb']); clear hb'; ((try simp only [List.set_cons_zero, List.set_cons_succ, List.setIfInBounds_toArray] at H'); clear C H; have H := H'; clear H'; have C := Hp.facts H; simp only [Facts, factsL, and_true, true_and, List.set_cons_zero, List.set_cons_succ, List.setIfInBounds_toArray] at C)) | ((with_reducible show wpList _ _ _ _ _ (World.setCell _ _ _)); (with_reducible apply Hp.abs_gen H); (first | ((repeat (with_reducible apply Hp.set' 0)); (with_reducible exact H); (repeat rfl); intro w' H') | ((repeat (with_reducible apply Hp.set' 1)); (with_reducible exact H); (repeat rfl); intro w' H') | ((repeat (with_reducible apply Hp.set' 2)); (with_reducible exact H); (repeat rfl); intro w' H') | ((repeat (with_reducible apply Hp.set' 3)); (with_reducible exact H); (repeat rfl); intro w' H') | ((repeat (with_reducible apply Hp.set' 4)); (with_reducible exact H); (repeat rfl); intro w' H') | ((repeat (with_reducible apply Hp.set' 5)); (with_reducible exact H); (repeat rfl); intro w' H') | ((repeat (with_reducible apply Hp.set' 6)); (with_reducible exact H); (repeat rfl); intro w' H') | ((repeat (with_reducible apply Hp.set' 7)); (with_reducible exact H); (repeat rfl); intro w' H')); ((try simp only [List.set_cons_zero, List.set_cons_succ, List.setIfInBounds_toArray] at H'); clear C H; have H := H'; clear H'; have C := Hp.facts H; simp only [Facts, factsL, and_true, true_and, List.set_cons_zero, List.set_cons_succ, List.setIfInBounds_toArray] at C)) | go_values | go_skip | go_guarded | go_step | go_upon | go_back | (simp only [Int.not_lt, Int.not_le] at *; go_simp) | (go_values <;> (try go_simp)) | (go_ite <;> go_prune <;> (try go_simp)) | (split <;> (first | (rename_i hx; exact (hx _ rfl).elim) | go_prune))))
        exact ⟨⟨j + 1, by omega, by go_num, H⟩, by simp [intOf]; omega⟩
      | false =>
        rw [Bool.false_and] at h2
        (repeat' ((fail_if_success (with_reducible show bodyPost _ _ _ _ _ _)); first | ((with_reducible refine Hp.abs_alloc H ?_); intro b' w' H' hb'; (try simp only [hb']); clear hb'; ((try simp only [List.set_cons_zero, List.set_cons_succ, List.setIfInBounds_toArray] at H'); clear C H; have H := H'; clear H'; have C := Hp.facts H; simp only [Facts, factsL, and_true, true_and, List.set_cons_zero, List.set_cons_succ, List.setIfInBounds_toArray] at C)) | ((with_reducible show wpList _ _ _ _ _ (World.setCell _ _ _)); (with_reducible apply Hp.abs_gen H); (first | ((repeat (with_reducible apply Hp.set' 0)); (with_reducible exact H); (repeat rfl); intro w' H') | ((repeat (with_reducible apply Hp.set' 1)); (with_reducible exact H); (repeat rfl); intro w' H') | ((repeat (with_reducible apply Hp.set' 2)); (with_reducible exact H); (repeat rfl); intro w' H') | ((repeat (with_reducible apply Hp.set' 3)); (with_reducible exact H); (repeat rfl); intro w' H') | ((repeat (with_reducible apply Hp.set' 4)); (with_reducible exact H); (repeat rfl); intro w' H') | ((repeat (with_reducible apply Hp.set' 5)); (with_reducible exact H); (repeat rfl); intro w' H') | ((repeat (with_reducible apply Hp.set' 6)); (with_reducible exact H); (repeat rfl); intro w' H') | ((repeat (with_reducible apply Hp.set' 7)); (with_reducible exact H); (repeat rfl); intro w' H')); ((try simp only [List.set_cons_zero, List.set_cons_succ, List.setIfInBounds_toArray] at H'); clear C H; have H := H'; clear H'; have C := Hp.facts H; simp only [Facts, factsL, and_true, true_and, List.set_cons_zero, List.set_cons_succ, List.setIfInBounds_toArray] at C)) | go_values | go_skip | go_guarded | go_step | go_upon | go_back | (simp only [Int.not_lt, Int.not_le] at *; go_simp) | (go_values <;> (try go_simp)) | (go_ite <;> go_prune <;> (try go_simp)) | (split <;> (first | (rename_i hx; exact (hx _ rfl).elim) | go_prune))))
        try simp (disch := omega) only [decide_eq_true, decide_eq_false]
        obtain ⟨wR10, rfl⟩ := Hp.nameW H
        apply region_n (frm wR10.heap.size (fun _ => Hp _ _)) (frm_ok ?hfs_3) frm_sz [] [.light 0 0, .light 0 0, .light 0 0, .light 0 0, .light 0 0, .light 0 0, .light 0 0, .light 0 0, .light 0 0, .light 0 0, .light 0 0, .light 0 0, .light 0 0, .light 0 0, .light 0 0, .light 0 0, .light 0 0, .light 0 0, .light 0 0, .light 0 0, .light 0 0, .light 0 0, .light 0 0] [false, false, false, false, false, false, false, false, false, false, false, false, false, false, false, false, false, false, false, false, false, false, false] 23 84 [] [some 45, some 46, some 47, some 48, some 49, some 50, some 51, some 52, some 53, some 54, some 55, some 56, some 57, some 58, some 59, some 60, some 61, some 62, some 63, some 64, some 65, some 66, some 67] [[], [0], [], [], [2, 3], [4], [1, 5], [], [], [], [8, 9], [10], [7, 11], [12], [13], [13], [13], [13, 15, 16], [13, 17], [13, 14, 18], [13, 19], [13, 20], [6, 21]] [Eq1 _, (RowS wR10.heap.size 24 2 _ _), Eq1 _, Eq1 _, Eq1 _, Eq1 _, Eq1 _, Eq1 _, Eq1 _, Eq1 _, Eq1 _, Eq1 _, Eq1 (.bool false), Eq1 _, Eq1 _, Eq1 _, Eq1 _, Eq1 _, Eq1 _, Eq1 _, Eq1 _, Eq1 _, Eq1 (.bool false)] ?hq1_3 ?hq2_3 ?hq3_3 ?hq4_3 ?hq5_3 ?hq6_3 _ ?hA_3 ?hst_3 ?h0_3 ?hsteps_3 ?hend_3
        case hq1_3 => kernel_rfl
        case hq2_3 => kernel_rfl
        case hq3_3 => kernel_rfl
        case hq5_3 => kernel_rfl
        case hq4_3 => rfl
        case hq6_3 => rfl
        case hA_3 => intro vs; simp only [fillD, Nat.reduceAdd, Act.put, List.setIfInBounds_toArray, List.set_cons_zero, List.set_cons_succ]; rfl
        case h0_3 => exact H.drew
        case hfs_3 => exact fun _ _ _ hb h => Hp.step h hb
        case hsteps_3 =>
          refine ⟨?_, ?_, ?_, ?_, ?_, ?_, ?_, ?_, ?_, ?_, ?_, ?_, ?_, ?_, ?_, ?_, ?_, ?_, ?_, ?_, ?_, ?_, ?_, trivial⟩
          · intro p vs w' K hJ hp1 hp2 hS hR hK
            rw [if_pos (by rfl)]
            go_step
            exact hK.out _ _ (Below.refl _ _) Eq1.mk Fresh.no
          · intro p vs w' K hJ hp1 hp2 hS hR hK
            simp only [DepJ, List.getD_cons_zero, List.getD_cons_succ] at hJ
            obtain ⟨j0, -⟩ := hJ
            have j0 := Eq1.out j0
            simp only [j0] at hK ⊢
            rw [if_pos (by rfl)]
            replace hS : Hp _ _ _ := hS
            go_step
            refine (hAn _ _ (Hp.prs hS 1 rfl).1).mono ?_
            rintro e' w'' ⟨v', rfl, H'⟩
            exact hK.out _ _ H'.low (RowS.mk hR.1 (ownsOf H' 0 rfl)) Fresh.no
          · intro p vs w' K hJ hp1 hp2 hS hR hK
            rw [if_pos (by rfl)]
            go_step
            exact hK.out _ _ (Below.refl _ _) Eq1.mk Fresh.no
          · intro p vs w' K hJ hp1 hp2 hS hR hK
            rw [if_pos (by rfl)]
            go_step
            exact hK.out _ _ (Below.refl _ _) Eq1.mk Fresh.no
          · intro p vs w' K hJ hp1 hp2 hS hR hK
            simp only [DepJ, List.getD_cons_zero, List.getD_cons_succ] at hJ
            obtain ⟨j2, j3, -⟩ := hJ
            have j2 := Eq1.out j2
            have j3 := Eq1.out j3
            simp only [j2, j3] at hK ⊢
            rw [if_pos (by rfl)]
            go_step
            exact hK.out _ _ (Below.refl _ _) Eq1.mk Fresh.no
          · intro p vs w' K hJ hp1 hp2 hS hR hK
            simp only [DepJ, List.getD_cons_zero, List.getD_cons_succ] at hJ
            obtain ⟨j4, -⟩ := hJ
            have j4 := Eq1.out j4
            simp only [j4] at hK ⊢
            rw [if_pos (by rfl)]
            have C := Hp.facts hS
            simp only [Facts, factsL, and_true, true_and, List.set_cons_zero, List.set_cons_succ, List.setIfInBounds_toArray] at C
            have hsz := hR.1
            replace hS : Hp _ _ _ := hS
            have hq1 := (Hp.rowCellN hS 0 rfl).2.2.2 _ _ hz
            go_step
            exact hK.out _ _ (Below.refl _ _) Eq1.mk Fresh.no
          · intro p vs w' K hJ hp1 hp2 hS hR hK
            simp only [DepJ, List.getD_cons_zero, List.getD_cons_succ] at hJ
            obtain ⟨j1, j5, -⟩ := hJ
            have jo1 := j1
            obtain ⟨A1, c1, j1⟩ := Go.LawLift.own_form jo1
            rw [j1] at jo1
            have j5 := Eq1.out j5
            simp only [j1, j5] at hK ⊢
            rw [if_pos (by rfl)]
            have C := Hp.facts hS
            simp only [Facts, factsL, and_true, true_and, List.set_cons_zero, List.set_cons_succ, List.setIfInBounds_toArray] at C
            have hsz := hR.1
            go_step
            refine (h2 _ _ (prs_of_own jo1).1).mono ?_
            rintro e' w'' ⟨rfl, hb⟩
            exact hK.out _ _ hb Eq1.mk Fresh.no
          · intro p vs w' K hJ hp1 hp2 hS hR hK
            rw [if_pos (by rfl)]
            go_step
            exact hK.out _ _ (Below.refl _ _) Eq1.mk Fresh.no
          · intro p vs w' K hJ hp1 hp2 hS hR hK
            rw [if_pos (by rfl)]
            go_step
            exact hK.out _ _ (Below.refl _ _) Eq1.mk Fresh.no
          · intro p vs w' K hJ hp1 hp2 hS hR hK
            rw [if_pos (by rfl)]
            go_step
            exact hK.out _ _ (Below.refl _ _) Eq1.mk Fresh.no
          · intro p vs w' K hJ hp1 hp2 hS hR hK
            simp only [DepJ, List.getD_cons_zero, List.getD_cons_succ] at hJ
            obtain ⟨j8, j9, -⟩ := hJ
            have j8 := Eq1.out j8
            have j9 := Eq1.out j9
            simp only [j8, j9] at hK ⊢
            rw [if_pos (by rfl)]
            go_step
            exact hK.out _ _ (Below.refl _ _) Eq1.mk Fresh.no
          · intro p vs w' K hJ hp1 hp2 hS hR hK
            simp only [DepJ, List.getD_cons_zero, List.getD_cons_succ] at hJ
            obtain ⟨j10, -⟩ := hJ
            have j10 := Eq1.out j10
            simp only [j10] at hK ⊢
            rw [if_pos (by rfl)]
            have C := Hp.facts hS
            simp only [Facts, factsL, and_true, true_and, List.set_cons_zero, List.set_cons_succ, List.setIfInBounds_toArray] at C
            have hsz := hR.1
            replace hS : Hp _ _ _ := hS
            have hq1 := (Hp.rowCellN hS 0 rfl).2.2.2 _ _ hz
            go_step
            exact hK.out _ _ (Below.refl _ _) Eq1.mk Fresh.no
          · intro p vs w' K hJ hp1 hp2 hS hR hK
            simp only [DepJ, List.getD_cons_zero, List.getD_cons_succ] at hJ
            obtain ⟨j7, j11, -⟩ := hJ
            have j7 := Eq1.out j7
            have j11 := Eq1.out j11
            simp only [j7, j11] at hK ⊢
            rw [if_pos (by rfl)]
            have C := Hp.facts hS
            simp only [Facts, factsL, and_true, true_and, List.set_cons_zero, List.set_cons_succ, List.setIfInBounds_toArray] at C
            have hsz := hR.1
            replace hS : Hp _ _ _ := hS
            go_step
            refine (h1 _ _ (Hp.prs hS 2 rfl).1).mono ?_
            rintro e' w'' ⟨rfl, hb⟩
            exact hK.out _ _ hb (Eq1.of (rfl)) Fresh.no
          · intro p vs w' K hJ hp1 hp2 hS hR hK
            simp only [DepJ, List.getD_cons_zero, List.getD_cons_succ] at hJ
            obtain ⟨j12, -⟩ := hJ
            have j12 := Eq1.out j12
            simp only [j12] at hK ⊢
            rw [if_pos (by rfl)]
            go_step
            exact hK.out _ _ (Below.refl _ _) Eq1.mk Fresh.no
          · intro p vs w' K hJ hp1 hp2 hS hR hK
            simp only [DepJ, List.getD_cons_zero, List.getD_cons_succ] at hJ
            obtain ⟨j13, -⟩ := hJ
            have j13 := Eq1.out j13
            simp only [j13] at hK ⊢
            rw [if_neg (by simp [Region.wanted, yielded, undef])]
            exact hK.out _ _ (Below.refl _ _) Eq1.mk Fresh.no
          · intro p vs w' K hJ hp1 hp2 hS hR hK
            simp only [DepJ, List.getD_cons_zero, List.getD_cons_succ] at hJ
            obtain ⟨j13, -⟩ := hJ
            have j13 := Eq1.out j13
            simp only [j13] at hK ⊢
            rw [if_neg (by simp [Region.wanted, yielded, undef])]
            exact hK.out _ _ (Below.refl _ _) Eq1.mk Fresh.no
          · intro p vs w' K hJ hp1 hp2 hS hR hK
            simp only [DepJ, List.getD_cons_zero, List.getD_cons_succ] at hJ
            obtain ⟨j13, -⟩ := hJ
            have j13 := Eq1.out j13
            simp only [j13] at hK ⊢
            rw [if_neg (by simp [Region.wanted, yielded, undef])]
            exact hK.out _ _ (Below.refl _ _) Eq1.mk Fresh.no
          · intro p vs w' K hJ hp1 hp2 hS hR hK
            simp only [DepJ, List.getD_cons_zero, List.getD_cons_succ] at hJ
            obtain ⟨j13, j15, j16, -⟩ := hJ
            have j13 := Eq1.out j13
            have j15 := Eq1.out j15
            have j16 := Eq1.out j16
            simp only [j13, j15, j16] at hK ⊢
            rw [if_neg (by simp [Region.wanted, yielded, undef])]
            exact hK.out _ _ (Below.refl _ _) Eq1.mk Fresh.no
          · intro p vs w' K hJ hp1 hp2 hS hR hK
            simp only [DepJ, List.getD_cons_zero, List.getD_cons_succ] at hJ
            obtain ⟨j13, j17, -⟩ := hJ
            have j13 := Eq1.out j13
            have j17 := Eq1.out j17
            simp only [j13, j17] at hK ⊢
            rw [if_neg (by simp [Region.wanted, yielded, undef])]
            exact hK.out _ _ (Below.refl _ _) Eq1.mk Fresh.no
          · intro p vs w' K hJ hp1 hp2 hS hR hK
            simp only [DepJ, List.getD_cons_zero, List.getD_cons_succ] at hJ
            obtain ⟨j13, j14, j18, -⟩ := hJ
            have j13 := Eq1.out j13
            have j14 := Eq1.out j14
            have j18 := Eq1.out j18
            simp only [j13, j14, j18] at hK ⊢
            rw [if_neg (by simp [Region.wanted, yielded, undef])]
            exact hK.out _ _ (Below.refl _ _) Eq1.mk Fresh.no
          · intro p vs w' K hJ hp1 hp2 hS hR hK
            simp only [DepJ, List.getD_cons_zero, List.getD_cons_succ] at hJ
            obtain ⟨j13, j19, -⟩ := hJ
            have j13 := Eq1.out j13
            have j19 := Eq1.out j19
            simp only [j13, j19] at hK ⊢
            rw [if_neg (by simp [Region.wanted, yielded, undef])]
            exact hK.out _ _ (Below.refl _ _) Eq1.mk Fresh.no
          · intro p vs w' K hJ hp1 hp2 hS hR hK
            simp only [DepJ, List.getD_cons_zero, List.getD_cons_succ] at hJ
            obtain ⟨j13, j20, -⟩ := hJ
            have j13 := Eq1.out j13
            have j20 := Eq1.out j20
            simp only [j13, j20] at hK ⊢
            rw [if_pos (by rfl)]
            go_step
            exact hK.out _ _ (Below.refl _ _) Eq1.mk Fresh.no
          · intro p vs w' K hJ hp1 hp2 hS hR hK
            simp only [DepJ, List.getD_cons_zero, List.getD_cons_succ] at hJ
            obtain ⟨j6, j21, -⟩ := hJ
            have j6 := Eq1.out j6
            have j21 := Eq1.out j21
            simp only [j6, j21] at hK ⊢
            rw [if_pos (by rfl)]
            go_step
            exact hK.out _ _ (Below.refl _ _) (Eq1.of (by first | rfl | (simp; done) | (simp; omega))) Fresh.no
        case hst_3 => refine ⟨fun _ _ _ _ h => h, fun _ _ _ hs h => RowS.stay hs h, fun _ _ _ _ h => h, fun _ _ _ _ h => h, fun _ _ _ _ h => h, fun _ _ _ _ h => h, fun _ _ _ _ h => h, fun _ _ _ _ h => h, fun _ _ _ _ h => h, fun _ _ _ _ h => h, fun _ _ _ _ h => h, fun _ _ _ _ h => h, fun _ _ _ _ h => h, fun _ _ _ _ h => h, fun _ _ _ _ h => h, fun _ _ _ _ h => h, fun _ _ _ _ h => h, fun _ _ _ _ h => h, fun _ _ _ _ h => h, fun _ _ _ _ h => h, fun _ _ _ _ h => h, fun _ _ _ _ h => h, fun _ _ _ _ h => h, trivial⟩
        intro vs w' hJ hD hS hR
        simp only [AllJ, Nat.reduceAdd] at hJ
        obtain ⟨v0, v1, v2, v3, v4, v5, v6, v7, v8, v9, v10, v11, v12, v13, v14, v15, v16, v17, v18, v19, v20, v21, v22, -⟩ := hJ
        clear C
        replace v0 := Eq1.out v0
        replace v2 := Eq1.out v2
        replace v3 := Eq1.out v3
        replace v4 := Eq1.out v4
        replace v5 := Eq1.out v5
        replace v6 := Eq1.out v6
        replace v7 := Eq1.out v7
        replace v8 := Eq1.out v8
        replace v9 := Eq1.out v9
        replace v10 := Eq1.out v10
        replace v11 := Eq1.out v11
        replace v12 := Eq1.out v12
        replace v13 := Eq1.out v13
        replace v14 := Eq1.out v14
        replace v15 := Eq1.out v15
        replace v16 := Eq1.out v16
        replace v17 := Eq1.out v17
        replace v18 := Eq1.out v18
        replace v19 := Eq1.out v19
        replace v20 := Eq1.out v20
        replace v21 := Eq1.out v21
        replace v22 := Eq1.out v22
        have vo1 := (show World.ownsRow _ _ _ _ _ _ _ from v1)
        obtain ⟨A1, c1, e1⟩ := Go.LawLift.own_form vo1
        rw [e1] at vo1
        simp only [v0, v2, v3, v4, v5, v6, v7, v8, v9, v10, v11, v12, v13, v14, v15, v16, v17, v18, v19, v20, v21, v22, e1, List.drop_succ_cons, List.drop_zero]
        refine wpList_nil' ?_
        have H' : Hp _ _ _ := hS
        clear hD hR hS v0 v2 v3 v4 v5 v6 v7 v8 v9 v10 v11 v12 v13 v14 v15 v16 v17 v18 v19 v20 v21 v22
        clear vo1 e1 v1
        clear vs H
        have H := H'; clear H'; have C := Hp.facts H; simp only [Facts, factsL, and_true, true_and, List.set_cons_zero, List.set_cons_succ, List.setIfInBounds_toArray] at C
        (repeat' ((fail_if_success (with_reducible show bodyPost _ _ _ _ _ _)); first | ((with_reducible refine Hp.abs_alloc H ?_); intro b' w' H' hb'; (try simp only [hb']); clear hb'; ((try simp only [List.set_cons_zero, List.set_cons_succ, List.setIfInBounds_toArray] at H'); clear C H; have H := H'; clear H'; have C := Hp.facts H; simp only [Facts, factsL, and_true, true_and, List.set_cons_zero, List.set_cons_succ, List.setIfInBounds_toArray] at C)) | ((with_reducible show wpList _ _ _ _ _ (World.setCell _ _ _)); (with_reducible apply Hp.abs_gen H); (first | ((repeat (with_reducible apply Hp.set' 0)); (with_reducible exact H); (repeat rfl); intro w' H') | ((repeat (with_reducible apply Hp.set' 1)); (with_reducible exact H); (repeat rfl); intro w' H') | ((repeat (with_reducible apply Hp.set' 2)); (with_reducible exact H); (repeat rfl); intro w' H') | ((repeat (with_reducible apply Hp.set' 3)); (with_reducible exact H); (repeat rfl); intro w' H') | ((repeat (with_reducible apply Hp.set' 4)); (with_reducible exact H); (repeat rfl); intro w' H') | ((repeat (with_reducible apply Hp.set' 5)); (with_reducible exact H); (repeat rfl); intro w' H') | ((repeat (with_reducible apply Hp.set' 6)); (with_reducible exact H); (repeat rfl); intro w' H') | ((repeat (with_reducible apply Hp.set' 7)); (with_reducible exact H); (repeat rfl); intro w' H')); ((try simp only [List.set_cons_zero, List.set_cons_succ, List.setIfInBounds_toArray] at H'); clear C H; have H := H'; clear H'; have C := Hp.facts H; simp only [Facts, factsL, and_true, true_and, List.set_cons_zero, List.set_cons_succ, List.setIfInBounds_toArray] at C)) | go_values | go_skip | go_guarded | go_step | go_upon | go_back | (simp only [Int.not_lt, Int.not_le] at *; go_simp) | (go_values <;> (try go_simp)) | (go_ite <;> go_prune <;> (try go_simp)) | (split <;> (first | (rename_i hx; exact (hx _ rfl).elim) | go_prune))))
        exact ⟨⟨j + 1, by omega, by go_num, H⟩, by simp [intOf]; omega⟩
    · obtain rfl : j = N := by omega
      clear hAw hAa hIs hAn
      (repeat' ((fail_if_success (with_reducible show bodyPost _ _ _ _ _ _)); first | ((with_reducible refine Hp.abs_alloc H ?_); intro b' w' H' hb'; (try simp only [hb']); clear hb'; ((try simp only [List.set_cons_zero, List.set_cons_succ, List.setIfInBounds_toArray] at H'); clear C H; have H := H'; clear H'; have C := Hp.facts H; simp only [Facts, factsL, and_true, true_and, List.set_cons_zero, List.set_cons_succ, List.setIfInBounds_toArray] at C)) | ((with_reducible show wpList _ _ _ _ _ (World.setCell _ _ _)); (with_reducible apply Hp.abs_gen H); (first | ((repeat (with_reducible apply Hp.set' 0)); (with_reducible exact H); (repeat rfl); intro w' H') | ((repeat (with_reducible apply Hp.set' 1)); (with_reducible exact H); (repeat rfl); intro w' H') | ((repeat (with_reducible apply Hp.set' 2)); (with_reducible exact H); (repeat rfl); intro w' H') | ((repeat (with_reducible apply Hp.set' 3)); (with_reducible exact H); (repeat rfl); intro w' H') | ((repeat (with_reducible apply Hp.set' 4)); (with_reducible exact H); (repeat rfl); intro w' H') | ((repeat (with_reducible apply Hp.set' 5)); (with_reducible exact H); (repeat rfl); intro w' H') | ((repeat (with_reducible apply Hp.set' 6)); (with_reducible exact H); (repeat rfl); intro w' H') | ((repeat (with_reducible apply Hp.set' 7)); (with_reducible exact H); (repeat rfl); intro w' H')); ((try simp only [List.set_cons_zero, List.set_cons_succ, List.setIfInBounds_toArray] at H'); clear C H; have H := H'; clear H'; have C := Hp.facts H; simp only [Facts, factsL, and_true, true_and, List.set_cons_zero, List.set_cons_succ, List.setIfInBounds_toArray] at C)) | go_values | go_skip | go_guarded | go_step | go_upon | go_back | (simp only [Int.not_lt, Int.not_le] at *; go_simp) | (go_values <;> (try go_simp)) | (go_ite <;> go_prune <;> (try go_simp)) | (split <;> (first | (rename_i hx; exact (hx _ rfl).elim) | go_prune))))
      go_loopw [12] (fun ix wr => ∃ i : Nat, i ≤ m.length ∧ ix = .int .i64 i ∧ Hp w [.row 3 1 (.slice A10 j c10) j (zvs G), .row 29 2 (.slice Ak k.length ck) k.length (pv k), .row 24 2 (.slice Aw m.length cw) m.length (pv m), .row 29 2 (.slice Am m.length cm) m.length (pv m), .blk sb #[.int .i64 a, .int .i64 b] 24] wr) (fun ix _ => m.length - (intOf ix).toNat)
      case atStart => exact ⟨0, Nat.zero_le _, rfl, H⟩
      case round =>
        clear H C
        obtain ⟨i, hi3, rfl, H⟩ := hrel
        have C := Hp.facts H
        simp only [Facts, factsL, and_true, true_and, List.set_cons_zero, List.set_cons_succ, List.setIfInBounds_toArray] at C
        by_cases hlt : i < m.length
        · rcases Hp.rowFormN H 2 rfl with ⟨-, h, -⟩ | ⟨g, c', e, hc1, hc2⟩
          · omega
          injection e with e1 e2 e3
          subst e1 e3
          clear e2
          rcases Hp.rowFormN H 3 rfl with ⟨-, h, -⟩ | ⟨g3, c', e, hc3, hc4⟩
          · omega
          injection e with e1 e2 e3
          subst e1 e3
          clear e2
          have hz := pv_at hlt
          have hx1 := hz.1
          have hx2 := hz.2
          clear hz
          generalize m[i].1 = x at *
          generalize m[i].2 = y at *
          (repeat' ((fail_if_success (with_reducible show bodyPost _ _ _ _ _ _)); first | ((with_reducible refine Hp.abs_alloc H ?_); intro b' w' H' hb'; (try simp only [hb']); clear hb'; ((try simp only [List.set_cons_zero, List.set_cons_succ, List.setIfInBounds_toArray] at H'); clear C H; have H := H'; clear H'; have C := Hp.facts H; simp only [Facts, factsL, and_true, true_and, List.set_cons_zero, List.set_cons_succ, List.setIfInBounds_toArray] at C)) | ((with_reducible show wpList _ _ _ _ _ (World.setCell _ _ _)); (with_reducible apply Hp.abs_gen H); (first | ((repeat (with_reducible apply Hp.set' 0)); (with_reducible exact H); (repeat rfl); intro w' H') | ((repeat (with_reducible apply Hp.set' 1)); (with_reducible exact H); (repeat rfl); intro w' H') | ((repeat (with_reducible apply Hp.set' 2)); (with_reducible exact H); (repeat rfl); intro w' H') | ((repeat (with_reducible apply Hp.set' 3)); (with_reducible exact H); (repeat rfl); intro w' H') | ((repeat (with_reducible apply Hp.set' 4)); (with_reducible exact H); (repeat rfl); intro w' H') | ((repeat (with_reducible apply Hp.set' 5)); (with_reducible exact H); (repeat rfl); intro w' H') | ((repeat (with_reducible apply Hp.set' 6)); (with_reducible exact H); (repeat rfl); intro w' H') | ((repeat (with_reducible apply Hp.set' 7)); (with_reducible exact H); (repeat rfl); intro w' H')); ((try simp only [List.set_cons_zero, List.set_cons_succ, List.setIfInBounds_toArray] at H'); clear C H; have H := H'; clear H'; have C := Hp.facts H; simp only [Facts, factsL, and_true, true_and, List.set_cons_zero, List.set_cons_succ, List.setIfInBounds_toArray] at C)) | go_values | go_skip | go_guarded | go_step | go_upon | go_back | (simp only [Int.not_lt, Int.not_le] at *; go_simp) | (go_values <;> (try go_simp)) | (go_ite <;> go_prune <;> (try go_simp)) | (split <;> (first | (rename_i hx; exact (hx _ rfl).elim) | go_prune))))
          try simp (disch := omega) only [decide_eq_true, decide_eq_false]
          obtain ⟨wR15, rfl⟩ := Hp.nameW H
          apply region_n (frm wR15.heap.size (fun _ => Hp _ _)) (frm_ok ?hfs_4) frm_sz [] [.light 0 0, .light 0 0, .light 0 0, .light 0 0, .light 0 0, .light 0 0, .light 0 0, .light 0 0, .light 0 0, .light 0 0] [false, false, false, false, false, false, false, false, false, false] 10 84 [] [some 74, some 75, some 76, some 77, some 78, some 79, some 80, some 81, some 82, some 83] [[], [], [0, 1], [2], [3], [], [], [5, 6], [7], [4, 8]] [Eq1 _, Eq1 _, Eq1 _, Eq1 _, Eq1 _, Eq1 _, Eq1 _, Eq1 _, Eq1 _, Eq1 (.bool false)] ?hq1_4 ?hq2_4 ?hq3_4 ?hq4_4 ?hq5_4 ?hq6_4 _ ?hA_4 ?hst_4 ?h0_4 ?hsteps_4 ?hend_4
          case hq1_4 => kernel_rfl
          case hq2_4 => kernel_rfl
          case hq3_4 => kernel_rfl
          case hq5_4 => kernel_rfl
          case hq4_4 => rfl
          case hq6_4 => rfl
          case hA_4 => intro vs; simp only [fillD, Nat.reduceAdd, Act.put, List.setIfInBounds_toArray, List.set_cons_zero, List.set_cons_succ]; rfl
          case h0_4 => exact H.drew
          case hfs_4 => exact fun _ _ _ hb h => Hp.step h hb
          case hsteps_4 =>
            refine ⟨?_, ?_, ?_, ?_, ?_, ?_, ?_, ?_, ?_, ?_, trivial⟩
            · intro p vs w' K hJ hp1 hp2 hS hR hK
              rw [if_pos (by rfl)]
              go_step
              exact hK.out _ _ (Below.refl _ _) Eq1.mk Fresh.no
            · intro p vs w' K hJ hp1 hp2 hS hR hK
              rw [if_pos (by rfl)]
              go_step
              exact hK.out _ _ (Below.refl _ _) Eq1.mk Fresh.no
            · intro p vs w' K hJ hp1 hp2 hS hR hK
              simp only [DepJ, List.getD_cons_zero, List.getD_cons_succ] at hJ
              obtain ⟨j0, j1, -⟩ := hJ
              have j0 := Eq1.out j0
              have j1 := Eq1.out j1
              simp only [j0, j1] at hK ⊢
              rw [if_pos (by rfl)]
              go_step
              exact hK.out _ _ (Below.refl _ _) Eq1.mk Fresh.no
            · intro p vs w' K hJ hp1 hp2 hS hR hK
              simp only [DepJ, List.getD_cons_zero, List.getD_cons_succ] at hJ
              obtain ⟨j2, -⟩ := hJ
              have j2 := Eq1.out j2
              simp only [j2] at hK ⊢
              rw [if_pos (by rfl)]
              have C := Hp.facts hS
              simp only [Facts, factsL, and_true, true_and, List.set_cons_zero, List.set_cons_succ, List.setIfInBounds_toArray] at C
              have hsz := hR.1
              replace hS : Hp _ _ _ := hS
              have hq1 := (Hp.rowCellN hS 3 rfl).2.2.2 _ _ hx1
              have hq2 := (Hp.rowCellN hS 3 rfl).2.2.2 _ _ hx2
              go_step
              exact hK.out _ _ (Below.refl _ _) Eq1.mk Fresh.no
            · intro p vs w' K hJ hp1 hp2 hS hR hK
              simp only [DepJ, List.getD_cons_zero, List.getD_cons_succ] at hJ
              obtain ⟨j3, -⟩ := hJ
              have j3 := Eq1.out j3
              simp only [j3] at hK ⊢
              rw [if_pos (by rfl)]
              have C := Hp.facts hS
              simp only [Facts, factsL, and_true, true_and, List.set_cons_zero, List.set_cons_succ, List.setIfInBounds_toArray] at C
              have hsz := hR.1
              go_step
              refine (of_any _ _ _).mono ?_
              rintro e' w'' ⟨rfl, hb⟩
              exact hK.out _ _ hb Eq1.mk Fresh.no
            · intro p vs w' K hJ hp1 hp2 hS hR hK
              rw [if_pos (by rfl)]
              go_step
              exact hK.out _ _ (Below.refl _ _) Eq1.mk Fresh.no
            · intro p vs w' K hJ hp1 hp2 hS hR hK
              rw [if_pos (by rfl)]
              go_step
              exact hK.out _ _ (Below.refl _ _) Eq1.mk Fresh.no
            · intro p vs w' K hJ hp1 hp2 hS hR hK
              simp only [DepJ, List.getD_cons_zero, List.getD_cons_succ] at hJ
              obtain ⟨j5, j6, -⟩ := hJ
              have j5 := Eq1.out j5
              have j6 := Eq1.out j6
              simp only [j5, j6] at hK ⊢
              rw [if_pos (by rfl)]
              go_step
              exact hK.out _ _ (Below.refl _ _) Eq1.mk Fresh.no
            · intro p vs w' K hJ hp1 hp2 hS hR hK
              simp only [DepJ, List.getD_cons_zero, List.getD_cons_succ] at hJ
              obtain ⟨j7, -⟩ := hJ
              have j7 := Eq1.out j7
              simp only [j7] at hK ⊢
              rw [if_pos (by rfl)]
              have C := Hp.facts hS
              simp only [Facts, factsL, and_true, true_and, List.set_cons_zero, List.set_cons_succ, List.setIfInBounds_toArray] at C
              have hsz := hR.1
              replace hS : Hp _ _ _ := hS
              have hq1 := (Hp.rowCellN hS 2 rfl).2.2.2 _ _ hx1
              have hq2 := (Hp.rowCellN hS 2 rfl).2.2.2 _ _ hx2
              go_step
              exact hK.out _ _ (Below.refl _ _) Eq1.mk Fresh.no
            · intro p vs w' K hJ hp1 hp2 hS hR hK
              simp only [DepJ, List.getD_cons_zero, List.getD_cons_succ] at hJ
              obtain ⟨j4, j8, -⟩ := hJ
              have j4 := Eq1.out j4
              have j8 := Eq1.out j8
              simp only [j4, j8] at hK ⊢
              rw [if_pos (by rfl)]
              go_step
              exact hK.out _ _ (Below.refl _ _) (Eq1.of (by first | rfl | (simp; done) | (simp; omega))) Fresh.no
          case hst_4 => refine ⟨fun _ _ _ _ h => h, fun _ _ _ _ h => h, fun _ _ _ _ h => h, fun _ _ _ _ h => h, fun _ _ _ _ h => h, fun _ _ _ _ h => h, fun _ _ _ _ h => h, fun _ _ _ _ h => h, fun _ _ _ _ h => h, fun _ _ _ _ h => h, trivial⟩
          intro vs w' hJ hD hS hR
          simp only [AllJ, Nat.reduceAdd] at hJ
          obtain ⟨v0, v1, v2, v3, v4, v5, v6, v7, v8, v9, -⟩ := hJ
          clear C
          replace v0 := Eq1.out v0
          replace v1 := Eq1.out v1
          replace v2 := Eq1.out v2
          replace v3 := Eq1.out v3
          replace v4 := Eq1.out v4
          replace v5 := Eq1.out v5
          replace v6 := Eq1.out v6
          replace v7 := Eq1.out v7
          replace v8 := Eq1.out v8
          replace v9 := Eq1.out v9
          simp only [v0, v1, v2, v3, v4, v5, v6, v7, v8, v9, List.drop_succ_cons, List.drop_zero]
          refine wpList_nil' ?_
          have H' : Hp _ _ _ := hS
          clear hD hR hS v0 v1 v2 v3 v4 v5 v6 v7 v8 v9
          clear vs H
          have H := H'; clear H'; have C := Hp.facts H; simp only [Facts, factsL, and_true, true_and, List.set_cons_zero, List.set_cons_succ, List.setIfInBounds_toArray] at C
          (repeat' ((fail_if_success (with_reducible show bodyPost _ _ _ _ _ _)); first | ((with_reducible refine Hp.abs_alloc H ?_); intro b' w' H' hb'; (try simp only [hb']); clear hb'; ((try simp only [List.set_cons_zero, List.set_cons_succ, List.setIfInBounds_toArray] at H'); clear C H; have H := H'; clear H'; have C := Hp.facts H; simp only [Facts, factsL, and_true, true_and, List.set_cons_zero, List.set_cons_succ, List.setIfInBounds_toArray] at C)) | ((with_reducible show wpList _ _ _ _ _ (World.setCell _ _ _)); (with_reducible apply Hp.abs_gen H); (first | ((repeat (with_reducible apply Hp.set' 0)); (with_reducible exact H); (repeat rfl); intro w' H') | ((repeat (with_reducible apply Hp.set' 1)); (with_reducible exact H); (repeat rfl); intro w' H') | ((repeat (with_reducible apply Hp.set' 2)); (with_reducible exact H); (repeat rfl); intro w' H') | ((repeat (with_reducible apply Hp.set' 3)); (with_reducible exact H); (repeat rfl); intro w' H') | ((repeat (with_reducible apply Hp.set' 4)); (with_reducible exact H); (repeat rfl); intro w' H') | ((repeat (with_reducible apply Hp.set' 5)); (with_reducible exact H); (repeat rfl); intro w' H') | ((repeat (with_reducible apply Hp.set' 6)); (with_reducible exact H); (repeat rfl); intro w' H') | ((repeat (with_reducible apply Hp.set' 7)); (with_reducible exact H); (repeat rfl); intro w' H')); ((try simp only [List.set_cons_zero, List.set_cons_succ, List.setIfInBounds_toArray] at H'); clear C H; have H := H'; clear H'; have C := Hp.facts H; simp only [Facts, factsL, and_true, true_and, List.set_cons_zero, List.set_cons_succ, List.setIfInBounds_toArray] at C)) | go_values | go_skip | go_guarded | go_step | go_upon | go_back | (simp only [Int.not_lt, Int.not_le] at *; go_simp) | (go_values <;> (try go_simp)) | (go_ite <;> go_prune <;> (try go_simp)) | (split <;> (first | (rename_i hx; exact (hx _ rfl).elim) | go_prune))))
          exact ⟨⟨i + 1, by omega, by go_num, H⟩, by simp [intOf]; omega⟩
        · obtain rfl : i = m.length := by omega
          (repeat' ((fail_if_success (with_reducible show bodyPost _ _ _ _ _ _)); first | ((with_reducible refine Hp.abs_alloc H ?_); intro b' w' H' hb'; (try simp only [hb']); clear hb'; ((try simp only [List.set_cons_zero, List.set_cons_succ, List.setIfInBounds_toArray] at H'); clear C H; have H := H'; clear H'; have C := Hp.facts H; simp only [Facts, factsL, and_true, true_and, List.set_cons_zero, List.set_cons_succ, List.setIfInBounds_toArray] at C)) | ((with_reducible show wpList _ _ _ _ _ (World.setCell _ _ _)); (with_reducible apply Hp.abs_gen H); (first | ((repeat (with_reducible apply Hp.set' 0)); (with_reducible exact H); (repeat rfl); intro w' H') | ((repeat (with_reducible apply Hp.set' 1)); (with_reducible exact H); (repeat rfl); intro w' H') | ((repeat (with_reducible apply Hp.set' 2)); (with_reducible exact H); (repeat rfl); intro w' H') | ((repeat (with_reducible apply Hp.set' 3)); (with_reducible exact H); (repeat rfl); intro w' H') | ((repeat (with_reducible apply Hp.set' 4)); (with_reducible exact H); (repeat rfl); intro w' H') | ((repeat (with_reducible apply Hp.set' 5)); (with_reducible exact H); (repeat rfl); intro w' H') | ((repeat (with_reducible apply Hp.set' 6)); (with_reducible exact H); (repeat rfl); intro w' H') | ((repeat (with_reducible apply Hp.set' 7)); (with_reducible exact H); (repeat rfl); intro w' H')); ((try simp only [List.set_cons_zero, List.set_cons_succ, List.setIfInBounds_toArray] at H'); clear C H; have H := H'; clear H'; have C := Hp.facts H; simp only [Facts, factsL, and_true, true_and, List.set_cons_zero, List.set_cons_succ, List.setIfInBounds_toArray] at C)) | go_values | go_skip | go_guarded | go_step | go_upon | go_back | (simp only [Int.not_lt, Int.not_le] at *; go_simp) | (go_values <;> (try go_simp)) | (go_ite <;> go_prune <;> (try go_simp)) | (split <;> (first | (rename_i hx; exact (hx _ rfl).elim) | go_prune))))
          go_ret
          exact ⟨rfl, H.low⟩
end Go.Proofs.Ytmmjghdobdendaa

