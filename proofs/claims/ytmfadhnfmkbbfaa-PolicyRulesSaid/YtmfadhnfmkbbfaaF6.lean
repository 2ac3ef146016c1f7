/- Lemmas and walks on the way to the seat's laws; each theorem says its own conditions. -/
import Derived.Test.YtmfadhnfmkbbfaaFp
import Derived.Test.YtmfadhnfmkbbfaaRegL
set_option linter.unusedSimpArgs false
set_option linter.unusedVariables false
namespace Go.Proofs.Ytmfadhnfmkbbfaa
open Go.RowKit Go.Mem Go.Reg
theorem u64_bd (n : Int) : 0 ≤ IntKind.u64.wrap n ∧ IntKind.u64.wrap n < 18446744073709551616 := by
  have : IntKind.u64.wrap n = n % 18446744073709551616 := by simp [IntKind.wrap, IntKind.bits, IntKind.signed]
  omega
theorem m_ok (n : Int) : 0 ≤ wrap64 ((IntKind.u64.wrap n).tmod 1000000) ∧ wrap64 ((IntKind.u64.wrap n).tmod 1000000) < 1000000 := by
  have h := u64_bd n
  generalize IntKind.u64.wrap n = k at h ⊢
  rw [Int.tmod_eq_emod_of_nonneg h.1, IntWalk.wrap64_in _ (by omega)]
  omega
set_option maxHeartbeats 4000000 in
set_option maxRecDepth 100000 in
theorem law_yes (a b c : Int) (x y z : Bool) (f te age more : Int) (ha : Sp.ok a) (hf : Sp.ok f) (ht : Sp.ok te) (hg : Sp.ok age) (w : World) :
    Calls Try.prog 3 #[.agg #[.int .i64 a, .int .i64 b, .int .i64 c, .bool x, .bool y, .bool z], .int .i64 f, .bool true, .int .i64 te, .int .i64 age, .int .i64 more] w fun e w' => e = .returned (.bool true) ∧ Below w.heap.size w w' := by
  have H := Hp.start w
  have C : True := trivial
  have hm := m_ok more
  go_enter Try.func3, Try.ntmps3
  (repeat' (first | ((with_reducible refine Hp.abs_alloc H ?_); intro b' w' H' hb'; (try simp only [hb']); clear hb'; ((try simp only [List.set_cons_zero, List.set_cons_succ, List.setIfInBounds_toArray] at H'); clear C H; have H := H'; clear H'; have C := Hp.facts H; simp only [Facts, factsL, and_true, true_and, List.set_cons_zero, List.set_cons_succ, List.setIfInBounds_toArray] at C)) | ((with_reducible show wpList _ _ _ _ _ (World.setCell _ _ _)); first | ((with_reducible apply Hp.abs_gen H); (repeat (with_reducible apply Hp.set' 0)); (with_reducible exact H); (repeat rfl); intro w' H'; ((try simp only [List.set_cons_zero, List.set_cons_succ, List.setIfInBounds_toArray] at H'); clear C H; have H := H'; clear H'; have C := Hp.facts H; simp only [Facts, factsL, and_true, true_and, List.set_cons_zero, List.set_cons_succ, List.setIfInBounds_toArray] at C)) | ((with_reducible apply Hp.abs_gen H); (repeat (with_reducible apply Hp.set' 1)); (with_reducible exact H); (repeat rfl); intro w' H'; ((try simp only [List.set_cons_zero, List.set_cons_succ, List.setIfInBounds_toArray] at H'); clear C H; have H := H'; clear H'; have C := Hp.facts H; simp only [Facts, factsL, and_true, true_and, List.set_cons_zero, List.set_cons_succ, List.setIfInBounds_toArray] at C)) | ((with_reducible apply Hp.abs_gen H); (repeat (with_reducible apply Hp.set' 2)); (with_reducible exact H); (repeat rfl); intro w' H'; ((try simp only [List.set_cons_zero, List.set_cons_succ, List.setIfInBounds_toArray] at H'); clear C H; have H := H'; clear H'; have C := Hp.facts H; simp only [Facts, factsL, and_true, true_and, List.set_cons_zero, List.set_cons_succ, List.setIfInBounds_toArray] at C)) | ((with_reducible apply Hp.abs_gen H); (repeat (with_reducible apply Hp.set' 3)); (with_reducible exact H); (repeat rfl); intro w' H'; ((try simp only [List.set_cons_zero, List.set_cons_succ, List.setIfInBounds_toArray] at H'); clear C H; have H := H'; clear H'; have C := Hp.facts H; simp only [Facts, factsL, and_true, true_and, List.set_cons_zero, List.set_cons_succ, List.setIfInBounds_toArray] at C)) | ((with_reducible apply Hp.abs_gen H); (repeat (with_reducible apply Hp.set' 4)); (with_reducible exact H); (repeat rfl); intro w' H'; ((try simp only [List.set_cons_zero, List.set_cons_succ, List.setIfInBounds_toArray] at H'); clear C H; have H := H'; clear H'; have C := Hp.facts H; simp only [Facts, factsL, and_true, true_and, List.set_cons_zero, List.set_cons_succ, List.setIfInBounds_toArray] at C)) | ((with_reducible apply Hp.abs_gen H); (repeat (with_reducible apply Hp.set' 5)); (with_reducible exact H); (repeat rfl); intro w' H'; ((try simp only [List.set_cons_zero, List.set_cons_succ, List.setIfInBounds_toArray] at H'); clear C H; have H := H'; clear H'; have C := Hp.facts H; simp only [Facts, factsL, and_true, true_and, List.set_cons_zero, List.set_cons_succ, List.setIfInBounds_toArray] at C)) | ((with_reducible apply Hp.abs_gen H); (repeat (with_reducible apply Hp.set' 6)); (with_reducible exact H); (repeat rfl); intro w' H'; ((try simp only [List.set_cons_zero, List.set_cons_succ, List.setIfInBounds_toArray] at H'); clear C H; have H := H'; clear H'; have C := Hp.facts H; simp only [Facts, factsL, and_true, true_and, List.set_cons_zero, List.set_cons_succ, List.setIfInBounds_toArray] at C)) | ((with_reducible apply Hp.abs_gen H); (repeat (with_reducible apply Hp.set' 7)); (with_reducible exact H); (repeat rfl); intro w' H'; ((try simp only [List.set_cons_zero, List.set_cons_succ, List.setIfInBounds_toArray] at H'); clear C H; have H := H'; clear H'; have C := Hp.facts H; simp only [Facts, factsL, and_true, true_and, List.set_cons_zero, List.set_cons_succ, List.setIfInBounds_toArray] at C))) | (go_at_call 4; (with_reducible refine (to_any _ _ _ _ _ _ _).mono ?_); rintro e' w' ⟨rfl, hb'⟩; (have H' := Hp.step H hb'; clear hb'; ((try simp only [List.set_cons_zero, List.set_cons_succ, List.setIfInBounds_toArray] at H'); clear C H; have H := H'; clear H'; have C := Hp.facts H; simp only [Facts, factsL, and_true, true_and, List.set_cons_zero, List.set_cons_succ, List.setIfInBounds_toArray] at C))) | go_values | go_skip | go_guarded | go_step | go_upon | go_back | (simp only [Int.not_lt, Int.not_le] at *; go_simp) | (go_values <;> (try go_simp)) | (go_ite <;> go_prune <;> (try go_simp)) | (split <;> (first | (rename_i hx; exact (hx _ rfl).elim) | go_prune))))
  refine (fresh_spec _ _ _ _ _ _ _ (some te) _ _ hf ha hg _ (by exact ⟨_, rfl, ht, H.cell 1 rfl rfl, H.lt 1 rfl⟩)).mono ?_
  generalize hS : frP a b c y f (some te) age = S
  obtain ⟨s1, s2⟩ := S
  have eS := Lib.hid hS
  clear hS
  rintro e' w' ⟨rfl, hb'⟩
  rw [show spV (s1, s2) = .agg #[.int .i64 s1, .int .i64 s2] from rfl]
  (have H' := Hp.step H hb'; clear hb'; ((try simp only [List.set_cons_zero, List.set_cons_succ, List.setIfInBounds_toArray] at H'); clear C H; have H := H'; clear H'; have C := Hp.facts H; simp only [Facts, factsL, and_true, true_and, List.set_cons_zero, List.set_cons_succ, List.setIfInBounds_toArray] at C))
  (repeat' (first | ((with_reducible refine Hp.abs_alloc H ?_); intro b' w' H' hb'; (try simp only [hb']); clear hb'; ((try simp only [List.set_cons_zero, List.set_cons_succ, List.setIfInBounds_toArray] at H'); clear C H; have H := H'; clear H'; have C := Hp.facts H; simp only [Facts, factsL, and_true, true_and, List.set_cons_zero, List.set_cons_succ, List.setIfInBounds_toArray] at C)) | ((with_reducible show wpList _ _ _ _ _ (World.setCell _ _ _)); first | ((with_reducible apply Hp.abs_gen H); (repeat (with_reducible apply Hp.set' 0)); (with_reducible exact H); (repeat rfl); intro w' H'; ((try simp only [List.set_cons_zero, List.set_cons_succ, List.setIfInBounds_toArray] at H'); clear C H; have H := H'; clear H'; have C := Hp.facts H; simp only [Facts, factsL, and_true, true_and, List.set_cons_zero, List.set_cons_succ, List.setIfInBounds_toArray] at C)) | ((with_reducible apply Hp.abs_gen H); (repeat (with_reducible apply Hp.set' 1)); (with_reducible exact H); (repeat rfl); intro w' H'; ((try simp only [List.set_cons_zero, List.set_cons_succ, List.setIfInBounds_toArray] at H'); clear C H; have H := H'; clear H'; have C := Hp.facts H; simp only [Facts, factsL, and_true, true_and, List.set_cons_zero, List.set_cons_succ, List.setIfInBounds_toArray] at C)) | ((with_reducible apply Hp.abs_gen H); (repeat (with_reducible apply Hp.set' 2)); (with_reducible exact H); (repeat rfl); intro w' H'; ((try simp only [List.set_cons_zero, List.set_cons_succ, List.setIfInBounds_toArray] at H'); clear C H; have H := H'; clear H'; have C := Hp.facts H; simp only [Facts, factsL, and_true, true_and, List.set_cons_zero, List.set_cons_succ, List.setIfInBounds_toArray] at C)) | ((with_reducible apply Hp.abs_gen H); (repeat (with_reducible apply Hp.set' 3)); (with_reducible exact H); (repeat rfl); intro w' H'; ((try simp only [List.set_cons_zero, List.set_cons_succ, List.setIfInBounds_toArray] at H'); clear C H; have H := H'; clear H'; have C := Hp.facts H; simp only [Facts, factsL, and_true, true_and, List.set_cons_zero, List.set_cons_succ, List.setIfInBounds_toArray] at C)) | ((with_reducible apply Hp.abs_gen H); (repeat (with_reducible apply Hp.set' 4)); (with_reducible exact H); (repeat rfl); intro w' H'; ((try simp only [List.set_cons_zero, List.set_cons_succ, List.setIfInBounds_toArray] at H'); clear C H; have H := H'; clear H'; have C := Hp.facts H; simp only [Facts, factsL, and_true, true_and, List.set_cons_zero, List.set_cons_succ, List.setIfInBounds_toArray] at C)) | ((with_reducible apply Hp.abs_gen H); (repeat (with_reducible apply Hp.set' 5)); (with_reducible exact H); (repeat rfl); intro w' H'; ((try simp only [List.set_cons_zero, List.set_cons_succ, List.setIfInBounds_toArray] at H'); clear C H; have H := H'; clear H'; have C := Hp.facts H; simp only [Facts, factsL, and_true, true_and, List.set_cons_zero, List.set_cons_succ, List.setIfInBounds_toArray] at C)) | ((with_reducible apply Hp.abs_gen H); (repeat (with_reducible apply Hp.set' 6)); (with_reducible exact H); (repeat rfl); intro w' H'; ((try simp only [List.set_cons_zero, List.set_cons_succ, List.setIfInBounds_toArray] at H'); clear C H; have H := H'; clear H'; have C := Hp.facts H; simp only [Facts, factsL, and_true, true_and, List.set_cons_zero, List.set_cons_succ, List.setIfInBounds_toArray] at C)) | ((with_reducible apply Hp.abs_gen H); (repeat (with_reducible apply Hp.set' 7)); (with_reducible exact H); (repeat rfl); intro w' H'; ((try simp only [List.set_cons_zero, List.set_cons_succ, List.setIfInBounds_toArray] at H'); clear C H; have H := H'; clear H'; have C := Hp.facts H; simp only [Facts, factsL, and_true, true_and, List.set_cons_zero, List.set_cons_succ, List.setIfInBounds_toArray] at C))) | go_values | go_skip | go_guarded | go_step | go_upon | go_back | (simp only [Int.not_lt, Int.not_le] at *; go_simp) | (go_values <;> (try go_simp)) | (go_ite <;> go_prune <;> (try go_simp)) | (split <;> (first | (rename_i hx; exact (hx _ rfl).elim) | go_prune))))
  generalize wrap64 ((IntKind.u64.wrap more).tmod 1000000) = m at *
  have hmk : Sp.ok m := ⟨by omega, by omega⟩
  have gA := sadd_ok a m
  have gB := sadd_ok age m
  refine (add_blk _ _ ha hmk _ _ _ (H.get 0 rfl)).mono ?_
  generalize hA : Sp.sadd a m = A at gA
  have eA := Lib.hid hA
  clear hA
  rintro e' w' ⟨rfl, rfl⟩
  (repeat' (first | ((with_reducible refine Hp.abs_alloc H ?_); intro b' w' H' hb'; (try simp only [hb']); clear hb'; ((try simp only [List.set_cons_zero, List.set_cons_succ, List.setIfInBounds_toArray] at H'); clear C H; have H := H'; clear H'; have C := Hp.facts H; simp only [Facts, factsL, and_true, true_and, List.set_cons_zero, List.set_cons_succ, List.setIfInBounds_toArray] at C)) | ((with_reducible show wpList _ _ _ _ _ (World.setCell _ _ _)); first | ((with_reducible apply Hp.abs_gen H); (repeat (with_reducible apply Hp.set' 0)); (with_reducible exact H); (repeat rfl); intro w' H'; ((try simp only [List.set_cons_zero, List.set_cons_succ, List.setIfInBounds_toArray] at H'); clear C H; have H := H'; clear H'; have C := Hp.facts H; simp only [Facts, factsL, and_true, true_and, List.set_cons_zero, List.set_cons_succ, List.setIfInBounds_toArray] at C)) | ((with_reducible apply Hp.abs_gen H); (repeat (with_reducible apply Hp.set' 1)); (with_reducible exact H); (repeat rfl); intro w' H'; ((try simp only [List.set_cons_zero, List.set_cons_succ, List.setIfInBounds_toArray] at H'); clear C H; have H := H'; clear H'; have C := Hp.facts H; simp only [Facts, factsL, and_true, true_and, List.set_cons_zero, List.set_cons_succ, List.setIfInBounds_toArray] at C)) | ((with_reducible apply Hp.abs_gen H); (repeat (with_reducible apply Hp.set' 2)); (with_reducible exact H); (repeat rfl); intro w' H'; ((try simp only [List.set_cons_zero, List.set_cons_succ, List.setIfInBounds_toArray] at H'); clear C H; have H := H'; clear H'; have C := Hp.facts H; simp only [Facts, factsL, and_true, true_and, List.set_cons_zero, List.set_cons_succ, List.setIfInBounds_toArray] at C)) | ((with_reducible apply Hp.abs_gen H); (repeat (with_reducible apply Hp.set' 3)); (with_reducible exact H); (repeat rfl); intro w' H'; ((try simp only [List.set_cons_zero, List.set_cons_succ, List.setIfInBounds_toArray] at H'); clear C H; have H := H'; clear H'; have C := Hp.facts H; simp only [Facts, factsL, and_true, true_and, List.set_cons_zero, List.set_cons_succ, List.setIfInBounds_toArray] at C)) | ((with_reducible apply Hp.abs_gen H); (repeat (with_reducible apply Hp.set' 4)); (with_reducible exact H); (repeat rfl); intro w' H'; ((try simp only [List.set_cons_zero, List.set_cons_succ, List.setIfInBounds_toArray] at H'); clear C H; have H := H'; clear H'; have C := Hp.facts H; simp only [Facts, factsL, and_true, true_and, List.set_cons_zero, List.set_cons_succ, List.setIfInBounds_toArray] at C)) | ((with_reducible apply Hp.abs_gen H); (repeat (with_reducible apply Hp.set' 5)); (with_reducible exact H); (repeat rfl); intro w' H'; ((try simp only [List.set_cons_zero, List.set_cons_succ, List.setIfInBounds_toArray] at H'); clear C H; have H := H'; clear H'; have C := Hp.facts H; simp only [Facts, factsL, and_true, true_and, List.set_cons_zero, List.set_cons_succ, List.setIfInBounds_toArray] at C)) | ((with_reducible apply Hp.abs_gen H); (repeat (with_reducible apply Hp.set' 6)); (with_reducible exact H); (repeat rfl); intro w' H'; ((try simp only [List.set_cons_zero, List.set_cons_succ, List.setIfInBounds_toArray] at H'); clear C H; have H := H'; clear H'; have C := Hp.facts H; simp only [Facts, factsL, and_true, true_and, List.set_cons_zero, List.set_cons_succ, List.setIfInBounds_toArray] at C)) | ((with_reducible apply Hp.abs_gen H); (repeat (with_reducible apply Hp.set' 7)); (with_reducible exact H); (repeat rfl); intro w' H'; ((try simp only [List.set_cons_zero, List.set_cons_succ, List.setIfInBounds_toArray] at H'); clear C H; have H := H'; clear H'; have C := Hp.facts H; simp only [Facts, factsL, and_true, true_and, List.set_cons_zero, List.set_cons_succ, List.setIfInBounds_toArray] at C))) | go_values | go_skip | go_guarded | go_step | go_upon | go_back | (simp only [Int.not_lt, Int.not_le] at *; go_simp) | (go_values <;> (try go_simp)) | (go_ite <;> go_prune <;> (try go_simp)) | (split <;> (first | (rename_i hx; exact (hx _ rfl).elim) | go_prune))))
  refine (fresh_spec _ _ _ _ _ _ _ (some te) _ _ hf gA hg _ (by exact ⟨_, rfl, ht, H.cell 4 rfl rfl, H.lt 4 rfl⟩)).mono ?_
  generalize hT : frP A b c y f (some te) age = T
  obtain ⟨t1, t2⟩ := T
  have eT := Lib.hid hT
  clear hT
  rintro e' w' ⟨rfl, hb'⟩
  rw [show spV (t1, t2) = .agg #[.int .i64 t1, .int .i64 t2] from rfl]
  (have H' := Hp.step H hb'; clear hb'; ((try simp only [List.set_cons_zero, List.set_cons_succ, List.setIfInBounds_toArray] at H'); clear C H; have H := H'; clear H'; have C := Hp.facts H; simp only [Facts, factsL, and_true, true_and, List.set_cons_zero, List.set_cons_succ, List.setIfInBounds_toArray] at C))
  (repeat' (first | ((with_reducible refine Hp.abs_alloc H ?_); intro b' w' H' hb'; (try simp only [hb']); clear hb'; ((try simp only [List.set_cons_zero, List.set_cons_succ, List.setIfInBounds_toArray] at H'); clear C H; have H := H'; clear H'; have C := Hp.facts H; simp only [Facts, factsL, and_true, true_and, List.set_cons_zero, List.set_cons_succ, List.setIfInBounds_toArray] at C)) | ((with_reducible show wpList _ _ _ _ _ (World.setCell _ _ _)); first | ((with_reducible apply Hp.abs_gen H); (repeat (with_reducible apply Hp.set' 0)); (with_reducible exact H); (repeat rfl); intro w' H'; ((try simp only [List.set_cons_zero, List.set_cons_succ, List.setIfInBounds_toArray] at H'); clear C H; have H := H'; clear H'; have C := Hp.facts H; simp only [Facts, factsL, and_true, true_and, List.set_cons_zero, List.set_cons_succ, List.setIfInBounds_toArray] at C)) | ((with_reducible apply Hp.abs_gen H); (repeat (with_reducible apply Hp.set' 1)); (with_reducible exact H); (repeat rfl); intro w' H'; ((try simp only [List.set_cons_zero, List.set_cons_succ, List.setIfInBounds_toArray] at H'); clear C H; have H := H'; clear H'; have C := Hp.facts H; simp only [Facts, factsL, and_true, true_and, List.set_cons_zero, List.set_cons_succ, List.setIfInBounds_toArray] at C)) | ((with_reducible apply Hp.abs_gen H); (repeat (with_reducible apply Hp.set' 2)); (with_reducible exact H); (repeat rfl); intro w' H'; ((try simp only [List.set_cons_zero, List.set_cons_succ, List.setIfInBounds_toArray] at H'); clear C H; have H := H'; clear H'; have C := Hp.facts H; simp only [Facts, factsL, and_true, true_and, List.set_cons_zero, List.set_cons_succ, List.setIfInBounds_toArray] at C)) | ((with_reducible apply Hp.abs_gen H); (repeat (with_reducible apply Hp.set' 3)); (with_reducible exact H); (repeat rfl); intro w' H'; ((try simp only [List.set_cons_zero, List.set_cons_succ, List.setIfInBounds_toArray] at H'); clear C H; have H := H'; clear H'; have C := Hp.facts H; simp only [Facts, factsL, and_true, true_and, List.set_cons_zero, List.set_cons_succ, List.setIfInBounds_toArray] at C)) | ((with_reducible apply Hp.abs_gen H); (repeat (with_reducible apply Hp.set' 4)); (with_reducible exact H); (repeat rfl); intro w' H'; ((try simp only [List.set_cons_zero, List.set_cons_succ, List.setIfInBounds_toArray] at H'); clear C H; have H := H'; clear H'; have C := Hp.facts H; simp only [Facts, factsL, and_true, true_and, List.set_cons_zero, List.set_cons_succ, List.setIfInBounds_toArray] at C)) | ((with_reducible apply Hp.abs_gen H); (repeat (with_reducible apply Hp.set' 5)); (with_reducible exact H); (repeat rfl); intro w' H'; ((try simp only [List.set_cons_zero, List.set_cons_succ, List.setIfInBounds_toArray] at H'); clear C H; have H := H'; clear H'; have C := Hp.facts H; simp only [Facts, factsL, and_true, true_and, List.set_cons_zero, List.set_cons_succ, List.setIfInBounds_toArray] at C)) | ((with_reducible apply Hp.abs_gen H); (repeat (with_reducible apply Hp.set' 6)); (with_reducible exact H); (repeat rfl); intro w' H'; ((try simp only [List.set_cons_zero, List.set_cons_succ, List.setIfInBounds_toArray] at H'); clear C H; have H := H'; clear H'; have C := Hp.facts H; simp only [Facts, factsL, and_true, true_and, List.set_cons_zero, List.set_cons_succ, List.setIfInBounds_toArray] at C)) | ((with_reducible apply Hp.abs_gen H); (repeat (with_reducible apply Hp.set' 7)); (with_reducible exact H); (repeat rfl); intro w' H'; ((try simp only [List.set_cons_zero, List.set_cons_succ, List.setIfInBounds_toArray] at H'); clear C H; have H := H'; clear H'; have C := Hp.facts H; simp only [Facts, factsL, and_true, true_and, List.set_cons_zero, List.set_cons_succ, List.setIfInBounds_toArray] at C))) | go_values | go_skip | go_guarded | go_step | go_upon | go_back | (simp only [Int.not_lt, Int.not_le] at *; go_simp) | (go_values <;> (try go_simp)) | (go_ite <;> go_prune <;> (try go_simp)) | (split <;> (first | (rename_i hx; exact (hx _ rfl).elim) | go_prune))))
  generalize hB : Sp.sadd age m = B at gB
  have eB := Lib.hid hB
  clear hB
  (obtain ⟨b17, rfl⟩ := Hp.name H 0 rfl; obtain ⟨bm, rfl⟩ := Hp.name H 1 rfl; obtain ⟨b16, rfl⟩ := Hp.name H 2 rfl; obtain ⟨b15, rfl⟩ := Hp.name H 3 rfl; obtain ⟨b13, rfl⟩ := Hp.name H 4 rfl; obtain ⟨b9, rfl⟩ := Hp.name H 5 rfl; obtain ⟨b6, rfl⟩ := Hp.name H 6 rfl)
  obtain ⟨w3, rfl⟩ := Hp.nameW H
  obtain ⟨u1, u2, hU⟩ : ∃ u1 u2, frP a b c y f (some te) B = (u1, u2) := ⟨_, _, rfl⟩
  have eU := Lib.hid hU
  have hU' : spV (frP a b c y f (some te) B) = .agg #[.int .i64 u1, .int .i64 u2] := by rw [hU]; rfl
  clear hU
  refine region_bl 9 106 [some 43, some 44, some 45, some 46, some 47, some 48, some 49, some 50, some 18, none] [[], [], [], [], [], [4], [3, 5], [0, 1, 2, 6], [], [7, 8]] [fun v _ => v = polV a b c x y z, fun v _ => v = .int .i64 f, fun v _ => v = .pointer (some ⟨b9, 0, none⟩), fun v _ => v = .int .i64 age, fun v _ => v = .int .i64 m, NewSl w3.heap.size 1 #[.int .i64 m] 3, fun v _ => v = .int .i64 B, fun v _ => v = .agg #[.int .i64 u1, .int .i64 u2], NewPt w3.heap.size #[.int .i64 0, .int .i64 0] 28] (by kernel_rfl) (by kernel_rfl) (by kernel_rfl) rfl (by kernel_rfl) rfl rfl _ (fun vs => (by simp only [fillD, Nat.reduceAdd, Act.put, List.setIfInBounds_toArray, List.set_cons_zero, List.set_cons_succ, List.take_succ_cons, List.take_zero]; rfl)) _ (fun vs => (by simp only [fillD, Nat.reduceAdd, Act.put, List.setIfInBounds_toArray, List.set_cons_zero, List.set_cons_succ]; rfl)) ?_ ?_ ?_
  · refine ⟨fun _ _ _ _ h => h, fun _ _ _ _ h => h, fun _ _ _ _ h => h, fun _ _ _ _ h => h, fun _ _ _ _ h => h, fun _ _ _ hr h => h.stay fun k _ hl => hr.block k hl, fun _ _ _ _ h => h, fun _ _ _ _ h => h, fun _ _ _ hr h => h.stay fun k _ hl => hr.block k hl, trivial⟩
  · refine ⟨?_, ?_, ?_, ?_, ?_, ?_, ?_, ?_, ?_, trivial⟩
    · intro vs w' K hJ hR hK
      rw [if_pos (by rfl)]
      have H1 := Hp.step H.drew hR
      have C := Hp.facts H1
      simp only [Facts, factsL, and_true, true_and, List.set_cons_zero, List.set_cons_succ, List.setIfInBounds_toArray] at C
      go_step
      exact hK.out _ _ (Below.refl _ _) rfl
    · intro vs w' K hJ hR hK
      rw [if_pos (by rfl)]
      go_step
      exact hK.out _ _ (Below.refl _ _) (rfl)
    · intro vs w' K hJ hR hK
      rw [if_pos (by rfl)]
      go_step
      exact hK.out _ _ (Below.refl _ _) (rfl)
    · intro vs w' K hJ hR hK
      rw [if_pos (by rfl)]
      go_step
      exact hK.out _ _ (Below.refl _ _) (rfl)
    · intro vs w' K hJ hR hK
      rw [if_pos (by rfl)]
      go_step
      exact hK.out _ _ (Below.refl _ _) (rfl)
    · intro vs w' K hJ hR hK
      simp only [DepJ, List.getD_cons_zero, List.getD_cons_succ] at hJ
      obtain ⟨j4, -⟩ := hJ
      simp only [j4] at hK ⊢
      rw [if_pos (by rfl)]
      go_step
      exact hK.out _ _ ((Below.refl _ _).alloc (Nat.le_refl _) _) (NewSl.mk _ _ _ _ _ hR.size)
    · intro vs w' K hJ hR hK
      simp only [DepJ, List.getD_cons_zero, List.getD_cons_succ] at hJ
      obtain ⟨j3, j5, -⟩ := hJ
      obtain ⟨k5, j5, hB5, hh5⟩ := j5
      simp only [j3, j5] at hK ⊢
      rw [if_pos (by rfl)]
      go_step
      refine (add_blk _ _ hg hmk _ _ _ hh5).mono ?_
      rintro e' w'' ⟨rfl, rfl⟩
      rw [eB.out]
      exact hK.out _ _ (BelowR.refl _) rfl
    · intro vs w' K hJ hR hK
      simp only [DepJ, List.getD_cons_zero, List.getD_cons_succ] at hJ
      obtain ⟨j0, j1, j2, j6, -⟩ := hJ
      simp only [j0, j1, j2, j6] at hK ⊢
      rw [if_pos (by rfl)]
      have H1 := Hp.step H.drew hR
      go_step
      refine (fresh_spec _ _ _ _ _ _ _ (some te) _ _ hf ha gB _ (by exact ⟨_, rfl, ht, H1.cell 5 rfl rfl, H1.lt 5 rfl⟩)).mono ?_
      rintro e' w'' ⟨rfl, hb⟩
      rw [hU']
      exact hK.out _ _ hb rfl
    · intro vs w' K hJ hR hK
      rw [if_pos (by rfl)]
      go_step
      exact hK.out _ _ ((Below.refl _ _).alloc (Nat.le_refl _) _) (NewPt.mk _ _ _ _ hR.size)
  intro vs w' hJ hR
  simp only [AllJ, Nat.reduceAdd] at hJ
  obtain ⟨v0, v1, v2, v3, v4, v5, v6, v7, v8, -⟩ := hJ
  obtain ⟨b18, e8, hB8, hh8⟩ := v8
  have H' := Hp.adopt H.drew hR (.blk b18 #[.int .i64 0, .int .i64 0] 28) ⟨hh8, hB8⟩
  ((try simp only [List.set_cons_zero, List.set_cons_succ, List.setIfInBounds_toArray] at H'); clear C H; have H := H'; clear H'; have C := Hp.facts H; simp only [Facts, factsL, and_true, true_and, List.set_cons_zero, List.set_cons_succ, List.setIfInBounds_toArray] at C)
  simp only [v0, v1, v2, v3, v4, v6, v7, e8]
  clear v0 v1 v2 v3 v4 v5 v6 v7 e8 hB8 hh8 hR
  rw [if_pos (by rfl)]
  have LW := Lib.hid (fr_law hf ha hg (fun t h => by injection h with h; rw [← h]; exact ht) hm.1 eA.out eB.out eS.out eT.out eU.out)
  clear eB eS eT eU eA
  generalize hF : Sp.ssub f a = F at LW
  have eF := Lib.hid hF
  clear hF
  rcases LW.out with ⟨rfl, rfl⟩ | ⟨q0, q1, q2, q3, q4, q5⟩
  · clear LW
    (repeat' (first | ((with_reducible refine Hp.abs_alloc H ?_); intro b' w' H' hb'; (try simp only [hb']); clear hb'; ((try simp only [List.set_cons_zero, List.set_cons_succ, List.setIfInBounds_toArray] at H'); clear C H; have H := H'; clear H'; have C := Hp.facts H; simp only [Facts, factsL, and_true, true_and, List.set_cons_zero, List.set_cons_succ, List.setIfInBounds_toArray] at C)) | ((with_reducible show wpList _ _ _ _ _ (World.setCell _ _ _)); first | ((with_reducible apply Hp.abs_gen H); (repeat (with_reducible apply Hp.set' 0)); (with_reducible exact H); (repeat rfl); intro w' H'; ((try simp only [List.set_cons_zero, List.set_cons_succ, List.setIfInBounds_toArray] at H'); clear C H; have H := H'; clear H'; have C := Hp.facts H; simp only [Facts, factsL, and_true, true_and, List.set_cons_zero, List.set_cons_succ, List.setIfInBounds_toArray] at C)) | ((with_reducible apply Hp.abs_gen H); (repeat (with_reducible apply Hp.set' 1)); (with_reducible exact H); (repeat rfl); intro w' H'; ((try simp only [List.set_cons_zero, List.set_cons_succ, List.setIfInBounds_toArray] at H'); clear C H; have H := H'; clear H'; have C := Hp.facts H; simp only [Facts, factsL, and_true, true_and, List.set_cons_zero, List.set_cons_succ, List.setIfInBounds_toArray] at C)) | ((with_reducible apply Hp.abs_gen H); (repeat (with_reducible apply Hp.set' 2)); (with_reducible exact H); (repeat rfl); intro w' H'; ((try simp only [List.set_cons_zero, List.set_cons_succ, List.setIfInBounds_toArray] at H'); clear C H; have H := H'; clear H'; have C := Hp.facts H; simp only [Facts, factsL, and_true, true_and, List.set_cons_zero, List.set_cons_succ, List.setIfInBounds_toArray] at C)) | ((with_reducible apply Hp.abs_gen H); (repeat (with_reducible apply Hp.set' 3)); (with_reducible exact H); (repeat rfl); intro w' H'; ((try simp only [List.set_cons_zero, List.set_cons_succ, List.setIfInBounds_toArray] at H'); clear C H; have H := H'; clear H'; have C := Hp.facts H; simp only [Facts, factsL, and_true, true_and, List.set_cons_zero, List.set_cons_succ, List.setIfInBounds_toArray] at C)) | ((with_reducible apply Hp.abs_gen H); (repeat (with_reducible apply Hp.set' 4)); (with_reducible exact H); (repeat rfl); intro w' H'; ((try simp only [List.set_cons_zero, List.set_cons_succ, List.setIfInBounds_toArray] at H'); clear C H; have H := H'; clear H'; have C := Hp.facts H; simp only [Facts, factsL, and_true, true_and, List.set_cons_zero, List.set_cons_succ, List.setIfInBounds_toArray] at C)) | ((with_reducible apply Hp.abs_gen H); (repeat (with_reducible apply Hp.set' 5)); (with_reducible exact H); (repeat rfl); intro w' H'; ((try simp only [List.set_cons_zero, List.set_cons_succ, List.setIfInBounds_toArray] at H'); clear C H; have H := H'; clear H'; have C := Hp.facts H; simp only [Facts, factsL, and_true, true_and, List.set_cons_zero, List.set_cons_succ, List.setIfInBounds_toArray] at C)) | ((with_reducible apply Hp.abs_gen H); (repeat (with_reducible apply Hp.set' 6)); (with_reducible exact H); (repeat rfl); intro w' H'; ((try simp only [List.set_cons_zero, List.set_cons_succ, List.setIfInBounds_toArray] at H'); clear C H; have H := H'; clear H'; have C := Hp.facts H; simp only [Facts, factsL, and_true, true_and, List.set_cons_zero, List.set_cons_succ, List.setIfInBounds_toArray] at C)) | ((with_reducible apply Hp.abs_gen H); (repeat (with_reducible apply Hp.set' 7)); (with_reducible exact H); (repeat rfl); intro w' H'; ((try simp only [List.set_cons_zero, List.set_cons_succ, List.setIfInBounds_toArray] at H'); clear C H; have H := H'; clear H'; have C := Hp.facts H; simp only [Facts, factsL, and_true, true_and, List.set_cons_zero, List.set_cons_succ, List.setIfInBounds_toArray] at C))) | (go_at_call 7; (with_reducible refine (known_any _).mono ?_); rintro e' w' ⟨rfl, hb'⟩; (have H' := Hp.step H hb'; clear hb'; ((try simp only [List.set_cons_zero, List.set_cons_succ, List.setIfInBounds_toArray] at H'); clear C H; have H := H'; clear H'; have C := Hp.facts H; simp only [Facts, factsL, and_true, true_and, List.set_cons_zero, List.set_cons_succ, List.setIfInBounds_toArray] at C))) | (go_at_call 8; (with_reducible refine (empty_any _ _ _).mono ?_); rintro e' w' ⟨rfl, hb'⟩; (have H' := Hp.step H hb'; clear hb'; ((try simp only [List.set_cons_zero, List.set_cons_succ, List.setIfInBounds_toArray] at H'); clear C H; have H := H'; clear H'; have C := Hp.facts H; simp only [Facts, factsL, and_true, true_and, List.set_cons_zero, List.set_cons_succ, List.setIfInBounds_toArray] at C))) | go_values | go_skip | go_guarded | go_step | go_upon | go_back | (simp only [Int.not_lt, Int.not_le] at *; go_simp) | (go_values <;> (try go_simp)) | (go_ite <;> go_prune <;> (try go_simp)) | (split <;> (first | (rename_i hx; exact (hx _ rfl).elim) | go_prune))))
    all_goals
      go_ret
      exact ⟨rfl, H.low⟩
  · clear LW
    subst q1
    have r2 := Lib.hid q2; have r3 := Lib.hid q3; have r4 := Lib.hid q4; have r5 := Lib.hid q5
    clear q2 q3 q4 q5
    (repeat' (first | ((with_reducible refine Hp.abs_alloc H ?_); intro b' w' H' hb'; (try simp only [hb']); clear hb'; ((try simp only [List.set_cons_zero, List.set_cons_succ, List.setIfInBounds_toArray] at H'); clear C H; have H := H'; clear H'; have C := Hp.facts H; simp only [Facts, factsL, and_true, true_and, List.set_cons_zero, List.set_cons_succ, List.setIfInBounds_toArray] at C)) | ((with_reducible show wpList _ _ _ _ _ (World.setCell _ _ _)); first | ((with_reducible apply Hp.abs_gen H); (repeat (with_reducible apply Hp.set' 0)); (with_reducible exact H); (repeat rfl); intro w' H'; ((try simp only [List.set_cons_zero, List.set_cons_succ, List.setIfInBounds_toArray] at H'); clear C H; have H := H'; clear H'; have C := Hp.facts H; simp only [Facts, factsL, and_true, true_and, List.set_cons_zero, List.set_cons_succ, List.setIfInBounds_toArray] at C)) | ((with_reducible apply Hp.abs_gen H); (repeat (with_reducible apply Hp.set' 1)); (with_reducible exact H); (repeat rfl); intro w' H'; ((try simp only [List.set_cons_zero, List.set_cons_succ, List.setIfInBounds_toArray] at H'); clear C H; have H := H'; clear H'; have C := Hp.facts H; simp only [Facts, factsL, and_true, true_and, List.set_cons_zero, List.set_cons_succ, List.setIfInBounds_toArray] at C)) | ((with_reducible apply Hp.abs_gen H); (repeat (with_reducible apply Hp.set' 2)); (with_reducible exact H); (repeat rfl); intro w' H'; ((try simp only [List.set_cons_zero, List.set_cons_succ, List.setIfInBounds_toArray] at H'); clear C H; have H := H'; clear H'; have C := Hp.facts H; simp only [Facts, factsL, and_true, true_and, List.set_cons_zero, List.set_cons_succ, List.setIfInBounds_toArray] at C)) | ((with_reducible apply Hp.abs_gen H); (repeat (with_reducible apply Hp.set' 3)); (with_reducible exact H); (repeat rfl); intro w' H'; ((try simp only [List.set_cons_zero, List.set_cons_succ, List.setIfInBounds_toArray] at H'); clear C H; have H := H'; clear H'; have C := Hp.facts H; simp only [Facts, factsL, and_true, true_and, List.set_cons_zero, List.set_cons_succ, List.setIfInBounds_toArray] at C)) | ((with_reducible apply Hp.abs_gen H); (repeat (with_reducible apply Hp.set' 4)); (with_reducible exact H); (repeat rfl); intro w' H'; ((try simp only [List.set_cons_zero, List.set_cons_succ, List.setIfInBounds_toArray] at H'); clear C H; have H := H'; clear H'; have C := Hp.facts H; simp only [Facts, factsL, and_true, true_and, List.set_cons_zero, List.set_cons_succ, List.setIfInBounds_toArray] at C)) | ((with_reducible apply Hp.abs_gen H); (repeat (with_reducible apply Hp.set' 5)); (with_reducible exact H); (repeat rfl); intro w' H'; ((try simp only [List.set_cons_zero, List.set_cons_succ, List.setIfInBounds_toArray] at H'); clear C H; have H := H'; clear H'; have C := Hp.facts H; simp only [Facts, factsL, and_true, true_and, List.set_cons_zero, List.set_cons_succ, List.setIfInBounds_toArray] at C)) | ((with_reducible apply Hp.abs_gen H); (repeat (with_reducible apply Hp.set' 6)); (with_reducible exact H); (repeat rfl); intro w' H'; ((try simp only [List.set_cons_zero, List.set_cons_succ, List.setIfInBounds_toArray] at H'); clear C H; have H := H'; clear H'; have C := Hp.facts H; simp only [Facts, factsL, and_true, true_and, List.set_cons_zero, List.set_cons_succ, List.setIfInBounds_toArray] at C)) | ((with_reducible apply Hp.abs_gen H); (repeat (with_reducible apply Hp.set' 7)); (with_reducible exact H); (repeat rfl); intro w' H'; ((try simp only [List.set_cons_zero, List.set_cons_succ, List.setIfInBounds_toArray] at H'); clear C H; have H := H'; clear H'; have C := Hp.facts H; simp only [Facts, factsL, and_true, true_and, List.set_cons_zero, List.set_cons_succ, List.setIfInBounds_toArray] at C))) | (go_at_call 7; (with_reducible refine (known_any _).mono ?_); rintro e' w' ⟨rfl, hb'⟩; (have H' := Hp.step H hb'; clear hb'; ((try simp only [List.set_cons_zero, List.set_cons_succ, List.setIfInBounds_toArray] at H'); clear C H; have H := H'; clear H'; have C := Hp.facts H; simp only [Facts, factsL, and_true, true_and, List.set_cons_zero, List.set_cons_succ, List.setIfInBounds_toArray] at C))) | (go_at_call 8; (with_reducible refine (empty_any _ _ _).mono ?_); rintro e' w' ⟨rfl, hb'⟩; (have H' := Hp.step H hb'; clear hb'; ((try simp only [List.set_cons_zero, List.set_cons_succ, List.setIfInBounds_toArray] at H'); clear C H; have H := H'; clear H'; have C := Hp.facts H; simp only [Facts, factsL, and_true, true_and, List.set_cons_zero, List.set_cons_succ, List.setIfInBounds_toArray] at C))) | go_values | go_skip | go_guarded | go_step | go_upon | go_back | (simp only [Int.not_lt, Int.not_le] at *; go_simp) | (go_values <;> (try go_simp)) | (go_ite <;> go_prune <;> (try go_simp)) | (split <;> (first | (rename_i hx; exact (hx _ rfl).elim) | go_prune))))
    obtain ⟨w9, rfl⟩ := Hp.nameW H
    obtain ⟨Bt, hBt⟩ : ∃ Bt : Bool, decide (t2 < t1) = Bt := ⟨_, rfl⟩
    have gBt := Lib.hid hBt
    clear hBt
    obtain ⟨Bu, hBu⟩ : ∃ Bu : Bool, decide (s2 < s1) = Bu := ⟨_, rfl⟩
    have gBu := Lib.hid hBu
    clear hBu
    have q6 : Hid (s2 < s1 ∨ (s1 ≤ s1 ∧ s2 ≤ s2)) := Or.inr ⟨Int.le_refl _, Int.le_refl _⟩
    refine region_b 106 [some 61, some 62, some 63, some 64, some 65, some 66, some 67, some 68, some 69, some 70, some 71, some 72, some 73, some 74, some 75, some 76, some 77, some 78, some 79, some 80, some 81, some 82, some 83, some 84, some 85, some 86, some 87, some 88, some 89, some 90, some 91, some 92, some 93, some 94, some 95, some 96, some 97, some 98, some 99, some 100, some 101, some 102, some 103, some 104, some 105, some 12] [[], [0], [], [], [3], [2, 4], [1, 5], [6], [7], [7, 8], [7, 9], [7, 10], [7, 11], [12], [13], [13, 14], [13, 15], [16], [16], [16, 17, 18], [13, 16, 19], [13, 20], [21], [22], [22, 23], [22, 24], [25], [25], [25, 26, 27], [22, 25, 28], [22, 29], [30], [31], [31, 32], [31, 33], [34], [34, 35], [34], [34], [34, 38], [34, 39], [34, 37, 40], [34, 36, 41], [31, 34, 42], [31, 43], [44]] [fun v _ => v = .pointer (some ⟨b15, 0, none⟩), fun v _ => v = .int .i64 s1, fun v _ => v = .int .i64 f, fun v _ => v = .pointer (some ⟨b13, 0, none⟩), fun v _ => v = .int .i64 a, fun v _ => v = .int .i64 s1, fun v _ => v = .bool true, fun v _ => v = .bool true, fun v _ => v = .pointer (some ⟨b15, 0, none⟩), fun v _ => v = .int .i64 s1, fun v _ => v = .bool false, fun v _ => v = .bool true, fun v _ => v = .bool true, fun v _ => v = .bool true, fun v _ => v = .agg #[.int .i64 t1, .int .i64 t2], fun v _ => v = .bool Bt, fun v _ => v = .bool Bt, fun v _ => Bt = false → v = .agg #[.int .i64 s1, .int .i64 s2], fun v _ => Bt = false → v = .agg #[.int .i64 t1, .int .i64 t2], fun v _ => Bt = false → v = .bool true, fun v _ => v = .bool true, fun v _ => v = .bool true, fun v _ => v = .bool true, fun v _ => v = .agg #[.int .i64 s1, .int .i64 s2], fun v _ => v = .bool Bu, fun v _ => v = .bool Bu, fun v _ => Bu = false → v = .agg #[.int .i64 s1, .int .i64 s2], fun v _ => Bu = false → v = .agg #[.int .i64 s1, .int .i64 s2], fun v _ => Bu = false → v = .bool true, fun v _ => v = .bool true, fun v _ => v = .bool true, fun v _ => v = .bool true, fun v _ => v = .bool true, fun v _ => v = .bool false, fun v _ => v = .bool false, fun v _ => v = .pointer (some ⟨b15, 1, none⟩), fun v _ => v = .int .i64 s2, fun v _ => v = .int .i64 te, fun v _ => v = .pointer (some ⟨b13, 0, none⟩), fun v _ => v = .int .i64 a, NewSl w9.heap.size 1 #[.int .i64 a] 3, fun v _ => v = .int .i64 (Sp.sadd te a), fun v _ => v = .bool true, fun v _ => v = .bool true, fun v _ => v = .bool true, fun v _ => v = .bool true] (by kernel_rfl) (by kernel_rfl) rfl (by kernel_rfl) rfl _ (fun vs => (by simp only [fillD, Nat.reduceAdd, Act.put, List.setIfInBounds_toArray, List.set_cons_zero, List.set_cons_succ]; rfl)) ?_ ?_ ?_
    · refine ⟨fun _ _ _ _ h => h, fun _ _ _ _ h => h, fun _ _ _ _ h => h, fun _ _ _ _ h => h, fun _ _ _ _ h => h, fun _ _ _ _ h => h, fun _ _ _ _ h => h, fun _ _ _ _ h => h, fun _ _ _ _ h => h, fun _ _ _ _ h => h, fun _ _ _ _ h => h, fun _ _ _ _ h => h, fun _ _ _ _ h => h, fun _ _ _ _ h => h, fun _ _ _ _ h => h, fun _ _ _ _ h => h, fun _ _ _ _ h => h, fun _ _ _ _ h => h, fun _ _ _ _ h => h, fun _ _ _ _ h => h, fun _ _ _ _ h => h, fun _ _ _ _ h => h, fun _ _ _ _ h => h, fun _ _ _ _ h => h, fun _ _ _ _ h => h, fun _ _ _ _ h => h, fun _ _ _ _ h => h, fun _ _ _ _ h => h, fun _ _ _ _ h => h, fun _ _ _ _ h => h, fun _ _ _ _ h => h, fun _ _ _ _ h => h, fun _ _ _ _ h => h, fun _ _ _ _ h => h, fun _ _ _ _ h => h, fun _ _ _ _ h => h, fun _ _ _ _ h => h, fun _ _ _ _ h => h, fun _ _ _ _ h => h, fun _ _ _ _ h => h, fun _ _ _ hr h => h.stay fun k _ hl => hr.block k hl, fun _ _ _ _ h => h, fun _ _ _ _ h => h, fun _ _ _ _ h => h, fun _ _ _ _ h => h, fun _ _ _ _ h => h, trivial⟩
    · refine ⟨?_, ?_, ?_, ?_, ?_, ?_, ?_, ?_, ?_, ?_, ?_, ?_, ?_, ?_, ?_, ?_, ?_, ?_, ?_, ?_, ?_, ?_, ?_, ?_, ?_, ?_, ?_, ?_, ?_, ?_, ?_, ?_, ?_, ?_, ?_, ?_, ?_, ?_, ?_, ?_, ?_, ?_, ?_, ?_, ?_, ?_, trivial⟩
      · intro vs w' K hJ hR hK
        rw [if_pos (by rfl)]
        go_step
        exact hK.out _ _ (Below.refl _ _) (rfl)
      · intro vs w' K hJ hR hK
        simp only [DepJ, List.getD_cons_zero, List.getD_cons_succ] at hJ
        obtain ⟨j0, -⟩ := hJ
        simp only [j0] at hK ⊢
        rw [if_pos (by rfl)]
        have C := Hp.facts (Hp.step H.drew hR)
        simp only [Facts, factsL, and_true, true_and, List.set_cons_zero, List.set_cons_succ, List.setIfInBounds_toArray] at C
        go_step
        exact hK.out _ _ (Below.refl _ _) (rfl)
      · intro vs w' K hJ hR hK
        rw [if_pos (by rfl)]
        go_step
        exact hK.out _ _ (Below.refl _ _) (rfl)
      · intro vs w' K hJ hR hK
        rw [if_pos (by rfl)]
        go_step
        exact hK.out _ _ (Below.refl _ _) (rfl)
      · intro vs w' K hJ hR hK
        simp only [DepJ, List.getD_cons_zero, List.getD_cons_succ] at hJ
        obtain ⟨j3, -⟩ := hJ
        simp only [j3] at hK ⊢
        rw [if_pos (by rfl)]
        have C := Hp.facts (Hp.step H.drew hR)
        simp only [Facts, factsL, and_true, true_and, List.set_cons_zero, List.set_cons_succ, List.setIfInBounds_toArray] at C
        go_step
        exact hK.out _ _ (Below.refl _ _) (rfl)
      · intro vs w' K hJ hR hK
        simp only [DepJ, List.getD_cons_zero, List.getD_cons_succ] at hJ
        obtain ⟨j2, j4, -⟩ := hJ
        simp only [j2, j4] at hK ⊢
        rw [if_pos (by rfl)]
        go_step
        refine (sub_any _ _ hf ha _).mono ?_
        rintro e' w'' ⟨rfl, rfl⟩
        rw [eF.out]
        exact hK.out _ _ (BelowR.refl _) rfl
      · intro vs w' K hJ hR hK
        simp only [DepJ, List.getD_cons_zero, List.getD_cons_succ] at hJ
        obtain ⟨j1, j5, -⟩ := hJ
        simp only [j1, j5] at hK ⊢
        rw [if_pos (by rfl)]
        go_step
        exact hK.out _ _ (Below.refl _ _) (by simp)
      · intro vs w' K hJ hR hK
        simp only [DepJ, List.getD_cons_zero, List.getD_cons_succ] at hJ
        obtain ⟨j6, -⟩ := hJ
        simp only [j6] at hK ⊢
        rw [if_pos (by rfl)]
        go_step
        exact hK.out _ _ (Below.refl _ _) (rfl)
      · intro vs w' K hJ hR hK
        simp only [DepJ, List.getD_cons_zero, List.getD_cons_succ] at hJ
        obtain ⟨j7, -⟩ := hJ
        simp only [j7] at hK ⊢
        rw [if_pos (by rfl)]
        go_step
        exact hK.out _ _ (Below.refl _ _) (rfl)
      · intro vs w' K hJ hR hK
        simp only [DepJ, List.getD_cons_zero, List.getD_cons_succ] at hJ
        obtain ⟨j7, j8, -⟩ := hJ
        simp only [j7, j8] at hK ⊢
        rw [if_pos (by rfl)]
        have C := Hp.facts (Hp.step H.drew hR)
        simp only [Facts, factsL, and_true, true_and, List.set_cons_zero, List.set_cons_succ, List.setIfInBounds_toArray] at C
        go_step
        exact hK.out _ _ (Below.refl _ _) (rfl)
      · intro vs w' K hJ hR hK
        simp only [DepJ, List.getD_cons_zero, List.getD_cons_succ] at hJ
        obtain ⟨j7, j9, -⟩ := hJ
        simp only [j7, j9] at hK ⊢
        rw [if_pos (by rfl)]
        go_step
        refine (ends_any _ _).mono ?_
        rintro e' w'' ⟨rfl, rfl⟩
        rw [r2.out]
        exact hK.out _ _ (BelowR.refl _) rfl
      · intro vs w' K hJ hR hK
        simp only [DepJ, List.getD_cons_zero, List.getD_cons_succ] at hJ
        obtain ⟨j7, j10, -⟩ := hJ
        simp only [j7, j10] at hK ⊢
        rw [if_pos (by rfl)]
        go_step
        exact hK.out _ _ (Below.refl _ _) (rfl)
      · intro vs w' K hJ hR hK
        simp only [DepJ, List.getD_cons_zero, List.getD_cons_succ] at hJ
        obtain ⟨j7, j11, -⟩ := hJ
        simp only [j7, j11] at hK ⊢
        rw [if_pos (by rfl)]
        go_step
        exact hK.out _ _ (Below.refl _ _) (rfl)
      · intro vs w' K hJ hR hK
        simp only [DepJ, List.getD_cons_zero, List.getD_cons_succ] at hJ
        obtain ⟨j12, -⟩ := hJ
        simp only [j12] at hK ⊢
        rw [if_pos (by rfl)]
        go_step
        exact hK.out _ _ (Below.refl _ _) (rfl)
      · intro vs w' K hJ hR hK
        simp only [DepJ, List.getD_cons_zero, List.getD_cons_succ] at hJ
        obtain ⟨j13, -⟩ := hJ
        simp only [j13] at hK ⊢
        rw [if_pos (by rfl)]
        have C := Hp.facts (Hp.step H.drew hR)
        simp only [Facts, factsL, and_true, true_and, List.set_cons_zero, List.set_cons_succ, List.setIfInBounds_toArray] at C
        go_step
        exact hK.out _ _ (Below.refl _ _) (rfl)
      · intro vs w' K hJ hR hK
        simp only [DepJ, List.getD_cons_zero, List.getD_cons_succ] at hJ
        obtain ⟨j13, j14, -⟩ := hJ
        simp only [j13, j14] at hK ⊢
        rw [if_pos (by rfl)]
        go_step
        refine (empty_any _ _ _).mono ?_
        rintro e' w'' ⟨rfl, hb⟩
        exact hK.out _ _ hb (by rw [gBt.out])
      · intro vs w' K hJ hR hK
        simp only [DepJ, List.getD_cons_zero, List.getD_cons_succ] at hJ
        obtain ⟨j13, j15, -⟩ := hJ
        simp only [j13, j15] at hK ⊢
        rw [if_pos (by rfl)]
        go_step
        exact hK.out _ _ (Below.refl _ _) (rfl)
      · intro vs w' K hJ hR hK
        simp only [DepJ, List.getD_cons_zero, List.getD_cons_succ] at hJ
        obtain ⟨j16, -⟩ := hJ
        cases Bt
        · simp only [j16] at hK ⊢
          rw [if_pos (by rfl)]
          have C := Hp.facts (Hp.step H.drew hR)
          simp only [Facts, factsL, and_true, true_and, List.set_cons_zero, List.set_cons_succ, List.setIfInBounds_toArray] at C
          go_step
          exact hK.out _ _ (Below.refl _ _) (fun _ => rfl)
        · simp only [j16] at hK ⊢
          rw [if_neg (by simp [Region.wanted, yielded])]
          exact hK.out _ _ (Below.refl _ _) (fun h => absurd h (by simp))
      · intro vs w' K hJ hR hK
        simp only [DepJ, List.getD_cons_zero, List.getD_cons_succ] at hJ
        obtain ⟨j16, -⟩ := hJ
        cases Bt
        · simp only [j16] at hK ⊢
          rw [if_pos (by rfl)]
          have C := Hp.facts (Hp.step H.drew hR)
          simp only [Facts, factsL, and_true, true_and, List.set_cons_zero, List.set_cons_succ, List.setIfInBounds_toArray] at C
          go_step
          exact hK.out _ _ (Below.refl _ _) (fun _ => rfl)
        · simp only [j16] at hK ⊢
          rw [if_neg (by simp [Region.wanted, yielded])]
          exact hK.out _ _ (Below.refl _ _) (fun h => absurd h (by simp))
      · intro vs w' K hJ hR hK
        simp only [DepJ, List.getD_cons_zero, List.getD_cons_succ] at hJ
        obtain ⟨j16, j17, j18, -⟩ := hJ
        cases Bt
        · have j17 := j17 rfl
          have j18 := j18 rfl
          simp only [j16, j17, j18] at hK ⊢
          rw [if_pos (by rfl)]
          go_step
          refine (within_any _ _ _ _ _).mono ?_
          rintro e' w'' ⟨rfl, hb⟩
          exact hK.out _ _ hb (fun _ => by have h1 := gBt.out; have h2 := r3.out; simp only [decide_eq_false_iff_not] at h1; first | (simp; done) | (simp; omega))
        · simp only [j16] at hK ⊢
          rw [if_neg (by simp [Region.wanted, yielded])]
          exact hK.out _ _ (Below.refl _ _) (fun h => absurd h (by simp))
      · intro vs w' K hJ hR hK
        simp only [DepJ, List.getD_cons_zero, List.getD_cons_succ] at hJ
        obtain ⟨j13, j16, j19, -⟩ := hJ
        cases Bt
        · have j19 := j19 rfl
          simp only [j13, j16, j19] at hK ⊢
          rw [if_pos (by rfl)]
          go_step
          exact hK.out _ _ (Below.refl _ _) (rfl)
        · simp only [j13, j16] at hK ⊢
          rw [if_pos (by rfl)]
          go_step
          exact hK.out _ _ (Below.refl _ _) (rfl)
      · intro vs w' K hJ hR hK
        simp only [DepJ, List.getD_cons_zero, List.getD_cons_succ] at hJ
        obtain ⟨j13, j20, -⟩ := hJ
        simp only [j13, j20] at hK ⊢
        rw [if_pos (by rfl)]
        go_step
        exact hK.out _ _ (Below.refl _ _) (rfl)
      · intro vs w' K hJ hR hK
        simp only [DepJ, List.getD_cons_zero, List.getD_cons_succ] at hJ
        obtain ⟨j21, -⟩ := hJ
        simp only [j21] at hK ⊢
        rw [if_pos (by rfl)]
        go_step
        exact hK.out _ _ (Below.refl _ _) (rfl)
      · intro vs w' K hJ hR hK
        simp only [DepJ, List.getD_cons_zero, List.getD_cons_succ] at hJ
        obtain ⟨j22, -⟩ := hJ
        simp only [j22] at hK ⊢
        rw [if_pos (by rfl)]
        have C := Hp.facts (Hp.step H.drew hR)
        simp only [Facts, factsL, and_true, true_and, List.set_cons_zero, List.set_cons_succ, List.setIfInBounds_toArray] at C
        go_step
        exact hK.out _ _ (Below.refl _ _) (rfl)
      · intro vs w' K hJ hR hK
        simp only [DepJ, List.getD_cons_zero, List.getD_cons_succ] at hJ
        obtain ⟨j22, j23, -⟩ := hJ
        simp only [j22, j23] at hK ⊢
        rw [if_pos (by rfl)]
        go_step
        refine (empty_any _ _ _).mono ?_
        rintro e' w'' ⟨rfl, hb⟩
        exact hK.out _ _ hb (by rw [gBu.out])
      · intro vs w' K hJ hR hK
        simp only [DepJ, List.getD_cons_zero, List.getD_cons_succ] at hJ
        obtain ⟨j22, j24, -⟩ := hJ
        simp only [j22, j24] at hK ⊢
        rw [if_pos (by rfl)]
        go_step
        exact hK.out _ _ (Below.refl _ _) (rfl)
      · intro vs w' K hJ hR hK
        simp only [DepJ, List.getD_cons_zero, List.getD_cons_succ] at hJ
        obtain ⟨j25, -⟩ := hJ
        cases Bu
        · simp only [j25] at hK ⊢
          rw [if_pos (by rfl)]
          have C := Hp.facts (Hp.step H.drew hR)
          simp only [Facts, factsL, and_true, true_and, List.set_cons_zero, List.set_cons_succ, List.setIfInBounds_toArray] at C
          go_step
          exact hK.out _ _ (Below.refl _ _) (fun _ => rfl)
        · simp only [j25] at hK ⊢
          rw [if_neg (by simp [Region.wanted, yielded])]
          exact hK.out _ _ (Below.refl _ _) (fun h => absurd h (by simp))
      · intro vs w' K hJ hR hK
        simp only [DepJ, List.getD_cons_zero, List.getD_cons_succ] at hJ
        obtain ⟨j25, -⟩ := hJ
        cases Bu
        · simp only [j25] at hK ⊢
          rw [if_pos (by rfl)]
          have C := Hp.facts (Hp.step H.drew hR)
          simp only [Facts, factsL, and_true, true_and, List.set_cons_zero, List.set_cons_succ, List.setIfInBounds_toArray] at C
          go_step
          exact hK.out _ _ (Below.refl _ _) (fun _ => rfl)
        · simp only [j25] at hK ⊢
          rw [if_neg (by simp [Region.wanted, yielded])]
          exact hK.out _ _ (Below.refl _ _) (fun h => absurd h (by simp))
      · intro vs w' K hJ hR hK
        simp only [DepJ, List.getD_cons_zero, List.getD_cons_succ] at hJ
        obtain ⟨j25, j26, j27, -⟩ := hJ
        cases Bu
        · have j26 := j26 rfl
          have j27 := j27 rfl
          simp only [j25, j26, j27] at hK ⊢
          rw [if_pos (by rfl)]
          go_step
          refine (within_any _ _ _ _ _).mono ?_
          rintro e' w'' ⟨rfl, hb⟩
          exact hK.out _ _ hb (fun _ => by have h1 := gBu.out; have h2 := q6.out; simp only [decide_eq_false_iff_not] at h1; first | (simp; done) | (simp; omega))
        · simp only [j25] at hK ⊢
          rw [if_neg (by simp [Region.wanted, yielded])]
          exact hK.out _ _ (Below.refl _ _) (fun h => absurd h (by simp))
      · intro vs w' K hJ hR hK
        simp only [DepJ, List.getD_cons_zero, List.getD_cons_succ] at hJ
        obtain ⟨j22, j25, j28, -⟩ := hJ
        cases Bu
        · have j28 := j28 rfl
          simp only [j22, j25, j28] at hK ⊢
          rw [if_pos (by rfl)]
          go_step
          exact hK.out _ _ (Below.refl _ _) (rfl)
        · simp only [j22, j25] at hK ⊢
          rw [if_pos (by rfl)]
          go_step
          exact hK.out _ _ (Below.refl _ _) (rfl)
      · intro vs w' K hJ hR hK
        simp only [DepJ, List.getD_cons_zero, List.getD_cons_succ] at hJ
        obtain ⟨j22, j29, -⟩ := hJ
        simp only [j22, j29] at hK ⊢
        rw [if_pos (by rfl)]
        go_step
        exact hK.out _ _ (Below.refl _ _) (rfl)
      · intro vs w' K hJ hR hK
        simp only [DepJ, List.getD_cons_zero, List.getD_cons_succ] at hJ
        obtain ⟨j30, -⟩ := hJ
        simp only [j30] at hK ⊢
        rw [if_pos (by rfl)]
        go_step
        exact hK.out _ _ (Below.refl _ _) (rfl)
      · intro vs w' K hJ hR hK
        simp only [DepJ, List.getD_cons_zero, List.getD_cons_succ] at hJ
        obtain ⟨j31, -⟩ := hJ
        simp only [j31] at hK ⊢
        rw [if_pos (by rfl)]
        go_step
        exact hK.out _ _ (Below.refl _ _) (rfl)
      · intro vs w' K hJ hR hK
        simp only [DepJ, List.getD_cons_zero, List.getD_cons_succ] at hJ
        obtain ⟨j31, j32, -⟩ := hJ
        simp only [j31, j32] at hK ⊢
        rw [if_pos (by rfl)]
        go_step
        exact hK.out _ _ (Below.refl _ _) (rfl)
      · intro vs w' K hJ hR hK
        simp only [DepJ, List.getD_cons_zero, List.getD_cons_succ] at hJ
        obtain ⟨j31, j33, -⟩ := hJ
        simp only [j31, j33] at hK ⊢
        rw [if_pos (by rfl)]
        go_step
        exact hK.out _ _ (Below.refl _ _) (rfl)
      · intro vs w' K hJ hR hK
        simp only [DepJ, List.getD_cons_zero, List.getD_cons_succ] at hJ
        obtain ⟨j34, -⟩ := hJ
        simp only [j34] at hK ⊢
        rw [if_pos (by rfl)]
        go_step
        exact hK.out _ _ (Below.refl _ _) (rfl)
      · intro vs w' K hJ hR hK
        simp only [DepJ, List.getD_cons_zero, List.getD_cons_succ] at hJ
        obtain ⟨j34, j35, -⟩ := hJ
        simp only [j34, j35] at hK ⊢
        rw [if_pos (by rfl)]
        have C := Hp.facts (Hp.step H.drew hR)
        simp only [Facts, factsL, and_true, true_and, List.set_cons_zero, List.set_cons_succ, List.setIfInBounds_toArray] at C
        go_step
        exact hK.out _ _ (Below.refl _ _) (rfl)
      · intro vs w' K hJ hR hK
        simp only [DepJ, List.getD_cons_zero, List.getD_cons_succ] at hJ
        obtain ⟨j34, -⟩ := hJ
        simp only [j34] at hK ⊢
        rw [if_pos (by rfl)]
        have C := Hp.facts (Hp.step H.drew hR)
        simp only [Facts, factsL, and_true, true_and, List.set_cons_zero, List.set_cons_succ, List.setIfInBounds_toArray] at C
        go_step
        exact hK.out _ _ (Below.refl _ _) (rfl)
      · intro vs w' K hJ hR hK
        simp only [DepJ, List.getD_cons_zero, List.getD_cons_succ] at hJ
        obtain ⟨j34, -⟩ := hJ
        simp only [j34] at hK ⊢
        rw [if_pos (by rfl)]
        go_step
        exact hK.out _ _ (Below.refl _ _) (rfl)
      · intro vs w' K hJ hR hK
        simp only [DepJ, List.getD_cons_zero, List.getD_cons_succ] at hJ
        obtain ⟨j34, j38, -⟩ := hJ
        simp only [j34, j38] at hK ⊢
        rw [if_pos (by rfl)]
        have C := Hp.facts (Hp.step H.drew hR)
        simp only [Facts, factsL, and_true, true_and, List.set_cons_zero, List.set_cons_succ, List.setIfInBounds_toArray] at C
        go_step
        exact hK.out _ _ (Below.refl _ _) (rfl)
      · intro vs w' K hJ hR hK
        simp only [DepJ, List.getD_cons_zero, List.getD_cons_succ] at hJ
        obtain ⟨j34, j39, -⟩ := hJ
        simp only [j34, j39] at hK ⊢
        rw [if_pos (by rfl)]
        go_step
        exact hK.out _ _ ((Below.refl _ _).alloc (Nat.le_refl _) _) (NewSl.mk _ _ _ _ _ hR.size)
      · intro vs w' K hJ hR hK
        simp only [DepJ, List.getD_cons_zero, List.getD_cons_succ] at hJ
        obtain ⟨j34, j37, j40, -⟩ := hJ
        obtain ⟨k40, j40, hB40, hh40⟩ := j40
        simp only [j34, j37, j40] at hK ⊢
        rw [if_pos (by rfl)]
        go_step
        refine (add_blk _ _ ht ha _ _ _ hh40).mono ?_
        rintro e' w'' ⟨rfl, rfl⟩
        exact hK.out _ _ (BelowR.refl _) rfl
      · intro vs w' K hJ hR hK
        simp only [DepJ, List.getD_cons_zero, List.getD_cons_succ] at hJ
        obtain ⟨j34, j36, j41, -⟩ := hJ
        simp only [j34, j36, j41] at hK ⊢
        rw [if_pos (by rfl)]
        go_step
        exact hK.out _ _ (Below.refl _ _) (by have h := r5.out te rfl; simp [h])
      · intro vs w' K hJ hR hK
        simp only [DepJ, List.getD_cons_zero, List.getD_cons_succ] at hJ
        obtain ⟨j31, j34, j42, -⟩ := hJ
        simp only [j31, j34, j42] at hK ⊢
        rw [if_pos (by rfl)]
        go_step
        exact hK.out _ _ (Below.refl _ _) (rfl)
      · intro vs w' K hJ hR hK
        simp only [DepJ, List.getD_cons_zero, List.getD_cons_succ] at hJ
        obtain ⟨j31, j43, -⟩ := hJ
        simp only [j31, j43] at hK ⊢
        rw [if_pos (by rfl)]
        go_step
        exact hK.out _ _ (Below.refl _ _) (rfl)
      · intro vs w' K hJ hR hK
        simp only [DepJ, List.getD_cons_zero, List.getD_cons_succ] at hJ
        obtain ⟨j44, -⟩ := hJ
        simp only [j44] at hK ⊢
        rw [if_pos (by rfl)]
        go_step
        exact hK.out _ _ (Below.refl _ _) (rfl)
    intro vs w' hJ hR
    simp only [AllJ, Nat.reduceAdd] at hJ
    obtain ⟨v0, v1, v2, v3, v4, v5, v6, v7, v8, v9, v10, v11, v12, v13, v14, v15, v16, v17, v18, v19, v20, v21, v22, v23, v24, v25, v26, v27, v28, v29, v30, v31, v32, v33, v34, v35, v36, v37, v38, v39, v40, v41, v42, v43, v44, v45, -⟩ := hJ
    simp only [v45]
    have H2 := Hp.step H.drew hR
    clear C H
    have H := H2
    have C := Hp.facts H
    (repeat' (first | ((with_reducible refine Hp.abs_alloc H ?_); intro b' w' H' hb'; (try simp only [hb']); clear hb'; ((try simp only [List.set_cons_zero, List.set_cons_succ, List.setIfInBounds_toArray] at H'); clear C H; have H := H'; clear H'; have C := Hp.facts H; simp only [Facts, factsL, and_true, true_and, List.set_cons_zero, List.set_cons_succ, List.setIfInBounds_toArray] at C)) | ((with_reducible show wpList _ _ _ _ _ (World.setCell _ _ _)); first | ((with_reducible apply Hp.abs_gen H); (repeat (with_reducible apply Hp.set' 0)); (with_reducible exact H); (repeat rfl); intro w' H'; ((try simp only [List.set_cons_zero, List.set_cons_succ, List.setIfInBounds_toArray] at H'); clear C H; have H := H'; clear H'; have C := Hp.facts H; simp only [Facts, factsL, and_true, true_and, List.set_cons_zero, List.set_cons_succ, List.setIfInBounds_toArray] at C)) | ((with_reducible apply Hp.abs_gen H); (repeat (with_reducible apply Hp.set' 1)); (with_reducible exact H); (repeat rfl); intro w' H'; ((try simp only [List.set_cons_zero, List.set_cons_succ, List.setIfInBounds_toArray] at H'); clear C H; have H := H'; clear H'; have C := Hp.facts H; simp only [Facts, factsL, and_true, true_and, List.set_cons_zero, List.set_cons_succ, List.setIfInBounds_toArray] at C)) | ((with_reducible apply Hp.abs_gen H); (repeat (with_reducible apply Hp.set' 2)); (with_reducible exact H); (repeat rfl); intro w' H'; ((try simp only [List.set_cons_zero, List.set_cons_succ, List.setIfInBounds_toArray] at H'); clear C H; have H := H'; clear H'; have C := Hp.facts H; simp only [Facts, factsL, and_true, true_and, List.set_cons_zero, List.set_cons_succ, List.setIfInBounds_toArray] at C)) | ((with_reducible apply Hp.abs_gen H); (repeat (with_reducible apply Hp.set' 3)); (with_reducible exact H); (repeat rfl); intro w' H'; ((try simp only [List.set_cons_zero, List.set_cons_succ, List.setIfInBounds_toArray] at H'); clear C H; have H := H'; clear H'; have C := Hp.facts H; simp only [Facts, factsL, and_true, true_and, List.set_cons_zero, List.set_cons_succ, List.setIfInBounds_toArray] at C)) | ((with_reducible apply Hp.abs_gen H); (repeat (with_reducible apply Hp.set' 4)); (with_reducible exact H); (repeat rfl); intro w' H'; ((try simp only [List.set_cons_zero, List.set_cons_succ, List.setIfInBounds_toArray] at H'); clear C H; have H := H'; clear H'; have C := Hp.facts H; simp only [Facts, factsL, and_true, true_and, List.set_cons_zero, List.set_cons_succ, List.setIfInBounds_toArray] at C)) | ((with_reducible apply Hp.abs_gen H); (repeat (with_reducible apply Hp.set' 5)); (with_reducible exact H); (repeat rfl); intro w' H'; ((try simp only [List.set_cons_zero, List.set_cons_succ, List.setIfInBounds_toArray] at H'); clear C H; have H := H'; clear H'; have C := Hp.facts H; simp only [Facts, factsL, and_true, true_and, List.set_cons_zero, List.set_cons_succ, List.setIfInBounds_toArray] at C)) | ((with_reducible apply Hp.abs_gen H); (repeat (with_reducible apply Hp.set' 6)); (with_reducible exact H); (repeat rfl); intro w' H'; ((try simp only [List.set_cons_zero, List.set_cons_succ, List.setIfInBounds_toArray] at H'); clear C H; have H := H'; clear H'; have C := Hp.facts H; simp only [Facts, factsL, and_true, true_and, List.set_cons_zero, List.set_cons_succ, List.setIfInBounds_toArray] at C)) | ((with_reducible apply Hp.abs_gen H); (repeat (with_reducible apply Hp.set' 7)); (with_reducible exact H); (repeat rfl); intro w' H'; ((try simp only [List.set_cons_zero, List.set_cons_succ, List.setIfInBounds_toArray] at H'); clear C H; have H := H'; clear H'; have C := Hp.facts H; simp only [Facts, factsL, and_true, true_and, List.set_cons_zero, List.set_cons_succ, List.setIfInBounds_toArray] at C))) | go_values | go_skip | go_guarded | go_step | go_upon | go_back | (simp only [Int.not_lt, Int.not_le] at *; go_simp) | (go_values <;> (try go_simp)) | (go_ite <;> go_prune <;> (try go_simp)) | (split <;> (first | (rename_i hx; exact (hx _ rfl).elim) | go_prune))))
    go_ret
    exact ⟨rfl, H.low⟩
    obtain ⟨w9, rfl⟩ := Hp.nameW H
    obtain ⟨Bt, hBt⟩ : ∃ Bt : Bool, decide (t2 < t1) = Bt := ⟨_, rfl⟩
    have gBt := Lib.hid hBt
    clear hBt
    obtain ⟨Bu, hBu⟩ : ∃ Bu : Bool, decide (u2 < u1) = Bu := ⟨_, rfl⟩
    have gBu := Lib.hid hBu
    clear hBu
    have q6 : Hid (u2 < u1 ∨ (u1 ≤ s1 ∧ s2 ≤ u2)) := r4.out (by first | assumption | omega | (simp_all; done))
    refine region_b 106 [some 61, some 62, some 63, some 64, some 65, some 66, some 67, some 68, some 69, some 70, some 71, some 72, some 73, some 74, some 75, some 76, some 77, some 78, some 79, some 80, some 81, some 82, some 83, some 84, some 85, some 86, some 87, some 88, some 89, some 90, some 91, some 92, some 93, some 94, some 95, some 96, some 97, some 98, some 99, some 100, some 101, some 102, some 103, some 104, some 105, some 12] [[], [0], [], [], [3], [2, 4], [1, 5], [6], [7], [7, 8], [7, 9], [7, 10], [7, 11], [12], [13], [13, 14], [13, 15], [16], [16], [16, 17, 18], [13, 16, 19], [13, 20], [21], [22], [22, 23], [22, 24], [25], [25], [25, 26, 27], [22, 25, 28], [22, 29], [30], [31], [31, 32], [31, 33], [34], [34, 35], [34], [34], [34, 38], [34, 39], [34, 37, 40], [34, 36, 41], [31, 34, 42], [31, 43], [44]] [fun v _ => v = .pointer (some ⟨b15, 0, none⟩), fun v _ => v = .int .i64 s1, fun v _ => v = .int .i64 f, fun v _ => v = .pointer (some ⟨b13, 0, none⟩), fun v _ => v = .int .i64 a, fun v _ => v = .int .i64 s1, fun v _ => v = .bool true, fun v _ => v = .bool true, fun v _ => v = .pointer (some ⟨b15, 0, none⟩), fun v _ => v = .int .i64 s1, fun v _ => v = .bool false, fun v _ => v = .bool true, fun v _ => v = .bool true, fun v _ => v = .bool true, fun v _ => v = .agg #[.int .i64 t1, .int .i64 t2], fun v _ => v = .bool Bt, fun v _ => v = .bool Bt, fun v _ => Bt = false → v = .agg #[.int .i64 s1, .int .i64 s2], fun v _ => Bt = false → v = .agg #[.int .i64 t1, .int .i64 t2], fun v _ => Bt = false → v = .bool true, fun v _ => v = .bool true, fun v _ => v = .bool true, fun v _ => v = .bool true, fun v _ => v = .agg #[.int .i64 u1, .int .i64 u2], fun v _ => v = .bool Bu, fun v _ => v = .bool Bu, fun v _ => Bu = false → v = .agg #[.int .i64 s1, .int .i64 s2], fun v _ => Bu = false → v = .agg #[.int .i64 u1, .int .i64 u2], fun v _ => Bu = false → v = .bool true, fun v _ => v = .bool true, fun v _ => v = .bool true, fun v _ => v = .bool true, fun v _ => v = .bool true, fun v _ => v = .bool false, fun v _ => v = .bool false, fun v _ => v = .pointer (some ⟨b15, 1, none⟩), fun v _ => v = .int .i64 s2, fun v _ => v = .int .i64 te, fun v _ => v = .pointer (some ⟨b13, 0, none⟩), fun v _ => v = .int .i64 a, NewSl w9.heap.size 1 #[.int .i64 a] 3, fun v _ => v = .int .i64 (Sp.sadd te a), fun v _ => v = .bool true, fun v _ => v = .bool true, fun v _ => v = .bool true, fun v _ => v = .bool true] (by kernel_rfl) (by kernel_rfl) rfl (by kernel_rfl) rfl _ (fun vs => (by simp only [fillD, Nat.reduceAdd, Act.put, List.setIfInBounds_toArray, List.set_cons_zero, List.set_cons_succ]; rfl)) ?_ ?_ ?_
    · refine ⟨fun _ _ _ _ h => h, fun _ _ _ _ h => h, fun _ _ _ _ h => h, fun _ _ _ _ h => h, fun _ _ _ _ h => h, fun _ _ _ _ h => h, fun _ _ _ _ h => h, fun _ _ _ _ h => h, fun _ _ _ _ h => h, fun _ _ _ _ h => h, fun _ _ _ _ h => h, fun _ _ _ _ h => h, fun _ _ _ _ h => h, fun _ _ _ _ h => h, fun _ _ _ _ h => h, fun _ _ _ _ h => h, fun _ _ _ _ h => h, fun _ _ _ _ h => h, fun _ _ _ _ h => h, fun _ _ _ _ h => h, fun _ _ _ _ h => h, fun _ _ _ _ h => h, fun _ _ _ _ h => h, fun _ _ _ _ h => h, fun _ _ _ _ h => h, fun _ _ _ _ h => h, fun _ _ _ _ h => h, fun _ _ _ _ h => h, fun _ _ _ _ h => h, fun _ _ _ _ h => h, fun _ _ _ _ h => h, fun _ _ _ _ h => h, fun _ _ _ _ h => h, fun _ _ _ _ h => h, fun _ _ _ _ h => h, fun _ _ _ _ h => h, fun _ _ _ _ h => h, fun _ _ _ _ h => h, fun _ _ _ _ h => h, fun _ _ _ _ h => h, fun _ _ _ hr h => h.stay fun k _ hl => hr.block k hl, fun _ _ _ _ h => h, fun _ _ _ _ h => h, fun _ _ _ _ h => h, fun _ _ _ _ h => h, fun _ _ _ _ h => h, trivial⟩
    · refine ⟨?_, ?_, ?_, ?_, ?_, ?_, ?_, ?_, ?_, ?_, ?_, ?_, ?_, ?_, ?_, ?_, ?_, ?_, ?_, ?_, ?_, ?_, ?_, ?_, ?_, ?_, ?_, ?_, ?_, ?_, ?_, ?_, ?_, ?_, ?_, ?_, ?_, ?_, ?_, ?_, ?_, ?_, ?_, ?_, ?_, ?_, trivial⟩
      · intro vs w' K hJ hR hK
        rw [if_pos (by rfl)]
        go_step
        exact hK.out _ _ (Below.refl _ _) (rfl)
      · intro vs w' K hJ hR hK
        simp only [DepJ, List.getD_cons_zero, List.getD_cons_succ] at hJ
        obtain ⟨j0, -⟩ := hJ
        simp only [j0] at hK ⊢
        rw [if_pos (by rfl)]
        have C := Hp.facts (Hp.step H.drew hR)
        simp only [Facts, factsL, and_true, true_and, List.set_cons_zero, List.set_cons_succ, List.setIfInBounds_toArray] at C
        go_step
        exact hK.out _ _ (Below.refl _ _) (rfl)
      · intro vs w' K hJ hR hK
        rw [if_pos (by rfl)]
        go_step
        exact hK.out _ _ (Below.refl _ _) (rfl)
      · intro vs w' K hJ hR hK
        rw [if_pos (by rfl)]
        go_step
        exact hK.out _ _ (Below.refl _ _) (rfl)
      · intro vs w' K hJ hR hK
        simp only [DepJ, List.getD_cons_zero, List.getD_cons_succ] at hJ
        obtain ⟨j3, -⟩ := hJ
        simp only [j3] at hK ⊢
        rw [if_pos (by rfl)]
        have C := Hp.facts (Hp.step H.drew hR)
        simp only [Facts, factsL, and_true, true_and, List.set_cons_zero, List.set_cons_succ, List.setIfInBounds_toArray] at C
        go_step
        exact hK.out _ _ (Below.refl _ _) (rfl)
      · intro vs w' K hJ hR hK
        simp only [DepJ, List.getD_cons_zero, List.getD_cons_succ] at hJ
        obtain ⟨j2, j4, -⟩ := hJ
        simp only [j2, j4] at hK ⊢
        rw [if_pos (by rfl)]
        go_step
        refine (sub_any _ _ hf ha _).mono ?_
        rintro e' w'' ⟨rfl, rfl⟩
        rw [eF.out]
        exact hK.out _ _ (BelowR.refl _) rfl
      · intro vs w' K hJ hR hK
        simp only [DepJ, List.getD_cons_zero, List.getD_cons_succ] at hJ
        obtain ⟨j1, j5, -⟩ := hJ
        simp only [j1, j5] at hK ⊢
        rw [if_pos (by rfl)]
        go_step
        exact hK.out _ _ (Below.refl _ _) (by simp)
      · intro vs w' K hJ hR hK
        simp only [DepJ, List.getD_cons_zero, List.getD_cons_succ] at hJ
        obtain ⟨j6, -⟩ := hJ
        simp only [j6] at hK ⊢
        rw [if_pos (by rfl)]
        go_step
        exact hK.out _ _ (Below.refl _ _) (rfl)
      · intro vs w' K hJ hR hK
        simp only [DepJ, List.getD_cons_zero, List.getD_cons_succ] at hJ
        obtain ⟨j7, -⟩ := hJ
        simp only [j7] at hK ⊢
        rw [if_pos (by rfl)]
        go_step
        exact hK.out _ _ (Below.refl _ _) (rfl)
      · intro vs w' K hJ hR hK
        simp only [DepJ, List.getD_cons_zero, List.getD_cons_succ] at hJ
        obtain ⟨j7, j8, -⟩ := hJ
        simp only [j7, j8] at hK ⊢
        rw [if_pos (by rfl)]
        have C := Hp.facts (Hp.step H.drew hR)
        simp only [Facts, factsL, and_true, true_and, List.set_cons_zero, List.set_cons_succ, List.setIfInBounds_toArray] at C
        go_step
        exact hK.out _ _ (Below.refl _ _) (rfl)
      · intro vs w' K hJ hR hK
        simp only [DepJ, List.getD_cons_zero, List.getD_cons_succ] at hJ
        obtain ⟨j7, j9, -⟩ := hJ
        simp only [j7, j9] at hK ⊢
        rw [if_pos (by rfl)]
        go_step
        refine (ends_any _ _).mono ?_
        rintro e' w'' ⟨rfl, rfl⟩
        rw [r2.out]
        exact hK.out _ _ (BelowR.refl _) rfl
      · intro vs w' K hJ hR hK
        simp only [DepJ, List.getD_cons_zero, List.getD_cons_succ] at hJ
        obtain ⟨j7, j10, -⟩ := hJ
        simp only [j7, j10] at hK ⊢
        rw [if_pos (by rfl)]
        go_step
        exact hK.out _ _ (Below.refl _ _) (rfl)
      · intro vs w' K hJ hR hK
        simp only [DepJ, List.getD_cons_zero, List.getD_cons_succ] at hJ
        obtain ⟨j7, j11, -⟩ := hJ
        simp only [j7, j11] at hK ⊢
        rw [if_pos (by rfl)]
        go_step
        exact hK.out _ _ (Below.refl _ _) (rfl)
      · intro vs w' K hJ hR hK
        simp only [DepJ, List.getD_cons_zero, List.getD_cons_succ] at hJ
        obtain ⟨j12, -⟩ := hJ
        simp only [j12] at hK ⊢
        rw [if_pos (by rfl)]
        go_step
        exact hK.out _ _ (Below.refl _ _) (rfl)
      · intro vs w' K hJ hR hK
        simp only [DepJ, List.getD_cons_zero, List.getD_cons_succ] at hJ
        obtain ⟨j13, -⟩ := hJ
        simp only [j13] at hK ⊢
        rw [if_pos (by rfl)]
        have C := Hp.facts (Hp.step H.drew hR)
        simp only [Facts, factsL, and_true, true_and, List.set_cons_zero, List.set_cons_succ, List.setIfInBounds_toArray] at C
        go_step
        exact hK.out _ _ (Below.refl _ _) (rfl)
      · intro vs w' K hJ hR hK
        simp only [DepJ, List.getD_cons_zero, List.getD_cons_succ] at hJ
        obtain ⟨j13, j14, -⟩ := hJ
        simp only [j13, j14] at hK ⊢
        rw [if_pos (by rfl)]
        go_step
        refine (empty_any _ _ _).mono ?_
        rintro e' w'' ⟨rfl, hb⟩
        exact hK.out _ _ hb (by rw [gBt.out])
      · intro vs w' K hJ hR hK
        simp only [DepJ, List.getD_cons_zero, List.getD_cons_succ] at hJ
        obtain ⟨j13, j15, -⟩ := hJ
        simp only [j13, j15] at hK ⊢
        rw [if_pos (by rfl)]
        go_step
        exact hK.out _ _ (Below.refl _ _) (rfl)
      · intro vs w' K hJ hR hK
        simp only [DepJ, List.getD_cons_zero, List.getD_cons_succ] at hJ
        obtain ⟨j16, -⟩ := hJ
        cases Bt
        · simp only [j16] at hK ⊢
          rw [if_pos (by rfl)]
          have C := Hp.facts (Hp.step H.drew hR)
          simp only [Facts, factsL, and_true, true_and, List.set_cons_zero, List.set_cons_succ, List.setIfInBounds_toArray] at C
          go_step
          exact hK.out _ _ (Below.refl _ _) (fun _ => rfl)
        · simp only [j16] at hK ⊢
          rw [if_neg (by simp [Region.wanted, yielded])]
          exact hK.out _ _ (Below.refl _ _) (fun h => absurd h (by simp))
      · intro vs w' K hJ hR hK
        simp only [DepJ, List.getD_cons_zero, List.getD_cons_succ] at hJ
        obtain ⟨j16, -⟩ := hJ
        cases Bt
        · simp only [j16] at hK ⊢
          rw [if_pos (by rfl)]
          have C := Hp.facts (Hp.step H.drew hR)
          simp only [Facts, factsL, and_true, true_and, List.set_cons_zero, List.set_cons_succ, List.setIfInBounds_toArray] at C
          go_step
          exact hK.out _ _ (Below.refl _ _) (fun _ => rfl)
        · simp only [j16] at hK ⊢
          rw [if_neg (by simp [Region.wanted, yielded])]
          exact hK.out _ _ (Below.refl _ _) (fun h => absurd h (by simp))
      · intro vs w' K hJ hR hK
        simp only [DepJ, List.getD_cons_zero, List.getD_cons_succ] at hJ
        obtain ⟨j16, j17, j18, -⟩ := hJ
        cases Bt
        · have j17 := j17 rfl
          have j18 := j18 rfl
          simp only [j16, j17, j18] at hK ⊢
          rw [if_pos (by rfl)]
          go_step
          refine (within_any _ _ _ _ _).mono ?_
          rintro e' w'' ⟨rfl, hb⟩
          exact hK.out _ _ hb (fun _ => by have h1 := gBt.out; have h2 := r3.out; simp only [decide_eq_false_iff_not] at h1; first | (simp; done) | (simp; omega))
        · simp only [j16] at hK ⊢
          rw [if_neg (by simp [Region.wanted, yielded])]
          exact hK.out _ _ (Below.refl _ _) (fun h => absurd h (by simp))
      · intro vs w' K hJ hR hK
        simp only [DepJ, List.getD_cons_zero, List.getD_cons_succ] at hJ
        obtain ⟨j13, j16, j19, -⟩ := hJ
        cases Bt
        · have j19 := j19 rfl
          simp only [j13, j16, j19] at hK ⊢
          rw [if_pos (by rfl)]
          go_step
          exact hK.out _ _ (Below.refl _ _) (rfl)
        · simp only [j13, j16] at hK ⊢
          rw [if_pos (by rfl)]
          go_step
          exact hK.out _ _ (Below.refl _ _) (rfl)
      · intro vs w' K hJ hR hK
        simp only [DepJ, List.getD_cons_zero, List.getD_cons_succ] at hJ
        obtain ⟨j13, j20, -⟩ := hJ
        simp only [j13, j20] at hK ⊢
        rw [if_pos (by rfl)]
        go_step
        exact hK.out _ _ (Below.refl _ _) (rfl)
      · intro vs w' K hJ hR hK
        simp only [DepJ, List.getD_cons_zero, List.getD_cons_succ] at hJ
        obtain ⟨j21, -⟩ := hJ
        simp only [j21] at hK ⊢
        rw [if_pos (by rfl)]
        go_step
        exact hK.out _ _ (Below.refl _ _) (rfl)
      · intro vs w' K hJ hR hK
        simp only [DepJ, List.getD_cons_zero, List.getD_cons_succ] at hJ
        obtain ⟨j22, -⟩ := hJ
        simp only [j22] at hK ⊢
        rw [if_pos (by rfl)]
        have C := Hp.facts (Hp.step H.drew hR)
        simp only [Facts, factsL, and_true, true_and, List.set_cons_zero, List.set_cons_succ, List.setIfInBounds_toArray] at C
        go_step
        exact hK.out _ _ (Below.refl _ _) (rfl)
      · intro vs w' K hJ hR hK
        simp only [DepJ, List.getD_cons_zero, List.getD_cons_succ] at hJ
        obtain ⟨j22, j23, -⟩ := hJ
        simp only [j22, j23] at hK ⊢
        rw [if_pos (by rfl)]
        go_step
        refine (empty_any _ _ _).mono ?_
        rintro e' w'' ⟨rfl, hb⟩
        exact hK.out _ _ hb (by rw [gBu.out])
      · intro vs w' K hJ hR hK
        simp only [DepJ, List.getD_cons_zero, List.getD_cons_succ] at hJ
        obtain ⟨j22, j24, -⟩ := hJ
        simp only [j22, j24] at hK ⊢
        rw [if_pos (by rfl)]
        go_step
        exact hK.out _ _ (Below.refl _ _) (rfl)
      · intro vs w' K hJ hR hK
        simp only [DepJ, List.getD_cons_zero, List.getD_cons_succ] at hJ
        obtain ⟨j25, -⟩ := hJ
        cases Bu
        · simp only [j25] at hK ⊢
          rw [if_pos (by rfl)]
          have C := Hp.facts (Hp.step H.drew hR)
          simp only [Facts, factsL, and_true, true_and, List.set_cons_zero, List.set_cons_succ, List.setIfInBounds_toArray] at C
          go_step
          exact hK.out _ _ (Below.refl _ _) (fun _ => rfl)
        · simp only [j25] at hK ⊢
          rw [if_neg (by simp [Region.wanted, yielded])]
          exact hK.out _ _ (Below.refl _ _) (fun h => absurd h (by simp))
      · intro vs w' K hJ hR hK
        simp only [DepJ, List.getD_cons_zero, List.getD_cons_succ] at hJ
        obtain ⟨j25, -⟩ := hJ
        cases Bu
        · simp only [j25] at hK ⊢
          rw [if_pos (by rfl)]
          have C := Hp.facts (Hp.step H.drew hR)
          simp only [Facts, factsL, and_true, true_and, List.set_cons_zero, List.set_cons_succ, List.setIfInBounds_toArray] at C
          go_step
          exact hK.out _ _ (Below.refl _ _) (fun _ => rfl)
        · simp only [j25] at hK ⊢
          rw [if_neg (by simp [Region.wanted, yielded])]
          exact hK.out _ _ (Below.refl _ _) (fun h => absurd h (by simp))
      · intro vs w' K hJ hR hK
        simp only [DepJ, List.getD_cons_zero, List.getD_cons_succ] at hJ
        obtain ⟨j25, j26, j27, -⟩ := hJ
        cases Bu
        · have j26 := j26 rfl
          have j27 := j27 rfl
          simp only [j25, j26, j27] at hK ⊢
          rw [if_pos (by rfl)]
          go_step
          refine (within_any _ _ _ _ _).mono ?_
          rintro e' w'' ⟨rfl, hb⟩
          exact hK.out _ _ hb (fun _ => by have h1 := gBu.out; have h2 := q6.out; simp only [decide_eq_false_iff_not] at h1; first | (simp; done) | (simp; omega))
        · simp only [j25] at hK ⊢
          rw [if_neg (by simp [Region.wanted, yielded])]
          exact hK.out _ _ (Below.refl _ _) (fun h => absurd h (by simp))
      · intro vs w' K hJ hR hK
        simp only [DepJ, List.getD_cons_zero, List.getD_cons_succ] at hJ
        obtain ⟨j22, j25, j28, -⟩ := hJ
        cases Bu
        · have j28 := j28 rfl
          simp only [j22, j25, j28] at hK ⊢
          rw [if_pos (by rfl)]
          go_step
          exact hK.out _ _ (Below.refl _ _) (rfl)
        · simp only [j22, j25] at hK ⊢
          rw [if_pos (by rfl)]
          go_step
          exact hK.out _ _ (Below.refl _ _) (rfl)
      · intro vs w' K hJ hR hK
        simp only [DepJ, List.getD_cons_zero, List.getD_cons_succ] at hJ
        obtain ⟨j22, j29, -⟩ := hJ
        simp only [j22, j29] at hK ⊢
        rw [if_pos (by rfl)]
        go_step
        exact hK.out _ _ (Below.refl _ _) (rfl)
      · intro vs w' K hJ hR hK
        simp only [DepJ, List.getD_cons_zero, List.getD_cons_succ] at hJ
        obtain ⟨j30, -⟩ := hJ
        simp only [j30] at hK ⊢
        rw [if_pos (by rfl)]
        go_step
        exact hK.out _ _ (Below.refl _ _) (rfl)
      · intro vs w' K hJ hR hK
        simp only [DepJ, List.getD_cons_zero, List.getD_cons_succ] at hJ
        obtain ⟨j31, -⟩ := hJ
        simp only [j31] at hK ⊢
        rw [if_pos (by rfl)]
        go_step
        exact hK.out _ _ (Below.refl _ _) (rfl)
      · intro vs w' K hJ hR hK
        simp only [DepJ, List.getD_cons_zero, List.getD_cons_succ] at hJ
        obtain ⟨j31, j32, -⟩ := hJ
        simp only [j31, j32] at hK ⊢
        rw [if_pos (by rfl)]
        go_step
        exact hK.out _ _ (Below.refl _ _) (rfl)
      · intro vs w' K hJ hR hK
        simp only [DepJ, List.getD_cons_zero, List.getD_cons_succ] at hJ
        obtain ⟨j31, j33, -⟩ := hJ
        simp only [j31, j33] at hK ⊢
        rw [if_pos (by rfl)]
        go_step
        exact hK.out _ _ (Below.refl _ _) (rfl)
      · intro vs w' K hJ hR hK
        simp only [DepJ, List.getD_cons_zero, List.getD_cons_succ] at hJ
        obtain ⟨j34, -⟩ := hJ
        simp only [j34] at hK ⊢
        rw [if_pos (by rfl)]
        go_step
        exact hK.out _ _ (Below.refl _ _) (rfl)
      · intro vs w' K hJ hR hK
        simp only [DepJ, List.getD_cons_zero, List.getD_cons_succ] at hJ
        obtain ⟨j34, j35, -⟩ := hJ
        simp only [j34, j35] at hK ⊢
        rw [if_pos (by rfl)]
        have C := Hp.facts (Hp.step H.drew hR)
        simp only [Facts, factsL, and_true, true_and, List.set_cons_zero, List.set_cons_succ, List.setIfInBounds_toArray] at C
        go_step
        exact hK.out _ _ (Below.refl _ _) (rfl)
      · intro vs w' K hJ hR hK
        simp only [DepJ, List.getD_cons_zero, List.getD_cons_succ] at hJ
        obtain ⟨j34, -⟩ := hJ
        simp only [j34] at hK ⊢
        rw [if_pos (by rfl)]
        have C := Hp.facts (Hp.step H.drew hR)
        simp only [Facts, factsL, and_true, true_and, List.set_cons_zero, List.set_cons_succ, List.setIfInBounds_toArray] at C
        go_step
        exact hK.out _ _ (Below.refl _ _) (rfl)
      · intro vs w' K hJ hR hK
        simp only [DepJ, List.getD_cons_zero, List.getD_cons_succ] at hJ
        obtain ⟨j34, -⟩ := hJ
        simp only [j34] at hK ⊢
        rw [if_pos (by rfl)]
        go_step
        exact hK.out _ _ (Below.refl _ _) (rfl)
      · intro vs w' K hJ hR hK
        simp only [DepJ, List.getD_cons_zero, List.getD_cons_succ] at hJ
        obtain ⟨j34, j38, -⟩ := hJ
        simp only [j34, j38] at hK ⊢
        rw [if_pos (by rfl)]
        have C := Hp.facts (Hp.step H.drew hR)
        simp only [Facts, factsL, and_true, true_and, List.set_cons_zero, List.set_cons_succ, List.setIfInBounds_toArray] at C
        go_step
        exact hK.out _ _ (Below.refl _ _) (rfl)
      · intro vs w' K hJ hR hK
        simp only [DepJ, List.getD_cons_zero, List.getD_cons_succ] at hJ
        obtain ⟨j34, j39, -⟩ := hJ
        simp only [j34, j39] at hK ⊢
        rw [if_pos (by rfl)]
        go_step
        exact hK.out _ _ ((Below.refl _ _).alloc (Nat.le_refl _) _) (NewSl.mk _ _ _ _ _ hR.size)
      · intro vs w' K hJ hR hK
        simp only [DepJ, List.getD_cons_zero, List.getD_cons_succ] at hJ
        obtain ⟨j34, j37, j40, -⟩ := hJ
        obtain ⟨k40, j40, hB40, hh40⟩ := j40
        simp only [j34, j37, j40] at hK ⊢
        rw [if_pos (by rfl)]
        go_step
        refine (add_blk _ _ ht ha _ _ _ hh40).mono ?_
        rintro e' w'' ⟨rfl, rfl⟩
        exact hK.out _ _ (BelowR.refl _) rfl
      · intro vs w' K hJ hR hK
        simp only [DepJ, List.getD_cons_zero, List.getD_cons_succ] at hJ
        obtain ⟨j34, j36, j41, -⟩ := hJ
        simp only [j34, j36, j41] at hK ⊢
        rw [if_pos (by rfl)]
        go_step
        exact hK.out _ _ (Below.refl _ _) (by have h := r5.out te rfl; simp [h])
      · intro vs w' K hJ hR hK
        simp only [DepJ, List.getD_cons_zero, List.getD_cons_succ] at hJ
        obtain ⟨j31, j34, j42, -⟩ := hJ
        simp only [j31, j34, j42] at hK ⊢
        rw [if_pos (by rfl)]
        go_step
        exact hK.out _ _ (Below.refl _ _) (rfl)
      · intro vs w' K hJ hR hK
        simp only [DepJ, List.getD_cons_zero, List.getD_cons_succ] at hJ
        obtain ⟨j31, j43, -⟩ := hJ
        simp only [j31, j43] at hK ⊢
        rw [if_pos (by rfl)]
        go_step
        exact hK.out _ _ (Below.refl _ _) (rfl)
      · intro vs w' K hJ hR hK
        simp only [DepJ, List.getD_cons_zero, List.getD_cons_succ] at hJ
        obtain ⟨j44, -⟩ := hJ
        simp only [j44] at hK ⊢
        rw [if_pos (by rfl)]
        go_step
        exact hK.out _ _ (Below.refl _ _) (rfl)
    intro vs w' hJ hR
    simp only [AllJ, Nat.reduceAdd] at hJ
    obtain ⟨v0, v1, v2, v3, v4, v5, v6, v7, v8, v9, v10, v11, v12, v13, v14, v15, v16, v17, v18, v19, v20, v21, v22, v23, v24, v25, v26, v27, v28, v29, v30, v31, v32, v33, v34, v35, v36, v37, v38, v39, v40, v41, v42, v43, v44, v45, -⟩ := hJ
    simp only [v45]
    have H2 := Hp.step H.drew hR
    clear C H
    have H := H2
    have C := Hp.facts H
    (repeat' (first | ((with_reducible refine Hp.abs_alloc H ?_); intro b' w' H' hb'; (try simp only [hb']); clear hb'; ((try simp only [List.set_cons_zero, List.set_cons_succ, List.setIfInBounds_toArray] at H'); clear C H; have H := H'; clear H'; have C := Hp.facts H; simp only [Facts, factsL, and_true, true_and, List.set_cons_zero, List.set_cons_succ, List.setIfInBounds_toArray] at C)) | ((with_reducible show wpList _ _ _ _ _ (World.setCell _ _ _)); first | ((with_reducible apply Hp.abs_gen H); (repeat (with_reducible apply Hp.set' 0)); (with_reducible exact H); (repeat rfl); intro w' H'; ((try simp only [List.set_cons_zero, List.set_cons_succ, List.setIfInBounds_toArray] at H'); clear C H; have H := H'; clear H'; have C := Hp.facts H; simp only [Facts, factsL, and_true, true_and, List.set_cons_zero, List.set_cons_succ, List.setIfInBounds_toArray] at C)) | ((with_reducible apply Hp.abs_gen H); (repeat (with_reducible apply Hp.set' 1)); (with_reducible exact H); (repeat rfl); intro w' H'; ((try simp only [List.set_cons_zero, List.set_cons_succ, List.setIfInBounds_toArray] at H'); clear C H; have H := H'; clear H'; have C := Hp.facts H; simp only [Facts, factsL, and_true, true_and, List.set_cons_zero, List.set_cons_succ, List.setIfInBounds_toArray] at C)) | ((with_reducible apply Hp.abs_gen H); (repeat (with_reducible apply Hp.set' 2)); (with_reducible exact H); (repeat rfl); intro w' H'; ((try simp only [List.set_cons_zero, List.set_cons_succ, List.setIfInBounds_toArray] at H'); clear C H; have H := H'; clear H'; have C := Hp.facts H; simp only [Facts, factsL, and_true, true_and, List.set_cons_zero, List.set_cons_succ, List.setIfInBounds_toArray] at C)) | ((with_reducible apply Hp.abs_gen H); (repeat (with_reducible apply Hp.set' 3)); (with_reducible exact H); (repeat rfl); intro w' H'; ((try simp only [List.set_cons_zero, List.set_cons_succ, List.setIfInBounds_toArray] at H'); clear C H; have H := H'; clear H'; have C := Hp.facts H; simp only [Facts, factsL, and_true, true_and, List.set_cons_zero, List.set_cons_succ, List.setIfInBounds_toArray] at C)) | ((with_reducible apply Hp.abs_gen H); (repeat (with_reducible apply Hp.set' 4)); (with_reducible exact H); (repeat rfl); intro w' H'; ((try simp only [List.set_cons_zero, List.set_cons_succ, List.setIfInBounds_toArray] at H'); clear C H; have H := H'; clear H'; have C := Hp.facts H; simp only [Facts, factsL, and_true, true_and, List.set_cons_zero, List.set_cons_succ, List.setIfInBounds_toArray] at C)) | ((with_reducible apply Hp.abs_gen H); (repeat (with_reducible apply Hp.set' 5)); (with_reducible exact H); (repeat rfl); intro w' H'; ((try simp only [List.set_cons_zero, List.set_cons_succ, List.setIfInBounds_toArray] at H'); clear C H; have H := H'; clear H'; have C := Hp.facts H; simp only [Facts, factsL, and_true, true_and, List.set_cons_zero, List.set_cons_succ, List.setIfInBounds_toArray] at C)) | ((with_reducible apply Hp.abs_gen H); (repeat (with_reducible apply Hp.set' 6)); (with_reducible exact H); (repeat rfl); intro w' H'; ((try simp only [List.set_cons_zero, List.set_cons_succ, List.setIfInBounds_toArray] at H'); clear C H; have H := H'; clear H'; have C := Hp.facts H; simp only [Facts, factsL, and_true, true_and, List.set_cons_zero, List.set_cons_succ, List.setIfInBounds_toArray] at C)) | ((with_reducible apply Hp.abs_gen H); (repeat (with_reducible apply Hp.set' 7)); (with_reducible exact H); (repeat rfl); intro w' H'; ((try simp only [List.set_cons_zero, List.set_cons_succ, List.setIfInBounds_toArray] at H'); clear C H; have H := H'; clear H'; have C := Hp.facts H; simp only [Facts, factsL, and_true, true_and, List.set_cons_zero, List.set_cons_succ, List.setIfInBounds_toArray] at C))) | go_values | go_skip | go_guarded | go_step | go_upon | go_back | (simp only [Int.not_lt, Int.not_le] at *; go_simp) | (go_values <;> (try go_simp)) | (go_ite <;> go_prune <;> (try go_simp)) | (split <;> (first | (rename_i hx; exact (hx _ rfl).elim) | go_prune))))
    go_ret
    exact ⟨rfl, H.low⟩
set_option maxHeartbeats 4000000 in
set_option maxRecDepth 100000 in
theorem law_no (a b c : Int) (x y z : Bool) (f te age more : Int) (ha : Sp.ok a) (hf : Sp.ok f) (ht : Sp.ok te) (hg : Sp.ok age) (w : World) :
    Calls Try.prog 3 #[.agg #[.int .i64 a, .int .i64 b, .int .i64 c, .bool x, .bool y, .bool z], .int .i64 f, .bool false, .int .i64 te, .int .i64 age, .int .i64 more] w fun e w' => e = .returned (.bool true) ∧ Below w.heap.size w w' := by
  have H := Hp.start w
  have C : True := trivial
  have hm := m_ok more
  go_enter Try.func3, Try.ntmps3
  (repeat' (first | ((with_reducible refine Hp.abs_alloc H ?_); intro b' w' H' hb'; (try simp only [hb']); clear hb'; ((try simp only [List.set_cons_zero, List.set_cons_succ, List.setIfInBounds_toArray] at H'); clear C H; have H := H'; clear H'; have C := Hp.facts H; simp only [Facts, factsL, and_true, true_and, List.set_cons_zero, List.set_cons_succ, List.setIfInBounds_toArray] at C)) | ((with_reducible show wpList _ _ _ _ _ (World.setCell _ _ _)); first | ((with_reducible apply Hp.abs_gen H); (repeat (with_reducible apply Hp.set' 0)); (with_reducible exact H); (repeat rfl); intro w' H'; ((try simp only [List.set_cons_zero, List.set_cons_succ, List.setIfInBounds_toArray] at H'); clear C H; have H := H'; clear H'; have C := Hp.facts H; simp only [Facts, factsL, and_true, true_and, List.set_cons_zero, List.set_cons_succ, List.setIfInBounds_toArray] at C)) | ((with_reducible apply Hp.abs_gen H); (repeat (with_reducible apply Hp.set' 1)); (with_reducible exact H); (repeat rfl); intro w' H'; ((try simp only [List.set_cons_zero, List.set_cons_succ, List.setIfInBounds_toArray] at H'); clear C H; have H := H'; clear H'; have C := Hp.facts H; simp only [Facts, factsL, and_true, true_and, List.set_cons_zero, List.set_cons_succ, List.setIfInBounds_toArray] at C)) | ((with_reducible apply Hp.abs_gen H); (repeat (with_reducible apply Hp.set' 2)); (with_reducible exact H); (repeat rfl); intro w' H'; ((try simp only [List.set_cons_zero, List.set_cons_succ, List.setIfInBounds_toArray] at H'); clear C H; have H := H'; clear H'; have C := Hp.facts H; simp only [Facts, factsL, and_true, true_and, List.set_cons_zero, List.set_cons_succ, List.setIfInBounds_toArray] at C)) | ((with_reducible apply Hp.abs_gen H); (repeat (with_reducible apply Hp.set' 3)); (with_reducible exact H); (repeat rfl); intro w' H'; ((try simp only [List.set_cons_zero, List.set_cons_succ, List.setIfInBounds_toArray] at H'); clear C H; have H := H'; clear H'; have C := Hp.facts H; simp only [Facts, factsL, and_true, true_and, List.set_cons_zero, List.set_cons_succ, List.setIfInBounds_toArray] at C)) | ((with_reducible apply Hp.abs_gen H); (repeat (with_reducible apply Hp.set' 4)); (with_reducible exact H); (repeat rfl); intro w' H'; ((try simp only [List.set_cons_zero, List.set_cons_succ, List.setIfInBounds_toArray] at H'); clear C H; have H := H'; clear H'; have C := Hp.facts H; simp only [Facts, factsL, and_true, true_and, List.set_cons_zero, List.set_cons_succ, List.setIfInBounds_toArray] at C)) | ((with_reducible apply Hp.abs_gen H); (repeat (with_reducible apply Hp.set' 5)); (with_reducible exact H); (repeat rfl); intro w' H'; ((try simp only [List.set_cons_zero, List.set_cons_succ, List.setIfInBounds_toArray] at H'); clear C H; have H := H'; clear H'; have C := Hp.facts H; simp only [Facts, factsL, and_true, true_and, List.set_cons_zero, List.set_cons_succ, List.setIfInBounds_toArray] at C)) | ((with_reducible apply Hp.abs_gen H); (repeat (with_reducible apply Hp.set' 6)); (with_reducible exact H); (repeat rfl); intro w' H'; ((try simp only [List.set_cons_zero, List.set_cons_succ, List.setIfInBounds_toArray] at H'); clear C H; have H := H'; clear H'; have C := Hp.facts H; simp only [Facts, factsL, and_true, true_and, List.set_cons_zero, List.set_cons_succ, List.setIfInBounds_toArray] at C)) | ((with_reducible apply Hp.abs_gen H); (repeat (with_reducible apply Hp.set' 7)); (with_reducible exact H); (repeat rfl); intro w' H'; ((try simp only [List.set_cons_zero, List.set_cons_succ, List.setIfInBounds_toArray] at H'); clear C H; have H := H'; clear H'; have C := Hp.facts H; simp only [Facts, factsL, and_true, true_and, List.set_cons_zero, List.set_cons_succ, List.setIfInBounds_toArray] at C))) | (go_at_call 4; (with_reducible refine (to_any _ _ _ _ _ _ _).mono ?_); rintro e' w' ⟨rfl, hb'⟩; (have H' := Hp.step H hb'; clear hb'; ((try simp only [List.set_cons_zero, List.set_cons_succ, List.setIfInBounds_toArray] at H'); clear C H; have H := H'; clear H'; have C := Hp.facts H; simp only [Facts, factsL, and_true, true_and, List.set_cons_zero, List.set_cons_succ, List.setIfInBounds_toArray] at C))) | go_values | go_skip | go_guarded | go_step | go_upon | go_back | (simp only [Int.not_lt, Int.not_le] at *; go_simp) | (go_values <;> (try go_simp)) | (go_ite <;> go_prune <;> (try go_simp)) | (split <;> (first | (rename_i hx; exact (hx _ rfl).elim) | go_prune))))
  refine (fresh_spec _ _ _ _ _ _ _ none _ _ hf ha hg _ (by exact rfl)).mono ?_
  generalize hS : frP a b c y f none age = S
  obtain ⟨s1, s2⟩ := S
  have eS := Lib.hid hS
  clear hS
  rintro e' w' ⟨rfl, hb'⟩
  rw [show spV (s1, s2) = .agg #[.int .i64 s1, .int .i64 s2] from rfl]
  (have H' := Hp.step H hb'; clear hb'; ((try simp only [List.set_cons_zero, List.set_cons_succ, List.setIfInBounds_toArray] at H'); clear C H; have H := H'; clear H'; have C := Hp.facts H; simp only [Facts, factsL, and_true, true_and, List.set_cons_zero, List.set_cons_succ, List.setIfInBounds_toArray] at C))
  (repeat' (first | ((with_reducible refine Hp.abs_alloc H ?_); intro b' w' H' hb'; (try simp only [hb']); clear hb'; ((try simp only [List.set_cons_zero, List.set_cons_succ, List.setIfInBounds_toArray] at H'); clear C H; have H := H'; clear H'; have C := Hp.facts H; simp only [Facts, factsL, and_true, true_and, List.set_cons_zero, List.set_cons_succ, List.setIfInBounds_toArray] at C)) | ((with_reducible show wpList _ _ _ _ _ (World.setCell _ _ _)); first | ((with_reducible apply Hp.abs_gen H); (repeat (with_reducible apply Hp.set' 0)); (with_reducible exact H); (repeat rfl); intro w' H'; ((try simp only [List.set_cons_zero, List.set_cons_succ, List.setIfInBounds_toArray] at H'); clear C H; have H := H'; clear H'; have C := Hp.facts H; simp only [Facts, factsL, and_true, true_and, List.set_cons_zero, List.set_cons_succ, List.setIfInBounds_toArray] at C)) | ((with_reducible apply Hp.abs_gen H); (repeat (with_reducible apply Hp.set' 1)); (with_reducible exact H); (repeat rfl); intro w' H'; ((try simp only [List.set_cons_zero, List.set_cons_succ, List.setIfInBounds_toArray] at H'); clear C H; have H := H'; clear H'; have C := Hp.facts H; simp only [Facts, factsL, and_true, true_and, List.set_cons_zero, List.set_cons_succ, List.setIfInBounds_toArray] at C)) | ((with_reducible apply Hp.abs_gen H); (repeat (with_reducible apply Hp.set' 2)); (with_reducible exact H); (repeat rfl); intro w' H'; ((try simp only [List.set_cons_zero, List.set_cons_succ, List.setIfInBounds_toArray] at H'); clear C H; have H := H'; clear H'; have C := Hp.facts H; simp only [Facts, factsL, and_true, true_and, List.set_cons_zero, List.set_cons_succ, List.setIfInBounds_toArray] at C)) | ((with_reducible apply Hp.abs_gen H); (repeat (with_reducible apply Hp.set' 3)); (with_reducible exact H); (repeat rfl); intro w' H'; ((try simp only [List.set_cons_zero, List.set_cons_succ, List.setIfInBounds_toArray] at H'); clear C H; have H := H'; clear H'; have C := Hp.facts H; simp only [Facts, factsL, and_true, true_and, List.set_cons_zero, List.set_cons_succ, List.setIfInBounds_toArray] at C)) | ((with_reducible apply Hp.abs_gen H); (repeat (with_reducible apply Hp.set' 4)); (with_reducible exact H); (repeat rfl); intro w' H'; ((try simp only [List.set_cons_zero, List.set_cons_succ, List.setIfInBounds_toArray] at H'); clear C H; have H := H'; clear H'; have C := Hp.facts H; simp only [Facts, factsL, and_true, true_and, List.set_cons_zero, List.set_cons_succ, List.setIfInBounds_toArray] at C)) | ((with_reducible apply Hp.abs_gen H); (repeat (with_reducible apply Hp.set' 5)); (with_reducible exact H); (repeat rfl); intro w' H'; ((try simp only [List.set_cons_zero, List.set_cons_succ, List.setIfInBounds_toArray] at H'); clear C H; have H := H'; clear H'; have C := Hp.facts H; simp only [Facts, factsL, and_true, true_and, List.set_cons_zero, List.set_cons_succ, List.setIfInBounds_toArray] at C)) | ((with_reducible apply Hp.abs_gen H); (repeat (with_reducible apply Hp.set' 6)); (with_reducible exact H); (repeat rfl); intro w' H'; ((try simp only [List.set_cons_zero, List.set_cons_succ, List.setIfInBounds_toArray] at H'); clear C H; have H := H'; clear H'; have C := Hp.facts H; simp only [Facts, factsL, and_true, true_and, List.set_cons_zero, List.set_cons_succ, List.setIfInBounds_toArray] at C)) | ((with_reducible apply Hp.abs_gen H); (repeat (with_reducible apply Hp.set' 7)); (with_reducible exact H); (repeat rfl); intro w' H'; ((try simp only [List.set_cons_zero, List.set_cons_succ, List.setIfInBounds_toArray] at H'); clear C H; have H := H'; clear H'; have C := Hp.facts H; simp only [Facts, factsL, and_true, true_and, List.set_cons_zero, List.set_cons_succ, List.setIfInBounds_toArray] at C))) | go_values | go_skip | go_guarded | go_step | go_upon | go_back | (simp only [Int.not_lt, Int.not_le] at *; go_simp) | (go_values <;> (try go_simp)) | (go_ite <;> go_prune <;> (try go_simp)) | (split <;> (first | (rename_i hx; exact (hx _ rfl).elim) | go_prune))))
  generalize wrap64 ((IntKind.u64.wrap more).tmod 1000000) = m at *
  have hmk : Sp.ok m := ⟨by omega, by omega⟩
  have gA := sadd_ok a m
  have gB := sadd_ok age m
  refine (add_blk _ _ ha hmk _ _ _ (H.get 0 rfl)).mono ?_
  generalize hA : Sp.sadd a m = A at gA
  have eA := Lib.hid hA
  clear hA
  rintro e' w' ⟨rfl, rfl⟩
  (repeat' (first | ((with_reducible refine Hp.abs_alloc H ?_); intro b' w' H' hb'; (try simp only [hb']); clear hb'; ((try simp only [List.set_cons_zero, List.set_cons_succ, List.setIfInBounds_toArray] at H'); clear C H; have H := H'; clear H'; have C := Hp.facts H; simp only [Facts, factsL, and_true, true_and, List.set_cons_zero, List.set_cons_succ, List.setIfInBounds_toArray] at C)) | ((with_reducible show wpList _ _ _ _ _ (World.setCell _ _ _)); first | ((with_reducible apply Hp.abs_gen H); (repeat (with_reducible apply Hp.set' 0)); (with_reducible exact H); (repeat rfl); intro w' H'; ((try simp only [List.set_cons_zero, List.set_cons_succ, List.setIfInBounds_toArray] at H'); clear C H; have H := H'; clear H'; have C := Hp.facts H; simp only [Facts, factsL, and_true, true_and, List.set_cons_zero, List.set_cons_succ, List.setIfInBounds_toArray] at C)) | ((with_reducible apply Hp.abs_gen H); (repeat (with_reducible apply Hp.set' 1)); (with_reducible exact H); (repeat rfl); intro w' H'; ((try simp only [List.set_cons_zero, List.set_cons_succ, List.setIfInBounds_toArray] at H'); clear C H; have H := H'; clear H'; have C := Hp.facts H; simp only [Facts, factsL, and_true, true_and, List.set_cons_zero, List.set_cons_succ, List.setIfInBounds_toArray] at C)) | ((with_reducible apply Hp.abs_gen H); (repeat (with_reducible apply Hp.set' 2)); (with_reducible exact H); (repeat rfl); intro w' H'; ((try simp only [List.set_cons_zero, List.set_cons_succ, List.setIfInBounds_toArray] at H'); clear C H; have H := H'; clear H'; have C := Hp.facts H; simp only [Facts, factsL, and_true, true_and, List.set_cons_zero, List.set_cons_succ, List.setIfInBounds_toArray] at C)) | ((with_reducible apply Hp.abs_gen H); (repeat (with_reducible apply Hp.set' 3)); (with_reducible exact H); (repeat rfl); intro w' H'; ((try simp only [List.set_cons_zero, List.set_cons_succ, List.setIfInBounds_toArray] at H'); clear C H; have H := H'; clear H'; have C := Hp.facts H; simp only [Facts, factsL, and_true, true_and, List.set_cons_zero, List.set_cons_succ, List.setIfInBounds_toArray] at C)) | ((with_reducible apply Hp.abs_gen H); (repeat (with_reducible apply Hp.set' 4)); (with_reducible exact H); (repeat rfl); intro w' H'; ((try simp only [List.set_cons_zero, List.set_cons_succ, List.setIfInBounds_toArray] at H'); clear C H; have H := H'; clear H'; have C := Hp.facts H; simp only [Facts, factsL, and_true, true_and, List.set_cons_zero, List.set_cons_succ, List.setIfInBounds_toArray] at C)) | ((with_reducible apply Hp.abs_gen H); (repeat (with_reducible apply Hp.set' 5)); (with_reducible exact H); (repeat rfl); intro w' H'; ((try simp only [List.set_cons_zero, List.set_cons_succ, List.setIfInBounds_toArray] at H'); clear C H; have H := H'; clear H'; have C := Hp.facts H; simp only [Facts, factsL, and_true, true_and, List.set_cons_zero, List.set_cons_succ, List.setIfInBounds_toArray] at C)) | ((with_reducible apply Hp.abs_gen H); (repeat (with_reducible apply Hp.set' 6)); (with_reducible exact H); (repeat rfl); intro w' H'; ((try simp only [List.set_cons_zero, List.set_cons_succ, List.setIfInBounds_toArray] at H'); clear C H; have H := H'; clear H'; have C := Hp.facts H; simp only [Facts, factsL, and_true, true_and, List.set_cons_zero, List.set_cons_succ, List.setIfInBounds_toArray] at C)) | ((with_reducible apply Hp.abs_gen H); (repeat (with_reducible apply Hp.set' 7)); (with_reducible exact H); (repeat rfl); intro w' H'; ((try simp only [List.set_cons_zero, List.set_cons_succ, List.setIfInBounds_toArray] at H'); clear C H; have H := H'; clear H'; have C := Hp.facts H; simp only [Facts, factsL, and_true, true_and, List.set_cons_zero, List.set_cons_succ, List.setIfInBounds_toArray] at C))) | go_values | go_skip | go_guarded | go_step | go_upon | go_back | (simp only [Int.not_lt, Int.not_le] at *; go_simp) | (go_values <;> (try go_simp)) | (go_ite <;> go_prune <;> (try go_simp)) | (split <;> (first | (rename_i hx; exact (hx _ rfl).elim) | go_prune))))
  refine (fresh_spec _ _ _ _ _ _ _ none _ _ hf gA hg _ (by exact rfl)).mono ?_
  generalize hT : frP A b c y f none age = T
  obtain ⟨t1, t2⟩ := T
  have eT := Lib.hid hT
  clear hT
  rintro e' w' ⟨rfl, hb'⟩
  rw [show spV (t1, t2) = .agg #[.int .i64 t1, .int .i64 t2] from rfl]
  (have H' := Hp.step H hb'; clear hb'; ((try simp only [List.set_cons_zero, List.set_cons_succ, List.setIfInBounds_toArray] at H'); clear C H; have H := H'; clear H'; have C := Hp.facts H; simp only [Facts, factsL, and_true, true_and, List.set_cons_zero, List.set_cons_succ, List.setIfInBounds_toArray] at C))
  (repeat' (first | ((with_reducible refine Hp.abs_alloc H ?_); intro b' w' H' hb'; (try simp only [hb']); clear hb'; ((try simp only [List.set_cons_zero, List.set_cons_succ, List.setIfInBounds_toArray] at H'); clear C H; have H := H'; clear H'; have C := Hp.facts H; simp only [Facts, factsL, and_true, true_and, List.set_cons_zero, List.set_cons_succ, List.setIfInBounds_toArray] at C)) | ((with_reducible show wpList _ _ _ _ _ (World.setCell _ _ _)); first | ((with_reducible apply Hp.abs_gen H); (repeat (with_reducible apply Hp.set' 0)); (with_reducible exact H); (repeat rfl); intro w' H'; ((try simp only [List.set_cons_zero, List.set_cons_succ, List.setIfInBounds_toArray] at H'); clear C H; have H := H'; clear H'; have C := Hp.facts H; simp only [Facts, factsL, and_true, true_and, List.set_cons_zero, List.set_cons_succ, List.setIfInBounds_toArray] at C)) | ((with_reducible apply Hp.abs_gen H); (repeat (with_reducible apply Hp.set' 1)); (with_reducible exact H); (repeat rfl); intro w' H'; ((try simp only [List.set_cons_zero, List.set_cons_succ, List.setIfInBounds_toArray] at H'); clear C H; have H := H'; clear H'; have C := Hp.facts H; simp only [Facts, factsL, and_true, true_and, List.set_cons_zero, List.set_cons_succ, List.setIfInBounds_toArray] at C)) | ((with_reducible apply Hp.abs_gen H); (repeat (with_reducible apply Hp.set' 2)); (with_reducible exact H); (repeat rfl); intro w' H'; ((try simp only [List.set_cons_zero, List.set_cons_succ, List.setIfInBounds_toArray] at H'); clear C H; have H := H'; clear H'; have C := Hp.facts H; simp only [Facts, factsL, and_true, true_and, List.set_cons_zero, List.set_cons_succ, List.setIfInBounds_toArray] at C)) | ((with_reducible apply Hp.abs_gen H); (repeat (with_reducible apply Hp.set' 3)); (with_reducible exact H); (repeat rfl); intro w' H'; ((try simp only [List.set_cons_zero, List.set_cons_succ, List.setIfInBounds_toArray] at H'); clear C H; have H := H'; clear H'; have C := Hp.facts H; simp only [Facts, factsL, and_true, true_and, List.set_cons_zero, List.set_cons_succ, List.setIfInBounds_toArray] at C)) | ((with_reducible apply Hp.abs_gen H); (repeat (with_reducible apply Hp.set' 4)); (with_reducible exact H); (repeat rfl); intro w' H'; ((try simp only [List.set_cons_zero, List.set_cons_succ, List.setIfInBounds_toArray] at H'); clear C H; have H := H'; clear H'; have C := Hp.facts H; simp only [Facts, factsL, and_true, true_and, List.set_cons_zero, List.set_cons_succ, List.setIfInBounds_toArray] at C)) | ((with_reducible apply Hp.abs_gen H); (repeat (with_reducible apply Hp.set' 5)); (with_reducible exact H); (repeat rfl); intro w' H'; ((try simp only [List.set_cons_zero, List.set_cons_succ, List.setIfInBounds_toArray] at H'); clear C H; have H := H'; clear H'; have C := Hp.facts H; simp only [Facts, factsL, and_true, true_and, List.set_cons_zero, List.set_cons_succ, List.setIfInBounds_toArray] at C)) | ((with_reducible apply Hp.abs_gen H); (repeat (with_reducible apply Hp.set' 6)); (with_reducible exact H); (repeat rfl); intro w' H'; ((try simp only [List.set_cons_zero, List.set_cons_succ, List.setIfInBounds_toArray] at H'); clear C H; have H := H'; clear H'; have C := Hp.facts H; simp only [Facts, factsL, and_true, true_and, List.set_cons_zero, List.set_cons_succ, List.setIfInBounds_toArray] at C)) | ((with_reducible apply Hp.abs_gen H); (repeat (with_reducible apply Hp.set' 7)); (with_reducible exact H); (repeat rfl); intro w' H'; ((try simp only [List.set_cons_zero, List.set_cons_succ, List.setIfInBounds_toArray] at H'); clear C H; have H := H'; clear H'; have C := Hp.facts H; simp only [Facts, factsL, and_true, true_and, List.set_cons_zero, List.set_cons_succ, List.setIfInBounds_toArray] at C))) | go_values | go_skip | go_guarded | go_step | go_upon | go_back | (simp only [Int.not_lt, Int.not_le] at *; go_simp) | (go_values <;> (try go_simp)) | (go_ite <;> go_prune <;> (try go_simp)) | (split <;> (first | (rename_i hx; exact (hx _ rfl).elim) | go_prune))))
  generalize hB : Sp.sadd age m = B at gB
  have eB := Lib.hid hB
  clear hB
  (obtain ⟨b17, rfl⟩ := Hp.name H 0 rfl; obtain ⟨bm, rfl⟩ := Hp.name H 1 rfl; obtain ⟨b16, rfl⟩ := Hp.name H 2 rfl; obtain ⟨b15, rfl⟩ := Hp.name H 3 rfl; obtain ⟨b13, rfl⟩ := Hp.name H 4 rfl; obtain ⟨b9, rfl⟩ := Hp.name H 5 rfl; obtain ⟨b6, rfl⟩ := Hp.name H 6 rfl)
  obtain ⟨w3, rfl⟩ := Hp.nameW H
  obtain ⟨u1, u2, hU⟩ : ∃ u1 u2, frP a b c y f none B = (u1, u2) := ⟨_, _, rfl⟩
  have eU := Lib.hid hU
  have hU' : spV (frP a b c y f none B) = .agg #[.int .i64 u1, .int .i64 u2] := by rw [hU]; rfl
  clear hU
  refine region_bl 9 106 [some 43, some 44, some 45, some 46, some 47, some 48, some 49, some 50, some 18, none] [[], [], [], [], [], [4], [3, 5], [0, 1, 2, 6], [], [7, 8]] [fun v _ => v = polV a b c x y z, fun v _ => v = .int .i64 f, fun v _ => v = .pointer none, fun v _ => v = .int .i64 age, fun v _ => v = .int .i64 m, NewSl w3.heap.size 1 #[.int .i64 m] 3, fun v _ => v = .int .i64 B, fun v _ => v = .agg #[.int .i64 u1, .int .i64 u2], NewPt w3.heap.size #[.int .i64 0, .int .i64 0] 28] (by kernel_rfl) (by kernel_rfl) (by kernel_rfl) rfl (by kernel_rfl) rfl rfl _ (fun vs => (by simp only [fillD, Nat.reduceAdd, Act.put, List.setIfInBounds_toArray, List.set_cons_zero, List.set_cons_succ, List.take_succ_cons, List.take_zero]; rfl)) _ (fun vs => (by simp only [fillD, Nat.reduceAdd, Act.put, List.setIfInBounds_toArray, List.set_cons_zero, List.set_cons_succ]; rfl)) ?_ ?_ ?_
  · refine ⟨fun _ _ _ _ h => h, fun _ _ _ _ h => h, fun _ _ _ _ h => h, fun _ _ _ _ h => h, fun _ _ _ _ h => h, fun _ _ _ hr h => h.stay fun k _ hl => hr.block k hl, fun _ _ _ _ h => h, fun _ _ _ _ h => h, fun _ _ _ hr h => h.stay fun k _ hl => hr.block k hl, trivial⟩
  · refine ⟨?_, ?_, ?_, ?_, ?_, ?_, ?_, ?_, ?_, trivial⟩
    · intro vs w' K hJ hR hK
      rw [if_pos (by rfl)]
      have H1 := Hp.step H.drew hR
      have C := Hp.facts H1
      simp only [Facts, factsL, and_true, true_and, List.set_cons_zero, List.set_cons_succ, List.setIfInBounds_toArray] at C
      go_step
      exact hK.out _ _ (Below.refl _ _) rfl
    · intro vs w' K hJ hR hK
      rw [if_pos (by rfl)]
      go_step
      exact hK.out _ _ (Below.refl _ _) (rfl)
    · intro vs w' K hJ hR hK
      rw [if_pos (by rfl)]
      go_step
      exact hK.out _ _ (Below.refl _ _) (rfl)
    · intro vs w' K hJ hR hK
      rw [if_pos (by rfl)]
      go_step
      exact hK.out _ _ (Below.refl _ _) (rfl)
    · intro vs w' K hJ hR hK
      rw [if_pos (by rfl)]
      go_step
      exact hK.out _ _ (Below.refl _ _) (rfl)
    · intro vs w' K hJ hR hK
      simp only [DepJ, List.getD_cons_zero, List.getD_cons_succ] at hJ
      obtain ⟨j4, -⟩ := hJ
      simp only [j4] at hK ⊢
      rw [if_pos (by rfl)]
      go_step
      exact hK.out _ _ ((Below.refl _ _).alloc (Nat.le_refl _) _) (NewSl.mk _ _ _ _ _ hR.size)
    · intro vs w' K hJ hR hK
      simp only [DepJ, List.getD_cons_zero, List.getD_cons_succ] at hJ
      obtain ⟨j3, j5, -⟩ := hJ
      obtain ⟨k5, j5, hB5, hh5⟩ := j5
      simp only [j3, j5] at hK ⊢
      rw [if_pos (by rfl)]
      go_step
      refine (add_blk _ _ hg hmk _ _ _ hh5).mono ?_
      rintro e' w'' ⟨rfl, rfl⟩
      rw [eB.out]
      exact hK.out _ _ (BelowR.refl _) rfl
    · intro vs w' K hJ hR hK
      simp only [DepJ, List.getD_cons_zero, List.getD_cons_succ] at hJ
      obtain ⟨j0, j1, j2, j6, -⟩ := hJ
      simp only [j0, j1, j2, j6] at hK ⊢
      rw [if_pos (by rfl)]
      have H1 := Hp.step H.drew hR
      go_step
      refine (fresh_spec _ _ _ _ _ _ _ none _ _ hf ha gB _ (by exact rfl)).mono ?_
      rintro e' w'' ⟨rfl, hb⟩
      rw [hU']
      exact hK.out _ _ hb rfl
    · intro vs w' K hJ hR hK
      rw [if_pos (by rfl)]
      go_step
      exact hK.out _ _ ((Below.refl _ _).alloc (Nat.le_refl _) _) (NewPt.mk _ _ _ _ hR.size)
  intro vs w' hJ hR
  simp only [AllJ, Nat.reduceAdd] at hJ
  obtain ⟨v0, v1, v2, v3, v4, v5, v6, v7, v8, -⟩ := hJ
  obtain ⟨b18, e8, hB8, hh8⟩ := v8
  have H' := Hp.adopt H.drew hR (.blk b18 #[.int .i64 0, .int .i64 0] 28) ⟨hh8, hB8⟩
  ((try simp only [List.set_cons_zero, List.set_cons_succ, List.setIfInBounds_toArray] at H'); clear C H; have H := H'; clear H'; have C := Hp.facts H; simp only [Facts, factsL, and_true, true_and, List.set_cons_zero, List.set_cons_succ, List.setIfInBounds_toArray] at C)
  simp only [v0, v1, v2, v3, v4, v6, v7, e8]
  clear v0 v1 v2 v3 v4 v5 v6 v7 e8 hB8 hh8 hR
  rw [if_pos (by rfl)]
  have LW := Lib.hid (fr_law hf ha hg (fun t h => by cases h) hm.1 eA.out eB.out eS.out eT.out eU.out)
  clear eB eS eT eU eA
  generalize hF : Sp.ssub f a = F at LW
  have eF := Lib.hid hF
  clear hF
  rcases LW.out with ⟨rfl, rfl⟩ | ⟨q0, q1, q2, q3, q4, q5⟩
  · clear LW
    (repeat' (first | ((with_reducible refine Hp.abs_alloc H ?_); intro b' w' H' hb'; (try simp only [hb']); clear hb'; ((try simp only [List.set_cons_zero, List.set_cons_succ, List.setIfInBounds_toArray] at H'); clear C H; have H := H'; clear H'; have C := Hp.facts H; simp only [Facts, factsL, and_true, true_and, List.set_cons_zero, List.set_cons_succ, List.setIfInBounds_toArray] at C)) | ((with_reducible show wpList _ _ _ _ _ (World.setCell _ _ _)); first | ((with_reducible apply Hp.abs_gen H); (repeat (with_reducible apply Hp.set' 0)); (with_reducible exact H); (repeat rfl); intro w' H'; ((try simp only [List.set_cons_zero, List.set_cons_succ, List.setIfInBounds_toArray] at H'); clear C H; have H := H'; clear H'; have C := Hp.facts H; simp only [Facts, factsL, and_true, true_and, List.set_cons_zero, List.set_cons_succ, List.setIfInBounds_toArray] at C)) | ((with_reducible apply Hp.abs_gen H); (repeat (with_reducible apply Hp.set' 1)); (with_reducible exact H); (repeat rfl); intro w' H'; ((try simp only [List.set_cons_zero, List.set_cons_succ, List.setIfInBounds_toArray] at H'); clear C H; have H := H'; clear H'; have C := Hp.facts H; simp only [Facts, factsL, and_true, true_and, List.set_cons_zero, List.set_cons_succ, List.setIfInBounds_toArray] at C)) | ((with_reducible apply Hp.abs_gen H); (repeat (with_reducible apply Hp.set' 2)); (with_reducible exact H); (repeat rfl); intro w' H'; ((try simp only [List.set_cons_zero, List.set_cons_succ, List.setIfInBounds_toArray] at H'); clear C H; have H := H'; clear H'; have C := Hp.facts H; simp only [Facts, factsL, and_true, true_and, List.set_cons_zero, List.set_cons_succ, List.setIfInBounds_toArray] at C)) | ((with_reducible apply Hp.abs_gen H); (repeat (with_reducible apply Hp.set' 3)); (with_reducible exact H); (repeat rfl); intro w' H'; ((try simp only [List.set_cons_zero, List.set_cons_succ, List.setIfInBounds_toArray] at H'); clear C H; have H := H'; clear H'; have C := Hp.facts H; simp only [Facts, factsL, and_true, true_and, List.set_cons_zero, List.set_cons_succ, List.setIfInBounds_toArray] at C)) | ((with_reducible apply Hp.abs_gen H); (repeat (with_reducible apply Hp.set' 4)); (with_reducible exact H); (repeat rfl); intro w' H'; ((try simp only [List.set_cons_zero, List.set_cons_succ, List.setIfInBounds_toArray] at H'); clear C H; have H := H'; clear H'; have C := Hp.facts H; simp only [Facts, factsL, and_true, true_and, List.set_cons_zero, List.set_cons_succ, List.setIfInBounds_toArray] at C)) | ((with_reducible apply Hp.abs_gen H); (repeat (with_reducible apply Hp.set' 5)); (with_reducible exact H); (repeat rfl); intro w' H'; ((try simp only [List.set_cons_zero, List.set_cons_succ, List.setIfInBounds_toArray] at H'); clear C H; have H := H'; clear H'; have C := Hp.facts H; simp only [Facts, factsL, and_true, true_and, List.set_cons_zero, List.set_cons_succ, List.setIfInBounds_toArray] at C)) | ((with_reducible apply Hp.abs_gen H); (repeat (with_reducible apply Hp.set' 6)); (with_reducible exact H); (repeat rfl); intro w' H'; ((try simp only [List.set_cons_zero, List.set_cons_succ, List.setIfInBounds_toArray] at H'); clear C H; have H := H'; clear H'; have C := Hp.facts H; simp only [Facts, factsL, and_true, true_and, List.set_cons_zero, List.set_cons_succ, List.setIfInBounds_toArray] at C)) | ((with_reducible apply Hp.abs_gen H); (repeat (with_reducible apply Hp.set' 7)); (with_reducible exact H); (repeat rfl); intro w' H'; ((try simp only [List.set_cons_zero, List.set_cons_succ, List.setIfInBounds_toArray] at H'); clear C H; have H := H'; clear H'; have C := Hp.facts H; simp only [Facts, factsL, and_true, true_and, List.set_cons_zero, List.set_cons_succ, List.setIfInBounds_toArray] at C))) | (go_at_call 7; (with_reducible refine (known_any _).mono ?_); rintro e' w' ⟨rfl, hb'⟩; (have H' := Hp.step H hb'; clear hb'; ((try simp only [List.set_cons_zero, List.set_cons_succ, List.setIfInBounds_toArray] at H'); clear C H; have H := H'; clear H'; have C := Hp.facts H; simp only [Facts, factsL, and_true, true_and, List.set_cons_zero, List.set_cons_succ, List.setIfInBounds_toArray] at C))) | (go_at_call 8; (with_reducible refine (empty_any _ _ _).mono ?_); rintro e' w' ⟨rfl, hb'⟩; (have H' := Hp.step H hb'; clear hb'; ((try simp only [List.set_cons_zero, List.set_cons_succ, List.setIfInBounds_toArray] at H'); clear C H; have H := H'; clear H'; have C := Hp.facts H; simp only [Facts, factsL, and_true, true_and, List.set_cons_zero, List.set_cons_succ, List.setIfInBounds_toArray] at C))) | go_values | go_skip | go_guarded | go_step | go_upon | go_back | (simp only [Int.not_lt, Int.not_le] at *; go_simp) | (go_values <;> (try go_simp)) | (go_ite <;> go_prune <;> (try go_simp)) | (split <;> (first | (rename_i hx; exact (hx _ rfl).elim) | go_prune))))
    all_goals
      go_ret
      exact ⟨rfl, H.low⟩
  · clear LW
    subst q1
    have r2 := Lib.hid q2; have r3 := Lib.hid q3; have r4 := Lib.hid q4; have r5 := Lib.hid q5
    clear q2 q3 q4 q5
    (repeat' (first | ((with_reducible refine Hp.abs_alloc H ?_); intro b' w' H' hb'; (try simp only [hb']); clear hb'; ((try simp only [List.set_cons_zero, List.set_cons_succ, List.setIfInBounds_toArray] at H'); clear C H; have H := H'; clear H'; have C := Hp.facts H; simp only [Facts, factsL, and_true, true_and, List.set_cons_zero, List.set_cons_succ, List.setIfInBounds_toArray] at C)) | ((with_reducible show wpList _ _ _ _ _ (World.setCell _ _ _)); first | ((with_reducible apply Hp.abs_gen H); (repeat (with_reducible apply Hp.set' 0)); (with_reducible exact H); (repeat rfl); intro w' H'; ((try simp only [List.set_cons_zero, List.set_cons_succ, List.setIfInBounds_toArray] at H'); clear C H; have H := H'; clear H'; have C := Hp.facts H; simp only [Facts, factsL, and_true, true_and, List.set_cons_zero, List.set_cons_succ, List.setIfInBounds_toArray] at C)) | ((with_reducible apply Hp.abs_gen H); (repeat (with_reducible apply Hp.set' 1)); (with_reducible exact H); (repeat rfl); intro w' H'; ((try simp only [List.set_cons_zero, List.set_cons_succ, List.setIfInBounds_toArray] at H'); clear C H; have H := H'; clear H'; have C := Hp.facts H; simp only [Facts, factsL, and_true, true_and, List.set_cons_zero, List.set_cons_succ, List.setIfInBounds_toArray] at C)) | ((with_reducible apply Hp.abs_gen H); (repeat (with_reducible apply Hp.set' 2)); (with_reducible exact H); (repeat rfl); intro w' H'; ((try simp only [List.set_cons_zero, List.set_cons_succ, List.setIfInBounds_toArray] at H'); clear C H; have H := H'; clear H'; have C := Hp.facts H; simp only [Facts, factsL, and_true, true_and, List.set_cons_zero, List.set_cons_succ, List.setIfInBounds_toArray] at C)) | ((with_reducible apply Hp.abs_gen H); (repeat (with_reducible apply Hp.set' 3)); (with_reducible exact H); (repeat rfl); intro w' H'; ((try simp only [List.set_cons_zero, List.set_cons_succ, List.setIfInBounds_toArray] at H'); clear C H; have H := H'; clear H'; have C := Hp.facts H; simp only [Facts, factsL, and_true, true_and, List.set_cons_zero, List.set_cons_succ, List.setIfInBounds_toArray] at C)) | ((with_reducible apply Hp.abs_gen H); (repeat (with_reducible apply Hp.set' 4)); (with_reducible exact H); (repeat rfl); intro w' H'; ((try simp only [List.set_cons_zero, List.set_cons_succ, List.setIfInBounds_toArray] at H'); clear C H; have H := H'; clear H'; have C := Hp.facts H; simp only [Facts, factsL, and_true, true_and, List.set_cons_zero, List.set_cons_succ, List.setIfInBounds_toArray] at C)) | ((with_reducible apply Hp.abs_gen H); (repeat (with_reducible apply Hp.set' 5)); (with_reducible exact H); (repeat rfl); intro w' H'; ((try simp only [List.set_cons_zero, List.set_cons_succ, List.setIfInBounds_toArray] at H'); clear C H; have H := H'; clear H'; have C := Hp.facts H; simp only [Facts, factsL, and_true, true_and, List.set_cons_zero, List.set_cons_succ, List.setIfInBounds_toArray] at C)) | ((with_reducible apply Hp.abs_gen H); (repeat (with_reducible apply Hp.set' 6)); (with_reducible exact H); (repeat rfl); intro w' H'; ((try simp only [List.set_cons_zero, List.set_cons_succ, List.setIfInBounds_toArray] at H'); clear C H; have H := H'; clear H'; have C := Hp.facts H; simp only [Facts, factsL, and_true, true_and, List.set_cons_zero, List.set_cons_succ, List.setIfInBounds_toArray] at C)) | ((with_reducible apply Hp.abs_gen H); (repeat (with_reducible apply Hp.set' 7)); (with_reducible exact H); (repeat rfl); intro w' H'; ((try simp only [List.set_cons_zero, List.set_cons_succ, List.setIfInBounds_toArray] at H'); clear C H; have H := H'; clear H'; have C := Hp.facts H; simp only [Facts, factsL, and_true, true_and, List.set_cons_zero, List.set_cons_succ, List.setIfInBounds_toArray] at C))) | (go_at_call 7; (with_reducible refine (known_any _).mono ?_); rintro e' w' ⟨rfl, hb'⟩; (have H' := Hp.step H hb'; clear hb'; ((try simp only [List.set_cons_zero, List.set_cons_succ, List.setIfInBounds_toArray] at H'); clear C H; have H := H'; clear H'; have C := Hp.facts H; simp only [Facts, factsL, and_true, true_and, List.set_cons_zero, List.set_cons_succ, List.setIfInBounds_toArray] at C))) | (go_at_call 8; (with_reducible refine (empty_any _ _ _).mono ?_); rintro e' w' ⟨rfl, hb'⟩; (have H' := Hp.step H hb'; clear hb'; ((try simp only [List.set_cons_zero, List.set_cons_succ, List.setIfInBounds_toArray] at H'); clear C H; have H := H'; clear H'; have C := Hp.facts H; simp only [Facts, factsL, and_true, true_and, List.set_cons_zero, List.set_cons_succ, List.setIfInBounds_toArray] at C))) | go_values | go_skip | go_guarded | go_step | go_upon | go_back | (simp only [Int.not_lt, Int.not_le] at *; go_simp) | (go_values <;> (try go_simp)) | (go_ite <;> go_prune <;> (try go_simp)) | (split <;> (first | (rename_i hx; exact (hx _ rfl).elim) | go_prune))))
    obtain ⟨w9, rfl⟩ := Hp.nameW H
    obtain ⟨Bt, hBt⟩ : ∃ Bt : Bool, decide (t2 < t1) = Bt := ⟨_, rfl⟩
    have gBt := Lib.hid hBt
    clear hBt
    obtain ⟨Bu, hBu⟩ : ∃ Bu : Bool, decide (s2 < s1) = Bu := ⟨_, rfl⟩
    have gBu := Lib.hid hBu
    clear hBu
    have q6 : Hid (s2 < s1 ∨ (s1 ≤ s1 ∧ s2 ≤ s2)) := Or.inr ⟨Int.le_refl _, Int.le_refl _⟩
    refine region_b 106 [some 61, some 62, some 63, some 64, some 65, some 66, some 67, some 68, some 69, some 70, some 71, some 72, some 73, some 74, some 75, some 76, some 77, some 78, some 79, some 80, some 81, some 82, some 83, some 84, some 85, some 86, some 87, some 88, some 89, some 90, some 91, some 92, some 93, some 94, some 95, some 96, some 97, some 98, some 99, some 100, some 101, some 102, some 103, some 104, some 105, some 12] [[], [0], [], [], [3], [2, 4], [1, 5], [6], [7], [7, 8], [7, 9], [7, 10], [7, 11], [12], [13], [13, 14], [13, 15], [16], [16], [16, 17, 18], [13, 16, 19], [13, 20], [21], [22], [22, 23], [22, 24], [25], [25], [25, 26, 27], [22, 25, 28], [22, 29], [30], [31], [31, 32], [31, 33], [34], [34, 35], [34], [34], [34, 38], [34, 39], [34, 37, 40], [34, 36, 41], [31, 34, 42], [31, 43], [44]] [fun v _ => v = .pointer (some ⟨b15, 0, none⟩), fun v _ => v = .int .i64 s1, fun v _ => v = .int .i64 f, fun v _ => v = .pointer (some ⟨b13, 0, none⟩), fun v _ => v = .int .i64 a, fun v _ => v = .int .i64 s1, fun v _ => v = .bool true, fun v _ => v = .bool true, fun v _ => v = .pointer (some ⟨b15, 0, none⟩), fun v _ => v = .int .i64 s1, fun v _ => v = .bool false, fun v _ => v = .bool true, fun v _ => v = .bool true, fun v _ => v = .bool true, fun v _ => v = .agg #[.int .i64 t1, .int .i64 t2], fun v _ => v = .bool Bt, fun v _ => v = .bool Bt, fun v _ => Bt = false → v = .agg #[.int .i64 s1, .int .i64 s2], fun v _ => Bt = false → v = .agg #[.int .i64 t1, .int .i64 t2], fun v _ => Bt = false → v = .bool true, fun v _ => v = .bool true, fun v _ => v = .bool true, fun v _ => v = .bool true, fun v _ => v = .agg #[.int .i64 s1, .int .i64 s2], fun v _ => v = .bool Bu, fun v _ => v = .bool Bu, fun v _ => Bu = false → v = .agg #[.int .i64 s1, .int .i64 s2], fun v _ => Bu = false → v = .agg #[.int .i64 s1, .int .i64 s2], fun v _ => Bu = false → v = .bool true, fun v _ => v = .bool true, fun v _ => v = .bool true, fun v _ => v = .bool true, fun v _ => v = .bool false, fun v _ => v = .bool true, fun v _ => v = .bool true, fun v _ => v = undef, fun v _ => v = undef, fun v _ => v = undef, fun v _ => v = undef, fun v _ => v = undef, fun v _ => v = undef, fun v _ => v = undef, fun v _ => v = undef, fun v _ => v = .bool true, fun v _ => v = .bool true, fun v _ => v = .bool true] (by kernel_rfl) (by kernel_rfl) rfl (by kernel_rfl) rfl _ (fun vs => (by simp only [fillD, Nat.reduceAdd, Act.put, List.setIfInBounds_toArray, List.set_cons_zero, List.set_cons_succ]; rfl)) ?_ ?_ ?_
    · refine ⟨fun _ _ _ _ h => h, fun _ _ _ _ h => h, fun _ _ _ _ h => h, fun _ _ _ _ h => h, fun _ _ _ _ h => h, fun _ _ _ _ h => h, fun _ _ _ _ h => h, fun _ _ _ _ h => h, fun _ _ _ _ h => h, fun _ _ _ _ h => h, fun _ _ _ _ h => h, fun _ _ _ _ h => h, fun _ _ _ _ h => h, fun _ _ _ _ h => h, fun _ _ _ _ h => h, fun _ _ _ _ h => h, fun _ _ _ _ h => h, fun _ _ _ _ h => h, fun _ _ _ _ h => h, fun _ _ _ _ h => h, fun _ _ _ _ h => h, fun _ _ _ _ h => h, fun _ _ _ _ h => h, fun _ _ _ _ h => h, fun _ _ _ _ h => h, fun _ _ _ _ h => h, fun _ _ _ _ h => h, fun _ _ _ _ h => h, fun _ _ _ _ h => h, fun _ _ _ _ h => h, fun _ _ _ _ h => h, fun _ _ _ _ h => h, fun _ _ _ _ h => h, fun _ _ _ _ h => h, fun _ _ _ _ h => h, fun _ _ _ _ h => h, fun _ _ _ _ h => h, fun _ _ _ _ h => h, fun _ _ _ _ h => h, fun _ _ _ _ h => h, fun _ _ _ _ h => h, fun _ _ _ _ h => h, fun _ _ _ _ h => h, fun _ _ _ _ h => h, fun _ _ _ _ h => h, fun _ _ _ _ h => h, trivial⟩
    · refine ⟨?_, ?_, ?_, ?_, ?_, ?_, ?_, ?_, ?_, ?_, ?_, ?_, ?_, ?_, ?_, ?_, ?_, ?_, ?_, ?_, ?_, ?_, ?_, ?_, ?_, ?_, ?_, ?_, ?_, ?_, ?_, ?_, ?_, ?_, ?_, ?_, ?_, ?_, ?_, ?_, ?_, ?_, ?_, ?_, ?_, ?_, trivial⟩
      · intro vs w' K hJ hR hK
        rw [if_pos (by rfl)]
        go_step
        exact hK.out _ _ (Below.refl _ _) (rfl)
      · intro vs w' K hJ hR hK
        simp only [DepJ, List.getD_cons_zero, List.getD_cons_succ] at hJ
        obtain ⟨j0, -⟩ := hJ
        simp only [j0] at hK ⊢
        rw [if_pos (by rfl)]
        have C := Hp.facts (Hp.step H.drew hR)
        simp only [Facts, factsL, and_true, true_and, List.set_cons_zero, List.set_cons_succ, List.setIfInBounds_toArray] at C
        go_step
        exact hK.out _ _ (Below.refl _ _) (rfl)
      · intro vs w' K hJ hR hK
        rw [if_pos (by rfl)]
        go_step
        exact hK.out _ _ (Below.refl _ _) (rfl)
      · intro vs w' K hJ hR hK
        rw [if_pos (by rfl)]
        go_step
        exact hK.out _ _ (Below.refl _ _) (rfl)
      · intro vs w' K hJ hR hK
        simp only [DepJ, List.getD_cons_zero, List.getD_cons_succ] at hJ
        obtain ⟨j3, -⟩ := hJ
        simp only [j3] at hK ⊢
        rw [if_pos (by rfl)]
        have C := Hp.facts (Hp.step H.drew hR)
        simp only [Facts, factsL, and_true, true_and, List.set_cons_zero, List.set_cons_succ, List.setIfInBounds_toArray] at C
        go_step
        exact hK.out _ _ (Below.refl _ _) (rfl)
      · intro vs w' K hJ hR hK
        simp only [DepJ, List.getD_cons_zero, List.getD_cons_succ] at hJ
        obtain ⟨j2, j4, -⟩ := hJ
        simp only [j2, j4] at hK ⊢
        rw [if_pos (by rfl)]
        go_step
        refine (sub_any _ _ hf ha _).mono ?_
        rintro e' w'' ⟨rfl, rfl⟩
        rw [eF.out]
        exact hK.out _ _ (BelowR.refl _) rfl
      · intro vs w' K hJ hR hK
        simp only [DepJ, List.getD_cons_zero, List.getD_cons_succ] at hJ
        obtain ⟨j1, j5, -⟩ := hJ
        simp only [j1, j5] at hK ⊢
        rw [if_pos (by rfl)]
        go_step
        exact hK.out _ _ (Below.refl _ _) (by simp)
      · intro vs w' K hJ hR hK
        simp only [DepJ, List.getD_cons_zero, List.getD_cons_succ] at hJ
        obtain ⟨j6, -⟩ := hJ
        simp only [j6] at hK ⊢
        rw [if_pos (by rfl)]
        go_step
        exact hK.out _ _ (Below.refl _ _) (rfl)
      · intro vs w' K hJ hR hK
        simp only [DepJ, List.getD_cons_zero, List.getD_cons_succ] at hJ
        obtain ⟨j7, -⟩ := hJ
        simp only [j7] at hK ⊢
        rw [if_pos (by rfl)]
        go_step
        exact hK.out _ _ (Below.refl _ _) (rfl)
      · intro vs w' K hJ hR hK
        simp only [DepJ, List.getD_cons_zero, List.getD_cons_succ] at hJ
        obtain ⟨j7, j8, -⟩ := hJ
        simp only [j7, j8] at hK ⊢
        rw [if_pos (by rfl)]
        have C := Hp.facts (Hp.step H.drew hR)
        simp only [Facts, factsL, and_true, true_and, List.set_cons_zero, List.set_cons_succ, List.setIfInBounds_toArray] at C
        go_step
        exact hK.out _ _ (Below.refl _ _) (rfl)
      · intro vs w' K hJ hR hK
        simp only [DepJ, List.getD_cons_zero, List.getD_cons_succ] at hJ
        obtain ⟨j7, j9, -⟩ := hJ
        simp only [j7, j9] at hK ⊢
        rw [if_pos (by rfl)]
        go_step
        refine (ends_any _ _).mono ?_
        rintro e' w'' ⟨rfl, rfl⟩
        rw [r2.out]
        exact hK.out _ _ (BelowR.refl _) rfl
      · intro vs w' K hJ hR hK
        simp only [DepJ, List.getD_cons_zero, List.getD_cons_succ] at hJ
        obtain ⟨j7, j10, -⟩ := hJ
        simp only [j7, j10] at hK ⊢
        rw [if_pos (by rfl)]
        go_step
        exact hK.out _ _ (Below.refl _ _) (rfl)
      · intro vs w' K hJ hR hK
        simp only [DepJ, List.getD_cons_zero, List.getD_cons_succ] at hJ
        obtain ⟨j7, j11, -⟩ := hJ
        simp only [j7, j11] at hK ⊢
        rw [if_pos (by rfl)]
        go_step
        exact hK.out _ _ (Below.refl _ _) (rfl)
      · intro vs w' K hJ hR hK
        simp only [DepJ, List.getD_cons_zero, List.getD_cons_succ] at hJ
        obtain ⟨j12, -⟩ := hJ
        simp only [j12] at hK ⊢
        rw [if_pos (by rfl)]
        go_step
        exact hK.out _ _ (Below.refl _ _) (rfl)
      · intro vs w' K hJ hR hK
        simp only [DepJ, List.getD_cons_zero, List.getD_cons_succ] at hJ
        obtain ⟨j13, -⟩ := hJ
        simp only [j13] at hK ⊢
        rw [if_pos (by rfl)]
        have C := Hp.facts (Hp.step H.drew hR)
        simp only [Facts, factsL, and_true, true_and, List.set_cons_zero, List.set_cons_succ, List.setIfInBounds_toArray] at C
        go_step
        exact hK.out _ _ (Below.refl _ _) (rfl)
      · intro vs w' K hJ hR hK
        simp only [DepJ, List.getD_cons_zero, List.getD_cons_succ] at hJ
        obtain ⟨j13, j14, -⟩ := hJ
        simp only [j13, j14] at hK ⊢
        rw [if_pos (by rfl)]
        go_step
        refine (empty_any _ _ _).mono ?_
        rintro e' w'' ⟨rfl, hb⟩
        exact hK.out _ _ hb (by rw [gBt.out])
      · intro vs w' K hJ hR hK
        simp only [DepJ, List.getD_cons_zero, List.getD_cons_succ] at hJ
        obtain ⟨j13, j15, -⟩ := hJ
        simp only [j13, j15] at hK ⊢
        rw [if_pos (by rfl)]
        go_step
        exact hK.out _ _ (Below.refl _ _) (rfl)
      · intro vs w' K hJ hR hK
        simp only [DepJ, List.getD_cons_zero, List.getD_cons_succ] at hJ
        obtain ⟨j16, -⟩ := hJ
        cases Bt
        · simp only [j16] at hK ⊢
          rw [if_pos (by rfl)]
          have C := Hp.facts (Hp.step H.drew hR)
          simp only [Facts, factsL, and_true, true_and, List.set_cons_zero, List.set_cons_succ, List.setIfInBounds_toArray] at C
          go_step
          exact hK.out _ _ (Below.refl _ _) (fun _ => rfl)
        · simp only [j16] at hK ⊢
          rw [if_neg (by simp [Region.wanted, yielded])]
          exact hK.out _ _ (Below.refl _ _) (fun h => absurd h (by simp))
      · intro vs w' K hJ hR hK
        simp only [DepJ, List.getD_cons_zero, List.getD_cons_succ] at hJ
        obtain ⟨j16, -⟩ := hJ
        cases Bt
        · simp only [j16] at hK ⊢
          rw [if_pos (by rfl)]
          have C := Hp.facts (Hp.step H.drew hR)
          simp only [Facts, factsL, and_true, true_and, List.set_cons_zero, List.set_cons_succ, List.setIfInBounds_toArray] at C
          go_step
          exact hK.out _ _ (Below.refl _ _) (fun _ => rfl)
        · simp only [j16] at hK ⊢
          rw [if_neg (by simp [Region.wanted, yielded])]
          exact hK.out _ _ (Below.refl _ _) (fun h => absurd h (by simp))
      · intro vs w' K hJ hR hK
        simp only [DepJ, List.getD_cons_zero, List.getD_cons_succ] at hJ
        obtain ⟨j16, j17, j18, -⟩ := hJ
        cases Bt
        · have j17 := j17 rfl
          have j18 := j18 rfl
          simp only [j16, j17, j18] at hK ⊢
          rw [if_pos (by rfl)]
          go_step
          refine (within_any _ _ _ _ _).mono ?_
          rintro e' w'' ⟨rfl, hb⟩
          exact hK.out _ _ hb (fun _ => by have h1 := gBt.out; have h2 := r3.out; simp only [decide_eq_false_iff_not] at h1; first | (simp; done) | (simp; omega))
        · simp only [j16] at hK ⊢
          rw [if_neg (by simp [Region.wanted, yielded])]
          exact hK.out _ _ (Below.refl _ _) (fun h => absurd h (by simp))
      · intro vs w' K hJ hR hK
        simp only [DepJ, List.getD_cons_zero, List.getD_cons_succ] at hJ
        obtain ⟨j13, j16, j19, -⟩ := hJ
        cases Bt
        · have j19 := j19 rfl
          simp only [j13, j16, j19] at hK ⊢
          rw [if_pos (by rfl)]
          go_step
          exact hK.out _ _ (Below.refl _ _) (rfl)
        · simp only [j13, j16] at hK ⊢
          rw [if_pos (by rfl)]
          go_step
          exact hK.out _ _ (Below.refl _ _) (rfl)
      · intro vs w' K hJ hR hK
        simp only [DepJ, List.getD_cons_zero, List.getD_cons_succ] at hJ
        obtain ⟨j13, j20, -⟩ := hJ
        simp only [j13, j20] at hK ⊢
        rw [if_pos (by rfl)]
        go_step
        exact hK.out _ _ (Below.refl _ _) (rfl)
      · intro vs w' K hJ hR hK
        simp only [DepJ, List.getD_cons_zero, List.getD_cons_succ] at hJ
        obtain ⟨j21, -⟩ := hJ
        simp only [j21] at hK ⊢
        rw [if_pos (by rfl)]
        go_step
        exact hK.out _ _ (Below.refl _ _) (rfl)
      · intro vs w' K hJ hR hK
        simp only [DepJ, List.getD_cons_zero, List.getD_cons_succ] at hJ
        obtain ⟨j22, -⟩ := hJ
        simp only [j22] at hK ⊢
        rw [if_pos (by rfl)]
        have C := Hp.facts (Hp.step H.drew hR)
        simp only [Facts, factsL, and_true, true_and, List.set_cons_zero, List.set_cons_succ, List.setIfInBounds_toArray] at C
        go_step
        exact hK.out _ _ (Below.refl _ _) (rfl)
      · intro vs w' K hJ hR hK
        simp only [DepJ, List.getD_cons_zero, List.getD_cons_succ] at hJ
        obtain ⟨j22, j23, -⟩ := hJ
        simp only [j22, j23] at hK ⊢
        rw [if_pos (by rfl)]
        go_step
        refine (empty_any _ _ _).mono ?_
        rintro e' w'' ⟨rfl, hb⟩
        exact hK.out _ _ hb (by rw [gBu.out])
      · intro vs w' K hJ hR hK
        simp only [DepJ, List.getD_cons_zero, List.getD_cons_succ] at hJ
        obtain ⟨j22, j24, -⟩ := hJ
        simp only [j22, j24] at hK ⊢
        rw [if_pos (by rfl)]
        go_step
        exact hK.out _ _ (Below.refl _ _) (rfl)
      · intro vs w' K hJ hR hK
        simp only [DepJ, List.getD_cons_zero, List.getD_cons_succ] at hJ
        obtain ⟨j25, -⟩ := hJ
        cases Bu
        · simp only [j25] at hK ⊢
          rw [if_pos (by rfl)]
          have C := Hp.facts (Hp.step H.drew hR)
          simp only [Facts, factsL, and_true, true_and, List.set_cons_zero, List.set_cons_succ, List.setIfInBounds_toArray] at C
          go_step
          exact hK.out _ _ (Below.refl _ _) (fun _ => rfl)
        · simp only [j25] at hK ⊢
          rw [if_neg (by simp [Region.wanted, yielded])]
          exact hK.out _ _ (Below.refl _ _) (fun h => absurd h (by simp))
      · intro vs w' K hJ hR hK
        simp only [DepJ, List.getD_cons_zero, List.getD_cons_succ] at hJ
        obtain ⟨j25, -⟩ := hJ
        cases Bu
        · simp only [j25] at hK ⊢
          rw [if_pos (by rfl)]
          have C := Hp.facts (Hp.step H.drew hR)
          simp only [Facts, factsL, and_true, true_and, List.set_cons_zero, List.set_cons_succ, List.setIfInBounds_toArray] at C
          go_step
          exact hK.out _ _ (Below.refl _ _) (fun _ => rfl)
        · simp only [j25] at hK ⊢
          rw [if_neg (by simp [Region.wanted, yielded])]
          exact hK.out _ _ (Below.refl _ _) (fun h => absurd h (by simp))
      · intro vs w' K hJ hR hK
        simp only [DepJ, List.getD_cons_zero, List.getD_cons_succ] at hJ
        obtain ⟨j25, j26, j27, -⟩ := hJ
        cases Bu
        · have j26 := j26 rfl
          have j27 := j27 rfl
          simp only [j25, j26, j27] at hK ⊢
          rw [if_pos (by rfl)]
          go_step
          refine (within_any _ _ _ _ _).mono ?_
          rintro e' w'' ⟨rfl, hb⟩
          exact hK.out _ _ hb (fun _ => by have h1 := gBu.out; have h2 := q6.out; simp only [decide_eq_false_iff_not] at h1; first | (simp; done) | (simp; omega))
        · simp only [j25] at hK ⊢
          rw [if_neg (by simp [Region.wanted, yielded])]
          exact hK.out _ _ (Below.refl _ _) (fun h => absurd h (by simp))
      · intro vs w' K hJ hR hK
        simp only [DepJ, List.getD_cons_zero, List.getD_cons_succ] at hJ
        obtain ⟨j22, j25, j28, -⟩ := hJ
        cases Bu
        · have j28 := j28 rfl
          simp only [j22, j25, j28] at hK ⊢
          rw [if_pos (by rfl)]
          go_step
          exact hK.out _ _ (Below.refl _ _) (rfl)
        · simp only [j22, j25] at hK ⊢
          rw [if_pos (by rfl)]
          go_step
          exact hK.out _ _ (Below.refl _ _) (rfl)
      · intro vs w' K hJ hR hK
        simp only [DepJ, List.getD_cons_zero, List.getD_cons_succ] at hJ
        obtain ⟨j22, j29, -⟩ := hJ
        simp only [j22, j29] at hK ⊢
        rw [if_pos (by rfl)]
        go_step
        exact hK.out _ _ (Below.refl _ _) (rfl)
      · intro vs w' K hJ hR hK
        simp only [DepJ, List.getD_cons_zero, List.getD_cons_succ] at hJ
        obtain ⟨j30, -⟩ := hJ
        simp only [j30] at hK ⊢
        rw [if_pos (by rfl)]
        go_step
        exact hK.out _ _ (Below.refl _ _) (rfl)
      · intro vs w' K hJ hR hK
        simp only [DepJ, List.getD_cons_zero, List.getD_cons_succ] at hJ
        obtain ⟨j31, -⟩ := hJ
        simp only [j31] at hK ⊢
        rw [if_pos (by rfl)]
        go_step
        exact hK.out _ _ (Below.refl _ _) (rfl)
      · intro vs w' K hJ hR hK
        simp only [DepJ, List.getD_cons_zero, List.getD_cons_succ] at hJ
        obtain ⟨j31, j32, -⟩ := hJ
        simp only [j31, j32] at hK ⊢
        rw [if_pos (by rfl)]
        go_step
        exact hK.out _ _ (Below.refl _ _) (rfl)
      · intro vs w' K hJ hR hK
        simp only [DepJ, List.getD_cons_zero, List.getD_cons_succ] at hJ
        obtain ⟨j31, j33, -⟩ := hJ
        simp only [j31, j33] at hK ⊢
        rw [if_pos (by rfl)]
        go_step
        exact hK.out _ _ (Below.refl _ _) (rfl)
      · intro vs w' K hJ hR hK
        simp only [DepJ, List.getD_cons_zero, List.getD_cons_succ] at hJ
        obtain ⟨j34, -⟩ := hJ
        simp only [j34] at hK ⊢
        rw [if_neg (by simp [Region.wanted, yielded])]
        exact hK.out _ _ (Below.refl _ _) (rfl)
      · intro vs w' K hJ hR hK
        simp only [DepJ, List.getD_cons_zero, List.getD_cons_succ] at hJ
        obtain ⟨j34, j35, -⟩ := hJ
        simp only [j34, j35] at hK ⊢
        rw [if_neg (by simp [Region.wanted, yielded])]
        exact hK.out _ _ (Below.refl _ _) (rfl)
      · intro vs w' K hJ hR hK
        simp only [DepJ, List.getD_cons_zero, List.getD_cons_succ] at hJ
        obtain ⟨j34, -⟩ := hJ
        simp only [j34] at hK ⊢
        rw [if_neg (by simp [Region.wanted, yielded])]
        exact hK.out _ _ (Below.refl _ _) (rfl)
      · intro vs w' K hJ hR hK
        simp only [DepJ, List.getD_cons_zero, List.getD_cons_succ] at hJ
        obtain ⟨j34, -⟩ := hJ
        simp only [j34] at hK ⊢
        rw [if_neg (by simp [Region.wanted, yielded])]
        exact hK.out _ _ (Below.refl _ _) (rfl)
      · intro vs w' K hJ hR hK
        simp only [DepJ, List.getD_cons_zero, List.getD_cons_succ] at hJ
        obtain ⟨j34, j38, -⟩ := hJ
        simp only [j34, j38] at hK ⊢
        rw [if_neg (by simp [Region.wanted, yielded])]
        exact hK.out _ _ (Below.refl _ _) (rfl)
      · intro vs w' K hJ hR hK
        simp only [DepJ, List.getD_cons_zero, List.getD_cons_succ] at hJ
        obtain ⟨j34, j39, -⟩ := hJ
        simp only [j34, j39] at hK ⊢
        rw [if_neg (by simp [Region.wanted, yielded])]
        exact hK.out _ _ (Below.refl _ _) (rfl)
      · intro vs w' K hJ hR hK
        simp only [DepJ, List.getD_cons_zero, List.getD_cons_succ] at hJ
        obtain ⟨j34, j37, j40, -⟩ := hJ
        simp only [j34, j37, j40] at hK ⊢
        rw [if_neg (by simp [Region.wanted, yielded])]
        exact hK.out _ _ (Below.refl _ _) (rfl)
      · intro vs w' K hJ hR hK
        simp only [DepJ, List.getD_cons_zero, List.getD_cons_succ] at hJ
        obtain ⟨j34, j36, j41, -⟩ := hJ
        simp only [j34, j36, j41] at hK ⊢
        rw [if_neg (by simp [Region.wanted, yielded])]
        exact hK.out _ _ (Below.refl _ _) (rfl)
      · intro vs w' K hJ hR hK
        simp only [DepJ, List.getD_cons_zero, List.getD_cons_succ] at hJ
        obtain ⟨j31, j34, j42, -⟩ := hJ
        simp only [j31, j34, j42] at hK ⊢
        rw [if_pos (by rfl)]
        go_step
        exact hK.out _ _ (Below.refl _ _) (rfl)
      · intro vs w' K hJ hR hK
        simp only [DepJ, List.getD_cons_zero, List.getD_cons_succ] at hJ
        obtain ⟨j31, j43, -⟩ := hJ
        simp only [j31, j43] at hK ⊢
        rw [if_pos (by rfl)]
        go_step
        exact hK.out _ _ (Below.refl _ _) (rfl)
      · intro vs w' K hJ hR hK
        simp only [DepJ, List.getD_cons_zero, List.getD_cons_succ] at hJ
        obtain ⟨j44, -⟩ := hJ
        simp only [j44] at hK ⊢
        rw [if_pos (by rfl)]
        go_step
        exact hK.out _ _ (Below.refl _ _) (rfl)
    intro vs w' hJ hR
    simp only [AllJ, Nat.reduceAdd] at hJ
    obtain ⟨v0, v1, v2, v3, v4, v5, v6, v7, v8, v9, v10, v11, v12, v13, v14, v15, v16, v17, v18, v19, v20, v21, v22, v23, v24, v25, v26, v27, v28, v29, v30, v31, v32, v33, v34, v35, v36, v37, v38, v39, v40, v41, v42, v43, v44, v45, -⟩ := hJ
    simp only [v45]
    have H2 := Hp.step H.drew hR
    clear C H
    have H := H2
    have C := Hp.facts H
    (repeat' (first | ((with_reducible refine Hp.abs_alloc H ?_); intro b' w' H' hb'; (try simp only [hb']); clear hb'; ((try simp only [List.set_cons_zero, List.set_cons_succ, List.setIfInBounds_toArray] at H'); clear C H; have H := H'; clear H'; have C := Hp.facts H; simp only [Facts, factsL, and_true, true_and, List.set_cons_zero, List.set_cons_succ, List.setIfInBounds_toArray] at C)) | ((with_reducible show wpList _ _ _ _ _ (World.setCell _ _ _)); first | ((with_reducible apply Hp.abs_gen H); (repeat (with_reducible apply Hp.set' 0)); (with_reducible exact H); (repeat rfl); intro w' H'; ((try simp only [List.set_cons_zero, List.set_cons_succ, List.setIfInBounds_toArray] at H'); clear C H; have H := H'; clear H'; have C := Hp.facts H; simp only [Facts, factsL, and_true, true_and, List.set_cons_zero, List.set_cons_succ, List.setIfInBounds_toArray] at C)) | ((with_reducible apply Hp.abs_gen H); (repeat (with_reducible apply Hp.set' 1)); (with_reducible exact H); (repeat rfl); intro w' H'; ((try simp only [List.set_cons_zero, List.set_cons_succ, List.setIfInBounds_toArray] at H'); clear C H; have H := H'; clear H'; have C := Hp.facts H; simp only [Facts, factsL, and_true, true_and, List.set_cons_zero, List.set_cons_succ, List.setIfInBounds_toArray] at C)) | ((with_reducible apply Hp.abs_gen H); (repeat (with_reducible apply Hp.set' 2)); (with_reducible exact H); (repeat rfl); intro w' H'; ((try simp only [List.set_cons_zero, List.set_cons_succ, List.setIfInBounds_toArray] at H'); clear C H; have H := H'; clear H'; have C := Hp.facts H; simp only [Facts, factsL, and_true, true_and, List.set_cons_zero, List.set_cons_succ, List.setIfInBounds_toArray] at C)) | ((with_reducible apply Hp.abs_gen H); (repeat (with_reducible apply Hp.set' 3)); (with_reducible exact H); (repeat rfl); intro w' H'; ((try simp only [List.set_cons_zero, List.set_cons_succ, List.setIfInBounds_toArray] at H'); clear C H; have H := H'; clear H'; have C := Hp.facts H; simp only [Facts, factsL, and_true, true_and, List.set_cons_zero, List.set_cons_succ, List.setIfInBounds_toArray] at C)) | ((with_reducible apply Hp.abs_gen H); (repeat (with_reducible apply Hp.set' 4)); (with_reducible exact H); (repeat rfl); intro w' H'; ((try simp only [List.set_cons_zero, List.set_cons_succ, List.setIfInBounds_toArray] at H'); clear C H; have H := H'; clear H'; have C := Hp.facts H; simp only [Facts, factsL, and_true, true_and, List.set_cons_zero, List.set_cons_succ, List.setIfInBounds_toArray] at C)) | ((with_reducible apply Hp.abs_gen H); (repeat (with_reducible apply Hp.set' 5)); (with_reducible exact H); (repeat rfl); intro w' H'; ((try simp only [List.set_cons_zero, List.set_cons_succ, List.setIfInBounds_toArray] at H'); clear C H; have H := H'; clear H'; have C := Hp.facts H; simp only [Facts, factsL, and_true, true_and, List.set_cons_zero, List.set_cons_succ, List.setIfInBounds_toArray] at C)) | ((with_reducible apply Hp.abs_gen H); (repeat (with_reducible apply Hp.set' 6)); (with_reducible exact H); (repeat rfl); intro w' H'; ((try simp only [List.set_cons_zero, List.set_cons_succ, List.setIfInBounds_toArray] at H'); clear C H; have H := H'; clear H'; have C := Hp.facts H; simp only [Facts, factsL, and_true, true_and, List.set_cons_zero, List.set_cons_succ, List.setIfInBounds_toArray] at C)) | ((with_reducible apply Hp.abs_gen H); (repeat (with_reducible apply Hp.set' 7)); (with_reducible exact H); (repeat rfl); intro w' H'; ((try simp only [List.set_cons_zero, List.set_cons_succ, List.setIfInBounds_toArray] at H'); clear C H; have H := H'; clear H'; have C := Hp.facts H; simp only [Facts, factsL, and_true, true_and, List.set_cons_zero, List.set_cons_succ, List.setIfInBounds_toArray] at C))) | go_values | go_skip | go_guarded | go_step | go_upon | go_back | (simp only [Int.not_lt, Int.not_le] at *; go_simp) | (go_values <;> (try go_simp)) | (go_ite <;> go_prune <;> (try go_simp)) | (split <;> (first | (rename_i hx; exact (hx _ rfl).elim) | go_prune))))
    go_ret
    exact ⟨rfl, H.low⟩
    obtain ⟨w9, rfl⟩ := Hp.nameW H
    obtain ⟨Bt, hBt⟩ : ∃ Bt : Bool, decide (t2 < t1) = Bt := ⟨_, rfl⟩
    have gBt := Lib.hid hBt
    clear hBt
    obtain ⟨Bu, hBu⟩ : ∃ Bu : Bool, decide (u2 < u1) = Bu := ⟨_, rfl⟩
    have gBu := Lib.hid hBu
    clear hBu
    have q6 : Hid (u2 < u1 ∨ (u1 ≤ s1 ∧ s2 ≤ u2)) := r4.out (by first | assumption | omega | (simp_all; done))
    refine region_b 106 [some 61, some 62, some 63, some 64, some 65, some 66, some 67, some 68, some 69, some 70, some 71, some 72, some 73, some 74, some 75, some 76, some 77, some 78, some 79, some 80, some 81, some 82, some 83, some 84, some 85, some 86, some 87, some 88, some 89, some 90, some 91, some 92, some 93, some 94, some 95, some 96, some 97, some 98, some 99, some 100, some 101, some 102, some 103, some 104, some 105, some 12] [[], [0], [], [], [3], [2, 4], [1, 5], [6], [7], [7, 8], [7, 9], [7, 10], [7, 11], [12], [13], [13, 14], [13, 15], [16], [16], [16, 17, 18], [13, 16, 19], [13, 20], [21], [22], [22, 23], [22, 24], [25], [25], [25, 26, 27], [22, 25, 28], [22, 29], [30], [31], [31, 32], [31, 33], [34], [34, 35], [34], [34], [34, 38], [34, 39], [34, 37, 40], [34, 36, 41], [31, 34, 42], [31, 43], [44]] [fun v _ => v = .pointer (some ⟨b15, 0, none⟩), fun v _ => v = .int .i64 s1, fun v _ => v = .int .i64 f, fun v _ => v = .pointer (some ⟨b13, 0, none⟩), fun v _ => v = .int .i64 a, fun v _ => v = .int .i64 s1, fun v _ => v = .bool true, fun v _ => v = .bool true, fun v _ => v = .pointer (some ⟨b15, 0, none⟩), fun v _ => v = .int .i64 s1, fun v _ => v = .bool false, fun v _ => v = .bool true, fun v _ => v = .bool true, fun v _ => v = .bool true, fun v _ => v = .agg #[.int .i64 t1, .int .i64 t2], fun v _ => v = .bool Bt, fun v _ => v = .bool Bt, fun v _ => Bt = false → v = .agg #[.int .i64 s1, .int .i64 s2], fun v _ => Bt = false → v = .agg #[.int .i64 t1, .int .i64 t2], fun v _ => Bt = false → v = .bool true, fun v _ => v = .bool true, fun v _ => v = .bool true, fun v _ => v = .bool true, fun v _ => v = .agg #[.int .i64 u1, .int .i64 u2], fun v _ => v = .bool Bu, fun v _ => v = .bool Bu, fun v _ => Bu = false → v = .agg #[.int .i64 s1, .int .i64 s2], fun v _ => Bu = false → v = .agg #[.int .i64 u1, .int .i64 u2], fun v _ => Bu = false → v = .bool true, fun v _ => v = .bool true, fun v _ => v = .bool true, fun v _ => v = .bool true, fun v _ => v = .bool false, fun v _ => v = .bool true, fun v _ => v = .bool true, fun v _ => v = undef, fun v _ => v = undef, fun v _ => v = undef, fun v _ => v = undef, fun v _ => v = undef, fun v _ => v = undef, fun v _ => v = undef, fun v _ => v = undef, fun v _ => v = .bool true, fun v _ => v = .bool true, fun v _ => v = .bool true] (by kernel_rfl) (by kernel_rfl) rfl (by kernel_rfl) rfl _ (fun vs => (by simp only [fillD, Nat.reduceAdd, Act.put, List.setIfInBounds_toArray, List.set_cons_zero, List.set_cons_succ]; rfl)) ?_ ?_ ?_
    · refine ⟨fun _ _ _ _ h => h, fun _ _ _ _ h => h, fun _ _ _ _ h => h, fun _ _ _ _ h => h, fun _ _ _ _ h => h, fun _ _ _ _ h => h, fun _ _ _ _ h => h, fun _ _ _ _ h => h, fun _ _ _ _ h => h, fun _ _ _ _ h => h, fun _ _ _ _ h => h, fun _ _ _ _ h => h, fun _ _ _ _ h => h, fun _ _ _ _ h => h, fun _ _ _ _ h => h, fun _ _ _ _ h => h, fun _ _ _ _ h => h, fun _ _ _ _ h => h, fun _ _ _ _ h => h, fun _ _ _ _ h => h, fun _ _ _ _ h => h, fun _ _ _ _ h => h, fun _ _ _ _ h => h, fun _ _ _ _ h => h, fun _ _ _ _ h => h, fun _ _ _ _ h => h, fun _ _ _ _ h => h, fun _ _ _ _ h => h, fun _ _ _ _ h => h, fun _ _ _ _ h => h, fun _ _ _ _ h => h, fun _ _ _ _ h => h, fun _ _ _ _ h => h, fun _ _ _ _ h => h, fun _ _ _ _ h => h, fun _ _ _ _ h => h, fun _ _ _ _ h => h, fun _ _ _ _ h => h, fun _ _ _ _ h => h, fun _ _ _ _ h => h, fun _ _ _ _ h => h, fun _ _ _ _ h => h, fun _ _ _ _ h => h, fun _ _ _ _ h => h, fun _ _ _ _ h => h, fun _ _ _ _ h => h, trivial⟩
    · refine ⟨?_, ?_, ?_, ?_, ?_, ?_, ?_, ?_, ?_, ?_, ?_, ?_, ?_, ?_, ?_, ?_, ?_, ?_, ?_, ?_, ?_, ?_, ?_, ?_, ?_, ?_, ?_, ?_, ?_, ?_, ?_, ?_, ?_, ?_, ?_, ?_, ?_, ?_, ?_, ?_, ?_, ?_, ?_, ?_, ?_, ?_, trivial⟩
      · intro vs w' K hJ hR hK
        rw [if_pos (by rfl)]
        go_step
        exact hK.out _ _ (Below.refl _ _) (rfl)
      · intro vs w' K hJ hR hK
        simp only [DepJ, List.getD_cons_zero, List.getD_cons_succ] at hJ
        obtain ⟨j0, -⟩ := hJ
        simp only [j0] at hK ⊢
        rw [if_pos (by rfl)]
        have C := Hp.facts (Hp.step H.drew hR)
        simp only [Facts, factsL, and_true, true_and, List.set_cons_zero, List.set_cons_succ, List.setIfInBounds_toArray] at C
        go_step
        exact hK.out _ _ (Below.refl _ _) (rfl)
      · intro vs w' K hJ hR hK
        rw [if_pos (by rfl)]
        go_step
        exact hK.out _ _ (Below.refl _ _) (rfl)
      · intro vs w' K hJ hR hK
        rw [if_pos (by rfl)]
        go_step
        exact hK.out _ _ (Below.refl _ _) (rfl)
      · intro vs w' K hJ hR hK
        simp only [DepJ, List.getD_cons_zero, List.getD_cons_succ] at hJ
        obtain ⟨j3, -⟩ := hJ
        simp only [j3] at hK ⊢
        rw [if_pos (by rfl)]
        have C := Hp.facts (Hp.step H.drew hR)
        simp only [Facts, factsL, and_true, true_and, List.set_cons_zero, List.set_cons_succ, List.setIfInBounds_toArray] at C
        go_step
        exact hK.out _ _ (Below.refl _ _) (rfl)
      · intro vs w' K hJ hR hK
        simp only [DepJ, List.getD_cons_zero, List.getD_cons_succ] at hJ
        obtain ⟨j2, j4, -⟩ := hJ
        simp only [j2, j4] at hK ⊢
        rw [if_pos (by rfl)]
        go_step
        refine (sub_any _ _ hf ha _).mono ?_
        rintro e' w'' ⟨rfl, rfl⟩
        rw [eF.out]
        exact hK.out _ _ (BelowR.refl _) rfl
      · intro vs w' K hJ hR hK
        simp only [DepJ, List.getD_cons_zero, List.getD_cons_succ] at hJ
        obtain ⟨j1, j5, -⟩ := hJ
        simp only [j1, j5] at hK ⊢
        rw [if_pos (by rfl)]
        go_step
        exact hK.out _ _ (Below.refl _ _) (by simp)
      · intro vs w' K hJ hR hK
        simp only [DepJ, List.getD_cons_zero, List.getD_cons_succ] at hJ
        obtain ⟨j6, -⟩ := hJ
        simp only [j6] at hK ⊢
        rw [if_pos (by rfl)]
        go_step
        exact hK.out _ _ (Below.refl _ _) (rfl)
      · intro vs w' K hJ hR hK
        simp only [DepJ, List.getD_cons_zero, List.getD_cons_succ] at hJ
        obtain ⟨j7, -⟩ := hJ
        simp only [j7] at hK ⊢
        rw [if_pos (by rfl)]
        go_step
        exact hK.out _ _ (Below.refl _ _) (rfl)
      · intro vs w' K hJ hR hK
        simp only [DepJ, List.getD_cons_zero, List.getD_cons_succ] at hJ
        obtain ⟨j7, j8, -⟩ := hJ
        simp only [j7, j8] at hK ⊢
        rw [if_pos (by rfl)]
        have C := Hp.facts (Hp.step H.drew hR)
        simp only [Facts, factsL, and_true, true_and, List.set_cons_zero, List.set_cons_succ, List.setIfInBounds_toArray] at C
        go_step
        exact hK.out _ _ (Below.refl _ _) (rfl)
      · intro vs w' K hJ hR hK
        simp only [DepJ, List.getD_cons_zero, List.getD_cons_succ] at hJ
        obtain ⟨j7, j9, -⟩ := hJ
        simp only [j7, j9] at hK ⊢
        rw [if_pos (by rfl)]
        go_step
        refine (ends_any _ _).mono ?_
        rintro e' w'' ⟨rfl, rfl⟩
        rw [r2.out]
        exact hK.out _ _ (BelowR.refl _) rfl
      · intro vs w' K hJ hR hK
        simp only [DepJ, List.getD_cons_zero, List.getD_cons_succ] at hJ
        obtain ⟨j7, j10, -⟩ := hJ
        simp only [j7, j10] at hK ⊢
        rw [if_pos (by rfl)]
        go_step
        exact hK.out _ _ (Below.refl _ _) (rfl)
      · intro vs w' K hJ hR hK
        simp only [DepJ, List.getD_cons_zero, List.getD_cons_succ] at hJ
        obtain ⟨j7, j11, -⟩ := hJ
        simp only [j7, j11] at hK ⊢
        rw [if_pos (by rfl)]
        go_step
        exact hK.out _ _ (Below.refl _ _) (rfl)
      · intro vs w' K hJ hR hK
        simp only [DepJ, List.getD_cons_zero, List.getD_cons_succ] at hJ
        obtain ⟨j12, -⟩ := hJ
        simp only [j12] at hK ⊢
        rw [if_pos (by rfl)]
        go_step
        exact hK.out _ _ (Below.refl _ _) (rfl)
      · intro vs w' K hJ hR hK
        simp only [DepJ, List.getD_cons_zero, List.getD_cons_succ] at hJ
        obtain ⟨j13, -⟩ := hJ
        simp only [j13] at hK ⊢
        rw [if_pos (by rfl)]
        have C := Hp.facts (Hp.step H.drew hR)
        simp only [Facts, factsL, and_true, true_and, List.set_cons_zero, List.set_cons_succ, List.setIfInBounds_toArray] at C
        go_step
        exact hK.out _ _ (Below.refl _ _) (rfl)
      · intro vs w' K hJ hR hK
        simp only [DepJ, List.getD_cons_zero, List.getD_cons_succ] at hJ
        obtain ⟨j13, j14, -⟩ := hJ
        simp only [j13, j14] at hK ⊢
        rw [if_pos (by rfl)]
        go_step
        refine (empty_any _ _ _).mono ?_
        rintro e' w'' ⟨rfl, hb⟩
        exact hK.out _ _ hb (by rw [gBt.out])
      · intro vs w' K hJ hR hK
        simp only [DepJ, List.getD_cons_zero, List.getD_cons_succ] at hJ
        obtain ⟨j13, j15, -⟩ := hJ
        simp only [j13, j15] at hK ⊢
        rw [if_pos (by rfl)]
        go_step
        exact hK.out _ _ (Below.refl _ _) (rfl)
      · intro vs w' K hJ hR hK
        simp only [DepJ, List.getD_cons_zero, List.getD_cons_succ] at hJ
        obtain ⟨j16, -⟩ := hJ
        cases Bt
        · simp only [j16] at hK ⊢
          rw [if_pos (by rfl)]
          have C := Hp.facts (Hp.step H.drew hR)
          simp only [Facts, factsL, and_true, true_and, List.set_cons_zero, List.set_cons_succ, List.setIfInBounds_toArray] at C
          go_step
          exact hK.out _ _ (Below.refl _ _) (fun _ => rfl)
        · simp only [j16] at hK ⊢
          rw [if_neg (by simp [Region.wanted, yielded])]
          exact hK.out _ _ (Below.refl _ _) (fun h => absurd h (by simp))
      · intro vs w' K hJ hR hK
        simp only [DepJ, List.getD_cons_zero, List.getD_cons_succ] at hJ
        obtain ⟨j16, -⟩ := hJ
        cases Bt
        · simp only [j16] at hK ⊢
          rw [if_pos (by rfl)]
          have C := Hp.facts (Hp.step H.drew hR)
          simp only [Facts, factsL, and_true, true_and, List.set_cons_zero, List.set_cons_succ, List.setIfInBounds_toArray] at C
          go_step
          exact hK.out _ _ (Below.refl _ _) (fun _ => rfl)
        · simp only [j16] at hK ⊢
          rw [if_neg (by simp [Region.wanted, yielded])]
          exact hK.out _ _ (Below.refl _ _) (fun h => absurd h (by simp))
      · intro vs w' K hJ hR hK
        simp only [DepJ, List.getD_cons_zero, List.getD_cons_succ] at hJ
        obtain ⟨j16, j17, j18, -⟩ := hJ
        cases Bt
        · have j17 := j17 rfl
          have j18 := j18 rfl
          simp only [j16, j17, j18] at hK ⊢
          rw [if_pos (by rfl)]
          go_step
          refine (within_any _ _ _ _ _).mono ?_
          rintro e' w'' ⟨rfl, hb⟩
          exact hK.out _ _ hb (fun _ => by have h1 := gBt.out; have h2 := r3.out; simp only [decide_eq_false_iff_not] at h1; first | (simp; done) | (simp; omega))
        · simp only [j16] at hK ⊢
          rw [if_neg (by simp [Region.wanted, yielded])]
          exact hK.out _ _ (Below.refl _ _) (fun h => absurd h (by simp))
      · intro vs w' K hJ hR hK
        simp only [DepJ, List.getD_cons_zero, List.getD_cons_succ] at hJ
        obtain ⟨j13, j16, j19, -⟩ := hJ
        cases Bt
        · have j19 := j19 rfl
          simp only [j13, j16, j19] at hK ⊢
          rw [if_pos (by rfl)]
          go_step
          exact hK.out _ _ (Below.refl _ _) (rfl)
        · simp only [j13, j16] at hK ⊢
          rw [if_pos (by rfl)]
          go_step
          exact hK.out _ _ (Below.refl _ _) (rfl)
      · intro vs w' K hJ hR hK
        simp only [DepJ, List.getD_cons_zero, List.getD_cons_succ] at hJ
        obtain ⟨j13, j20, -⟩ := hJ
        simp only [j13, j20] at hK ⊢
        rw [if_pos (by rfl)]
        go_step
        exact hK.out _ _ (Below.refl _ _) (rfl)
      · intro vs w' K hJ hR hK
        simp only [DepJ, List.getD_cons_zero, List.getD_cons_succ] at hJ
        obtain ⟨j21, -⟩ := hJ
        simp only [j21] at hK ⊢
        rw [if_pos (by rfl)]
        go_step
        exact hK.out _ _ (Below.refl _ _) (rfl)
      · intro vs w' K hJ hR hK
        simp only [DepJ, List.getD_cons_zero, List.getD_cons_succ] at hJ
        obtain ⟨j22, -⟩ := hJ
        simp only [j22] at hK ⊢
        rw [if_pos (by rfl)]
        have C := Hp.facts (Hp.step H.drew hR)
        simp only [Facts, factsL, and_true, true_and, List.set_cons_zero, List.set_cons_succ, List.setIfInBounds_toArray] at C
        go_step
        exact hK.out _ _ (Below.refl _ _) (rfl)
      · intro vs w' K hJ hR hK
        simp only [DepJ, List.getD_cons_zero, List.getD_cons_succ] at hJ
        obtain ⟨j22, j23, -⟩ := hJ
        simp only [j22, j23] at hK ⊢
        rw [if_pos (by rfl)]
        go_step
        refine (empty_any _ _ _).mono ?_
        rintro e' w'' ⟨rfl, hb⟩
        exact hK.out _ _ hb (by rw [gBu.out])
      · intro vs w' K hJ hR hK
        simp only [DepJ, List.getD_cons_zero, List.getD_cons_succ] at hJ
        obtain ⟨j22, j24, -⟩ := hJ
        simp only [j22, j24] at hK ⊢
        rw [if_pos (by rfl)]
        go_step
        exact hK.out _ _ (Below.refl _ _) (rfl)
      · intro vs w' K hJ hR hK
        simp only [DepJ, List.getD_cons_zero, List.getD_cons_succ] at hJ
        obtain ⟨j25, -⟩ := hJ
        cases Bu
        · simp only [j25] at hK ⊢
          rw [if_pos (by rfl)]
          have C := Hp.facts (Hp.step H.drew hR)
          simp only [Facts, factsL, and_true, true_and, List.set_cons_zero, List.set_cons_succ, List.setIfInBounds_toArray] at C
          go_step
          exact hK.out _ _ (Below.refl _ _) (fun _ => rfl)
        · simp only [j25] at hK ⊢
          rw [if_neg (by simp [Region.wanted, yielded])]
          exact hK.out _ _ (Below.refl _ _) (fun h => absurd h (by simp))
      · intro vs w' K hJ hR hK
        simp only [DepJ, List.getD_cons_zero, List.getD_cons_succ] at hJ
        obtain ⟨j25, -⟩ := hJ
        cases Bu
        · simp only [j25] at hK ⊢
          rw [if_pos (by rfl)]
          have C := Hp.facts (Hp.step H.drew hR)
          simp only [Facts, factsL, and_true, true_and, List.set_cons_zero, List.set_cons_succ, List.setIfInBounds_toArray] at C
          go_step
          exact hK.out _ _ (Below.refl _ _) (fun _ => rfl)
        · simp only [j25] at hK ⊢
          rw [if_neg (by simp [Region.wanted, yielded])]
          exact hK.out _ _ (Below.refl _ _) (fun h => absurd h (by simp))
      · intro vs w' K hJ hR hK
        simp only [DepJ, List.getD_cons_zero, List.getD_cons_succ] at hJ
        obtain ⟨j25, j26, j27, -⟩ := hJ
        cases Bu
        · have j26 := j26 rfl
          have j27 := j27 rfl
          simp only [j25, j26, j27] at hK ⊢
          rw [if_pos (by rfl)]
          go_step
          refine (within_any _ _ _ _ _).mono ?_
          rintro e' w'' ⟨rfl, hb⟩
          exact hK.out _ _ hb (fun _ => by have h1 := gBu.out; have h2 := q6.out; simp only [decide_eq_false_iff_not] at h1; first | (simp; done) | (simp; omega))
        · simp only [j25] at hK ⊢
          rw [if_neg (by simp [Region.wanted, yielded])]
          exact hK.out _ _ (Below.refl _ _) (fun h => absurd h (by simp))
      · intro vs w' K hJ hR hK
        simp only [DepJ, List.getD_cons_zero, List.getD_cons_succ] at hJ
        obtain ⟨j22, j25, j28, -⟩ := hJ
        cases Bu
        · have j28 := j28 rfl
          simp only [j22, j25, j28] at hK ⊢
          rw [if_pos (by rfl)]
          go_step
          exact hK.out _ _ (Below.refl _ _) (rfl)
        · simp only [j22, j25] at hK ⊢
          rw [if_pos (by rfl)]
          go_step
          exact hK.out _ _ (Below.refl _ _) (rfl)
      · intro vs w' K hJ hR hK
        simp only [DepJ, List.getD_cons_zero, List.getD_cons_succ] at hJ
        obtain ⟨j22, j29, -⟩ := hJ
        simp only [j22, j29] at hK ⊢
        rw [if_pos (by rfl)]
        go_step
        exact hK.out _ _ (Below.refl _ _) (rfl)
      · intro vs w' K hJ hR hK
        simp only [DepJ, List.getD_cons_zero, List.getD_cons_succ] at hJ
        obtain ⟨j30, -⟩ := hJ
        simp only [j30] at hK ⊢
        rw [if_pos (by rfl)]
        go_step
        exact hK.out _ _ (Below.refl _ _) (rfl)
      · intro vs w' K hJ hR hK
        simp only [DepJ, List.getD_cons_zero, List.getD_cons_succ] at hJ
        obtain ⟨j31, -⟩ := hJ
        simp only [j31] at hK ⊢
        rw [if_pos (by rfl)]
        go_step
        exact hK.out _ _ (Below.refl _ _) (rfl)
      · intro vs w' K hJ hR hK
        simp only [DepJ, List.getD_cons_zero, List.getD_cons_succ] at hJ
        obtain ⟨j31, j32, -⟩ := hJ
        simp only [j31, j32] at hK ⊢
        rw [if_pos (by rfl)]
        go_step
        exact hK.out _ _ (Below.refl _ _) (rfl)
      · intro vs w' K hJ hR hK
        simp only [DepJ, List.getD_cons_zero, List.getD_cons_succ] at hJ
        obtain ⟨j31, j33, -⟩ := hJ
        simp only [j31, j33] at hK ⊢
        rw [if_pos (by rfl)]
        go_step
        exact hK.out _ _ (Below.refl _ _) (rfl)
      · intro vs w' K hJ hR hK
        simp only [DepJ, List.getD_cons_zero, List.getD_cons_succ] at hJ
        obtain ⟨j34, -⟩ := hJ
        simp only [j34] at hK ⊢
        rw [if_neg (by simp [Region.wanted, yielded])]
        exact hK.out _ _ (Below.refl _ _) (rfl)
      · intro vs w' K hJ hR hK
        simp only [DepJ, List.getD_cons_zero, List.getD_cons_succ] at hJ
        obtain ⟨j34, j35, -⟩ := hJ
        simp only [j34, j35] at hK ⊢
        rw [if_neg (by simp [Region.wanted, yielded])]
        exact hK.out _ _ (Below.refl _ _) (rfl)
      · intro vs w' K hJ hR hK
        simp only [DepJ, List.getD_cons_zero, List.getD_cons_succ] at hJ
        obtain ⟨j34, -⟩ := hJ
        simp only [j34] at hK ⊢
        rw [if_neg (by simp [Region.wanted, yielded])]
        exact hK.out _ _ (Below.refl _ _) (rfl)
      · intro vs w' K hJ hR hK
        simp only [DepJ, List.getD_cons_zero, List.getD_cons_succ] at hJ
        obtain ⟨j34, -⟩ := hJ
        simp only [j34] at hK ⊢
        rw [if_neg (by simp [Region.wanted, yielded])]
        exact hK.out _ _ (Below.refl _ _) (rfl)
      · intro vs w' K hJ hR hK
        simp only [DepJ, List.getD_cons_zero, List.getD_cons_succ] at hJ
        obtain ⟨j34, j38, -⟩ := hJ
        simp only [j34, j38] at hK ⊢
        rw [if_neg (by simp [Region.wanted, yielded])]
        exact hK.out _ _ (Below.refl _ _) (rfl)
      · intro vs w' K hJ hR hK
        simp only [DepJ, List.getD_cons_zero, List.getD_cons_succ] at hJ
        obtain ⟨j34, j39, -⟩ := hJ
        simp only [j34, j39] at hK ⊢
        rw [if_neg (by simp [Region.wanted, yielded])]
        exact hK.out _ _ (Below.refl _ _) (rfl)
      · intro vs w' K hJ hR hK
        simp only [DepJ, List.getD_cons_zero, List.getD_cons_succ] at hJ
        obtain ⟨j34, j37, j40, -⟩ := hJ
        simp only [j34, j37, j40] at hK ⊢
        rw [if_neg (by simp [Region.wanted, yielded])]
        exact hK.out _ _ (Below.refl _ _) (rfl)
      · intro vs w' K hJ hR hK
        simp only [DepJ, List.getD_cons_zero, List.getD_cons_succ] at hJ
        obtain ⟨j34, j36, j41, -⟩ := hJ
        simp only [j34, j36, j41] at hK ⊢
        rw [if_neg (by simp [Region.wanted, yielded])]
        exact hK.out _ _ (Below.refl _ _) (rfl)
      · intro vs w' K hJ hR hK
        simp only [DepJ, List.getD_cons_zero, List.getD_cons_succ] at hJ
        obtain ⟨j31, j34, j42, -⟩ := hJ
        simp only [j31, j34, j42] at hK ⊢
        rw [if_pos (by rfl)]
        go_step
        exact hK.out _ _ (Below.refl _ _) (rfl)
      · intro vs w' K hJ hR hK
        simp only [DepJ, List.getD_cons_zero, List.getD_cons_succ] at hJ
        obtain ⟨j31, j43, -⟩ := hJ
        simp only [j31, j43] at hK ⊢
        rw [if_pos (by rfl)]
        go_step
        exact hK.out _ _ (Below.refl _ _) (rfl)
      · intro vs w' K hJ hR hK
        simp only [DepJ, List.getD_cons_zero, List.getD_cons_succ] at hJ
        obtain ⟨j44, -⟩ := hJ
        simp only [j44] at hK ⊢
        rw [if_pos (by rfl)]
        go_step
        exact hK.out _ _ (Below.refl _ _) (rfl)
    intro vs w' hJ hR
    simp only [AllJ, Nat.reduceAdd] at hJ
    obtain ⟨v0, v1, v2, v3, v4, v5, v6, v7, v8, v9, v10, v11, v12, v13, v14, v15, v16, v17, v18, v19, v20, v21, v22, v23, v24, v25, v26, v27, v28, v29, v30, v31, v32, v33, v34, v35, v36, v37, v38, v39, v40, v41, v42, v43, v44, v45, -⟩ := hJ
    simp only [v45]
    have H2 := Hp.step H.drew hR
    clear C H
    have H := H2
    have C := Hp.facts H
    (repeat' (first | ((with_reducible refine Hp.abs_alloc H ?_); intro b' w' H' hb'; (try simp only [hb']); clear hb'; ((try simp only [List.set_cons_zero, List.set_cons_succ, List.setIfInBounds_toArray] at H'); clear C H; have H := H'; clear H'; have C := Hp.facts H; simp only [Facts, factsL, and_true, true_and, List.set_cons_zero, List.set_cons_succ, List.setIfInBounds_toArray] at C)) | ((with_reducible show wpList _ _ _ _ _ (World.setCell _ _ _)); first | ((with_reducible apply Hp.abs_gen H); (repeat (with_reducible apply Hp.set' 0)); (with_reducible exact H); (repeat rfl); intro w' H'; ((try simp only [List.set_cons_zero, List.set_cons_succ, List.setIfInBounds_toArray] at H'); clear C H; have H := H'; clear H'; have C := Hp.facts H; simp only [Facts, factsL, and_true, true_and, List.set_cons_zero, List.set_cons_succ, List.setIfInBounds_toArray] at C)) | ((with_reducible apply Hp.abs_gen H); (repeat (with_reducible apply Hp.set' 1)); (with_reducible exact H); (repeat rfl); intro w' H'; ((try simp only [List.set_cons_zero, List.set_cons_succ, List.setIfInBounds_toArray] at H'); clear C H; have H := H'; clear H'; have C := Hp.facts H; simp only [Facts, factsL, and_true, true_and, List.set_cons_zero, List.set_cons_succ, List.setIfInBounds_toArray] at C)) | ((with_reducible apply Hp.abs_gen H); (repeat (with_reducible apply Hp.set' 2)); (with_reducible exact H); (repeat rfl); intro w' H'; ((try simp only [List.set_cons_zero, List.set_cons_succ, List.setIfInBounds_toArray] at H'); clear C H; have H := H'; clear H'; have C := Hp.facts H; simp only [Facts, factsL, and_true, true_and, List.set_cons_zero, List.set_cons_succ, List.setIfInBounds_toArray] at C)) | ((with_reducible apply Hp.abs_gen H); (repeat (with_reducible apply Hp.set' 3)); (with_reducible exact H); (repeat rfl); intro w' H'; ((try simp only [List.set_cons_zero, List.set_cons_succ, List.setIfInBounds_toArray] at H'); clear C H; have H := H'; clear H'; have C := Hp.facts H; simp only [Facts, factsL, and_true, true_and, List.set_cons_zero, List.set_cons_succ, List.setIfInBounds_toArray] at C)) | ((with_reducible apply Hp.abs_gen H); (repeat (with_reducible apply Hp.set' 4)); (with_reducible exact H); (repeat rfl); intro w' H'; ((try simp only [List.set_cons_zero, List.set_cons_succ, List.setIfInBounds_toArray] at H'); clear C H; have H := H'; clear H'; have C := Hp.facts H; simp only [Facts, factsL, and_true, true_and, List.set_cons_zero, List.set_cons_succ, List.setIfInBounds_toArray] at C)) | ((with_reducible apply Hp.abs_gen H); (repeat (with_reducible apply Hp.set' 5)); (with_reducible exact H); (repeat rfl); intro w' H'; ((try simp only [List.set_cons_zero, List.set_cons_succ, List.setIfInBounds_toArray] at H'); clear C H; have H := H'; clear H'; have C := Hp.facts H; simp only [Facts, factsL, and_true, true_and, List.set_cons_zero, List.set_cons_succ, List.setIfInBounds_toArray] at C)) | ((with_reducible apply Hp.abs_gen H); (repeat (with_reducible apply Hp.set' 6)); (with_reducible exact H); (repeat rfl); intro w' H'; ((try simp only [List.set_cons_zero, List.set_cons_succ, List.setIfInBounds_toArray] at H'); clear C H; have H := H'; clear H'; have C := Hp.facts H; simp only [Facts, factsL, and_true, true_and, List.set_cons_zero, List.set_cons_succ, List.setIfInBounds_toArray] at C)) | ((with_reducible apply Hp.abs_gen H); (repeat (with_reducible apply Hp.set' 7)); (with_reducible exact H); (repeat rfl); intro w' H'; ((try simp only [List.set_cons_zero, List.set_cons_succ, List.setIfInBounds_toArray] at H'); clear C H; have H := H'; clear H'; have C := Hp.facts H; simp only [Facts, factsL, and_true, true_and, List.set_cons_zero, List.set_cons_succ, List.setIfInBounds_toArray] at C))) | go_values | go_skip | go_guarded | go_step | go_upon | go_back | (simp only [Int.not_lt, Int.not_le] at *; go_simp) | (go_values <;> (try go_simp)) | (go_ite <;> go_prune <;> (try go_simp)) | (split <;> (first | (rename_i hx; exact (hx _ rfl).elim) | go_prune))))
    go_ret
    exact ⟨rfl, H.low⟩
end Go.Proofs.Ytmfadhnfmkbbfaa
