/- Lemmas and walks on the way to the seat's laws; each theorem says its own conditions. -/
import Derived.Test.YtmfadhnfmkbbfaaP1
import Derived.Test.YtmfadhnfmkbbfaaMem
import Derived.Test.YtmfadhnfmkbbfaaRegC
import Derived.Deep.RegionWith
import Derived.Deep.DeepCutAuto
set_option linter.unusedSimpArgs false
set_option linter.unusedVariables false
namespace Go.Proofs.Ytmfadhnfmkbbfaa
open Go.RowKit Go.Mem Go.Reg
set_option maxHeartbeats 400000 in
theorem within_any (a b c d : Int) (w : World) :
    Calls Try.prog 11 #[.agg #[.int .i64 a, .int .i64 b], .agg #[.int .i64 c, .int .i64 d]] w fun e w' => e = .returned (.bool (decide (b < a) || decide (c ≤ a) && decide (b ≤ d))) ∧ Below w.heap.size w w' := by
  have H := Hp.start w
  have C : True := trivial
  go_enter Try.func11, Try.ntmps11
  (repeat' (first | ((with_reducible refine Hp.abs_alloc H ?_); intro b' w' H' hb'; (try simp only [hb']); clear hb'; ((try simp only [List.set_cons_zero, List.set_cons_succ, List.setIfInBounds_toArray] at H'); clear C H; have H := H'; clear H'; have C := Hp.facts H; simp only [Facts, factsL, and_true, true_and, List.set_cons_zero, List.set_cons_succ, List.setIfInBounds_toArray] at C)) | ((with_reducible show wpList _ _ _ _ _ (World.setCell _ _ _)); first | ((with_reducible apply Hp.abs_gen H); (repeat (with_reducible apply Hp.set' 0)); (with_reducible exact H); (repeat rfl); intro w' H'; ((try simp only [List.set_cons_zero, List.set_cons_succ, List.setIfInBounds_toArray] at H'); clear C H; have H := H'; clear H'; have C := Hp.facts H; simp only [Facts, factsL, and_true, true_and, List.set_cons_zero, List.set_cons_succ, List.setIfInBounds_toArray] at C)) | ((with_reducible apply Hp.abs_gen H); (repeat (with_reducible apply Hp.set' 1)); (with_reducible exact H); (repeat rfl); intro w' H'; ((try simp only [List.set_cons_zero, List.set_cons_succ, List.setIfInBounds_toArray] at H'); clear C H; have H := H'; clear H'; have C := Hp.facts H; simp only [Facts, factsL, and_true, true_and, List.set_cons_zero, List.set_cons_succ, List.setIfInBounds_toArray] at C)) | ((with_reducible apply Hp.abs_gen H); (repeat (with_reducible apply Hp.set' 2)); (with_reducible exact H); (repeat rfl); intro w' H'; ((try simp only [List.set_cons_zero, List.set_cons_succ, List.setIfInBounds_toArray] at H'); clear C H; have H := H'; clear H'; have C := Hp.facts H; simp only [Facts, factsL, and_true, true_and, List.set_cons_zero, List.set_cons_succ, List.setIfInBounds_toArray] at C)) | ((with_reducible apply Hp.abs_gen H); (repeat (with_reducible apply Hp.set' 3)); (with_reducible exact H); (repeat rfl); intro w' H'; ((try simp only [List.set_cons_zero, List.set_cons_succ, List.setIfInBounds_toArray] at H'); clear C H; have H := H'; clear H'; have C := Hp.facts H; simp only [Facts, factsL, and_true, true_and, List.set_cons_zero, List.set_cons_succ, List.setIfInBounds_toArray] at C)) | ((with_reducible apply Hp.abs_gen H); (repeat (with_reducible apply Hp.set' 4)); (with_reducible exact H); (repeat rfl); intro w' H'; ((try simp only [List.set_cons_zero, List.set_cons_succ, List.setIfInBounds_toArray] at H'); clear C H; have H := H'; clear H'; have C := Hp.facts H; simp only [Facts, factsL, and_true, true_and, List.set_cons_zero, List.set_cons_succ, List.setIfInBounds_toArray] at C)) | ((with_reducible apply Hp.abs_gen H); (repeat (with_reducible apply Hp.set' 5)); (with_reducible exact H); (repeat rfl); intro w' H'; ((try simp only [List.set_cons_zero, List.set_cons_succ, List.setIfInBounds_toArray] at H'); clear C H; have H := H'; clear H'; have C := Hp.facts H; simp only [Facts, factsL, and_true, true_and, List.set_cons_zero, List.set_cons_succ, List.setIfInBounds_toArray] at C)) | ((with_reducible apply Hp.abs_gen H); (repeat (with_reducible apply Hp.set' 6)); (with_reducible exact H); (repeat rfl); intro w' H'; ((try simp only [List.set_cons_zero, List.set_cons_succ, List.setIfInBounds_toArray] at H'); clear C H; have H := H'; clear H'; have C := Hp.facts H; simp only [Facts, factsL, and_true, true_and, List.set_cons_zero, List.set_cons_succ, List.setIfInBounds_toArray] at C)) | ((with_reducible apply Hp.abs_gen H); (repeat (with_reducible apply Hp.set' 7)); (with_reducible exact H); (repeat rfl); intro w' H'; ((try simp only [List.set_cons_zero, List.set_cons_succ, List.setIfInBounds_toArray] at H'); clear C H; have H := H'; clear H'; have C := Hp.facts H; simp only [Facts, factsL, and_true, true_and, List.set_cons_zero, List.set_cons_succ, List.setIfInBounds_toArray] at C))) | (go_at_call 8; (with_reducible refine (empty_any _ _ _).mono ?_); rintro e' w' ⟨rfl, hb'⟩; (have H' := Hp.step H hb'; clear hb'; ((try simp only [List.set_cons_zero, List.set_cons_succ, List.setIfInBounds_toArray] at H'); clear C H; have H := H'; clear H'; have C := Hp.facts H; simp only [Facts, factsL, and_true, true_and, List.set_cons_zero, List.set_cons_succ, List.setIfInBounds_toArray] at C))) | go_values | go_skip | go_guarded | go_step | go_upon | go_back | (simp only [Int.not_lt, Int.not_le] at *; go_simp) | (go_values <;> (try go_simp)) | (go_ite <;> go_prune <;> (try go_simp)) | (split <;> (first | (rename_i hx; exact (hx _ rfl).elim) | go_prune))))
  all_goals
    go_ret
    exact ⟨ret_bool (by first | (simp_all; done) | (simp_all; omega)), H.low⟩
set_option maxHeartbeats 400000 in
theorem never_any (w : World) :
    Calls Try.prog 13 #[] w fun e w' => e = .returned (.agg #[.int .i64 1, .int .i64 0]) ∧ Below w.heap.size w w' := by
  go_enter Try.func13, Try.ntmps13
  go_wp2_with (fail)
  refine bodyPost_ret (by simp [results, go_sem]) rfl ⟨rfl, (Below.refl _ _).alloc (Nat.le_refl _) _⟩
set_option maxHeartbeats 400000 in
theorem folded_one (a b : Int) (ha : Sp.ok a) (hb : Sp.ok b) (p : Addr) (w : World) (hp : w.cell? p = some (.int .i64 b)) :
    Calls Try.prog 15 #[.int .i64 a, .slice (some p) 1 1, .func (.func 16) #[] #[]] w fun e w' => e = .returned (.int .i64 (Sp.sadd a b)) ∧ w = w' := by
  go_enter Try.func15, Try.ntmps15
  go_wp2_with (fail)
  refine wp_loop_rounds 2 ?_
  rw [rounds_succ]
  go_wp2_with (go_at_call 16; refine (plus_any _ _ ha hb _).mono ?_; rintro e w1 ⟨rfl, rfl⟩)
  rw [rounds_succ]
  go_wp2_with (fail)
  all_goals
    go_ret
    exact ⟨rfl, rfl⟩
set_option maxHeartbeats 400000 in
theorem add_one (a b : Int) (ha : Sp.ok a) (hb : Sp.ok b) (p : Addr) (w : World) (hp : w.cell? p = some (.int .i64 b)) :
    Calls Try.prog 6 #[.int .i64 a, .slice (some p) 1 1] w fun e w' => e = .returned (.int .i64 (Sp.sadd a b)) ∧ w = w' := by
  go_enter Try.func6, Try.ntmps6
  go_wp2_with (go_at_call 15; refine (folded_one _ _ ha hb p _ hp).mono ?_; rintro e w1 ⟨rfl, rfl⟩)
  all_goals
    go_ret
    exact ⟨rfl, rfl⟩
theorem add_blk (a b : Int) (ha : Sp.ok a) (hb : Sp.ok b) (q : Nat) (T : TypeId) (w : World) (hp : w.heap[q]? = some (.cells #[.int .i64 b] T (0, 0))) :
    Calls Try.prog 6 #[.int .i64 a, .slice (some ⟨q, 0, none⟩) 1 1] w fun e w' => e = .returned (.int .i64 (Sp.sadd a b)) ∧ w = w' :=
  add_one a b ha hb _ w (by simp [World.cell?, hp])
theorem sadd_ok (a b : Int) : Sp.ok (Sp.sadd a b) := by unfold Sp.ok Sp.sadd; omega
theorem ssub_ok (a b : Int) : Sp.ok (Sp.ssub a b) := by unfold Sp.ok Sp.ssub; omega
theorem setCell_self {w : World} {b j : Nat} {v : Value} {c : Array Value} {T : TypeId} {fz : Nat × Nat} (h : w.heap[b]? = some (.cells c T fz)) (hj : c[j]? = some v) : w.setCell ⟨b, j, none⟩ v = w := by
  obtain ⟨hb, he⟩ := Array.getElem?_eq_some_iff.1 h
  obtain ⟨hjl, hje⟩ := Array.getElem?_eq_some_iff.1 hj
  have hc : c.setIfInBounds j v = c := by
    apply Array.ext
    · simp
    · intro i h1 h2
      rw [Array.getElem_setIfInBounds (by simpa using h1)]
      split
      · next e => subst e; exact hje.symm
      · rfl
  have : (w.setCell ⟨b, j, none⟩ v).heap = w.heap := by
    apply Array.ext_getElem?
    intro i
    by_cases e : i = b
    · subst e
      rw [Mem.heap_same h v, hc, h]
    · exact Below.heap_setCell _ _ _ _ (by simpa using fun e2 => e e2)
  cases w
  simp only [World.setCell] at this ⊢
  rw [this]
set_option maxHeartbeats 400000 in
theorem kept_no (n : Int) (q : Nat) (hn : Sp.endB n = false) (w : World) :
    Calls Try.prog 14 #[.int .i64 n, .pointer (some ⟨q, 0, none⟩)] w fun e w' => e = .returned (.int .i64 n) ∧ w = w' := by
  go_enter Try.func14, Try.ntmps14
  go_wp2_with (go_at_call 10; refine (ends_any _ _).mono ?_; rintro e w1 ⟨rfl, rfl⟩; rw [hn])
  all_goals
    go_ret
    exact ⟨rfl, rfl⟩
set_option maxHeartbeats 400000 in
theorem kept_yes (n : Int) (q : Nat) (v : Value) (hn : Sp.endB n = true) (w : World) (hc : w.cell? ⟨q, 0, none⟩ = some v) (hf : w.frozen? ⟨q, 0, none⟩ = false) :
    Calls Try.prog 14 #[.int .i64 n, .pointer (some ⟨q, 0, none⟩)] w fun e w' => e = .returned (.int .i64 n) ∧ w' = w.setCell ⟨q, 0, none⟩ (.bool false) := by
  go_enter Try.func14, Try.ntmps14
  go_wp2_with (go_at_call 10; refine (ends_any _ _).mono ?_; rintro e w1 ⟨rfl, rfl⟩; rw [hn])
  all_goals
    go_ret
    exact ⟨rfl, rfl⟩
theorem kept_any (n : Int) (q : Nat) (b : Bool) (w : World) (h : w.heap[q]? = some (.cells #[.bool b] 4 (0, 0))) :
    Calls Try.prog 14 #[.int .i64 n, .pointer (some ⟨q, 0, none⟩)] w fun e w' => e = .returned (.int .i64 n) ∧ w' = w.setCell ⟨q, 0, none⟩ (.bool (b && !Sp.endB n)) := by
  rcases Bool.eq_false_or_eq_true (Sp.endB n) with e | e
  · rw [e]
    refine (kept_yes n q (.bool b) e w (by simp [World.cell?, h]) (by simp [World.frozen?, h])).mono ?_
    rintro _ _ ⟨rfl, rfl⟩
    simp
  · rw [e]
    refine (kept_no n q e w).mono ?_
    rintro _ _ ⟨rfl, rfl⟩
    exact ⟨rfl, by rw [Bool.not_false, Bool.and_true, setCell_self h (by simp)]⟩
theorem kept_hp {w0 w : World} {L : List Ent} (n : Int) (q : Nat) (b : Bool) (i : Nat) (H : Hp w0 L w) (hi : L[i]? = some (.blk q #[.bool b] 4)) :
    Calls Try.prog 14 #[.int .i64 n, .pointer (some ⟨q, 0, none⟩)] w fun e w' => e = .returned (.int .i64 n) ∧ Only (some q) w w' ∧ Hp w0 (L.set i (.blk q #[.bool (b && !Sp.endB n)] 4)) w' := by
  refine (kept_any n q b w (H.get i hi)).mono ?_
  rintro e w' ⟨rfl, rfl⟩
  exact ⟨rfl, Only.setCell w q 0 _, by simpa using H.set i hi 0 (.bool (b && !Sp.endB n))⟩
abbrev polV (sk la ra : Int) (x y z : Bool) : Value := .agg #[.int .i64 sk, .int .i64 la, .int .i64 ra, .bool x, .bool y, .bool z]
def freshV (told : Bool) (a b : Int) : Value := if told then .agg #[.int .i64 a, .int .i64 b] else .agg #[.int .i64 1, .int .i64 0]
end Go.Proofs.Ytmfadhnfmkbbfaa
