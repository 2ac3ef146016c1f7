/- Lemmas and walks on the way to the seat's laws; each theorem says its own conditions. -/
import Derived.Test.YtogliinfdfkobaaBytes
import Derived.Test.YtogliinfdfkobaaOPlain
import Derived.Test.YtogliinfdfkobaaRegL
import Derived.Test.YtogliinfdfkobaaRows
import Derived.WalkSpells
import Derived.WalkLawsBesides
import Derived.Deep.QuietTactic
import Derived.BigQuiet
import Derived.Deep.DeepCutAuto
import Derived.Lib.SmallJoins
set_option linter.unusedSimpArgs false
set_option linter.unusedVariables false
set_option linter.unusedSimpArgs false
set_option linter.unusedVariables false
set_option maxRecDepth 100000
namespace Go.Proofs.Ytogliinfdfkobaa
open Go.RowKit Go.Mem Go.Reg Oct
theorem ret_u8 {a b : Int} (h : a = b) : Ending.returned (.int .u8 a) = .returned (.int .u8 b) := by rw [h]
theorem ret_bool {a b : Bool} (h : a = b) : Ending.returned (.bool a) = .returned (.bool b) := by rw [h]
set_option maxHeartbeats 400000 in
theorem digit_any (n : Int) (h0 : 0 ≤ n) (h1 : n ≤ 15) (w : World) :
    Calls Try.prog 49 #[.int .u8 n] w fun e w' => e = .returned (.int .u8 (digI n)) ∧ w = w' := by
  go_enter Try.func49, Try.ntmps49
  go_wp2
  all_goals
    go_ret
    exact ⟨ret_u8 (by unfold digI; omega), rfl⟩
set_option maxHeartbeats 400000 in
theorem info_u8 : (Try.prog.info? 5).map (fun i => (i.zero, i.size, i.bytes)) = some (some (.int .u8 0), 1, 1) := by kernel_rfl
set_option maxHeartbeats 1000000 in
theorem hex_any (l : List UInt8) (v : Value) (w : World) (hb : Bs w v l) (hl : l.length ≤ 100000) :
    Calls Try.prog 32 #[v] w fun e w' => e = .returned (.string ⟨(hexL l).toArray⟩) ∧ Below w.heap.size w w' := by
  obtain ⟨i0, hi, hz0, hz1, hz2⟩ := info_parts info_u8
  obtain ⟨A, c, rfl, hlc, hcm, hA, hcell⟩ := hb.open
  have H := Hp.start w
  have C : True := trivial
  go_enter Try.func32, Try.ntmps32
  (repeat' ((fail_if_success (with_reducible show bodyPost _ _ _ _ _ _)); first | ((with_reducible refine Hp.abs_alloc H ?_); intro b' w' H' hb'; (try simp only [hb']); clear hb'; ((try simp only [List.set_cons_zero, List.set_cons_succ, List.setIfInBounds_toArray] at H'); clear C H; have H := H'; clear H'; have C := Hp.facts H; simp only [Facts, factsL, and_true, true_and, List.set_cons_zero, List.set_cons_succ, List.setIfInBounds_toArray] at C)) | ((with_reducible show wpList _ _ _ _ _ (World.setCell _ _ _)); (with_reducible apply Hp.abs_gen H); (first | ((repeat (with_reducible apply Hp.set' 0)); (with_reducible exact H); (repeat rfl); intro w' H') | ((repeat (with_reducible apply Hp.set' 1)); (with_reducible exact H); (repeat rfl); intro w' H') | ((repeat (with_reducible apply Hp.set' 2)); (with_reducible exact H); (repeat rfl); intro w' H') | ((repeat (with_reducible apply Hp.set' 3)); (with_reducible exact H); (repeat rfl); intro w' H') | ((repeat (with_reducible apply Hp.set' 4)); (with_reducible exact H); (repeat rfl); intro w' H') | ((repeat (with_reducible apply Hp.set' 5)); (with_reducible exact H); (repeat rfl); intro w' H') | ((repeat (with_reducible apply Hp.set' 6)); (with_reducible exact H); (repeat rfl); intro w' H') | ((repeat (with_reducible apply Hp.set' 7)); (with_reducible exact H); (repeat rfl); intro w' H')); ((try simp only [List.set_cons_zero, List.set_cons_succ, List.setIfInBounds_toArray] at H'); clear C H; have H := H'; clear H'; have C := Hp.facts H; simp only [Facts, factsL, and_true, true_and, List.set_cons_zero, List.set_cons_succ, List.setIfInBounds_toArray] at C)) | (at_make; refine wpList_make_hp H rfl _ _ _ rfl Try.underlying24 hi hz0 hz1 (2 * l.length) rfl rfl (by omega) (by rw [hz2]; omega) (by unfold maxLen; omega) ?_; intro v' w' H'; ((try simp only [List.set_cons_zero, List.set_cons_succ, List.setIfInBounds_toArray] at H'); clear C H; have H := H'; clear H'; have C := Hp.facts H; simp only [Facts, factsL, and_true, true_and, List.set_cons_zero, List.set_cons_succ, List.setIfInBounds_toArray] at C)) | go_values | go_skip | go_guarded | go_step | go_upon | go_back | (simp only [Int.not_lt, Int.not_le] at *; go_simp) | (go_values <;> (try go_simp)) | (go_ite <;> go_prune <;> (try go_simp)) | (split <;> (first | (rename_i hx; exact (hx _ rfl).elim) | go_prune))))
  obtain ⟨vr, hvr⟩ := Hp.rowName H 0 rfl
  subst hvr
  go_loopw [3, 12] (fun out ix wr => ∃ k : Nat, k ≤ l.length ∧ ix = .int .i64 k ∧ Hp w [.row 5 1 out (2 * k) ((hexL (l.take k)).map u8c)] wr) (fun _ ix _ => l.length - (intOf ix).toNat)
  case atStart => exact ⟨0, Nat.zero_le _, rfl, by simpa [hexL] using H⟩
  case round =>
    clear H C
    obtain ⟨k, hk, rfl, H⟩ := hrel
    have C := Hp.facts H
    simp only [Facts, factsL, and_true, true_and, List.set_cons_zero, List.set_cons_succ, List.setIfInBounds_toArray] at C
    by_cases hlt : k < l.length
    · obtain ⟨b, o, rfl, hbl, hc⟩ := hcell k hlt
      have hu := l[k].toNat_lt
      have eS := Lib.hid (hexL_snoc l k hlt)
      have eX := Lib.hid (hex1_cells l[k])
      (repeat' ((fail_if_success (with_reducible show bodyPost _ _ _ _ _ _)); first | ((with_reducible refine Hp.abs_alloc H ?_); intro b' w' H' hb'; (try simp only [hb']); clear hb'; ((try simp only [List.set_cons_zero, List.set_cons_succ, List.setIfInBounds_toArray] at H'); clear C H; have H := H'; clear H'; have C := Hp.facts H; simp only [Facts, factsL, and_true, true_and, List.set_cons_zero, List.set_cons_succ, List.setIfInBounds_toArray] at C)) | ((with_reducible show wpList _ _ _ _ _ (World.setCell _ _ _)); (with_reducible apply Hp.abs_gen H); (first | ((repeat (with_reducible apply Hp.set' 0)); (with_reducible exact H); (repeat rfl); intro w' H') | ((repeat (with_reducible apply Hp.set' 1)); (with_reducible exact H); (repeat rfl); intro w' H') | ((repeat (with_reducible apply Hp.set' 2)); (with_reducible exact H); (repeat rfl); intro w' H') | ((repeat (with_reducible apply Hp.set' 3)); (with_reducible exact H); (repeat rfl); intro w' H') | ((repeat (with_reducible apply Hp.set' 4)); (with_reducible exact H); (repeat rfl); intro w' H') | ((repeat (with_reducible apply Hp.set' 5)); (with_reducible exact H); (repeat rfl); intro w' H') | ((repeat (with_reducible apply Hp.set' 6)); (with_reducible exact H); (repeat rfl); intro w' H') | ((repeat (with_reducible apply Hp.set' 7)); (with_reducible exact H); (repeat rfl); intro w' H')); ((try simp only [List.set_cons_zero, List.set_cons_succ, List.setIfInBounds_toArray] at H'); clear C H; have H := H'; clear H'; have C := Hp.facts H; simp only [Facts, factsL, and_true, true_and, List.set_cons_zero, List.set_cons_succ, List.setIfInBounds_toArray] at C)) | (go_at_call 49; refine (digit_any _ (by omega) (by omega) _).mono ?_; rintro e' w' ⟨rfl, rfl⟩) | (at_builtin; refine wpList_append_hp H 1 rfl _ _ _ rfl Try.underlying24 hi hz0 hz1 hz2 rfl (by decide) rfl rfl rfl (news := [_, _]) rfl (fun h => by cases h) (fun _ => ⟨_, rfl, blk_news (H.get 0 rfl)⟩) (by simp [Value.oneCell']) (by unfold maxLen; omega) (by omega) ?_; intro v' w' H'; ((try simp only [List.set_cons_zero, List.set_cons_succ, List.setIfInBounds_toArray] at H'); clear C H; have H := H'; clear H'; have C := Hp.facts H; simp only [Facts, factsL, and_true, true_and, List.set_cons_zero, List.set_cons_succ, List.setIfInBounds_toArray] at C)) | go_values | go_skip | go_guarded | go_step | go_upon | go_back | (simp only [Int.not_lt, Int.not_le] at *; go_simp) | (go_values <;> (try go_simp)) | (go_ite <;> go_prune <;> (try go_simp)) | (split <;> (first | (rename_i hx; exact (hx _ rfl).elim) | go_prune))))
      refine ⟨⟨k + 1, by omega, by go_num, ?_⟩, by simp [intOf]; omega⟩
      rw [eS.out, List.map_append, eX.out, show 2 * (k + 1) = 2 * k + 2 by omega]
      exact H.tail
    · obtain rfl : k = l.length := by omega
      rw [List.take_length] at H
      have hcv := run_str (P := Try.prog) (H.row 0 rfl) 24 9 5 Try.underlying24 Try.underlying5 Try.underlying9
      (repeat' ((fail_if_success (with_reducible show bodyPost _ _ _ _ _ _)); first | ((with_reducible refine Hp.abs_alloc H ?_); intro b' w' H' hb'; (try simp only [hb']); clear hb'; ((try simp only [List.set_cons_zero, List.set_cons_succ, List.setIfInBounds_toArray] at H'); clear C H; have H := H'; clear H'; have C := Hp.facts H; simp only [Facts, factsL, and_true, true_and, List.set_cons_zero, List.set_cons_succ, List.setIfInBounds_toArray] at C)) | ((with_reducible show wpList _ _ _ _ _ (World.setCell _ _ _)); (with_reducible apply Hp.abs_gen H); (first | ((repeat (with_reducible apply Hp.set' 0)); (with_reducible exact H); (repeat rfl); intro w' H') | ((repeat (with_reducible apply Hp.set' 1)); (with_reducible exact H); (repeat rfl); intro w' H') | ((repeat (with_reducible apply Hp.set' 2)); (with_reducible exact H); (repeat rfl); intro w' H') | ((repeat (with_reducible apply Hp.set' 3)); (with_reducible exact H); (repeat rfl); intro w' H') | ((repeat (with_reducible apply Hp.set' 4)); (with_reducible exact H); (repeat rfl); intro w' H') | ((repeat (with_reducible apply Hp.set' 5)); (with_reducible exact H); (repeat rfl); intro w' H') | ((repeat (with_reducible apply Hp.set' 6)); (with_reducible exact H); (repeat rfl); intro w' H') | ((repeat (with_reducible apply Hp.set' 7)); (with_reducible exact H); (repeat rfl); intro w' H')); ((try simp only [List.set_cons_zero, List.set_cons_succ, List.setIfInBounds_toArray] at H'); clear C H; have H := H'; clear H'; have C := Hp.facts H; simp only [Facts, factsL, and_true, true_and, List.set_cons_zero, List.set_cons_succ, List.setIfInBounds_toArray] at C)) | go_values | go_skip | go_guarded | go_step | go_upon | go_back | (simp only [Int.not_lt, Int.not_le] at *; go_simp) | (go_values <;> (try go_simp)) | (go_ite <;> go_prune <;> (try go_simp)) | (split <;> (first | (rename_i hx; exact (hx _ rfl).elim) | go_prune))))
      go_ret
      exact ⟨rfl, H.low⟩
end Go.Proofs.Ytogliinfdfkobaa

