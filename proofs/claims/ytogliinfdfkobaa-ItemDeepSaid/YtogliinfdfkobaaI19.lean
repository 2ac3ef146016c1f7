/- Lemmas and walks on the way to the seat's laws; each theorem says its own conditions. -/
import Derived.Test.YtogliinfdfkobaaH17
import Derived.Test.YtogliinfdfkobaaH27
set_option linter.unusedSimpArgs false
set_option linter.unusedVariables false
set_option linter.unusedSimpArgs false
set_option linter.unusedVariables false
set_option maxRecDepth 100000
namespace Go.Proofs.Ytogliinfdfkobaa
open Go.RowKit Go.Mem Go.Reg Oct Hd Go.LawLift Go.Shelf
attribute [local go_sem] Oper.semAt_some
/-- A whole's length out of its contents'. -/
def capL (t : Tg) (n : Int) : Int := if n < 0 then -1 else if sizeR t n = 0 ∨ 16777216 < sizeR t n then -1 else sizeR t n
mutual
/-- How long a tree is as a whole; below 0: too long, or its tag is none. -/
def lenT : Tree → Int
  | .mk t b ks => capL t (lensT b.length ks)
def lensT : Int → List Tree → Int
  | n, [] => n
  | n, k :: r => if lenT k < 0 ∨ 16777216 < n + lenT k then -1 else lensT (n + lenT k) r
end
theorem lenT_is (t : Tree) : lenT t = capL t.tag (lensT t.bytes.length t.kids) := by
  obtain ⟨t, b, ks⟩ := t
  rw [lenT]
  rfl
theorem capL_neg {t : Tg} {n : Int} (h : n < 0) : capL t n = -1 := by unfold capL; rw [if_pos h]
theorem capL_bad {t : Tg} {n : Int} (h0 : 0 ≤ n) (h : sizeR t n = 0 ∨ 16777216 < sizeR t n) : capL t n = -1 := by unfold capL; rw [if_neg (by omega), if_pos h]
theorem capL_ok {t : Tg} {n : Int} (h0 : 0 ≤ n) (h : ¬ (sizeR t n = 0 ∨ 16777216 < sizeR t n)) : capL t n = sizeR t n := by unfold capL; rw [if_neg (by omega), if_neg h]
theorem sizeR_pos (t : Tg) (n : Int) : 0 ≤ sizeR t n := by
  unfold sizeR
  split
  · omega
  · rename_i h
    have : (lenR n).2 = 0 := by
      by_cases h2 : (lenR n).2 = 0
      · exact h2
      · exact absurd (.inr h2) h
    unfold lenR at this
    split at this
    · simp at this
    · omega
theorem lenT_range (t : Tree) : lenT t = -1 ∨ (0 < lenT t ∧ lenT t ≤ 16777216) := by
  rw [lenT_is]
  have h := sizeR_pos t.tag (lensT t.bytes.length t.kids)
  generalize lensT t.bytes.length t.kids = n at *
  by_cases h0 : n < 0
  · exact .inl (capL_neg h0)
  · by_cases h1 : sizeR t.tag n = 0 ∨ 16777216 < sizeR t.tag n
    · exact .inl (capL_bad (by omega) h1)
    · right
      rw [capL_ok (by omega) h1]
      omega
/-- The loop of length. -/
def LnRel (b : Nat) (ks : List Tree) (M : List Ent) (w : World) (x ix : Value) (wr : World) : Prop := ∃ (i : Nat) (acc : Int), i ≤ ks.length ∧ ix = .int .i64 i ∧ x = .int .i64 acc ∧ 0 ≤ acc ∧ acc ≤ 200000000 ∧ Kp (lensT b ks = lensT acc (ks.drop i)) ∧ Hp w M wr
theorem LnRel.mk {b : Nat} {ks : List Tree} {M : List Ent} {w : World} {x ix : Value} {wr : World} (i : Nat) (acc : Int) (h1 : i ≤ ks.length) (h2 : ix = .int .i64 i) (h3 : x = .int .i64 acc) (h4 : 0 ≤ acc) (h5 : acc ≤ 200000000) (h6 : lensT b ks = lensT acc (ks.drop i)) (h7 : Hp w M wr) : LnRel b ks M w x ix wr :=
  ⟨i, acc, h1, h2, h3, h4, h5, ⟨h6⟩, h7⟩
theorem lensT_drop {ks : List Tree} {i : Nat} {acc : Int} (h : i < ks.length) : lensT acc (ks.drop i) = if lenT ks[i] < 0 ∨ 16777216 < acc + lenT ks[i] then -1 else lensT (acc + lenT ks[i]) (ks.drop (i + 1)) := by
  rw [List.drop_eq_getElem_cons h, lensT]
theorem lensT_nil (n : Int) : lensT n [] = n := by rw [lensT]
set_option maxHeartbeats 3200000 in
theorem length_any : ∀ (n : Nat) (t : Tree) (cs : List Value) (w : World), ItN w n t cs → t.count ≤ 1000000 → t.total ≤ 100000000 →
    Calls Try.prog 46 #[.agg cs.toArray] w fun e w' => e = .returned (.int .i64 (lenT t)) ∧ Below w.heap.size w w' := by
  intro n
  induction n with
  | zero => intro t cs w h; exact h.elim
  | succ n ih =>
    intro t cs w ht hcn htot
    obtain ⟨vb, A, c, rfl, hb, hlc, hcm, hA, hk⟩ := ht.open
    have H := Hp.start w
    have C : True := trivial
    have hLT := lenT_is t
    generalize lenT t = res at *
    have hcn2 := t.count_is
    have htt2 := t.total_is
    have hat := Tree.counts_at t.kids
    have hta := Tree.totals_at t.kids
    have hkl := Tree.len_counts t.kids
    have hcap : c ≤ 9223372036854775807 := hcm
    obtain ⟨⟨tc, tn, tm⟩, bs, ks⟩ := t
    simp only [Tree.kids, Tree.tag, Tree.bytes] at *
    have gat := Kp.mk (fun j (hj : j < ks.length) => show ks[j].count ≤ 1000000 ∧ ks[j].total ≤ 100000000 by have := hat j hj; have := hta j hj; omega)
    have hkl2 : ks.length ≤ 1000000 := by omega
    have hbl : (bs.length : Int) ≤ 200000000 := by omega
    obtain ⟨Bv, cv, rfl⟩ : ∃ Bv cv, vb = .slice Bv bs.length cv := by
      obtain ⟨Bv, cv, e, -⟩ := hb
      exact ⟨Bv, cv, by simpa using e⟩
    have hSz := fun z w => size_head tc tn tm z w
    replace hLT := Kp.mk hLT
    clear hat hta hkl hcn hcn2 htot htt2 ht hcm hb
    obtain ⟨Q, hQ⟩ : ∃ Q : Ending → World → Prop, Q = fun e w' => e = .returned (.int .i64 res) ∧ Below w.heap.size w w' := ⟨_, rfl⟩
    rw [← hQ]
    replace hQ := Kp.mk hQ
    go_enter Try.func46, Try.ntmps46
    (repeat' ((fail_if_success (with_reducible show bodyPost _ _ _ _ _ _)); first | ((with_reducible refine Hp.abs_alloc H ?_); intro b' w' H' hb'; (try simp only [hb']); clear hb'; ((try simp only [List.set_cons_zero, List.set_cons_succ, List.setIfInBounds_toArray] at H'); clear C H; have H := H'; clear H'; have C := Hp.facts H; simp only [Facts, factsL, and_true, true_and, List.set_cons_zero, List.set_cons_succ, List.setIfInBounds_toArray] at C)) | ((with_reducible show wpList _ _ _ _ _ (World.setCell _ _ _)); (with_reducible apply Hp.abs_gen H); (first | ((repeat (with_reducible apply Hp.set' 0)); (with_reducible exact H); (repeat rfl); intro w' H') | ((repeat (with_reducible apply Hp.set' 1)); (with_reducible exact H); (repeat rfl); intro w' H') | ((repeat (with_reducible apply Hp.set' 2)); (with_reducible exact H); (repeat rfl); intro w' H') | ((repeat (with_reducible apply Hp.set' 3)); (with_reducible exact H); (repeat rfl); intro w' H') | ((repeat (with_reducible apply Hp.set' 4)); (with_reducible exact H); (repeat rfl); intro w' H') | ((repeat (with_reducible apply Hp.set' 5)); (with_reducible exact H); (repeat rfl); intro w' H') | ((repeat (with_reducible apply Hp.set' 6)); (with_reducible exact H); (repeat rfl); intro w' H') | ((repeat (with_reducible apply Hp.set' 7)); (with_reducible exact H); (repeat rfl); intro w' H')); ((try simp only [List.set_cons_zero, List.set_cons_succ, List.setIfInBounds_toArray] at H'); clear C H; have H := H'; clear H'; have C := Hp.facts H; simp only [Facts, factsL, and_true, true_and, List.set_cons_zero, List.set_cons_succ, List.setIfInBounds_toArray] at C)) | go_values | go_skip | go_guarded | go_step | go_upon | go_back | (simp only [Int.not_lt, Int.not_le] at *; go_simp) | (go_values <;> (try go_simp)) | (go_ite <;> go_prune <;> (try go_simp)) | (split <;> (first | (rename_i hx; exact (hx _ rfl).elim) | go_prune))))
    (obtain ⟨bt, rfl⟩ := Hp.name H 0 rfl)
    go_loopw [3, 13, 5] (fun x ix _ wr => LnRel bs.length ks [.blk bt #[.int .i64 tc, .int .i64 tn, .bool tm, .slice Bv bs.length cv, .slice A ks.length c] 41] w x ix wr) (fun _ ix _ _ => ks.length - (intOf ix).toNat)
    case atStart => exact LnRel.mk 0 _ (Nat.zero_le _) rfl rfl (by omega) hbl rfl H
    case round =>
      clear H C
      obtain ⟨i, acc, hi1, rfl, rfl, ha0, ha1, gL, H⟩ := hrel
      have C := Hp.facts H
      simp only [Facts, factsL, and_true, true_and, List.set_cons_zero, List.set_cons_succ, List.setIfInBounds_toArray] at C
      by_cases hlt : i < ks.length
      · obtain ⟨b, o, rfl, hgl, d0, d1, d2, d3, d4, q0, q1, q2, q3, q4, hkid⟩ := hk i hlt
        have hih := fun w1 (h : Below w.heap.size w w1) => ih ks[i] [d0, d1, d2, d3, d4] w1 (hkid.step h) (gat.out i hlt).1 (gat.out i hlt).2
        have gS := Kp.mk (gL.out.trans (lensT_drop hlt))
        have hmr := lenT_range ks[i]
        obtain ⟨x0, x1, x2, xA, xA2, xk, xc, xk2, xc2, rfl, rfl, rfl, rfl, rfl⟩ := hkid.forms
        generalize lenT ks[i] = m at hih gS hmr
        clear hk hkid ih gL
        (repeat' ((fail_if_success (with_reducible show bodyPost _ _ _ _ _ _)); first | ((with_reducible refine Hp.abs_alloc H ?_); intro b' w' H' hb'; (try simp only [hb']); clear hb'; ((try simp only [List.set_cons_zero, List.set_cons_succ, List.setIfInBounds_toArray] at H'); clear C H; have H := H'; clear H'; have C := Hp.facts H; simp only [Facts, factsL, and_true, true_and, List.set_cons_zero, List.set_cons_succ, List.setIfInBounds_toArray] at C)) | ((with_reducible show wpList _ _ _ _ _ (World.setCell _ _ _)); (with_reducible apply Hp.abs_gen H); (first | ((repeat (with_reducible apply Hp.set' 0)); (with_reducible exact H); (repeat rfl); intro w' H') | ((repeat (with_reducible apply Hp.set' 1)); (with_reducible exact H); (repeat rfl); intro w' H') | ((repeat (with_reducible apply Hp.set' 2)); (with_reducible exact H); (repeat rfl); intro w' H') | ((repeat (with_reducible apply Hp.set' 3)); (with_reducible exact H); (repeat rfl); intro w' H') | ((repeat (with_reducible apply Hp.set' 4)); (with_reducible exact H); (repeat rfl); intro w' H') | ((repeat (with_reducible apply Hp.set' 5)); (with_reducible exact H); (repeat rfl); intro w' H') | ((repeat (with_reducible apply Hp.set' 6)); (with_reducible exact H); (repeat rfl); intro w' H') | ((repeat (with_reducible apply Hp.set' 7)); (with_reducible exact H); (repeat rfl); intro w' H')); ((try simp only [List.set_cons_zero, List.set_cons_succ, List.setIfInBounds_toArray] at H'); clear C H; have H := H'; clear H'; have C := Hp.facts H; simp only [Facts, factsL, and_true, true_and, List.set_cons_zero, List.set_cons_succ, List.setIfInBounds_toArray] at C)) | go_values | go_skip | go_guarded | go_step | go_upon | go_back | (simp only [Int.not_lt, Int.not_le] at *; go_simp) | (go_values <;> (try go_simp)) | (go_ite <;> go_prune <;> (try go_simp)) | (split <;> (first | (rename_i hx; exact (hx _ rfl).elim) | go_prune))))
        refine (hih _ H.low).mono ?_
        (rintro e' w' ⟨rfl, hb'⟩; (have H' := Hp.step H hb'; clear hb'; ((try simp only [List.set_cons_zero, List.set_cons_succ, List.setIfInBounds_toArray] at H'); clear C H; have H := H'; clear H'; have C := Hp.facts H; simp only [Facts, factsL, and_true, true_and, List.set_cons_zero, List.set_cons_succ, List.setIfInBounds_toArray] at C)))
        by_cases hm0 : m < 0
        · have gE := Kp.mk (hLT.out.trans (by rw [gS.out, if_pos (.inl hm0), capL_neg (by decide)]))
          clear hmr gS hLT
          (repeat' ((fail_if_success (with_reducible show bodyPost _ _ _ _ _ _)); first | ((with_reducible refine Hp.abs_alloc H ?_); intro b' w' H' hb'; (try simp only [hb']); clear hb'; ((try simp only [List.set_cons_zero, List.set_cons_succ, List.setIfInBounds_toArray] at H'); clear C H; have H := H'; clear H'; have C := Hp.facts H; simp only [Facts, factsL, and_true, true_and, List.set_cons_zero, List.set_cons_succ, List.setIfInBounds_toArray] at C)) | ((with_reducible show wpList _ _ _ _ _ (World.setCell _ _ _)); (with_reducible apply Hp.abs_gen H); (first | ((repeat (with_reducible apply Hp.set' 0)); (with_reducible exact H); (repeat rfl); intro w' H') | ((repeat (with_reducible apply Hp.set' 1)); (with_reducible exact H); (repeat rfl); intro w' H') | ((repeat (with_reducible apply Hp.set' 2)); (with_reducible exact H); (repeat rfl); intro w' H') | ((repeat (with_reducible apply Hp.set' 3)); (with_reducible exact H); (repeat rfl); intro w' H') | ((repeat (with_reducible apply Hp.set' 4)); (with_reducible exact H); (repeat rfl); intro w' H') | ((repeat (with_reducible apply Hp.set' 5)); (with_reducible exact H); (repeat rfl); intro w' H') | ((repeat (with_reducible apply Hp.set' 6)); (with_reducible exact H); (repeat rfl); intro w' H') | ((repeat (with_reducible apply Hp.set' 7)); (with_reducible exact H); (repeat rfl); intro w' H')); ((try simp only [List.set_cons_zero, List.set_cons_succ, List.setIfInBounds_toArray] at H'); clear C H; have H := H'; clear H'; have C := Hp.facts H; simp only [Facts, factsL, and_true, true_and, List.set_cons_zero, List.set_cons_succ, List.setIfInBounds_toArray] at C)) | go_values | go_skip | go_guarded | go_step | go_upon | go_back | (simp only [Int.not_lt, Int.not_le] at *; go_simp) | (go_values <;> (try go_simp)) | (go_ite <;> go_prune <;> (try go_simp)) | (split <;> (first | (rename_i hx; exact (hx _ rfl).elim) | go_prune))))
          refine bodyPost_ret (v := .int .i64 (-1)) (by simp [results, go_sem, C]) rfl ?_
          rw [hQ.out, gE.out]
          exact ⟨rfl, H.low⟩
        · have hmr2 : m ≤ 16777216 := by omega
          by_cases hb0 : (16777216 : Int) < acc + m
          · have gE := Kp.mk (hLT.out.trans (by rw [gS.out, if_pos (.inr hb0), capL_neg (by decide)]))
            clear hmr gS hLT
            (repeat' ((fail_if_success (with_reducible show bodyPost _ _ _ _ _ _)); first | ((with_reducible refine Hp.abs_alloc H ?_); intro b' w' H' hb'; (try simp only [hb']); clear hb'; ((try simp only [List.set_cons_zero, List.set_cons_succ, List.setIfInBounds_toArray] at H'); clear C H; have H := H'; clear H'; have C := Hp.facts H; simp only [Facts, factsL, and_true, true_and, List.set_cons_zero, List.set_cons_succ, List.setIfInBounds_toArray] at C)) | ((with_reducible show wpList _ _ _ _ _ (World.setCell _ _ _)); (with_reducible apply Hp.abs_gen H); (first | ((repeat (with_reducible apply Hp.set' 0)); (with_reducible exact H); (repeat rfl); intro w' H') | ((repeat (with_reducible apply Hp.set' 1)); (with_reducible exact H); (repeat rfl); intro w' H') | ((repeat (with_reducible apply Hp.set' 2)); (with_reducible exact H); (repeat rfl); intro w' H') | ((repeat (with_reducible apply Hp.set' 3)); (with_reducible exact H); (repeat rfl); intro w' H') | ((repeat (with_reducible apply Hp.set' 4)); (with_reducible exact H); (repeat rfl); intro w' H') | ((repeat (with_reducible apply Hp.set' 5)); (with_reducible exact H); (repeat rfl); intro w' H') | ((repeat (with_reducible apply Hp.set' 6)); (with_reducible exact H); (repeat rfl); intro w' H') | ((repeat (with_reducible apply Hp.set' 7)); (with_reducible exact H); (repeat rfl); intro w' H')); ((try simp only [List.set_cons_zero, List.set_cons_succ, List.setIfInBounds_toArray] at H'); clear C H; have H := H'; clear H'; have C := Hp.facts H; simp only [Facts, factsL, and_true, true_and, List.set_cons_zero, List.set_cons_succ, List.setIfInBounds_toArray] at C)) | go_values | go_skip | go_guarded | go_step | go_upon | go_back | (simp only [Int.not_lt, Int.not_le] at *; go_simp) | (go_values <;> (try go_simp)) | (go_ite <;> go_prune <;> (try go_simp)) | (split <;> (first | (rename_i hx; exact (hx _ rfl).elim) | go_prune))))
            refine bodyPost_ret (v := .int .i64 (-1)) (by simp [results, go_sem, C]) rfl ?_
            rw [hQ.out, gE.out]
            exact ⟨rfl, H.low⟩
          · have gS2 := Kp.mk (gS.out.trans (by rw [if_neg (by omega)]))
            clear hmr gS hLT
            (repeat' ((fail_if_success (with_reducible show bodyPost _ _ _ _ _ _)); first | ((with_reducible refine Hp.abs_alloc H ?_); intro b' w' H' hb'; (try simp only [hb']); clear hb'; ((try simp only [List.set_cons_zero, List.set_cons_succ, List.setIfInBounds_toArray] at H'); clear C H; have H := H'; clear H'; have C := Hp.facts H; simp only [Facts, factsL, and_true, true_and, List.set_cons_zero, List.set_cons_succ, List.setIfInBounds_toArray] at C)) | ((with_reducible show wpList _ _ _ _ _ (World.setCell _ _ _)); (with_reducible apply Hp.abs_gen H); (first | ((repeat (with_reducible apply Hp.set' 0)); (with_reducible exact H); (repeat rfl); intro w' H') | ((repeat (with_reducible apply Hp.set' 1)); (with_reducible exact H); (repeat rfl); intro w' H') | ((repeat (with_reducible apply Hp.set' 2)); (with_reducible exact H); (repeat rfl); intro w' H') | ((repeat (with_reducible apply Hp.set' 3)); (with_reducible exact H); (repeat rfl); intro w' H') | ((repeat (with_reducible apply Hp.set' 4)); (with_reducible exact H); (repeat rfl); intro w' H') | ((repeat (with_reducible apply Hp.set' 5)); (with_reducible exact H); (repeat rfl); intro w' H') | ((repeat (with_reducible apply Hp.set' 6)); (with_reducible exact H); (repeat rfl); intro w' H') | ((repeat (with_reducible apply Hp.set' 7)); (with_reducible exact H); (repeat rfl); intro w' H')); ((try simp only [List.set_cons_zero, List.set_cons_succ, List.setIfInBounds_toArray] at H'); clear C H; have H := H'; clear H'; have C := Hp.facts H; simp only [Facts, factsL, and_true, true_and, List.set_cons_zero, List.set_cons_succ, List.setIfInBounds_toArray] at C)) | go_values | go_skip | go_guarded | go_step | go_upon | go_back | (simp only [Int.not_lt, Int.not_le] at *; go_simp) | (go_values <;> (try go_simp)) | (go_ite <;> go_prune <;> (try go_simp)) | (split <;> (first | (rename_i hx; exact (hx _ rfl).elim) | go_prune))))
            exact ⟨LnRel.mk (i + 1) (acc + m) (by omega) (by go_num) (by go_num) (by omega) (by omega) gS2.out H.tail, by simp [intOf]; omega⟩
      · obtain rfl : i = ks.length := by omega
        have gE := Kp.mk (hLT.out.trans (by rw [gL.out, List.drop_length, lensT_nil]))
        have hsp := sizeR_pos ⟨tc, tn, tm⟩ acc
        have hSz2 := hSz acc
        have gB := Kp.mk (@capL_bad ⟨tc, tn, tm⟩ acc ha0)
        have gO := Kp.mk (@capL_ok ⟨tc, tn, tm⟩ acc ha0)
        generalize sizeR ⟨tc, tn, tm⟩ acc = s at *
        clear hk ih gL hLT hSz
        (repeat' ((fail_if_success (with_reducible show bodyPost _ _ _ _ _ _)); first | ((with_reducible refine Hp.abs_alloc H ?_); intro b' w' H' hb'; (try simp only [hb']); clear hb'; ((try simp only [List.set_cons_zero, List.set_cons_succ, List.setIfInBounds_toArray] at H'); clear C H; have H := H'; clear H'; have C := Hp.facts H; simp only [Facts, factsL, and_true, true_and, List.set_cons_zero, List.set_cons_succ, List.setIfInBounds_toArray] at C)) | ((with_reducible show wpList _ _ _ _ _ (World.setCell _ _ _)); (with_reducible apply Hp.abs_gen H); (first | ((repeat (with_reducible apply Hp.set' 0)); (with_reducible exact H); (repeat rfl); intro w' H') | ((repeat (with_reducible apply Hp.set' 1)); (with_reducible exact H); (repeat rfl); intro w' H') | ((repeat (with_reducible apply Hp.set' 2)); (with_reducible exact H); (repeat rfl); intro w' H') | ((repeat (with_reducible apply Hp.set' 3)); (with_reducible exact H); (repeat rfl); intro w' H') | ((repeat (with_reducible apply Hp.set' 4)); (with_reducible exact H); (repeat rfl); intro w' H') | ((repeat (with_reducible apply Hp.set' 5)); (with_reducible exact H); (repeat rfl); intro w' H') | ((repeat (with_reducible apply Hp.set' 6)); (with_reducible exact H); (repeat rfl); intro w' H') | ((repeat (with_reducible apply Hp.set' 7)); (with_reducible exact H); (repeat rfl); intro w' H')); ((try simp only [List.set_cons_zero, List.set_cons_succ, List.setIfInBounds_toArray] at H'); clear C H; have H := H'; clear H'; have C := Hp.facts H; simp only [Facts, factsL, and_true, true_and, List.set_cons_zero, List.set_cons_succ, List.setIfInBounds_toArray] at C)) | go_values | go_skip | go_guarded | go_step | go_upon | go_back | (simp only [Int.not_lt, Int.not_le] at *; go_simp) | (go_values <;> (try go_simp)) | (go_ite <;> go_prune <;> (try go_simp)) | (split <;> (first | (rename_i hx; exact (hx _ rfl).elim) | go_prune))))
        refine (hSz2 _).mono ?_
        (rintro e' w' ⟨rfl, hb'⟩; (have H' := Hp.step H hb'; clear hb'; ((try simp only [List.set_cons_zero, List.set_cons_succ, List.setIfInBounds_toArray] at H'); clear C H; have H := H'; clear H'; have C := Hp.facts H; simp only [Facts, factsL, and_true, true_and, List.set_cons_zero, List.set_cons_succ, List.setIfInBounds_toArray] at C)))
        by_cases h0 : s = 0
        · subst h0
          have gE2 := Kp.mk (gE.out.trans (gB.out (.inl rfl)))
          clear gE gB gO
          (repeat' ((fail_if_success (with_reducible show bodyPost _ _ _ _ _ _)); first | ((with_reducible refine Hp.abs_alloc H ?_); intro b' w' H' hb'; (try simp only [hb']); clear hb'; ((try simp only [List.set_cons_zero, List.set_cons_succ, List.setIfInBounds_toArray] at H'); clear C H; have H := H'; clear H'; have C := Hp.facts H; simp only [Facts, factsL, and_true, true_and, List.set_cons_zero, List.set_cons_succ, List.setIfInBounds_toArray] at C)) | ((with_reducible show wpList _ _ _ _ _ (World.setCell _ _ _)); (with_reducible apply Hp.abs_gen H); (first | ((repeat (with_reducible apply Hp.set' 0)); (with_reducible exact H); (repeat rfl); intro w' H') | ((repeat (with_reducible apply Hp.set' 1)); (with_reducible exact H); (repeat rfl); intro w' H') | ((repeat (with_reducible apply Hp.set' 2)); (with_reducible exact H); (repeat rfl); intro w' H') | ((repeat (with_reducible apply Hp.set' 3)); (with_reducible exact H); (repeat rfl); intro w' H') | ((repeat (with_reducible apply Hp.set' 4)); (with_reducible exact H); (repeat rfl); intro w' H') | ((repeat (with_reducible apply Hp.set' 5)); (with_reducible exact H); (repeat rfl); intro w' H') | ((repeat (with_reducible apply Hp.set' 6)); (with_reducible exact H); (repeat rfl); intro w' H') | ((repeat (with_reducible apply Hp.set' 7)); (with_reducible exact H); (repeat rfl); intro w' H')); ((try simp only [List.set_cons_zero, List.set_cons_succ, List.setIfInBounds_toArray] at H'); clear C H; have H := H'; clear H'; have C := Hp.facts H; simp only [Facts, factsL, and_true, true_and, List.set_cons_zero, List.set_cons_succ, List.setIfInBounds_toArray] at C)) | go_values | go_skip | go_guarded | go_step | go_upon | go_back | (simp only [Int.not_lt, Int.not_le] at *; go_simp) | (go_values <;> (try go_simp)) | (go_ite <;> go_prune <;> (try go_simp)) | (split <;> (first | (rename_i hx; exact (hx _ rfl).elim) | go_prune))))
          refine bodyPost_ret (v := .int .i64 (-1)) (by simp [results, go_sem, C]) rfl ?_
          rw [hQ.out, gE2.out]
          exact ⟨rfl, H.low⟩
        · have e0 : (s == 0) = false := by simp [h0]
          by_cases h1 : (16777216 : Int) < s
          · have gE2 := Kp.mk (gE.out.trans (gB.out (.inr h1)))
            clear gE gB gO
            (repeat' ((fail_if_success (with_reducible show bodyPost _ _ _ _ _ _)); first | ((with_reducible refine Hp.abs_alloc H ?_); intro b' w' H' hb'; (try simp only [hb']); clear hb'; ((try simp only [List.set_cons_zero, List.set_cons_succ, List.setIfInBounds_toArray] at H'); clear C H; have H := H'; clear H'; have C := Hp.facts H; simp only [Facts, factsL, and_true, true_and, List.set_cons_zero, List.set_cons_succ, List.setIfInBounds_toArray] at C)) | ((with_reducible show wpList _ _ _ _ _ (World.setCell _ _ _)); (with_reducible apply Hp.abs_gen H); (first | ((repeat (with_reducible apply Hp.set' 0)); (with_reducible exact H); (repeat rfl); intro w' H') | ((repeat (with_reducible apply Hp.set' 1)); (with_reducible exact H); (repeat rfl); intro w' H') | ((repeat (with_reducible apply Hp.set' 2)); (with_reducible exact H); (repeat rfl); intro w' H') | ((repeat (with_reducible apply Hp.set' 3)); (with_reducible exact H); (repeat rfl); intro w' H') | ((repeat (with_reducible apply Hp.set' 4)); (with_reducible exact H); (repeat rfl); intro w' H') | ((repeat (with_reducible apply Hp.set' 5)); (with_reducible exact H); (repeat rfl); intro w' H') | ((repeat (with_reducible apply Hp.set' 6)); (with_reducible exact H); (repeat rfl); intro w' H') | ((repeat (with_reducible apply Hp.set' 7)); (with_reducible exact H); (repeat rfl); intro w' H')); ((try simp only [List.set_cons_zero, List.set_cons_succ, List.setIfInBounds_toArray] at H'); clear C H; have H := H'; clear H'; have C := Hp.facts H; simp only [Facts, factsL, and_true, true_and, List.set_cons_zero, List.set_cons_succ, List.setIfInBounds_toArray] at C)) | go_values | go_skip | go_guarded | go_step | go_upon | go_back | (simp only [Int.not_lt, Int.not_le] at *; go_simp) | (go_values <;> (try go_simp)) | (go_ite <;> go_prune <;> (try go_simp)) | (split <;> (first | (rename_i hx; exact (hx _ rfl).elim) | go_prune))))
            refine bodyPost_ret (v := .int .i64 (-1)) (by simp [results, go_sem, C]) rfl ?_
            rw [hQ.out, gE2.out]
            exact ⟨rfl, H.low⟩
          · have gE2 := Kp.mk (gE.out.trans (gO.out (by omega)))
            clear gE gB gO
            (repeat' ((fail_if_success (with_reducible show bodyPost _ _ _ _ _ _)); first | ((with_reducible refine Hp.abs_alloc H ?_); intro b' w' H' hb'; (try simp only [hb']); clear hb'; ((try simp only [List.set_cons_zero, List.set_cons_succ, List.setIfInBounds_toArray] at H'); clear C H; have H := H'; clear H'; have C := Hp.facts H; simp only [Facts, factsL, and_true, true_and, List.set_cons_zero, List.set_cons_succ, List.setIfInBounds_toArray] at C)) | ((with_reducible show wpList _ _ _ _ _ (World.setCell _ _ _)); (with_reducible apply Hp.abs_gen H); (first | ((repeat (with_reducible apply Hp.set' 0)); (with_reducible exact H); (repeat rfl); intro w' H') | ((repeat (with_reducible apply Hp.set' 1)); (with_reducible exact H); (repeat rfl); intro w' H') | ((repeat (with_reducible apply Hp.set' 2)); (with_reducible exact H); (repeat rfl); intro w' H') | ((repeat (with_reducible apply Hp.set' 3)); (with_reducible exact H); (repeat rfl); intro w' H') | ((repeat (with_reducible apply Hp.set' 4)); (with_reducible exact H); (repeat rfl); intro w' H') | ((repeat (with_reducible apply Hp.set' 5)); (with_reducible exact H); (repeat rfl); intro w' H') | ((repeat (with_reducible apply Hp.set' 6)); (with_reducible exact H); (repeat rfl); intro w' H') | ((repeat (with_reducible apply Hp.set' 7)); (with_reducible exact H); (repeat rfl); intro w' H')); ((try simp only [List.set_cons_zero, List.set_cons_succ, List.setIfInBounds_toArray] at H'); clear C H; have H := H'; clear H'; have C := Hp.facts H; simp only [Facts, factsL, and_true, true_and, List.set_cons_zero, List.set_cons_succ, List.setIfInBounds_toArray] at C)) | go_values | go_skip | go_guarded | go_step | go_upon | go_back | (simp only [Int.not_lt, Int.not_le] at *; go_simp) | (go_values <;> (try go_simp)) | (go_ite <;> go_prune <;> (try go_simp)) | (split <;> (first | (rename_i hx; exact (hx _ rfl).elim) | go_prune))))
            refine bodyPost_ret (v := .int .i64 s) (by simp [results, go_sem, C]) rfl ?_
            rw [hQ.out, gE2.out]
            exact ⟨rfl, H.low⟩
end Go.Proofs.Ytogliinfdfkobaa

