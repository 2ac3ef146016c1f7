/- Lemmas and walks on the way to the seat's laws; each theorem says its own conditions. -/
import Derived.Test.YtogliinfdfkobaaH9
set_option linter.unusedSimpArgs false
set_option linter.unusedVariables false
set_option linter.unusedSimpArgs false
set_option linter.unusedVariables false
set_option maxRecDepth 100000
namespace Go.Proofs.Ytogliinfdfkobaa
open Go.RowKit Go.Mem Go.Reg Hd Oct
/-- What a reader tells before it is kept: an error, and with none the value and the place. -/
def TagRaw (w0 : World) (M : List Ent) (b : Nat) (v : Value) (l : List UInt8) (k : Nat) (R : Tg × Nat × Nat) (e : Ending) (w' : World) : Prop :=
  ∃ (c n : Int) (m : Bool) (p : Nat), e = .returned (.tuple #[.agg #[.int .i64 c, .int .i64 n, .bool m], .int .i64 (R.2.1 : Int)]) ∧ k ≤ p ∧ p ≤ l.length ∧ (R.2.1 = 0 → Tg.mk c n m = R.1 ∧ p = R.2.2) ∧
    Hp w0 (.blk b #[v, .int .i64 (p : Int)] 112 :: M) w'
theorem rdTag_none {l : List UInt8} {k : Nat} (h : l.length ≤ k) : rdTag l k = (.zero, 3, k) := by
  unfold rdTag
  rw [List.getElem?_eq_none h]
theorem rdTag_low {l : List UInt8} {k : Nat} (h : k < l.length) (h1 : l[k].toNat % 32 < 31) : rdTag l k = (⟨l[k].toNat / 64, l[k].toNat % 32, l[k].toNat / 32 % 2 == 1⟩, 0, k + 1) := by
  unfold rdTag
  rw [List.getElem?_eq_getElem h]
  simp only
  rw [if_pos h1]
theorem rdTag_high {l : List UInt8} {k : Nat} (h : k < l.length) (h1 : ¬ l[k].toNat % 32 < 31) (h2 : (numR l 4 (k + 1) 0).2.1 = 0) : rdTag l k = (⟨l[k].toNat / 64, (numR l 4 (k + 1) 0).1, l[k].toNat / 32 % 2 == 1⟩, 0, (numR l 4 (k + 1) 0).2.2) := by
  unfold rdTag
  rw [List.getElem?_eq_getElem h]
  simp only
  rw [if_neg h1, if_pos h2]
theorem rdTag_bad {l : List UInt8} {k : Nat} (h : k < l.length) (h1 : ¬ l[k].toNat % 32 < 31) (h2 : ¬ (numR l 4 (k + 1) 0).2.1 = 0) : rdTag l k = (.zero, (numR l 4 (k + 1) 0).2.1, k) := by
  unfold rdTag
  rw [List.getElem?_eq_getElem h]
  simp only
  rw [if_neg h1, if_neg h2]
set_option maxHeartbeats 4000000 in
theorem tag1_any (w0 : World) (M : List Ent) (b q : Nat) (l : List UInt8) (k : Nat) (v : Value) (hk : k ≤ l.length) (hl : l.length ≤ 1000000) (hB : CurB w0 (.blk q #[.pointer (some ⟨b, 0, none⟩)] 92 :: M) b v l) (w : World) (H : Hp w0 (.blk b #[v, .int .i64 (k : Int)] 112 :: .blk q #[.pointer (some ⟨b, 0, none⟩)] 92 :: M) w) :
    Calls Try.prog 82 #[.pointer (some ⟨q, 0, none⟩)] w (TagRaw w0 (.blk q #[.pointer (some ⟨b, 0, none⟩)] 92 :: M) b v l k (rdTag l k)) := by
  have C := Hp.facts H
  simp only [Facts, factsL, and_true, true_and, List.set_cons_zero, List.set_cons_succ, List.setIfInBounds_toArray] at C
  by_cases hlt : k < l.length
  · have hp := Lib.hid (peekV_some hlt)
    have hu := l[k].toNat_lt
    have hkl : k + 1 ≤ l.length := hlt
    have eA := Hd.u8_and31 (l[k].toNat : Int) (by omega) (by omega)
    have eB := Hd.u8_and32 (l[k].toNat : Int) (by omega) (by omega)
    have eM : (32 * ((l[k].toNat : Int) / 32 % 2) != 0) = (l[k].toNat / 32 % 2 == 1) := by
      rcases (by omega : l[k].toNat / 32 % 2 = 0 ∨ l[k].toNat / 32 % 2 = 1) with h | h
      · rw [h]; have : (l[k].toNat : Int) / 32 % 2 = 0 := by omega
        rw [this]; rfl
      · rw [h]; have : (l[k].toNat : Int) / 32 % 2 = 1 := by omega
        rw [this]; rfl
    have gM := Lib.hid eM
    clear eM
    go_enter Try.func82, Try.ntmps82
    (repeat' ((fail_if_success (with_reducible show bodyPost _ _ _ _ _ _)); first | ((with_reducible refine Hp.abs_alloc H ?_); intro b' w' H' hb'; (try simp only [hb']); clear hb'; ((try simp only [List.set_cons_zero, List.set_cons_succ, List.setIfInBounds_toArray] at H'); clear C H; have H := H'; clear H'; have C := Hp.facts H; simp only [Facts, factsL, and_true, true_and, List.set_cons_zero, List.set_cons_succ, List.setIfInBounds_toArray] at C)) | ((with_reducible show wpList _ _ _ _ _ (World.setCell _ _ _)); (with_reducible apply Hp.abs_gen H); (first | ((repeat (with_reducible apply Hp.set' 0)); (with_reducible exact H); (repeat rfl); intro w' H') | ((repeat (with_reducible apply Hp.set' 1)); (with_reducible exact H); (repeat rfl); intro w' H') | ((repeat (with_reducible apply Hp.set' 2)); (with_reducible exact H); (repeat rfl); intro w' H') | ((repeat (with_reducible apply Hp.set' 3)); (with_reducible exact H); (repeat rfl); intro w' H') | ((repeat (with_reducible apply Hp.set' 4)); (with_reducible exact H); (repeat rfl); intro w' H') | ((repeat (with_reducible apply Hp.set' 5)); (with_reducible exact H); (repeat rfl); intro w' H') | ((repeat (with_reducible apply Hp.set' 6)); (with_reducible exact H); (repeat rfl); intro w' H') | ((repeat (with_reducible apply Hp.set' 7)); (with_reducible exact H); (repeat rfl); intro w' H')); ((try simp only [List.set_cons_zero, List.set_cons_succ, List.setIfInBounds_toArray] at H'); clear C H; have H := H'; clear H'; have C := Hp.facts H; simp only [Facts, factsL, and_true, true_and, List.set_cons_zero, List.set_cons_succ, List.setIfInBounds_toArray] at C)) | go_values | go_skip | go_guarded | go_step | go_upon | go_back | (simp only [Int.not_lt, Int.not_le] at *; go_simp) | (go_values <;> (try go_simp)) | (go_ite <;> go_prune <;> (try go_simp)) | (split <;> (first | (rename_i hx; exact (hx _ rfl).elim) | go_prune))))
    refine (byte_any b l k v _ (curF H.tail hB hk hl)).mono ?_
    rintro e' w1 ⟨rfl, m⟩
    rw [hp.out]
    rw [if_pos hlt] at m
    have H' := moved_hp H 1 rfl m
    clear m
    ((try simp only [List.set_cons_zero, List.set_cons_succ, List.setIfInBounds_toArray] at H'); clear C H; have H := H'; clear H'; have C := Hp.facts H; simp only [Facts, factsL, and_true, true_and, List.set_cons_zero, List.set_cons_succ, List.setIfInBounds_toArray] at C)
    by_cases h31 : l[k].toNat % 32 < 31
    · have hR := Lib.hid (rdTag_low hlt h31)
      have h31' : (l[k].toNat : Int) % 32 < 31 := by omega
      have e31 : ((l[k].toNat : Int) % 32 == 31) = false := by simp; omega
      (repeat' ((fail_if_success (with_reducible show bodyPost _ _ _ _ _ _)); first | ((with_reducible refine Hp.abs_alloc H ?_); intro b' w' H' hb'; (try simp only [hb']); clear hb'; ((try simp only [List.set_cons_zero, List.set_cons_succ, List.setIfInBounds_toArray] at H'); clear C H; have H := H'; clear H'; have C := Hp.facts H; simp only [Facts, factsL, and_true, true_and, List.set_cons_zero, List.set_cons_succ, List.setIfInBounds_toArray] at C)) | ((with_reducible show wpList _ _ _ _ _ (World.setCell _ _ _)); (with_reducible apply Hp.abs_gen H); (first | ((repeat (with_reducible apply Hp.set' 0)); (with_reducible exact H); (repeat rfl); intro w' H') | ((repeat (with_reducible apply Hp.set' 1)); (with_reducible exact H); (repeat rfl); intro w' H') | ((repeat (with_reducible apply Hp.set' 2)); (with_reducible exact H); (repeat rfl); intro w' H') | ((repeat (with_reducible apply Hp.set' 3)); (with_reducible exact H); (repeat rfl); intro w' H') | ((repeat (with_reducible apply Hp.set' 4)); (with_reducible exact H); (repeat rfl); intro w' H') | ((repeat (with_reducible apply Hp.set' 5)); (with_reducible exact H); (repeat rfl); intro w' H') | ((repeat (with_reducible apply Hp.set' 6)); (with_reducible exact H); (repeat rfl); intro w' H') | ((repeat (with_reducible apply Hp.set' 7)); (with_reducible exact H); (repeat rfl); intro w' H')); ((try simp only [List.set_cons_zero, List.set_cons_succ, List.setIfInBounds_toArray] at H'); clear C H; have H := H'; clear H'; have C := Hp.facts H; simp only [Facts, factsL, and_true, true_and, List.set_cons_zero, List.set_cons_succ, List.setIfInBounds_toArray] at C)) | go_values | go_skip | go_guarded | go_step | go_upon | go_back | (simp only [Int.not_lt, Int.not_le] at *; go_simp) | (go_values <;> (try go_simp)) | (go_ite <;> go_prune <;> (try go_simp)) | (split <;> (first | (rename_i hx; exact (hx _ rfl).elim) | go_prune))))
      refine bodyPost_ret (v := .tuple #[.agg #[.int .i64 ((l[k].toNat : Int) / 64), .int .i64 ((l[k].toNat : Int) % 32), .bool (32 * ((l[k].toNat : Int) / 32 % 2) != 0)], .int .i64 0]) (by simp [results, go_sem, C]) rfl ?_
      rw [hR.out]
      exact ⟨_, _, _, k + 1, rfl, by omega, hkl, fun _ => ⟨by rw [gM.out], rfl⟩, H.tail.tail⟩
    · have e31 : ((l[k].toNat : Int) % 32 == 31) = true := by simp; omega
      (repeat' ((fail_if_success (with_reducible show bodyPost _ _ _ _ _ _)); first | ((with_reducible refine Hp.abs_alloc H ?_); intro b' w' H' hb'; (try simp only [hb']); clear hb'; ((try simp only [List.set_cons_zero, List.set_cons_succ, List.setIfInBounds_toArray] at H'); clear C H; have H := H'; clear H'; have C := Hp.facts H; simp only [Facts, factsL, and_true, true_and, List.set_cons_zero, List.set_cons_succ, List.setIfInBounds_toArray] at C)) | ((with_reducible show wpList _ _ _ _ _ (World.setCell _ _ _)); (with_reducible apply Hp.abs_gen H); (first | ((repeat (with_reducible apply Hp.set' 0)); (with_reducible exact H); (repeat rfl); intro w' H') | ((repeat (with_reducible apply Hp.set' 1)); (with_reducible exact H); (repeat rfl); intro w' H') | ((repeat (with_reducible apply Hp.set' 2)); (with_reducible exact H); (repeat rfl); intro w' H') | ((repeat (with_reducible apply Hp.set' 3)); (with_reducible exact H); (repeat rfl); intro w' H') | ((repeat (with_reducible apply Hp.set' 4)); (with_reducible exact H); (repeat rfl); intro w' H') | ((repeat (with_reducible apply Hp.set' 5)); (with_reducible exact H); (repeat rfl); intro w' H') | ((repeat (with_reducible apply Hp.set' 6)); (with_reducible exact H); (repeat rfl); intro w' H') | ((repeat (with_reducible apply Hp.set' 7)); (with_reducible exact H); (repeat rfl); intro w' H')); ((try simp only [List.set_cons_zero, List.set_cons_succ, List.setIfInBounds_toArray] at H'); clear C H; have H := H'; clear H'; have C := Hp.facts H; simp only [Facts, factsL, and_true, true_and, List.set_cons_zero, List.set_cons_succ, List.setIfInBounds_toArray] at C)) | go_values | go_skip | go_guarded | go_step | go_upon | go_back | (simp only [Int.not_lt, Int.not_le] at *; go_simp) | (go_values <;> (try go_simp)) | (go_ite <;> go_prune <;> (try go_simp)) | (split <;> (first | (rename_i hx; exact (hx _ rfl).elim) | go_prune))))
      refine (number_any b l (k + 1) v _ (curF H.tail.tail hB hkl hl)).mono ?_
      rintro e' w2 ⟨rfl, p, hkp, hpl, hz, m⟩
      have H' := moved_hp H 2 rfl m
      clear m
      ((try simp only [List.set_cons_zero, List.set_cons_succ, List.setIfInBounds_toArray] at H'); clear C H; have H := H'; clear H'; have C := Hp.facts H; simp only [Facts, factsL, and_true, true_and, List.set_cons_zero, List.set_cons_succ, List.setIfInBounds_toArray] at C)
      by_cases h0 : (numR l 4 (k + 1) 0).2.1 = 0
      · have hR := Lib.hid (rdTag_high hlt h31 h0)
        have hz0 := hz h0
        clear hz
        generalize numR l 4 (k + 1) 0 = N at *
        obtain ⟨N1, N2, N3⟩ := N
        simp only at h0 hz0 hR
        subst h0 hz0
        (repeat' ((fail_if_success (with_reducible show bodyPost _ _ _ _ _ _)); first | ((with_reducible refine Hp.abs_alloc H ?_); intro b' w' H' hb'; (try simp only [hb']); clear hb'; ((try simp only [List.set_cons_zero, List.set_cons_succ, List.setIfInBounds_toArray] at H'); clear C H; have H := H'; clear H'; have C := Hp.facts H; simp only [Facts, factsL, and_true, true_and, List.set_cons_zero, List.set_cons_succ, List.setIfInBounds_toArray] at C)) | ((with_reducible show wpList _ _ _ _ _ (World.setCell _ _ _)); (with_reducible apply Hp.abs_gen H); (first | ((repeat (with_reducible apply Hp.set' 0)); (with_reducible exact H); (repeat rfl); intro w' H') | ((repeat (with_reducible apply Hp.set' 1)); (with_reducible exact H); (repeat rfl); intro w' H') | ((repeat (with_reducible apply Hp.set' 2)); (with_reducible exact H); (repeat rfl); intro w' H') | ((repeat (with_reducible apply Hp.set' 3)); (with_reducible exact H); (repeat rfl); intro w' H') | ((repeat (with_reducible apply Hp.set' 4)); (with_reducible exact H); (repeat rfl); intro w' H') | ((repeat (with_reducible apply Hp.set' 5)); (with_reducible exact H); (repeat rfl); intro w' H') | ((repeat (with_reducible apply Hp.set' 6)); (with_reducible exact H); (repeat rfl); intro w' H') | ((repeat (with_reducible apply Hp.set' 7)); (with_reducible exact H); (repeat rfl); intro w' H')); ((try simp only [List.set_cons_zero, List.set_cons_succ, List.setIfInBounds_toArray] at H'); clear C H; have H := H'; clear H'; have C := Hp.facts H; simp only [Facts, factsL, and_true, true_and, List.set_cons_zero, List.set_cons_succ, List.setIfInBounds_toArray] at C)) | go_values | go_skip | go_guarded | go_step | go_upon | go_back | (simp only [Int.not_lt, Int.not_le] at *; go_simp) | (go_values <;> (try go_simp)) | (go_ite <;> go_prune <;> (try go_simp)) | (split <;> (first | (rename_i hx; exact (hx _ rfl).elim) | go_prune))))
        refine bodyPost_ret (v := .tuple #[.agg #[.int .i64 ((l[k].toNat : Int) / 64), .int .i64 (N1 : Int), .bool (32 * ((l[k].toNat : Int) / 32 % 2) != 0)], .int .i64 0]) (by simp [results, go_sem, C]) rfl ?_
        rw [hR.out]
        exact ⟨_, _, _, p, rfl, by omega, hpl, fun _ => ⟨by rw [gM.out], rfl⟩, H.tail.tail⟩
      · have hR := Lib.hid (rdTag_bad hlt h31 h0)
        generalize numR l 4 (k + 1) 0 = N at *
        obtain ⟨N1, N2, N3⟩ := N
        simp only at h0 hz hR
        clear hz
        (repeat' ((fail_if_success (with_reducible show bodyPost _ _ _ _ _ _)); first | ((with_reducible refine Hp.abs_alloc H ?_); intro b' w' H' hb'; (try simp only [hb']); clear hb'; ((try simp only [List.set_cons_zero, List.set_cons_succ, List.setIfInBounds_toArray] at H'); clear C H; have H := H'; clear H'; have C := Hp.facts H; simp only [Facts, factsL, and_true, true_and, List.set_cons_zero, List.set_cons_succ, List.setIfInBounds_toArray] at C)) | ((with_reducible show wpList _ _ _ _ _ (World.setCell _ _ _)); (with_reducible apply Hp.abs_gen H); (first | ((repeat (with_reducible apply Hp.set' 0)); (with_reducible exact H); (repeat rfl); intro w' H') | ((repeat (with_reducible apply Hp.set' 1)); (with_reducible exact H); (repeat rfl); intro w' H') | ((repeat (with_reducible apply Hp.set' 2)); (with_reducible exact H); (repeat rfl); intro w' H') | ((repeat (with_reducible apply Hp.set' 3)); (with_reducible exact H); (repeat rfl); intro w' H') | ((repeat (with_reducible apply Hp.set' 4)); (with_reducible exact H); (repeat rfl); intro w' H') | ((repeat (with_reducible apply Hp.set' 5)); (with_reducible exact H); (repeat rfl); intro w' H') | ((repeat (with_reducible apply Hp.set' 6)); (with_reducible exact H); (repeat rfl); intro w' H') | ((repeat (with_reducible apply Hp.set' 7)); (with_reducible exact H); (repeat rfl); intro w' H')); ((try simp only [List.set_cons_zero, List.set_cons_succ, List.setIfInBounds_toArray] at H'); clear C H; have H := H'; clear H'; have C := Hp.facts H; simp only [Facts, factsL, and_true, true_and, List.set_cons_zero, List.set_cons_succ, List.setIfInBounds_toArray] at C)) | go_values | go_skip | go_guarded | go_step | go_upon | go_back | (simp only [Int.not_lt, Int.not_le] at *; go_simp) | (go_values <;> (try go_simp)) | (go_ite <;> go_prune <;> (try go_simp)) | (split <;> (first | (rename_i hx; exact (hx _ rfl).elim) | go_prune))))
        refine bodyPost_ret (v := .tuple #[.agg #[.int .i64 ((l[k].toNat : Int) / 64), .int .i64 (N1 : Int), .bool (32 * ((l[k].toNat : Int) / 32 % 2) != 0)], .int .i64 (N2 : Int)]) (by simp [results, go_sem, C]) rfl ?_
        rw [hR.out]
        exact ⟨_, _, _, p, rfl, by omega, hpl, fun h => absurd h h0, H.tail.tail⟩
  · have hp := Lib.hid (peekV_none (show l.length ≤ k by omega))
    have hR := Lib.hid (rdTag_none (show l.length ≤ k by omega))
    go_enter Try.func82, Try.ntmps82
    (repeat' ((fail_if_success (with_reducible show bodyPost _ _ _ _ _ _)); first | ((with_reducible refine Hp.abs_alloc H ?_); intro b' w' H' hb'; (try simp only [hb']); clear hb'; ((try simp only [List.set_cons_zero, List.set_cons_succ, List.setIfInBounds_toArray] at H'); clear C H; have H := H'; clear H'; have C := Hp.facts H; simp only [Facts, factsL, and_true, true_and, List.set_cons_zero, List.set_cons_succ, List.setIfInBounds_toArray] at C)) | ((with_reducible show wpList _ _ _ _ _ (World.setCell _ _ _)); (with_reducible apply Hp.abs_gen H); (first | ((repeat (with_reducible apply Hp.set' 0)); (with_reducible exact H); (repeat rfl); intro w' H') | ((repeat (with_reducible apply Hp.set' 1)); (with_reducible exact H); (repeat rfl); intro w' H') | ((repeat (with_reducible apply Hp.set' 2)); (with_reducible exact H); (repeat rfl); intro w' H') | ((repeat (with_reducible apply Hp.set' 3)); (with_reducible exact H); (repeat rfl); intro w' H') | ((repeat (with_reducible apply Hp.set' 4)); (with_reducible exact H); (repeat rfl); intro w' H') | ((repeat (with_reducible apply Hp.set' 5)); (with_reducible exact H); (repeat rfl); intro w' H') | ((repeat (with_reducible apply Hp.set' 6)); (with_reducible exact H); (repeat rfl); intro w' H') | ((repeat (with_reducible apply Hp.set' 7)); (with_reducible exact H); (repeat rfl); intro w' H')); ((try simp only [List.set_cons_zero, List.set_cons_succ, List.setIfInBounds_toArray] at H'); clear C H; have H := H'; clear H'; have C := Hp.facts H; simp only [Facts, factsL, and_true, true_and, List.set_cons_zero, List.set_cons_succ, List.setIfInBounds_toArray] at C)) | go_values | go_skip | go_guarded | go_step | go_upon | go_back | (simp only [Int.not_lt, Int.not_le] at *; go_simp) | (go_values <;> (try go_simp)) | (go_ite <;> go_prune <;> (try go_simp)) | (split <;> (first | (rename_i hx; exact (hx _ rfl).elim) | go_prune))))
    refine (byte_any b l k v _ (curF H.tail hB hk hl)).mono ?_
    rintro e' w1 ⟨rfl, m⟩
    rw [hp.out]
    rw [if_neg hlt] at m
    have H' := moved_hp H 1 rfl m
    clear m
    ((try simp only [List.set_cons_zero, List.set_cons_succ, List.setIfInBounds_toArray] at H'); clear C H; have H := H'; clear H'; have C := Hp.facts H; simp only [Facts, factsL, and_true, true_and, List.set_cons_zero, List.set_cons_succ, List.setIfInBounds_toArray] at C)
    (repeat' ((fail_if_success (with_reducible show bodyPost _ _ _ _ _ _)); first | ((with_reducible refine Hp.abs_alloc H ?_); intro b' w' H' hb'; (try simp only [hb']); clear hb'; ((try simp only [List.set_cons_zero, List.set_cons_succ, List.setIfInBounds_toArray] at H'); clear C H; have H := H'; clear H'; have C := Hp.facts H; simp only [Facts, factsL, and_true, true_and, List.set_cons_zero, List.set_cons_succ, List.setIfInBounds_toArray] at C)) | ((with_reducible show wpList _ _ _ _ _ (World.setCell _ _ _)); (with_reducible apply Hp.abs_gen H); (first | ((repeat (with_reducible apply Hp.set' 0)); (with_reducible exact H); (repeat rfl); intro w' H') | ((repeat (with_reducible apply Hp.set' 1)); (with_reducible exact H); (repeat rfl); intro w' H') | ((repeat (with_reducible apply Hp.set' 2)); (with_reducible exact H); (repeat rfl); intro w' H') | ((repeat (with_reducible apply Hp.set' 3)); (with_reducible exact H); (repeat rfl); intro w' H') | ((repeat (with_reducible apply Hp.set' 4)); (with_reducible exact H); (repeat rfl); intro w' H') | ((repeat (with_reducible apply Hp.set' 5)); (with_reducible exact H); (repeat rfl); intro w' H') | ((repeat (with_reducible apply Hp.set' 6)); (with_reducible exact H); (repeat rfl); intro w' H') | ((repeat (with_reducible apply Hp.set' 7)); (with_reducible exact H); (repeat rfl); intro w' H')); ((try simp only [List.set_cons_zero, List.set_cons_succ, List.setIfInBounds_toArray] at H'); clear C H; have H := H'; clear H'; have C := Hp.facts H; simp only [Facts, factsL, and_true, true_and, List.set_cons_zero, List.set_cons_succ, List.setIfInBounds_toArray] at C)) | go_values | go_skip | go_guarded | go_step | go_upon | go_back | (simp only [Int.not_lt, Int.not_le] at *; go_simp) | (go_values <;> (try go_simp)) | (go_ite <;> go_prune <;> (try go_simp)) | (split <;> (first | (rename_i hx; exact (hx _ rfl).elim) | go_prune))))
    refine bodyPost_ret (v := .tuple #[.agg #[.int .i64 0, .int .i64 0, .bool false], .int .i64 3]) (by simp [results, go_sem, C]) rfl ?_
    rw [hR.out]
    exact ⟨_, _, _, k, rfl, Nat.le_refl _, hk, (fun h => by cases h), H.tail⟩
end Go.Proofs.Ytogliinfdfkobaa

