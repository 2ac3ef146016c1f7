/- Lemmas and walks on the way to the seat's laws; each theorem says its own conditions. -/
import Derived.Test.YtogliinfdfkobaaH13
set_option linter.unusedSimpArgs false
set_option linter.unusedVariables false
set_option linter.unusedSimpArgs false
set_option linter.unusedVariables false
set_option maxRecDepth 100000
namespace Go.Proofs.Ytogliinfdfkobaa
open Go.RowKit Go.Mem Go.Reg Hd Oct
def FrontRaw (w0 : World) (M : List Ent) (b : Nat) (v : Value) (l : List UInt8) (k : Nat) (R : Tg × Nat × Nat × Nat) (e : Ending) (w' : World) : Prop :=
  ∃ (c n : Int) (m : Bool) (z : Int) (p : Nat), e = .returned (.tuple #[.agg #[.int .i64 c, .int .i64 n, .bool m, .int .i64 z], .int .i64 (R.2.2.1 : Int)]) ∧ k ≤ p ∧ p ≤ l.length ∧ (R.2.2.1 = 0 → Tg.mk c n m = R.1 ∧ z = R.2.1 ∧ p = R.2.2.2) ∧
    Hp w0 (.blk b #[v, .int .i64 (p : Int)] 112 :: M) w'
theorem rdHead_tag {l : List UInt8} {k : Nat} (h : (rdTag l k).2.1 ≠ 0) : rdHead l k = (.zero, 0, (rdTag l k).2.1, k) := by
  unfold rdHead
  rw [if_neg h]
theorem rdHead_len {l : List UInt8} {k : Nat} (h : (rdTag l k).2.1 = 0) (h2 : (rdLen l (rdTag l k).2.2).2.1 ≠ 0) : rdHead l k = (.zero, 0, (rdLen l (rdTag l k).2.2).2.1, k) := by
  unfold rdHead
  rw [if_pos h, if_neg h2]
theorem rdHead_ok {l : List UInt8} {k : Nat} (h : (rdTag l k).2.1 = 0) (h2 : (rdLen l (rdTag l k).2.2).2.1 = 0) : rdHead l k = ((rdTag l k).1, (rdLen l (rdTag l k).2.2).1, 0, (rdLen l (rdTag l k).2.2).2.2) := by
  unfold rdHead
  rw [if_pos h, if_pos h2]
theorem rdHead_err {l : List UInt8} {k : Nat} (h : (rdHead l k).2.2.1 ≠ 0) : rdHead l k = (.zero, 0, (rdHead l k).2.2.1, k) := by
  unfold rdHead at *
  split
  · split
    · rename_i h1 h2
      rw [if_pos h1, if_pos h2] at h
      simp at h
    · rfl
  · rfl
set_option maxHeartbeats 4000000 in
theorem read1_any (w0 : World) (M : List Ent) (b q : Nat) (l : List UInt8) (k : Nat) (v : Value) (hk : k ≤ l.length) (hl : l.length ≤ 1000000) (hB : CurB w0 (.blk q #[.pointer (some ⟨b, 0, none⟩)] 92 :: M) b v l) (w : World) (H : Hp w0 (.blk b #[v, .int .i64 (k : Int)] 112 :: .blk q #[.pointer (some ⟨b, 0, none⟩)] 92 :: M) w) :
    Calls Try.prog 75 #[.pointer (some ⟨q, 0, none⟩)] w (FrontRaw w0 (.blk q #[.pointer (some ⟨b, 0, none⟩)] 92 :: M) b v l k (rdHead l k)) := by
  have C := Hp.facts H
  simp only [Facts, factsL, and_true, true_and, List.set_cons_zero, List.set_cons_succ, List.setIfInBounds_toArray] at C
  have hT := rdTag_le hk
  have hH1 := @rdHead_tag l k
  have hH2 := @rdHead_len l k
  have hH3 := @rdHead_ok l k
  have hE := @rdTag_err l k
  go_enter Try.func75, Try.ntmps75
  (repeat' ((fail_if_success (with_reducible show bodyPost _ _ _ _ _ _)); first | ((with_reducible refine Hp.abs_alloc H ?_); intro b' w' H' hb'; (try simp only [hb']); clear hb'; ((try simp only [List.set_cons_zero, List.set_cons_succ, List.setIfInBounds_toArray] at H'); clear C H; have H := H'; clear H'; have C := Hp.facts H; simp only [Facts, factsL, and_true, true_and, List.set_cons_zero, List.set_cons_succ, List.setIfInBounds_toArray] at C)) | ((with_reducible show wpList _ _ _ _ _ (World.setCell _ _ _)); (with_reducible apply Hp.abs_gen H); (first | ((repeat (with_reducible apply Hp.set' 0)); (with_reducible exact H); (repeat rfl); intro w' H') | ((repeat (with_reducible apply Hp.set' 1)); (with_reducible exact H); (repeat rfl); intro w' H') | ((repeat (with_reducible apply Hp.set' 2)); (with_reducible exact H); (repeat rfl); intro w' H') | ((repeat (with_reducible apply Hp.set' 3)); (with_reducible exact H); (repeat rfl); intro w' H') | ((repeat (with_reducible apply Hp.set' 4)); (with_reducible exact H); (repeat rfl); intro w' H') | ((repeat (with_reducible apply Hp.set' 5)); (with_reducible exact H); (repeat rfl); intro w' H') | ((repeat (with_reducible apply Hp.set' 6)); (with_reducible exact H); (repeat rfl); intro w' H') | ((repeat (with_reducible apply Hp.set' 7)); (with_reducible exact H); (repeat rfl); intro w' H')); ((try simp only [List.set_cons_zero, List.set_cons_succ, List.setIfInBounds_toArray] at H'); clear C H; have H := H'; clear H'; have C := Hp.facts H; simp only [Facts, factsL, and_true, true_and, List.set_cons_zero, List.set_cons_succ, List.setIfInBounds_toArray] at C)) | go_values | go_skip | go_guarded | go_step | go_upon | go_back | (simp only [Int.not_lt, Int.not_le] at *; go_simp) | (go_values <;> (try go_simp)) | (go_ite <;> go_prune <;> (try go_simp)) | (split <;> (first | (rename_i hx; exact (hx _ rfl).elim) | go_prune))))
  refine (readTag_any b l k v _ (curF H.tail hB hk hl)).mono ?_
  rintro e' w1 ⟨rfl, mm⟩
  generalize rdTag l k = R at *
  obtain ⟨⟨c, n, m⟩, er, p⟩ := R
  simp only at hT hH1 hH2 hH3 hE mm ⊢
  have H' := moved_hp H 1 rfl mm
  clear mm
  ((try simp only [List.set_cons_zero, List.set_cons_succ, List.setIfInBounds_toArray] at H'); clear C H; have H := H'; clear H'; have C := Hp.facts H; simp only [Facts, factsL, and_true, true_and, List.set_cons_zero, List.set_cons_succ, List.setIfInBounds_toArray] at C)
  by_cases h0 : er = 0
  · subst h0
    clear hH1 hE
    have hL := rdLen_le hT.1
    have hH2 := hH2 rfl
    have hH3 := hH3 rfl
    have hLe := @rdLen_err l p
    (repeat' ((fail_if_success (with_reducible show bodyPost _ _ _ _ _ _)); first | ((with_reducible refine Hp.abs_alloc H ?_); intro b' w' H' hb'; (try simp only [hb']); clear hb'; ((try simp only [List.set_cons_zero, List.set_cons_succ, List.setIfInBounds_toArray] at H'); clear C H; have H := H'; clear H'; have C := Hp.facts H; simp only [Facts, factsL, and_true, true_and, List.set_cons_zero, List.set_cons_succ, List.setIfInBounds_toArray] at C)) | ((with_reducible show wpList _ _ _ _ _ (World.setCell _ _ _)); (with_reducible apply Hp.abs_gen H); (first | ((repeat (with_reducible apply Hp.set' 0)); (with_reducible exact H); (repeat rfl); intro w' H') | ((repeat (with_reducible apply Hp.set' 1)); (with_reducible exact H); (repeat rfl); intro w' H') | ((repeat (with_reducible apply Hp.set' 2)); (with_reducible exact H); (repeat rfl); intro w' H') | ((repeat (with_reducible apply Hp.set' 3)); (with_reducible exact H); (repeat rfl); intro w' H') | ((repeat (with_reducible apply Hp.set' 4)); (with_reducible exact H); (repeat rfl); intro w' H') | ((repeat (with_reducible apply Hp.set' 5)); (with_reducible exact H); (repeat rfl); intro w' H') | ((repeat (with_reducible apply Hp.set' 6)); (with_reducible exact H); (repeat rfl); intro w' H') | ((repeat (with_reducible apply Hp.set' 7)); (with_reducible exact H); (repeat rfl); intro w' H')); ((try simp only [List.set_cons_zero, List.set_cons_succ, List.setIfInBounds_toArray] at H'); clear C H; have H := H'; clear H'; have C := Hp.facts H; simp only [Facts, factsL, and_true, true_and, List.set_cons_zero, List.set_cons_succ, List.setIfInBounds_toArray] at C)) | go_values | go_skip | go_guarded | go_step | go_upon | go_back | (simp only [Int.not_lt, Int.not_le] at *; go_simp) | (go_values <;> (try go_simp)) | (go_ite <;> go_prune <;> (try go_simp)) | (split <;> (first | (rename_i hx; exact (hx _ rfl).elim) | go_prune))))
    refine (readLen_any b l p v _ (curF H.tail.tail hB hT.1 hl)).mono ?_
    rintro e' w2 ⟨rfl, mm⟩
    generalize rdLen l p = S at *
    obtain ⟨z, es, p2⟩ := S
    simp only at hL hH2 hH3 hLe mm ⊢
    have H' := moved_hp H 2 rfl mm
    clear mm
    ((try simp only [List.set_cons_zero, List.set_cons_succ, List.setIfInBounds_toArray] at H'); clear C H; have H := H'; clear H'; have C := Hp.facts H; simp only [Facts, factsL, and_true, true_and, List.set_cons_zero, List.set_cons_succ, List.setIfInBounds_toArray] at C)
    have hs : es = 0 ∨ es ≠ 0 := by omega
    have gH2 := Lib.hid hH2
    have gH3 := Lib.hid hH3
    clear hH2 hH3 hLe
    (repeat' ((fail_if_success (with_reducible show bodyPost _ _ _ _ _ _)); first | ((with_reducible refine Hp.abs_alloc H ?_); intro b' w' H' hb'; (try simp only [hb']); clear hb'; ((try simp only [List.set_cons_zero, List.set_cons_succ, List.setIfInBounds_toArray] at H'); clear C H; have H := H'; clear H'; have C := Hp.facts H; simp only [Facts, factsL, and_true, true_and, List.set_cons_zero, List.set_cons_succ, List.setIfInBounds_toArray] at C)) | ((with_reducible show wpList _ _ _ _ _ (World.setCell _ _ _)); (with_reducible apply Hp.abs_gen H); (first | ((repeat (with_reducible apply Hp.set' 0)); (with_reducible exact H); (repeat rfl); intro w' H') | ((repeat (with_reducible apply Hp.set' 1)); (with_reducible exact H); (repeat rfl); intro w' H') | ((repeat (with_reducible apply Hp.set' 2)); (with_reducible exact H); (repeat rfl); intro w' H') | ((repeat (with_reducible apply Hp.set' 3)); (with_reducible exact H); (repeat rfl); intro w' H') | ((repeat (with_reducible apply Hp.set' 4)); (with_reducible exact H); (repeat rfl); intro w' H') | ((repeat (with_reducible apply Hp.set' 5)); (with_reducible exact H); (repeat rfl); intro w' H') | ((repeat (with_reducible apply Hp.set' 6)); (with_reducible exact H); (repeat rfl); intro w' H') | ((repeat (with_reducible apply Hp.set' 7)); (with_reducible exact H); (repeat rfl); intro w' H')); ((try simp only [List.set_cons_zero, List.set_cons_succ, List.setIfInBounds_toArray] at H'); clear C H; have H := H'; clear H'; have C := Hp.facts H; simp only [Facts, factsL, and_true, true_and, List.set_cons_zero, List.set_cons_succ, List.setIfInBounds_toArray] at C)) | go_values | go_skip | go_guarded | go_step | go_upon | go_back | (simp only [Int.not_lt, Int.not_le] at *; go_simp) | (go_values <;> (try go_simp)) | (go_ite <;> go_prune <;> (try go_simp)) | (split <;> (first | (rename_i hx; exact (hx _ rfl).elim) | go_prune))))
    refine bodyPost_ret (v := .tuple #[.agg #[.int .i64 c, .int .i64 n, .bool m, .int .i64 z], .int .i64 es]) (by simp [results, go_sem, C]) rfl ?_
    by_cases h1 : es = 0
    · subst h1
      have g := gH3.out
      simp only [true_implies, forall_const] at g
      rw [g]
      exact ⟨_, _, _, _, p2, rfl, by omega, hL.1, fun _ => ⟨rfl, rfl, rfl⟩, H.tail.tail⟩
    · have g := gH2.out
      simp only [true_implies, forall_const, ne_eq, h1, not_false_eq_true] at g
      rw [g]
      exact ⟨_, _, _, _, p2, rfl, by omega, hL.1, fun h => absurd h h1, H.tail.tail⟩
  · have hH1 := Lib.hid (hH1 h0)
    have e0 : ((er : Int) != 0) = true := by simp; omega
    clear hH2 hH3 hE
    (repeat' ((fail_if_success (with_reducible show bodyPost _ _ _ _ _ _)); first | ((with_reducible refine Hp.abs_alloc H ?_); intro b' w' H' hb'; (try simp only [hb']); clear hb'; ((try simp only [List.set_cons_zero, List.set_cons_succ, List.setIfInBounds_toArray] at H'); clear C H; have H := H'; clear H'; have C := Hp.facts H; simp only [Facts, factsL, and_true, true_and, List.set_cons_zero, List.set_cons_succ, List.setIfInBounds_toArray] at C)) | ((with_reducible show wpList _ _ _ _ _ (World.setCell _ _ _)); (with_reducible apply Hp.abs_gen H); (first | ((repeat (with_reducible apply Hp.set' 0)); (with_reducible exact H); (repeat rfl); intro w' H') | ((repeat (with_reducible apply Hp.set' 1)); (with_reducible exact H); (repeat rfl); intro w' H') | ((repeat (with_reducible apply Hp.set' 2)); (with_reducible exact H); (repeat rfl); intro w' H') | ((repeat (with_reducible apply Hp.set' 3)); (with_reducible exact H); (repeat rfl); intro w' H') | ((repeat (with_reducible apply Hp.set' 4)); (with_reducible exact H); (repeat rfl); intro w' H') | ((repeat (with_reducible apply Hp.set' 5)); (with_reducible exact H); (repeat rfl); intro w' H') | ((repeat (with_reducible apply Hp.set' 6)); (with_reducible exact H); (repeat rfl); intro w' H') | ((repeat (with_reducible apply Hp.set' 7)); (with_reducible exact H); (repeat rfl); intro w' H')); ((try simp only [List.set_cons_zero, List.set_cons_succ, List.setIfInBounds_toArray] at H'); clear C H; have H := H'; clear H'; have C := Hp.facts H; simp only [Facts, factsL, and_true, true_and, List.set_cons_zero, List.set_cons_succ, List.setIfInBounds_toArray] at C)) | go_values | go_skip | go_guarded | go_step | go_upon | go_back | (simp only [Int.not_lt, Int.not_le] at *; go_simp) | (go_values <;> (try go_simp)) | (go_ite <;> go_prune <;> (try go_simp)) | (split <;> (first | (rename_i hx; exact (hx _ rfl).elim) | go_prune))))
    refine bodyPost_ret (v := .tuple #[.agg #[.int .i64 0, .int .i64 0, .bool false, .int .i64 0], .int .i64 er]) (by simp [results, go_sem, C]) rfl ?_
    rw [hH1.out]
    exact ⟨_, _, _, _, p, rfl, by omega, hT.1, fun h => absurd h h0, H.tail.tail⟩
def FrontRes (w0 : World) (M : List Ent) (b : Nat) (v : Value) (R : Tg × Nat × Nat × Nat) (e : Ending) (w' : World) : Prop :=
  e = .returned (.tuple #[.agg #[.int .i64 R.1.c, .int .i64 R.1.n, .bool R.1.m, .int .i64 (R.2.1 : Int)], .int .i64 (R.2.2.1 : Int)]) ∧ Hp w0 (.blk b #[v, .int .i64 (R.2.2.2 : Int)] 112 :: M) w'
def FrontOut (w : World) (b : Nat) (v : Value) (R : Tg × Nat × Nat × Nat) (e : Ending) (w' : World) : Prop :=
  e = .returned (.tuple #[.agg #[.int .i64 R.1.c, .int .i64 R.1.n, .bool R.1.m, .int .i64 (R.2.1 : Int)], .int .i64 (R.2.2.1 : Int)]) ∧ Moved w b v R.2.2.2 w'
def HeadOut (w : World) (b : Nat) (v : Value) (R : Tg × Nat × Nat × Nat) (e : Ending) (w' : World) : Prop :=
  e = .returned (.tuple #[.agg #[.int .i64 R.1.c, .int .i64 R.1.n, .bool R.1.m], .int .i64 (R.2.1 : Int), .int .i64 (R.2.2.1 : Int)]) ∧ Moved w b v R.2.2.2 w'
set_option maxHeartbeats 4000000 in
theorem kept_front (w0 : World) (M : List Ent) (b q : Nat) (l : List UInt8) (k : Nat) (v : Value) (hk : k ≤ l.length) (hl : l.length ≤ 1000000) (hB : CurB w0 (.blk q #[.pointer (some ⟨b, 0, none⟩)] 92 :: M) b v l) (w : World) (H : Hp w0 (.blk b #[v, .int .i64 (k : Int)] 112 :: .blk q #[.pointer (some ⟨b, 0, none⟩)] 92 :: M) w) :
    Calls Try.prog 74 #[.pointer (some ⟨b, 0, none⟩), .func (.func 75) #[] #[.pointer (some ⟨q, 0, none⟩)]] w (FrontRes w0 (.blk q #[.pointer (some ⟨b, 0, none⟩)] 92 :: M) b v (rdHead l k)) := by
  have C := Hp.facts H
  simp only [Facts, factsL, and_true, true_and, List.set_cons_zero, List.set_cons_succ, List.setIfInBounds_toArray] at C
  go_enter Try.func74, Try.ntmps74
  (repeat' ((fail_if_success (with_reducible show bodyPost _ _ _ _ _ _)); first | ((with_reducible refine Hp.abs_alloc H ?_); intro b' w' H' hb'; (try simp only [hb']); clear hb'; ((try simp only [List.set_cons_zero, List.set_cons_succ, List.setIfInBounds_toArray] at H'); clear C H; have H := H'; clear H'; have C := Hp.facts H; simp only [Facts, factsL, and_true, true_and, List.set_cons_zero, List.set_cons_succ, List.setIfInBounds_toArray] at C)) | ((with_reducible show wpList _ _ _ _ _ (World.setCell _ _ _)); (with_reducible apply Hp.abs_gen H); (first | ((repeat (with_reducible apply Hp.set' 0)); (with_reducible exact H); (repeat rfl); intro w' H') | ((repeat (with_reducible apply Hp.set' 1)); (with_reducible exact H); (repeat rfl); intro w' H') | ((repeat (with_reducible apply Hp.set' 2)); (with_reducible exact H); (repeat rfl); intro w' H') | ((repeat (with_reducible apply Hp.set' 3)); (with_reducible exact H); (repeat rfl); intro w' H') | ((repeat (with_reducible apply Hp.set' 4)); (with_reducible exact H); (repeat rfl); intro w' H') | ((repeat (with_reducible apply Hp.set' 5)); (with_reducible exact H); (repeat rfl); intro w' H') | ((repeat (with_reducible apply Hp.set' 6)); (with_reducible exact H); (repeat rfl); intro w' H') | ((repeat (with_reducible apply Hp.set' 7)); (with_reducible exact H); (repeat rfl); intro w' H')); ((try simp only [List.set_cons_zero, List.set_cons_succ, List.setIfInBounds_toArray] at H'); clear C H; have H := H'; clear H'; have C := Hp.facts H; simp only [Facts, factsL, and_true, true_and, List.set_cons_zero, List.set_cons_succ, List.setIfInBounds_toArray] at C)) | (go_at_call 61; refine (at_any b l k v _ (curF H.tail hB hk hl)).mono ?_; rintro e' w' ⟨rfl, hb'⟩; (have H' := Hp.step H hb'; clear hb'; ((try simp only [List.set_cons_zero, List.set_cons_succ, List.setIfInBounds_toArray] at H'); clear C H; have H := H'; clear H'; have C := Hp.facts H; simp only [Facts, factsL, and_true, true_and, List.set_cons_zero, List.set_cons_succ, List.setIfInBounds_toArray] at C))) | go_values | go_skip | go_guarded | go_step | go_upon | go_back | (simp only [Int.not_lt, Int.not_le] at *; go_simp) | (go_values <;> (try go_simp)) | (go_ite <;> go_prune <;> (try go_simp)) | (split <;> (first | (rename_i hx; exact (hx _ rfl).elim) | go_prune))))
  (have H' := Hp.front H 2 rfl; simp only [List.eraseIdx_cons_zero, List.eraseIdx_cons_succ] at H'; ((try simp only [List.set_cons_zero, List.set_cons_succ, List.setIfInBounds_toArray] at H'); clear C H; have H := H'; clear H'; have C := Hp.facts H; simp only [Facts, factsL, and_true, true_and, List.set_cons_zero, List.set_cons_succ, List.setIfInBounds_toArray] at C))
  (have H' := Hp.front H 2 rfl; simp only [List.eraseIdx_cons_zero, List.eraseIdx_cons_succ] at H'; ((try simp only [List.set_cons_zero, List.set_cons_succ, List.setIfInBounds_toArray] at H'); clear C H; have H := H'; clear H'; have C := Hp.facts H; simp only [Facts, factsL, and_true, true_and, List.set_cons_zero, List.set_cons_succ, List.setIfInBounds_toArray] at C))
  refine (read1_any w0 _ b q l k v hk hl hB.more _ H).mono ?_
  rintro e' w1 ⟨c, n, m, z, p, rfl, hkp, hpl, hz, H'⟩
  clear H C
  have H := H'
  clear H'
  have C := Hp.facts H
  simp only [Facts, factsL, and_true, true_and, List.set_cons_zero, List.set_cons_succ, List.setIfInBounds_toArray] at C
  have hE := @rdHead_err l k
  generalize rdHead l k = R at *
  obtain ⟨⟨t1, t2, t3⟩, t4, er, p2⟩ := R
  simp only at hz hE ⊢
  by_cases h0 : er = 0
  · obtain ⟨h1, rfl, rfl⟩ := hz h0
    injection h1 with a1 a2 a3
    subst h0 a1 a2 a3
    clear hz hE
    (repeat' ((fail_if_success (with_reducible show bodyPost _ _ _ _ _ _)); first | ((with_reducible refine Hp.abs_alloc H ?_); intro b' w' H' hb'; (try simp only [hb']); clear hb'; ((try simp only [List.set_cons_zero, List.set_cons_succ, List.setIfInBounds_toArray] at H'); clear C H; have H := H'; clear H'; have C := Hp.facts H; simp only [Facts, factsL, and_true, true_and, List.set_cons_zero, List.set_cons_succ, List.setIfInBounds_toArray] at C)) | ((with_reducible show wpList _ _ _ _ _ (World.setCell _ _ _)); (with_reducible apply Hp.abs_gen H); (first | ((repeat (with_reducible apply Hp.set' 0)); (with_reducible exact H); (repeat rfl); intro w' H') | ((repeat (with_reducible apply Hp.set' 1)); (with_reducible exact H); (repeat rfl); intro w' H') | ((repeat (with_reducible apply Hp.set' 2)); (with_reducible exact H); (repeat rfl); intro w' H') | ((repeat (with_reducible apply Hp.set' 3)); (with_reducible exact H); (repeat rfl); intro w' H') | ((repeat (with_reducible apply Hp.set' 4)); (with_reducible exact H); (repeat rfl); intro w' H') | ((repeat (with_reducible apply Hp.set' 5)); (with_reducible exact H); (repeat rfl); intro w' H') | ((repeat (with_reducible apply Hp.set' 6)); (with_reducible exact H); (repeat rfl); intro w' H') | ((repeat (with_reducible apply Hp.set' 7)); (with_reducible exact H); (repeat rfl); intro w' H')); ((try simp only [List.set_cons_zero, List.set_cons_succ, List.setIfInBounds_toArray] at H'); clear C H; have H := H'; clear H'; have C := Hp.facts H; simp only [Facts, factsL, and_true, true_and, List.set_cons_zero, List.set_cons_succ, List.setIfInBounds_toArray] at C)) | go_values | go_skip | go_guarded | go_step | go_upon | go_back | (simp only [Int.not_lt, Int.not_le] at *; go_simp) | (go_values <;> (try go_simp)) | (go_ite <;> go_prune <;> (try go_simp)) | (split <;> (first | (rename_i hx; exact (hx _ rfl).elim) | go_prune))))
    refine bodyPost_ret (v := .tuple #[.agg #[.int .i64 c, .int .i64 n, .bool m, .int .i64 t4], .int .i64 0]) (by simp [results, go_sem, C]) rfl ?_
    exact ⟨rfl, H.tail.no2⟩
  · have hE := hE h0
    injection hE with a1 a2
    injection a1 with a1 a3 a4
    injection a2 with a5 a6
    injection a6 with a6 a7
    subst a1 a3 a4 a5 a7
    have e0 : ((er : Int) != 0) = true := by simp; omega
    clear hz a6
    (repeat' ((fail_if_success (with_reducible show bodyPost _ _ _ _ _ _)); first | ((with_reducible refine Hp.abs_alloc H ?_); intro b' w' H' hb'; (try simp only [hb']); clear hb'; ((try simp only [List.set_cons_zero, List.set_cons_succ, List.setIfInBounds_toArray] at H'); clear C H; have H := H'; clear H'; have C := Hp.facts H; simp only [Facts, factsL, and_true, true_and, List.set_cons_zero, List.set_cons_succ, List.setIfInBounds_toArray] at C)) | ((with_reducible show wpList _ _ _ _ _ (World.setCell _ _ _)); (with_reducible apply Hp.abs_gen H); (first | ((repeat (with_reducible apply Hp.set' 0)); (with_reducible exact H); (repeat rfl); intro w' H') | ((repeat (with_reducible apply Hp.set' 1)); (with_reducible exact H); (repeat rfl); intro w' H') | ((repeat (with_reducible apply Hp.set' 2)); (with_reducible exact H); (repeat rfl); intro w' H') | ((repeat (with_reducible apply Hp.set' 3)); (with_reducible exact H); (repeat rfl); intro w' H') | ((repeat (with_reducible apply Hp.set' 4)); (with_reducible exact H); (repeat rfl); intro w' H') | ((repeat (with_reducible apply Hp.set' 5)); (with_reducible exact H); (repeat rfl); intro w' H') | ((repeat (with_reducible apply Hp.set' 6)); (with_reducible exact H); (repeat rfl); intro w' H') | ((repeat (with_reducible apply Hp.set' 7)); (with_reducible exact H); (repeat rfl); intro w' H')); ((try simp only [List.set_cons_zero, List.set_cons_succ, List.setIfInBounds_toArray] at H'); clear C H; have H := H'; clear H'; have C := Hp.facts H; simp only [Facts, factsL, and_true, true_and, List.set_cons_zero, List.set_cons_succ, List.setIfInBounds_toArray] at C)) | go_values | go_skip | go_guarded | go_step | go_upon | go_back | (simp only [Int.not_lt, Int.not_le] at *; go_simp) | (go_values <;> (try go_simp)) | (go_ite <;> go_prune <;> (try go_simp)) | (split <;> (first | (rename_i hx; exact (hx _ rfl).elim) | go_prune))))
    refine (back_yes b l p v p2 hkp _ (curF H.tail.tail hB.more hpl hl)).mono ?_
    rintro e' w2 ⟨rfl, mm⟩
    have H' := moved_hp H 2 rfl mm
    clear mm
    ((try simp only [List.set_cons_zero, List.set_cons_succ, List.setIfInBounds_toArray] at H'); clear C H; have H := H'; clear H'; have C := Hp.facts H; simp only [Facts, factsL, and_true, true_and, List.set_cons_zero, List.set_cons_succ, List.setIfInBounds_toArray] at C)
    (repeat' ((fail_if_success (with_reducible show bodyPost _ _ _ _ _ _)); first | ((with_reducible refine Hp.abs_alloc H ?_); intro b' w' H' hb'; (try simp only [hb']); clear hb'; ((try simp only [List.set_cons_zero, List.set_cons_succ, List.setIfInBounds_toArray] at H'); clear C H; have H := H'; clear H'; have C := Hp.facts H; simp only [Facts, factsL, and_true, true_and, List.set_cons_zero, List.set_cons_succ, List.setIfInBounds_toArray] at C)) | ((with_reducible show wpList _ _ _ _ _ (World.setCell _ _ _)); (with_reducible apply Hp.abs_gen H); (first | ((repeat (with_reducible apply Hp.set' 0)); (with_reducible exact H); (repeat rfl); intro w' H') | ((repeat (with_reducible apply Hp.set' 1)); (with_reducible exact H); (repeat rfl); intro w' H') | ((repeat (with_reducible apply Hp.set' 2)); (with_reducible exact H); (repeat rfl); intro w' H') | ((repeat (with_reducible apply Hp.set' 3)); (with_reducible exact H); (repeat rfl); intro w' H') | ((repeat (with_reducible apply Hp.set' 4)); (with_reducible exact H); (repeat rfl); intro w' H') | ((repeat (with_reducible apply Hp.set' 5)); (with_reducible exact H); (repeat rfl); intro w' H') | ((repeat (with_reducible apply Hp.set' 6)); (with_reducible exact H); (repeat rfl); intro w' H') | ((repeat (with_reducible apply Hp.set' 7)); (with_reducible exact H); (repeat rfl); intro w' H')); ((try simp only [List.set_cons_zero, List.set_cons_succ, List.setIfInBounds_toArray] at H'); clear C H; have H := H'; clear H'; have C := Hp.facts H; simp only [Facts, factsL, and_true, true_and, List.set_cons_zero, List.set_cons_succ, List.setIfInBounds_toArray] at C)) | go_values | go_skip | go_guarded | go_step | go_upon | go_back | (simp only [Int.not_lt, Int.not_le] at *; go_simp) | (go_values <;> (try go_simp)) | (go_ite <;> go_prune <;> (try go_simp)) | (split <;> (first | (rename_i hx; exact (hx _ rfl).elim) | go_prune))))
    refine bodyPost_ret (v := .tuple #[.agg #[.int .i64 0, .int .i64 0, .bool false, .int .i64 0], .int .i64 er]) (by simp [results, go_sem, C]) rfl ?_
    exact ⟨rfl, H.tail.tail.no2⟩
set_option maxHeartbeats 4000000 in
theorem hread_any (b : Nat) (l : List UInt8) (k : Nat) (v : Value) (w : World) (h : Cur w b l k v) :
    Calls Try.prog 69 #[.pointer (some ⟨b, 0, none⟩)] w (FrontOut w b v (rdHead l k)) := by
  have H := Hp.whole h.blk
  have hB := h.curB
  have hk := h.le
  have hl := h.len
  have C := Hp.facts H
  simp only [Facts, factsL, and_true, true_and, List.set_cons_zero, List.set_cons_succ, List.setIfInBounds_toArray] at C
  go_enter Try.func69, Try.ntmps69
  (repeat' ((fail_if_success (with_reducible show bodyPost _ _ _ _ _ _)); first | ((with_reducible refine Hp.abs_alloc H ?_); intro b' w' H' hb'; (try simp only [hb']); clear hb'; ((try simp only [List.set_cons_zero, List.set_cons_succ, List.setIfInBounds_toArray] at H'); clear C H; have H := H'; clear H'; have C := Hp.facts H; simp only [Facts, factsL, and_true, true_and, List.set_cons_zero, List.set_cons_succ, List.setIfInBounds_toArray] at C)) | ((with_reducible show wpList _ _ _ _ _ (World.setCell _ _ _)); (with_reducible apply Hp.abs_gen H); (first | ((repeat (with_reducible apply Hp.set' 0)); (with_reducible exact H); (repeat rfl); intro w' H') | ((repeat (with_reducible apply Hp.set' 1)); (with_reducible exact H); (repeat rfl); intro w' H') | ((repeat (with_reducible apply Hp.set' 2)); (with_reducible exact H); (repeat rfl); intro w' H') | ((repeat (with_reducible apply Hp.set' 3)); (with_reducible exact H); (repeat rfl); intro w' H') | ((repeat (with_reducible apply Hp.set' 4)); (with_reducible exact H); (repeat rfl); intro w' H') | ((repeat (with_reducible apply Hp.set' 5)); (with_reducible exact H); (repeat rfl); intro w' H') | ((repeat (with_reducible apply Hp.set' 6)); (with_reducible exact H); (repeat rfl); intro w' H') | ((repeat (with_reducible apply Hp.set' 7)); (with_reducible exact H); (repeat rfl); intro w' H')); ((try simp only [List.set_cons_zero, List.set_cons_succ, List.setIfInBounds_toArray] at H'); clear C H; have H := H'; clear H'; have C := Hp.facts H; simp only [Facts, factsL, and_true, true_and, List.set_cons_zero, List.set_cons_succ, List.setIfInBounds_toArray] at C)) | go_values | go_skip | go_guarded | go_step | go_upon | go_back | (simp only [Int.not_lt, Int.not_le] at *; go_simp) | (go_values <;> (try go_simp)) | (go_ite <;> go_prune <;> (try go_simp)) | (split <;> (first | (rename_i hx; exact (hx _ rfl).elim) | go_prune))))
  (obtain ⟨q, rfl⟩ := Hp.name H 1 rfl)
  (have H' := Hp.front H 1 rfl; simp only [List.eraseIdx_cons_zero, List.eraseIdx_cons_succ] at H'; ((try simp only [List.set_cons_zero, List.set_cons_succ, List.setIfInBounds_toArray] at H'); clear C H; have H := H'; clear H'; have C := Hp.facts H; simp only [Facts, factsL, and_true, true_and, List.set_cons_zero, List.set_cons_succ, List.setIfInBounds_toArray] at C))
  (have H' := Hp.front H 2 rfl; simp only [List.eraseIdx_cons_zero, List.eraseIdx_cons_succ] at H'; ((try simp only [List.set_cons_zero, List.set_cons_succ, List.setIfInBounds_toArray] at H'); clear C H; have H := H'; clear H'; have C := Hp.facts H; simp only [Facts, factsL, and_true, true_and, List.set_cons_zero, List.set_cons_succ, List.setIfInBounds_toArray] at C))
  refine (kept_front _ _ b q l k v hk hl hB.push.push _ H).mono ?_
  rintro e' w1 ⟨rfl, H'⟩
  clear H C
  have H := H'
  clear H'
  have C := Hp.facts H
  simp only [Facts, factsL, and_true, true_and, List.set_cons_zero, List.set_cons_succ, List.setIfInBounds_toArray] at C
  generalize rdHead l k = R at *
  obtain ⟨⟨t1, t2, t3⟩, t4, er, p⟩ := R
  (repeat' ((fail_if_success (with_reducible show bodyPost _ _ _ _ _ _)); first | ((with_reducible refine Hp.abs_alloc H ?_); intro b' w' H' hb'; (try simp only [hb']); clear hb'; ((try simp only [List.set_cons_zero, List.set_cons_succ, List.setIfInBounds_toArray] at H'); clear C H; have H := H'; clear H'; have C := Hp.facts H; simp only [Facts, factsL, and_true, true_and, List.set_cons_zero, List.set_cons_succ, List.setIfInBounds_toArray] at C)) | ((with_reducible show wpList _ _ _ _ _ (World.setCell _ _ _)); (with_reducible apply Hp.abs_gen H); (first | ((repeat (with_reducible apply Hp.set' 0)); (with_reducible exact H); (repeat rfl); intro w' H') | ((repeat (with_reducible apply Hp.set' 1)); (with_reducible exact H); (repeat rfl); intro w' H') | ((repeat (with_reducible apply Hp.set' 2)); (with_reducible exact H); (repeat rfl); intro w' H') | ((repeat (with_reducible apply Hp.set' 3)); (with_reducible exact H); (repeat rfl); intro w' H') | ((repeat (with_reducible apply Hp.set' 4)); (with_reducible exact H); (repeat rfl); intro w' H') | ((repeat (with_reducible apply Hp.set' 5)); (with_reducible exact H); (repeat rfl); intro w' H') | ((repeat (with_reducible apply Hp.set' 6)); (with_reducible exact H); (repeat rfl); intro w' H') | ((repeat (with_reducible apply Hp.set' 7)); (with_reducible exact H); (repeat rfl); intro w' H')); ((try simp only [List.set_cons_zero, List.set_cons_succ, List.setIfInBounds_toArray] at H'); clear C H; have H := H'; clear H'; have C := Hp.facts H; simp only [Facts, factsL, and_true, true_and, List.set_cons_zero, List.set_cons_succ, List.setIfInBounds_toArray] at C)) | go_values | go_skip | go_guarded | go_step | go_upon | go_back | (simp only [Int.not_lt, Int.not_le] at *; go_simp) | (go_values <;> (try go_simp)) | (go_ite <;> go_prune <;> (try go_simp)) | (split <;> (first | (rename_i hx; exact (hx _ rfl).elim) | go_prune))))
  refine bodyPost_ret (v := .tuple #[.agg #[.int .i64 t1, .int .i64 t2, .bool t3, .int .i64 t4], .int .i64 er]) (by simp [results, go_sem, C]) rfl ?_
  exact ⟨rfl, h.over H.second.second⟩
set_option maxHeartbeats 4000000 in
theorem hRead_any (b : Nat) (l : List UInt8) (k : Nat) (v : Value) (w : World) (h : Cur w b l k v) :
    Calls Try.prog 62 #[.pointer (some ⟨b, 0, none⟩)] w (HeadOut w b v (rdHead l k)) := by
  have H := Hp.whole h.blk
  have hB := h.curB
  have hk := h.le
  have hl := h.len
  have C := Hp.facts H
  simp only [Facts, factsL, and_true, true_and, List.set_cons_zero, List.set_cons_succ, List.setIfInBounds_toArray] at C
  go_enter Try.func62, Try.ntmps62
  (repeat' ((fail_if_success (with_reducible show bodyPost _ _ _ _ _ _)); first | ((with_reducible refine Hp.abs_alloc H ?_); intro b' w' H' hb'; (try simp only [hb']); clear hb'; ((try simp only [List.set_cons_zero, List.set_cons_succ, List.setIfInBounds_toArray] at H'); clear C H; have H := H'; clear H'; have C := Hp.facts H; simp only [Facts, factsL, and_true, true_and, List.set_cons_zero, List.set_cons_succ, List.setIfInBounds_toArray] at C)) | ((with_reducible show wpList _ _ _ _ _ (World.setCell _ _ _)); (with_reducible apply Hp.abs_gen H); (first | ((repeat (with_reducible apply Hp.set' 0)); (with_reducible exact H); (repeat rfl); intro w' H') | ((repeat (with_reducible apply Hp.set' 1)); (with_reducible exact H); (repeat rfl); intro w' H') | ((repeat (with_reducible apply Hp.set' 2)); (with_reducible exact H); (repeat rfl); intro w' H') | ((repeat (with_reducible apply Hp.set' 3)); (with_reducible exact H); (repeat rfl); intro w' H') | ((repeat (with_reducible apply Hp.set' 4)); (with_reducible exact H); (repeat rfl); intro w' H') | ((repeat (with_reducible apply Hp.set' 5)); (with_reducible exact H); (repeat rfl); intro w' H') | ((repeat (with_reducible apply Hp.set' 6)); (with_reducible exact H); (repeat rfl); intro w' H') | ((repeat (with_reducible apply Hp.set' 7)); (with_reducible exact H); (repeat rfl); intro w' H')); ((try simp only [List.set_cons_zero, List.set_cons_succ, List.setIfInBounds_toArray] at H'); clear C H; have H := H'; clear H'; have C := Hp.facts H; simp only [Facts, factsL, and_true, true_and, List.set_cons_zero, List.set_cons_succ, List.setIfInBounds_toArray] at C)) | go_values | go_skip | go_guarded | go_step | go_upon | go_back | (simp only [Int.not_lt, Int.not_le] at *; go_simp) | (go_values <;> (try go_simp)) | (go_ite <;> go_prune <;> (try go_simp)) | (split <;> (first | (rename_i hx; exact (hx _ rfl).elim) | go_prune))))
  refine (hread_any b l k v _ (curF H.tail hB hk hl)).mono ?_
  rintro e' w1 ⟨rfl, mm⟩
  generalize rdHead l k = R at *
  obtain ⟨⟨t1, t2, t3⟩, t4, er, p⟩ := R
  simp only at mm ⊢
  have H' := moved_hp H 1 rfl mm
  clear mm
  ((try simp only [List.set_cons_zero, List.set_cons_succ, List.setIfInBounds_toArray] at H'); clear C H; have H := H'; clear H'; have C := Hp.facts H; simp only [Facts, factsL, and_true, true_and, List.set_cons_zero, List.set_cons_succ, List.setIfInBounds_toArray] at C)
  (repeat' ((fail_if_success (with_reducible show bodyPost _ _ _ _ _ _)); first | ((with_reducible refine Hp.abs_alloc H ?_); intro b' w' H' hb'; (try simp only [hb']); clear hb'; ((try simp only [List.set_cons_zero, List.set_cons_succ, List.setIfInBounds_toArray] at H'); clear C H; have H := H'; clear H'; have C := Hp.facts H; simp only [Facts, factsL, and_true, true_and, List.set_cons_zero, List.set_cons_succ, List.setIfInBounds_toArray] at C)) | ((with_reducible show wpList _ _ _ _ _ (World.setCell _ _ _)); (with_reducible apply Hp.abs_gen H); (first | ((repeat (with_reducible apply Hp.set' 0)); (with_reducible exact H); (repeat rfl); intro w' H') | ((repeat (with_reducible apply Hp.set' 1)); (with_reducible exact H); (repeat rfl); intro w' H') | ((repeat (with_reducible apply Hp.set' 2)); (with_reducible exact H); (repeat rfl); intro w' H') | ((repeat (with_reducible apply Hp.set' 3)); (with_reducible exact H); (repeat rfl); intro w' H') | ((repeat (with_reducible apply Hp.set' 4)); (with_reducible exact H); (repeat rfl); intro w' H') | ((repeat (with_reducible apply Hp.set' 5)); (with_reducible exact H); (repeat rfl); intro w' H') | ((repeat (with_reducible apply Hp.set' 6)); (with_reducible exact H); (repeat rfl); intro w' H') | ((repeat (with_reducible apply Hp.set' 7)); (with_reducible exact H); (repeat rfl); intro w' H')); ((try simp only [List.set_cons_zero, List.set_cons_succ, List.setIfInBounds_toArray] at H'); clear C H; have H := H'; clear H'; have C := Hp.facts H; simp only [Facts, factsL, and_true, true_and, List.set_cons_zero, List.set_cons_succ, List.setIfInBounds_toArray] at C)) | go_values | go_skip | go_guarded | go_step | go_upon | go_back | (simp only [Int.not_lt, Int.not_le] at *; go_simp) | (go_values <;> (try go_simp)) | (go_ite <;> go_prune <;> (try go_simp)) | (split <;> (first | (rename_i hx; exact (hx _ rfl).elim) | go_prune))))
  (obtain ⟨fb, rfl⟩ := Hp.name H 0 rfl; obtain ⟨rb, rfl⟩ := Hp.name H 1 rfl)
  try simp (disch := omega) only [decide_eq_true, decide_eq_false]
  obtain ⟨wR2, rfl⟩ := Hp.nameW H
  apply region_n (frm wR2.heap.size (fun p' => match p' with | 0 => Hp (cutAt w b) (.blk fb #[.int .i64 t1, .int .i64 t2, .bool t3, .int .i64 (t4 : Int)] 122 :: .blk rb #[.int .i64 0, .int .i64 0, .bool false] 38 :: .blk b #[v, .int .i64 (p : Int)] 112 :: above w b) | _ => Hp (cutAt w b) (.blk fb #[.int .i64 t1, .int .i64 t2, .bool t3, .int .i64 (t4 : Int)] 122 :: .blk rb #[.int .i64 t1, .int .i64 t2, .bool t3] 38 :: .blk b #[v, .int .i64 (p : Int)] 112 :: above w b))) (frm_ok ?hfs_1) frm_sz [5] [.light 0 1, .light 0 0, .light 0 1, .light 0 1, .light 0 1, .turns 0, .light 0 1] [false, false, false, false, false, false, false] 7 17 [7, 7, 7, 7, 7, 7, 7] [some 12, some 13, some 14, some 15, some 16, none, some 3] [[], [0], [], [2], [], [1], [3]] [Eq1 _, Eq1 _, Eq1 _, Eq1 _, Eq1 _, Eq1 _, Eq1 _] ?hq1_1 ?hq2_1 ?hq3_1 ?hq4_1 ?hq5_1 ?hq6_1 _ ?hA_1 ?hst_1 ?h0_1 ?hsteps_1 ?hend_1
  case hq1_1 => kernel_rfl
  case hq2_1 => kernel_rfl
  case hq3_1 => kernel_rfl
  case hq5_1 => kernel_rfl
  case hq4_1 => rfl
  case hq6_1 => rfl
  case hA_1 => intro vs; simp only [fillD, Nat.reduceAdd, Act.put, List.setIfInBounds_toArray, List.set_cons_zero, List.set_cons_succ]; rfl
  case h0_1 => exact H.drew
  case hfs_1 => intro p x y hb h; rcases p with _ | _ <;> exact Hp.step h hb
  case hsteps_1 =>
    refine ⟨?_, ?_, ?_, ?_, ?_, ?_, ?_, trivial⟩
    · intro p vs w' K hJ hp1 hp2 hS hR hK
      rw [if_pos (by rfl)]
      go_step
      exact hK.out _ _ (Below.refl _ _) Eq1.mk Fresh.no
    · intro p vs w' K hJ hp1 hp2 hS hR hK
      obtain rfl : p = 0 := by omega
      simp only [DepJ, List.getD_cons_zero, List.getD_cons_succ] at hJ
      obtain ⟨j0, -⟩ := hJ
      have j0 := Eq1.out j0
      simp only [j0] at hK ⊢
      rw [if_pos (by rfl)]
      have C := Hp.facts hS
      simp only [Facts, factsL, and_true, true_and, List.set_cons_zero, List.set_cons_succ, List.setIfInBounds_toArray] at C
      have hsz := hR.1
      go_step
      exact hK.out _ _ (Below.refl _ _) Eq1.mk Fresh.no
    · intro p vs w' K hJ hp1 hp2 hS hR hK
      rw [if_pos (by rfl)]
      go_step
      exact hK.out _ _ (Below.refl _ _) Eq1.mk Fresh.no
    · intro p vs w' K hJ hp1 hp2 hS hR hK
      rcases (by omega : p = 0 ∨ p = 1) with rfl | rfl
      all_goals (
      simp only [DepJ, List.getD_cons_zero, List.getD_cons_succ] at hJ
      obtain ⟨j2, -⟩ := hJ
      have j2 := Eq1.out j2
      simp only [j2] at hK ⊢
      rw [if_pos (by rfl)]
      have C := Hp.facts hS
      simp only [Facts, factsL, and_true, true_and, List.set_cons_zero, List.set_cons_succ, List.setIfInBounds_toArray] at C
      have hsz := hR.1
      go_step
      exact hK.out _ _ (Below.refl _ _) Eq1.mk Fresh.no
      )
    · intro p vs w' K hJ hp1 hp2 hS hR hK
      rw [if_pos (by rfl)]
      go_step
      exact hK.out _ _ (Below.refl _ _) Eq1.mk Fresh.no
    · intro vs w' K hJ hS hR hK
      simp only [DepJ, List.getD_cons_zero, List.getD_cons_succ] at hJ
      obtain ⟨j1, -⟩ := hJ
      have j1 := Eq1.out j1
      simp only [j1] at hK ⊢
      rw [if_pos (by rfl)]
      replace hS : Hp _ _ _ := hS
      have C := Hp.facts hS
      simp only [Facts, factsL, and_true, true_and, List.set_cons_zero, List.set_cons_succ, List.setIfInBounds_toArray] at C
      go_step
      exact hK.out undef _ (AboveR.only ((Only.setCell _ rb 0 _).trans ((Only.setCell _ rb 1 _).trans (Only.setCell _ rb 2 _))) (H.lt 1 rfl)) (((hS.set 1 rfl 0 _).set 1 rfl 1 _).set 1 rfl 2 _) Eq1.mk Fresh.no
    · intro p vs w' K hJ hp1 hp2 hS hR hK
      simp only [DepJ, List.getD_cons_zero, List.getD_cons_succ] at hJ
      obtain ⟨j3, -⟩ := hJ
      have j3 := Eq1.out j3
      simp only [j3] at hK ⊢
      rw [if_pos (by rfl)]
      go_step
      exact hK.out _ _ (Below.refl _ _) Eq1.mk Fresh.no
  case hst_1 => refine ⟨fun _ _ _ _ h => h, fun _ _ _ _ h => h, fun _ _ _ _ h => h, fun _ _ _ _ h => h, fun _ _ _ _ h => h, fun _ _ _ _ h => h, fun _ _ _ _ h => h, trivial⟩
  intro vs w' hJ hD hS hR
  simp only [AllJ, Nat.reduceAdd] at hJ
  obtain ⟨v0, v1, v2, v3, v4, v5, v6, -⟩ := hJ
  clear C
  replace v0 := Eq1.out v0
  replace v1 := Eq1.out v1
  replace v2 := Eq1.out v2
  replace v3 := Eq1.out v3
  replace v4 := Eq1.out v4
  replace v5 := Eq1.out v5
  replace v6 := Eq1.out v6
  simp only [v0, v1, v2, v3, v4, v5, v6, List.drop_succ_cons, List.drop_zero]
  have H' : Hp _ _ _ := hS
  clear hD hR hS v0 v1 v2 v3 v4 v5 v6
  clear vs H
  have H := H'; clear H'; have C := Hp.facts H; simp only [Facts, factsL, and_true, true_and, List.set_cons_zero, List.set_cons_succ, List.setIfInBounds_toArray] at C
  (repeat' ((fail_if_success (with_reducible show bodyPost _ _ _ _ _ _)); first | ((with_reducible refine Hp.abs_alloc H ?_); intro b' w' H' hb'; (try simp only [hb']); clear hb'; ((try simp only [List.set_cons_zero, List.set_cons_succ, List.setIfInBounds_toArray] at H'); clear C H; have H := H'; clear H'; have C := Hp.facts H; simp only [Facts, factsL, and_true, true_and, List.set_cons_zero, List.set_cons_succ, List.setIfInBounds_toArray] at C)) | ((with_reducible show wpList _ _ _ _ _ (World.setCell _ _ _)); (with_reducible apply Hp.abs_gen H); (first | ((repeat (with_reducible apply Hp.set' 0)); (with_reducible exact H); (repeat rfl); intro w' H') | ((repeat (with_reducible apply Hp.set' 1)); (with_reducible exact H); (repeat rfl); intro w' H') | ((repeat (with_reducible apply Hp.set' 2)); (with_reducible exact H); (repeat rfl); intro w' H') | ((repeat (with_reducible apply Hp.set' 3)); (with_reducible exact H); (repeat rfl); intro w' H') | ((repeat (with_reducible apply Hp.set' 4)); (with_reducible exact H); (repeat rfl); intro w' H') | ((repeat (with_reducible apply Hp.set' 5)); (with_reducible exact H); (repeat rfl); intro w' H') | ((repeat (with_reducible apply Hp.set' 6)); (with_reducible exact H); (repeat rfl); intro w' H') | ((repeat (with_reducible apply Hp.set' 7)); (with_reducible exact H); (repeat rfl); intro w' H')); ((try simp only [List.set_cons_zero, List.set_cons_succ, List.setIfInBounds_toArray] at H'); clear C H; have H := H'; clear H'; have C := Hp.facts H; simp only [Facts, factsL, and_true, true_and, List.set_cons_zero, List.set_cons_succ, List.setIfInBounds_toArray] at C)) | go_values | go_skip | go_guarded | go_step | go_upon | go_back | (simp only [Int.not_lt, Int.not_le] at *; go_simp) | (go_values <;> (try go_simp)) | (go_ite <;> go_prune <;> (try go_simp)) | (split <;> (first | (rename_i hx; exact (hx _ rfl).elim) | go_prune))))
  refine bodyPost_ret (v := .tuple #[.agg #[.int .i64 t1, .int .i64 t2, .bool t3], .int .i64 t4, .int .i64 er]) (by simp [results, go_sem, C]) rfl ?_
  exact ⟨rfl, h.over H.tail.tail⟩
end Go.Proofs.Ytogliinfdfkobaa

