/- Lemmas and walks on the way to the seat's laws; each theorem says its own conditions. -/
import Derived.Test.YtogliinfdfkobaaH19
import Derived.Test.YtogliinfdfkobaaLift
import Derived.Test.YtogliinfdfkobaaTreeW
set_option linter.unusedSimpArgs false
set_option linter.unusedVariables false
set_option linter.unusedSimpArgs false
set_option linter.unusedVariables false
set_option maxRecDepth 100000
namespace Go.Proofs.Ytogliinfdfkobaa
open Go.RowKit Go.Mem Go.Reg Hd Go.LawLift Oct
def RHeadOut (w : World) (R : Tg × Nat × Nat × Nat) (e : Ending) (w' : World) : Prop :=
  e = .returned (.tuple #[.agg #[.int .i64 R.1.c, .int .i64 R.1.n, .bool R.1.m], .int .i64 (R.2.1 : Int), .int .i64 (R.2.2.2 : Int), .int .i64 (R.2.2.1 : Int)]) ∧ Below w.heap.size w w'
set_option maxHeartbeats 4000000 in
theorem rHead_any (l : List UInt8) (v : Value) (k : Nat) (hk : k ≤ l.length) (hl : l.length ≤ 1000000) (w : World) (hb : Bs w v l) :
    Calls Try.prog 53 #[v, .int .i64 (k : Int)] w (RHeadOut w (rdHead l k)) := by
  obtain ⟨A, c, hv, -⟩ := hb.open
  have H := Hp.start w
  have C : True := trivial
  have hT := rdTag_le hk
  have hH1 := Lib.hid (@rdHead_tag l k)
  have hH2 := Lib.hid (@rdHead_len l k)
  have hH3 := Lib.hid (@rdHead_ok l k)
  have hrt := fun w hb => rTag_any l v k hk hl w hb
  subst hv
  go_enter Try.func53, Try.ntmps53
  (repeat' ((fail_if_success (with_reducible show bodyPost _ _ _ _ _ _)); first | ((with_reducible refine Hp.abs_alloc H ?_); intro b' w' H' hb'; (try simp only [hb']); clear hb'; ((try simp only [List.set_cons_zero, List.set_cons_succ, List.setIfInBounds_toArray] at H'); clear C H; have H := H'; clear H'; have C := Hp.facts H; simp only [Facts, factsL, and_true, true_and, List.set_cons_zero, List.set_cons_succ, List.setIfInBounds_toArray] at C)) | ((with_reducible show wpList _ _ _ _ _ (World.setCell _ _ _)); (with_reducible apply Hp.abs_gen H); (first | ((repeat (with_reducible apply Hp.set' 0)); (with_reducible exact H); (repeat rfl); intro w' H') | ((repeat (with_reducible apply Hp.set' 1)); (with_reducible exact H); (repeat rfl); intro w' H') | ((repeat (with_reducible apply Hp.set' 2)); (with_reducible exact H); (repeat rfl); intro w' H') | ((repeat (with_reducible apply Hp.set' 3)); (with_reducible exact H); (repeat rfl); intro w' H') | ((repeat (with_reducible apply Hp.set' 4)); (with_reducible exact H); (repeat rfl); intro w' H') | ((repeat (with_reducible apply Hp.set' 5)); (with_reducible exact H); (repeat rfl); intro w' H') | ((repeat (with_reducible apply Hp.set' 6)); (with_reducible exact H); (repeat rfl); intro w' H') | ((repeat (with_reducible apply Hp.set' 7)); (with_reducible exact H); (repeat rfl); intro w' H')); ((try simp only [List.set_cons_zero, List.set_cons_succ, List.setIfInBounds_toArray] at H'); clear C H; have H := H'; clear H'; have C := Hp.facts H; simp only [Facts, factsL, and_true, true_and, List.set_cons_zero, List.set_cons_succ, List.setIfInBounds_toArray] at C)) | go_values | go_skip | go_guarded | go_step | go_upon | go_back | (simp only [Int.not_lt, Int.not_le] at *; go_simp) | (go_values <;> (try go_simp)) | (go_ite <;> go_prune <;> (try go_simp)) | (split <;> (first | (rename_i hx; exact (hx _ rfl).elim) | go_prune))))
  refine (hrt _ (H.bs hb)).mono ?_
  rintro e' w' ⟨rfl, hb'⟩
  (have H' := Hp.step H hb'; clear hb'; ((try simp only [List.set_cons_zero, List.set_cons_succ, List.setIfInBounds_toArray] at H'); clear C H; have H := H'; clear H'; have C := Hp.facts H; simp only [Facts, factsL, and_true, true_and, List.set_cons_zero, List.set_cons_succ, List.setIfInBounds_toArray] at C))
  clear hrt
  generalize rdTag l k = R at *
  obtain ⟨⟨t, n, m⟩, er, p⟩ := R
  simp only at hT hH1 hH2 hH3 ⊢
  by_cases h0 : er = 0
  · subst h0
    have hL := rdLen_le hT.1
    have hrl := fun w hb => rLen_any l (.slice A l.length c) p hT.1 hl w hb
    have gH2 := Lib.hid (hH2.out rfl)
    have gH3 := Lib.hid (hH3.out rfl)
    clear hH1 hH2 hH3
    (repeat' ((fail_if_success (with_reducible show bodyPost _ _ _ _ _ _)); first | ((with_reducible refine Hp.abs_alloc H ?_); intro b' w' H' hb'; (try simp only [hb']); clear hb'; ((try simp only [List.set_cons_zero, List.set_cons_succ, List.setIfInBounds_toArray] at H'); clear C H; have H := H'; clear H'; have C := Hp.facts H; simp only [Facts, factsL, and_true, true_and, List.set_cons_zero, List.set_cons_succ, List.setIfInBounds_toArray] at C)) | ((with_reducible show wpList _ _ _ _ _ (World.setCell _ _ _)); (with_reducible apply Hp.abs_gen H); (first | ((repeat (with_reducible apply Hp.set' 0)); (with_reducible exact H); (repeat rfl); intro w' H') | ((repeat (with_reducible apply Hp.set' 1)); (with_reducible exact H); (repeat rfl); intro w' H') | ((repeat (with_reducible apply Hp.set' 2)); (with_reducible exact H); (repeat rfl); intro w' H') | ((repeat (with_reducible apply Hp.set' 3)); (with_reducible exact H); (repeat rfl); intro w' H') | ((repeat (with_reducible apply Hp.set' 4)); (with_reducible exact H); (repeat rfl); intro w' H') | ((repeat (with_reducible apply Hp.set' 5)); (with_reducible exact H); (repeat rfl); intro w' H') | ((repeat (with_reducible apply Hp.set' 6)); (with_reducible exact H); (repeat rfl); intro w' H') | ((repeat (with_reducible apply Hp.set' 7)); (with_reducible exact H); (repeat rfl); intro w' H')); ((try simp only [List.set_cons_zero, List.set_cons_succ, List.setIfInBounds_toArray] at H'); clear C H; have H := H'; clear H'; have C := Hp.facts H; simp only [Facts, factsL, and_true, true_and, List.set_cons_zero, List.set_cons_succ, List.setIfInBounds_toArray] at C)) | go_values | go_skip | go_guarded | go_step | go_upon | go_back | (simp only [Int.not_lt, Int.not_le] at *; go_simp) | (go_values <;> (try go_simp)) | (go_ite <;> go_prune <;> (try go_simp)) | (split <;> (first | (rename_i hx; exact (hx _ rfl).elim) | go_prune))))
    refine (hrl _ (H.bs hb)).mono ?_
    rintro e' w' ⟨rfl, hb'⟩
    (have H' := Hp.step H hb'; clear hb'; ((try simp only [List.set_cons_zero, List.set_cons_succ, List.setIfInBounds_toArray] at H'); clear C H; have H := H'; clear H'; have C := Hp.facts H; simp only [Facts, factsL, and_true, true_and, List.set_cons_zero, List.set_cons_succ, List.setIfInBounds_toArray] at C))
    clear hrl
    generalize rdLen l p = S at *
    obtain ⟨z, es, p2⟩ := S
    simp only at hL ⊢
    have kH2 := gH2.out
    have kH3 := gH3.out
    clear gH2 gH3
    simp only at kH2 kH3
    by_cases h1 : es = 0
    · subst h1
      have gH3 := Lib.hid (kH3 rfl)
      clear kH2 kH3
      (repeat' ((fail_if_success (with_reducible show bodyPost _ _ _ _ _ _)); first | ((with_reducible refine Hp.abs_alloc H ?_); intro b' w' H' hb'; (try simp only [hb']); clear hb'; ((try simp only [List.set_cons_zero, List.set_cons_succ, List.setIfInBounds_toArray] at H'); clear C H; have H := H'; clear H'; have C := Hp.facts H; simp only [Facts, factsL, and_true, true_and, List.set_cons_zero, List.set_cons_succ, List.setIfInBounds_toArray] at C)) | ((with_reducible show wpList _ _ _ _ _ (World.setCell _ _ _)); (with_reducible apply Hp.abs_gen H); (first | ((repeat (with_reducible apply Hp.set' 0)); (with_reducible exact H); (repeat rfl); intro w' H') | ((repeat (with_reducible apply Hp.set' 1)); (with_reducible exact H); (repeat rfl); intro w' H') | ((repeat (with_reducible apply Hp.set' 2)); (with_reducible exact H); (repeat rfl); intro w' H') | ((repeat (with_reducible apply Hp.set' 3)); (with_reducible exact H); (repeat rfl); intro w' H') | ((repeat (with_reducible apply Hp.set' 4)); (with_reducible exact H); (repeat rfl); intro w' H') | ((repeat (with_reducible apply Hp.set' 5)); (with_reducible exact H); (repeat rfl); intro w' H') | ((repeat (with_reducible apply Hp.set' 6)); (with_reducible exact H); (repeat rfl); intro w' H') | ((repeat (with_reducible apply Hp.set' 7)); (with_reducible exact H); (repeat rfl); intro w' H')); ((try simp only [List.set_cons_zero, List.set_cons_succ, List.setIfInBounds_toArray] at H'); clear C H; have H := H'; clear H'; have C := Hp.facts H; simp only [Facts, factsL, and_true, true_and, List.set_cons_zero, List.set_cons_succ, List.setIfInBounds_toArray] at C)) | go_values | go_skip | go_guarded | go_step | go_upon | go_back | (simp only [Int.not_lt, Int.not_le] at *; go_simp) | (go_values <;> (try go_simp)) | (go_ite <;> go_prune <;> (try go_simp)) | (split <;> (first | (rename_i hx; exact (hx _ rfl).elim) | go_prune))))
      refine bodyPost_ret (v := .tuple #[.agg #[.int .i64 t, .int .i64 n, .bool m], .int .i64 z, .int .i64 p2, .int .i64 0]) (by simp [results, go_sem, C]) rfl ?_
      rw [gH3.out]
      exact ⟨rfl, H.low⟩
    · have e0 : ((es : Int) != 0) = true := by simp; omega
      have gH2 := Lib.hid (kH2 h1)
      clear kH2 kH3
      (repeat' ((fail_if_success (with_reducible show bodyPost _ _ _ _ _ _)); first | ((with_reducible refine Hp.abs_alloc H ?_); intro b' w' H' hb'; (try simp only [hb']); clear hb'; ((try simp only [List.set_cons_zero, List.set_cons_succ, List.setIfInBounds_toArray] at H'); clear C H; have H := H'; clear H'; have C := Hp.facts H; simp only [Facts, factsL, and_true, true_and, List.set_cons_zero, List.set_cons_succ, List.setIfInBounds_toArray] at C)) | ((with_reducible show wpList _ _ _ _ _ (World.setCell _ _ _)); (with_reducible apply Hp.abs_gen H); (first | ((repeat (with_reducible apply Hp.set' 0)); (with_reducible exact H); (repeat rfl); intro w' H') | ((repeat (with_reducible apply Hp.set' 1)); (with_reducible exact H); (repeat rfl); intro w' H') | ((repeat (with_reducible apply Hp.set' 2)); (with_reducible exact H); (repeat rfl); intro w' H') | ((repeat (with_reducible apply Hp.set' 3)); (with_reducible exact H); (repeat rfl); intro w' H') | ((repeat (with_reducible apply Hp.set' 4)); (with_reducible exact H); (repeat rfl); intro w' H') | ((repeat (with_reducible apply Hp.set' 5)); (with_reducible exact H); (repeat rfl); intro w' H') | ((repeat (with_reducible apply Hp.set' 6)); (with_reducible exact H); (repeat rfl); intro w' H') | ((repeat (with_reducible apply Hp.set' 7)); (with_reducible exact H); (repeat rfl); intro w' H')); ((try simp only [List.set_cons_zero, List.set_cons_succ, List.setIfInBounds_toArray] at H'); clear C H; have H := H'; clear H'; have C := Hp.facts H; simp only [Facts, factsL, and_true, true_and, List.set_cons_zero, List.set_cons_succ, List.setIfInBounds_toArray] at C)) | go_values | go_skip | go_guarded | go_step | go_upon | go_back | (simp only [Int.not_lt, Int.not_le] at *; go_simp) | (go_values <;> (try go_simp)) | (go_ite <;> go_prune <;> (try go_simp)) | (split <;> (first | (rename_i hx; exact (hx _ rfl).elim) | go_prune))))
      refine bodyPost_ret (v := .tuple #[.agg #[.int .i64 0, .int .i64 0, .bool false], .int .i64 0, .int .i64 k, .int .i64 es]) (by simp [results, go_sem, C]) rfl ?_
      rw [gH2.out]
      exact ⟨rfl, H.low⟩
  · have e0 : ((er : Int) != 0) = true := by simp; omega
    have gH1 := Lib.hid (hH1.out h0)
    clear hH1 hH2 hH3
    (repeat' ((fail_if_success (with_reducible show bodyPost _ _ _ _ _ _)); first | ((with_reducible refine Hp.abs_alloc H ?_); intro b' w' H' hb'; (try simp only [hb']); clear hb'; ((try simp only [List.set_cons_zero, List.set_cons_succ, List.setIfInBounds_toArray] at H'); clear C H; have H := H'; clear H'; have C := Hp.facts H; simp only [Facts, factsL, and_true, true_and, List.set_cons_zero, List.set_cons_succ, List.setIfInBounds_toArray] at C)) | ((with_reducible show wpList _ _ _ _ _ (World.setCell _ _ _)); (with_reducible apply Hp.abs_gen H); (first | ((repeat (with_reducible apply Hp.set' 0)); (with_reducible exact H); (repeat rfl); intro w' H') | ((repeat (with_reducible apply Hp.set' 1)); (with_reducible exact H); (repeat rfl); intro w' H') | ((repeat (with_reducible apply Hp.set' 2)); (with_reducible exact H); (repeat rfl); intro w' H') | ((repeat (with_reducible apply Hp.set' 3)); (with_reducible exact H); (repeat rfl); intro w' H') | ((repeat (with_reducible apply Hp.set' 4)); (with_reducible exact H); (repeat rfl); intro w' H') | ((repeat (with_reducible apply Hp.set' 5)); (with_reducible exact H); (repeat rfl); intro w' H') | ((repeat (with_reducible apply Hp.set' 6)); (with_reducible exact H); (repeat rfl); intro w' H') | ((repeat (with_reducible apply Hp.set' 7)); (with_reducible exact H); (repeat rfl); intro w' H')); ((try simp only [List.set_cons_zero, List.set_cons_succ, List.setIfInBounds_toArray] at H'); clear C H; have H := H'; clear H'; have C := Hp.facts H; simp only [Facts, factsL, and_true, true_and, List.set_cons_zero, List.set_cons_succ, List.setIfInBounds_toArray] at C)) | go_values | go_skip | go_guarded | go_step | go_upon | go_back | (simp only [Int.not_lt, Int.not_le] at *; go_simp) | (go_values <;> (try go_simp)) | (go_ite <;> go_prune <;> (try go_simp)) | (split <;> (first | (rename_i hx; exact (hx _ rfl).elim) | go_prune))))
    refine bodyPost_ret (v := .tuple #[.agg #[.int .i64 0, .int .i64 0, .bool false], .int .i64 0, .int .i64 k, .int .i64 er]) (by simp [results, go_sem, C]) rfl ?_
    rw [gH1.out]
    exact ⟨rfl, H.low⟩
end Go.Proofs.Ytogliinfdfkobaa

/- What a reader of tags and lengths took in is what a writer puts out. No program in sight. -/
namespace Hd
open Go Go.Mem
end Hd

/- What a writer of tags and lengths put out is what a reader takes in; a part of it is too short. No program in sight. -/
namespace Hd
open Go Go.Mem
/-- The digits that a tag's first byte is followed by. -/
def tailL (n : Int) : List UInt8 := (if 16384 ≤ n then [byteI (128 + n / 16384)] else []) ++ (if 128 ≤ n then [byteI (128 + n / 128 % 128)] else []) ++ [byteI (n % 128)]
/-- A whole over content. -/
def wholeL (t : Tg) (l : List UInt8) : List UInt8 := tagL t ++ lenL (l.length : Nat) ++ l
end Hd

/- Reading a head at a place is reading it behind that place; what is read is what is written. No program in sight. -/
set_option linter.unusedVariables false
namespace Go.Mem
open Go.RowKit Hd
theorem getD_drop (l : List UInt8) (k j : Nat) : (l.drop k)[j]? = l[k + j]? := List.getElem?_drop
theorem numR_drop (l : List UInt8) (k : Nat) : ∀ (f p n : Nat), numR l f (k + p) n = ((numR (l.drop k) f p n).1, (numR (l.drop k) f p n).2.1, k + (numR (l.drop k) f p n).2.2)
  | 0, p, n => by simp [numR]
  | f + 1, p, n => by
    have ih := numR_drop l k f (p + 1)
    rw [numR, numR, getD_drop]
    cases h : l[k + p]? with
    | none => simp
    | some d =>
      simp only []
      split
      · rfl
      · split
        · split <;> rfl
        · rw [Nat.add_assoc, ih]
theorem rdTag_drop (l : List UInt8) (k : Nat) : rdTag l k = ((rdTag (l.drop k) 0).1, (rdTag (l.drop k) 0).2.1, k + (rdTag (l.drop k) 0).2.2) := by
  have h := numR_drop l k 4 1 0
  unfold rdTag
  rw [getD_drop, Nat.add_zero]
  cases hx : l[k]? with
  | none => simp
  | some x =>
    simp only [Nat.zero_add]
    rw [h]
    split
    · rfl
    · split <;> rfl
theorem rdLen_drop (l : List UInt8) (k j : Nat) : rdLen l (k + j) = ((rdLen (l.drop k) j).1, (rdLen (l.drop k) j).2.1, k + (rdLen (l.drop k) j).2.2) := by
  unfold rdLen
  rw [getD_drop]
  cases hx : l[k + j]? with
  | none => simp
  | some x =>
    simp only [List.length_drop, List.drop_drop, getD_drop]
    have e1 : l.length - (k + j + 1) = l.length - k - (j + 1) := by omega
    have e2 : k + j + 1 = k + (j + 1) := by omega
    rw [e1, e2]
    (repeat' split) <;> (simp only [Prod.mk.injEq, true_and]; try omega)
theorem rdHead_drop (l : List UInt8) (k : Nat) : rdHead l k = ((rdHead (l.drop k) 0).1, (rdHead (l.drop k) 0).2.1, (rdHead (l.drop k) 0).2.2.1, k + (rdHead (l.drop k) 0).2.2.2) := by
  unfold rdHead
  rw [rdTag_drop l k]
  simp only [rdLen_drop]
  split
  · split <;> rfl
  · rfl
end Go.Mem

