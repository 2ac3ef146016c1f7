/- Lemmas and walks on the way to the seat's laws; each theorem says its own conditions. -/
import Derived.Test.YtogliinfdfkobaaDoorH10
set_option linter.unusedSimpArgs false
set_option linter.unusedVariables false
set_option linter.unusedSimpArgs false
set_option linter.unusedVariables false
set_option maxRecDepth 100000
namespace Go.Proofs.YtogliinfdfkobaaDoor
open Go.RowKit Go.Mem Go.Reg Hd Oct
theorem CurB.more {w0 : World} {M : List Ent} {b : Nat} {v : Value} {l : List UInt8} {y z : Ent} (h : CurB w0 (y :: M) b v l) : CurB w0 (y :: z :: M) b v l := fun w1 k1 H => h w1 k1 H.no2
/-- What a reader tells. -/
def TagRes (w0 : World) (M : List Ent) (b : Nat) (v : Value) (R : Tg × Nat × Nat) (e : Ending) (w' : World) : Prop :=
  e = .returned (.tuple #[.agg #[.int .i64 R.1.c, .int .i64 R.1.n, .bool R.1.m], .int .i64 (R.2.1 : Int)]) ∧ Hp w0 (.blk b #[v, .int .i64 (R.2.2 : Int)] 84 :: M) w'
set_option maxHeartbeats 4000000 in
theorem kept_tag (w0 : World) (M : List Ent) (b q : Nat) (l : List UInt8) (k : Nat) (v : Value) (hk : k ≤ l.length) (hl : l.length ≤ 1000000) (hB : CurB w0 (.blk q #[.pointer (some ⟨b, 0, none⟩)] 60 :: M) b v l) (w : World) (H : Hp w0 (.blk b #[v, .int .i64 (k : Int)] 84 :: .blk q #[.pointer (some ⟨b, 0, none⟩)] 60 :: M) w) :
    Calls Tryd.prog 86 #[.pointer (some ⟨b, 0, none⟩), .func (.func 87) #[] #[.pointer (some ⟨q, 0, none⟩)]] w (TagRes w0 (.blk q #[.pointer (some ⟨b, 0, none⟩)] 60 :: M) b v (rdTag l k)) := by
  have C := Hp.facts H
  simp only [Facts, factsL, and_true, true_and, z0, z1, z2] at C
  go_enter Tryd.func86, Tryd.ntmps86
  (repeat' ((fail_if_success (with_reducible show bodyPost _ _ _ _ _ _)); first | ((with_reducible refine Hp.abs_alloc H ?_); intro b' w' H' hb'; (try simp only [hb']); clear hb'; ((try simp only [z0, z1, z2] at H'); clear C H; have H := H'; clear H'; have C := Hp.facts H; simp only [Facts, factsL, and_true, true_and, z0, z1, z2] at C)) | ((with_reducible show wpList _ _ _ _ _ (World.setCell _ _ _)); (with_reducible apply Hp.abs_gen H); (first | ((repeat (with_reducible apply Hp.set' 0)); (with_reducible exact H); (repeat rfl); intro w' H') | ((repeat (with_reducible apply Hp.set' 1)); (with_reducible exact H); (repeat rfl); intro w' H') | ((repeat (with_reducible apply Hp.set' 2)); (with_reducible exact H); (repeat rfl); intro w' H') | ((repeat (with_reducible apply Hp.set' 3)); (with_reducible exact H); (repeat rfl); intro w' H') | ((repeat (with_reducible apply Hp.set' 4)); (with_reducible exact H); (repeat rfl); intro w' H') | ((repeat (with_reducible apply Hp.set' 5)); (with_reducible exact H); (repeat rfl); intro w' H') | ((repeat (with_reducible apply Hp.set' 6)); (with_reducible exact H); (repeat rfl); intro w' H') | ((repeat (with_reducible apply Hp.set' 7)); (with_reducible exact H); (repeat rfl); intro w' H')); ((try simp only [z0, z1, z2] at H'); clear C H; have H := H'; clear H'; have C := Hp.facts H; simp only [Facts, factsL, and_true, true_and, z0, z1, z2] at C)) | (go_at_call 32; refine (at_any b l k v _ (curF H.tail hB hk hl)).mono ?_; rintro e' w' ⟨rfl, hb'⟩; (have H' := Hp.step H hb'; clear hb'; ((try simp only [z0, z1, z2] at H'); clear C H; have H := H'; clear H'; have C := Hp.facts H; simp only [Facts, factsL, and_true, true_and, z0, z1, z2] at C))) | go_values | go_skip | go_guarded | go_step | go_upon | go_back | (simp only [Int.not_lt, Int.not_le] at *; go_simp) | (go_values <;> (try go_simp)) | (go_ite <;> go_prune <;> (try go_simp)) | (split <;> (first | (rename_i hx; exact (hx _ rfl).elim) | go_prune))))
  (have H' := Hp.front H 2 rfl; simp only [List.eraseIdx_cons_zero, List.eraseIdx_cons_succ] at H'; ((try simp only [z0, z1, z2] at H'); clear C H; have H := H'; clear H'; have C := Hp.facts H; simp only [Facts, factsL, and_true, true_and, z0, z1, z2] at C))
  (have H' := Hp.front H 2 rfl; simp only [List.eraseIdx_cons_zero, List.eraseIdx_cons_succ] at H'; ((try simp only [z0, z1, z2] at H'); clear C H; have H := H'; clear H'; have C := Hp.facts H; simp only [Facts, factsL, and_true, true_and, z0, z1, z2] at C))
  refine (tag1_any w0 _ b q l k v hk hl hB.more _ H).mono ?_
  rintro e' w1 ⟨c, n, m, p, rfl, hkp, hpl, hz, H'⟩
  clear H C
  have H := H'
  clear H'
  have C := Hp.facts H
  simp only [Facts, factsL, and_true, true_and, z0, z1, z2] at C
  have hE := @rdTag_err l k
  generalize rdTag l k = R at *
  obtain ⟨⟨t1, t2, t3⟩, er, p2⟩ := R
  simp only at hz hE ⊢
  by_cases h0 : er = 0
  · obtain ⟨h1, rfl⟩ := hz h0
    injection h1 with a1 a2 a3
    subst h0 a1 a2 a3
    clear hz hE
    (repeat' ((fail_if_success (with_reducible show bodyPost _ _ _ _ _ _)); first | ((with_reducible refine Hp.abs_alloc H ?_); intro b' w' H' hb'; (try simp only [hb']); clear hb'; ((try simp only [z0, z1, z2] at H'); clear C H; have H := H'; clear H'; have C := Hp.facts H; simp only [Facts, factsL, and_true, true_and, z0, z1, z2] at C)) | ((with_reducible show wpList _ _ _ _ _ (World.setCell _ _ _)); (with_reducible apply Hp.abs_gen H); (first | ((repeat (with_reducible apply Hp.set' 0)); (with_reducible exact H); (repeat rfl); intro w' H') | ((repeat (with_reducible apply Hp.set' 1)); (with_reducible exact H); (repeat rfl); intro w' H') | ((repeat (with_reducible apply Hp.set' 2)); (with_reducible exact H); (repeat rfl); intro w' H') | ((repeat (with_reducible apply Hp.set' 3)); (with_reducible exact H); (repeat rfl); intro w' H') | ((repeat (with_reducible apply Hp.set' 4)); (with_reducible exact H); (repeat rfl); intro w' H') | ((repeat (with_reducible apply Hp.set' 5)); (with_reducible exact H); (repeat rfl); intro w' H') | ((repeat (with_reducible apply Hp.set' 6)); (with_reducible exact H); (repeat rfl); intro w' H') | ((repeat (with_reducible apply Hp.set' 7)); (with_reducible exact H); (repeat rfl); intro w' H')); ((try simp only [z0, z1, z2] at H'); clear C H; have H := H'; clear H'; have C := Hp.facts H; simp only [Facts, factsL, and_true, true_and, z0, z1, z2] at C)) | go_values | go_skip | go_guarded | go_step | go_upon | go_back | (simp only [Int.not_lt, Int.not_le] at *; go_simp) | (go_values <;> (try go_simp)) | (go_ite <;> go_prune <;> (try go_simp)) | (split <;> (first | (rename_i hx; exact (hx _ rfl).elim) | go_prune))))
    refine bodyPost_ret (v := .tuple #[.agg #[.int .i64 c, .int .i64 n, .bool m], .int .i64 0]) (by simp [results, go_sem, C]) rfl ?_
    exact ⟨rfl, H.tail.no2⟩
  · have hE := hE h0
    injection hE with a1 a2
    injection a1 with a1 a3 a4
    injection a2 with a5 a6
    subst a1 a3 a4 a6
    have e0 : ((er : Int) != 0) = true := by simp; omega
    clear hz a5
    (repeat' ((fail_if_success (with_reducible show bodyPost _ _ _ _ _ _)); first | ((with_reducible refine Hp.abs_alloc H ?_); intro b' w' H' hb'; (try simp only [hb']); clear hb'; ((try simp only [z0, z1, z2] at H'); clear C H; have H := H'; clear H'; have C := Hp.facts H; simp only [Facts, factsL, and_true, true_and, z0, z1, z2] at C)) | ((with_reducible show wpList _ _ _ _ _ (World.setCell _ _ _)); (with_reducible apply Hp.abs_gen H); (first | ((repeat (with_reducible apply Hp.set' 0)); (with_reducible exact H); (repeat rfl); intro w' H') | ((repeat (with_reducible apply Hp.set' 1)); (with_reducible exact H); (repeat rfl); intro w' H') | ((repeat (with_reducible apply Hp.set' 2)); (with_reducible exact H); (repeat rfl); intro w' H') | ((repeat (with_reducible apply Hp.set' 3)); (with_reducible exact H); (repeat rfl); intro w' H') | ((repeat (with_reducible apply Hp.set' 4)); (with_reducible exact H); (repeat rfl); intro w' H') | ((repeat (with_reducible apply Hp.set' 5)); (with_reducible exact H); (repeat rfl); intro w' H') | ((repeat (with_reducible apply Hp.set' 6)); (with_reducible exact H); (repeat rfl); intro w' H') | ((repeat (with_reducible apply Hp.set' 7)); (with_reducible exact H); (repeat rfl); intro w' H')); ((try simp only [z0, z1, z2] at H'); clear C H; have H := H'; clear H'; have C := Hp.facts H; simp only [Facts, factsL, and_true, true_and, z0, z1, z2] at C)) | go_values | go_skip | go_guarded | go_step | go_upon | go_back | (simp only [Int.not_lt, Int.not_le] at *; go_simp) | (go_values <;> (try go_simp)) | (go_ite <;> go_prune <;> (try go_simp)) | (split <;> (first | (rename_i hx; exact (hx _ rfl).elim) | go_prune))))
    refine (back_yes b l p v p2 hkp _ (curF H.tail.tail hB.more hpl hl)).mono ?_
    rintro e' w2 ⟨rfl, mm⟩
    have H' := moved_hp H 2 rfl mm
    clear mm
    ((try simp only [z0, z1, z2] at H'); clear C H; have H := H'; clear H'; have C := Hp.facts H; simp only [Facts, factsL, and_true, true_and, z0, z1, z2] at C)
    (repeat' ((fail_if_success (with_reducible show bodyPost _ _ _ _ _ _)); first | ((with_reducible refine Hp.abs_alloc H ?_); intro b' w' H' hb'; (try simp only [hb']); clear hb'; ((try simp only [z0, z1, z2] at H'); clear C H; have H := H'; clear H'; have C := Hp.facts H; simp only [Facts, factsL, and_true, true_and, z0, z1, z2] at C)) | ((with_reducible show wpList _ _ _ _ _ (World.setCell _ _ _)); (with_reducible apply Hp.abs_gen H); (first | ((repeat (with_reducible apply Hp.set' 0)); (with_reducible exact H); (repeat rfl); intro w' H') | ((repeat (with_reducible apply Hp.set' 1)); (with_reducible exact H); (repeat rfl); intro w' H') | ((repeat (with_reducible apply Hp.set' 2)); (with_reducible exact H); (repeat rfl); intro w' H') | ((repeat (with_reducible apply Hp.set' 3)); (with_reducible exact H); (repeat rfl); intro w' H') | ((repeat (with_reducible apply Hp.set' 4)); (with_reducible exact H); (repeat rfl); intro w' H') | ((repeat (with_reducible apply Hp.set' 5)); (with_reducible exact H); (repeat rfl); intro w' H') | ((repeat (with_reducible apply Hp.set' 6)); (with_reducible exact H); (repeat rfl); intro w' H') | ((repeat (with_reducible apply Hp.set' 7)); (with_reducible exact H); (repeat rfl); intro w' H')); ((try simp only [z0, z1, z2] at H'); clear C H; have H := H'; clear H'; have C := Hp.facts H; simp only [Facts, factsL, and_true, true_and, z0, z1, z2] at C)) | go_values | go_skip | go_guarded | go_step | go_upon | go_back | (simp only [Int.not_lt, Int.not_le] at *; go_simp) | (go_values <;> (try go_simp)) | (go_ite <;> go_prune <;> (try go_simp)) | (split <;> (first | (rename_i hx; exact (hx _ rfl).elim) | go_prune))))
    refine bodyPost_ret (v := .tuple #[.agg #[.int .i64 0, .int .i64 0, .bool false], .int .i64 er]) (by simp [results, go_sem, C]) rfl ?_
    exact ⟨rfl, H.tail.tail.no2⟩
end Go.Proofs.YtogliinfdfkobaaDoor

