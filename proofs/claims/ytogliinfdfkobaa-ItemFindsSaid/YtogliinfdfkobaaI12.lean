/- Lemmas and walks on the way to the seat's laws; each theorem says its own conditions. -/
import Derived.Test.YtogliinfdfkobaaI8
set_option linter.unusedSimpArgs false
set_option linter.unusedVariables false
set_option linter.unusedSimpArgs false
set_option linter.unusedVariables false
set_option maxRecDepth 100000
namespace Go.Proofs.Ytogliinfdfkobaa
open Go.RowKit Go.Mem Go.Reg Oct Hd Go.LawLift
set_option maxHeartbeats 3200000 in
theorem same7_any : ∀ n : Nat, SameOk n := by
  intro n
  induction n with
  | zero => intro t cs m u ds w h; exact h.elim
  | succ n ih =>
  intro t cs m u ds w ht hu hct hcu
  obtain ⟨m, rfl⟩ := hu.pos
  obtain ⟨vb, A, c, rfl, hb, hlc, hcm, hA, hk⟩ := ht.open
  obtain ⟨vd, A2, c2, rfl, hd, hlc2, hcm2, hA2, hk2⟩ := hu.open
  have H := Hp.start w
  have C : True := trivial
  have hc1 := t.count_is
  have hc2 := u.count_is
  obtain ⟨⟨tc, tn, tm⟩, bs, ks⟩ := t
  obtain ⟨⟨uc, un, um⟩, bs2, ks2⟩ := u
  simp only [Tree.kids, Tree.tag, Tree.bytes] at *
  have heq := fun w1 (h : Below w.heap.size w w1) => eqf_any n ih m ks ks2 A A2 c c2 w1 (by omega) (by omega)
    (fun j hj => by
      obtain ⟨b, o, e, hl, d0, d1, d2, d3, d4, q0, q1, q2, q3, q4, hh⟩ := hk j hj
      exact ⟨b, o, e, Nat.lt_of_lt_of_le hl h.size, d0, d1, d2, d3, d4, (h.cell hl).trans q0, (h.cell hl).trans q1, (h.cell hl).trans q2, (h.cell hl).trans q3, (h.cell hl).trans q4, hh.step h⟩)
    (fun j hj => by
      obtain ⟨b, o, e, hl, d0, d1, d2, d3, d4, q0, q1, q2, q3, q4, hh⟩ := hk2 j hj
      exact ⟨b, o, e, Nat.lt_of_lt_of_le hl h.size, d0, d1, d2, d3, d4, (h.cell hl).trans q0, (h.cell hl).trans q1, (h.cell hl).trans q2, (h.cell hl).trans q3, (h.cell hl).trans q4, hh.step h⟩)
  have hbe := fun w1 (h : Below w.heap.size w w1) => bequal7_any bs bs2 vb vd w1 (hb.step h) (hd.step h)
  obtain ⟨Bv, cv, rfl⟩ : ∃ Bv cv, vb = .slice Bv bs.length cv := by
    obtain ⟨Bv, cv, e, -⟩ := hb
    exact ⟨Bv, cv, by simpa using e⟩
  obtain ⟨Bw, cw, rfl⟩ : ∃ Bv cv, vd = .slice Bv bs2.length cv := by
    obtain ⟨Bv, cv, e, -⟩ := hd
    exact ⟨Bv, cv, by simpa using e⟩
  rw [show (Tree.mk ⟨tc, tn, tm⟩ bs ks).same (Tree.mk ⟨uc, un, um⟩ bs2 ks2) = (decide ((⟨tc, tn, tm⟩ : Tg) = ⟨uc, un, um⟩) && decide (bs = bs2) && Tree.sames ks ks2) from by rw [Tree.same]]
  clear hb hd hk hk2 ht hu hct hcu hc1 hc2 hcm hcm2 ih
  generalize Tree.sames ks ks2 = sk at *
  generalize gbe : decide (bs = bs2) = be at *
  clear gbe
  generalize ks.length = kl at *
  generalize ks2.length = kl2 at *
  generalize bs.length = bl at *
  generalize bs2.length = bl2 at *
  cases be with
  | true =>
    go_enter Try.func23, Try.ntmps23
    (repeat' ((fail_if_success (with_reducible show bodyPost _ _ _ _ _ _)); first | ((with_reducible refine Hp.abs_alloc H ?_); intro b' w' H' hb'; (try simp only [hb']); clear hb'; ((try simp only [List.set_cons_zero, List.set_cons_succ, List.setIfInBounds_toArray] at H'); clear C H; have H := H'; clear H'; have C := Hp.facts H; simp only [Facts, factsL, and_true, true_and, List.set_cons_zero, List.set_cons_succ, List.setIfInBounds_toArray] at C)) | ((with_reducible show wpList _ _ _ _ _ (World.setCell _ _ _)); (with_reducible apply Hp.abs_gen H); (first | ((repeat (with_reducible apply Hp.set' 0)); (with_reducible exact H); (repeat rfl); intro w' H') | ((repeat (with_reducible apply Hp.set' 1)); (with_reducible exact H); (repeat rfl); intro w' H') | ((repeat (with_reducible apply Hp.set' 2)); (with_reducible exact H); (repeat rfl); intro w' H') | ((repeat (with_reducible apply Hp.set' 3)); (with_reducible exact H); (repeat rfl); intro w' H') | ((repeat (with_reducible apply Hp.set' 4)); (with_reducible exact H); (repeat rfl); intro w' H') | ((repeat (with_reducible apply Hp.set' 5)); (with_reducible exact H); (repeat rfl); intro w' H') | ((repeat (with_reducible apply Hp.set' 6)); (with_reducible exact H); (repeat rfl); intro w' H') | ((repeat (with_reducible apply Hp.set' 7)); (with_reducible exact H); (repeat rfl); intro w' H') | ((repeat (with_reducible apply Hp.set' 8)); (with_reducible exact H); (repeat rfl); intro w' H') | ((repeat (with_reducible apply Hp.set' 9)); (with_reducible exact H); (repeat rfl); intro w' H') | ((repeat (with_reducible apply Hp.set' 10)); (with_reducible exact H); (repeat rfl); intro w' H') | ((repeat (with_reducible apply Hp.set' 11)); (with_reducible exact H); (repeat rfl); intro w' H') | ((repeat (with_reducible apply Hp.set' 12)); (with_reducible exact H); (repeat rfl); intro w' H') | ((repeat (with_reducible apply Hp.set' 13)); (with_reducible exact H); (repeat rfl); intro w' H')); ((try simp only [List.set_cons_zero, List.set_cons_succ, List.setIfInBounds_toArray] at H'); clear C H; have H := H'; clear H'; have C := Hp.facts H; simp only [Facts, factsL, and_true, true_and, List.set_cons_zero, List.set_cons_succ, List.setIfInBounds_toArray] at C)) | (go_at_call 42; refine (hbe _ H.low).mono ?_; rintro e' w' ⟨rfl, hb'⟩; (have H' := Hp.step H hb'; clear hb'; ((try simp only [List.set_cons_zero, List.set_cons_succ, List.setIfInBounds_toArray] at H'); clear C H; have H := H'; clear H'; have C := Hp.facts H; simp only [Facts, factsL, and_true, true_and, List.set_cons_zero, List.set_cons_succ, List.setIfInBounds_toArray] at C))) | (go_at_call 43; refine (heq _ H.low).mono ?_; rintro e' w' ⟨rfl, hb'⟩; (have H' := Hp.step H hb'; clear hb'; ((try simp only [List.set_cons_zero, List.set_cons_succ, List.setIfInBounds_toArray] at H'); clear C H; have H := H'; clear H'; have C := Hp.facts H; simp only [Facts, factsL, and_true, true_and, List.set_cons_zero, List.set_cons_succ, List.setIfInBounds_toArray] at C))) | go_values | go_skip | go_guarded | go_step | go_upon | go_back | (simp only [Int.not_lt, Int.not_le] at *; go_simp) | (go_values <;> (try go_simp)) | (go_ite <;> go_prune <;> (try go_simp)) | (split <;> (first | (rename_i hx; exact (hx _ rfl).elim) | go_prune))))
    all_goals
      go_ret
      refine ⟨ret_bool ?_, H.low⟩
      clear H C hbe heq
      simp_all
  | false =>
    rw [Bool.and_false, Bool.false_and]
    go_enter Try.func23, Try.ntmps23
    (repeat' ((fail_if_success (with_reducible show bodyPost _ _ _ _ _ _)); first | ((with_reducible refine Hp.abs_alloc H ?_); intro b' w' H' hb'; (try simp only [hb']); clear hb'; ((try simp only [List.set_cons_zero, List.set_cons_succ, List.setIfInBounds_toArray] at H'); clear C H; have H := H'; clear H'; have C := Hp.facts H; simp only [Facts, factsL, and_true, true_and, List.set_cons_zero, List.set_cons_succ, List.setIfInBounds_toArray] at C)) | ((with_reducible show wpList _ _ _ _ _ (World.setCell _ _ _)); (with_reducible apply Hp.abs_gen H); (first | ((repeat (with_reducible apply Hp.set' 0)); (with_reducible exact H); (repeat rfl); intro w' H') | ((repeat (with_reducible apply Hp.set' 1)); (with_reducible exact H); (repeat rfl); intro w' H') | ((repeat (with_reducible apply Hp.set' 2)); (with_reducible exact H); (repeat rfl); intro w' H') | ((repeat (with_reducible apply Hp.set' 3)); (with_reducible exact H); (repeat rfl); intro w' H') | ((repeat (with_reducible apply Hp.set' 4)); (with_reducible exact H); (repeat rfl); intro w' H') | ((repeat (with_reducible apply Hp.set' 5)); (with_reducible exact H); (repeat rfl); intro w' H') | ((repeat (with_reducible apply Hp.set' 6)); (with_reducible exact H); (repeat rfl); intro w' H') | ((repeat (with_reducible apply Hp.set' 7)); (with_reducible exact H); (repeat rfl); intro w' H') | ((repeat (with_reducible apply Hp.set' 8)); (with_reducible exact H); (repeat rfl); intro w' H') | ((repeat (with_reducible apply Hp.set' 9)); (with_reducible exact H); (repeat rfl); intro w' H') | ((repeat (with_reducible apply Hp.set' 10)); (with_reducible exact H); (repeat rfl); intro w' H') | ((repeat (with_reducible apply Hp.set' 11)); (with_reducible exact H); (repeat rfl); intro w' H') | ((repeat (with_reducible apply Hp.set' 12)); (with_reducible exact H); (repeat rfl); intro w' H') | ((repeat (with_reducible apply Hp.set' 13)); (with_reducible exact H); (repeat rfl); intro w' H')); ((try simp only [List.set_cons_zero, List.set_cons_succ, List.setIfInBounds_toArray] at H'); clear C H; have H := H'; clear H'; have C := Hp.facts H; simp only [Facts, factsL, and_true, true_and, List.set_cons_zero, List.set_cons_succ, List.setIfInBounds_toArray] at C)) | (go_at_call 42; refine (hbe _ H.low).mono ?_; rintro e' w' ⟨rfl, hb'⟩; (have H' := Hp.step H hb'; clear hb'; ((try simp only [List.set_cons_zero, List.set_cons_succ, List.setIfInBounds_toArray] at H'); clear C H; have H := H'; clear H'; have C := Hp.facts H; simp only [Facts, factsL, and_true, true_and, List.set_cons_zero, List.set_cons_succ, List.setIfInBounds_toArray] at C))) | go_values | go_skip | go_guarded | go_step | go_upon | go_back | (simp only [Int.not_lt, Int.not_le] at *; go_simp) | (go_values <;> (try go_simp)) | (go_ite <;> go_prune <;> (try go_simp)) | (split <;> (first | (rename_i hx; exact (hx _ rfl).elim) | go_prune))))
    all_goals
      go_ret
      refine ⟨ret_bool ?_, H.low⟩
      clear H C hbe heq
      simp_all
end Go.Proofs.Ytogliinfdfkobaa

set_option linter.unusedSimpArgs false
set_option linter.unusedVariables false
set_option maxRecDepth 100000
namespace Go.Proofs.Ytogliinfdfkobaa
open Go.RowKit Go.Mem Go.Reg Oct Hd Go.LawLift
/-- The kids that have been looked at are sound. -/
def SdRel (ks : List Tree) (M : List Ent) (w : World) (ix : Value) (wr : World) : Prop := ∃ i : Nat, i ≤ ks.length ∧ ix = .int .i64 i ∧ Kp (∀ j (h : j < ks.length), j < i → ks[j].sound = true) ∧ Hp w M wr
theorem SdRel.mk {ks : List Tree} {M : List Ent} {w wr : World} {ix : Value} (i : Nat) (h1 : i ≤ ks.length) (h2 : ix = .int .i64 i) (h3 : ∀ j (h : j < ks.length), j < i → ks[j].sound = true) (h4 : Hp w M wr) : SdRel ks M w ix wr := ⟨i, h1, h2, ⟨h3⟩, h4⟩
end Go.Proofs.Ytogliinfdfkobaa

set_option linter.unusedSimpArgs false
set_option linter.unusedVariables false
set_option maxRecDepth 100000
namespace Go.Proofs.Ytogliinfdfkobaa
open Go.RowKit Go.Mem Go.Reg Oct Hd Go.LawLift
end Go.Proofs.Ytogliinfdfkobaa

set_option linter.unusedSimpArgs false
set_option linter.unusedVariables false
set_option maxRecDepth 100000
namespace Go.Proofs.Ytogliinfdfkobaa
open Go.RowKit Go.Mem Go.Reg Oct Hd Go.LawLift
/-- A tree's own part is sound. -/
def Tree.flat (t : Tree) : Bool := okTag t.tag && (if t.tag.m then decide (t.bytes.length = 0) else decide (t.kids.length = 0))
end Go.Proofs.Ytogliinfdfkobaa

