/- Lemmas and walks on the way to the seat's laws; each theorem says its own conditions. -/
import Derived.Test.YtogliinfdfkobaaI16
import Derived.Test.YtogliinfdfkobaaIBack
import Derived.Test.YtogliinfdfkobaaFrame
set_option linter.unusedSimpArgs false
set_option linter.unusedVariables false
set_option linter.unusedSimpArgs false
set_option linter.unusedVariables false
set_option maxRecDepth 100000
namespace Go.Proofs.Ytogliinfdfkobaa
open Go.RowKit Go.Mem Go.Reg Oct Hd Go.LawLift
theorem rdHead_shift (m : List UInt8) (a k : Nat) : rdHead m (a + k) = ((rdHead (m.drop a) k).1, (rdHead (m.drop a) k).2.1, (rdHead (m.drop a) k).2.2.1, a + (rdHead (m.drop a) k).2.2.2) := by
  rw [rdHead_drop m (a + k), rdHead_drop (m.drop a) k, List.drop_drop]
  simp [Nat.add_assoc]
theorem five_of2 {cs : List Value} (h : cs.length = 5) : ∃ d0 d1 d2 d3 d4, cs = [d0, d1, d2, d3, d4] := by
  match cs, h with
  | [d0, d1, d2, d3, d4], _ => exact ⟨d0, d1, d2, d3, d4, rfl⟩
/-- What the walk holds: the count, the spans. -/
abbrev WkL (bw cnt : Nat) (sv : Value) (sp : Sps) (M : List Ent) : List Ent := .blk bw #[.int .i64 (cnt : Int), sv] 82 :: .row 56 2 sv cnt (pv (pz sp)) :: M
def ROneP (w0 : World) (M : List Ent) (bw cnt q at0 p : Nat) (sp0 : Sps) (R : PR (Tree × Nat × Sps)) (e : Ending) (w' : World) : Prop :=
  (∀ er, R = .bad er → e = .returned (.tuple #[.agg #[.int .i64 0, .int .i64 0, .bool false, .slice none 0 0, .slice none 0 0], .int .i64 (p : Int), .int .i64 (er : Int)]) ∧ Hp w0 M w') ∧
  (∀ t k2 sp, R = .ok (t, k2, sp) → ∃ (cs' : List Value) (sv' : Value) (Os : List Ent), e = .returned (.tuple #[.agg cs'.toArray, .int .i64 ((at0 + k2 : Nat) : Int), .int .i64 0]) ∧ Hp w0 (WkL bw (cnt + sp.length) sv' (sp0 ++ sp) (M ++ Os)) w' ∧
    Firm w0 Os fun w => ItP (Kept 0 Os) w q t cs')
theorem ROneP.bad {w0 : World} {M : List Ent} {bw cnt q at0 p : Nat} {sp0 : Sps} {R : PR (Tree × Nat × Sps)} {e : Ending} {w' : World} {er : Nat} (hR : R = .bad er)
    (he : e = .returned (.tuple #[.agg #[.int .i64 0, .int .i64 0, .bool false, .slice none 0 0, .slice none 0 0], .int .i64 (p : Int), .int .i64 (er : Int)])) (hb : Hp w0 M w') : ROneP w0 M bw cnt q at0 p sp0 R e w' := by
  subst hR
  exact ⟨fun er2 h => by injection h with h; subst h; exact ⟨he, hb⟩, fun t k2 sp h => by cases h⟩
theorem ROneP.okk {w0 : World} {M : List Ent} {bw cnt q at0 p : Nat} {sp0 : Sps} {R : PR (Tree × Nat × Sps)} {e : Ending} {w' : World} {t : Tree} {k2 : Nat} {sp : Sps} (hR : R = .ok (t, k2, sp))
    (h : ∃ (cs' : List Value) (sv' : Value) (Os : List Ent), e = .returned (.tuple #[.agg cs'.toArray, .int .i64 ((at0 + k2 : Nat) : Int), .int .i64 0]) ∧ Hp w0 (WkL bw (cnt + sp.length) sv' (sp0 ++ sp) (M ++ Os)) w' ∧
    Firm w0 Os fun w => ItP (Kept 0 Os) w q t cs') : ROneP w0 M bw cnt q at0 p sp0 R e w' := by
  subst hR
  exact ⟨fun er2 h => (by cases h), fun t k2 sp h2 => by injection h2 with h2; simp only [Prod.mk.injEq] at h2; obtain ⟨rfl, rfl, rfl⟩ := h2; exact h⟩
def ROneC (q : Nat) : Prop := ∀ (d : Nat) (w0 : World) (M : List Ent) (bw : Nat) (l : List UInt8) (v : Value) (at0 : Nat) (c : List UInt8) (p en k cnt : Nat) (sv : Value) (sp0 : Sps) (w : World), d + q = 33 → Bs w0 v l → l.length ≤ 1000000 → en ≤ l.length → en = at0 + c.length → p = at0 + k → (l.take en).drop at0 = c →
  k ≤ c.length → cnt ≤ 10000 → sp0.length = cnt → Hp w0 (WkL bw cnt sv sp0 M) w →
    Calls Try.prog 39 #[.pointer (some ⟨bw, 0, none⟩), v, .int .i64 (p : Int), .int .i64 (en : Int), .int .i64 (d : Int)] w (ROneP w0 M bw cnt q at0 p sp0 (oneR q c at0 k cnt))
def RKd (w0 : World) (M : List Ent) (q1 b17 b10 bw : Nat) (c : List UInt8) (sp0 : Sps) (s1 : Nat × Nat) (tc tn : Int) (nx cnt1 : Nat) (px : Value) (wr : World) : Prop :=
  ∃ (kk c2 g : Nat) (ts : List Tree) (sp2 : Sps) (vals : List Value) (rv sv2 : Value) (Os : List Ent), px = .int .i64 ((nx : Int) + (kk : Int)) ∧ kk ≤ c.length ∧ c2 ≤ 10000 ∧ (sp0 ++ s1 :: sp2).length = c2 ∧ c.length - kk < g ∧ ts.length ≤ sp2.length ∧
    kidsR (oneR q1 c nx) c.length (c.length + 1) 0 cnt1 = (kidsR (oneR q1 c nx) c.length g kk c2).glue ts sp2 ∧ KidsL w0 0 q1 ts vals Os ∧
    Hp w0 (WkL bw c2 sv2 (sp0 ++ s1 :: sp2) (.row 27 5 rv ts.length vals :: .blk b17 #[.int .i64 tc, .int .i64 tn, .bool true, .slice none 0 0, rv] 27 :: .blk b10 #[.int .i64 0, .int .i64 0, .bool false, .slice none 0 0, .slice none 0 0] 27 :: (M ++ Os))) wr
theorem RKd.mk {w0 : World} {M : List Ent} {q1 b17 b10 bw : Nat} {c : List UInt8} {sp0 : Sps} {s1 : Nat × Nat} {tc tn : Int} {nx cnt1 : Nat} {px : Value} {wr : World}
  (kk c2 g : Nat) (ts : List Tree) (sp2 : Sps) (vals : List Value) (rv sv2 : Value) (Os : List Ent) (h0 : px = .int .i64 ((nx : Int) + (kk : Int))) (h1 : kk ≤ c.length) (h2 : c2 ≤ 10000) (h3 : (sp0 ++ s1 :: sp2).length = c2) (h4 : c.length - kk < g) (h5 : ts.length ≤ sp2.length)
    (h6 : kidsR (oneR q1 c nx) c.length (c.length + 1) 0 cnt1 = (kidsR (oneR q1 c nx) c.length g kk c2).glue ts sp2) (h7 : KidsL w0 0 q1 ts vals Os)
    (h8 : Hp w0 (WkL bw c2 sv2 (sp0 ++ s1 :: sp2) (.row 27 5 rv ts.length vals :: .blk b17 #[.int .i64 tc, .int .i64 tn, .bool true, .slice none 0 0, rv] 27 :: .blk b10 #[.int .i64 0, .int .i64 0, .bool false, .slice none 0 0, .slice none 0 0] 27 :: (M ++ Os))) wr) : RKd w0 M q1 b17 b10 bw c sp0 s1 tc tn nx cnt1 px wr :=
  ⟨kk, c2, g, ts, sp2, vals, rv, sv2, Os, h0, h1, h2, h3, h4, h5, h6, h7, h8⟩
set_option maxHeartbeats 6400000 in
theorem rone_step (q : Nat) (ih : ∀ q', q = q' + 1 → ROneC q') : ROneC q := by
  intro d w0 M bw l v at0 c p en k cnt sv sp0 w hqd hb hl hen he hp hcd hk hcn hsp H
  obtain ⟨A, cp, rfl, hlc, hcm, hA, -⟩ := id hb.open
  have hRd : ∀ w1, Below w0.heap.size w0 w1 → Calls Try.prog 53 #[.slice A en cp, .int .i64 (p : Int)] w1 (RHeadOut w1 ((rdHead c k).1, (rdHead c k).2.1, (rdHead c k).2.2.1, at0 + (rdHead c k).2.2.2)) := fun w1 h => by
    have hln : (l.take en).length = en := by rw [List.length_take]; omega
    have h1 := rHead_any (l.take en) (.slice A en cp) p (by omega) (by omega) w1 ((hb.step h).front hen)
    rw [hp, rdHead_shift, hcd, ← hp] at h1
    exact h1
  rw [oneR_is]
  have hh := rdHead_le hk
  have hlt := @rdHead_lt c k hk
  have hge := rdTag_le hk
  obtain ⟨R, hR⟩ : ∃ R, R = partR q (recOf q) c at0 k cnt := ⟨_, rfl⟩
  rw [← hR]
  unfold partR at hR
  generalize rdHead c k = hd at hR hh hRd hlt
  obtain ⟨⟨tc, tn, tm⟩, z, er, po⟩ := hd
  simp only [] at hR hh hRd hlt
  obtain ⟨nx, hnx⟩ : ∃ nx, nx = at0 + po := ⟨_, rfl⟩
  rw [← hnx] at hRd
  rw [← hnx, ← hp] at hR
  have hnx1 : at0 + po ≤ nx := by omega
  have hnx2 : nx ≤ at0 + po := by omega
  have he1 : at0 + c.length ≤ en := by omega
  have he2 : en ≤ at0 + c.length := by omega
  have hp1 : at0 + k ≤ p := by omega
  have hp2 : p ≤ at0 + k := by omega
  have hecap : en ≤ cp := by omega
  have heI : ¬ (cp : Int) < (en : Int) := by omega
  replace hR := Kp.mk hR
  replace hsp := Kp.mk hsp
  replace hlt := Kp.mk hlt
  have gcd := Kp.mk hcd
  have gb := Kp.mk hb
  clear hcd he hp hnx hb hge hA
  simp only [WkL] at H
  have C := Hp.facts H
  simp only [Facts, factsL, and_true, true_and, List.set_cons_zero, List.set_cons_succ, List.setIfInBounds_toArray] at C
  obtain ⟨Q, hQ⟩ : ∃ Q, Q = ROneP w0 M bw cnt q at0 p sp0 R := ⟨_, rfl⟩
  rw [← hQ]
  replace hQ := Kp.mk hQ
  go_enter Try.func39, Try.ntmps39
  (repeat' ((fail_if_success (with_reducible show bodyPost _ _ _ _ _ _)); first | ((with_reducible refine Hp.abs_alloc H ?_); intro b' w' H' hb'; (try simp only [hb']); clear hb'; ((try simp only [List.set_cons_zero, List.set_cons_succ, List.setIfInBounds_toArray] at H'); clear C H; have H := H'; clear H'; have C := Hp.facts H; simp only [Facts, factsL, and_true, true_and, List.set_cons_zero, List.set_cons_succ, List.setIfInBounds_toArray] at C)) | ((with_reducible show wpList _ _ _ _ _ (World.setCell _ _ _)); (with_reducible apply Hp.abs_gen H); (first | ((repeat (with_reducible apply Hp.set' 0)); (with_reducible exact H); (repeat rfl); intro w' H') | ((repeat (with_reducible apply Hp.set' 1)); (with_reducible exact H); (repeat rfl); intro w' H') | ((repeat (with_reducible apply Hp.set' 2)); (with_reducible exact H); (repeat rfl); intro w' H') | ((repeat (with_reducible apply Hp.set' 3)); (with_reducible exact H); (repeat rfl); intro w' H') | ((repeat (with_reducible apply Hp.set' 4)); (with_reducible exact H); (repeat rfl); intro w' H') | ((repeat (with_reducible apply Hp.set' 5)); (with_reducible exact H); (repeat rfl); intro w' H') | ((repeat (with_reducible apply Hp.set' 6)); (with_reducible exact H); (repeat rfl); intro w' H') | ((repeat (with_reducible apply Hp.set' 7)); (with_reducible exact H); (repeat rfl); intro w' H') | ((repeat (with_reducible apply Hp.set' 8)); (with_reducible exact H); (repeat rfl); intro w' H') | ((repeat (with_reducible apply Hp.set' 9)); (with_reducible exact H); (repeat rfl); intro w' H')); ((try simp only [List.set_cons_zero, List.set_cons_succ, List.setIfInBounds_toArray] at H'); clear C H; have H := H'; clear H'; have C := Hp.facts H; simp only [Facts, factsL, and_true, true_and, List.set_cons_zero, List.set_cons_succ, List.setIfInBounds_toArray] at C)) | go_values | go_skip | go_guarded | go_step | go_upon | go_back | (simp only [Int.not_lt, Int.not_le] at *; go_simp) | (go_values <;> (try go_simp)) | (go_ite <;> go_prune <;> (try go_simp)) | (split <;> (first | (rename_i hx; exact (hx _ rfl).elim) | go_prune))))
  refine (hRd _ H.low).mono ?_
  rintro e' w1 ⟨rfl, hb'⟩
  (have H' := Hp.step H hb'; clear hb'; ((try simp only [List.set_cons_zero, List.set_cons_succ, List.setIfInBounds_toArray] at H'); clear C H; have H := H'; clear H'; have C := Hp.facts H; simp only [Facts, factsL, and_true, true_and, List.set_cons_zero, List.set_cons_succ, List.setIfInBounds_toArray] at C))
  clear hRd
  have hk2 := hh.1
  by_cases h0 : er = 0
  · subst h0
    have e0 : (((0 : Nat) : Int) != 0) = false := by simp
    replace hlt := Kp.mk (hlt.out rfl)
    by_cases hz : c.length - po < z
    · have hzi : (en : Int) - (nx : Int) < (z : Int) := by omega
      have gR : Kp (R = .bad 3) := ⟨by rw [hR.out, if_neg (by simp), if_pos hz]⟩
      clear hR hz hlt
      (repeat' ((fail_if_success (with_reducible show bodyPost _ _ _ _ _ _)); first | ((with_reducible refine Hp.abs_alloc H ?_); intro b' w' H' hb'; (try simp only [hb']); clear hb'; ((try simp only [List.set_cons_zero, List.set_cons_succ, List.setIfInBounds_toArray] at H'); clear C H; have H := H'; clear H'; have C := Hp.facts H; simp only [Facts, factsL, and_true, true_and, List.set_cons_zero, List.set_cons_succ, List.setIfInBounds_toArray] at C)) | ((with_reducible show wpList _ _ _ _ _ (World.setCell _ _ _)); (with_reducible apply Hp.abs_gen H); (first | ((repeat (with_reducible apply Hp.set' 0)); (with_reducible exact H); (repeat rfl); intro w' H') | ((repeat (with_reducible apply Hp.set' 1)); (with_reducible exact H); (repeat rfl); intro w' H') | ((repeat (with_reducible apply Hp.set' 2)); (with_reducible exact H); (repeat rfl); intro w' H') | ((repeat (with_reducible apply Hp.set' 3)); (with_reducible exact H); (repeat rfl); intro w' H') | ((repeat (with_reducible apply Hp.set' 4)); (with_reducible exact H); (repeat rfl); intro w' H') | ((repeat (with_reducible apply Hp.set' 5)); (with_reducible exact H); (repeat rfl); intro w' H') | ((repeat (with_reducible apply Hp.set' 6)); (with_reducible exact H); (repeat rfl); intro w' H') | ((repeat (with_reducible apply Hp.set' 7)); (with_reducible exact H); (repeat rfl); intro w' H') | ((repeat (with_reducible apply Hp.set' 8)); (with_reducible exact H); (repeat rfl); intro w' H') | ((repeat (with_reducible apply Hp.set' 9)); (with_reducible exact H); (repeat rfl); intro w' H')); ((try simp only [List.set_cons_zero, List.set_cons_succ, List.setIfInBounds_toArray] at H'); clear C H; have H := H'; clear H'; have C := Hp.facts H; simp only [Facts, factsL, and_true, true_and, List.set_cons_zero, List.set_cons_succ, List.setIfInBounds_toArray] at C)) | go_values | go_skip | go_guarded | go_step | go_upon | go_back | (simp only [Int.not_lt, Int.not_le] at *; go_simp) | (go_values <;> (try go_simp)) | (go_ite <;> go_prune <;> (try go_simp)) | (split <;> (first | (rename_i hx; exact (hx _ rfl).elim) | go_prune))))
      refine bodyPost_ret (v := .tuple #[.agg #[.int .i64 0, .int .i64 0, .bool false, .slice none 0 0, .slice none 0 0], .int .i64 (p : Int), .int .i64 3]) (by simp [results, go_sem, C]) rfl ?_
      rw [hQ.out]
      exact ROneP.bad gR.out rfl (Hp.drops (M := M) [_, _, _, _] [] H (List.nil_sublist _))
    · have hzi : ¬ (en : Int) - (nx : Int) < (z : Int) := by omega
      by_cases hq0 : q = 0
      · have gR : Kp (R = .bad 8) := ⟨by rw [hR.out, if_neg (by simp), if_neg hz, if_pos hq0]⟩
        obtain rfl : d = 33 := by omega
        clear hR hz hlt
        (repeat' ((fail_if_success (with_reducible show bodyPost _ _ _ _ _ _)); first | ((with_reducible refine Hp.abs_alloc H ?_); intro b' w' H' hb'; (try simp only [hb']); clear hb'; ((try simp only [List.set_cons_zero, List.set_cons_succ, List.setIfInBounds_toArray] at H'); clear C H; have H := H'; clear H'; have C := Hp.facts H; simp only [Facts, factsL, and_true, true_and, List.set_cons_zero, List.set_cons_succ, List.setIfInBounds_toArray] at C)) | ((with_reducible show wpList _ _ _ _ _ (World.setCell _ _ _)); (with_reducible apply Hp.abs_gen H); (first | ((repeat (with_reducible apply Hp.set' 0)); (with_reducible exact H); (repeat rfl); intro w' H') | ((repeat (with_reducible apply Hp.set' 1)); (with_reducible exact H); (repeat rfl); intro w' H') | ((repeat (with_reducible apply Hp.set' 2)); (with_reducible exact H); (repeat rfl); intro w' H') | ((repeat (with_reducible apply Hp.set' 3)); (with_reducible exact H); (repeat rfl); intro w' H') | ((repeat (with_reducible apply Hp.set' 4)); (with_reducible exact H); (repeat rfl); intro w' H') | ((repeat (with_reducible apply Hp.set' 5)); (with_reducible exact H); (repeat rfl); intro w' H') | ((repeat (with_reducible apply Hp.set' 6)); (with_reducible exact H); (repeat rfl); intro w' H') | ((repeat (with_reducible apply Hp.set' 7)); (with_reducible exact H); (repeat rfl); intro w' H') | ((repeat (with_reducible apply Hp.set' 8)); (with_reducible exact H); (repeat rfl); intro w' H') | ((repeat (with_reducible apply Hp.set' 9)); (with_reducible exact H); (repeat rfl); intro w' H')); ((try simp only [List.set_cons_zero, List.set_cons_succ, List.setIfInBounds_toArray] at H'); clear C H; have H := H'; clear H'; have C := Hp.facts H; simp only [Facts, factsL, and_true, true_and, List.set_cons_zero, List.set_cons_succ, List.setIfInBounds_toArray] at C)) | go_values | go_skip | go_guarded | go_step | go_upon | go_back | (simp only [Int.not_lt, Int.not_le] at *; go_simp) | (go_values <;> (try go_simp)) | (go_ite <;> go_prune <;> (try go_simp)) | (split <;> (first | (rename_i hx; exact (hx _ rfl).elim) | go_prune))))
        refine bodyPost_ret (v := .tuple #[.agg #[.int .i64 0, .int .i64 0, .bool false, .slice none 0 0, .slice none 0 0], .int .i64 (p : Int), .int .i64 8]) (by simp [results, go_sem, C]) rfl ?_
        rw [hQ.out]
        exact ROneP.bad gR.out rfl (Hp.drops (M := M) [_, _, _, _] [] H (List.nil_sublist _))
      · have hd32 : ¬ (32 : Int) < (d : Int) := by omega
        by_cases hc0 : cnt = 10000
        · have gR : Kp (R = .bad 2) := ⟨by rw [hR.out, if_neg (by simp), if_neg hz, if_neg hq0, if_pos hc0]⟩
          have e1 : (((10000 : Nat) : Int) == 10000) = true := by decide
          subst hc0
          clear hR hz hlt
          (repeat' ((fail_if_success (with_reducible show bodyPost _ _ _ _ _ _)); first | ((with_reducible refine Hp.abs_alloc H ?_); intro b' w' H' hb'; (try simp only [hb']); clear hb'; ((try simp only [List.set_cons_zero, List.set_cons_succ, List.setIfInBounds_toArray] at H'); clear C H; have H := H'; clear H'; have C := Hp.facts H; simp only [Facts, factsL, and_true, true_and, List.set_cons_zero, List.set_cons_succ, List.setIfInBounds_toArray] at C)) | ((with_reducible show wpList _ _ _ _ _ (World.setCell _ _ _)); (with_reducible apply Hp.abs_gen H); (first | ((repeat (with_reducible apply Hp.set' 0)); (with_reducible exact H); (repeat rfl); intro w' H') | ((repeat (with_reducible apply Hp.set' 1)); (with_reducible exact H); (repeat rfl); intro w' H') | ((repeat (with_reducible apply Hp.set' 2)); (with_reducible exact H); (repeat rfl); intro w' H') | ((repeat (with_reducible apply Hp.set' 3)); (with_reducible exact H); (repeat rfl); intro w' H') | ((repeat (with_reducible apply Hp.set' 4)); (with_reducible exact H); (repeat rfl); intro w' H') | ((repeat (with_reducible apply Hp.set' 5)); (with_reducible exact H); (repeat rfl); intro w' H') | ((repeat (with_reducible apply Hp.set' 6)); (with_reducible exact H); (repeat rfl); intro w' H') | ((repeat (with_reducible apply Hp.set' 7)); (with_reducible exact H); (repeat rfl); intro w' H') | ((repeat (with_reducible apply Hp.set' 8)); (with_reducible exact H); (repeat rfl); intro w' H') | ((repeat (with_reducible apply Hp.set' 9)); (with_reducible exact H); (repeat rfl); intro w' H')); ((try simp only [List.set_cons_zero, List.set_cons_succ, List.setIfInBounds_toArray] at H'); clear C H; have H := H'; clear H'; have C := Hp.facts H; simp only [Facts, factsL, and_true, true_and, List.set_cons_zero, List.set_cons_succ, List.setIfInBounds_toArray] at C)) | go_values | go_skip | go_guarded | go_step | go_upon | go_back | (simp only [Int.not_lt, Int.not_le] at *; go_simp) | (go_values <;> (try go_simp)) | (go_ite <;> go_prune <;> (try go_simp)) | (split <;> (first | (rename_i hx; exact (hx _ rfl).elim) | go_prune))))
          refine bodyPost_ret (v := .tuple #[.agg #[.int .i64 0, .int .i64 0, .bool false, .slice none 0 0, .slice none 0 0], .int .i64 (p : Int), .int .i64 2]) (by simp [results, go_sem, C]) rfl ?_
          rw [hQ.out]
          exact ROneP.bad gR.out rfl (Hp.drops (M := M) [_, _, _, _] [] H (List.nil_sublist _))
        · have e1 : ((cnt : Int) == 10000) = false := by simp; omega
          replace hR := Kp.mk (hR.out.trans (by rw [if_neg (show ¬ (0 ≠ 0) by simp), if_neg hz, if_neg hq0, if_neg hc0]))
          obtain ⟨i0, hi, hz0, hz1, hz2⟩ := info_parts info_sp
          have hzn : nx + z ≤ l.length := by omega
          have hcc : (l.drop nx).take z = (c.drop po).take z := by
            have e9 : at0 + po = nx := by omega
            rw [← gcd.out, List.drop_drop, e9, List.drop_take, List.take_take, Nat.min_eq_left (by omega)]
          obtain ⟨j0, hj, hjz0, hjz1, hjz2⟩ := info_parts info_u8
          have hcut : ∀ w1, Below w0.heap.size w0 w1 → Bs w1 (.slice (if cp = nx then A else Option.map (fun x => x.add nx) A) (nx + z - nx) (cp - nx)) ((c.drop po).take z) := fun w1 h => by
            rw [Nat.add_sub_cancel_left, ← hcc]
            exact (gb.out.step h).cut nx z hzn
          replace hcut := Kp.mk hcut
          replace hcc := Kp.mk hcc
          obtain ⟨c2, hc2⟩ : ∃ c2, (c.drop po).take z = c2 := ⟨_, rfl⟩
          have hc2l : c2.length = z := by rw [← hc2, List.length_take, List.length_drop]; omega
          rw [hc2] at hR hcut hcc
          replace hc2 := Kp.mk hc2
          replace hc2l := Kp.mk hc2l
          cases tm with
          | false =>
            (repeat' ((fail_if_success (with_reducible show bodyPost _ _ _ _ _ _)); first | ((with_reducible refine Hp.abs_alloc H ?_); intro b' w' H' hb'; (try simp only [hb']); clear hb'; ((try simp only [List.set_cons_zero, List.set_cons_succ, List.setIfInBounds_toArray] at H'); clear C H; have H := H'; clear H'; have C := Hp.facts H; simp only [Facts, factsL, and_true, true_and, List.set_cons_zero, List.set_cons_succ, List.setIfInBounds_toArray] at C)) | ((with_reducible show wpList _ _ _ _ _ (World.setCell _ _ _)); (with_reducible apply Hp.abs_gen H); (first | ((repeat (with_reducible apply Hp.set' 0)); (with_reducible exact H); (repeat rfl); intro w' H') | ((repeat (with_reducible apply Hp.set' 1)); (with_reducible exact H); (repeat rfl); intro w' H') | ((repeat (with_reducible apply Hp.set' 2)); (with_reducible exact H); (repeat rfl); intro w' H') | ((repeat (with_reducible apply Hp.set' 3)); (with_reducible exact H); (repeat rfl); intro w' H') | ((repeat (with_reducible apply Hp.set' 4)); (with_reducible exact H); (repeat rfl); intro w' H') | ((repeat (with_reducible apply Hp.set' 5)); (with_reducible exact H); (repeat rfl); intro w' H') | ((repeat (with_reducible apply Hp.set' 6)); (with_reducible exact H); (repeat rfl); intro w' H') | ((repeat (with_reducible apply Hp.set' 7)); (with_reducible exact H); (repeat rfl); intro w' H') | ((repeat (with_reducible apply Hp.set' 8)); (with_reducible exact H); (repeat rfl); intro w' H') | ((repeat (with_reducible apply Hp.set' 9)); (with_reducible exact H); (repeat rfl); intro w' H')); ((try simp only [List.set_cons_zero, List.set_cons_succ, List.setIfInBounds_toArray] at H'); clear C H; have H := H'; clear H'; have C := Hp.facts H; simp only [Facts, factsL, and_true, true_and, List.set_cons_zero, List.set_cons_succ, List.setIfInBounds_toArray] at C)) | (at_builtin; (refine wpList_append_hp H 4 rfl _ _ _ rfl Try.underlying50 hi hz0 hz1 hz2 rfl (by decide) rfl rfl rfl (news := [_, _]) rfl (fun h => by cases h) (fun _ => ⟨_, rfl, blk_news (H.get 0 rfl)⟩) (by simp [Value.oneCell']) (by unfold maxLen; omega) (by omega) ?_); intro v' w' H'; (obtain ⟨As, cs, rfl⟩ := Go.LawLift.own_form (ownsOf H' 4 rfl)); ((try simp only [List.set_cons_zero, List.set_cons_succ, List.setIfInBounds_toArray] at H'); clear C H; have H := H'; clear H'; have C := Hp.facts H; simp only [Facts, factsL, and_true, true_and, List.set_cons_zero, List.set_cons_succ, List.setIfInBounds_toArray] at C)) | (at_builtin; (have H3 := Hp.blkRow H 0 rfl 0 1 rfl (by unfold maxLen; omega)); (have gs := (hcut.out _ H3.low).src); (refine wpList_append_hp H3 0 rfl _ _ _ rfl Try.underlying24 hj hjz0 hjz1 hjz2 rfl (by decide) rfl rfl rfl (news := c2.map u8c) gs.2.1 gs.1 gs.2.2 (u8c_one _) (by unfold maxLen; omega) (by omega) ?_); clear gs; intro v' w' H'; (obtain ⟨Av, cw, rfl⟩ := Go.LawLift.own_form (ownsOf H' 0 rfl)); clear H3; ((try simp only [List.set_cons_zero, List.set_cons_succ, List.setIfInBounds_toArray] at H'); clear C H; have H := H'; clear H'; have C := Hp.facts H; simp only [Facts, factsL, and_true, true_and, List.set_cons_zero, List.set_cons_succ, List.setIfInBounds_toArray] at C)) | go_values | go_skip | go_guarded | go_step | go_upon | go_back | (simp only [Int.not_lt, Int.not_le] at *; go_simp) | (go_values <;> (try go_simp)) | (go_ite <;> go_prune <;> (try go_simp)) | (split <;> (first | (rename_i hx; exact (hx _ rfl).elim) | go_prune))))
            obtain ⟨q1, rfl⟩ : ∃ q1, q = q1 + 1 := ⟨q - 1, by omega⟩
            have gR : Kp (R = _) := ⟨by rw [hR.out, if_pos trivial]⟩
            refine bodyPost_ret (v := .tuple #[.agg #[.int .i64 tc, .int .i64 tn, .bool false, .slice Av z cw, .slice none 0 0], .int .i64 ((nx : Int) + (z : Int)), .int .i64 0]) (by simp [results, go_sem, C]) rfl ?_
            rw [hQ.out]
            simp only [Nat.add_sub_cancel_left, Nat.zero_add, List.nil_append] at H
            have H3 : Hp w0 (.row 5 1 (.slice Av z cw) z (c2.map u8c) :: .blk bw #[.int .i64 ((cnt : Int) + 1), .slice As (cnt + 1) cs] 82 :: .row 56 2 (.slice As (cnt + 1) cs) (cnt + 1) (pv (pz sp0) ++ [.int .i64 (p : Int), .int .i64 ((nx : Int) + (z : Int))]) :: M) _ := Hp.selA (M := M) [_, _, _, _, _, _, _] H [0, 5, 6] (by decide)
            obtain ⟨Os1, H4, hb⟩ := H3.freezeBs 0
            obtain ⟨Os2, H5, hT⟩ := KidsL.tree (n := q1) (tg := ⟨tc, tn, false⟩) KidsL.zero (H4.nilRow 27 5) hb
            simp only [List.cons_append, List.append_assoc, List.nil_append] at H5 hT
            refine ROneP.okk gR.out ⟨[_, _, _, _, _], .slice As (cnt + 1) cs, Os1 ++ Os2, ?_, ?_, hT⟩
            · rw [show ((at0 + (po + z) : Nat) : Int) = (nx : Int) + (z : Int) by omega]
            · simp only [WkL]
              rw [pz_app, pv_app]
              exact H5
          | true =>
            obtain ⟨q1, rfl⟩ : ∃ q1, q = q1 + 1 := ⟨q - 1, by omega⟩
            have gR : Kp (R = _) := ⟨by rw [hR.out, if_neg (by decide)]⟩
            have hih := ih q1 rfl
            clear hR ih hlt
            obtain rfl : z = c2.length := hc2l.out.symm
            have hcd2 : (l.take (nx + c2.length)).drop nx = c2 := by
              rw [List.drop_take, Nat.add_sub_cancel_left]
              exact hcc.out
            replace hcd2 := Kp.mk hcd2
            clear hc2 hcut hcc
            (repeat' ((fail_if_success (with_reducible show bodyPost _ _ _ _ _ _)); first | ((with_reducible refine Hp.abs_alloc H ?_); intro b' w' H' hb'; (try simp only [hb']); clear hb'; ((try simp only [List.set_cons_zero, List.set_cons_succ, List.setIfInBounds_toArray] at H'); clear C H; have H := H'; clear H'; have C := Hp.facts H; simp only [Facts, factsL, and_true, true_and, List.set_cons_zero, List.set_cons_succ, List.setIfInBounds_toArray] at C)) | ((with_reducible show wpList _ _ _ _ _ (World.setCell _ _ _)); (with_reducible apply Hp.abs_gen H); (first | ((repeat (with_reducible apply Hp.set' 0)); (with_reducible exact H); (repeat rfl); intro w' H') | ((repeat (with_reducible apply Hp.set' 1)); (with_reducible exact H); (repeat rfl); intro w' H') | ((repeat (with_reducible apply Hp.set' 2)); (with_reducible exact H); (repeat rfl); intro w' H') | ((repeat (with_reducible apply Hp.set' 3)); (with_reducible exact H); (repeat rfl); intro w' H') | ((repeat (with_reducible apply Hp.set' 4)); (with_reducible exact H); (repeat rfl); intro w' H') | ((repeat (with_reducible apply Hp.set' 5)); (with_reducible exact H); (repeat rfl); intro w' H') | ((repeat (with_reducible apply Hp.set' 6)); (with_reducible exact H); (repeat rfl); intro w' H') | ((repeat (with_reducible apply Hp.set' 7)); (with_reducible exact H); (repeat rfl); intro w' H') | ((repeat (with_reducible apply Hp.set' 8)); (with_reducible exact H); (repeat rfl); intro w' H') | ((repeat (with_reducible apply Hp.set' 9)); (with_reducible exact H); (repeat rfl); intro w' H')); ((try simp only [List.set_cons_zero, List.set_cons_succ, List.setIfInBounds_toArray] at H'); clear C H; have H := H'; clear H'; have C := Hp.facts H; simp only [Facts, factsL, and_true, true_and, List.set_cons_zero, List.set_cons_succ, List.setIfInBounds_toArray] at C)) | (at_builtin; (refine wpList_append_hp H 4 rfl _ _ _ rfl Try.underlying50 hi hz0 hz1 hz2 rfl (by decide) rfl rfl rfl (news := [_, _]) rfl (fun h => by cases h) (fun _ => ⟨_, rfl, blk_news (H.get 0 rfl)⟩) (by simp [Value.oneCell']) (by unfold maxLen; omega) (by omega) ?_); intro v' w' H'; (obtain ⟨As, cs, rfl⟩ := Go.LawLift.own_form (ownsOf H' 4 rfl)); ((try simp only [List.set_cons_zero, List.set_cons_succ, List.setIfInBounds_toArray] at H'); clear C H; have H := H'; clear H'; have C := Hp.facts H; simp only [Facts, factsL, and_true, true_and, List.set_cons_zero, List.set_cons_succ, List.setIfInBounds_toArray] at C)) | go_values | go_skip | go_guarded | go_step | go_upon | go_back | (simp only [Int.not_lt, Int.not_le] at *; go_simp) | (go_values <;> (try go_simp)) | (go_ite <;> go_prune <;> (try go_simp)) | (split <;> (first | (rename_i hx; exact (hx _ rfl).elim) | go_prune))))
            obtain ⟨wl, rfl⟩ := Hp.nameW H
            (obtain ⟨b17, rfl⟩ := Hp.name H 0 rfl; obtain ⟨b10, rfl⟩ := Hp.name H 3 rfl)
            have H3 : Hp w0 (WkL bw (cnt + 1) (.slice As (cnt + 1) cs) (sp0 ++ [(p, nx + c2.length)]) (.row 27 5 (.slice none 0 0) 0 [] :: .blk b17 #[.int .i64 tc, .int .i64 tn, .bool true, .slice none 0 0, .slice none 0 0] 27 :: .blk b10 #[.int .i64 0, .int .i64 0, .bool false, .slice none 0 0, .slice none 0 0] 27 :: (M ++ []))) wl := by
              have H4 := Hp.selA (M := M) [_, _, _, _, _, _, _] (H.nilRow 27 5) [5, 6, 0, 1, 4] (by decide)
              simp only [WkL, List.append_nil]
              rw [pz_app, pv_app]
              exact H4
            have hc1 : cnt + 1 ≤ 10000 := by omega
            clear H C hzi hz hh hk2 hk hq0 e0 e1 hd32 he1 he2 hp1 hp2 gcd hi hz0 hz1 hz2 hj hjz0 hjz1 hjz2 hen heI hecap
            go_loopw [18, 19, 20, 21] (fun px _ _ _ wr => RKd w0 M q1 b17 b10 bw c2 sp0 (p, nx + c2.length) tc tn nx (cnt + 1) px wr) (fun px _ _ _ _ => nx + c2.length - (intOf px).toNat)
            case atStart => exact RKd.mk 0 (cnt + 1) (c2.length + 1) [] [] [] _ _ [] (by simp) (Nat.zero_le _) hc1 (by rw [List.length_append, hsp.out]; rfl) (by omega) (Nat.le_refl _) (by cases kidsR _ _ _ _ _ <;> simp [PR.glue]) KidsL.zero H3
            case round =>
              clear H3
              obtain ⟨kk, c3, g, ts, sp2, vals, rv, sv2, Os, rfl, hkk, hc3, hlen, hg, hts, gK, gV, H⟩ := hrel
              simp only [WkL] at H
              have gK := Kp.mk gK
              have gV := Kp.mk gV
              have hlen := Kp.mk hlen
              have C := Hp.facts H
              simp only [Facts, factsL, and_true, true_and, List.set_cons_zero, List.set_cons_succ, List.setIfInBounds_toArray] at C
              by_cases hlt : kk < c2.length
              · have hlt2 : (nx : Int) + (kk : Int) < (nx : Int) + (c2.length : Int) := by omega
                have gh := fun M3 w3 (H3 : Hp w0 (WkL bw c3 sv2 (sp0 ++ (p, nx + c2.length) :: sp2) M3) w3) => hih (d + 1) w0 M3 bw l _ nx c2 (nx + kk) (nx + c2.length) kk c3 sv2 (sp0 ++ (p, nx + c2.length) :: sp2) w3 (by omega) gb.out hl hzn rfl rfl hcd2.out hkk hc3 hlen.out H3
                simp only [WkL, show ((nx + kk : Nat) : Int) = (nx : Int) + (kk : Int) by omega, show ((nx + c2.length : Nat) : Int) = (nx : Int) + (c2.length : Int) by omega, show ((d + 1 : Nat) : Int) = (d : Int) + 1 by omega] at gh
                have gh := Kp.mk gh
                clear hih
                obtain ⟨Ar, cr, rfl⟩ := Go.LawLift.own_form (ownsOf H 2 rfl)
                have htl : ts.length ≤ 10000 := by have := hlen.out; rw [List.length_append, List.length_cons] at this; omega
                (repeat' ((fail_if_success (with_reducible show bodyPost _ _ _ _ _ _)); first | ((with_reducible refine Hp.abs_alloc H ?_); intro b' w' H' hb'; (try simp only [hb']); clear hb'; ((try simp only [List.set_cons_zero, List.set_cons_succ, List.setIfInBounds_toArray] at H'); clear C H; have H := H'; clear H'; have C := Hp.facts H; simp only [Facts, factsL, and_true, true_and, List.set_cons_zero, List.set_cons_succ, List.setIfInBounds_toArray] at C)) | ((with_reducible show wpList _ _ _ _ _ (World.setCell _ _ _)); (with_reducible apply Hp.abs_gen H); (first | ((repeat (with_reducible apply Hp.set' 0)); (with_reducible exact H); (repeat rfl); intro w' H') | ((repeat (with_reducible apply Hp.set' 1)); (with_reducible exact H); (repeat rfl); intro w' H') | ((repeat (with_reducible apply Hp.set' 2)); (with_reducible exact H); (repeat rfl); intro w' H') | ((repeat (with_reducible apply Hp.set' 3)); (with_reducible exact H); (repeat rfl); intro w' H') | ((repeat (with_reducible apply Hp.set' 4)); (with_reducible exact H); (repeat rfl); intro w' H') | ((repeat (with_reducible apply Hp.set' 5)); (with_reducible exact H); (repeat rfl); intro w' H') | ((repeat (with_reducible apply Hp.set' 6)); (with_reducible exact H); (repeat rfl); intro w' H') | ((repeat (with_reducible apply Hp.set' 7)); (with_reducible exact H); (repeat rfl); intro w' H') | ((repeat (with_reducible apply Hp.set' 8)); (with_reducible exact H); (repeat rfl); intro w' H') | ((repeat (with_reducible apply Hp.set' 9)); (with_reducible exact H); (repeat rfl); intro w' H')); ((try simp only [List.set_cons_zero, List.set_cons_succ, List.setIfInBounds_toArray] at H'); clear C H; have H := H'; clear H'; have C := Hp.facts H; simp only [Facts, factsL, and_true, true_and, List.set_cons_zero, List.set_cons_succ, List.setIfInBounds_toArray] at C)) | go_values | go_skip | go_guarded | go_step | go_upon | go_back | (simp only [Int.not_lt, Int.not_le] at *; go_simp) | (go_values <;> (try go_simp)) | (go_ite <;> go_prune <;> (try go_simp)) | (split <;> (first | (rename_i hx; exact (hx _ rfl).elim) | go_prune))))
                refine (gh.out _ _ H).mono ?_
                intro e' w3 hO
                clear gh
                cases hO1 : oneR q1 c2 nx kk c3 with
                | bad er =>
                  rw [hO1] at hO
                  obtain ⟨rfl, H3⟩ := hO.1 er rfl
                  clear hO H C
                  have H := H3
                  clear H3
                  have C := Hp.facts H
                  simp only [Facts, factsL, and_true, true_and, List.set_cons_zero, List.set_cons_succ, List.setIfInBounds_toArray] at C
                  have hne := oneR_bad0 _ _ _ _ _ _ hO1
                  have e0 : ((er : Int) != 0) = true := by simp; omega
                  have gR2 : Kp (R = .bad er) := ⟨by rw [gR.out]; show (match kidsR (oneR q1 c2 nx) _ _ _ _ with | .bad e => _ | .ok (ks, sps) => _) = _; rw [gK.out, kidsR_bad hlt (by omega) hO1]; rfl⟩
                  clear hne hO1 gK gR
                  (repeat' ((fail_if_success (with_reducible show bodyPost _ _ _ _ _ _)); first | ((with_reducible refine Hp.abs_alloc H ?_); intro b' w' H' hb'; (try simp only [hb']); clear hb'; ((try simp only [List.set_cons_zero, List.set_cons_succ, List.setIfInBounds_toArray] at H'); clear C H; have H := H'; clear H'; have C := Hp.facts H; simp only [Facts, factsL, and_true, true_and, List.set_cons_zero, List.set_cons_succ, List.setIfInBounds_toArray] at C)) | ((with_reducible show wpList _ _ _ _ _ (World.setCell _ _ _)); (with_reducible apply Hp.abs_gen H); (first | ((repeat (with_reducible apply Hp.set' 0)); (with_reducible exact H); (repeat rfl); intro w' H') | ((repeat (with_reducible apply Hp.set' 1)); (with_reducible exact H); (repeat rfl); intro w' H') | ((repeat (with_reducible apply Hp.set' 2)); (with_reducible exact H); (repeat rfl); intro w' H') | ((repeat (with_reducible apply Hp.set' 3)); (with_reducible exact H); (repeat rfl); intro w' H') | ((repeat (with_reducible apply Hp.set' 4)); (with_reducible exact H); (repeat rfl); intro w' H') | ((repeat (with_reducible apply Hp.set' 5)); (with_reducible exact H); (repeat rfl); intro w' H') | ((repeat (with_reducible apply Hp.set' 6)); (with_reducible exact H); (repeat rfl); intro w' H') | ((repeat (with_reducible apply Hp.set' 7)); (with_reducible exact H); (repeat rfl); intro w' H') | ((repeat (with_reducible apply Hp.set' 8)); (with_reducible exact H); (repeat rfl); intro w' H') | ((repeat (with_reducible apply Hp.set' 9)); (with_reducible exact H); (repeat rfl); intro w' H')); ((try simp only [List.set_cons_zero, List.set_cons_succ, List.setIfInBounds_toArray] at H'); clear C H; have H := H'; clear H'; have C := Hp.facts H; simp only [Facts, factsL, and_true, true_and, List.set_cons_zero, List.set_cons_succ, List.setIfInBounds_toArray] at C)) | go_values | go_skip | go_guarded | go_step | go_upon | go_back | (simp only [Int.not_lt, Int.not_le] at *; go_simp) | (go_values <;> (try go_simp)) | (go_ite <;> go_prune <;> (try go_simp)) | (split <;> (first | (rename_i hx; exact (hx _ rfl).elim) | go_prune))))
                  refine bodyPost_ret (v := .tuple #[.agg #[.int .i64 0, .int .i64 0, .bool false, .slice none 0 0, .slice none 0 0], .int .i64 (p : Int), .int .i64 er]) (by simp [results, go_sem, C]) rfl ?_
                  rw [hQ.out]
                  exact ROneP.bad gR2.out rfl (Hp.keepL (Hp.drops (M := M ++ Os) [_, _, _, _] [] H (List.nil_sublist _)))
                | ok x =>
                  obtain ⟨t, k2, sp⟩ := x
                  rw [hO1] at hO
                  obtain ⟨cs', sv3, Os2, rfl, H3, hF⟩ := hO.2 t k2 sp rfl
                  have hk12 := oneR_ok hO1 hkk
                  have hcnt := oneR_count q1 c2 nx kk c3 hc3 t k2 sp hO1
                  have htc := t.count_is
                  have gK2 := Kp.mk (gK.out.trans (by rw [kidsR_step hlt (show 0 < g by omega) hO1, PR.glue_glue]))
                  clear hO H C hO1 gK gR
                  have ht2 := hF w3 _ H3 (fun x hx => by simp [hx])
                  obtain ⟨d0, d1, d2, d3, d4, rfl⟩ := five_of2 ht2.len
                  obtain ⟨f0, f1, f2, fA, fA2, fk, fc, fk2, fc2, rfl, rfl, rfl, rfl, rfl⟩ := ht2.forms
                  have gV2 := Kp.mk (gV.out.next hF)
                  clear ht2 gV hF
                  simp only [WkL, List.cons_append, List.append_assoc] at H3
                  have H := H3
                  clear H3
                  simp only [show ((nx + k2 : Nat) : Int) = (nx : Int) + (k2 : Int) by omega]
                  have C := Hp.facts H
                  simp only [Facts, factsL, and_true, true_and, List.set_cons_zero, List.set_cons_succ, List.setIfInBounds_toArray] at C
                  replace hcnt := Kp.mk hcnt
                  replace htc := Kp.mk htc
                  obtain ⟨i1, hi, hz0, hz1, hz2⟩ := info_parts info_ri
                  (repeat' ((fail_if_success (with_reducible show bodyPost _ _ _ _ _ _)); first | ((with_reducible refine Hp.abs_alloc H ?_); intro b' w' H' hb'; (try simp only [hb']); clear hb'; ((try simp only [List.set_cons_zero, List.set_cons_succ, List.setIfInBounds_toArray] at H'); clear C H; have H := H'; clear H'; have C := Hp.facts H; simp only [Facts, factsL, and_true, true_and, List.set_cons_zero, List.set_cons_succ, List.setIfInBounds_toArray] at C)) | ((with_reducible show wpList _ _ _ _ _ (World.setCell _ _ _)); (with_reducible apply Hp.abs_gen H); (first | ((repeat (with_reducible apply Hp.set' 0)); (with_reducible exact H); (repeat rfl); intro w' H') | ((repeat (with_reducible apply Hp.set' 1)); (with_reducible exact H); (repeat rfl); intro w' H') | ((repeat (with_reducible apply Hp.set' 2)); (with_reducible exact H); (repeat rfl); intro w' H') | ((repeat (with_reducible apply Hp.set' 3)); (with_reducible exact H); (repeat rfl); intro w' H') | ((repeat (with_reducible apply Hp.set' 4)); (with_reducible exact H); (repeat rfl); intro w' H') | ((repeat (with_reducible apply Hp.set' 5)); (with_reducible exact H); (repeat rfl); intro w' H') | ((repeat (with_reducible apply Hp.set' 6)); (with_reducible exact H); (repeat rfl); intro w' H') | ((repeat (with_reducible apply Hp.set' 7)); (with_reducible exact H); (repeat rfl); intro w' H') | ((repeat (with_reducible apply Hp.set' 8)); (with_reducible exact H); (repeat rfl); intro w' H') | ((repeat (with_reducible apply Hp.set' 9)); (with_reducible exact H); (repeat rfl); intro w' H')); ((try simp only [List.set_cons_zero, List.set_cons_succ, List.setIfInBounds_toArray] at H'); clear C H; have H := H'; clear H'; have C := Hp.facts H; simp only [Facts, factsL, and_true, true_and, List.set_cons_zero, List.set_cons_succ, List.setIfInBounds_toArray] at C)) | (at_builtin; (refine wpList_append_hp H 4 rfl _ _ _ rfl Try.underlying25 hi hz0 hz1 hz2 rfl (by decide) rfl rfl rfl (news := [_, _, _, _, _]) rfl (fun h => by cases h) (fun _ => ⟨_, rfl, blk_news (H.get 0 rfl)⟩) (by simp [Value.oneCell']) (by unfold maxLen; omega) (by omega) ?_); intro v' w' H'; (obtain ⟨Av, cw, rfl⟩ := Go.LawLift.own_form (ownsOf H' 4 rfl)); ((try simp only [List.set_cons_zero, List.set_cons_succ, List.setIfInBounds_toArray] at H'); clear C H; have H := H'; clear H'; have C := Hp.facts H; simp only [Facts, factsL, and_true, true_and, List.set_cons_zero, List.set_cons_succ, List.setIfInBounds_toArray] at C)) | go_values | go_skip | go_guarded | go_step | go_upon | go_back | (simp only [Int.not_lt, Int.not_le] at *; go_simp) | (go_values <;> (try go_simp)) | (go_ite <;> go_prune <;> (try go_simp)) | (split <;> (first | (rename_i hx; exact (hx _ rfl).elim) | go_prune))))
                  have htc2 := htc.out
                  have hcnt2 := hcnt.out
                  refine ⟨RKd.mk k2 (c3 + sp.length) (g - 1) (ts ++ [t]) (sp2 ++ sp) _ (.slice Av (ts.length + 1) cw) sv3 (Os ++ Os2) rfl hk12.2 hcnt2.1 ?_ (by omega) ?_ gK2.out gV2.out ?_, ?_⟩
                  · have := hlen.out
                    simp only [List.length_append, List.length_cons] at this ⊢
                    omega
                  · simp only [List.length_append, List.length_cons, List.length_nil]
                    omega
                  · have H5 := H.tail.tail
                    simp only [WkL, List.length_append, List.length_cons, List.length_nil, Nat.zero_add]
                    exact H5
                  · simp only [intOf]
                    omega
              · have hkc : kk = c2.length := by omega
                subst hkc
                have hlt2 : ¬ (nx : Int) + (c2.length : Int) < (nx : Int) + (c2.length : Int) := by omega
                have gR2 : Kp (R = .ok (.mk ⟨tc, tn, true⟩ [] ts, po + c2.length, (p, nx + c2.length) :: sp2)) := ⟨by
                  rw [gR.out]
                  show (match kidsR (oneR q1 c2 nx) _ _ _ _ with | .bad e => _ | .ok (ks, sps) => _) = _
                  rw [gK.out, kidsR_end (Nat.lt_irrefl _) (by omega)]
                  simp [PR.glue]⟩
                clear gR gK hih
                obtain ⟨Ar, cr, rfl⟩ := Go.LawLift.own_form (ownsOf H 2 rfl)
                (repeat' ((fail_if_success (with_reducible show bodyPost _ _ _ _ _ _)); first | ((with_reducible refine Hp.abs_alloc H ?_); intro b' w' H' hb'; (try simp only [hb']); clear hb'; ((try simp only [List.set_cons_zero, List.set_cons_succ, List.setIfInBounds_toArray] at H'); clear C H; have H := H'; clear H'; have C := Hp.facts H; simp only [Facts, factsL, and_true, true_and, List.set_cons_zero, List.set_cons_succ, List.setIfInBounds_toArray] at C)) | ((with_reducible show wpList _ _ _ _ _ (World.setCell _ _ _)); (with_reducible apply Hp.abs_gen H); (first | ((repeat (with_reducible apply Hp.set' 0)); (with_reducible exact H); (repeat rfl); intro w' H') | ((repeat (with_reducible apply Hp.set' 1)); (with_reducible exact H); (repeat rfl); intro w' H') | ((repeat (with_reducible apply Hp.set' 2)); (with_reducible exact H); (repeat rfl); intro w' H') | ((repeat (with_reducible apply Hp.set' 3)); (with_reducible exact H); (repeat rfl); intro w' H') | ((repeat (with_reducible apply Hp.set' 4)); (with_reducible exact H); (repeat rfl); intro w' H') | ((repeat (with_reducible apply Hp.set' 5)); (with_reducible exact H); (repeat rfl); intro w' H') | ((repeat (with_reducible apply Hp.set' 6)); (with_reducible exact H); (repeat rfl); intro w' H') | ((repeat (with_reducible apply Hp.set' 7)); (with_reducible exact H); (repeat rfl); intro w' H') | ((repeat (with_reducible apply Hp.set' 8)); (with_reducible exact H); (repeat rfl); intro w' H') | ((repeat (with_reducible apply Hp.set' 9)); (with_reducible exact H); (repeat rfl); intro w' H')); ((try simp only [List.set_cons_zero, List.set_cons_succ, List.setIfInBounds_toArray] at H'); clear C H; have H := H'; clear H'; have C := Hp.facts H; simp only [Facts, factsL, and_true, true_and, List.set_cons_zero, List.set_cons_succ, List.setIfInBounds_toArray] at C)) | go_values | go_skip | go_guarded | go_step | go_upon | go_back | (simp only [Int.not_lt, Int.not_le] at *; go_simp) | (go_values <;> (try go_simp)) | (go_ite <;> go_prune <;> (try go_simp)) | (split <;> (first | (rename_i hx; exact (hx _ rfl).elim) | go_prune))))
                refine bodyPost_ret (v := .tuple #[.agg #[.int .i64 tc, .int .i64 tn, .bool true, .slice none 0 0, .slice Ar ts.length cr], .int .i64 ((nx : Int) + (c2.length : Int)), .int .i64 0]) (by simp [results, go_sem, C]) rfl ?_
                rw [hQ.out]
                have H3 := H.front 2 rfl
                simp only [List.eraseIdx_cons_zero, List.eraseIdx_cons_succ] at H3
                obtain ⟨Os1, H4, hT⟩ := KidsL.tree (tg := ⟨tc, tn, true⟩) gV.out H3 Firm.nilBs
                simp only [List.nil_append] at hT
                have hc2e : c3 = cnt + ((p, nx + c2.length) :: sp2).length := by have := hlen.out; rw [List.length_append, hsp.out] at this; omega
                refine ROneP.okk gR2.out ⟨[_, _, _, _, _], sv2, Os ++ Os1, ?_, ?_, hT⟩
                · rw [show ((at0 + (po + c2.length) : Nat) : Int) = (nx : Int) + (c2.length : Int) by omega]
                · rw [← hc2e]
                  simp only [List.cons_append, List.append_assoc] at H4
                  exact Hp.selA (M := M ++ (Os ++ Os1)) [_, _, _, _] H4 [0, 1] (by decide)
  · have e0 : ((er : Int) != 0) = true := by simp; omega
    have gR : Kp (R = .bad er) := ⟨by rw [hR.out, if_pos h0]⟩
    clear hR hlt
    (repeat' ((fail_if_success (with_reducible show bodyPost _ _ _ _ _ _)); first | ((with_reducible refine Hp.abs_alloc H ?_); intro b' w' H' hb'; (try simp only [hb']); clear hb'; ((try simp only [List.set_cons_zero, List.set_cons_succ, List.setIfInBounds_toArray] at H'); clear C H; have H := H'; clear H'; have C := Hp.facts H; simp only [Facts, factsL, and_true, true_and, List.set_cons_zero, List.set_cons_succ, List.setIfInBounds_toArray] at C)) | ((with_reducible show wpList _ _ _ _ _ (World.setCell _ _ _)); (with_reducible apply Hp.abs_gen H); (first | ((repeat (with_reducible apply Hp.set' 0)); (with_reducible exact H); (repeat rfl); intro w' H') | ((repeat (with_reducible apply Hp.set' 1)); (with_reducible exact H); (repeat rfl); intro w' H') | ((repeat (with_reducible apply Hp.set' 2)); (with_reducible exact H); (repeat rfl); intro w' H') | ((repeat (with_reducible apply Hp.set' 3)); (with_reducible exact H); (repeat rfl); intro w' H') | ((repeat (with_reducible apply Hp.set' 4)); (with_reducible exact H); (repeat rfl); intro w' H') | ((repeat (with_reducible apply Hp.set' 5)); (with_reducible exact H); (repeat rfl); intro w' H') | ((repeat (with_reducible apply Hp.set' 6)); (with_reducible exact H); (repeat rfl); intro w' H') | ((repeat (with_reducible apply Hp.set' 7)); (with_reducible exact H); (repeat rfl); intro w' H') | ((repeat (with_reducible apply Hp.set' 8)); (with_reducible exact H); (repeat rfl); intro w' H') | ((repeat (with_reducible apply Hp.set' 9)); (with_reducible exact H); (repeat rfl); intro w' H')); ((try simp only [List.set_cons_zero, List.set_cons_succ, List.setIfInBounds_toArray] at H'); clear C H; have H := H'; clear H'; have C := Hp.facts H; simp only [Facts, factsL, and_true, true_and, List.set_cons_zero, List.set_cons_succ, List.setIfInBounds_toArray] at C)) | go_values | go_skip | go_guarded | go_step | go_upon | go_back | (simp only [Int.not_lt, Int.not_le] at *; go_simp) | (go_values <;> (try go_simp)) | (go_ite <;> go_prune <;> (try go_simp)) | (split <;> (first | (rename_i hx; exact (hx _ rfl).elim) | go_prune))))
    refine bodyPost_ret (v := .tuple #[.agg #[.int .i64 0, .int .i64 0, .bool false, .slice none 0 0, .slice none 0 0], .int .i64 (p : Int), .int .i64 er]) (by simp [results, go_sem, C]) rfl ?_
    rw [hQ.out]
    exact ROneP.bad gR.out rfl (Hp.drops (M := M) [_, _, _, _] [] H (List.nil_sublist _))
end Go.Proofs.Ytogliinfdfkobaa

