/- Lemmas and walks on the way to the seat's laws; each theorem says its own conditions. -/
import Derived.Test.YtogliinfdfkobaaI4
set_option linter.unusedSimpArgs false
set_option linter.unusedVariables false
set_option linter.unusedSimpArgs false
set_option linter.unusedVariables false
set_option maxRecDepth 100000
namespace Go.Proofs.Ytogliinfdfkobaa
open Go.RowKit Go.Mem Go.Reg Oct Hd Go.LawLift
/-- A tree's bytes lie in a row of one's own. -/
def OwnB (B : Nat) (w : World) (cs : List Value) (t : Tree) : Prop := w.ownsRow B 5 1 (cs.getD 3 undef) t.bytes.length (t.bytes.map u8c)
set_option maxHeartbeats 1600000 in
theorem clone7_any (l : List UInt8) (v : Value) (w : World) (hb : Bs w v l) (hl : l.length ≤ 100000) :
    Calls Try.prog 54 #[v] w fun e w' => (∃ v', e = .returned v' ∧ w'.ownsRow w.heap.size 5 1 v' l.length (l.map u8c)) ∧ Below w.heap.size w w' := by
  obtain ⟨i0, hi, hz0, hz1, hz2⟩ := info_parts info_u8
  obtain ⟨A, c, rfl, hlc, hcm, hA, hcell⟩ := hb.open
  have q9 : ∀ (w : World) (a : Option Addr) (n c n' c' : Nat), (binOp .eql 24 (.slice a n c) (.slice none n' c')).run Try.prog w = .ok (.bool a.isNone) w := fun w a n c n' c' => Lib.run_eql_slice_nil w 24 5 a n c n' c' Try.underlying24
  have H := Hp.start w
  have C : True := trivial
  cases A with
  | none =>
    obtain rfl := hA rfl
    have h0 : l.length = 0 := by omega
    obtain rfl := List.eq_nil_of_length_eq_zero h0
    go_enter Try.func54, Try.ntmps54
    (repeat' ((fail_if_success (with_reducible show bodyPost _ _ _ _ _ _)); first | ((with_reducible refine Hp.abs_alloc H ?_); intro b' w' H' hb'; (try simp only [hb']); clear hb'; ((try simp only [List.set_cons_zero, List.set_cons_succ, List.setIfInBounds_toArray] at H'); clear C H; have H := H'; clear H'; have C := Hp.facts H; simp only [Facts, factsL, and_true, true_and, List.set_cons_zero, List.set_cons_succ, List.setIfInBounds_toArray] at C)) | ((with_reducible show wpList _ _ _ _ _ (World.setCell _ _ _)); (with_reducible apply Hp.abs_gen H); (first | ((repeat (with_reducible apply Hp.set' 0)); (with_reducible exact H); (repeat rfl); intro w' H') | ((repeat (with_reducible apply Hp.set' 1)); (with_reducible exact H); (repeat rfl); intro w' H') | ((repeat (with_reducible apply Hp.set' 2)); (with_reducible exact H); (repeat rfl); intro w' H') | ((repeat (with_reducible apply Hp.set' 3)); (with_reducible exact H); (repeat rfl); intro w' H') | ((repeat (with_reducible apply Hp.set' 4)); (with_reducible exact H); (repeat rfl); intro w' H') | ((repeat (with_reducible apply Hp.set' 5)); (with_reducible exact H); (repeat rfl); intro w' H') | ((repeat (with_reducible apply Hp.set' 6)); (with_reducible exact H); (repeat rfl); intro w' H') | ((repeat (with_reducible apply Hp.set' 7)); (with_reducible exact H); (repeat rfl); intro w' H')); ((try simp only [List.set_cons_zero, List.set_cons_succ, List.setIfInBounds_toArray] at H'); clear C H; have H := H'; clear H'; have C := Hp.facts H; simp only [Facts, factsL, and_true, true_and, List.set_cons_zero, List.set_cons_succ, List.setIfInBounds_toArray] at C)) | go_values | go_skip | go_guarded | go_step | go_upon | go_back | (simp only [Int.not_lt, Int.not_le] at *; go_simp) | (go_values <;> (try go_simp)) | (go_ite <;> go_prune <;> (try go_simp)) | (split <;> (first | (rename_i hx; exact (hx _ rfl).elim) | go_prune))))
    go_ret
    exact ⟨⟨_, rfl, ownsOf (Hp.nilRow H 5 1) 0 rfl⟩, H.low⟩
  | some ad =>
    clear hA hcell
    go_enter Try.func54, Try.ntmps54
    (repeat' ((fail_if_success (at_builtin)); (fail_if_success (with_reducible show bodyPost _ _ _ _ _ _)); first | ((with_reducible refine Hp.abs_alloc H ?_); intro b' w' H' hb'; (try simp only [hb']); clear hb'; ((try simp only [List.set_cons_zero, List.set_cons_succ, List.setIfInBounds_toArray] at H'); clear C H; have H := H'; clear H'; have C := Hp.facts H; simp only [Facts, factsL, and_true, true_and, List.set_cons_zero, List.set_cons_succ, List.setIfInBounds_toArray] at C)) | ((with_reducible show wpList _ _ _ _ _ (World.setCell _ _ _)); (with_reducible apply Hp.abs_gen H); (first | ((repeat (with_reducible apply Hp.set' 0)); (with_reducible exact H); (repeat rfl); intro w' H') | ((repeat (with_reducible apply Hp.set' 1)); (with_reducible exact H); (repeat rfl); intro w' H') | ((repeat (with_reducible apply Hp.set' 2)); (with_reducible exact H); (repeat rfl); intro w' H') | ((repeat (with_reducible apply Hp.set' 3)); (with_reducible exact H); (repeat rfl); intro w' H') | ((repeat (with_reducible apply Hp.set' 4)); (with_reducible exact H); (repeat rfl); intro w' H') | ((repeat (with_reducible apply Hp.set' 5)); (with_reducible exact H); (repeat rfl); intro w' H') | ((repeat (with_reducible apply Hp.set' 6)); (with_reducible exact H); (repeat rfl); intro w' H') | ((repeat (with_reducible apply Hp.set' 7)); (with_reducible exact H); (repeat rfl); intro w' H')); ((try simp only [List.set_cons_zero, List.set_cons_succ, List.setIfInBounds_toArray] at H'); clear C H; have H := H'; clear H'; have C := Hp.facts H; simp only [Facts, factsL, and_true, true_and, List.set_cons_zero, List.set_cons_succ, List.setIfInBounds_toArray] at C)) | go_values | go_skip | go_guarded | go_step | go_upon | go_back | (simp only [Int.not_lt, Int.not_le] at *; go_simp) | (go_values <;> (try go_simp)) | (go_ite <;> go_prune <;> (try go_simp)) | (split <;> (first | (rename_i hx; exact (hx _ rfl).elim) | go_prune))))
    ((have H := Hp.blkRow H 0 rfl 0 1 rfl (by unfold maxLen; omega)); (simp only [List.set_cons_zero, List.set_cons_succ] at H))
    (repeat' ((fail_if_success (with_reducible show bodyPost _ _ _ _ _ _)); first | ((with_reducible refine Hp.abs_alloc H ?_); intro b' w' H' hb'; (try simp only [hb']); clear hb'; ((try simp only [List.set_cons_zero, List.set_cons_succ, List.setIfInBounds_toArray] at H'); clear C H; have H := H'; clear H'; have C := Hp.facts H; simp only [Facts, factsL, and_true, true_and, List.set_cons_zero, List.set_cons_succ, List.setIfInBounds_toArray] at C)) | ((with_reducible show wpList _ _ _ _ _ (World.setCell _ _ _)); (with_reducible apply Hp.abs_gen H); (first | ((repeat (with_reducible apply Hp.set' 0)); (with_reducible exact H); (repeat rfl); intro w' H') | ((repeat (with_reducible apply Hp.set' 1)); (with_reducible exact H); (repeat rfl); intro w' H') | ((repeat (with_reducible apply Hp.set' 2)); (with_reducible exact H); (repeat rfl); intro w' H') | ((repeat (with_reducible apply Hp.set' 3)); (with_reducible exact H); (repeat rfl); intro w' H') | ((repeat (with_reducible apply Hp.set' 4)); (with_reducible exact H); (repeat rfl); intro w' H') | ((repeat (with_reducible apply Hp.set' 5)); (with_reducible exact H); (repeat rfl); intro w' H') | ((repeat (with_reducible apply Hp.set' 6)); (with_reducible exact H); (repeat rfl); intro w' H') | ((repeat (with_reducible apply Hp.set' 7)); (with_reducible exact H); (repeat rfl); intro w' H')); ((try simp only [List.set_cons_zero, List.set_cons_succ, List.setIfInBounds_toArray] at H'); clear C H; have H := H'; clear H'; have C := Hp.facts H; simp only [Facts, factsL, and_true, true_and, List.set_cons_zero, List.set_cons_succ, List.setIfInBounds_toArray] at C)) | (at_builtin; (refine wpList_append_hp H 0 rfl _ _ _ rfl Try.underlying24 hi hz0 hz1 hz2 rfl (by decide) rfl rfl rfl (news := (l).map u8c) ((H.bs hb).src).2.1 ((H.bs hb).src).1 ((H.bs hb).src).2.2 (u8c_one _) (by unfold maxLen; omega) (by omega) ?_); intro v' w' H'; ((try simp only [List.set_cons_zero, List.set_cons_succ, List.setIfInBounds_toArray] at H'); clear C H; have H := H'; clear H'; have C := Hp.facts H; simp only [Facts, factsL, and_true, true_and, List.set_cons_zero, List.set_cons_succ, List.setIfInBounds_toArray] at C)) | go_values | go_skip | go_guarded | go_step | go_upon | go_back | (simp only [Int.not_lt, Int.not_le] at *; go_simp) | (go_values <;> (try go_simp)) | (go_ite <;> go_prune <;> (try go_simp)) | (split <;> (first | (rename_i hx; exact (hx _ rfl).elim) | go_prune))))
    go_ret
    exact ⟨⟨_, rfl, by simpa using ownsOf H 0 rfl⟩, H.low⟩
/-- A struct of a tag and bytes of one's own making. -/
def BldJ (a : Nat) (T : TypeId) (tg : Tg) (bs : List UInt8) (v : Value) (w : World) : Prop := ∃ A c, v = .agg #[.int .i64 tg.c, .int .i64 tg.n, .bool tg.m, .slice A bs.length c, .slice none 0 0] ∧ w.ownsRow a T 1 (.slice A bs.length c) bs.length (bs.map u8c)
theorem BldJ.stay {a : Nat} {T : TypeId} {tg : Tg} {bs : List UInt8} {v : Value} {w w' : World} (hs : AboveR a w w') (h : BldJ a T tg bs v w) : BldJ a T tg bs v w' := by
  obtain ⟨A, c, e, h⟩ := h
  exact ⟨A, c, e, RowJ.stay hs h⟩
/-- copied's loop. -/
def CpRel (M : Value → List Ent) (T : TypeId) (n : Nat) (ks : List Tree) (w : World) (ix : Value) (wr : World) : Prop := ∃ (i : Nat) (rv : Value) (vals : List Value) (Os : List Ent), i ≤ ks.length ∧ ix = .int .i64 i ∧ Hp w (.row T 5 rv i vals :: M rv ++ Os) wr ∧ KidsP w 0 n ks i vals Os
theorem CpRel.mk {M : Value → List Ent} {T : TypeId} {n : Nat} {ks : List Tree} {w : World} {ix : Value} {wr : World} (i : Nat) (rv : Value) (vals : List Value) (Os : List Ent) (h1 : i ≤ ks.length) (h2 : ix = .int .i64 i) (h3 : Hp w (.row T 5 rv i vals :: M rv ++ Os) wr) (h4 : KidsP w 0 n ks i vals Os) : CpRel M T n ks w ix wr := ⟨i, rv, vals, Os, h1, h2, h3, h4⟩
set_option maxHeartbeats 3200000 in
theorem copied_any : ∀ (n : Nat) (t : Tree) (cs : List Value) (w : World), ItN w n t cs → t.count ≤ 200000 → t.total ≤ 100000 → Calls Try.prog 41 #[.agg cs.toArray] w fun e w' => (∃ cs' : List Value, e = .returned (.agg cs'.toArray) ∧ ItP (fun b => b < 0 ∨ w.heap.size ≤ b) w' n t cs' ∧ OwnB w.heap.size w' cs' t) ∧ Below w.heap.size w w' := by
  intro n
  induction n with
  | zero => intro t cs w h; exact h.elim
  | succ n ih =>
  intro t cs w ht hcn htot
  obtain ⟨i0, hi, hz0, hz1, hz2⟩ := info_parts info_it
  obtain ⟨vb, A, c, rfl, hb, hlc, hcm, hA, hk⟩ := ht.open
  have H := Hp.start w
  have C : True := trivial
  have hcap : c ≤ 9223372036854775807 := hcm
  have hat := Tree.counts_at t.kids
  have htt := Tree.totals_at t.kids
  have hcl := Tree.len_counts t.kids
  have hc1 := t.count_is
  have hc2 := t.total_is
  obtain ⟨tg, bs, ks⟩ := t
  simp only [Tree.kids, Tree.tag, Tree.bytes] at *
  have gat := Kp.mk (fun j (hj : j < ks.length) => show ks[j].count ≤ 200000 by have := hat j hj; omega)
  have gtt := Kp.mk (fun j (hj : j < ks.length) => show ks[j].total ≤ 100000 by have := htt j hj; omega)
  have hkl : ks.length ≤ 200000 := by omega
  have hbl : bs.length ≤ 100000 := by omega
  have hcl2 := fun w1 (h : Below w.heap.size w w1) => clone7_any bs _ w1 (hb.step h) hbl
  obtain ⟨Bv, cv, rfl⟩ : ∃ Bv cv, vb = .slice Bv bs.length cv := by
    obtain ⟨Bv, cv, e, -⟩ := hb
    exact ⟨Bv, cv, by simpa using e⟩
  clear hat hcl hc1 hc2 htt htot hcn ht hcm hb
  go_enter Try.func41, Try.ntmps41
  (repeat' ((fail_if_success (with_reducible show bodyPost _ _ _ _ _ _)); first | ((with_reducible refine Hp.abs_alloc H ?_); intro b' w' H' hb'; (try simp only [hb']); clear hb'; ((try simp only [List.set_cons_zero, List.set_cons_succ, List.setIfInBounds_toArray] at H'); clear C H; have H := H'; clear H'; have C := Hp.facts H; simp only [Facts, factsL, and_true, true_and, List.set_cons_zero, List.set_cons_succ, List.setIfInBounds_toArray] at C)) | ((with_reducible show wpList _ _ _ _ _ (World.setCell _ _ _)); (with_reducible apply Hp.abs_gen H); (first | ((repeat (with_reducible apply Hp.set' 0)); (with_reducible exact H); (repeat rfl); intro w' H') | ((repeat (with_reducible apply Hp.set' 1)); (with_reducible exact H); (repeat rfl); intro w' H') | ((repeat (with_reducible apply Hp.set' 2)); (with_reducible exact H); (repeat rfl); intro w' H') | ((repeat (with_reducible apply Hp.set' 3)); (with_reducible exact H); (repeat rfl); intro w' H') | ((repeat (with_reducible apply Hp.set' 4)); (with_reducible exact H); (repeat rfl); intro w' H') | ((repeat (with_reducible apply Hp.set' 5)); (with_reducible exact H); (repeat rfl); intro w' H') | ((repeat (with_reducible apply Hp.set' 6)); (with_reducible exact H); (repeat rfl); intro w' H') | ((repeat (with_reducible apply Hp.set' 7)); (with_reducible exact H); (repeat rfl); intro w' H')); ((try simp only [List.set_cons_zero, List.set_cons_succ, List.setIfInBounds_toArray] at H'); clear C H; have H := H'; clear H'; have C := Hp.facts H; simp only [Facts, factsL, and_true, true_and, List.set_cons_zero, List.set_cons_succ, List.setIfInBounds_toArray] at C)) | go_values | go_skip | go_guarded | go_step | go_upon | go_back | (simp only [Int.not_lt, Int.not_le] at *; go_simp) | (go_values <;> (try go_simp)) | (go_ite <;> go_prune <;> (try go_simp)) | (split <;> (first | (rename_i hx; exact (hx _ rfl).elim) | go_prune))))
  try simp (disch := omega) only [decide_eq_true, decide_eq_false]
  obtain ⟨wR1cp, rfl⟩ := Hp.nameW H
  apply region_n (frm wR1cp.heap.size (fun _ => Hp _ _)) (frm_ok ?hfs_1) frm_sz [] [.light 0 0, .light 0 0, .light 0 0, .light 0 0, .light 0 0, .light 0 0, .light 0 0] [false, false, false, false, false, false, true] 7 28 [7, 7, 7, 7, 7, 7, 7] [some 6, some 7, some 8, some 9, some 10, some 11, some 3] [[], [0], [], [2], [3], [1, 4], []] [Eq1 _, Eq1 _, Eq1 _, Eq1 _, (RowJ wR1cp.heap.size 5 bs.length (bs.map u8c)), (BldJ wR1cp.heap.size 5 tg bs), NewPt wR1cp.heap.size _ _] ?hq1_1 ?hq2_1 ?hq3_1 ?hq4_1 ?hq5_1 ?hq6_1 _ ?hA_1 ?hst_1 ?h0_1 ?hsteps_1 ?hend_1
  case hq1_1 => kernel_rfl
  case hq2_1 => kernel_rfl
  case hq3_1 => kernel_rfl
  case hq5_1 => kernel_rfl
  case hq4_1 => rfl
  case hq6_1 => rfl
  case hA_1 => intro vs; simp only [fillD, Nat.reduceAdd, Act.put, List.setIfInBounds_toArray, List.set_cons_zero, List.set_cons_succ]; rfl
  case h0_1 => exact H.drew
  case hfs_1 => exact fun _ _ _ hb h => Hp.step h hb
  case hsteps_1 =>
    refine ⟨?_, ?_, ?_, ?_, ?_, ?_, ?_, trivial⟩
    · intro p vs w' K hJ hp1 hp2 hS hR hK
      rw [if_pos (by rfl)]
      go_step
      exact hK.out _ _ (Below.refl _ _) Eq1.mk Fresh.no
    · intro p vs w' K hJ hp1 hp2 hS hR hK
      simp only [DepJ, List.getD_cons_zero, List.getD_cons_succ] at hJ
      obtain ⟨j0, -⟩ := hJ
      have j0 := Eq1.out j0
      simp only [j0] at hK ⊢
      rw [if_pos (by rfl)]
      have C := Hp.facts hS
      simp only [Facts, factsL, and_true, true_and, List.set_cons_zero, List.set_cons_succ, List.setIfInBounds_toArray] at C
      have hsz := hR.1
      go_step
      exact hK.out _ _ (Below.refl _ _) Eq1.mk Fresh.no
    · intro p vs w' K hJ hp1 hp2 hS hR hK
      rw [if_pos (by rfl)]
      go_step
      exact hK.out _ _ (Below.refl _ _) Eq1.mk Fresh.no
    · intro p vs w' K hJ hp1 hp2 hS hR hK
      simp only [DepJ, List.getD_cons_zero, List.getD_cons_succ] at hJ
      obtain ⟨j2, -⟩ := hJ
      have j2 := Eq1.out j2
      simp only [j2] at hK ⊢
      rw [if_pos (by rfl)]
      have C := Hp.facts hS
      simp only [Facts, factsL, and_true, true_and, List.set_cons_zero, List.set_cons_succ, List.setIfInBounds_toArray] at C
      have hsz := hR.1
      go_step
      exact hK.out _ _ (Below.refl _ _) Eq1.mk Fresh.no
    · intro p vs w' K hJ hp1 hp2 hS hR hK
      simp only [DepJ, List.getD_cons_zero, List.getD_cons_succ] at hJ
      obtain ⟨j3, -⟩ := hJ
      have j3 := Eq1.out j3
      simp only [j3] at hK ⊢
      rw [if_pos (by rfl)]
      have C := Hp.facts hS
      simp only [Facts, factsL, and_true, true_and, List.set_cons_zero, List.set_cons_succ, List.setIfInBounds_toArray] at C
      have hsz := hR.1
      go_step
      refine (hcl2 _ (show Hp _ _ _ from hS).low).mono ?_
      rintro e' w'' ⟨⟨v', rfl, ho⟩, hb⟩
      exact hK.out _ _ hb (RowJ.mk hR.1 ho) Fresh.no
    · intro p vs w' K hJ hp1 hp2 hS hR hK
      simp only [DepJ, List.getD_cons_zero, List.getD_cons_succ] at hJ
      obtain ⟨j1, j4, -⟩ := hJ
      have j1 := Eq1.out j1
      have jo4 := j4
      obtain ⟨A4, c4, j4⟩ := Go.LawLift.own_form jo4
      rw [j4] at jo4
      simp only [j1, j4] at hK ⊢
      rw [if_pos (by rfl)]
      go_step
      exact hK.out _ _ (Below.refl _ _) ⟨_, _, rfl, jo4⟩ Fresh.no
    · intro p vs w' K hJ hp1 hp2 hS hR hK
      rw [if_pos (by rfl)]
      go_step
      exact hK.out _ _ ((Below.refl _ _).alloc (Nat.le_refl _) _) (NewPt.mk _ _ _ _ hR.1) Fresh.pt
  case hst_1 => refine ⟨fun _ _ _ _ h => h, fun _ _ _ _ h => h, fun _ _ _ _ h => h, fun _ _ _ _ h => h, fun _ _ _ hs h => RowJ.stay hs h, fun _ _ _ hs h => BldJ.stay hs h, fun _ _ _ hs h => NewPt.stayR hs h, trivial⟩
  intro vs w' hJ hD hS hR
  simp only [AllJ, Nat.reduceAdd] at hJ
  obtain ⟨v0, v1, v2, v3, v4, v5, v6, -⟩ := hJ
  clear C
  replace v0 := Eq1.out v0
  replace v1 := Eq1.out v1
  replace v2 := Eq1.out v2
  replace v3 := Eq1.out v3
  obtain ⟨A4, c4, e4⟩ := Go.LawLift.own_form (show World.ownsRow _ _ _ _ _ _ _ from v4)
  obtain ⟨A5, c5, e5, vo5⟩ := v5
  obtain ⟨k6, e6, hB6, hh6⟩ := v6
  simp only [v0, v1, v2, v3, e4, e5, e6, List.drop_succ_cons, List.drop_zero]
  replace hS : Hp _ _ _ := hS
  have H' := Hp.adopts hS H.low.size (fun k hk => Hp.lows H k hk) [.blk k6 _ _, .row _ 1 (.slice A5 bs.length c5) bs.length (bs.map u8c)] (by intro x hx; simp only [List.mem_cons, List.not_mem_nil, or_false] at hx; rcases hx with rfl | rfl; exact ⟨hh6, hB6⟩; exact vo5) (nodup2 (fun k h1 h2 => row_blk_apart vo5 hh6 (by decide) k h2 h1))
  simp only [List.cons_append, List.nil_append] at H'
  clear hD hR hS v0 v1 v2 v3
  clear e6 hB6 hh6
  clear v4 e4
  clear e5 vo5
  clear vs H
  have H := H'; clear H'; have C := Hp.facts H; simp only [Facts, factsL, and_true, true_and, List.set_cons_zero, List.set_cons_succ, List.setIfInBounds_toArray] at C
  (repeat' ((fail_if_success (with_reducible show bodyPost _ _ _ _ _ _)); first | ((with_reducible refine Hp.abs_alloc H ?_); intro b' w' H' hb'; (try simp only [hb']); clear hb'; ((try simp only [List.set_cons_zero, List.set_cons_succ, List.setIfInBounds_toArray] at H'); clear C H; have H := H'; clear H'; have C := Hp.facts H; simp only [Facts, factsL, and_true, true_and, List.set_cons_zero, List.set_cons_succ, List.setIfInBounds_toArray] at C)) | ((with_reducible show wpList _ _ _ _ _ (World.setCell _ _ _)); (with_reducible apply Hp.abs_gen H); (first | ((repeat (with_reducible apply Hp.set' 0)); (with_reducible exact H); (repeat rfl); intro w' H') | ((repeat (with_reducible apply Hp.set' 1)); (with_reducible exact H); (repeat rfl); intro w' H') | ((repeat (with_reducible apply Hp.set' 2)); (with_reducible exact H); (repeat rfl); intro w' H') | ((repeat (with_reducible apply Hp.set' 3)); (with_reducible exact H); (repeat rfl); intro w' H') | ((repeat (with_reducible apply Hp.set' 4)); (with_reducible exact H); (repeat rfl); intro w' H') | ((repeat (with_reducible apply Hp.set' 5)); (with_reducible exact H); (repeat rfl); intro w' H') | ((repeat (with_reducible apply Hp.set' 6)); (with_reducible exact H); (repeat rfl); intro w' H') | ((repeat (with_reducible apply Hp.set' 7)); (with_reducible exact H); (repeat rfl); intro w' H')); ((try simp only [List.set_cons_zero, List.set_cons_succ, List.setIfInBounds_toArray] at H'); clear C H; have H := H'; clear H'; have C := Hp.facts H; simp only [Facts, factsL, and_true, true_and, List.set_cons_zero, List.set_cons_succ, List.setIfInBounds_toArray] at C)) | go_values | go_skip | go_guarded | go_step | go_upon | go_back | (simp only [Int.not_lt, Int.not_le] at *; go_simp) | (go_values <;> (try go_simp)) | (go_ite <;> go_prune <;> (try go_simp)) | (split <;> (first | (rename_i hx; exact (hx _ rfl).elim) | go_prune))))
  have H := H.nilRow 41 5
  (obtain ⟨bx, rfl⟩ := Hp.name H 1 rfl)
  (obtain ⟨b2, rfl⟩ := Hp.name H 3 rfl)
  (obtain ⟨bt, rfl⟩ := Hp.name H 4 rfl)
  go_loopw [15, 5] (fun ix _ wr => CpRel (fun rv => [.blk bx #[.int .i64 tg.c, .int .i64 tg.n, .bool tg.m, .slice A5 bs.length c5, rv] 41, .row 5 1 (.slice A5 bs.length c5) bs.length (bs.map u8c), .blk b2 #[.int .i64 0, .int .i64 0, .bool false, .slice none 0 0, .slice none 0 0] 41, .blk bt #[.int .i64 tg.c, .int .i64 tg.n, .bool tg.m, .slice Bv bs.length cv, .slice A ks.length c] 41]) 41 n ks w ix wr) (fun ix _ _ => ks.length - (intOf ix).toNat)
  case atStart => exact CpRel.mk 0 _ [] [] (Nat.zero_le _) rfl H KidsP.zero
  case round =>
    clear H C
    obtain ⟨i, rv, vals, Os, hi1, rfl, H, gK⟩ := hrel
    simp only [List.cons_append, List.nil_append] at H
    have gK := Kp.mk gK
    have C := Hp.facts H
    simp only [Facts, factsL, and_true, true_and, List.set_cons_zero, List.set_cons_succ, List.setIfInBounds_toArray] at C
    by_cases hlt : i < ks.length
    · obtain ⟨b, o, rfl, hgl, d0, d1, d2, d3, d4, q0, q1, q2, q3, q4, hkid⟩ := hk i hlt
      have hih := fun w1 (h : Below w.heap.size w w1) => ih ks[i] [d0, d1, d2, d3, d4] w1 (hkid.step h) (gat.out i hlt) (gtt.out i hlt)
      obtain ⟨zx, zy, zb, zA, zA2, zk, zc, zk2, zc2, rfl, rfl, rfl, rfl, rfl⟩ := hkid.forms
      clear hk hkid ih
      (repeat' ((fail_if_success (with_reducible show bodyPost _ _ _ _ _ _)); first | ((with_reducible refine Hp.abs_alloc H ?_); intro b' w' H' hb'; (try simp only [hb']); clear hb'; ((try simp only [List.set_cons_zero, List.set_cons_succ, List.setIfInBounds_toArray] at H'); clear C H; have H := H'; clear H'; have C := Hp.facts H; simp only [Facts, factsL, and_true, true_and, List.set_cons_zero, List.set_cons_succ, List.setIfInBounds_toArray] at C)) | ((with_reducible show wpList _ _ _ _ _ (World.setCell _ _ _)); (with_reducible apply Hp.abs_gen H); (first | ((repeat (with_reducible apply Hp.set' 0)); (with_reducible exact H); (repeat rfl); intro w' H') | ((repeat (with_reducible apply Hp.set' 1)); (with_reducible exact H); (repeat rfl); intro w' H') | ((repeat (with_reducible apply Hp.set' 2)); (with_reducible exact H); (repeat rfl); intro w' H') | ((repeat (with_reducible apply Hp.set' 3)); (with_reducible exact H); (repeat rfl); intro w' H') | ((repeat (with_reducible apply Hp.set' 4)); (with_reducible exact H); (repeat rfl); intro w' H') | ((repeat (with_reducible apply Hp.set' 5)); (with_reducible exact H); (repeat rfl); intro w' H') | ((repeat (with_reducible apply Hp.set' 6)); (with_reducible exact H); (repeat rfl); intro w' H') | ((repeat (with_reducible apply Hp.set' 7)); (with_reducible exact H); (repeat rfl); intro w' H')); ((try simp only [List.set_cons_zero, List.set_cons_succ, List.setIfInBounds_toArray] at H'); clear C H; have H := H'; clear H'; have C := Hp.facts H; simp only [Facts, factsL, and_true, true_and, List.set_cons_zero, List.set_cons_succ, List.setIfInBounds_toArray] at C)) | go_values | go_skip | go_guarded | go_step | go_upon | go_back | (simp only [Int.not_lt, Int.not_le] at *; go_simp) | (go_values <;> (try go_simp)) | (go_ite <;> go_prune <;> (try go_simp)) | (split <;> (first | (rename_i hx; exact (hx _ rfl).elim) | go_prune))))
      have gH := Kp.mk (And.intro (Hp.lows H) H.low.size)
      try simp (disch := omega) only [decide_eq_true, decide_eq_false]
      obtain ⟨wR5cpk, rfl⟩ := Hp.nameW H
      apply region_n (frm wR5cpk.heap.size (fun _ => Hp _ _)) (frm_ok ?hfs_2) frm_sz [] [.light 0 0, .light 0 0, .light 0 0, .light 0 0, .light 0 0] [false, false, false, false, false] 5 28 [1, 5, 3, 5, 5] [some 19, some 20, some 21, some 22, some 23] [[], [0], [], [2], [3]] [Eq1 _, Eq1 _, Eq1 _, (TreeV wR5cpk.heap.size 0 w n ks[i]), (TreeS wR5cpk.heap.size 0 w n ks[i] 41)] ?hq1_2 ?hq2_2 ?hq3_2 ?hq4_2 ?hq5_2 ?hq6_2 _ ?hA_2 ?hst_2 ?h0_2 ?hsteps_2 ?hend_2
      case hq1_2 => kernel_rfl
      case hq2_2 => kernel_rfl
      case hq3_2 => kernel_rfl
      case hq5_2 => kernel_rfl
      case hq4_2 => rfl
      case hq6_2 => rfl
      case hA_2 => intro vs; simp only [fillD, Nat.reduceAdd, Act.put, List.setIfInBounds_toArray, List.set_cons_zero, List.set_cons_succ]; rfl
      case h0_2 => exact H.drew
      case hfs_2 => exact fun _ _ _ hb h => Hp.step h hb
      case hsteps_2 =>
        refine ⟨?_, ?_, ?_, ?_, ?_, trivial⟩
        · intro p vs w' K hJ hp1 hp2 hS hR hK
          rw [if_pos (by rfl)]
          go_step
          exact hK.out _ _ (Below.refl _ _) Eq1.mk Fresh.no
        · intro p vs w' K hJ hp1 hp2 hS hR hK
          simp only [DepJ, List.getD_cons_zero, List.getD_cons_succ] at hJ
          obtain ⟨j0, -⟩ := hJ
          have j0 := Eq1.out j0
          simp only [j0] at hK ⊢
          rw [if_pos (by rfl)]
          have C := Hp.facts hS
          simp only [Facts, factsL, and_true, true_and, List.set_cons_zero, List.set_cons_succ, List.setIfInBounds_toArray] at C
          have hsz := hR.1
          go_step
          exact hK.out _ _ (Below.refl _ _) Eq1.mk Fresh.no
        · intro p vs w' K hJ hp1 hp2 hS hR hK
          rw [if_pos (by rfl)]
          have C := Hp.facts hS
          simp only [Facts, factsL, and_true, true_and, List.set_cons_zero, List.set_cons_succ, List.setIfInBounds_toArray] at C
          have hsz := hR.1
          go_step
          exact hK.out _ _ (Below.refl _ _) Eq1.mk Fresh.no
        · intro p vs w' K hJ hp1 hp2 hS hR hK
          simp only [DepJ, List.getD_cons_zero, List.getD_cons_succ] at hJ
          obtain ⟨j2, -⟩ := hJ
          have j2 := Eq1.out j2
          simp only [j2] at hK ⊢
          rw [if_pos (by rfl)]
          have C := Hp.facts hS
          simp only [Facts, factsL, and_true, true_and, List.set_cons_zero, List.set_cons_succ, List.setIfInBounds_toArray] at C
          have hsz := hR.1
          go_step
          refine (hih _ (show Hp _ _ _ from hS).low).mono ?_
          rintro e' w'' ⟨⟨cs2, rfl, ht2, -⟩, hb2⟩
          exact hK.out _ _ hb2 (TreeV.mk (show Hp _ _ _ from hS) (Nat.zero_le _) hR.1 hb2 ht2) Fresh.no
        · intro p vs w' K hJ hp1 hp2 hS hR hK
          simp only [DepJ, List.getD_cons_zero, List.getD_cons_succ] at hJ
          obtain ⟨j3, -⟩ := hJ
          obtain ⟨x0, x1, x2, x3, x4, j3, t3⟩ := j3
          simp only [j3] at hK ⊢
          rw [if_pos (by rfl)]
          go_step
          exact hK.out _ _ ((Below.refl _ _).alloc (Nat.le_refl _) _) (TreeS.mk hR.1 t3) Fresh.no
      case hst_2 => refine ⟨fun _ _ _ _ h => h, fun _ _ _ _ h => h, fun _ _ _ _ h => h, fun _ _ _ hs h => TreeV.stay hs h, fun _ _ _ hs h => TreeS.stay hs h, trivial⟩
      intro vs w' hJ hD hS hR
      simp only [AllJ, Nat.reduceAdd] at hJ
      obtain ⟨v0, v1, v2, v3, v4, -⟩ := hJ
      clear C
      replace v0 := Eq1.out v0
      replace v1 := Eq1.out v1
      replace v2 := Eq1.out v2
      obtain ⟨x0, x1, x2, x3, x4, e3, t3⟩ := v3
      obtain ⟨k4, y0, y1, y2, y3, y4, e4, hk4, hh4, t4⟩ := v4
      simp only [v0, v1, v2, e3, e4, List.drop_succ_cons, List.drop_zero]
      have H' : Hp _ _ _ := hS
      clear hD hR hS v0 v1 v2
      clear t3 e3
      clear e4
      clear vs H
      have H := H'; clear H'; have C := Hp.facts H; simp only [Facts, factsL, and_true, true_and, List.set_cons_zero, List.set_cons_succ, List.setIfInBounds_toArray] at C
      clear C
      have ht8 := t4.out H (Nat.zero_le _)
      have hc8 := cells_of (cs := [y0, y1, y2, y3, y4]) hh4
      have h18 := ht8.ones
      obtain ⟨Os2, H2, gK2⟩ := gK.out.more (Nat.zero_le _) hlt (M := [_, _, _, _, _, _]) H gH.out.1 gH.out.2 ht8
      simp only [List.cons_append, List.nil_append] at H2
      have gK2 := Kp.mk gK2
      clear ht8 t4 gK gH H hh4
      have H := H2
      clear H2
      have C := Hp.facts H
      simp only [Facts, factsL, and_true, true_and, List.set_cons_zero, List.set_cons_succ, List.setIfInBounds_toArray] at C
      (repeat' ((fail_if_success (with_reducible show bodyPost _ _ _ _ _ _)); first | ((with_reducible refine Hp.abs_alloc H ?_); intro b' w' H' hb'; (try simp only [hb']); clear hb'; ((try simp only [List.set_cons_zero, List.set_cons_succ, List.setIfInBounds_toArray] at H'); clear C H; have H := H'; clear H'; have C := Hp.facts H; simp only [Facts, factsL, and_true, true_and, List.set_cons_zero, List.set_cons_succ, List.setIfInBounds_toArray] at C)) | ((with_reducible show wpList _ _ _ _ _ (World.setCell _ _ _)); (with_reducible apply Hp.abs_gen H); (first | ((repeat (with_reducible apply Hp.set' 0)); (with_reducible exact H); (repeat rfl); intro w' H') | ((repeat (with_reducible apply Hp.set' 1)); (with_reducible exact H); (repeat rfl); intro w' H') | ((repeat (with_reducible apply Hp.set' 2)); (with_reducible exact H); (repeat rfl); intro w' H') | ((repeat (with_reducible apply Hp.set' 3)); (with_reducible exact H); (repeat rfl); intro w' H') | ((repeat (with_reducible apply Hp.set' 4)); (with_reducible exact H); (repeat rfl); intro w' H') | ((repeat (with_reducible apply Hp.set' 5)); (with_reducible exact H); (repeat rfl); intro w' H') | ((repeat (with_reducible apply Hp.set' 6)); (with_reducible exact H); (repeat rfl); intro w' H') | ((repeat (with_reducible apply Hp.set' 7)); (with_reducible exact H); (repeat rfl); intro w' H')); ((try simp only [List.set_cons_zero, List.set_cons_succ, List.setIfInBounds_toArray] at H'); clear C H; have H := H'; clear H'; have C := Hp.facts H; simp only [Facts, factsL, and_true, true_and, List.set_cons_zero, List.set_cons_succ, List.setIfInBounds_toArray] at C)) | (at_builtin; (refine wpList_append_hp H 1 rfl _ _ _ rfl Try.underlying39 hi hz0 hz1 hz2 rfl (by decide) rfl rfl rfl (news := [y0, y1, y2, y3, y4]) rfl (fun h => by cases h) (fun _ => ⟨_, rfl, hc8⟩) h18 (by unfold maxLen; omega) (by omega) ?_); intro v' w' H'; (obtain ⟨Av, cw, rfl⟩ := Go.LawLift.own_form (H'.ok _ (List.mem_cons_of_mem _ (List.mem_cons_self ..)))); ((try simp only [List.set_cons_zero, List.set_cons_succ, List.setIfInBounds_toArray] at H'); clear C H; have H := H'; clear H'; have C := Hp.facts H; simp only [Facts, factsL, and_true, true_and, List.set_cons_zero, List.set_cons_succ, List.setIfInBounds_toArray] at C)) | go_values | go_skip | go_guarded | go_step | go_upon | go_back | (simp only [Int.not_lt, Int.not_le] at *; go_simp) | (go_values <;> (try go_simp)) | (go_ite <;> go_prune <;> (try go_simp)) | (split <;> (first | (rename_i hx; exact (hx _ rfl).elim) | go_prune))))
      exact ⟨CpRel.mk (i + 1) _ _ _ (by omega) (by go_num) H.tail gK2.out, by simp [intOf]; omega⟩
    · obtain rfl : i = ks.length := by omega
      clear hk ih
      obtain ⟨Av, cw, rfl⟩ := Go.LawLift.own_form (H.ok _ (List.mem_cons_self ..))
      (repeat' ((fail_if_success (with_reducible show bodyPost _ _ _ _ _ _)); first | ((with_reducible refine Hp.abs_alloc H ?_); intro b' w' H' hb'; (try simp only [hb']); clear hb'; ((try simp only [List.set_cons_zero, List.set_cons_succ, List.setIfInBounds_toArray] at H'); clear C H; have H := H'; clear H'; have C := Hp.facts H; simp only [Facts, factsL, and_true, true_and, List.set_cons_zero, List.set_cons_succ, List.setIfInBounds_toArray] at C)) | ((with_reducible show wpList _ _ _ _ _ (World.setCell _ _ _)); (with_reducible apply Hp.abs_gen H); (first | ((repeat (with_reducible apply Hp.set' 0)); (with_reducible exact H); (repeat rfl); intro w' H') | ((repeat (with_reducible apply Hp.set' 1)); (with_reducible exact H); (repeat rfl); intro w' H') | ((repeat (with_reducible apply Hp.set' 2)); (with_reducible exact H); (repeat rfl); intro w' H') | ((repeat (with_reducible apply Hp.set' 3)); (with_reducible exact H); (repeat rfl); intro w' H') | ((repeat (with_reducible apply Hp.set' 4)); (with_reducible exact H); (repeat rfl); intro w' H') | ((repeat (with_reducible apply Hp.set' 5)); (with_reducible exact H); (repeat rfl); intro w' H') | ((repeat (with_reducible apply Hp.set' 6)); (with_reducible exact H); (repeat rfl); intro w' H') | ((repeat (with_reducible apply Hp.set' 7)); (with_reducible exact H); (repeat rfl); intro w' H')); ((try simp only [List.set_cons_zero, List.set_cons_succ, List.setIfInBounds_toArray] at H'); clear C H; have H := H'; clear H'; have C := Hp.facts H; simp only [Facts, factsL, and_true, true_and, List.set_cons_zero, List.set_cons_succ, List.setIfInBounds_toArray] at C)) | go_values | go_skip | go_guarded | go_step | go_upon | go_back | (simp only [Int.not_lt, Int.not_le] at *; go_simp) | (go_values <;> (try go_simp)) | (go_ite <;> go_prune <;> (try go_simp)) | (split <;> (first | (rename_i hx; exact (hx _ rfl).elim) | go_prune))))
      refine bodyPost_ret (v := .agg #[.int .i64 tg.c, .int .i64 tg.n, .bool tg.m, .slice A5 bs.length c5, .slice Av ks.length cw]) (by simp [results, go_sem, C]) rfl ?_
      refine ⟨⟨[_, _, _, _, _], rfl, gK.out.tree (Nat.zero_le _) H (fun x hx => by simp only [List.mem_cons]; exact .inr (.inr (.inr (.inr (.inr hx))))) 0 rfl (H.rowRob 2 rfl), ownsOf H 2 rfl⟩, H.low⟩
end Go.Proofs.Ytogliinfdfkobaa

