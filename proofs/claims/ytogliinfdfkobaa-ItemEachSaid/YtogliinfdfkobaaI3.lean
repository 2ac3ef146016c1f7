/- Lemmas and walks on the way to the seat's laws; each theorem says its own conditions. -/
import Derived.Test.YtogliinfdfkobaaI2
import Derived.Test.YtogliinfdfkobaaH1
set_option linter.unusedSimpArgs false
set_option linter.unusedVariables false
set_option linter.unusedSimpArgs false
set_option linter.unusedVariables false
set_option maxRecDepth 100000
namespace Go.Proofs.Ytogliinfdfkobaa
open Go.RowKit Go.Mem Go.Reg Oct Hd Go.LawLift
/-- A loop that copies a tree's kids: what has come so far. -/
def ToRel (M : Value → List Ent) (T : TypeId) (n B : Nat) (ks : List Tree) (w : World) (ix : Value) (wr : World) : Prop := ∃ (i : Nat) (rv : Value) (vals : List Value) (Os : List Ent), i ≤ ks.length ∧ ix = .int .i64 i ∧ Hp w (.row T 5 rv i vals :: M rv ++ Os) wr ∧ KidsP w B n ks i vals Os
theorem ToRel.mk {M : Value → List Ent} {T : TypeId} {n B : Nat} {ks : List Tree} {w : World} {ix : Value} {wr : World} (i : Nat) (rv : Value) (vals : List Value) (Os : List Ent) (h1 : i ≤ ks.length) (h2 : ix = .int .i64 i) (h3 : Hp w (.row T 5 rv i vals :: M rv ++ Os) wr) (h4 : KidsP w B n ks i vals Os) : ToRel M T n B ks w ix wr := ⟨i, rv, vals, Os, h1, h2, h3, h4⟩
theorem info_it : (Try.prog.info? 41).map (fun i => (i.zero, i.size, i.bytes)) = some (some (.agg #[.int .i64 0, .int .i64 0, .bool false, .slice none 0 0, .slice none 0 0]), 5, 72) := by kernel_rfl
theorem info_ri : (Try.prog.info? 27).map (fun i => (i.zero, i.size, i.bytes)) = some (some (.agg #[.int .i64 0, .int .i64 0, .bool false, .slice none 0 0, .slice none 0 0]), 5, 72) := by kernel_rfl
set_option maxHeartbeats 3200000 in
theorem to7_any : ∀ (n : Nat) (t : Tree) (cs : List Value) (w : World) (B : Nat), B ≤ w.heap.size → ItP (· < B) w n t cs → t.count ≤ 200000 → Calls Try.prog 13 #[.agg cs.toArray] w fun e w' => (∃ cs' : List Value, e = .returned (.agg cs'.toArray) ∧ ItP (fun b => b < B ∨ w.heap.size ≤ b) w' n t cs') ∧ Below w.heap.size w w' := by
  intro n
  induction n with
  | zero => intro t cs w B hB h; exact h.elim
  | succ n ih =>
  intro t cs w B hB ht hcn
  obtain ⟨i0, hi, hz0, hz1, hz2⟩ := info_parts info_it
  obtain ⟨vb, A, c, rfl, hb, hlc, hcm, hA, hk⟩ := ht.opened
  have H := Hp.start w
  have C : True := trivial
  have hcap : c ≤ 9223372036854775807 := hcm
  have hat := Tree.counts_at t.kids
  have hcl := Tree.len_counts t.kids
  have hc1 := t.count_is
  obtain ⟨tg, bs, ks⟩ := t
  simp only [Tree.kids, Tree.tag, Tree.bytes] at *
  have gat := Kp.mk (fun j (hj : j < ks.length) => show ks[j].count ≤ 200000 by have := hat j hj; omega)
  have hkl : ks.length ≤ 200000 := by omega
  have gB := Kp.mk hB
  have gb := Kp.mk hb
  obtain ⟨Bv, cv, rfl⟩ : ∃ Bv cv, vb = .slice Bv bs.length cv := by
    obtain ⟨Bv, cv, e, -⟩ := hb.out
    exact ⟨Bv, cv, by simpa using e⟩
  clear hat hcl hc1 hcn ht hcm hb hB
  go_enter Try.func13, Try.ntmps13
  (repeat' ((fail_if_success (with_reducible show bodyPost _ _ _ _ _ _)); first | ((with_reducible refine Hp.abs_alloc H ?_); intro b' w' H' hb'; (try simp only [hb']); clear hb'; ((try simp only [List.set_cons_zero, List.set_cons_succ, List.setIfInBounds_toArray] at H'); clear C H; have H := H'; clear H'; have C := Hp.facts H; simp only [Facts, factsL, and_true, true_and, List.set_cons_zero, List.set_cons_succ, List.setIfInBounds_toArray] at C)) | ((with_reducible show wpList _ _ _ _ _ (World.setCell _ _ _)); (with_reducible apply Hp.abs_gen H); (first | ((repeat (with_reducible apply Hp.set' 0)); (with_reducible exact H); (repeat rfl); intro w' H') | ((repeat (with_reducible apply Hp.set' 1)); (with_reducible exact H); (repeat rfl); intro w' H') | ((repeat (with_reducible apply Hp.set' 2)); (with_reducible exact H); (repeat rfl); intro w' H') | ((repeat (with_reducible apply Hp.set' 3)); (with_reducible exact H); (repeat rfl); intro w' H') | ((repeat (with_reducible apply Hp.set' 4)); (with_reducible exact H); (repeat rfl); intro w' H') | ((repeat (with_reducible apply Hp.set' 5)); (with_reducible exact H); (repeat rfl); intro w' H') | ((repeat (with_reducible apply Hp.set' 6)); (with_reducible exact H); (repeat rfl); intro w' H') | ((repeat (with_reducible apply Hp.set' 7)); (with_reducible exact H); (repeat rfl); intro w' H')); ((try simp only [List.set_cons_zero, List.set_cons_succ, List.setIfInBounds_toArray] at H'); clear C H; have H := H'; clear H'; have C := Hp.facts H; simp only [Facts, factsL, and_true, true_and, List.set_cons_zero, List.set_cons_succ, List.setIfInBounds_toArray] at C)) | go_values | go_skip | go_guarded | go_step | go_upon | go_back | (simp only [Int.not_lt, Int.not_le] at *; go_simp) | (go_values <;> (try go_simp)) | (go_ite <;> go_prune <;> (try go_simp)) | (split <;> (first | (rename_i hx; exact (hx _ rfl).elim) | go_prune))))
  try simp (disch := omega) only [decide_eq_true, decide_eq_false]
  obtain ⟨wR1to7_any, rfl⟩ := Hp.nameW H
  apply region_n (frm wR1to7_any.heap.size (fun _ => Hp _ _)) (frm_ok ?hfs_1) frm_sz [] [.light 0 0, .light 0 0, .light 0 0, .light 0 0, .light 0 0, .light 0 0, .light 0 0] [false, false, false, false, false, false, true] 7 30 [7, 7, 7, 7, 7, 7, 7] [some 5, some 6, some 7, some 8, some 9, some 10, some 3] [[], [0], [1], [], [3], [2, 4], []] [Eq1 _, Eq1 _, Eq1 _, Eq1 _, Eq1 _, Eq1 _, NewPt wR1to7_any.heap.size _ _] ?hq1_1 ?hq2_1 ?hq3_1 ?hq4_1 ?hq5_1 ?hq6_1 _ ?hA_1 ?hst_1 ?h0_1 ?hsteps_1 ?hend_1
  case hq1_1 => kernel_rfl
  case hq2_1 => kernel_rfl
  case hq3_1 => kernel_rfl
  case hq5_1 => kernel_rfl
  case hq4_1 => rfl
  case hq6_1 => rfl
  case hA_1 => intro vs; simp only [fillD, Nat.reduceAdd, Act.put, List.setIfInBounds_toArray, List.set_cons_zero, List.set_cons_succ]; rfl
  case h0_1 => exact H.drew
  case hfs_1 => exact fun _ _ _ hb h => Hp.step h hb
  case hsteps_1 =>
    refine ⟨?_, ?_, ?_, ?_, ?_, ?_, ?_, trivial⟩
    · intro p vs w' K hJ hp1 hp2 hS hR hK
      rw [if_pos (by rfl)]
      go_step
      exact hK.out _ _ (Below.refl _ _) Eq1.mk Fresh.no
    · intro p vs w' K hJ hp1 hp2 hS hR hK
      simp only [DepJ, List.getD_cons_zero, List.getD_cons_succ] at hJ
      obtain ⟨j0, -⟩ := hJ
      have j0 := Eq1.out j0
      simp only [j0] at hK ⊢
      rw [if_pos (by rfl)]
      have C := Hp.facts hS
      simp only [Facts, factsL, and_true, true_and, List.set_cons_zero, List.set_cons_succ, List.setIfInBounds_toArray] at C
      have hsz := hR.1
      go_step
      exact hK.out _ _ (Below.refl _ _) Eq1.mk Fresh.no
    · intro p vs w' K hJ hp1 hp2 hS hR hK
      simp only [DepJ, List.getD_cons_zero, List.getD_cons_succ] at hJ
      obtain ⟨j1, -⟩ := hJ
      have j1 := Eq1.out j1
      simp only [j1] at hK ⊢
      rw [if_pos (by rfl)]
      have C := Hp.facts hS
      simp only [Facts, factsL, and_true, true_and, List.set_cons_zero, List.set_cons_succ, List.setIfInBounds_toArray] at C
      have hsz := hR.1
      go_step
      refine (lto_any _ _ _ _).mono ?_
      rintro e' w'' ⟨rfl, hb⟩
      exact hK.out _ _ hb Eq1.mk Fresh.no
    · intro p vs w' K hJ hp1 hp2 hS hR hK
      rw [if_pos (by rfl)]
      go_step
      exact hK.out _ _ (Below.refl _ _) Eq1.mk Fresh.no
    · intro p vs w' K hJ hp1 hp2 hS hR hK
      simp only [DepJ, List.getD_cons_zero, List.getD_cons_succ] at hJ
      obtain ⟨j3, -⟩ := hJ
      have j3 := Eq1.out j3
      simp only [j3] at hK ⊢
      rw [if_pos (by rfl)]
      have C := Hp.facts hS
      simp only [Facts, factsL, and_true, true_and, List.set_cons_zero, List.set_cons_succ, List.setIfInBounds_toArray] at C
      have hsz := hR.1
      go_step
      exact hK.out _ _ (Below.refl _ _) Eq1.mk Fresh.no
    · intro p vs w' K hJ hp1 hp2 hS hR hK
      simp only [DepJ, List.getD_cons_zero, List.getD_cons_succ] at hJ
      obtain ⟨j2, j4, -⟩ := hJ
      have j2 := Eq1.out j2
      have j4 := Eq1.out j4
      simp only [j2, j4] at hK ⊢
      rw [if_pos (by rfl)]
      go_step
      exact hK.out _ _ (Below.refl _ _) Eq1.mk Fresh.no
    · intro p vs w' K hJ hp1 hp2 hS hR hK
      rw [if_pos (by rfl)]
      go_step
      exact hK.out _ _ ((Below.refl _ _).alloc (Nat.le_refl _) _) (NewPt.mk _ _ _ _ hR.1) Fresh.pt
  case hst_1 => refine ⟨fun _ _ _ _ h => h, fun _ _ _ _ h => h, fun _ _ _ _ h => h, fun _ _ _ _ h => h, fun _ _ _ _ h => h, fun _ _ _ _ h => h, fun _ _ _ hs h => NewPt.stayR hs h, trivial⟩
  intro vs w' hJ hD hS hR
  simp only [AllJ, Nat.reduceAdd] at hJ
  obtain ⟨v0, v1, v2, v3, v4, v5, v6, -⟩ := hJ
  clear C
  replace v0 := Eq1.out v0
  replace v1 := Eq1.out v1
  replace v2 := Eq1.out v2
  replace v3 := Eq1.out v3
  replace v4 := Eq1.out v4
  replace v5 := Eq1.out v5
  obtain ⟨k6, e6, hB6, hh6⟩ := v6
  simp only [v0, v1, v2, v3, v4, v5, e6, List.drop_succ_cons, List.drop_zero]
  replace hS : Hp _ _ _ := hS
  have H' := Hp.adopts hS H.low.size (fun k hk => Hp.lows H k hk) [.blk k6 _ _] (by intro x hx; simp only [List.mem_cons, List.not_mem_nil, or_false] at hx; subst hx; exact ⟨hh6, hB6⟩) (nodup1 _)
  simp only [List.cons_append, List.nil_append] at H'
  clear hD hR hS v0 v1 v2 v3 v4 v5
  clear e6 hB6 hh6
  clear vs H
  have H := H'; clear H'; have C := Hp.facts H; simp only [Facts, factsL, and_true, true_and, List.set_cons_zero, List.set_cons_succ, List.setIfInBounds_toArray] at C
  (repeat' ((fail_if_success (with_reducible show bodyPost _ _ _ _ _ _)); first | ((with_reducible refine Hp.abs_alloc H ?_); intro b' w' H' hb'; (try simp only [hb']); clear hb'; ((try simp only [List.set_cons_zero, List.set_cons_succ, List.setIfInBounds_toArray] at H'); clear C H; have H := H'; clear H'; have C := Hp.facts H; simp only [Facts, factsL, and_true, true_and, List.set_cons_zero, List.set_cons_succ, List.setIfInBounds_toArray] at C)) | ((with_reducible show wpList _ _ _ _ _ (World.setCell _ _ _)); (with_reducible apply Hp.abs_gen H); (first | ((repeat (with_reducible apply Hp.set' 0)); (with_reducible exact H); (repeat rfl); intro w' H') | ((repeat (with_reducible apply Hp.set' 1)); (with_reducible exact H); (repeat rfl); intro w' H') | ((repeat (with_reducible apply Hp.set' 2)); (with_reducible exact H); (repeat rfl); intro w' H') | ((repeat (with_reducible apply Hp.set' 3)); (with_reducible exact H); (repeat rfl); intro w' H') | ((repeat (with_reducible apply Hp.set' 4)); (with_reducible exact H); (repeat rfl); intro w' H') | ((repeat (with_reducible apply Hp.set' 5)); (with_reducible exact H); (repeat rfl); intro w' H') | ((repeat (with_reducible apply Hp.set' 6)); (with_reducible exact H); (repeat rfl); intro w' H') | ((repeat (with_reducible apply Hp.set' 7)); (with_reducible exact H); (repeat rfl); intro w' H')); ((try simp only [List.set_cons_zero, List.set_cons_succ, List.setIfInBounds_toArray] at H'); clear C H; have H := H'; clear H'; have C := Hp.facts H; simp only [Facts, factsL, and_true, true_and, List.set_cons_zero, List.set_cons_succ, List.setIfInBounds_toArray] at C)) | go_values | go_skip | go_guarded | go_step | go_upon | go_back | (simp only [Int.not_lt, Int.not_le] at *; go_simp) | (go_values <;> (try go_simp)) | (go_ite <;> go_prune <;> (try go_simp)) | (split <;> (first | (rename_i hx; exact (hx _ rfl).elim) | go_prune))))
  have H := H.nilRow 41 5
  (obtain ⟨bx, rfl⟩ := Hp.name H 1 rfl)
  (obtain ⟨b2, rfl⟩ := Hp.name H 2 rfl)
  (obtain ⟨bt, rfl⟩ := Hp.name H 3 rfl)
  go_loopw [4] (fun ix wr => ToRel (fun rv => [.blk bx #[.int .i64 tg.c, .int .i64 tg.n, .bool tg.m, .slice Bv bs.length cv, rv] 41, .blk b2 #[.int .i64 0, .int .i64 0, .bool false, .slice none 0 0, .slice none 0 0] 41, .blk bt #[.int .i64 tg.c, .int .i64 tg.n, .bool tg.m, .slice Bv bs.length cv, .slice A ks.length c] 27]) 41 n B ks w ix wr) (fun ix _ => ks.length - (intOf ix).toNat)
  case atStart => exact ToRel.mk 0 _ [] [] (Nat.zero_le _) rfl H KidsP.zero
  case round =>
    obtain ⟨i, rv, vals, Os, hi1, rfl, H, gK⟩ := hrel
    simp only [List.cons_append, List.nil_append] at H
    have gK := Kp.mk gK
    have C := Hp.facts H
    simp only [Facts, factsL, and_true, true_and, List.set_cons_zero, List.set_cons_succ, List.setIfInBounds_toArray] at C
    by_cases hlt : i < ks.length
    · obtain ⟨b, o, rfl, hgl, hgb, d0, d1, d2, d3, d4, q0, q1, q2, q3, q4, hkid⟩ := hk i hlt
      have hih := fun w1 (h : Below w.heap.size w w1) => ih ks[i] [d0, d1, d2, d3, d4] w1 B (Nat.le_trans gB.out h.size) (hkid.step h) (gat.out i hlt)
      clear hk hkid ih
      (repeat' ((fail_if_success (with_reducible show bodyPost _ _ _ _ _ _)); first | ((with_reducible refine Hp.abs_alloc H ?_); intro b' w' H' hb'; (try simp only [hb']); clear hb'; ((try simp only [List.set_cons_zero, List.set_cons_succ, List.setIfInBounds_toArray] at H'); clear C H; have H := H'; clear H'; have C := Hp.facts H; simp only [Facts, factsL, and_true, true_and, List.set_cons_zero, List.set_cons_succ, List.setIfInBounds_toArray] at C)) | ((with_reducible show wpList _ _ _ _ _ (World.setCell _ _ _)); (with_reducible apply Hp.abs_gen H); (first | ((repeat (with_reducible apply Hp.set' 0)); (with_reducible exact H); (repeat rfl); intro w' H') | ((repeat (with_reducible apply Hp.set' 1)); (with_reducible exact H); (repeat rfl); intro w' H') | ((repeat (with_reducible apply Hp.set' 2)); (with_reducible exact H); (repeat rfl); intro w' H') | ((repeat (with_reducible apply Hp.set' 3)); (with_reducible exact H); (repeat rfl); intro w' H') | ((repeat (with_reducible apply Hp.set' 4)); (with_reducible exact H); (repeat rfl); intro w' H') | ((repeat (with_reducible apply Hp.set' 5)); (with_reducible exact H); (repeat rfl); intro w' H') | ((repeat (with_reducible apply Hp.set' 6)); (with_reducible exact H); (repeat rfl); intro w' H') | ((repeat (with_reducible apply Hp.set' 7)); (with_reducible exact H); (repeat rfl); intro w' H')); ((try simp only [List.set_cons_zero, List.set_cons_succ, List.setIfInBounds_toArray] at H'); clear C H; have H := H'; clear H'; have C := Hp.facts H; simp only [Facts, factsL, and_true, true_and, List.set_cons_zero, List.set_cons_succ, List.setIfInBounds_toArray] at C)) | go_values | go_skip | go_guarded | go_step | go_upon | go_back | (simp only [Int.not_lt, Int.not_le] at *; go_simp) | (go_values <;> (try go_simp)) | (go_ite <;> go_prune <;> (try go_simp)) | (split <;> (first | (rename_i hx; exact (hx _ rfl).elim) | go_prune))))
      have gH := Kp.mk (And.intro (Hp.lows H) H.low.size)
      try simp (disch := omega) only [decide_eq_true, decide_eq_false]
      obtain ⟨wR5to7_anyk, rfl⟩ := Hp.nameW H
      apply region_n (frm wR5to7_anyk.heap.size (fun _ => Hp _ _)) (frm_ok ?hfs_2) frm_sz [] [.light 0 0, .light 0 0, .light 0 0, .light 0 0, .light 0 0, .light 0 0, .light 0 0, .light 0 0, .light 0 0] [false, false, false, false, false, false, false, false, false] 9 30 [1, 9, 3, 5, 5, 6, 7, 9, 9] [some 18, some 19, some 20, some 21, some 22, some 23, some 24, some 25, some 26] [[], [0], [], [2], [], [3, 4], [5], [6], [7]] [Eq1 _, Eq1 _, Eq1 _, Eq1 _, Eq1 _, Eq1 _, Eq1 _, (TreeV wR5to7_anyk.heap.size B w n ks[i]), (TreeS wR5to7_anyk.heap.size B w n ks[i] 41)] ?hq1_2 ?hq2_2 ?hq3_2 ?hq4_2 ?hq5_2 ?hq6_2 _ ?hA_2 ?hst_2 ?h0_2 ?hsteps_2 ?hend_2
      case hq1_2 => kernel_rfl
      case hq2_2 => kernel_rfl
      case hq3_2 => kernel_rfl
      case hq5_2 => kernel_rfl
      case hq4_2 => rfl
      case hq6_2 => rfl
      case hA_2 => intro vs; simp only [fillD, Nat.reduceAdd, Act.put, List.setIfInBounds_toArray, List.set_cons_zero, List.set_cons_succ]; rfl
      case h0_2 => exact H.drew
      case hfs_2 => exact fun _ _ _ hb h => Hp.step h hb
      case hsteps_2 =>
        refine ⟨?_, ?_, ?_, ?_, ?_, ?_, ?_, ?_, ?_, trivial⟩
        · intro p vs w' K hJ hp1 hp2 hS hR hK
          rw [if_pos (by rfl)]
          go_step
          exact hK.out _ _ (Below.refl _ _) Eq1.mk Fresh.no
        · intro p vs w' K hJ hp1 hp2 hS hR hK
          simp only [DepJ, List.getD_cons_zero, List.getD_cons_succ] at hJ
          obtain ⟨j0, -⟩ := hJ
          have j0 := Eq1.out j0
          simp only [j0] at hK ⊢
          rw [if_pos (by rfl)]
          have C := Hp.facts hS
          simp only [Facts, factsL, and_true, true_and, List.set_cons_zero, List.set_cons_succ, List.setIfInBounds_toArray] at C
          have hsz := hR.1
          go_step
          exact hK.out _ _ (Below.refl _ _) Eq1.mk Fresh.no
        · intro p vs w' K hJ hp1 hp2 hS hR hK
          rw [if_pos (by rfl)]
          go_step
          exact hK.out _ _ (Below.refl _ _) Eq1.mk Fresh.no
        · intro p vs w' K hJ hp1 hp2 hS hR hK
          simp only [DepJ, List.getD_cons_zero, List.getD_cons_succ] at hJ
          obtain ⟨j2, -⟩ := hJ
          have j2 := Eq1.out j2
          simp only [j2] at hK ⊢
          rw [if_pos (by rfl)]
          have C := Hp.facts hS
          simp only [Facts, factsL, and_true, true_and, List.set_cons_zero, List.set_cons_succ, List.setIfInBounds_toArray] at C
          have hsz := hR.1
          go_step
          exact hK.out _ _ (Below.refl _ _) Eq1.mk Fresh.no
        · intro p vs w' K hJ hp1 hp2 hS hR hK
          rw [if_pos (by rfl)]
          go_step
          exact hK.out _ _ (Below.refl _ _) Eq1.mk Fresh.no
        · intro p vs w' K hJ hp1 hp2 hS hR hK
          simp only [DepJ, List.getD_cons_zero, List.getD_cons_succ] at hJ
          obtain ⟨j3, j4, -⟩ := hJ
          have j3 := Eq1.out j3
          have j4 := Eq1.out j4
          simp only [j3, j4] at hK ⊢
          rw [if_pos (by rfl)]
          go_step
          exact hK.out _ _ (Below.refl _ _) Eq1.mk Fresh.no
        · intro p vs w' K hJ hp1 hp2 hS hR hK
          simp only [DepJ, List.getD_cons_zero, List.getD_cons_succ] at hJ
          obtain ⟨j5, -⟩ := hJ
          have j5 := Eq1.out j5
          simp only [j5] at hK ⊢
          rw [if_pos (by rfl)]
          have C := Hp.facts hS
          simp only [Facts, factsL, and_true, true_and, List.set_cons_zero, List.set_cons_succ, List.setIfInBounds_toArray] at C
          have hsz := hR.1
          go_step
          exact hK.out _ _ (Below.refl _ _) Eq1.mk Fresh.no
        · intro p vs w' K hJ hp1 hp2 hS hR hK
          simp only [DepJ, List.getD_cons_zero, List.getD_cons_succ] at hJ
          obtain ⟨j6, -⟩ := hJ
          have j6 := Eq1.out j6
          simp only [j6] at hK ⊢
          rw [if_pos (by rfl)]
          have C := Hp.facts hS
          simp only [Facts, factsL, and_true, true_and, List.set_cons_zero, List.set_cons_succ, List.setIfInBounds_toArray] at C
          have hsz := hR.1
          go_step
          refine (hih _ (show Hp _ _ _ from hS).low).mono ?_
          rintro e' w'' ⟨⟨cs2, rfl, ht2⟩, hb2⟩
          exact hK.out _ _ hb2 (TreeV.mk (show Hp _ _ _ from hS) gB.out hR.1 hb2 ht2) Fresh.no
        · intro p vs w' K hJ hp1 hp2 hS hR hK
          simp only [DepJ, List.getD_cons_zero, List.getD_cons_succ] at hJ
          obtain ⟨j7, -⟩ := hJ
          obtain ⟨x0, x1, x2, x3, x4, j7, t7⟩ := j7
          simp only [j7] at hK ⊢
          rw [if_pos (by rfl)]
          go_step
          exact hK.out _ _ ((Below.refl _ _).alloc (Nat.le_refl _) _) (TreeS.mk hR.1 t7) Fresh.no
      case hst_2 => refine ⟨fun _ _ _ _ h => h, fun _ _ _ _ h => h, fun _ _ _ _ h => h, fun _ _ _ _ h => h, fun _ _ _ _ h => h, fun _ _ _ _ h => h, fun _ _ _ _ h => h, fun _ _ _ hs h => TreeV.stay hs h, fun _ _ _ hs h => TreeS.stay hs h, trivial⟩
      intro vs w' hJ hD hS hR
      simp only [AllJ, Nat.reduceAdd] at hJ
      obtain ⟨v0, v1, v2, v3, v4, v5, v6, v7, v8, -⟩ := hJ
      clear C
      replace v0 := Eq1.out v0
      replace v1 := Eq1.out v1
      replace v2 := Eq1.out v2
      replace v3 := Eq1.out v3
      replace v4 := Eq1.out v4
      replace v5 := Eq1.out v5
      replace v6 := Eq1.out v6
      obtain ⟨x0, x1, x2, x3, x4, e7, t7⟩ := v7
      obtain ⟨k8, y0, y1, y2, y3, y4, e8, hk8, hh8, t8⟩ := v8
      simp only [v0, v1, v2, v3, v4, v5, v6, e7, e8, List.drop_succ_cons, List.drop_zero]
      have H' : Hp _ _ _ := hS
      clear hD hR hS v0 v1 v2 v3 v4 v5 v6
      clear t7 e7
      clear e8
      clear vs H
      have H := H'; clear H'; have C := Hp.facts H; simp only [Facts, factsL, and_true, true_and, List.set_cons_zero, List.set_cons_succ, List.setIfInBounds_toArray] at C
      clear C
      have ht8 := t8.out H gB.out
      have hc8 := cells_of (cs := [y0, y1, y2, y3, y4]) hh8
      have h18 := ht8.ones
      obtain ⟨Os2, H2, gK2⟩ := gK.out.more gB.out hlt (M := [_, _, _, _]) H gH.out.1 gH.out.2 ht8
      simp only [List.cons_append, List.nil_append] at H2
      have gK2 := Kp.mk gK2
      clear ht8 t8 gK gH H hh8
      have H := H2
      clear H2
      have C := Hp.facts H
      simp only [Facts, factsL, and_true, true_and, List.set_cons_zero, List.set_cons_succ, List.setIfInBounds_toArray] at C
      (repeat' ((fail_if_success (with_reducible show bodyPost _ _ _ _ _ _)); first | ((with_reducible refine Hp.abs_alloc H ?_); intro b' w' H' hb'; (try simp only [hb']); clear hb'; ((try simp only [List.set_cons_zero, List.set_cons_succ, List.setIfInBounds_toArray] at H'); clear C H; have H := H'; clear H'; have C := Hp.facts H; simp only [Facts, factsL, and_true, true_and, List.set_cons_zero, List.set_cons_succ, List.setIfInBounds_toArray] at C)) | ((with_reducible show wpList _ _ _ _ _ (World.setCell _ _ _)); (with_reducible apply Hp.abs_gen H); (first | ((repeat (with_reducible apply Hp.set' 0)); (with_reducible exact H); (repeat rfl); intro w' H') | ((repeat (with_reducible apply Hp.set' 1)); (with_reducible exact H); (repeat rfl); intro w' H') | ((repeat (with_reducible apply Hp.set' 2)); (with_reducible exact H); (repeat rfl); intro w' H') | ((repeat (with_reducible apply Hp.set' 3)); (with_reducible exact H); (repeat rfl); intro w' H') | ((repeat (with_reducible apply Hp.set' 4)); (with_reducible exact H); (repeat rfl); intro w' H') | ((repeat (with_reducible apply Hp.set' 5)); (with_reducible exact H); (repeat rfl); intro w' H') | ((repeat (with_reducible apply Hp.set' 6)); (with_reducible exact H); (repeat rfl); intro w' H') | ((repeat (with_reducible apply Hp.set' 7)); (with_reducible exact H); (repeat rfl); intro w' H')); ((try simp only [List.set_cons_zero, List.set_cons_succ, List.setIfInBounds_toArray] at H'); clear C H; have H := H'; clear H'; have C := Hp.facts H; simp only [Facts, factsL, and_true, true_and, List.set_cons_zero, List.set_cons_succ, List.setIfInBounds_toArray] at C)) | (at_builtin; (refine wpList_append_hp H 0 rfl _ _ _ rfl Try.underlying39 hi hz0 hz1 hz2 rfl (by decide) rfl rfl rfl (news := [y0, y1, y2, y3, y4]) rfl (fun h => by cases h) (fun _ => ⟨_, rfl, hc8⟩) h18 (by unfold maxLen; omega) (by omega) ?_); intro v' w' H'; (obtain ⟨Av, cw, rfl⟩ := Go.LawLift.own_form (H'.ok _ (List.mem_cons_self ..))); ((try simp only [List.set_cons_zero, List.set_cons_succ, List.setIfInBounds_toArray] at H'); clear C H; have H := H'; clear H'; have C := Hp.facts H; simp only [Facts, factsL, and_true, true_and, List.set_cons_zero, List.set_cons_succ, List.setIfInBounds_toArray] at C)) | go_values | go_skip | go_guarded | go_step | go_upon | go_back | (simp only [Int.not_lt, Int.not_le] at *; go_simp) | (go_values <;> (try go_simp)) | (go_ite <;> go_prune <;> (try go_simp)) | (split <;> (first | (rename_i hx; exact (hx _ rfl).elim) | go_prune))))
      exact ⟨ToRel.mk (i + 1) _ _ _ (by omega) (by go_num) H gK2.out, by simp [intOf]; omega⟩
    · obtain rfl : i = ks.length := by omega
      clear hk ih
      obtain ⟨Av, cw, rfl⟩ := Go.LawLift.own_form (H.ok _ (List.mem_cons_self ..))
      (repeat' ((fail_if_success (with_reducible show bodyPost _ _ _ _ _ _)); first | ((with_reducible refine Hp.abs_alloc H ?_); intro b' w' H' hb'; (try simp only [hb']); clear hb'; ((try simp only [List.set_cons_zero, List.set_cons_succ, List.setIfInBounds_toArray] at H'); clear C H; have H := H'; clear H'; have C := Hp.facts H; simp only [Facts, factsL, and_true, true_and, List.set_cons_zero, List.set_cons_succ, List.setIfInBounds_toArray] at C)) | ((with_reducible show wpList _ _ _ _ _ (World.setCell _ _ _)); (with_reducible apply Hp.abs_gen H); (first | ((repeat (with_reducible apply Hp.set' 0)); (with_reducible exact H); (repeat rfl); intro w' H') | ((repeat (with_reducible apply Hp.set' 1)); (with_reducible exact H); (repeat rfl); intro w' H') | ((repeat (with_reducible apply Hp.set' 2)); (with_reducible exact H); (repeat rfl); intro w' H') | ((repeat (with_reducible apply Hp.set' 3)); (with_reducible exact H); (repeat rfl); intro w' H') | ((repeat (with_reducible apply Hp.set' 4)); (with_reducible exact H); (repeat rfl); intro w' H') | ((repeat (with_reducible apply Hp.set' 5)); (with_reducible exact H); (repeat rfl); intro w' H') | ((repeat (with_reducible apply Hp.set' 6)); (with_reducible exact H); (repeat rfl); intro w' H') | ((repeat (with_reducible apply Hp.set' 7)); (with_reducible exact H); (repeat rfl); intro w' H')); ((try simp only [List.set_cons_zero, List.set_cons_succ, List.setIfInBounds_toArray] at H'); clear C H; have H := H'; clear H'; have C := Hp.facts H; simp only [Facts, factsL, and_true, true_and, List.set_cons_zero, List.set_cons_succ, List.setIfInBounds_toArray] at C)) | go_values | go_skip | go_guarded | go_step | go_upon | go_back | (simp only [Int.not_lt, Int.not_le] at *; go_simp) | (go_values <;> (try go_simp)) | (go_ite <;> go_prune <;> (try go_simp)) | (split <;> (first | (rename_i hx; exact (hx _ rfl).elim) | go_prune))))
      refine bodyPost_ret (v := .agg #[.int .i64 tg.c, .int .i64 tg.n, .bool tg.m, .slice Bv bs.length cv, .slice Av ks.length cw]) (by simp [results, go_sem, C]) rfl ?_
      refine ⟨⟨[_, _, _, _, _], rfl, gK.out.tree gB.out H (fun x hx => by simp only [List.mem_cons]; exact .inr (.inr (.inr (.inr hx)))) 0 rfl ?_⟩, H.low⟩
      exact (gb.out.move (H.agree gB.out)).weak fun b hb _ => .inl hb
set_option maxHeartbeats 3200000 in
theorem of7_any : ∀ (n : Nat) (t : Tree) (cs : List Value) (w : World) (B : Nat), B ≤ w.heap.size → ItP (· < B) w n t cs → t.count ≤ 200000 → Calls Try.prog 15 #[.agg cs.toArray] w fun e w' => (∃ cs' : List Value, e = .returned (.agg cs'.toArray) ∧ ItP (fun b => b < B ∨ w.heap.size ≤ b) w' n t cs') ∧ Below w.heap.size w w' := by
  intro n
  induction n with
  | zero => intro t cs w B hB h; exact h.elim
  | succ n ih =>
  intro t cs w B hB ht hcn
  obtain ⟨i0, hi, hz0, hz1, hz2⟩ := info_parts info_ri
  obtain ⟨vb, A, c, rfl, hb, hlc, hcm, hA, hk⟩ := ht.opened
  have H := Hp.start w
  have C : True := trivial
  have hcap : c ≤ 9223372036854775807 := hcm
  have hat := Tree.counts_at t.kids
  have hcl := Tree.len_counts t.kids
  have hc1 := t.count_is
  obtain ⟨tg, bs, ks⟩ := t
  simp only [Tree.kids, Tree.tag, Tree.bytes] at *
  have gat := Kp.mk (fun j (hj : j < ks.length) => show ks[j].count ≤ 200000 by have := hat j hj; omega)
  have hkl : ks.length ≤ 200000 := by omega
  have gB := Kp.mk hB
  have gb := Kp.mk hb
  obtain ⟨Bv, cv, rfl⟩ : ∃ Bv cv, vb = .slice Bv bs.length cv := by
    obtain ⟨Bv, cv, e, -⟩ := hb.out
    exact ⟨Bv, cv, by simpa using e⟩
  clear hat hcl hc1 hcn ht hcm hb hB
  go_enter Try.func15, Try.ntmps15
  (repeat' ((fail_if_success (with_reducible show bodyPost _ _ _ _ _ _)); first | ((with_reducible refine Hp.abs_alloc H ?_); intro b' w' H' hb'; (try simp only [hb']); clear hb'; ((try simp only [List.set_cons_zero, List.set_cons_succ, List.setIfInBounds_toArray] at H'); clear C H; have H := H'; clear H'; have C := Hp.facts H; simp only [Facts, factsL, and_true, true_and, List.set_cons_zero, List.set_cons_succ, List.setIfInBounds_toArray] at C)) | ((with_reducible show wpList _ _ _ _ _ (World.setCell _ _ _)); (with_reducible apply Hp.abs_gen H); (first | ((repeat (with_reducible apply Hp.set' 0)); (with_reducible exact H); (repeat rfl); intro w' H') | ((repeat (with_reducible apply Hp.set' 1)); (with_reducible exact H); (repeat rfl); intro w' H') | ((repeat (with_reducible apply Hp.set' 2)); (with_reducible exact H); (repeat rfl); intro w' H') | ((repeat (with_reducible apply Hp.set' 3)); (with_reducible exact H); (repeat rfl); intro w' H') | ((repeat (with_reducible apply Hp.set' 4)); (with_reducible exact H); (repeat rfl); intro w' H') | ((repeat (with_reducible apply Hp.set' 5)); (with_reducible exact H); (repeat rfl); intro w' H') | ((repeat (with_reducible apply Hp.set' 6)); (with_reducible exact H); (repeat rfl); intro w' H') | ((repeat (with_reducible apply Hp.set' 7)); (with_reducible exact H); (repeat rfl); intro w' H')); ((try simp only [List.set_cons_zero, List.set_cons_succ, List.setIfInBounds_toArray] at H'); clear C H; have H := H'; clear H'; have C := Hp.facts H; simp only [Facts, factsL, and_true, true_and, List.set_cons_zero, List.set_cons_succ, List.setIfInBounds_toArray] at C)) | go_values | go_skip | go_guarded | go_step | go_upon | go_back | (simp only [Int.not_lt, Int.not_le] at *; go_simp) | (go_values <;> (try go_simp)) | (go_ite <;> go_prune <;> (try go_simp)) | (split <;> (first | (rename_i hx; exact (hx _ rfl).elim) | go_prune))))
  try simp (disch := omega) only [decide_eq_true, decide_eq_false]
  obtain ⟨wR1of7_any, rfl⟩ := Hp.nameW H
  apply region_n (frm wR1of7_any.heap.size (fun _ => Hp _ _)) (frm_ok ?hfs_3) frm_sz [] [.light 0 0, .light 0 0, .light 0 0, .light 0 0, .light 0 0, .light 0 0, .light 0 0] [false, false, false, false, false, false, true] 7 30 [7, 7, 7, 7, 7, 7, 7] [some 5, some 6, some 7, some 8, some 9, some 10, some 3] [[], [0], [1], [], [3], [2, 4], []] [Eq1 _, Eq1 _, Eq1 _, Eq1 _, Eq1 _, Eq1 _, NewPt wR1of7_any.heap.size _ _] ?hq1_3 ?hq2_3 ?hq3_3 ?hq4_3 ?hq5_3 ?hq6_3 _ ?hA_3 ?hst_3 ?h0_3 ?hsteps_3 ?hend_3
  case hq1_3 => kernel_rfl
  case hq2_3 => kernel_rfl
  case hq3_3 => kernel_rfl
  case hq5_3 => kernel_rfl
  case hq4_3 => rfl
  case hq6_3 => rfl
  case hA_3 => intro vs; simp only [fillD, Nat.reduceAdd, Act.put, List.setIfInBounds_toArray, List.set_cons_zero, List.set_cons_succ]; rfl
  case h0_3 => exact H.drew
  case hfs_3 => exact fun _ _ _ hb h => Hp.step h hb
  case hsteps_3 =>
    refine ⟨?_, ?_, ?_, ?_, ?_, ?_, ?_, trivial⟩
    · intro p vs w' K hJ hp1 hp2 hS hR hK
      rw [if_pos (by rfl)]
      go_step
      exact hK.out _ _ (Below.refl _ _) Eq1.mk Fresh.no
    · intro p vs w' K hJ hp1 hp2 hS hR hK
      simp only [DepJ, List.getD_cons_zero, List.getD_cons_succ] at hJ
      obtain ⟨j0, -⟩ := hJ
      have j0 := Eq1.out j0
      simp only [j0] at hK ⊢
      rw [if_pos (by rfl)]
      have C := Hp.facts hS
      simp only [Facts, factsL, and_true, true_and, List.set_cons_zero, List.set_cons_succ, List.setIfInBounds_toArray] at C
      have hsz := hR.1
      go_step
      exact hK.out _ _ (Below.refl _ _) Eq1.mk Fresh.no
    · intro p vs w' K hJ hp1 hp2 hS hR hK
      simp only [DepJ, List.getD_cons_zero, List.getD_cons_succ] at hJ
      obtain ⟨j1, -⟩ := hJ
      have j1 := Eq1.out j1
      simp only [j1] at hK ⊢
      rw [if_pos (by rfl)]
      have C := Hp.facts hS
      simp only [Facts, factsL, and_true, true_and, List.set_cons_zero, List.set_cons_succ, List.setIfInBounds_toArray] at C
      have hsz := hR.1
      go_step
      refine (lof_any _ _ _ _).mono ?_
      rintro e' w'' ⟨rfl, hb⟩
      exact hK.out _ _ hb Eq1.mk Fresh.no
    · intro p vs w' K hJ hp1 hp2 hS hR hK
      rw [if_pos (by rfl)]
      go_step
      exact hK.out _ _ (Below.refl _ _) Eq1.mk Fresh.no
    · intro p vs w' K hJ hp1 hp2 hS hR hK
      simp only [DepJ, List.getD_cons_zero, List.getD_cons_succ] at hJ
      obtain ⟨j3, -⟩ := hJ
      have j3 := Eq1.out j3
      simp only [j3] at hK ⊢
      rw [if_pos (by rfl)]
      have C := Hp.facts hS
      simp only [Facts, factsL, and_true, true_and, List.set_cons_zero, List.set_cons_succ, List.setIfInBounds_toArray] at C
      have hsz := hR.1
      go_step
      exact hK.out _ _ (Below.refl _ _) Eq1.mk Fresh.no
    · intro p vs w' K hJ hp1 hp2 hS hR hK
      simp only [DepJ, List.getD_cons_zero, List.getD_cons_succ] at hJ
      obtain ⟨j2, j4, -⟩ := hJ
      have j2 := Eq1.out j2
      have j4 := Eq1.out j4
      simp only [j2, j4] at hK ⊢
      rw [if_pos (by rfl)]
      go_step
      exact hK.out _ _ (Below.refl _ _) Eq1.mk Fresh.no
    · intro p vs w' K hJ hp1 hp2 hS hR hK
      rw [if_pos (by rfl)]
      go_step
      exact hK.out _ _ ((Below.refl _ _).alloc (Nat.le_refl _) _) (NewPt.mk _ _ _ _ hR.1) Fresh.pt
  case hst_3 => refine ⟨fun _ _ _ _ h => h, fun _ _ _ _ h => h, fun _ _ _ _ h => h, fun _ _ _ _ h => h, fun _ _ _ _ h => h, fun _ _ _ _ h => h, fun _ _ _ hs h => NewPt.stayR hs h, trivial⟩
  intro vs w' hJ hD hS hR
  simp only [AllJ, Nat.reduceAdd] at hJ
  obtain ⟨v0, v1, v2, v3, v4, v5, v6, -⟩ := hJ
  clear C
  replace v0 := Eq1.out v0
  replace v1 := Eq1.out v1
  replace v2 := Eq1.out v2
  replace v3 := Eq1.out v3
  replace v4 := Eq1.out v4
  replace v5 := Eq1.out v5
  obtain ⟨k6, e6, hB6, hh6⟩ := v6
  simp only [v0, v1, v2, v3, v4, v5, e6, List.drop_succ_cons, List.drop_zero]
  replace hS : Hp _ _ _ := hS
  have H' := Hp.adopts hS H.low.size (fun k hk => Hp.lows H k hk) [.blk k6 _ _] (by intro x hx; simp only [List.mem_cons, List.not_mem_nil, or_false] at hx; subst hx; exact ⟨hh6, hB6⟩) (nodup1 _)
  simp only [List.cons_append, List.nil_append] at H'
  clear hD hR hS v0 v1 v2 v3 v4 v5
  clear e6 hB6 hh6
  clear vs H
  have H := H'; clear H'; have C := Hp.facts H; simp only [Facts, factsL, and_true, true_and, List.set_cons_zero, List.set_cons_succ, List.setIfInBounds_toArray] at C
  (repeat' ((fail_if_success (with_reducible show bodyPost _ _ _ _ _ _)); first | ((with_reducible refine Hp.abs_alloc H ?_); intro b' w' H' hb'; (try simp only [hb']); clear hb'; ((try simp only [List.set_cons_zero, List.set_cons_succ, List.setIfInBounds_toArray] at H'); clear C H; have H := H'; clear H'; have C := Hp.facts H; simp only [Facts, factsL, and_true, true_and, List.set_cons_zero, List.set_cons_succ, List.setIfInBounds_toArray] at C)) | ((with_reducible show wpList _ _ _ _ _ (World.setCell _ _ _)); (with_reducible apply Hp.abs_gen H); (first | ((repeat (with_reducible apply Hp.set' 0)); (with_reducible exact H); (repeat rfl); intro w' H') | ((repeat (with_reducible apply Hp.set' 1)); (with_reducible exact H); (repeat rfl); intro w' H') | ((repeat (with_reducible apply Hp.set' 2)); (with_reducible exact H); (repeat rfl); intro w' H') | ((repeat (with_reducible apply Hp.set' 3)); (with_reducible exact H); (repeat rfl); intro w' H') | ((repeat (with_reducible apply Hp.set' 4)); (with_reducible exact H); (repeat rfl); intro w' H') | ((repeat (with_reducible apply Hp.set' 5)); (with_reducible exact H); (repeat rfl); intro w' H') | ((repeat (with_reducible apply Hp.set' 6)); (with_reducible exact H); (repeat rfl); intro w' H') | ((repeat (with_reducible apply Hp.set' 7)); (with_reducible exact H); (repeat rfl); intro w' H')); ((try simp only [List.set_cons_zero, List.set_cons_succ, List.setIfInBounds_toArray] at H'); clear C H; have H := H'; clear H'; have C := Hp.facts H; simp only [Facts, factsL, and_true, true_and, List.set_cons_zero, List.set_cons_succ, List.setIfInBounds_toArray] at C)) | go_values | go_skip | go_guarded | go_step | go_upon | go_back | (simp only [Int.not_lt, Int.not_le] at *; go_simp) | (go_values <;> (try go_simp)) | (go_ite <;> go_prune <;> (try go_simp)) | (split <;> (first | (rename_i hx; exact (hx _ rfl).elim) | go_prune))))
  have H := H.nilRow 27 5
  (obtain ⟨bx, rfl⟩ := Hp.name H 1 rfl)
  (obtain ⟨b2, rfl⟩ := Hp.name H 2 rfl)
  (obtain ⟨bt, rfl⟩ := Hp.name H 3 rfl)
  go_loopw [4] (fun ix wr => ToRel (fun rv => [.blk bx #[.int .i64 tg.c, .int .i64 tg.n, .bool tg.m, .slice Bv bs.length cv, rv] 27, .blk b2 #[.int .i64 0, .int .i64 0, .bool false, .slice none 0 0, .slice none 0 0] 27, .blk bt #[.int .i64 tg.c, .int .i64 tg.n, .bool tg.m, .slice Bv bs.length cv, .slice A ks.length c] 41]) 27 n B ks w ix wr) (fun ix _ => ks.length - (intOf ix).toNat)
  case atStart => exact ToRel.mk 0 _ [] [] (Nat.zero_le _) rfl H KidsP.zero
  case round =>
    obtain ⟨i, rv, vals, Os, hi1, rfl, H, gK⟩ := hrel
    simp only [List.cons_append, List.nil_append] at H
    have gK := Kp.mk gK
    have C := Hp.facts H
    simp only [Facts, factsL, and_true, true_and, List.set_cons_zero, List.set_cons_succ, List.setIfInBounds_toArray] at C
    by_cases hlt : i < ks.length
    · obtain ⟨b, o, rfl, hgl, hgb, d0, d1, d2, d3, d4, q0, q1, q2, q3, q4, hkid⟩ := hk i hlt
      have hih := fun w1 (h : Below w.heap.size w w1) => ih ks[i] [d0, d1, d2, d3, d4] w1 B (Nat.le_trans gB.out h.size) (hkid.step h) (gat.out i hlt)
      clear hk hkid ih
      (repeat' ((fail_if_success (with_reducible show bodyPost _ _ _ _ _ _)); first | ((with_reducible refine Hp.abs_alloc H ?_); intro b' w' H' hb'; (try simp only [hb']); clear hb'; ((try simp only [List.set_cons_zero, List.set_cons_succ, List.setIfInBounds_toArray] at H'); clear C H; have H := H'; clear H'; have C := Hp.facts H; simp only [Facts, factsL, and_true, true_and, List.set_cons_zero, List.set_cons_succ, List.setIfInBounds_toArray] at C)) | ((with_reducible show wpList _ _ _ _ _ (World.setCell _ _ _)); (with_reducible apply Hp.abs_gen H); (first | ((repeat (with_reducible apply Hp.set' 0)); (with_reducible exact H); (repeat rfl); intro w' H') | ((repeat (with_reducible apply Hp.set' 1)); (with_reducible exact H); (repeat rfl); intro w' H') | ((repeat (with_reducible apply Hp.set' 2)); (with_reducible exact H); (repeat rfl); intro w' H') | ((repeat (with_reducible apply Hp.set' 3)); (with_reducible exact H); (repeat rfl); intro w' H') | ((repeat (with_reducible apply Hp.set' 4)); (with_reducible exact H); (repeat rfl); intro w' H') | ((repeat (with_reducible apply Hp.set' 5)); (with_reducible exact H); (repeat rfl); intro w' H') | ((repeat (with_reducible apply Hp.set' 6)); (with_reducible exact H); (repeat rfl); intro w' H') | ((repeat (with_reducible apply Hp.set' 7)); (with_reducible exact H); (repeat rfl); intro w' H')); ((try simp only [List.set_cons_zero, List.set_cons_succ, List.setIfInBounds_toArray] at H'); clear C H; have H := H'; clear H'; have C := Hp.facts H; simp only [Facts, factsL, and_true, true_and, List.set_cons_zero, List.set_cons_succ, List.setIfInBounds_toArray] at C)) | go_values | go_skip | go_guarded | go_step | go_upon | go_back | (simp only [Int.not_lt, Int.not_le] at *; go_simp) | (go_values <;> (try go_simp)) | (go_ite <;> go_prune <;> (try go_simp)) | (split <;> (first | (rename_i hx; exact (hx _ rfl).elim) | go_prune))))
      have gH := Kp.mk (And.intro (Hp.lows H) H.low.size)
      try simp (disch := omega) only [decide_eq_true, decide_eq_false]
      obtain ⟨wR5of7_anyk, rfl⟩ := Hp.nameW H
      apply region_n (frm wR5of7_anyk.heap.size (fun _ => Hp _ _)) (frm_ok ?hfs_4) frm_sz [] [.light 0 0, .light 0 0, .light 0 0, .light 0 0, .light 0 0, .light 0 0, .light 0 0, .light 0 0, .light 0 0] [false, false, false, false, false, false, false, false, false] 9 30 [1, 9, 3, 5, 5, 6, 7, 9, 9] [some 18, some 19, some 20, some 21, some 22, some 23, some 24, some 25, some 26] [[], [0], [], [2], [], [3, 4], [5], [6], [7]] [Eq1 _, Eq1 _, Eq1 _, Eq1 _, Eq1 _, Eq1 _, Eq1 _, (TreeV wR5of7_anyk.heap.size B w n ks[i]), (TreeS wR5of7_anyk.heap.size B w n ks[i] 27)] ?hq1_4 ?hq2_4 ?hq3_4 ?hq4_4 ?hq5_4 ?hq6_4 _ ?hA_4 ?hst_4 ?h0_4 ?hsteps_4 ?hend_4
      case hq1_4 => kernel_rfl
      case hq2_4 => kernel_rfl
      case hq3_4 => kernel_rfl
      case hq5_4 => kernel_rfl
      case hq4_4 => rfl
      case hq6_4 => rfl
      case hA_4 => intro vs; simp only [fillD, Nat.reduceAdd, Act.put, List.setIfInBounds_toArray, List.set_cons_zero, List.set_cons_succ]; rfl
      case h0_4 => exact H.drew
      case hfs_4 => exact fun _ _ _ hb h => Hp.step h hb
      case hsteps_4 =>
        refine ⟨?_, ?_, ?_, ?_, ?_, ?_, ?_, ?_, ?_, trivial⟩
        · intro p vs w' K hJ hp1 hp2 hS hR hK
          rw [if_pos (by rfl)]
          go_step
          exact hK.out _ _ (Below.refl _ _) Eq1.mk Fresh.no
        · intro p vs w' K hJ hp1 hp2 hS hR hK
          simp only [DepJ, List.getD_cons_zero, List.getD_cons_succ] at hJ
          obtain ⟨j0, -⟩ := hJ
          have j0 := Eq1.out j0
          simp only [j0] at hK ⊢
          rw [if_pos (by rfl)]
          have C := Hp.facts hS
          simp only [Facts, factsL, and_true, true_and, List.set_cons_zero, List.set_cons_succ, List.setIfInBounds_toArray] at C
          have hsz := hR.1
          go_step
          exact hK.out _ _ (Below.refl _ _) Eq1.mk Fresh.no
        · intro p vs w' K hJ hp1 hp2 hS hR hK
          rw [if_pos (by rfl)]
          go_step
          exact hK.out _ _ (Below.refl _ _) Eq1.mk Fresh.no
        · intro p vs w' K hJ hp1 hp2 hS hR hK
          simp only [DepJ, List.getD_cons_zero, List.getD_cons_succ] at hJ
          obtain ⟨j2, -⟩ := hJ
          have j2 := Eq1.out j2
          simp only [j2] at hK ⊢
          rw [if_pos (by rfl)]
          have C := Hp.facts hS
          simp only [Facts, factsL, and_true, true_and, List.set_cons_zero, List.set_cons_succ, List.setIfInBounds_toArray] at C
          have hsz := hR.1
          go_step
          exact hK.out _ _ (Below.refl _ _) Eq1.mk Fresh.no
        · intro p vs w' K hJ hp1 hp2 hS hR hK
          rw [if_pos (by rfl)]
          go_step
          exact hK.out _ _ (Below.refl _ _) Eq1.mk Fresh.no
        · intro p vs w' K hJ hp1 hp2 hS hR hK
          simp only [DepJ, List.getD_cons_zero, List.getD_cons_succ] at hJ
          obtain ⟨j3, j4, -⟩ := hJ
          have j3 := Eq1.out j3
          have j4 := Eq1.out j4
          simp only [j3, j4] at hK ⊢
          rw [if_pos (by rfl)]
          go_step
          exact hK.out _ _ (Below.refl _ _) Eq1.mk Fresh.no
        · intro p vs w' K hJ hp1 hp2 hS hR hK
          simp only [DepJ, List.getD_cons_zero, List.getD_cons_succ] at hJ
          obtain ⟨j5, -⟩ := hJ
          have j5 := Eq1.out j5
          simp only [j5] at hK ⊢
          rw [if_pos (by rfl)]
          have C := Hp.facts hS
          simp only [Facts, factsL, and_true, true_and, List.set_cons_zero, List.set_cons_succ, List.setIfInBounds_toArray] at C
          have hsz := hR.1
          go_step
          exact hK.out _ _ (Below.refl _ _) Eq1.mk Fresh.no
        · intro p vs w' K hJ hp1 hp2 hS hR hK
          simp only [DepJ, List.getD_cons_zero, List.getD_cons_succ] at hJ
          obtain ⟨j6, -⟩ := hJ
          have j6 := Eq1.out j6
          simp only [j6] at hK ⊢
          rw [if_pos (by rfl)]
          have C := Hp.facts hS
          simp only [Facts, factsL, and_true, true_and, List.set_cons_zero, List.set_cons_succ, List.setIfInBounds_toArray] at C
          have hsz := hR.1
          go_step
          refine (hih _ (show Hp _ _ _ from hS).low).mono ?_
          rintro e' w'' ⟨⟨cs2, rfl, ht2⟩, hb2⟩
          exact hK.out _ _ hb2 (TreeV.mk (show Hp _ _ _ from hS) gB.out hR.1 hb2 ht2) Fresh.no
        · intro p vs w' K hJ hp1 hp2 hS hR hK
          simp only [DepJ, List.getD_cons_zero, List.getD_cons_succ] at hJ
          obtain ⟨j7, -⟩ := hJ
          obtain ⟨x0, x1, x2, x3, x4, j7, t7⟩ := j7
          simp only [j7] at hK ⊢
          rw [if_pos (by rfl)]
          go_step
          exact hK.out _ _ ((Below.refl _ _).alloc (Nat.le_refl _) _) (TreeS.mk hR.1 t7) Fresh.no
      case hst_4 => refine ⟨fun _ _ _ _ h => h, fun _ _ _ _ h => h, fun _ _ _ _ h => h, fun _ _ _ _ h => h, fun _ _ _ _ h => h, fun _ _ _ _ h => h, fun _ _ _ _ h => h, fun _ _ _ hs h => TreeV.stay hs h, fun _ _ _ hs h => TreeS.stay hs h, trivial⟩
      intro vs w' hJ hD hS hR
      simp only [AllJ, Nat.reduceAdd] at hJ
      obtain ⟨v0, v1, v2, v3, v4, v5, v6, v7, v8, -⟩ := hJ
      clear C
      replace v0 := Eq1.out v0
      replace v1 := Eq1.out v1
      replace v2 := Eq1.out v2
      replace v3 := Eq1.out v3
      replace v4 := Eq1.out v4
      replace v5 := Eq1.out v5
      replace v6 := Eq1.out v6
      obtain ⟨x0, x1, x2, x3, x4, e7, t7⟩ := v7
      obtain ⟨k8, y0, y1, y2, y3, y4, e8, hk8, hh8, t8⟩ := v8
      simp only [v0, v1, v2, v3, v4, v5, v6, e7, e8, List.drop_succ_cons, List.drop_zero]
      have H' : Hp _ _ _ := hS
      clear hD hR hS v0 v1 v2 v3 v4 v5 v6
      clear t7 e7
      clear e8
      clear vs H
      have H := H'; clear H'; have C := Hp.facts H; simp only [Facts, factsL, and_true, true_and, List.set_cons_zero, List.set_cons_succ, List.setIfInBounds_toArray] at C
      clear C
      have ht8 := t8.out H gB.out
      have hc8 := cells_of (cs := [y0, y1, y2, y3, y4]) hh8
      have h18 := ht8.ones
      obtain ⟨Os2, H2, gK2⟩ := gK.out.more gB.out hlt (M := [_, _, _, _]) H gH.out.1 gH.out.2 ht8
      simp only [List.cons_append, List.nil_append] at H2
      have gK2 := Kp.mk gK2
      clear ht8 t8 gK gH H hh8
      have H := H2
      clear H2
      have C := Hp.facts H
      simp only [Facts, factsL, and_true, true_and, List.set_cons_zero, List.set_cons_succ, List.setIfInBounds_toArray] at C
      (repeat' ((fail_if_success (with_reducible show bodyPost _ _ _ _ _ _)); first | ((with_reducible refine Hp.abs_alloc H ?_); intro b' w' H' hb'; (try simp only [hb']); clear hb'; ((try simp only [List.set_cons_zero, List.set_cons_succ, List.setIfInBounds_toArray] at H'); clear C H; have H := H'; clear H'; have C := Hp.facts H; simp only [Facts, factsL, and_true, true_and, List.set_cons_zero, List.set_cons_succ, List.setIfInBounds_toArray] at C)) | ((with_reducible show wpList _ _ _ _ _ (World.setCell _ _ _)); (with_reducible apply Hp.abs_gen H); (first | ((repeat (with_reducible apply Hp.set' 0)); (with_reducible exact H); (repeat rfl); intro w' H') | ((repeat (with_reducible apply Hp.set' 1)); (with_reducible exact H); (repeat rfl); intro w' H') | ((repeat (with_reducible apply Hp.set' 2)); (with_reducible exact H); (repeat rfl); intro w' H') | ((repeat (with_reducible apply Hp.set' 3)); (with_reducible exact H); (repeat rfl); intro w' H') | ((repeat (with_reducible apply Hp.set' 4)); (with_reducible exact H); (repeat rfl); intro w' H') | ((repeat (with_reducible apply Hp.set' 5)); (with_reducible exact H); (repeat rfl); intro w' H') | ((repeat (with_reducible apply Hp.set' 6)); (with_reducible exact H); (repeat rfl); intro w' H') | ((repeat (with_reducible apply Hp.set' 7)); (with_reducible exact H); (repeat rfl); intro w' H')); ((try simp only [List.set_cons_zero, List.set_cons_succ, List.setIfInBounds_toArray] at H'); clear C H; have H := H'; clear H'; have C := Hp.facts H; simp only [Facts, factsL, and_true, true_and, List.set_cons_zero, List.set_cons_succ, List.setIfInBounds_toArray] at C)) | (at_builtin; (refine wpList_append_hp H 0 rfl _ _ _ rfl Try.underlying25 hi hz0 hz1 hz2 rfl (by decide) rfl rfl rfl (news := [y0, y1, y2, y3, y4]) rfl (fun h => by cases h) (fun _ => ⟨_, rfl, hc8⟩) h18 (by unfold maxLen; omega) (by omega) ?_); intro v' w' H'; (obtain ⟨Av, cw, rfl⟩ := Go.LawLift.own_form (H'.ok _ (List.mem_cons_self ..))); ((try simp only [List.set_cons_zero, List.set_cons_succ, List.setIfInBounds_toArray] at H'); clear C H; have H := H'; clear H'; have C := Hp.facts H; simp only [Facts, factsL, and_true, true_and, List.set_cons_zero, List.set_cons_succ, List.setIfInBounds_toArray] at C)) | go_values | go_skip | go_guarded | go_step | go_upon | go_back | (simp only [Int.not_lt, Int.not_le] at *; go_simp) | (go_values <;> (try go_simp)) | (go_ite <;> go_prune <;> (try go_simp)) | (split <;> (first | (rename_i hx; exact (hx _ rfl).elim) | go_prune))))
      exact ⟨ToRel.mk (i + 1) _ _ _ (by omega) (by go_num) H gK2.out, by simp [intOf]; omega⟩
    · obtain rfl : i = ks.length := by omega
      clear hk ih
      obtain ⟨Av, cw, rfl⟩ := Go.LawLift.own_form (H.ok _ (List.mem_cons_self ..))
      (repeat' ((fail_if_success (with_reducible show bodyPost _ _ _ _ _ _)); first | ((with_reducible refine Hp.abs_alloc H ?_); intro b' w' H' hb'; (try simp only [hb']); clear hb'; ((try simp only [List.set_cons_zero, List.set_cons_succ, List.setIfInBounds_toArray] at H'); clear C H; have H := H'; clear H'; have C := Hp.facts H; simp only [Facts, factsL, and_true, true_and, List.set_cons_zero, List.set_cons_succ, List.setIfInBounds_toArray] at C)) | ((with_reducible show wpList _ _ _ _ _ (World.setCell _ _ _)); (with_reducible apply Hp.abs_gen H); (first | ((repeat (with_reducible apply Hp.set' 0)); (with_reducible exact H); (repeat rfl); intro w' H') | ((repeat (with_reducible apply Hp.set' 1)); (with_reducible exact H); (repeat rfl); intro w' H') | ((repeat (with_reducible apply Hp.set' 2)); (with_reducible exact H); (repeat rfl); intro w' H') | ((repeat (with_reducible apply Hp.set' 3)); (with_reducible exact H); (repeat rfl); intro w' H') | ((repeat (with_reducible apply Hp.set' 4)); (with_reducible exact H); (repeat rfl); intro w' H') | ((repeat (with_reducible apply Hp.set' 5)); (with_reducible exact H); (repeat rfl); intro w' H') | ((repeat (with_reducible apply Hp.set' 6)); (with_reducible exact H); (repeat rfl); intro w' H') | ((repeat (with_reducible apply Hp.set' 7)); (with_reducible exact H); (repeat rfl); intro w' H')); ((try simp only [List.set_cons_zero, List.set_cons_succ, List.setIfInBounds_toArray] at H'); clear C H; have H := H'; clear H'; have C := Hp.facts H; simp only [Facts, factsL, and_true, true_and, List.set_cons_zero, List.set_cons_succ, List.setIfInBounds_toArray] at C)) | go_values | go_skip | go_guarded | go_step | go_upon | go_back | (simp only [Int.not_lt, Int.not_le] at *; go_simp) | (go_values <;> (try go_simp)) | (go_ite <;> go_prune <;> (try go_simp)) | (split <;> (first | (rename_i hx; exact (hx _ rfl).elim) | go_prune))))
      refine bodyPost_ret (v := .agg #[.int .i64 tg.c, .int .i64 tg.n, .bool tg.m, .slice Bv bs.length cv, .slice Av ks.length cw]) (by simp [results, go_sem, C]) rfl ?_
      refine ⟨⟨[_, _, _, _, _], rfl, gK.out.tree gB.out H (fun x hx => by simp only [List.mem_cons]; exact .inr (.inr (.inr (.inr hx)))) 0 rfl ?_⟩, H.low⟩
      exact (gb.out.move (H.agree gB.out)).weak fun b hb _ => .inl hb
end Go.Proofs.Ytogliinfdfkobaa

