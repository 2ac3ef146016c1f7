/- Lemmas and walks on the way to the seat's laws; each theorem says its own conditions. -/
import Derived.Test.YtogliinfdfkobaaI18
import Derived.Test.YtogliinfdfkobaaRegD
import Derived.Test.YtogliinfdfkobaaI30
set_option linter.unusedSimpArgs false
set_option linter.unusedVariables false
set_option linter.unusedSimpArgs false
set_option linter.unusedVariables false
set_option maxRecDepth 100000
namespace Go.Proofs.Ytogliinfdfkobaa
open Go.RowKit Go.Mem Go.Reg Oct Hd Go.LawLift
theorem row_base3 {w : World} {B : Nat} {e : TypeId} {s : Nat} {A : Option Addr} {n c : Nat} {xs : List Value} (h : w.ownsRow B e s (.slice A n c) n xs) (hn : 0 < n) : ∃ b, A = some ⟨b, 0, none⟩ := by
  rcases h.2 with ⟨-, h0⟩ | ⟨g, cap, cur, hv, -⟩
  · omega
  · injection hv with e
    exact ⟨g, e⟩
theorem list_num {xs tl : List TI} {t : Tree} {d j : Nat} (h : tl.map TI.is = (d, t) :: Tree.tolds (t.kids.take j) (d + 1)) (hj : j < t.kids.length) (hx : xs.length + t.count ≤ 100000) : (xs ++ tl).length + t.kids[j].count ≤ 100000 := by
  have h1 := congrArg List.length h
  rw [List.length_map, List.length_cons, Tree.tolds_len] at h1
  have h2 := t.count_is
  have h3 : Tree.counts t.kids = Tree.counts (t.kids.take j) + Tree.counts (t.kids.drop j) := by rw [← Tree.counts_app, List.take_append_drop]
  have h4 := List.drop_eq_getElem_cons hj
  rw [h4, Tree.counts] at h3
  rw [List.length_append]
  omega
theorem info_n : (Try.prog.info? 3).map (fun i => (i.zero, i.size, i.bytes)) = some (some (.int .i64 0), 1, 8) := by kernel_rfl
theorem abs_any {P : Program} {md : Region.Mode} {ops : Array Oper} {Q : Exit → Act → World → Prop} {m : Nat} {l : Array Bool} {a : Act} {w0 w : World} {L : List Ent} (H : Hp w0 L w) (h : ∀ w', Hp w0 L w' → wpAny P md ops Q m l a w') : wpAny P md ops Q m l a w := h w H
theorem store5 {w0 w : World} {L : List Ent} {i : Nat} {e : TypeId} {n c g : Nat} {a : List Value} {z0 z1 z2 z3 z4 d0 d1 d2 d3 d4 : Value} (H : Hp w0 L w) (hi : L[i]? = some (.row e 5 (.slice (some ⟨g, 0, none⟩) (n + 1) c) (n + 1) (a ++ [z0, z1, z2, z3, z4]))) (hl : a.length = n * 5) :
    Hp w0 (L.set i (.row e 5 (.slice (some ⟨g, 0, none⟩) (n + 1) c) (n + 1) (a ++ [d0, d1, d2, d3, d4]))) (((((w.setCell ⟨g, n * 5, none⟩ d0).setCell ⟨g, n * 5 + 1, none⟩ d1).setCell ⟨g, n * 5 + 2, none⟩ d2).setCell ⟨g, n * 5 + 3, none⟩ d3).setCell ⟨g, n * 5 + 4, none⟩ d4) := by
  have hlt : i < L.length := (List.getElem?_eq_some_iff.1 hi).1
  have h1 := H.rowSetN i hi (n * 5) d0
  have h2 := h1.rowSetN i (List.getElem?_set_self hlt) (n * 5 + 1) d1
  rw [List.set_set] at h2
  have h3 := h2.rowSetN i (List.getElem?_set_self hlt) (n * 5 + 2) d2
  rw [List.set_set] at h3
  have h4 := h3.rowSetN i (List.getElem?_set_self hlt) (n * 5 + 3) d3
  rw [List.set_set] at h4
  have h5 := h4.rowSetN i (List.getElem?_set_self hlt) (n * 5 + 4) d4
  rw [List.set_set] at h5
  have e : (((((a ++ [z0, z1, z2, z3, z4]).set (n * 5) d0).set (n * 5 + 1) d1).set (n * 5 + 2) d2).set (n * 5 + 3) d3).set (n * 5 + 4) d4 = a ++ [d0, d1, d2, d3, d4] := by
    rw [← hl]
    simp [List.set_append_right]
  rw [e] at h5
  exact h5
/-- The cells of told trees, and their depths. -/
def tvals (xs : List TI) : List Value := xs.flatMap fun x => x.2.2
def tdeps (xs : List TI) : List Value := xs.map fun x => .int .i64 (x.1 : Int)
theorem tvals_app (a b : List TI) : tvals (a ++ b) = tvals a ++ tvals b := by simp [tvals]
theorem tdeps_app (a b : List TI) : tdeps (a ++ b) = tdeps a ++ tdeps b := by simp [tdeps]
/-- What list holds: the trees that are wanted, and their depths. -/
abbrev LsL (bw bd : Nat) (rv dv : Value) (xs : List TI) (M : List Ent) : List Ent :=
  .blk bw #[rv] 25 :: .row 27 5 rv xs.length (tvals xs) :: .blk bd #[dv] 31 :: .row 3 1 dv xs.length (tdeps xs) :: M
def ListC (n : Nat) : Prop := ∀ (d : Nat) (w0 : World) (B : Nat) (M : List Ent) (bw bd : Nat) (t : Tree) (cs : List Value) (rv dv : Value) (xs : List TI) (w : World), B ≤ w0.heap.size → ItP (· < B) w0 n t cs → d + t.count ≤ 1000000 → xs.length + t.count ≤ 100000 →
  Hp w0 (LsL bw bd rv dv xs M) w → Calls Try.prog 11 #[.agg cs.toArray, .int .i64 (d : Int), .pointer (some ⟨bw, 0, none⟩), .pointer (some ⟨bd, 0, none⟩)] w fun e w' => e = .returned (.tuple #[]) ∧
    ∃ (rv' dv' : Value) (tl : List TI), Hp w0 (LsL bw bd rv' dv' (xs ++ tl) M) w' ∧ tl.map TI.is = t.told d ∧ ∀ x ∈ tl, ∃ m, ItP (· < B) w0 m x.2.1 x.2.2
/-- Kids that have been listed. -/
def LkRel (w0 : World) (B d : Nat) (M : List Ent) (bw bd : Nat) (t : Tree) (xs : List TI) (ix : Value) (wr : World) : Prop := ∃ (j : Nat) (rv dv : Value) (tl : List TI), j ≤ t.kids.length ∧ ix = .int .i64 j ∧ tl.map TI.is = (d, t) :: Tree.tolds (t.kids.take j) (d + 1) ∧ (∀ x ∈ tl, ∃ m, ItP (· < B) w0 m x.2.1 x.2.2) ∧ Hp w0 (LsL bw bd rv dv (xs ++ tl) M) wr
theorem LkRel.mk {w0 : World} {B d : Nat} {M : List Ent} {bw bd : Nat} {t : Tree} {xs : List TI} {ix : Value} {wr : World} (j : Nat) (rv dv : Value) (tl : List TI) (h0 : j ≤ t.kids.length) (h1 : ix = .int .i64 j) (h2 : tl.map TI.is = (d, t) :: Tree.tolds (t.kids.take j) (d + 1)) (h3 : ∀ x ∈ tl, ∃ m, ItP (· < B) w0 m x.2.1 x.2.2)
  (h4 : Hp w0 (LsL bw bd rv dv (xs ++ tl) M) wr) : LkRel w0 B d M bw bd t xs ix wr := ⟨j, rv, dv, tl, h0, h1, h2, h3, h4⟩
set_option maxHeartbeats 3200000 in
theorem list_step (n : Nat) (ih : ∀ n', n = n' + 1 → ListC n') : ListC n := by
  intro d w0 B M bw bd t cs rv dv xs w hB ht hd hx H
  obtain ⟨i5, hi5, hz50, hz51, hz52⟩ := info_parts info_ri
  obtain ⟨d0, d1, d2, d3, d4, rfl⟩ := five_of ht.len
  obtain ⟨x0, x1, x2, xA, xB, xk, xc, xm, xd, rfl, rfl, rfl, rfl, rfl⟩ := ht.forms
  obtain ⟨Ar, cr, rfl⟩ := own_form (ownsOf H 1 rfl)
  obtain ⟨Ad, cd, rfl⟩ := own_form (ownsOf H 3 rfl)
  have gt := Kp.mk ht
  clear ht
  simp only [LsL] at H
  have C := Hp.facts H
  simp only [Facts, factsL, and_true, true_and, List.set_cons_zero, List.set_cons_succ, List.setIfInBounds_toArray] at C
  go_enter Try.func11, Try.ntmps11
  (repeat' ((fail_if_success (with_reducible show bodyPost _ _ _ _ _ _)); first | ((with_reducible refine Hp.abs_alloc H ?_); intro b' w' H' hb'; (try simp only [hb']); clear hb'; ((try simp only [List.set_cons_zero, List.set_cons_succ, List.setIfInBounds_toArray] at H'); clear C H; have H := H'; clear H'; have C := Hp.facts H; simp only [Facts, factsL, and_true, true_and, List.set_cons_zero, List.set_cons_succ, List.setIfInBounds_toArray] at C)) | ((with_reducible show wpList _ _ _ _ _ (World.setCell _ _ _)); (with_reducible apply Hp.abs_gen H); (first | ((repeat (with_reducible apply Hp.set' 0)); (with_reducible exact H); (repeat rfl); intro w' H') | ((repeat (with_reducible apply Hp.set' 1)); (with_reducible exact H); (repeat rfl); intro w' H') | ((repeat (with_reducible apply Hp.set' 2)); (with_reducible exact H); (repeat rfl); intro w' H') | ((repeat (with_reducible apply Hp.set' 3)); (with_reducible exact H); (repeat rfl); intro w' H') | ((repeat (with_reducible apply Hp.set' 4)); (with_reducible exact H); (repeat rfl); intro w' H') | ((repeat (with_reducible apply Hp.set' 5)); (with_reducible exact H); (repeat rfl); intro w' H') | ((repeat (with_reducible apply Hp.set' 6)); (with_reducible exact H); (repeat rfl); intro w' H') | ((repeat (with_reducible apply Hp.set' 7)); (with_reducible exact H); (repeat rfl); intro w' H') | ((repeat (with_reducible apply Hp.set' 8)); (with_reducible exact H); (repeat rfl); intro w' H') | ((repeat (with_reducible apply Hp.set' 9)); (with_reducible exact H); (repeat rfl); intro w' H')); ((try simp only [List.set_cons_zero, List.set_cons_succ, List.setIfInBounds_toArray] at H'); clear C H; have H := H'; clear H'; have C := Hp.facts H; simp only [Facts, factsL, and_true, true_and, List.set_cons_zero, List.set_cons_succ, List.setIfInBounds_toArray] at C)) | go_values | go_skip | go_guarded | go_step | go_upon | go_back | (simp only [Int.not_lt, Int.not_le] at *; go_simp) | (go_values <;> (try go_simp)) | (go_ite <;> go_prune <;> (try go_simp)) | (split <;> (first | (rename_i hx; exact (hx _ rfl).elim) | go_prune))))

  (obtain ⟨bt, rfl⟩ := Hp.name H 0 rfl)
  go_cut [] (fun wx => ∃ (g cw : Nat), Hp w0 (.blk bt #[.int .i64 x0, .int .i64 x1, .bool x2, .slice xA xk xc, .slice xB xm xd] 27 :: .blk bw #[.slice (some ⟨g, 0, none⟩) (xs.length + 1) cw] 25 :: .row 27 5 (.slice (some ⟨g, 0, none⟩) (xs.length + 1) cw) (xs.length + 1) (tvals xs ++ [.int .i64 x0, .int .i64 x1, .bool x2, .slice xA xk xc, .slice xB xm xd]) :: .blk bd #[.slice Ad xs.length cd] 31 :: .row 3 1 (.slice Ad xs.length cd) xs.length (tdeps xs) :: M) wx)
  case first =>
    try simp (disch := omega) only [decide_eq_true, decide_eq_false]
    obtain ⟨wR1, rfl⟩ := Hp.nameW H
    apply region_d (frm wR1.heap.size (fun _ => Hp _ _)) (frm_ok ?hfs_1) frm_sz [] [.light 0 0, .light 0 0, .light 0 0, .light 0 0, .light 0 0, .light 0 0] [false, false, false, false, false, true] 6 43 [6, 6, 6, 6, 6, 6] [some 9, some 10, some 11, some 12, some 13, some 14] [[], [0], [1], [], [2], []] [Eq1 _, Eq1 _, Eq1 _, Eq1 _, Eq1 _, NewSl wR1.heap.size _ _ _] ?hq1_1 ?hq2_1 ?hq3_1 ?hq4_1 ?hq5_1 ?hq6_1 _ ?hA_1 ?hst_1 ?h0_1 ?hsteps_1 ?hend_1
    case hq1_1 => kernel_rfl
    case hq2_1 => kernel_rfl
    case hq3_1 => kernel_rfl
    case hq5_1 => kernel_rfl
    case hq4_1 => rfl
    case hq6_1 => rfl
    case hA_1 => intro vs; simp only [fillD, Nat.reduceAdd, Act.put, List.setIfInBounds_toArray, List.set_cons_zero, List.set_cons_succ]; rfl
    case h0_1 => exact H.drew
    case hfs_1 => exact fun _ _ _ hb h => Hp.step h hb
    case hsteps_1 =>
      refine ⟨?_, ?_, ?_, ?_, ?_, ?_, trivial⟩
      · intro p vs w' K hJ hp1 hp2 hS hR hK
        rw [if_pos (by rfl)]
        go_step
        exact hK.out _ _ (Below.refl _ _) Eq1.mk Fresh.no
      · intro p vs w' K hJ hp1 hp2 hS hR hK
        simp only [DepJ, List.getD_cons_zero, List.getD_cons_succ] at hJ
        obtain ⟨j0, -⟩ := hJ
        have j0 := Eq1.out j0
        simp only [j0] at hK ⊢
        rw [if_pos (by rfl)]
        go_step
        exact hK.out _ _ (Below.refl _ _) Eq1.mk Fresh.no
      · intro p vs w' K hJ hp1 hp2 hS hR hK
        simp only [DepJ, List.getD_cons_zero, List.getD_cons_succ] at hJ
        obtain ⟨j1, -⟩ := hJ
        have j1 := Eq1.out j1
        simp only [j1] at hK ⊢
        rw [if_pos (by rfl)]
        have C := Hp.facts hS
        simp only [Facts, factsL, and_true, true_and, List.set_cons_zero, List.set_cons_succ, List.setIfInBounds_toArray] at C
        have hsz := hR.1
        go_step
        exact hK.out _ _ (Below.refl _ _) Eq1.mk Fresh.no
      · intro p vs w' K hJ hp1 hp2 hS hR hK
        rw [if_pos (by rfl)]
        have C := Hp.facts hS
        simp only [Facts, factsL, and_true, true_and, List.set_cons_zero, List.set_cons_succ, List.setIfInBounds_toArray] at C
        have hsz := hR.1
        go_step
        exact hK.out _ _ (Below.refl _ _) Eq1.mk Fresh.no
      · intro p vs w' K hJ hp1 hp2 hS hR hK
        simp only [DepJ, List.getD_cons_zero, List.getD_cons_succ] at hJ
        obtain ⟨j2, -⟩ := hJ
        have j2 := Eq1.out j2
        simp only [j2] at hK ⊢
        rw [if_pos (by rfl)]
        have C := Hp.facts hS
        simp only [Facts, factsL, and_true, true_and, List.set_cons_zero, List.set_cons_succ, List.setIfInBounds_toArray] at C
        have hsz := hR.1
        go_step
        exact hK.out _ _ (Below.refl _ _) Eq1.mk Fresh.no
      · intro p vs w' K hJ hp1 hp2 hS hR hK
        rw [if_pos (by rfl)]
        go_step
        exact hK.out _ _ ((Below.refl _ _).alloc (Nat.le_refl _) _) (NewSl.mk _ _ _ _ _ hR.1) Fresh.sl
    case hst_1 => refine ⟨fun _ _ _ _ h => h, fun _ _ _ _ h => h, fun _ _ _ _ h => h, fun _ _ _ _ h => h, fun _ _ _ _ h => h, fun _ _ _ hs h => NewSl.stayR hs h, trivial⟩
    intro vs w' hJ hD hS hR fuel hfu
    simp only [AllJ, Nat.reduceAdd] at hJ
    obtain ⟨v0, v1, v2, v3, v4, v5, -⟩ := hJ
    clear C
    replace v0 := Eq1.out v0
    replace v1 := Eq1.out v1
    replace v2 := Eq1.out v2
    replace v3 := Eq1.out v3
    replace v4 := Eq1.out v4
    obtain ⟨k5, e5, hB5, hh5⟩ := v5
    simp only [v0, v1, v2, v3, v4, e5, List.drop_succ_cons, List.drop_zero]
    replace hS : Hp _ _ _ := hS
    have H' := Hp.adopts hS H.low.size (fun k hk => Hp.lows H k hk) [.blk k5 _ _] (by intro x hx; simp only [List.mem_cons, List.not_mem_nil, or_false] at hx; subst hx; exact ⟨hh5, hB5⟩) (nodup1 _)
    simp only [List.cons_append, List.nil_append] at H'
    clear hD hR hS v0 v1 v2 v3 v4
    clear e5 hB5 hh5
    clear vs H
    have H := H'; clear H'; have C := Hp.facts H; simp only [Facts, factsL, and_true, true_and, List.set_cons_zero, List.set_cons_succ, List.setIfInBounds_toArray] at C

    obtain ⟨m, rfl⟩ : ∃ m, fuel = m + 4 := ⟨fuel - 4, by simp at hfu; omega⟩
    clear hfu
    have hl0 := (ownsOf H 3 rfl).1
    replace hl0 := Kp.mk hl0
    have hlt1 : (xs.length : Int) < (xs.length : Int) + 1 := by omega
    refine wpOp_go rfl rfl ?_
    refine wp_append_hp H 3 _ _ _ rfl Try.underlying25 hi5 hz50 hz51 hz52 rfl (by decide) rfl rfl rfl (news := [_, _, _, _, _]) rfl (fun h => by cases h) (fun _ => ⟨_, rfl, blk_news (H.get 0 rfl)⟩) (by simp [Value.oneCell']) (by unfold maxLen; omega) (by omega) ?_
    intro v' w2 H'
    obtain ⟨Av, cw, rfl⟩ := own_form (ownsOf H' 3 rfl)
    obtain ⟨g, rfl⟩ := row_base3 (ownsOf H' 3 rfl) (by omega)
    ((try simp only [List.set_cons_zero, List.set_cons_succ, List.setIfInBounds_toArray] at H'); clear C H; have H := H'; clear H'; have C := Hp.facts H; simp only [Facts, factsL, and_true, true_and, List.set_cons_zero, List.set_cons_succ, List.setIfInBounds_toArray] at C)
    have hg : ∀ j, (tvals xs ++ [.int .i64 0, .int .i64 0, .bool false, .slice none 0 0, .slice none 0 0])[xs.length * 5 + j]? = [Value.int .i64 0, .int .i64 0, .bool false, .slice none 0 0, .slice none 0 0][j]? := fun j => by rw [List.getElem?_append_right (by rw [hl0.out]; omega), hl0.out, Nat.add_sub_cancel_left]
    have gg := Kp.mk hg
    clear hg
    simp only [Act.put, List.setIfInBounds_toArray, List.set_cons_zero, List.set_cons_succ]
    refine wpAny_go2 7 9 (by kernel_rfl) ?_ ?_
    · skip
      refine wpOp_go rfl rfl ?_
      go_step
      refine wpAny_go2 8 9 (by kernel_rfl) ?_ ?_
      · skip
        refine wpOp_go rfl rfl ?_
        have hfr := (Hp.rowCellN H 3 rfl).2.2.1
        have hq0 := (Hp.rowCellN H 3 rfl).2.2.2 (xs.length * 5) _ (gg.out 0)
        have hq1 := (Hp.rowCellN H 3 rfl).2.2.2 (xs.length * 5 + 1) _ (gg.out 1)
        have hq2 := (Hp.rowCellN H 3 rfl).2.2.2 (xs.length * 5 + 2) _ (gg.out 2)
        have hq3 := (Hp.rowCellN H 3 rfl).2.2.2 (xs.length * 5 + 3) _ (gg.out 3)
        have hq4 := (Hp.rowCellN H 3 rfl).2.2.2 (xs.length * 5 + 4) _ (gg.out 4)
        go_step
        clear hfr hq0 hq1 hq2 hq3 hq4
        refine abs_any (store5 H (i := 3) rfl hl0.out) ?_
        intro w' H'
        ((try simp only [List.set_cons_zero, List.set_cons_succ, List.setIfInBounds_toArray] at H'); clear C H; have H := H'; clear H'; have C := Hp.facts H; simp only [Facts, factsL, and_true, true_and, List.set_cons_zero, List.set_cons_succ, List.setIfInBounds_toArray] at C)
        refine wpAny_go1 9 (by kernel_rfl) ?_
        refine wpOp_go rfl rfl ?_
        go_step
        refine wpAny_go1 10 (by kernel_rfl) ?_
        refine wpOp_go rfl rfl ?_
        go_step
        refine abs_any (H.set 2 rfl 0 _) ?_
        intro w' H'
        ((try simp only [List.set_cons_zero, List.set_cons_succ, List.setIfInBounds_toArray] at H'); clear C H; have H := H'; clear H'; have C := Hp.facts H; simp only [Facts, factsL, and_true, true_and, List.set_cons_zero, List.set_cons_succ, List.setIfInBounds_toArray] at C)
        refine wpAny_end (by kernel_rfl) ?_
        (repeat' ((fail_if_success (with_reducible show bodyPost _ _ _ _ _ _)); first | ((with_reducible refine Hp.abs_alloc H ?_); intro b' w' H' hb'; (try simp only [hb']); clear hb'; ((try simp only [List.set_cons_zero, List.set_cons_succ, List.setIfInBounds_toArray] at H'); clear C H; have H := H'; clear H'; have C := Hp.facts H; simp only [Facts, factsL, and_true, true_and, List.set_cons_zero, List.set_cons_succ, List.setIfInBounds_toArray] at C)) | ((with_reducible show wpList _ _ _ _ _ (World.setCell _ _ _)); (with_reducible apply Hp.abs_gen H); (first | ((repeat (with_reducible apply Hp.set' 0)); (with_reducible exact H); (repeat rfl); intro w' H') | ((repeat (with_reducible apply Hp.set' 1)); (with_reducible exact H); (repeat rfl); intro w' H') | ((repeat (with_reducible apply Hp.set' 2)); (with_reducible exact H); (repeat rfl); intro w' H') | ((repeat (with_reducible apply Hp.set' 3)); (with_reducible exact H); (repeat rfl); intro w' H') | ((repeat (with_reducible apply Hp.set' 4)); (with_reducible exact H); (repeat rfl); intro w' H') | ((repeat (with_reducible apply Hp.set' 5)); (with_reducible exact H); (repeat rfl); intro w' H') | ((repeat (with_reducible apply Hp.set' 6)); (with_reducible exact H); (repeat rfl); intro w' H') | ((repeat (with_reducible apply Hp.set' 7)); (with_reducible exact H); (repeat rfl); intro w' H') | ((repeat (with_reducible apply Hp.set' 8)); (with_reducible exact H); (repeat rfl); intro w' H') | ((repeat (with_reducible apply Hp.set' 9)); (with_reducible exact H); (repeat rfl); intro w' H')); ((try simp only [List.set_cons_zero, List.set_cons_succ, List.setIfInBounds_toArray] at H'); clear C H; have H := H'; clear H'; have C := Hp.facts H; simp only [Facts, factsL, and_true, true_and, List.set_cons_zero, List.set_cons_succ, List.setIfInBounds_toArray] at C)) | go_values | go_skip | go_guarded | go_step | go_upon | go_back | (simp only [Int.not_lt, Int.not_le] at *; go_simp) | (go_values <;> (try go_simp)) | (go_ite <;> go_prune <;> (try go_simp)) | (split <;> (first | (rename_i hx; exact (hx _ rfl).elim) | go_prune))))
        go_meet
        exact ⟨g, cw, H.tail⟩
      · skip
        refine wpOp_go rfl rfl ?_
        go_step
        refine wpAny_go2 8 10 (by kernel_rfl) ?_ ?_
        · skip
          refine wpOp_go rfl rfl ?_
          have hfr := (Hp.rowCellN H 3 rfl).2.2.1
          have hq0 := (Hp.rowCellN H 3 rfl).2.2.2 (xs.length * 5) _ (gg.out 0)
          have hq1 := (Hp.rowCellN H 3 rfl).2.2.2 (xs.length * 5 + 1) _ (gg.out 1)
          have hq2 := (Hp.rowCellN H 3 rfl).2.2.2 (xs.length * 5 + 2) _ (gg.out 2)
          have hq3 := (Hp.rowCellN H 3 rfl).2.2.2 (xs.length * 5 + 3) _ (gg.out 3)
          have hq4 := (Hp.rowCellN H 3 rfl).2.2.2 (xs.length * 5 + 4) _ (gg.out 4)
          go_step
          clear hfr hq0 hq1 hq2 hq3 hq4
          refine abs_any (store5 H (i := 3) rfl hl0.out) ?_
          intro w' H'
          ((try simp only [List.set_cons_zero, List.set_cons_succ, List.setIfInBounds_toArray] at H'); clear C H; have H := H'; clear H'; have C := Hp.facts H; simp only [Facts, factsL, and_true, true_and, List.set_cons_zero, List.set_cons_succ, List.setIfInBounds_toArray] at C)
          refine wpAny_go1 10 (by kernel_rfl) ?_
          refine wpOp_go rfl rfl ?_
          go_step
          refine abs_any (H.set 2 rfl 0 _) ?_
          intro w' H'
          ((try simp only [List.set_cons_zero, List.set_cons_succ, List.setIfInBounds_toArray] at H'); clear C H; have H := H'; clear H'; have C := Hp.facts H; simp only [Facts, factsL, and_true, true_and, List.set_cons_zero, List.set_cons_succ, List.setIfInBounds_toArray] at C)
          refine wpAny_end (by kernel_rfl) ?_
          (repeat' ((fail_if_success (with_reducible show bodyPost _ _ _ _ _ _)); first | ((with_reducible refine Hp.abs_alloc H ?_); intro b' w' H' hb'; (try simp only [hb']); clear hb'; ((try simp only [List.set_cons_zero, List.set_cons_succ, List.setIfInBounds_toArray] at H'); clear C H; have H := H'; clear H'; have C := Hp.facts H; simp only [Facts, factsL, and_true, true_and, List.set_cons_zero, List.set_cons_succ, List.setIfInBounds_toArray] at C)) | ((with_reducible show wpList _ _ _ _ _ (World.setCell _ _ _)); (with_reducible apply Hp.abs_gen H); (first | ((repeat (with_reducible apply Hp.set' 0)); (with_reducible exact H); (repeat rfl); intro w' H') | ((repeat (with_reducible apply Hp.set' 1)); (with_reducible exact H); (repeat rfl); intro w' H') | ((repeat (with_reducible apply Hp.set' 2)); (with_reducible exact H); (repeat rfl); intro w' H') | ((repeat (with_reducible apply Hp.set' 3)); (with_reducible exact H); (repeat rfl); intro w' H') | ((repeat (with_reducible apply Hp.set' 4)); (with_reducible exact H); (repeat rfl); intro w' H') | ((repeat (with_reducible apply Hp.set' 5)); (with_reducible exact H); (repeat rfl); intro w' H') | ((repeat (with_reducible apply Hp.set' 6)); (with_reducible exact H); (repeat rfl); intro w' H') | ((repeat (with_reducible apply Hp.set' 7)); (with_reducible exact H); (repeat rfl); intro w' H') | ((repeat (with_reducible apply Hp.set' 8)); (with_reducible exact H); (repeat rfl); intro w' H') | ((repeat (with_reducible apply Hp.set' 9)); (with_reducible exact H); (repeat rfl); intro w' H')); ((try simp only [List.set_cons_zero, List.set_cons_succ, List.setIfInBounds_toArray] at H'); clear C H; have H := H'; clear H'; have C := Hp.facts H; simp only [Facts, factsL, and_true, true_and, List.set_cons_zero, List.set_cons_succ, List.setIfInBounds_toArray] at C)) | go_values | go_skip | go_guarded | go_step | go_upon | go_back | (simp only [Int.not_lt, Int.not_le] at *; go_simp) | (go_values <;> (try go_simp)) | (go_ite <;> go_prune <;> (try go_simp)) | (split <;> (first | (rename_i hx; exact (hx _ rfl).elim) | go_prune))))
          go_meet
          exact ⟨g, cw, H.tail⟩
        · skip
          refine wpOp_go rfl rfl ?_
          go_step
          refine abs_any (H.set 2 rfl 0 _) ?_
          intro w' H'
          ((try simp only [List.set_cons_zero, List.set_cons_succ, List.setIfInBounds_toArray] at H'); clear C H; have H := H'; clear H'; have C := Hp.facts H; simp only [Facts, factsL, and_true, true_and, List.set_cons_zero, List.set_cons_succ, List.setIfInBounds_toArray] at C)
          refine wpAny_go1 8 (by kernel_rfl) ?_
          refine wpOp_go rfl rfl ?_
          have hfr := (Hp.rowCellN H 3 rfl).2.2.1
          have hq0 := (Hp.rowCellN H 3 rfl).2.2.2 (xs.length * 5) _ (gg.out 0)
          have hq1 := (Hp.rowCellN H 3 rfl).2.2.2 (xs.length * 5 + 1) _ (gg.out 1)
          have hq2 := (Hp.rowCellN H 3 rfl).2.2.2 (xs.length * 5 + 2) _ (gg.out 2)
          have hq3 := (Hp.rowCellN H 3 rfl).2.2.2 (xs.length * 5 + 3) _ (gg.out 3)
          have hq4 := (Hp.rowCellN H 3 rfl).2.2.2 (xs.length * 5 + 4) _ (gg.out 4)
          go_step
          clear hfr hq0 hq1 hq2 hq3 hq4
          refine abs_any (store5 H (i := 3) rfl hl0.out) ?_
          intro w' H'
          ((try simp only [List.set_cons_zero, List.set_cons_succ, List.setIfInBounds_toArray] at H'); clear C H; have H := H'; clear H'; have C := Hp.facts H; simp only [Facts, factsL, and_true, true_and, List.set_cons_zero, List.set_cons_succ, List.setIfInBounds_toArray] at C)
          refine wpAny_end (by kernel_rfl) ?_
          (repeat' ((fail_if_success (with_reducible show bodyPost _ _ _ _ _ _)); first | ((with_reducible refine Hp.abs_alloc H ?_); intro b' w' H' hb'; (try simp only [hb']); clear hb'; ((try simp only [List.set_cons_zero, List.set_cons_succ, List.setIfInBounds_toArray] at H'); clear C H; have H := H'; clear H'; have C := Hp.facts H; simp only [Facts, factsL, and_true, true_and, List.set_cons_zero, List.set_cons_succ, List.setIfInBounds_toArray] at C)) | ((with_reducible show wpList _ _ _ _ _ (World.setCell _ _ _)); (with_reducible apply Hp.abs_gen H); (first | ((repeat (with_reducible apply Hp.set' 0)); (with_reducible exact H); (repeat rfl); intro w' H') | ((repeat (with_reducible apply Hp.set' 1)); (with_reducible exact H); (repeat rfl); intro w' H') | ((repeat (with_reducible apply Hp.set' 2)); (with_reducible exact H); (repeat rfl); intro w' H') | ((repeat (with_reducible apply Hp.set' 3)); (with_reducible exact H); (repeat rfl); intro w' H') | ((repeat (with_reducible apply Hp.set' 4)); (with_reducible exact H); (repeat rfl); intro w' H') | ((repeat (with_reducible apply Hp.set' 5)); (with_reducible exact H); (repeat rfl); intro w' H') | ((repeat (with_reducible apply Hp.set' 6)); (with_reducible exact H); (repeat rfl); intro w' H') | ((repeat (with_reducible apply Hp.set' 7)); (with_reducible exact H); (repeat rfl); intro w' H') | ((repeat (with_reducible apply Hp.set' 8)); (with_reducible exact H); (repeat rfl); intro w' H') | ((repeat (with_reducible apply Hp.set' 9)); (with_reducible exact H); (repeat rfl); intro w' H')); ((try simp only [List.set_cons_zero, List.set_cons_succ, List.setIfInBounds_toArray] at H'); clear C H; have H := H'; clear H'; have C := Hp.facts H; simp only [Facts, factsL, and_true, true_and, List.set_cons_zero, List.set_cons_succ, List.setIfInBounds_toArray] at C)) | go_values | go_skip | go_guarded | go_step | go_upon | go_back | (simp only [Int.not_lt, Int.not_le] at *; go_simp) | (go_values <;> (try go_simp)) | (go_ite <;> go_prune <;> (try go_simp)) | (split <;> (first | (rename_i hx; exact (hx _ rfl).elim) | go_prune))))
          go_meet
          exact ⟨g, cw, H.tail⟩
    · skip
      refine wpOp_go rfl rfl ?_
      go_step
      refine wpAny_go2 7 10 (by kernel_rfl) ?_ ?_
      · skip
        refine wpOp_go rfl rfl ?_
        go_step
        refine wpAny_go2 8 10 (by kernel_rfl) ?_ ?_
        · skip
          refine wpOp_go rfl rfl ?_
          have hfr := (Hp.rowCellN H 3 rfl).2.2.1
          have hq0 := (Hp.rowCellN H 3 rfl).2.2.2 (xs.length * 5) _ (gg.out 0)
          have hq1 := (Hp.rowCellN H 3 rfl).2.2.2 (xs.length * 5 + 1) _ (gg.out 1)
          have hq2 := (Hp.rowCellN H 3 rfl).2.2.2 (xs.length * 5 + 2) _ (gg.out 2)
          have hq3 := (Hp.rowCellN H 3 rfl).2.2.2 (xs.length * 5 + 3) _ (gg.out 3)
          have hq4 := (Hp.rowCellN H 3 rfl).2.2.2 (xs.length * 5 + 4) _ (gg.out 4)
          go_step
          clear hfr hq0 hq1 hq2 hq3 hq4
          refine abs_any (store5 H (i := 3) rfl hl0.out) ?_
          intro w' H'
          ((try simp only [List.set_cons_zero, List.set_cons_succ, List.setIfInBounds_toArray] at H'); clear C H; have H := H'; clear H'; have C := Hp.facts H; simp only [Facts, factsL, and_true, true_and, List.set_cons_zero, List.set_cons_succ, List.setIfInBounds_toArray] at C)
          refine wpAny_go1 10 (by kernel_rfl) ?_
          refine wpOp_go rfl rfl ?_
          go_step
          refine abs_any (H.set 2 rfl 0 _) ?_
          intro w' H'
          ((try simp only [List.set_cons_zero, List.set_cons_succ, List.setIfInBounds_toArray] at H'); clear C H; have H := H'; clear H'; have C := Hp.facts H; simp only [Facts, factsL, and_true, true_and, List.set_cons_zero, List.set_cons_succ, List.setIfInBounds_toArray] at C)
          refine wpAny_end (by kernel_rfl) ?_
          (repeat' ((fail_if_success (with_reducible show bodyPost _ _ _ _ _ _)); first | ((with_reducible refine Hp.abs_alloc H ?_); intro b' w' H' hb'; (try simp only [hb']); clear hb'; ((try simp only [List.set_cons_zero, List.set_cons_succ, List.setIfInBounds_toArray] at H'); clear C H; have H := H'; clear H'; have C := Hp.facts H; simp only [Facts, factsL, and_true, true_and, List.set_cons_zero, List.set_cons_succ, List.setIfInBounds_toArray] at C)) | ((with_reducible show wpList _ _ _ _ _ (World.setCell _ _ _)); (with_reducible apply Hp.abs_gen H); (first | ((repeat (with_reducible apply Hp.set' 0)); (with_reducible exact H); (repeat rfl); intro w' H') | ((repeat (with_reducible apply Hp.set' 1)); (with_reducible exact H); (repeat rfl); intro w' H') | ((repeat (with_reducible apply Hp.set' 2)); (with_reducible exact H); (repeat rfl); intro w' H') | ((repeat (with_reducible apply Hp.set' 3)); (with_reducible exact H); (repeat rfl); intro w' H') | ((repeat (with_reducible apply Hp.set' 4)); (with_reducible exact H); (repeat rfl); intro w' H') | ((repeat (with_reducible apply Hp.set' 5)); (with_reducible exact H); (repeat rfl); intro w' H') | ((repeat (with_reducible apply Hp.set' 6)); (with_reducible exact H); (repeat rfl); intro w' H') | ((repeat (with_reducible apply Hp.set' 7)); (with_reducible exact H); (repeat rfl); intro w' H') | ((repeat (with_reducible apply Hp.set' 8)); (with_reducible exact H); (repeat rfl); intro w' H') | ((repeat (with_reducible apply Hp.set' 9)); (with_reducible exact H); (repeat rfl); intro w' H')); ((try simp only [List.set_cons_zero, List.set_cons_succ, List.setIfInBounds_toArray] at H'); clear C H; have H := H'; clear H'; have C := Hp.facts H; simp only [Facts, factsL, and_true, true_and, List.set_cons_zero, List.set_cons_succ, List.setIfInBounds_toArray] at C)) | go_values | go_skip | go_guarded | go_step | go_upon | go_back | (simp only [Int.not_lt, Int.not_le] at *; go_simp) | (go_values <;> (try go_simp)) | (go_ite <;> go_prune <;> (try go_simp)) | (split <;> (first | (rename_i hx; exact (hx _ rfl).elim) | go_prune))))
          go_meet
          exact ⟨g, cw, H.tail⟩
        · skip
          refine wpOp_go rfl rfl ?_
          go_step
          refine abs_any (H.set 2 rfl 0 _) ?_
          intro w' H'
          ((try simp only [List.set_cons_zero, List.set_cons_succ, List.setIfInBounds_toArray] at H'); clear C H; have H := H'; clear H'; have C := Hp.facts H; simp only [Facts, factsL, and_true, true_and, List.set_cons_zero, List.set_cons_succ, List.setIfInBounds_toArray] at C)
          refine wpAny_go1 8 (by kernel_rfl) ?_
          refine wpOp_go rfl rfl ?_
          have hfr := (Hp.rowCellN H 3 rfl).2.2.1
          have hq0 := (Hp.rowCellN H 3 rfl).2.2.2 (xs.length * 5) _ (gg.out 0)
          have hq1 := (Hp.rowCellN H 3 rfl).2.2.2 (xs.length * 5 + 1) _ (gg.out 1)
          have hq2 := (Hp.rowCellN H 3 rfl).2.2.2 (xs.length * 5 + 2) _ (gg.out 2)
          have hq3 := (Hp.rowCellN H 3 rfl).2.2.2 (xs.length * 5 + 3) _ (gg.out 3)
          have hq4 := (Hp.rowCellN H 3 rfl).2.2.2 (xs.length * 5 + 4) _ (gg.out 4)
          go_step
          clear hfr hq0 hq1 hq2 hq3 hq4
          refine abs_any (store5 H (i := 3) rfl hl0.out) ?_
          intro w' H'
          ((try simp only [List.set_cons_zero, List.set_cons_succ, List.setIfInBounds_toArray] at H'); clear C H; have H := H'; clear H'; have C := Hp.facts H; simp only [Facts, factsL, and_true, true_and, List.set_cons_zero, List.set_cons_succ, List.setIfInBounds_toArray] at C)
          refine wpAny_end (by kernel_rfl) ?_
          (repeat' ((fail_if_success (with_reducible show bodyPost _ _ _ _ _ _)); first | ((with_reducible refine Hp.abs_alloc H ?_); intro b' w' H' hb'; (try simp only [hb']); clear hb'; ((try simp only [List.set_cons_zero, List.set_cons_succ, List.setIfInBounds_toArray] at H'); clear C H; have H := H'; clear H'; have C := Hp.facts H; simp only [Facts, factsL, and_true, true_and, List.set_cons_zero, List.set_cons_succ, List.setIfInBounds_toArray] at C)) | ((with_reducible show wpList _ _ _ _ _ (World.setCell _ _ _)); (with_reducible apply Hp.abs_gen H); (first | ((repeat (with_reducible apply Hp.set' 0)); (with_reducible exact H); (repeat rfl); intro w' H') | ((repeat (with_reducible apply Hp.set' 1)); (with_reducible exact H); (repeat rfl); intro w' H') | ((repeat (with_reducible apply Hp.set' 2)); (with_reducible exact H); (repeat rfl); intro w' H') | ((repeat (with_reducible apply Hp.set' 3)); (with_reducible exact H); (repeat rfl); intro w' H') | ((repeat (with_reducible apply Hp.set' 4)); (with_reducible exact H); (repeat rfl); intro w' H') | ((repeat (with_reducible apply Hp.set' 5)); (with_reducible exact H); (repeat rfl); intro w' H') | ((repeat (with_reducible apply Hp.set' 6)); (with_reducible exact H); (repeat rfl); intro w' H') | ((repeat (with_reducible apply Hp.set' 7)); (with_reducible exact H); (repeat rfl); intro w' H') | ((repeat (with_reducible apply Hp.set' 8)); (with_reducible exact H); (repeat rfl); intro w' H') | ((repeat (with_reducible apply Hp.set' 9)); (with_reducible exact H); (repeat rfl); intro w' H')); ((try simp only [List.set_cons_zero, List.set_cons_succ, List.setIfInBounds_toArray] at H'); clear C H; have H := H'; clear H'; have C := Hp.facts H; simp only [Facts, factsL, and_true, true_and, List.set_cons_zero, List.set_cons_succ, List.setIfInBounds_toArray] at C)) | go_values | go_skip | go_guarded | go_step | go_upon | go_back | (simp only [Int.not_lt, Int.not_le] at *; go_simp) | (go_values <;> (try go_simp)) | (go_ite <;> go_prune <;> (try go_simp)) | (split <;> (first | (rename_i hx; exact (hx _ rfl).elim) | go_prune))))
          go_meet
          exact ⟨g, cw, H.tail⟩
      · skip
        refine wpOp_go rfl rfl ?_
        go_step
        refine abs_any (H.set 2 rfl 0 _) ?_
        intro w' H'
        ((try simp only [List.set_cons_zero, List.set_cons_succ, List.setIfInBounds_toArray] at H'); clear C H; have H := H'; clear H'; have C := Hp.facts H; simp only [Facts, factsL, and_true, true_and, List.set_cons_zero, List.set_cons_succ, List.setIfInBounds_toArray] at C)
        refine wpAny_go1 7 (by kernel_rfl) ?_
        refine wpOp_go rfl rfl ?_
        go_step
        refine wpAny_go1 8 (by kernel_rfl) ?_
        refine wpOp_go rfl rfl ?_
        have hfr := (Hp.rowCellN H 3 rfl).2.2.1
        have hq0 := (Hp.rowCellN H 3 rfl).2.2.2 (xs.length * 5) _ (gg.out 0)
        have hq1 := (Hp.rowCellN H 3 rfl).2.2.2 (xs.length * 5 + 1) _ (gg.out 1)
        have hq2 := (Hp.rowCellN H 3 rfl).2.2.2 (xs.length * 5 + 2) _ (gg.out 2)
        have hq3 := (Hp.rowCellN H 3 rfl).2.2.2 (xs.length * 5 + 3) _ (gg.out 3)
        have hq4 := (Hp.rowCellN H 3 rfl).2.2.2 (xs.length * 5 + 4) _ (gg.out 4)
        go_step
        clear hfr hq0 hq1 hq2 hq3 hq4
        refine abs_any (store5 H (i := 3) rfl hl0.out) ?_
        intro w' H'
        ((try simp only [List.set_cons_zero, List.set_cons_succ, List.setIfInBounds_toArray] at H'); clear C H; have H := H'; clear H'; have C := Hp.facts H; simp only [Facts, factsL, and_true, true_and, List.set_cons_zero, List.set_cons_succ, List.setIfInBounds_toArray] at C)
        refine wpAny_end (by kernel_rfl) ?_
        (repeat' ((fail_if_success (with_reducible show bodyPost _ _ _ _ _ _)); first | ((with_reducible refine Hp.abs_alloc H ?_); intro b' w' H' hb'; (try simp only [hb']); clear hb'; ((try simp only [List.set_cons_zero, List.set_cons_succ, List.setIfInBounds_toArray] at H'); clear C H; have H := H'; clear H'; have C := Hp.facts H; simp only [Facts, factsL, and_true, true_and, List.set_cons_zero, List.set_cons_succ, List.setIfInBounds_toArray] at C)) | ((with_reducible show wpList _ _ _ _ _ (World.setCell _ _ _)); (with_reducible apply Hp.abs_gen H); (first | ((repeat (with_reducible apply Hp.set' 0)); (with_reducible exact H); (repeat rfl); intro w' H') | ((repeat (with_reducible apply Hp.set' 1)); (with_reducible exact H); (repeat rfl); intro w' H') | ((repeat (with_reducible apply Hp.set' 2)); (with_reducible exact H); (repeat rfl); intro w' H') | ((repeat (with_reducible apply Hp.set' 3)); (with_reducible exact H); (repeat rfl); intro w' H') | ((repeat (with_reducible apply Hp.set' 4)); (with_reducible exact H); (repeat rfl); intro w' H') | ((repeat (with_reducible apply Hp.set' 5)); (with_reducible exact H); (repeat rfl); intro w' H') | ((repeat (with_reducible apply Hp.set' 6)); (with_reducible exact H); (repeat rfl); intro w' H') | ((repeat (with_reducible apply Hp.set' 7)); (with_reducible exact H); (repeat rfl); intro w' H') | ((repeat (with_reducible apply Hp.set' 8)); (with_reducible exact H); (repeat rfl); intro w' H') | ((repeat (with_reducible apply Hp.set' 9)); (with_reducible exact H); (repeat rfl); intro w' H')); ((try simp only [List.set_cons_zero, List.set_cons_succ, List.setIfInBounds_toArray] at H'); clear C H; have H := H'; clear H'; have C := Hp.facts H; simp only [Facts, factsL, and_true, true_and, List.set_cons_zero, List.set_cons_succ, List.setIfInBounds_toArray] at C)) | go_values | go_skip | go_guarded | go_step | go_upon | go_back | (simp only [Int.not_lt, Int.not_le] at *; go_simp) | (go_values <;> (try go_simp)) | (go_ite <;> go_prune <;> (try go_simp)) | (split <;> (first | (rename_i hx; exact (hx _ rfl).elim) | go_prune))))
        go_meet
        exact ⟨g, cw, H.tail⟩

  case rest =>
    clear H C
    obtain ⟨g, cw, H⟩ := hcut
    have C := Hp.facts H
    simp only [Facts, factsL, and_true, true_and, List.set_cons_zero, List.set_cons_succ, List.setIfInBounds_toArray] at C
    obtain ⟨i3, hi3, hz30, hz31, hz32⟩ := info_parts info_n
    obtain ⟨n1, rfl⟩ := gt.out.pos
    obtain ⟨vb, A, c, e, hb, hlc, hcm, hA, hk⟩ := gt.out.opened
    simp only [List.cons.injEq, and_true] at e
    obtain ⟨-, -, -, -, e4⟩ := e
    injection e4 with e5 e6 e7
    subst e5 e6 e7
    clear hb hA
    have hcap : xd ≤ 9223372036854775807 := hcm
    have hk := Kp.mk hk
    have htc := t.count_is
    have hkc := Tree.len_counts t.kids
    (repeat' ((fail_if_success (with_reducible show bodyPost _ _ _ _ _ _)); first | ((with_reducible refine Hp.abs_alloc H ?_); intro b' w' H' hb'; (try simp only [hb']); clear hb'; ((try simp only [List.set_cons_zero, List.set_cons_succ, List.setIfInBounds_toArray] at H'); clear C H; have H := H'; clear H'; have C := Hp.facts H; simp only [Facts, factsL, and_true, true_and, List.set_cons_zero, List.set_cons_succ, List.setIfInBounds_toArray] at C)) | ((with_reducible show wpList _ _ _ _ _ (World.setCell _ _ _)); (with_reducible apply Hp.abs_gen H); (first | ((repeat (with_reducible apply Hp.set' 0)); (with_reducible exact H); (repeat rfl); intro w' H') | ((repeat (with_reducible apply Hp.set' 1)); (with_reducible exact H); (repeat rfl); intro w' H') | ((repeat (with_reducible apply Hp.set' 2)); (with_reducible exact H); (repeat rfl); intro w' H') | ((repeat (with_reducible apply Hp.set' 3)); (with_reducible exact H); (repeat rfl); intro w' H') | ((repeat (with_reducible apply Hp.set' 4)); (with_reducible exact H); (repeat rfl); intro w' H') | ((repeat (with_reducible apply Hp.set' 5)); (with_reducible exact H); (repeat rfl); intro w' H') | ((repeat (with_reducible apply Hp.set' 6)); (with_reducible exact H); (repeat rfl); intro w' H') | ((repeat (with_reducible apply Hp.set' 7)); (with_reducible exact H); (repeat rfl); intro w' H') | ((repeat (with_reducible apply Hp.set' 8)); (with_reducible exact H); (repeat rfl); intro w' H') | ((repeat (with_reducible apply Hp.set' 9)); (with_reducible exact H); (repeat rfl); intro w' H')); ((try simp only [List.set_cons_zero, List.set_cons_succ, List.setIfInBounds_toArray] at H'); clear C H; have H := H'; clear H'; have C := Hp.facts H; simp only [Facts, factsL, and_true, true_and, List.set_cons_zero, List.set_cons_succ, List.setIfInBounds_toArray] at C)) | (at_builtin; (refine wpList_append_hp H 5 rfl _ _ _ rfl Try.underlying31 hi3 hz30 hz31 hz32 rfl (by decide) rfl rfl rfl (news := [_]) rfl (fun h => by cases h) (fun _ => ⟨_, rfl, blk_news (H.get 0 rfl)⟩) (by simp [Value.oneCell']) (by unfold maxLen; omega) (by omega) ?_); intro v' w' H'; (obtain ⟨Ae, ce, rfl⟩ := own_form (ownsOf H' 5 rfl)); ((try simp only [List.set_cons_zero, List.set_cons_succ, List.setIfInBounds_toArray] at H'); clear C H; have H := H'; clear H'; have C := Hp.facts H; simp only [Facts, factsL, and_true, true_and, List.set_cons_zero, List.set_cons_succ, List.setIfInBounds_toArray] at C)) | go_values | go_skip | go_guarded | go_step | go_upon | go_back | (simp only [Int.not_lt, Int.not_le] at *; go_simp) | (go_values <;> (try go_simp)) | (go_ite <;> go_prune <;> (try go_simp)) | (split <;> (first | (rename_i hx; exact (hx _ rfl).elim) | go_prune))))
    obtain ⟨wl, rfl⟩ := Hp.nameW H
    have H3 : Hp w0 (LsL bw bd (.slice (some ⟨g, 0, none⟩) (xs.length + 1) cw) (.slice Ae (xs.length + 1) ce) (xs ++ [(d, t, [.int .i64 x0, .int .i64 x1, .bool x2, .slice xA xk xc, .slice xB t.kids.length xd])]) (.blk bt #[.int .i64 x0, .int .i64 x1, .bool x2, .slice xA xk xc, .slice xB t.kids.length xd] 27 :: M)) wl := by
      have H4 := Hp.selA (M := M) [_, _, _, _, _, _] H [2, 3, 4, 5, 1] (by decide)
      simp only [LsL, tvals_app, tdeps_app, List.length_append, List.length_cons, List.length_nil, Nat.zero_add]
      exact H4
    clear H C
    go_loopw [8] (fun ix wr => LkRel w0 B d (.blk bt #[.int .i64 x0, .int .i64 x1, .bool x2, .slice xA xk xc, .slice xB t.kids.length xd] 27 :: M) bw bd t xs ix wr) (fun ix _ => t.kids.length - (intOf ix).toNat)
    case atStart => exact LkRel.mk 0 _ _ [_] (Nat.zero_le _) rfl rfl (fun x hx => by rw [List.mem_singleton] at hx; subst hx; exact ⟨_, gt.out⟩) H3
    case round =>
      clear H3
      obtain ⟨j, rv, dv, tl, hj, rfl, htl, hall, H⟩ := hrel
      have gl := Kp.mk htl
      have ga := Kp.mk hall
      clear htl hall
      simp only [LsL] at H
      have C := Hp.facts H
      simp only [Facts, factsL, and_true, true_and, List.set_cons_zero, List.set_cons_succ, List.setIfInBounds_toArray] at C
      by_cases hlt : j < t.kids.length
      · obtain ⟨b, o, rfl, hgl, hbB, d0, d1, d2, d3, d4, q0, q1, q2, q3, q4, hkid⟩ := hk.out j hlt
        have gnum := Kp.mk (list_num gl.out hlt hx)
        have hih := fun M3 w3 (H3 : Hp w0 (LsL bw bd rv dv (xs ++ tl) M3) w3) => ih n1 rfl (d + 1) w0 B M3 bw bd t.kids[j] [d0, d1, d2, d3, d4] rv dv (xs ++ tl) w3 hB hkid (by have := Tree.counts_at t.kids j hlt; omega) gnum.out H3
        simp only [LsL, show ((d + 1 : Nat) : Int) = (d : Int) + 1 by omega] at hih
        clear hkid
        (repeat' ((fail_if_success (with_reducible show bodyPost _ _ _ _ _ _)); first | ((with_reducible refine Hp.abs_alloc H ?_); intro b' w' H' hb'; (try simp only [hb']); clear hb'; ((try simp only [List.set_cons_zero, List.set_cons_succ, List.setIfInBounds_toArray] at H'); clear C H; have H := H'; clear H'; have C := Hp.facts H; simp only [Facts, factsL, and_true, true_and, List.set_cons_zero, List.set_cons_succ, List.setIfInBounds_toArray] at C)) | ((with_reducible show wpList _ _ _ _ _ (World.setCell _ _ _)); (with_reducible apply Hp.abs_gen H); (first | ((repeat (with_reducible apply Hp.set' 0)); (with_reducible exact H); (repeat rfl); intro w' H') | ((repeat (with_reducible apply Hp.set' 1)); (with_reducible exact H); (repeat rfl); intro w' H') | ((repeat (with_reducible apply Hp.set' 2)); (with_reducible exact H); (repeat rfl); intro w' H') | ((repeat (with_reducible apply Hp.set' 3)); (with_reducible exact H); (repeat rfl); intro w' H') | ((repeat (with_reducible apply Hp.set' 4)); (with_reducible exact H); (repeat rfl); intro w' H') | ((repeat (with_reducible apply Hp.set' 5)); (with_reducible exact H); (repeat rfl); intro w' H') | ((repeat (with_reducible apply Hp.set' 6)); (with_reducible exact H); (repeat rfl); intro w' H') | ((repeat (with_reducible apply Hp.set' 7)); (with_reducible exact H); (repeat rfl); intro w' H') | ((repeat (with_reducible apply Hp.set' 8)); (with_reducible exact H); (repeat rfl); intro w' H') | ((repeat (with_reducible apply Hp.set' 9)); (with_reducible exact H); (repeat rfl); intro w' H')); ((try simp only [List.set_cons_zero, List.set_cons_succ, List.setIfInBounds_toArray] at H'); clear C H; have H := H'; clear H'; have C := Hp.facts H; simp only [Facts, factsL, and_true, true_and, List.set_cons_zero, List.set_cons_succ, List.setIfInBounds_toArray] at C)) | go_values | go_skip | go_guarded | go_step | go_upon | go_back | (simp only [Int.not_lt, Int.not_le] at *; go_simp) | (go_values <;> (try go_simp)) | (go_ite <;> go_prune <;> (try go_simp)) | (split <;> (first | (rename_i hx; exact (hx _ rfl).elim) | go_prune))))
        refine (hih _ _ H).mono ?_
        rintro e' w3 ⟨rfl, rv2, dv2, tl2, H2, ht2, ha2⟩
        have gt2 := Kp.mk ht2
        have ga2 := Kp.mk ha2
        clear H C hih ht2 ha2
        have H := H2
        clear H2
        have C := Hp.facts H
        simp only [Facts, factsL, and_true, true_and, List.set_cons_zero, List.set_cons_succ, List.setIfInBounds_toArray] at C
        (repeat' ((fail_if_success (with_reducible show bodyPost _ _ _ _ _ _)); first | ((with_reducible refine Hp.abs_alloc H ?_); intro b' w' H' hb'; (try simp only [hb']); clear hb'; ((try simp only [List.set_cons_zero, List.set_cons_succ, List.setIfInBounds_toArray] at H'); clear C H; have H := H'; clear H'; have C := Hp.facts H; simp only [Facts, factsL, and_true, true_and, List.set_cons_zero, List.set_cons_succ, List.setIfInBounds_toArray] at C)) | ((with_reducible show wpList _ _ _ _ _ (World.setCell _ _ _)); (with_reducible apply Hp.abs_gen H); (first | ((repeat (with_reducible apply Hp.set' 0)); (with_reducible exact H); (repeat rfl); intro w' H') | ((repeat (with_reducible apply Hp.set' 1)); (with_reducible exact H); (repeat rfl); intro w' H') | ((repeat (with_reducible apply Hp.set' 2)); (with_reducible exact H); (repeat rfl); intro w' H') | ((repeat (with_reducible apply Hp.set' 3)); (with_reducible exact H); (repeat rfl); intro w' H') | ((repeat (with_reducible apply Hp.set' 4)); (with_reducible exact H); (repeat rfl); intro w' H') | ((repeat (with_reducible apply Hp.set' 5)); (with_reducible exact H); (repeat rfl); intro w' H') | ((repeat (with_reducible apply Hp.set' 6)); (with_reducible exact H); (repeat rfl); intro w' H') | ((repeat (with_reducible apply Hp.set' 7)); (with_reducible exact H); (repeat rfl); intro w' H') | ((repeat (with_reducible apply Hp.set' 8)); (with_reducible exact H); (repeat rfl); intro w' H') | ((repeat (with_reducible apply Hp.set' 9)); (with_reducible exact H); (repeat rfl); intro w' H')); ((try simp only [List.set_cons_zero, List.set_cons_succ, List.setIfInBounds_toArray] at H'); clear C H; have H := H'; clear H'; have C := Hp.facts H; simp only [Facts, factsL, and_true, true_and, List.set_cons_zero, List.set_cons_succ, List.setIfInBounds_toArray] at C)) | go_values | go_skip | go_guarded | go_step | go_upon | go_back | (simp only [Int.not_lt, Int.not_le] at *; go_simp) | (go_values <;> (try go_simp)) | (go_ite <;> go_prune <;> (try go_simp)) | (split <;> (first | (rename_i hx; exact (hx _ rfl).elim) | go_prune))))
        refine ⟨LkRel.mk (j + 1) rv2 dv2 (tl ++ tl2) (by omega) (by go_num) ?_ ?_ (by rw [← List.append_assoc]; exact H), by simp [intOf]; omega⟩
        · rw [List.map_append, gl.out, gt2.out, Tree.tolds_take _ _ _ hlt]
          rfl
        · intro x hx
          rcases List.mem_append.1 hx with h | h
          · exact ga.out x h
          · exact ga2.out x h
      · obtain rfl : j = t.kids.length := by omega
        (repeat' ((fail_if_success (with_reducible show bodyPost _ _ _ _ _ _)); first | ((with_reducible refine Hp.abs_alloc H ?_); intro b' w' H' hb'; (try simp only [hb']); clear hb'; ((try simp only [List.set_cons_zero, List.set_cons_succ, List.setIfInBounds_toArray] at H'); clear C H; have H := H'; clear H'; have C := Hp.facts H; simp only [Facts, factsL, and_true, true_and, List.set_cons_zero, List.set_cons_succ, List.setIfInBounds_toArray] at C)) | ((with_reducible show wpList _ _ _ _ _ (World.setCell _ _ _)); (with_reducible apply Hp.abs_gen H); (first | ((repeat (with_reducible apply Hp.set' 0)); (with_reducible exact H); (repeat rfl); intro w' H') | ((repeat (with_reducible apply Hp.set' 1)); (with_reducible exact H); (repeat rfl); intro w' H') | ((repeat (with_reducible apply Hp.set' 2)); (with_reducible exact H); (repeat rfl); intro w' H') | ((repeat (with_reducible apply Hp.set' 3)); (with_reducible exact H); (repeat rfl); intro w' H') | ((repeat (with_reducible apply Hp.set' 4)); (with_reducible exact H); (repeat rfl); intro w' H') | ((repeat (with_reducible apply Hp.set' 5)); (with_reducible exact H); (repeat rfl); intro w' H') | ((repeat (with_reducible apply Hp.set' 6)); (with_reducible exact H); (repeat rfl); intro w' H') | ((repeat (with_reducible apply Hp.set' 7)); (with_reducible exact H); (repeat rfl); intro w' H') | ((repeat (with_reducible apply Hp.set' 8)); (with_reducible exact H); (repeat rfl); intro w' H') | ((repeat (with_reducible apply Hp.set' 9)); (with_reducible exact H); (repeat rfl); intro w' H')); ((try simp only [List.set_cons_zero, List.set_cons_succ, List.setIfInBounds_toArray] at H'); clear C H; have H := H'; clear H'; have C := Hp.facts H; simp only [Facts, factsL, and_true, true_and, List.set_cons_zero, List.set_cons_succ, List.setIfInBounds_toArray] at C)) | go_values | go_skip | go_guarded | go_step | go_upon | go_back | (simp only [Int.not_lt, Int.not_le] at *; go_simp) | (go_values <;> (try go_simp)) | (go_ite <;> go_prune <;> (try go_simp)) | (split <;> (first | (rename_i hx; exact (hx _ rfl).elim) | go_prune))))
        refine bodyPost_end (v := .tuple #[]) (by simp [results]) rfl ?_
        refine ⟨rfl, rv, dv, tl, ?_, ?_, ga.out⟩
        · exact Hp.selA (M := M) [_, _, _, _, _] H [0, 1, 2, 3] (by decide)
        · rw [gl.out, List.take_length, Tree.told_is]
theorem list_any : ∀ n, ListC n
  | 0 => list_step 0 fun n' h => by omega
  | n + 1 => list_step (n + 1) fun n' h => by
    obtain rfl : n' = n := by omega
    exact list_any n'
end Go.Proofs.Ytogliinfdfkobaa

