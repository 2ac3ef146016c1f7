/- Lemmas and walks on the way to the seat's laws; each theorem says its own conditions. -/
import Derived.Test.YtogliinfdfkobaaI1
set_option linter.unusedSimpArgs false
set_option linter.unusedVariables false
set_option linter.unusedSimpArgs false
set_option linter.unusedVariables false
set_option maxRecDepth 100000
namespace Go.Proofs.Ytogliinfdfkobaa
open Go.RowKit Go.Mem Go.Reg Oct Hd Go.LawLift
/-- What few tells of a tree, at no more than 200 trees and 2000 bytes. -/
def FewR (t : Tree) (d x y : Nat) : Prop := 1 ≤ x ∧ x ≤ 201 * (d + 1) ∧ y ≤ 140737488351232 + 2001 * (d + 1) ∧ (x ≤ 200 → y ≤ 2000 → x = t.count ∧ y = t.total ∧ t.deep ≤ d)
/-- few's loop. -/
def FewL (bs : List UInt8) (ks : List Tree) (d : Nat) (M : List Ent) (w : World) (x y ix : Value) (wr : World) : Prop := ∃ i n m : Nat, i ≤ ks.length ∧ ix = .int .i64 i ∧ x = .int .i64 n ∧ y = .int .i64 m ∧ 1 ≤ n ∧ n ≤ 201 * (d + 2) ∧ m ≤ 140737488351232 + 2001 * (d + 2) ∧
  (n ≤ 200 → m ≤ 2000 → n = Tree.counts (ks.take i) + 1 ∧ m = bs.length + Tree.totals (ks.take i) ∧ Tree.deeps (ks.take i) ≤ d) ∧ Hp w M wr
theorem FewL.mk {bs : List UInt8} {ks : List Tree} {d : Nat} {M : List Ent} {w wr : World} {x y ix : Value} (i n m : Nat) (h1 : i ≤ ks.length) (h2 : ix = .int .i64 i) (h3 : x = .int .i64 n) (h4 : y = .int .i64 m) (h5 : 1 ≤ n) (h6 : n ≤ 201 * (d + 2)) (h7 : m ≤ 140737488351232 + 2001 * (d + 2))
  (h8 : n ≤ 200 → m ≤ 2000 → n = Tree.counts (ks.take i) + 1 ∧ m = bs.length + Tree.totals (ks.take i) ∧ Tree.deeps (ks.take i) ≤ d) (h9 : Hp w M wr) : FewL bs ks d M w x y ix wr := ⟨i, n, m, h1, h2, h3, h4, h5, h6, h7, h8, h9⟩
theorem fewR_next {ks : List Tree} {bs : List UInt8} {d i n m a b : Nat} (hi : i < ks.length) (h : n ≤ 200 → m ≤ 2000 → n = Tree.counts (ks.take i) + 1 ∧ m = bs.length + Tree.totals (ks.take i) ∧ Tree.deeps (ks.take i) ≤ d) (hk : FewR ks[i] d a b) :
    n + a ≤ 200 → m + b ≤ 2000 → n + a = Tree.counts (ks.take (i + 1)) + 1 ∧ m + b = bs.length + Tree.totals (ks.take (i + 1)) ∧ Tree.deeps (ks.take (i + 1)) ≤ d := by
  intro h1 h2
  obtain ⟨e1, e2, e3⟩ := h (by omega) (by omega)
  obtain ⟨k1, k2, k3, k4⟩ := hk
  obtain ⟨l1, l2, l3⟩ := k4 (by omega) (by omega)
  rw [Tree.counts_take ks i hi, Tree.totals_take ks i hi, Tree.deeps_take ks i hi]
  omega
set_option maxHeartbeats 1600000 in
theorem rfew_any : ∀ (n : Nat) (t : Tree) (cs : List Value) (w : World) (d : Nat), ItN w n t cs → t.Fit → d ≤ 60 → Calls Try.prog 33 #[.agg cs.toArray, .int .i64 200, .int .i64 2000, .int .i64 (d : Int)] w fun e w' => (∃ x y : Nat, e = .returned (.tuple #[.int .i64 (x : Int), .int .i64 (y : Int)]) ∧ FewR t d x y) ∧ Below w.heap.size w w' := by
  intro n
  induction n with
  | zero => intro t cs w d h; exact h.elim
  | succ n ih =>
    intro t cs w d ht hf hd
    obtain ⟨vb, A, c, rfl, hb, hlc, hcm, hA, hk⟩ := ht.open
    have H := Hp.start w
    have C : True := trivial
    have hcap : c ≤ 9223372036854775807 := hcm
    obtain ⟨tg, bs, ks⟩ := t
    obtain ⟨hf1, hf2, hf3⟩ := (show bs.length ≤ 140737488351232 ∧ ks.length ≤ 140737488351232 ∧ Tree.Fits ks from by simpa only [Tree.Fit] using hf)
    have gfit := Kp.mk hf3
    simp only [Tree.kids, Tree.tag, Tree.bytes] at *
    obtain ⟨B, cb, rfl⟩ : ∃ B cb, vb = .slice B bs.length cb := by
      obtain ⟨B, cb, e, -⟩ := hb
      exact ⟨B, cb, by simpa using e⟩
    clear hf hf3 hcm hb ht
    go_enter Try.func33, Try.ntmps33
    (repeat' ((fail_if_success (with_reducible show bodyPost _ _ _ _ _ _)); first | ((with_reducible refine Hp.abs_alloc H ?_); intro b' w' H' hb'; (try simp only [hb']); clear hb'; ((try simp only [List.set_cons_zero, List.set_cons_succ, List.setIfInBounds_toArray] at H'); clear C H; have H := H'; clear H'; have C := Hp.facts H; simp only [Facts, factsL, and_true, true_and, List.set_cons_zero, List.set_cons_succ, List.setIfInBounds_toArray] at C)) | ((with_reducible show wpList _ _ _ _ _ (World.setCell _ _ _)); (with_reducible apply Hp.abs_gen H); (first | ((repeat (with_reducible apply Hp.set' 0)); (with_reducible exact H); (repeat rfl); intro w' H') | ((repeat (with_reducible apply Hp.set' 1)); (with_reducible exact H); (repeat rfl); intro w' H') | ((repeat (with_reducible apply Hp.set' 2)); (with_reducible exact H); (repeat rfl); intro w' H') | ((repeat (with_reducible apply Hp.set' 3)); (with_reducible exact H); (repeat rfl); intro w' H') | ((repeat (with_reducible apply Hp.set' 4)); (with_reducible exact H); (repeat rfl); intro w' H') | ((repeat (with_reducible apply Hp.set' 5)); (with_reducible exact H); (repeat rfl); intro w' H') | ((repeat (with_reducible apply Hp.set' 6)); (with_reducible exact H); (repeat rfl); intro w' H') | ((repeat (with_reducible apply Hp.set' 7)); (with_reducible exact H); (repeat rfl); intro w' H')); ((try simp only [List.set_cons_zero, List.set_cons_succ, List.setIfInBounds_toArray] at H'); clear C H; have H := H'; clear H'; have C := Hp.facts H; simp only [Facts, factsL, and_true, true_and, List.set_cons_zero, List.set_cons_succ, List.setIfInBounds_toArray] at C)) | go_values | go_skip | go_guarded | go_step | go_upon | go_back | (simp only [Int.not_lt, Int.not_le] at *; go_simp) | (go_values <;> (try go_simp)) | (go_ite <;> go_prune <;> (try go_simp)) | (split <;> (first | (rename_i hx; exact (hx _ rfl).elim) | go_prune))))
    try simp (disch := omega) only [decide_eq_true, decide_eq_false]
    obtain ⟨wR1, rfl⟩ := Hp.nameW H
    apply region_n (frm wR1.heap.size (fun _ => Hp _ _)) (frm_ok ?hfs_1) frm_sz [] [.light 0 0, .light 0 0, .light 0 0, .light 0 0, .light 0 0] [false, false, false, false, false] 5 62 [] [some 15, some 16, some 17, some 10, some 11] [[], [0], [1], [], [2]] [Eq1 _, Eq1 _, Eq1 _, Eq1 _, Eq1 _] ?hq1_1 ?hq2_1 ?hq3_1 ?hq4_1 ?hq5_1 ?hq6_1 _ ?hA_1 ?hst_1 ?h0_1 ?hsteps_1 ?hend_1
    case hq1_1 => kernel_rfl
    case hq2_1 => kernel_rfl
    case hq3_1 => kernel_rfl
    case hq5_1 => kernel_rfl
    case hq4_1 => rfl
    case hq6_1 => rfl
    case hA_1 => intro vs; simp only [fillD, Nat.reduceAdd, Act.put, List.setIfInBounds_toArray, List.set_cons_zero, List.set_cons_succ]; rfl
    case h0_1 => exact H.drew
    case hfs_1 => exact fun _ _ _ hb h => Hp.step h hb
    case hsteps_1 =>
      refine ⟨?_, ?_, ?_, ?_, ?_, trivial⟩
      · intro p vs w' K hJ hp1 hp2 hS hR hK
        rw [if_pos (by rfl)]
        go_step
        exact hK.out _ _ (Below.refl _ _) Eq1.mk Fresh.no
      · intro p vs w' K hJ hp1 hp2 hS hR hK
        simp only [DepJ, List.getD_cons_zero, List.getD_cons_succ] at hJ
        obtain ⟨j0, -⟩ := hJ
        have j0 := Eq1.out j0
        simp only [j0] at hK ⊢
        rw [if_pos (by rfl)]
        have C := Hp.facts hS
        simp only [Facts, factsL, and_true, true_and, List.set_cons_zero, List.set_cons_succ, List.setIfInBounds_toArray] at C
        have hsz := hR.1
        go_step
        exact hK.out _ _ (Below.refl _ _) Eq1.mk Fresh.no
      · intro p vs w' K hJ hp1 hp2 hS hR hK
        simp only [DepJ, List.getD_cons_zero, List.getD_cons_succ] at hJ
        obtain ⟨j1, -⟩ := hJ
        have j1 := Eq1.out j1
        simp only [j1] at hK ⊢
        rw [if_pos (by rfl)]
        have C := Hp.facts hS
        simp only [Facts, factsL, and_true, true_and, List.set_cons_zero, List.set_cons_succ, List.setIfInBounds_toArray] at C
        have hsz := hR.1
        go_step
        exact hK.out _ _ (Below.refl _ _) Eq1.mk Fresh.no
      · intro p vs w' K hJ hp1 hp2 hS hR hK
        rw [if_pos (by rfl)]
        go_step
        exact hK.out _ _ (Below.refl _ _) Eq1.mk Fresh.no
      · intro p vs w' K hJ hp1 hp2 hS hR hK
        simp only [DepJ, List.getD_cons_zero, List.getD_cons_succ] at hJ
        obtain ⟨j2, -⟩ := hJ
        have j2 := Eq1.out j2
        simp only [j2] at hK ⊢
        rw [if_pos (by rfl)]
        go_step
        exact hK.out _ _ (Below.refl _ _) Eq1.mk Fresh.no
    case hst_1 => refine ⟨fun _ _ _ _ h => h, fun _ _ _ _ h => h, fun _ _ _ _ h => h, fun _ _ _ _ h => h, fun _ _ _ _ h => h, trivial⟩
    intro vs w' hJ hD hS hR
    simp only [AllJ, Nat.reduceAdd] at hJ
    obtain ⟨v0, v1, v2, v3, v4, -⟩ := hJ
    clear C
    replace v0 := Eq1.out v0
    replace v1 := Eq1.out v1
    replace v2 := Eq1.out v2
    replace v3 := Eq1.out v3
    replace v4 := Eq1.out v4
    simp only [v0, v1, v2, v3, v4, List.drop_succ_cons, List.drop_zero]
    refine wpList_nil' ?_
    have H' : Hp _ _ _ := hS
    clear hD hR hS v0 v1 v2 v3 v4
    clear vs H
    have H := H'; clear H'; have C := Hp.facts H; simp only [Facts, factsL, and_true, true_and, List.set_cons_zero, List.set_cons_succ, List.setIfInBounds_toArray] at C
    cases d with
    | zero =>
      (repeat' ((fail_if_success (with_reducible show bodyPost _ _ _ _ _ _)); first | ((with_reducible refine Hp.abs_alloc H ?_); intro b' w' H' hb'; (try simp only [hb']); clear hb'; ((try simp only [List.set_cons_zero, List.set_cons_succ, List.setIfInBounds_toArray] at H'); clear C H; have H := H'; clear H'; have C := Hp.facts H; simp only [Facts, factsL, and_true, true_and, List.set_cons_zero, List.set_cons_succ, List.setIfInBounds_toArray] at C)) | ((with_reducible show wpList _ _ _ _ _ (World.setCell _ _ _)); (with_reducible apply Hp.abs_gen H); (first | ((repeat (with_reducible apply Hp.set' 0)); (with_reducible exact H); (repeat rfl); intro w' H') | ((repeat (with_reducible apply Hp.set' 1)); (with_reducible exact H); (repeat rfl); intro w' H') | ((repeat (with_reducible apply Hp.set' 2)); (with_reducible exact H); (repeat rfl); intro w' H') | ((repeat (with_reducible apply Hp.set' 3)); (with_reducible exact H); (repeat rfl); intro w' H') | ((repeat (with_reducible apply Hp.set' 4)); (with_reducible exact H); (repeat rfl); intro w' H') | ((repeat (with_reducible apply Hp.set' 5)); (with_reducible exact H); (repeat rfl); intro w' H') | ((repeat (with_reducible apply Hp.set' 6)); (with_reducible exact H); (repeat rfl); intro w' H') | ((repeat (with_reducible apply Hp.set' 7)); (with_reducible exact H); (repeat rfl); intro w' H')); ((try simp only [List.set_cons_zero, List.set_cons_succ, List.setIfInBounds_toArray] at H'); clear C H; have H := H'; clear H'; have C := Hp.facts H; simp only [Facts, factsL, and_true, true_and, List.set_cons_zero, List.set_cons_succ, List.setIfInBounds_toArray] at C)) | go_values | go_skip | go_guarded | go_step | go_upon | go_back | (simp only [Int.not_lt, Int.not_le] at *; go_simp) | (go_values <;> (try go_simp)) | (go_ite <;> go_prune <;> (try go_simp)) | (split <;> (first | (rename_i hx; exact (hx _ rfl).elim) | go_prune))))
      refine bodyPost_ret (v := .tuple #[.int .i64 201, .int .i64 2001]) (by simp [results, go_sem, C]) rfl ?_
      exact ⟨⟨201, 2001, rfl, by unfold FewR; omega⟩, H.low⟩
    | succ d =>
      have hd2 : ¬ ((d : Int) + 1 ≤ 0) := by omega
      have hd3 : ¬ ((((d + 1 : Nat)) : Int) ≤ 0) := by omega
      (repeat' ((fail_if_success (with_reducible show bodyPost _ _ _ _ _ _)); first | ((with_reducible refine Hp.abs_alloc H ?_); intro b' w' H' hb'; (try simp only [hb']); clear hb'; ((try simp only [List.set_cons_zero, List.set_cons_succ, List.setIfInBounds_toArray] at H'); clear C H; have H := H'; clear H'; have C := Hp.facts H; simp only [Facts, factsL, and_true, true_and, List.set_cons_zero, List.set_cons_succ, List.setIfInBounds_toArray] at C)) | ((with_reducible show wpList _ _ _ _ _ (World.setCell _ _ _)); (with_reducible apply Hp.abs_gen H); (first | ((repeat (with_reducible apply Hp.set' 0)); (with_reducible exact H); (repeat rfl); intro w' H') | ((repeat (with_reducible apply Hp.set' 1)); (with_reducible exact H); (repeat rfl); intro w' H') | ((repeat (with_reducible apply Hp.set' 2)); (with_reducible exact H); (repeat rfl); intro w' H') | ((repeat (with_reducible apply Hp.set' 3)); (with_reducible exact H); (repeat rfl); intro w' H') | ((repeat (with_reducible apply Hp.set' 4)); (with_reducible exact H); (repeat rfl); intro w' H') | ((repeat (with_reducible apply Hp.set' 5)); (with_reducible exact H); (repeat rfl); intro w' H') | ((repeat (with_reducible apply Hp.set' 6)); (with_reducible exact H); (repeat rfl); intro w' H') | ((repeat (with_reducible apply Hp.set' 7)); (with_reducible exact H); (repeat rfl); intro w' H')); ((try simp only [List.set_cons_zero, List.set_cons_succ, List.setIfInBounds_toArray] at H'); clear C H; have H := H'; clear H'; have C := Hp.facts H; simp only [Facts, factsL, and_true, true_and, List.set_cons_zero, List.set_cons_succ, List.setIfInBounds_toArray] at C)) | go_values | go_skip | go_guarded | go_step | go_upon | go_back | (simp only [Int.not_lt, Int.not_le] at *; go_simp) | (go_values <;> (try go_simp)) | (go_ite <;> go_prune <;> (try go_simp)) | (split <;> (first | (rename_i hx; exact (hx _ rfl).elim) | go_prune))))
      (obtain ⟨bt, rfl⟩ := Hp.name H 0 rfl)
      go_loopw [10, 11, 12, 13, 14] (fun x y ix _ _ wr => FewL bs ks d [.blk bt #[.int .i64 tg.c, .int .i64 tg.n, .bool tg.m, .slice B bs.length cb, .slice A ks.length c] 27] w x y ix wr) (fun _ _ ix _ _ _ => ks.length - (intOf ix).toNat)
      case atStart => exact FewL.mk 0 1 bs.length (Nat.zero_le _) rfl rfl rfl (by omega) (by omega) (by omega) (fun _ _ => by simp [Tree.counts, Tree.totals, Tree.deeps]) H
      case round =>
        clear H C
        obtain ⟨i, x, y, hi, rfl, rfl, rfl, r1, r2, r3, r4, H⟩ := hrel
        have C := Hp.facts H
        simp only [Facts, factsL, and_true, true_and, List.set_cons_zero, List.set_cons_succ, List.setIfInBounds_toArray] at C
        have r4 := Kp.mk r4
        by_cases hgo : i < ks.length ∧ x ≤ 200 ∧ y ≤ 2000
        · obtain ⟨hlt, hx, hy⟩ := hgo
          obtain ⟨b, o, rfl, hgl, d0, d1, d2, d3, d4, q0, q1, q2, q3, q4, hkid⟩ := hk i hlt
          have hih := fun w1 (h : Below w.heap.size w w1) => ih ks[i] [d0, d1, d2, d3, d4] w1 d (hkid.step h) (gfit.out.get i hlt) (by omega)
          have hn := Kp.mk (fun a b' => fewR_next (bs := bs) (a := a) (b := b') hlt r4.out)
          clear hk hkid ih gfit r4
          have hx2 : (x : Int) ≤ 200 := by omega
          have hy2 : (y : Int) ≤ 2000 := by omega
          have hdd : (((d + 1 : Nat)) : Int) - 1 = (d : Int) := by omega
          (repeat' ((fail_if_success (with_reducible show bodyPost _ _ _ _ _ _)); first | ((with_reducible refine Hp.abs_alloc H ?_); intro b' w' H' hb'; (try simp only [hb']); clear hb'; ((try simp only [List.set_cons_zero, List.set_cons_succ, List.setIfInBounds_toArray] at H'); clear C H; have H := H'; clear H'; have C := Hp.facts H; simp only [Facts, factsL, and_true, true_and, List.set_cons_zero, List.set_cons_succ, List.setIfInBounds_toArray] at C)) | ((with_reducible show wpList _ _ _ _ _ (World.setCell _ _ _)); (with_reducible apply Hp.abs_gen H); (first | ((repeat (with_reducible apply Hp.set' 0)); (with_reducible exact H); (repeat rfl); intro w' H') | ((repeat (with_reducible apply Hp.set' 1)); (with_reducible exact H); (repeat rfl); intro w' H') | ((repeat (with_reducible apply Hp.set' 2)); (with_reducible exact H); (repeat rfl); intro w' H') | ((repeat (with_reducible apply Hp.set' 3)); (with_reducible exact H); (repeat rfl); intro w' H') | ((repeat (with_reducible apply Hp.set' 4)); (with_reducible exact H); (repeat rfl); intro w' H') | ((repeat (with_reducible apply Hp.set' 5)); (with_reducible exact H); (repeat rfl); intro w' H') | ((repeat (with_reducible apply Hp.set' 6)); (with_reducible exact H); (repeat rfl); intro w' H') | ((repeat (with_reducible apply Hp.set' 7)); (with_reducible exact H); (repeat rfl); intro w' H')); ((try simp only [List.set_cons_zero, List.set_cons_succ, List.setIfInBounds_toArray] at H'); clear C H; have H := H'; clear H'; have C := Hp.facts H; simp only [Facts, factsL, and_true, true_and, List.set_cons_zero, List.set_cons_succ, List.setIfInBounds_toArray] at C)) | go_values | go_skip | go_guarded | go_step | go_upon | go_back | (simp only [Int.not_lt, Int.not_le] at *; go_simp) | (go_values <;> (try go_simp)) | (go_ite <;> go_prune <;> (try go_simp)) | (split <;> (first | (rename_i hx; exact (hx _ rfl).elim) | go_prune))))
          refine (hih _ H.low).mono ?_
          rintro e w1 ⟨⟨a, b', rfl, hR⟩, hb⟩
          (have H' := Hp.step H hb; clear hb; ((try simp only [List.set_cons_zero, List.set_cons_succ, List.setIfInBounds_toArray] at H'); clear C H; have H := H'; clear H'; have C := Hp.facts H; simp only [Facts, factsL, and_true, true_and, List.set_cons_zero, List.set_cons_succ, List.setIfInBounds_toArray] at C))
          have hxa : x + a ≤ 1000000 := by obtain ⟨-, h, -, -⟩ := hR; omega
          have hyb : y + b' ≤ 1000000000000000 := by obtain ⟨-, -, h, -⟩ := hR; omega
          (repeat' ((fail_if_success (with_reducible show bodyPost _ _ _ _ _ _)); first | ((with_reducible refine Hp.abs_alloc H ?_); intro b' w' H' hb'; (try simp only [hb']); clear hb'; ((try simp only [List.set_cons_zero, List.set_cons_succ, List.setIfInBounds_toArray] at H'); clear C H; have H := H'; clear H'; have C := Hp.facts H; simp only [Facts, factsL, and_true, true_and, List.set_cons_zero, List.set_cons_succ, List.setIfInBounds_toArray] at C)) | ((with_reducible show wpList _ _ _ _ _ (World.setCell _ _ _)); (with_reducible apply Hp.abs_gen H); (first | ((repeat (with_reducible apply Hp.set' 0)); (with_reducible exact H); (repeat rfl); intro w' H') | ((repeat (with_reducible apply Hp.set' 1)); (with_reducible exact H); (repeat rfl); intro w' H') | ((repeat (with_reducible apply Hp.set' 2)); (with_reducible exact H); (repeat rfl); intro w' H') | ((repeat (with_reducible apply Hp.set' 3)); (with_reducible exact H); (repeat rfl); intro w' H') | ((repeat (with_reducible apply Hp.set' 4)); (with_reducible exact H); (repeat rfl); intro w' H') | ((repeat (with_reducible apply Hp.set' 5)); (with_reducible exact H); (repeat rfl); intro w' H') | ((repeat (with_reducible apply Hp.set' 6)); (with_reducible exact H); (repeat rfl); intro w' H') | ((repeat (with_reducible apply Hp.set' 7)); (with_reducible exact H); (repeat rfl); intro w' H')); ((try simp only [List.set_cons_zero, List.set_cons_succ, List.setIfInBounds_toArray] at H'); clear C H; have H := H'; clear H'; have C := Hp.facts H; simp only [Facts, factsL, and_true, true_and, List.set_cons_zero, List.set_cons_succ, List.setIfInBounds_toArray] at C)) | go_values | go_skip | go_guarded | go_step | go_upon | go_back | (simp only [Int.not_lt, Int.not_le] at *; go_simp) | (go_values <;> (try go_simp)) | (go_ite <;> go_prune <;> (try go_simp)) | (split <;> (first | (rename_i hx; exact (hx _ rfl).elim) | go_prune))))
          exact ⟨FewL.mk (i + 1) (x + a) (y + b') (by omega) (by go_num) (by go_num) (by go_num) (by omega) (by obtain ⟨-, h, -, -⟩ := hR; omega) (by obtain ⟨-, -, h, -⟩ := hR; omega) (hn.out a b' hR) H, by simp [intOf]; omega⟩
        · (repeat' ((fail_if_success (with_reducible show bodyPost _ _ _ _ _ _)); first | ((with_reducible refine Hp.abs_alloc H ?_); intro b' w' H' hb'; (try simp only [hb']); clear hb'; ((try simp only [List.set_cons_zero, List.set_cons_succ, List.setIfInBounds_toArray] at H'); clear C H; have H := H'; clear H'; have C := Hp.facts H; simp only [Facts, factsL, and_true, true_and, List.set_cons_zero, List.set_cons_succ, List.setIfInBounds_toArray] at C)) | ((with_reducible show wpList _ _ _ _ _ (World.setCell _ _ _)); (with_reducible apply Hp.abs_gen H); (first | ((repeat (with_reducible apply Hp.set' 0)); (with_reducible exact H); (repeat rfl); intro w' H') | ((repeat (with_reducible apply Hp.set' 1)); (with_reducible exact H); (repeat rfl); intro w' H') | ((repeat (with_reducible apply Hp.set' 2)); (with_reducible exact H); (repeat rfl); intro w' H') | ((repeat (with_reducible apply Hp.set' 3)); (with_reducible exact H); (repeat rfl); intro w' H') | ((repeat (with_reducible apply Hp.set' 4)); (with_reducible exact H); (repeat rfl); intro w' H') | ((repeat (with_reducible apply Hp.set' 5)); (with_reducible exact H); (repeat rfl); intro w' H') | ((repeat (with_reducible apply Hp.set' 6)); (with_reducible exact H); (repeat rfl); intro w' H') | ((repeat (with_reducible apply Hp.set' 7)); (with_reducible exact H); (repeat rfl); intro w' H')); ((try simp only [List.set_cons_zero, List.set_cons_succ, List.setIfInBounds_toArray] at H'); clear C H; have H := H'; clear H'; have C := Hp.facts H; simp only [Facts, factsL, and_true, true_and, List.set_cons_zero, List.set_cons_succ, List.setIfInBounds_toArray] at C)) | go_values | go_skip | go_guarded | go_step | go_upon | go_back | (simp only [Int.not_lt, Int.not_le] at *; go_simp) | (go_values <;> (try go_simp)) | (go_ite <;> go_prune <;> (try go_simp)) | (split <;> (first | (rename_i hx; exact (hx _ rfl).elim) | go_prune))))
          all_goals
            refine bodyPost_ret (v := .tuple #[.int .i64 x, .int .i64 y]) (by simp [results, go_sem, C]) rfl ?_
            refine ⟨⟨x, y, rfl, r1, r2, r3, fun h1 h2 => ?_⟩, H.low⟩
            obtain rfl : i = ks.length := by omega
            obtain ⟨e1, e2, e3⟩ := r4.out h1 h2
            rw [List.take_length] at e1 e2 e3
            simp only [Tree.count, Tree.total, Tree.deep]
            omega
theorem few7_any (n : Nat) (t : Tree) (cs : List Value) (w : World) (ht : ItN w n t cs) (hf : t.Fit) :
    Calls Try.prog 10 #[.agg cs.toArray, .int .i64 200, .int .i64 2000, .int .i64 60] w fun e w' => (∃ ok : Bool, e = .returned (.bool ok) ∧ (ok = true → t.count ≤ 200 ∧ t.total ≤ 2000 ∧ t.deep ≤ 60)) ∧ Below w.heap.size w w' := by
  obtain ⟨n, rfl⟩ := ht.pos
  obtain ⟨vb, A, c, rfl, -⟩ := ht.open
  have H := Hp.start w
  have C : True := trivial
  have hk : ∀ w1, Below w.heap.size w w1 → Calls Try.prog 33 #[.agg #[.int .i64 t.tag.c, .int .i64 t.tag.n, .bool t.tag.m, vb, .slice A t.kids.length c], .int .i64 200, .int .i64 2000, .int .i64 60] w1 fun e w' => (∃ x y : Nat, e = .returned (.tuple #[.int .i64 (x : Int), .int .i64 (y : Int)]) ∧ FewR t 60 x y) ∧ Below w1.heap.size w1 w' := fun w1 h => rfew_any _ t _ w1 60 (ht.step h) hf (Nat.le_refl _)
  clear hf ht
  generalize t.kids.length = kl at *
  go_enter Try.func10, Try.ntmps10
  (repeat' ((fail_if_success (with_reducible show bodyPost _ _ _ _ _ _)); first | ((with_reducible refine Hp.abs_alloc H ?_); intro b' w' H' hb'; (try simp only [hb']); clear hb'; ((try simp only [List.set_cons_zero, List.set_cons_succ, List.setIfInBounds_toArray] at H'); clear C H; have H := H'; clear H'; have C := Hp.facts H; simp only [Facts, factsL, and_true, true_and, List.set_cons_zero, List.set_cons_succ, List.setIfInBounds_toArray] at C)) | ((with_reducible show wpList _ _ _ _ _ (World.setCell _ _ _)); (with_reducible apply Hp.abs_gen H); (first | ((repeat (with_reducible apply Hp.set' 0)); (with_reducible exact H); (repeat rfl); intro w' H') | ((repeat (with_reducible apply Hp.set' 1)); (with_reducible exact H); (repeat rfl); intro w' H') | ((repeat (with_reducible apply Hp.set' 2)); (with_reducible exact H); (repeat rfl); intro w' H') | ((repeat (with_reducible apply Hp.set' 3)); (with_reducible exact H); (repeat rfl); intro w' H') | ((repeat (with_reducible apply Hp.set' 4)); (with_reducible exact H); (repeat rfl); intro w' H') | ((repeat (with_reducible apply Hp.set' 5)); (with_reducible exact H); (repeat rfl); intro w' H') | ((repeat (with_reducible apply Hp.set' 6)); (with_reducible exact H); (repeat rfl); intro w' H') | ((repeat (with_reducible apply Hp.set' 7)); (with_reducible exact H); (repeat rfl); intro w' H')); ((try simp only [List.set_cons_zero, List.set_cons_succ, List.setIfInBounds_toArray] at H'); clear C H; have H := H'; clear H'; have C := Hp.facts H; simp only [Facts, factsL, and_true, true_and, List.set_cons_zero, List.set_cons_succ, List.setIfInBounds_toArray] at C)) | go_values | go_skip | go_guarded | go_step | go_upon | go_back | (simp only [Int.not_lt, Int.not_le] at *; go_simp) | (go_values <;> (try go_simp)) | (go_ite <;> go_prune <;> (try go_simp)) | (split <;> (first | (rename_i hx; exact (hx _ rfl).elim) | go_prune))))
  refine (hk _ H.low).mono ?_
  rintro e w1 ⟨⟨a, b, rfl, hR⟩, hb⟩
  (have H' := Hp.step H hb; clear hb; ((try simp only [List.set_cons_zero, List.set_cons_succ, List.setIfInBounds_toArray] at H'); clear C H; have H := H'; clear H'; have C := Hp.facts H; simp only [Facts, factsL, and_true, true_and, List.set_cons_zero, List.set_cons_succ, List.setIfInBounds_toArray] at C))
  obtain ⟨-, -, -, h⟩ := hR
  have h := Kp.mk h
  (repeat' ((fail_if_success (with_reducible show bodyPost _ _ _ _ _ _)); first | ((with_reducible refine Hp.abs_alloc H ?_); intro b' w' H' hb'; (try simp only [hb']); clear hb'; ((try simp only [List.set_cons_zero, List.set_cons_succ, List.setIfInBounds_toArray] at H'); clear C H; have H := H'; clear H'; have C := Hp.facts H; simp only [Facts, factsL, and_true, true_and, List.set_cons_zero, List.set_cons_succ, List.setIfInBounds_toArray] at C)) | ((with_reducible show wpList _ _ _ _ _ (World.setCell _ _ _)); (with_reducible apply Hp.abs_gen H); (first | ((repeat (with_reducible apply Hp.set' 0)); (with_reducible exact H); (repeat rfl); intro w' H') | ((repeat (with_reducible apply Hp.set' 1)); (with_reducible exact H); (repeat rfl); intro w' H') | ((repeat (with_reducible apply Hp.set' 2)); (with_reducible exact H); (repeat rfl); intro w' H') | ((repeat (with_reducible apply Hp.set' 3)); (with_reducible exact H); (repeat rfl); intro w' H') | ((repeat (with_reducible apply Hp.set' 4)); (with_reducible exact H); (repeat rfl); intro w' H') | ((repeat (with_reducible apply Hp.set' 5)); (with_reducible exact H); (repeat rfl); intro w' H') | ((repeat (with_reducible apply Hp.set' 6)); (with_reducible exact H); (repeat rfl); intro w' H') | ((repeat (with_reducible apply Hp.set' 7)); (with_reducible exact H); (repeat rfl); intro w' H')); ((try simp only [List.set_cons_zero, List.set_cons_succ, List.setIfInBounds_toArray] at H'); clear C H; have H := H'; clear H'; have C := Hp.facts H; simp only [Facts, factsL, and_true, true_and, List.set_cons_zero, List.set_cons_succ, List.setIfInBounds_toArray] at C)) | go_values | go_skip | go_guarded | go_step | go_upon | go_back | (simp only [Int.not_lt, Int.not_le] at *; go_simp) | (go_values <;> (try go_simp)) | (go_ite <;> go_prune <;> (try go_simp)) | (split <;> (first | (rename_i hx; exact (hx _ rfl).elim) | go_prune))))
  all_goals
    go_ret
    refine ⟨⟨_, rfl, fun hk => ?_⟩, H.low⟩
    first
    | (cases hk; done)
    | (simp at hk; obtain ⟨h1, h2, h3⟩ := h.out (by omega) (by omega); omega)
end Go.Proofs.Ytogliinfdfkobaa

