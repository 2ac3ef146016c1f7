/- Lemmas and walks on the way to the seat's laws; each theorem says its own conditions. -/
import Derived.Test.YtogliinfdfkobaaI25
set_option linter.unusedSimpArgs false
set_option linter.unusedVariables false
set_option linter.unusedSimpArgs false
set_option linter.unusedVariables false
set_option maxRecDepth 100000
namespace Go.Proofs.Ytogliinfdfkobaa
open Go.RowKit Go.Mem Go.Reg Oct Hd Go.LawLift
set_option maxHeartbeats 3200000 in
theorem itemPrints_core (n : Nat) (t : Tree) (cs : List Value) (w : World) (hta : ItP (· < w.heap.size) w n t cs) (hft : t.Fit) :
    Calls Try.prog 7 #[.agg cs.toArray] w fun e w' => e = .returned (.bool true) ∧ Below w.heap.size w w' := by
  have H := Hp.start w
  have C : True := trivial
  obtain ⟨d0, d1, d2, d3, d4, rfl⟩ := five_of hta.len
  obtain ⟨a0, a1, a2, aA, aB, ak, ac, am, ad, rfl, rfl, rfl, rfl, rfl⟩ := hta.forms
  have hFa := fun w1 (h : Below w.heap.size w w1) => few7_any n t _ w1 ((hta.any).step h) hft
  have gta := Kp.mk hta
  clear hta hft
  go_enter Try.func7, Try.ntmps7
  (repeat' ((fail_if_success (with_reducible show bodyPost _ _ _ _ _ _)); first | ((with_reducible refine Hp.abs_alloc H ?_); intro b' w' H' hb'; (try simp only [hb']); clear hb'; ((try simp only [Zp, Zq, Zr] at H'); clear C H; have H := H'; clear H'; have C := Hp.facts H; simp only [Facts, factsL, and_true, true_and, Zp, Zq, Zr] at C)) | ((with_reducible show wpList _ _ _ _ _ (World.setCell _ _ _)); (with_reducible apply Hp.abs_gen H); (first | (with_reducible (repeat apply Zt 0); exact H); (repeat rfl); intro w' H' | (with_reducible (repeat apply Zt 1); exact H); (repeat rfl); intro w' H' | (with_reducible (repeat apply Zt 2); exact H); (repeat rfl); intro w' H' | (with_reducible (repeat apply Zt 3); exact H); (repeat rfl); intro w' H' | (with_reducible (repeat apply Zt 4); exact H); (repeat rfl); intro w' H' | (with_reducible (repeat apply Zt 5); exact H); (repeat rfl); intro w' H' | (with_reducible (repeat apply Zt 6); exact H); (repeat rfl); intro w' H' | (with_reducible (repeat apply Zt 7); exact H); (repeat rfl); intro w' H'); ((try simp only [Zp, Zq, Zr] at H'); clear C H; have H := H'; clear H'; have C := Hp.facts H; simp only [Facts, factsL, and_true, true_and, Zp, Zq, Zr] at C)) | go_values | go_skip | go_guarded | go_step | go_upon | go_back | (simp only [Int.not_lt, Int.not_le] at *; go_simp) | (go_values <;> (try go_simp)) | (go_ite <;> go_prune <;> (try go_simp)) | (split <;> (first | (rename_i hx; exact (hx _ rfl).elim) | go_prune))))
  refine (hFa _ H.low).mono ?_
  rintro e' w1 ⟨⟨oka, rfl, hoka⟩, hb⟩
  (have H' := Hp.step H hb; clear hb; ((try simp only [Zp, Zq, Zr] at H'); clear C H; have H := H'; clear H'; have C := Hp.facts H; simp only [Facts, factsL, and_true, true_and, Zp, Zq, Zr] at C))
  cases oka with
  | false =>
    clear hoka hFa
    (repeat' ((fail_if_success (with_reducible show bodyPost _ _ _ _ _ _)); first | ((with_reducible refine Hp.abs_alloc H ?_); intro b' w' H' hb'; (try simp only [hb']); clear hb'; ((try simp only [Zp, Zq, Zr] at H'); clear C H; have H := H'; clear H'; have C := Hp.facts H; simp only [Facts, factsL, and_true, true_and, Zp, Zq, Zr] at C)) | ((with_reducible show wpList _ _ _ _ _ (World.setCell _ _ _)); (with_reducible apply Hp.abs_gen H); (first | (with_reducible (repeat apply Zt 0); exact H); (repeat rfl); intro w' H' | (with_reducible (repeat apply Zt 1); exact H); (repeat rfl); intro w' H' | (with_reducible (repeat apply Zt 2); exact H); (repeat rfl); intro w' H' | (with_reducible (repeat apply Zt 3); exact H); (repeat rfl); intro w' H' | (with_reducible (repeat apply Zt 4); exact H); (repeat rfl); intro w' H' | (with_reducible (repeat apply Zt 5); exact H); (repeat rfl); intro w' H' | (with_reducible (repeat apply Zt 6); exact H); (repeat rfl); intro w' H' | (with_reducible (repeat apply Zt 7); exact H); (repeat rfl); intro w' H'); ((try simp only [Zp, Zq, Zr] at H'); clear C H; have H := H'; clear H'; have C := Hp.facts H; simp only [Facts, factsL, and_true, true_and, Zp, Zq, Zr] at C)) | (go_at_call 9; refine (known7_any _).mono ?_; rintro e' w' ⟨rfl, hb'⟩; (have H' := Hp.step H hb'; clear hb'; ((try simp only [Zp, Zq, Zr] at H'); clear C H; have H := H'; clear H'; have C := Hp.facts H; simp only [Facts, factsL, and_true, true_and, Zp, Zq, Zr] at C))) | go_values | go_skip | go_guarded | go_step | go_upon | go_back | (simp only [Int.not_lt, Int.not_le] at *; go_simp) | (go_values <;> (try go_simp)) | (go_ite <;> go_prune <;> (try go_simp)) | (split <;> (first | (rename_i hx; exact (hx _ rfl).elim) | go_prune))))
    go_ret
    exact ⟨rfl, H.low⟩
  | true =>
  obtain ⟨ha1, ha2, ha3⟩ := hoka rfl
  have hwl := whole_le t
  have hrf := Kp.mk (right_few (t := t) (by omega))
  obtain ⟨WL, hWL⟩ : ∃ WL, wholeT t = WL := ⟨_, rfl⟩
  have hwl2 : WL.length ≤ 3800 := by rw [← hWL]; omega
  replace hWL := Kp.mk hWL
  clear hoka hFa hwl
  (repeat' ((fail_if_success (with_reducible show bodyPost _ _ _ _ _ _)); first | ((with_reducible refine Hp.abs_alloc H ?_); intro b' w' H' hb'; (try simp only [hb']); clear hb'; ((try simp only [Zp, Zq, Zr] at H'); clear C H; have H := H'; clear H'; have C := Hp.facts H; simp only [Facts, factsL, and_true, true_and, Zp, Zq, Zr] at C)) | ((with_reducible show wpList _ _ _ _ _ (World.setCell _ _ _)); (with_reducible apply Hp.abs_gen H); (first | (with_reducible (repeat apply Zt 0); exact H); (repeat rfl); intro w' H' | (with_reducible (repeat apply Zt 1); exact H); (repeat rfl); intro w' H' | (with_reducible (repeat apply Zt 2); exact H); (repeat rfl); intro w' H' | (with_reducible (repeat apply Zt 3); exact H); (repeat rfl); intro w' H' | (with_reducible (repeat apply Zt 4); exact H); (repeat rfl); intro w' H' | (with_reducible (repeat apply Zt 5); exact H); (repeat rfl); intro w' H' | (with_reducible (repeat apply Zt 6); exact H); (repeat rfl); intro w' H' | (with_reducible (repeat apply Zt 7); exact H); (repeat rfl); intro w' H'); ((try simp only [Zp, Zq, Zr] at H'); clear C H; have H := H'; clear H'; have C := Hp.facts H; simp only [Facts, factsL, and_true, true_and, Zp, Zq, Zr] at C)) | go_values | go_skip | go_guarded | go_step | go_upon | go_back | (simp only [Int.not_lt, Int.not_le] at *; go_simp) | (go_values <;> (try go_simp)) | (go_ite <;> go_prune <;> (try go_simp)) | (split <;> (first | (rename_i hx; exact (hx _ rfl).elim) | go_prune))))
  refine (to7_any n t _ _ w.heap.size H.low.size (gta.out.step H.low) (by omega)).mono ?_
  rintro e' wX ⟨⟨cx, rfl, htx⟩, hb⟩
  obtain ⟨Ox, H2, gx⟩ := H.keepTree (Nat.le_refl _) hb htx
  obtain ⟨d0, d1, d2, d3, d4, rfl⟩ := five_of htx.len
  obtain ⟨z0, z1, z2, zA, zB, zk, zc, zm, zd, rfl, rfl, rfl, rfl, rfl⟩ := htx.forms
  replace gx := Kp.mk gx
  clear H C htx hb
  have H := H2
  clear H2
  simp only [List.cons_append, List.nil_append, List.append_assoc] at H
  have C := Hp.facts H
  simp only [Facts, factsL, and_true, true_and, Zp, Zq, Zr] at C
  cases hir : irightT t with
  | false =>
    have gxs := fun w2 L2 (H2 : Hp w L2 w2) (hs : ∀ x ∈ Ox, x ∈ L2) => (gx.out w2 L2 H2 hs).weak (Q := (· < w2.heap.size)) fun b _ hl => hl
    have hPr := fun w2 L2 (H2 : Hp w L2 w2) (hs : ∀ x ∈ Ox, x ∈ L2) => print_any n t _ w2 (gxs w2 L2 H2 hs) (by omega) (by omega)
    have hpr : printR t = ([], 1) := by unfold printR; rw [hir]; rfl
    simp only [hpr] at hPr
    clear hpr
    replace hPr := Kp.mk hPr
    replace gxs := Kp.mk gxs
    (repeat' ((fail_if_success (with_reducible show bodyPost _ _ _ _ _ _)); first | ((with_reducible refine Hp.abs_alloc H ?_); intro b' w' H' hb'; (try simp only [hb']); clear hb'; ((try simp only [Zp, Zq, Zr] at H'); clear C H; have H := H'; clear H'; have C := Hp.facts H; simp only [Facts, factsL, and_true, true_and, Zp, Zq, Zr] at C)) | ((with_reducible show wpList _ _ _ _ _ (World.setCell _ _ _)); (with_reducible apply Hp.abs_gen H); (first | (with_reducible (repeat apply Zt 0); exact H); (repeat rfl); intro w' H' | (with_reducible (repeat apply Zt 1); exact H); (repeat rfl); intro w' H' | (with_reducible (repeat apply Zt 2); exact H); (repeat rfl); intro w' H' | (with_reducible (repeat apply Zt 3); exact H); (repeat rfl); intro w' H' | (with_reducible (repeat apply Zt 4); exact H); (repeat rfl); intro w' H' | (with_reducible (repeat apply Zt 5); exact H); (repeat rfl); intro w' H' | (with_reducible (repeat apply Zt 6); exact H); (repeat rfl); intro w' H' | (with_reducible (repeat apply Zt 7); exact H); (repeat rfl); intro w' H'); ((try simp only [Zp, Zq, Zr] at H'); clear C H; have H := H'; clear H'; have C := Hp.facts H; simp only [Facts, factsL, and_true, true_and, Zp, Zq, Zr] at C)) | go_values | go_skip | go_guarded | go_step | go_upon | go_back | (simp only [Int.not_lt, Int.not_le] at *; go_simp) | (go_values <;> (try go_simp)) | (go_ite <;> go_prune <;> (try go_simp)) | (split <;> (first | (rename_i hx; exact (hx _ rfl).elim) | go_prune))))
    refine (hPr.out _ _ H (fun x hx => by simp [hx])).mono ?_
    rintro e' w2 ⟨⟨v', rfl, ho⟩, hb'⟩
    simp only [List.length_nil, List.map_nil] at ho
    have H' := H.adopt hb' (.row 5 1 v' _ _) ho
    obtain ⟨Ab, cb, rfl⟩ := own_form ho
    clear ho hb' hPr
    ((try simp only [Zp, Zq, Zr] at H'); clear C H; have H := H'; clear H'; have C := Hp.facts H; simp only [Facts, factsL, and_true, true_and, Zp, Zq, Zr] at C)
    (repeat' ((fail_if_success (with_reducible show bodyPost _ _ _ _ _ _)); first | ((with_reducible refine Hp.abs_alloc H ?_); intro b' w' H' hb'; (try simp only [hb']); clear hb'; ((try simp only [Zp, Zq, Zr] at H'); clear C H; have H := H'; clear H'; have C := Hp.facts H; simp only [Facts, factsL, and_true, true_and, Zp, Zq, Zr] at C)) | ((with_reducible show wpList _ _ _ _ _ (World.setCell _ _ _)); (with_reducible apply Hp.abs_gen H); (first | (with_reducible (repeat apply Zt 0); exact H); (repeat rfl); intro w' H' | (with_reducible (repeat apply Zt 1); exact H); (repeat rfl); intro w' H' | (with_reducible (repeat apply Zt 2); exact H); (repeat rfl); intro w' H' | (with_reducible (repeat apply Zt 3); exact H); (repeat rfl); intro w' H' | (with_reducible (repeat apply Zt 4); exact H); (repeat rfl); intro w' H' | (with_reducible (repeat apply Zt 5); exact H); (repeat rfl); intro w' H' | (with_reducible (repeat apply Zt 6); exact H); (repeat rfl); intro w' H' | (with_reducible (repeat apply Zt 7); exact H); (repeat rfl); intro w' H'); ((try simp only [Zp, Zq, Zr] at H'); clear C H; have H := H'; clear H'; have C := Hp.facts H; simp only [Facts, factsL, and_true, true_and, Zp, Zq, Zr] at C)) | go_values | go_skip | go_guarded | go_step | go_upon | go_back | (simp only [Int.not_lt, Int.not_le] at *; go_simp) | (go_values <;> (try go_simp)) | (go_ite <;> go_prune <;> (try go_simp)) | (split <;> (first | (rename_i hx; exact (hx _ rfl).elim) | go_prune))))
    obtain ⟨wq, rfl⟩ := Hp.nameW H
    have HO := H
    have CO := C
    have gxq := Kp.mk (gxs.out _ _ HO (fun x hx => by simp [hx]))
    have gaq := Kp.mk ((gta.out.step HO.low).weak (Q := (· < wq.heap.size)) fun b _ hl => hl)
    clear H C
    have H := Hp.start wq
    have C := Hp.facts H
    simp only [Facts, factsL, and_true, true_and, Zp, Zq, Zr] at C
    have hOf := fun w1 (h : Below wq.heap.size wq w1) => of7_any n t _ w1 wq.heap.size h.size (gxq.out.step h) (by omega)
    have hSm := fun w1 (h : Below wq.heap.size wq w1) (m2 : Nat) (cs2 : List Value) (h2 : ItN w1 m2 t cs2) => rtsame_any m2 t cs2 n t _ w1 h2 ((gaq.out.step h).any) (by omega) (by omega)
    have hRi := fun w1 (h : Below wq.heap.size wq w1) => iright_any n t _ w1 ((gxq.out.step h).weak fun b _ hl => hl) (by omega) (by omega)
    have hRr := fun w1 (h : Below wq.heap.size wq w1) => rright7_any n t _ w1 ((gaq.out.step h).any) (by omega)
    have hDx := fun w1 (h : Below wq.heap.size wq w1) => depth_any n t _ w1 ((gxq.out.step h).weak fun b _ hl => hl) (by omega)
    have hDr := fun w1 (h : Below wq.heap.size wq w1) => rdeep_any n t _ w1 ((gaq.out.step h).any) (by omega)
    have hSx := fun w1 (h : Below wq.heap.size wq w1) => isize_any n t _ w1 ((gxq.out.step h).weak fun b _ hl => hl) (by omega)
    have hSr := fun w1 (h : Below wq.heap.size wq w1) => rsize_any n t _ w1 ((gaq.out.step h).any) (by omega)
    simp only [Tree.same_self] at hSm
    simp only [hir] at hRi
    simp only [← hrf.out, hir] at hRr
    generalize t.deep = dd at hDx hDr
    generalize t.count = cc at hSx hSr
    try simp (disch := omega) only [decide_eq_true, decide_eq_false]
    obtain ⟨wR5n, rfl⟩ := Hp.nameW H
    apply region_n (frm wR5n.heap.size (fun _ => Hp _ _)) (frm_ok ?hfs_1) frm_sz [] [.light 0 0, .light 0 0, .light 0 0, .light 0 0, .light 0 0, .light 0 0, .light 0 0, .light 0 0, .light 0 0, .light 0 0, .light 0 0, .light 0 0, .light 0 0, .light 0 0, .light 0 0, .light 0 0, .light 0 0, .light 0 0, .light 0 0, .light 0 0, .light 0 0, .light 0 0, .light 0 0, .light 0 0, .light 0 0, .light 0 0, .light 0 0, .light 0 0, .light 0 0, .light 0 0] [false, false, false, false, false, false, false, false, false, false, false, false, false, false, false, false, false, false, false, false, false, false, false, false, false, false, false, false, false, false] 30 82 [] [some 19, some 20, some 21, some 22, some 23, some 24, some 25, some 26, some 27, some 28, some 29, some 30, some 31, some 32, some 33, some 34, some 35, some 36, some 37, some 38, some 39, some 40, some 41, some 42, some 43, some 44, some 45, some 46, some 47, some 48] [[], [0], [1], [2], [2, 3], [2], [2, 5], [2, 4, 6], [2, 7], [8], [9], [9, 10], [9], [9, 12], [9, 11, 13], [9, 14], [15], [16], [16, 17], [16], [16, 19], [16, 18, 20], [16, 21], [22], [23], [23, 24], [23], [23, 25, 26], [23, 27], [23, 28]] [Eq1 (.bool true), Eq1 (.bool false), Eq1 _, Eq1 _, Eq1 (.bool false), Eq1 _, Eq1 (.bool false), Eq1 (.bool false), Eq1 _, Eq1 _, Eq1 _, Eq1 (.int .i64 (dd : Int)), Eq1 _, Eq1 (.int .i64 (dd : Int)), Eq1 (.bool false), Eq1 _, Eq1 _, Eq1 _, Eq1 (.int .i64 (cc : Int)), Eq1 _, Eq1 (.int .i64 (cc : Int)), Eq1 (.bool false), Eq1 _, Eq1 _, Eq1 _, (TreeV wR5n.heap.size wR5n.heap.size wR5n n t), Eq1 _, Eq1 (.bool true), Eq1 (.bool false), Eq1 _] ?hq1_1 ?hq2_1 ?hq3_1 ?hq4_1 ?hq5_1 ?hq6_1 _ ?hA_1 ?hst_1 ?h0_1 ?hsteps_1 ?hend_1
    case hq1_1 => kernel_rfl
    case hq2_1 => kernel_rfl
    case hq3_1 => kernel_rfl
    case hq5_1 => kernel_rfl
    case hq4_1 => rfl
    case hq6_1 => rfl
    case hA_1 => intro vs; simp only [fillD, Nat.reduceAdd, Act.put, List.setIfInBounds_toArray, List.set_cons_zero, List.set_cons_succ]; rfl
    case h0_1 => exact H.drew
    case hfs_1 => exact fun _ _ _ hb h => Hp.step h hb
    case hsteps_1 =>
      refine ⟨?_, ?_, ?_, ?_, ?_, ?_, ?_, ?_, ?_, ?_, ?_, ?_, ?_, ?_, ?_, ?_, ?_, ?_, ?_, ?_, ?_, ?_, ?_, ?_, ?_, ?_, ?_, ?_, ?_, ?_, trivial⟩
      · intro p vs w' K hJ hp1 hp2 hS hR hK
        rw [if_pos (by rfl)]
        have C := Hp.facts hS
        simp only [Facts, factsL, and_true, true_and, Zp, Zq, Zr] at C
        have hsz := hR.1
        go_step
        refine (known7_any _).mono ?_
        rintro e' w'' ⟨rfl, hb⟩
        exact hK.out _ _ hb (Eq1.of (rfl)) Fresh.no
      · intro p vs w' K hJ hp1 hp2 hS hR hK
        simp only [DepJ, List.getD_cons_zero, List.getD_cons_succ] at hJ
        obtain ⟨j0, -⟩ := hJ
        have j0 := Eq1.out j0
        simp only [j0] at hK ⊢
        rw [if_pos (by rfl)]
        go_step
        exact hK.out _ _ (Below.refl _ _) (Eq1.of (by first | rfl | (simp; done) | (simp; omega))) Fresh.no
      · intro p vs w' K hJ hp1 hp2 hS hR hK
        simp only [DepJ, List.getD_cons_zero, List.getD_cons_succ] at hJ
        obtain ⟨j1, -⟩ := hJ
        have j1 := Eq1.out j1
        simp only [j1] at hK ⊢
        rw [if_pos (by rfl)]
        go_step
        exact hK.out _ _ (Below.refl _ _) Eq1.mk Fresh.no
      · intro p vs w' K hJ hp1 hp2 hS hR hK
        simp only [DepJ, List.getD_cons_zero, List.getD_cons_succ] at hJ
        obtain ⟨j2, -⟩ := hJ
        have j2 := Eq1.out j2
        simp only [j2] at hK ⊢
        rw [if_pos (by rfl)]
        have C := Hp.facts hS
        simp only [Facts, factsL, and_true, true_and, Zp, Zq, Zr] at C
        have hsz := hR.1
        go_step
        exact hK.out _ _ (Below.refl _ _) Eq1.mk Fresh.no
      · intro p vs w' K hJ hp1 hp2 hS hR hK
        simp only [DepJ, List.getD_cons_zero, List.getD_cons_succ] at hJ
        obtain ⟨j2, j3, -⟩ := hJ
        have j2 := Eq1.out j2
        have j3 := Eq1.out j3
        simp only [j2, j3] at hK ⊢
        rw [if_pos (by rfl)]
        have C := Hp.facts hS
        simp only [Facts, factsL, and_true, true_and, Zp, Zq, Zr] at C
        have hsz := hR.1
        go_step
        refine (hRi _ (show Hp _ _ _ from hS).low).mono ?_
        rintro e' w'' ⟨rfl, hb⟩
        exact hK.out _ _ hb (Eq1.of (rfl)) Fresh.no
      · intro p vs w' K hJ hp1 hp2 hS hR hK
        simp only [DepJ, List.getD_cons_zero, List.getD_cons_succ] at hJ
        obtain ⟨j2, -⟩ := hJ
        have j2 := Eq1.out j2
        simp only [j2] at hK ⊢
        rw [if_pos (by rfl)]
        have C := Hp.facts hS
        simp only [Facts, factsL, and_true, true_and, Zp, Zq, Zr] at C
        have hsz := hR.1
        go_step
        exact hK.out _ _ (Below.refl _ _) Eq1.mk Fresh.no
      · intro p vs w' K hJ hp1 hp2 hS hR hK
        simp only [DepJ, List.getD_cons_zero, List.getD_cons_succ] at hJ
        obtain ⟨j2, j5, -⟩ := hJ
        have j2 := Eq1.out j2
        have j5 := Eq1.out j5
        simp only [j2, j5] at hK ⊢
        rw [if_pos (by rfl)]
        have C := Hp.facts hS
        simp only [Facts, factsL, and_true, true_and, Zp, Zq, Zr] at C
        have hsz := hR.1
        go_step
        refine (hRr _ (show Hp _ _ _ from hS).low).mono ?_
        rintro e' w'' ⟨rfl, hb⟩
        exact hK.out _ _ hb (Eq1.of (rfl)) Fresh.no
      · intro p vs w' K hJ hp1 hp2 hS hR hK
        simp only [DepJ, List.getD_cons_zero, List.getD_cons_succ] at hJ
        obtain ⟨j2, j4, j6, -⟩ := hJ
        have j2 := Eq1.out j2
        have j4 := Eq1.out j4
        have j6 := Eq1.out j6
        simp only [j2, j4, j6] at hK ⊢
        rw [if_pos (by rfl)]
        go_step
        exact hK.out _ _ (Below.refl _ _) (Eq1.of (by first | rfl | (simp; done) | (simp; omega))) Fresh.no
      · intro p vs w' K hJ hp1 hp2 hS hR hK
        simp only [DepJ, List.getD_cons_zero, List.getD_cons_succ] at hJ
        obtain ⟨j2, j7, -⟩ := hJ
        have j2 := Eq1.out j2
        have j7 := Eq1.out j7
        simp only [j2, j7] at hK ⊢
        rw [if_pos (by rfl)]
        go_step
        exact hK.out _ _ (Below.refl _ _) Eq1.mk Fresh.no
      · intro p vs w' K hJ hp1 hp2 hS hR hK
        simp only [DepJ, List.getD_cons_zero, List.getD_cons_succ] at hJ
        obtain ⟨j8, -⟩ := hJ
        have j8 := Eq1.out j8
        simp only [j8] at hK ⊢
        rw [if_pos (by rfl)]
        go_step
        exact hK.out _ _ (Below.refl _ _) Eq1.mk Fresh.no
      · intro p vs w' K hJ hp1 hp2 hS hR hK
        simp only [DepJ, List.getD_cons_zero, List.getD_cons_succ] at hJ
        obtain ⟨j9, -⟩ := hJ
        have j9 := Eq1.out j9
        simp only [j9] at hK ⊢
        rw [if_pos (by rfl)]
        have C := Hp.facts hS
        simp only [Facts, factsL, and_true, true_and, Zp, Zq, Zr] at C
        have hsz := hR.1
        go_step
        exact hK.out _ _ (Below.refl _ _) Eq1.mk Fresh.no
      · intro p vs w' K hJ hp1 hp2 hS hR hK
        simp only [DepJ, List.getD_cons_zero, List.getD_cons_succ] at hJ
        obtain ⟨j9, j10, -⟩ := hJ
        have j9 := Eq1.out j9
        have j10 := Eq1.out j10
        simp only [j9, j10] at hK ⊢
        rw [if_pos (by rfl)]
        have C := Hp.facts hS
        simp only [Facts, factsL, and_true, true_and, Zp, Zq, Zr] at C
        have hsz := hR.1
        go_step
        refine (hDx _ (show Hp _ _ _ from hS).low).mono ?_
        rintro e' w'' ⟨rfl, hb⟩
        exact hK.out _ _ hb (Eq1.of (rfl)) Fresh.no
      · intro p vs w' K hJ hp1 hp2 hS hR hK
        simp only [DepJ, List.getD_cons_zero, List.getD_cons_succ] at hJ
        obtain ⟨j9, -⟩ := hJ
        have j9 := Eq1.out j9
        simp only [j9] at hK ⊢
        rw [if_pos (by rfl)]
        have C := Hp.facts hS
        simp only [Facts, factsL, and_true, true_and, Zp, Zq, Zr] at C
        have hsz := hR.1
        go_step
        exact hK.out _ _ (Below.refl _ _) Eq1.mk Fresh.no
      · intro p vs w' K hJ hp1 hp2 hS hR hK
        simp only [DepJ, List.getD_cons_zero, List.getD_cons_succ] at hJ
        obtain ⟨j9, j12, -⟩ := hJ
        have j9 := Eq1.out j9
        have j12 := Eq1.out j12
        simp only [j9, j12] at hK ⊢
        rw [if_pos (by rfl)]
        have C := Hp.facts hS
        simp only [Facts, factsL, and_true, true_and, Zp, Zq, Zr] at C
        have hsz := hR.1
        go_step
        refine (hDr _ (show Hp _ _ _ from hS).low).mono ?_
        rintro e' w'' ⟨rfl, hb⟩
        exact hK.out _ _ hb (Eq1.of (rfl)) Fresh.no
      · intro p vs w' K hJ hp1 hp2 hS hR hK
        simp only [DepJ, List.getD_cons_zero, List.getD_cons_succ] at hJ
        obtain ⟨j9, j11, j13, -⟩ := hJ
        have j9 := Eq1.out j9
        have j11 := Eq1.out j11
        have j13 := Eq1.out j13
        simp only [j9, j11, j13] at hK ⊢
        rw [if_pos (by rfl)]
        go_step
        exact hK.out _ _ (Below.refl _ _) (Eq1.of (by simp)) Fresh.no
      · intro p vs w' K hJ hp1 hp2 hS hR hK
        simp only [DepJ, List.getD_cons_zero, List.getD_cons_succ] at hJ
        obtain ⟨j9, j14, -⟩ := hJ
        have j9 := Eq1.out j9
        have j14 := Eq1.out j14
        simp only [j9, j14] at hK ⊢
        rw [if_pos (by rfl)]
        go_step
        exact hK.out _ _ (Below.refl _ _) Eq1.mk Fresh.no
      · intro p vs w' K hJ hp1 hp2 hS hR hK
        simp only [DepJ, List.getD_cons_zero, List.getD_cons_succ] at hJ
        obtain ⟨j15, -⟩ := hJ
        have j15 := Eq1.out j15
        simp only [j15] at hK ⊢
        rw [if_pos (by rfl)]
        go_step
        exact hK.out _ _ (Below.refl _ _) Eq1.mk Fresh.no
      · intro p vs w' K hJ hp1 hp2 hS hR hK
        simp only [DepJ, List.getD_cons_zero, List.getD_cons_succ] at hJ
        obtain ⟨j16, -⟩ := hJ
        have j16 := Eq1.out j16
        simp only [j16] at hK ⊢
        rw [if_pos (by rfl)]
        have C := Hp.facts hS
        simp only [Facts, factsL, and_true, true_and, Zp, Zq, Zr] at C
        have hsz := hR.1
        go_step
        exact hK.out _ _ (Below.refl _ _) Eq1.mk Fresh.no
      · intro p vs w' K hJ hp1 hp2 hS hR hK
        simp only [DepJ, List.getD_cons_zero, List.getD_cons_succ] at hJ
        obtain ⟨j16, j17, -⟩ := hJ
        have j16 := Eq1.out j16
        have j17 := Eq1.out j17
        simp only [j16, j17] at hK ⊢
        rw [if_pos (by rfl)]
        have C := Hp.facts hS
        simp only [Facts, factsL, and_true, true_and, Zp, Zq, Zr] at C
        have hsz := hR.1
        go_step
        refine (hSx _ (show Hp _ _ _ from hS).low).mono ?_
        rintro e' w'' ⟨rfl, hb⟩
        exact hK.out _ _ hb (Eq1.of (rfl)) Fresh.no
      · intro p vs w' K hJ hp1 hp2 hS hR hK
        simp only [DepJ, List.getD_cons_zero, List.getD_cons_succ] at hJ
        obtain ⟨j16, -⟩ := hJ
        have j16 := Eq1.out j16
        simp only [j16] at hK ⊢
        rw [if_pos (by rfl)]
        have C := Hp.facts hS
        simp only [Facts, factsL, and_true, true_and, Zp, Zq, Zr] at C
        have hsz := hR.1
        go_step
        exact hK.out _ _ (Below.refl _ _) Eq1.mk Fresh.no
      · intro p vs w' K hJ hp1 hp2 hS hR hK
        simp only [DepJ, List.getD_cons_zero, List.getD_cons_succ] at hJ
        obtain ⟨j16, j19, -⟩ := hJ
        have j16 := Eq1.out j16
        have j19 := Eq1.out j19
        simp only [j16, j19] at hK ⊢
        rw [if_pos (by rfl)]
        have C := Hp.facts hS
        simp only [Facts, factsL, and_true, true_and, Zp, Zq, Zr] at C
        have hsz := hR.1
        go_step
        refine (hSr _ (show Hp _ _ _ from hS).low).mono ?_
        rintro e' w'' ⟨rfl, hb⟩
        exact hK.out _ _ hb (Eq1.of (rfl)) Fresh.no
      · intro p vs w' K hJ hp1 hp2 hS hR hK
        simp only [DepJ, List.getD_cons_zero, List.getD_cons_succ] at hJ
        obtain ⟨j16, j18, j20, -⟩ := hJ
        have j16 := Eq1.out j16
        have j18 := Eq1.out j18
        have j20 := Eq1.out j20
        simp only [j16, j18, j20] at hK ⊢
        rw [if_pos (by rfl)]
        go_step
        exact hK.out _ _ (Below.refl _ _) (Eq1.of (by simp)) Fresh.no
      · intro p vs w' K hJ hp1 hp2 hS hR hK
        simp only [DepJ, List.getD_cons_zero, List.getD_cons_succ] at hJ
        obtain ⟨j16, j21, -⟩ := hJ
        have j16 := Eq1.out j16
        have j21 := Eq1.out j21
        simp only [j16, j21] at hK ⊢
        rw [if_pos (by rfl)]
        go_step
        exact hK.out _ _ (Below.refl _ _) Eq1.mk Fresh.no
      · intro p vs w' K hJ hp1 hp2 hS hR hK
        simp only [DepJ, List.getD_cons_zero, List.getD_cons_succ] at hJ
        obtain ⟨j22, -⟩ := hJ
        have j22 := Eq1.out j22
        simp only [j22] at hK ⊢
        rw [if_pos (by rfl)]
        go_step
        exact hK.out _ _ (Below.refl _ _) Eq1.mk Fresh.no
      · intro p vs w' K hJ hp1 hp2 hS hR hK
        simp only [DepJ, List.getD_cons_zero, List.getD_cons_succ] at hJ
        obtain ⟨j23, -⟩ := hJ
        have j23 := Eq1.out j23
        simp only [j23] at hK ⊢
        rw [if_pos (by rfl)]
        have C := Hp.facts hS
        simp only [Facts, factsL, and_true, true_and, Zp, Zq, Zr] at C
        have hsz := hR.1
        go_step
        exact hK.out _ _ (Below.refl _ _) Eq1.mk Fresh.no
      · intro p vs w' K hJ hp1 hp2 hS hR hK
        simp only [DepJ, List.getD_cons_zero, List.getD_cons_succ] at hJ
        obtain ⟨j23, j24, -⟩ := hJ
        have j23 := Eq1.out j23
        have j24 := Eq1.out j24
        simp only [j23, j24] at hK ⊢
        rw [if_pos (by rfl)]
        replace hS : Hp _ _ _ := hS
        have C := Hp.facts hS
        simp only [Facts, factsL, and_true, true_and, Zp, Zq, Zr] at C
        have hsz := hR.1
        go_step
        refine (hOf _ hS.low).mono ?_
        rintro e' w'' ⟨⟨cs2, rfl, ht2⟩, hb2⟩
        exact hK.out _ _ hb2 (TreeV.mk hS (Nat.le_refl _) hR.1 hb2 ht2) Fresh.no
      · intro p vs w' K hJ hp1 hp2 hS hR hK
        simp only [DepJ, List.getD_cons_zero, List.getD_cons_succ] at hJ
        obtain ⟨j23, -⟩ := hJ
        have j23 := Eq1.out j23
        simp only [j23] at hK ⊢
        rw [if_pos (by rfl)]
        have C := Hp.facts hS
        simp only [Facts, factsL, and_true, true_and, Zp, Zq, Zr] at C
        have hsz := hR.1
        go_step
        exact hK.out _ _ (Below.refl _ _) Eq1.mk Fresh.no
      · intro p vs w' K hJ hp1 hp2 hS hR hK
        simp only [DepJ, List.getD_cons_zero, List.getD_cons_succ] at hJ
        obtain ⟨j23, j25, j26, -⟩ := hJ
        have j23 := Eq1.out j23
        obtain ⟨x0, x1, x2, x3, x4, j25, t25⟩ := j25
        have j26 := Eq1.out j26
        simp only [j23, j25, j26] at hK ⊢
        rw [if_pos (by rfl)]
        replace hS : Hp _ _ _ := hS
        have C := Hp.facts hS
        simp only [Facts, factsL, and_true, true_and, Zp, Zq, Zr] at C
        have hsz := hR.1
        go_step
        refine (hSm _ hS.low _ _ (t25.out hS (Nat.le_refl _)).any).mono ?_
        rintro e' w'' ⟨rfl, hb2⟩
        exact hK.out _ _ hb2 Eq1.mk Fresh.no
      · intro p vs w' K hJ hp1 hp2 hS hR hK
        simp only [DepJ, List.getD_cons_zero, List.getD_cons_succ] at hJ
        obtain ⟨j23, j27, -⟩ := hJ
        have j23 := Eq1.out j23
        have j27 := Eq1.out j27
        simp only [j23, j27] at hK ⊢
        rw [if_pos (by rfl)]
        go_step
        exact hK.out _ _ (Below.refl _ _) (Eq1.of (by first | rfl | (simp; done) | (simp; omega))) Fresh.no
      · intro p vs w' K hJ hp1 hp2 hS hR hK
        simp only [DepJ, List.getD_cons_zero, List.getD_cons_succ] at hJ
        obtain ⟨j23, j28, -⟩ := hJ
        have j23 := Eq1.out j23
        have j28 := Eq1.out j28
        simp only [j23, j28] at hK ⊢
        rw [if_pos (by rfl)]
        go_step
        exact hK.out _ _ (Below.refl _ _) Eq1.mk Fresh.no
    case hst_1 => refine ⟨fun _ _ _ _ h => h, fun _ _ _ _ h => h, fun _ _ _ _ h => h, fun _ _ _ _ h => h, fun _ _ _ _ h => h, fun _ _ _ _ h => h, fun _ _ _ _ h => h, fun _ _ _ _ h => h, fun _ _ _ _ h => h, fun _ _ _ _ h => h, fun _ _ _ _ h => h, fun _ _ _ _ h => h, fun _ _ _ _ h => h, fun _ _ _ _ h => h, fun _ _ _ _ h => h, fun _ _ _ _ h => h, fun _ _ _ _ h => h, fun _ _ _ _ h => h, fun _ _ _ _ h => h, fun _ _ _ _ h => h, fun _ _ _ _ h => h, fun _ _ _ _ h => h, fun _ _ _ _ h => h, fun _ _ _ _ h => h, fun _ _ _ _ h => h, fun _ _ _ hs h => TreeV.stay hs h, fun _ _ _ _ h => h, fun _ _ _ _ h => h, fun _ _ _ _ h => h, fun _ _ _ _ h => h, trivial⟩
    intro vs w' hJ hD hS hR
    simp only [AllJ, Nat.reduceAdd] at hJ
    obtain ⟨v0, v1, v2, v3, v4, v5, v6, v7, v8, v9, v10, v11, v12, v13, v14, v15, v16, v17, v18, v19, v20, v21, v22, v23, v24, v25, v26, v27, v28, v29, -⟩ := hJ
    clear C
    replace v0 := Eq1.out v0
    replace v1 := Eq1.out v1
    replace v2 := Eq1.out v2
    replace v3 := Eq1.out v3
    replace v4 := Eq1.out v4
    replace v5 := Eq1.out v5
    replace v6 := Eq1.out v6
    replace v7 := Eq1.out v7
    replace v8 := Eq1.out v8
    replace v9 := Eq1.out v9
    replace v10 := Eq1.out v10
    replace v11 := Eq1.out v11
    replace v12 := Eq1.out v12
    replace v13 := Eq1.out v13
    replace v14 := Eq1.out v14
    replace v15 := Eq1.out v15
    replace v16 := Eq1.out v16
    replace v17 := Eq1.out v17
    replace v18 := Eq1.out v18
    replace v19 := Eq1.out v19
    replace v20 := Eq1.out v20
    replace v21 := Eq1.out v21
    replace v22 := Eq1.out v22
    replace v23 := Eq1.out v23
    replace v24 := Eq1.out v24
    replace v26 := Eq1.out v26
    replace v27 := Eq1.out v27
    replace v28 := Eq1.out v28
    replace v29 := Eq1.out v29
    obtain ⟨x0, x1, x2, x3, x4, e25, t25⟩ := v25
    simp only [v0, v1, v2, v3, v4, v5, v6, v7, v8, v9, v10, v11, v12, v13, v14, v15, v16, v17, v18, v19, v20, v21, v22, v23, v24, v26, v27, v28, v29, e25, List.drop_succ_cons, List.drop_zero]
    refine wpList_nil' ?_
    have H' : Hp _ _ _ := hS
    clear hD hR hS v0 v1 v2 v3 v4 v5 v6 v7 v8 v9 v10 v11 v12 v13 v14 v15 v16 v17 v18 v19 v20 v21 v22 v23 v24 v26 v27 v28 v29
    clear t25 e25
    clear vs H
    have H := H'; clear H'; have C := Hp.facts H; simp only [Facts, factsL, and_true, true_and, Zp, Zq, Zr] at C
    have H' := HO.step H.low
    clear HO CO H C hOf hSm hRi hDx hDr hSx hSr gxq gaq
    have H := H'
    clear H'
    have C := Hp.facts H
    simp only [Facts, factsL, and_true, true_and, Zp, Zq, Zr] at C
    have hRr2 := fun w1 (h : Below w.heap.size w w1) => rright7_any n t _ w1 ((gta.out.step h).any) (by omega)
    simp only [← hrf.out, hir] at hRr2
    clear hRr
    (repeat' ((fail_if_success (with_reducible show bodyPost _ _ _ _ _ _)); first | ((with_reducible refine Hp.abs_alloc H ?_); intro b' w' H' hb'; (try simp only [hb']); clear hb'; ((try simp only [Zp, Zq, Zr] at H'); clear C H; have H := H'; clear H'; have C := Hp.facts H; simp only [Facts, factsL, and_true, true_and, Zp, Zq, Zr] at C)) | ((with_reducible show wpList _ _ _ _ _ (World.setCell _ _ _)); (with_reducible apply Hp.abs_gen H); (first | (with_reducible (repeat apply Zt 0); exact H); (repeat rfl); intro w' H' | (with_reducible (repeat apply Zt 1); exact H); (repeat rfl); intro w' H' | (with_reducible (repeat apply Zt 2); exact H); (repeat rfl); intro w' H' | (with_reducible (repeat apply Zt 3); exact H); (repeat rfl); intro w' H' | (with_reducible (repeat apply Zt 4); exact H); (repeat rfl); intro w' H' | (with_reducible (repeat apply Zt 5); exact H); (repeat rfl); intro w' H' | (with_reducible (repeat apply Zt 6); exact H); (repeat rfl); intro w' H' | (with_reducible (repeat apply Zt 7); exact H); (repeat rfl); intro w' H'); ((try simp only [Zp, Zq, Zr] at H'); clear C H; have H := H'; clear H'; have C := Hp.facts H; simp only [Facts, factsL, and_true, true_and, Zp, Zq, Zr] at C)) | go_values | go_skip | go_guarded | go_step | go_upon | go_back | (simp only [Int.not_lt, Int.not_le] at *; go_simp) | (go_values <;> (try go_simp)) | (go_ite <;> go_prune <;> (try go_simp)) | (split <;> (first | (rename_i hx; exact (hx _ rfl).elim) | go_prune))))
    refine (hRr2 _ H.low).mono ?_
    (rintro e' w' ⟨rfl, hb'⟩; (have H' := Hp.step H hb'; clear hb'; ((try simp only [Zp, Zq, Zr] at H'); clear C H; have H := H'; clear H'; have C := Hp.facts H; simp only [Facts, factsL, and_true, true_and, Zp, Zq, Zr] at C)))
    (repeat' ((fail_if_success (with_reducible show bodyPost _ _ _ _ _ _)); first | ((with_reducible refine Hp.abs_alloc H ?_); intro b' w' H' hb'; (try simp only [hb']); clear hb'; ((try simp only [Zp, Zq, Zr] at H'); clear C H; have H := H'; clear H'; have C := Hp.facts H; simp only [Facts, factsL, and_true, true_and, Zp, Zq, Zr] at C)) | ((with_reducible show wpList _ _ _ _ _ (World.setCell _ _ _)); (with_reducible apply Hp.abs_gen H); (first | (with_reducible (repeat apply Zt 0); exact H); (repeat rfl); intro w' H' | (with_reducible (repeat apply Zt 1); exact H); (repeat rfl); intro w' H' | (with_reducible (repeat apply Zt 2); exact H); (repeat rfl); intro w' H' | (with_reducible (repeat apply Zt 3); exact H); (repeat rfl); intro w' H' | (with_reducible (repeat apply Zt 4); exact H); (repeat rfl); intro w' H' | (with_reducible (repeat apply Zt 5); exact H); (repeat rfl); intro w' H' | (with_reducible (repeat apply Zt 6); exact H); (repeat rfl); intro w' H' | (with_reducible (repeat apply Zt 7); exact H); (repeat rfl); intro w' H'); ((try simp only [Zp, Zq, Zr] at H'); clear C H; have H := H'; clear H'; have C := Hp.facts H; simp only [Facts, factsL, and_true, true_and, Zp, Zq, Zr] at C)) | go_values | go_skip | go_guarded | go_step | go_upon | go_back | (simp only [Int.not_lt, Int.not_le] at *; go_simp) | (go_values <;> (try go_simp)) | (go_ite <;> go_prune <;> (try go_simp)) | (split <;> (first | (rename_i hx; exact (hx _ rfl).elim) | go_prune))))
    go_ret
    exact ⟨rfl, H.low⟩
  | true =>
    have hok := hir
    rw [hrf.out] at hok
    simp only [Bool.and_eq_true, decide_eq_true_eq] at hok
    have hsnd := Kp.mk hok.1.1
    obtain ⟨sp, hsp⟩ := parse_forth hok.1.1 hok.1.2 hok.2 (by rw [hWL.out]; omega)
    replace hsp := Kp.mk hsp
    clear hok
    have gxs := fun w2 L2 (H2 : Hp w L2 w2) (hs : ∀ x ∈ Ox, x ∈ L2) => (gx.out w2 L2 H2 hs).weak (Q := (· < w2.heap.size)) fun b _ hl => hl
    have hPr := fun w2 L2 (H2 : Hp w L2 w2) (hs : ∀ x ∈ Ox, x ∈ L2) => print_any n t _ w2 (gxs w2 L2 H2 hs) (by omega) (by omega)
    have hpr : printR t = (wholeT t, 0) := by unfold printR; rw [hir]; rfl
    simp only [hpr] at hPr
    clear hpr
    replace hPr := Kp.mk hPr
    replace gxs := Kp.mk gxs
    (repeat' ((fail_if_success (with_reducible show bodyPost _ _ _ _ _ _)); first | ((with_reducible refine Hp.abs_alloc H ?_); intro b' w' H' hb'; (try simp only [hb']); clear hb'; ((try simp only [Zp, Zq, Zr] at H'); clear C H; have H := H'; clear H'; have C := Hp.facts H; simp only [Facts, factsL, and_true, true_and, Zp, Zq, Zr] at C)) | ((with_reducible show wpList _ _ _ _ _ (World.setCell _ _ _)); (with_reducible apply Hp.abs_gen H); (first | (with_reducible (repeat apply Zt 0); exact H); (repeat rfl); intro w' H' | (with_reducible (repeat apply Zt 1); exact H); (repeat rfl); intro w' H' | (with_reducible (repeat apply Zt 2); exact H); (repeat rfl); intro w' H' | (with_reducible (repeat apply Zt 3); exact H); (repeat rfl); intro w' H' | (with_reducible (repeat apply Zt 4); exact H); (repeat rfl); intro w' H' | (with_reducible (repeat apply Zt 5); exact H); (repeat rfl); intro w' H' | (with_reducible (repeat apply Zt 6); exact H); (repeat rfl); intro w' H' | (with_reducible (repeat apply Zt 7); exact H); (repeat rfl); intro w' H'); ((try simp only [Zp, Zq, Zr] at H'); clear C H; have H := H'; clear H'; have C := Hp.facts H; simp only [Facts, factsL, and_true, true_and, Zp, Zq, Zr] at C)) | go_values | go_skip | go_guarded | go_step | go_upon | go_back | (simp only [Int.not_lt, Int.not_le] at *; go_simp) | (go_values <;> (try go_simp)) | (go_ite <;> go_prune <;> (try go_simp)) | (split <;> (first | (rename_i hx; exact (hx _ rfl).elim) | go_prune))))
    refine (hPr.out _ _ H (fun x hx => by simp [hx])).mono ?_
    rintro e' w2 ⟨⟨v', rfl, ho⟩, hb'⟩
    simp only [hWL.out] at ho
    have H' := H.adopt hb' (.row 5 1 v' _ _) ho
    obtain ⟨Ab, cb, rfl⟩ := own_form ho
    clear ho hb' hPr
    ((try simp only [Zp, Zq, Zr] at H'); clear C H; have H := H'; clear H'; have C := Hp.facts H; simp only [Facts, factsL, and_true, true_and, Zp, Zq, Zr] at C)
    (repeat' ((fail_if_success (with_reducible show bodyPost _ _ _ _ _ _)); first | ((with_reducible refine Hp.abs_alloc H ?_); intro b' w' H' hb'; (try simp only [hb']); clear hb'; ((try simp only [Zp, Zq, Zr] at H'); clear C H; have H := H'; clear H'; have C := Hp.facts H; simp only [Facts, factsL, and_true, true_and, Zp, Zq, Zr] at C)) | ((with_reducible show wpList _ _ _ _ _ (World.setCell _ _ _)); (with_reducible apply Hp.abs_gen H); (first | (with_reducible (repeat apply Zt 0); exact H); (repeat rfl); intro w' H' | (with_reducible (repeat apply Zt 1); exact H); (repeat rfl); intro w' H' | (with_reducible (repeat apply Zt 2); exact H); (repeat rfl); intro w' H' | (with_reducible (repeat apply Zt 3); exact H); (repeat rfl); intro w' H' | (with_reducible (repeat apply Zt 4); exact H); (repeat rfl); intro w' H' | (with_reducible (repeat apply Zt 5); exact H); (repeat rfl); intro w' H' | (with_reducible (repeat apply Zt 6); exact H); (repeat rfl); intro w' H' | (with_reducible (repeat apply Zt 7); exact H); (repeat rfl); intro w' H'); ((try simp only [Zp, Zq, Zr] at H'); clear C H; have H := H'; clear H'; have C := Hp.facts H; simp only [Facts, factsL, and_true, true_and, Zp, Zq, Zr] at C)) | go_values | go_skip | go_guarded | go_step | go_upon | go_back | (simp only [Int.not_lt, Int.not_le] at *; go_simp) | (go_values <;> (try go_simp)) | (go_ite <;> go_prune <;> (try go_simp)) | (split <;> (first | (rename_i hx; exact (hx _ rfl).elim) | go_prune))))
    obtain ⟨wq, rfl⟩ := Hp.nameW H
    have HO := H
    have CO := C
    have gxq := Kp.mk (gxs.out _ _ HO (fun x hx => by simp [hx]))
    have gaq := Kp.mk ((gta.out.step HO.low).weak (Q := (· < wq.heap.size)) fun b _ hl => hl)
    clear H C
    have H := Hp.start wq
    have C := Hp.facts H
    simp only [Facts, factsL, and_true, true_and, Zp, Zq, Zr] at C
    have hOf := fun w1 (h : Below wq.heap.size wq w1) => of7_any n t _ w1 wq.heap.size h.size (gxq.out.step h) (by omega)
    have hSm := fun w1 (h : Below wq.heap.size wq w1) (m2 : Nat) (cs2 : List Value) (h2 : ItN w1 m2 t cs2) => rtsame_any m2 t cs2 n t _ w1 h2 ((gaq.out.step h).any) (by omega) (by omega)
    have hRi := fun w1 (h : Below wq.heap.size wq w1) => iright_any n t _ w1 ((gxq.out.step h).weak fun b _ hl => hl) (by omega) (by omega)
    have hRr := fun w1 (h : Below wq.heap.size wq w1) => rright7_any n t _ w1 ((gaq.out.step h).any) (by omega)
    have hDx := fun w1 (h : Below wq.heap.size wq w1) => depth_any n t _ w1 ((gxq.out.step h).weak fun b _ hl => hl) (by omega)
    have hDr := fun w1 (h : Below wq.heap.size wq w1) => rdeep_any n t _ w1 ((gaq.out.step h).any) (by omega)
    have hSx := fun w1 (h : Below wq.heap.size wq w1) => isize_any n t _ w1 ((gxq.out.step h).weak fun b _ hl => hl) (by omega)
    have hSr := fun w1 (h : Below wq.heap.size wq w1) => rsize_any n t _ w1 ((gaq.out.step h).any) (by omega)
    simp only [Tree.same_self] at hSm
    simp only [hir] at hRi
    simp only [← hrf.out, hir] at hRr
    generalize t.deep = dd at hDx hDr
    generalize t.count = cc at hSx hSr
    try simp (disch := omega) only [decide_eq_true, decide_eq_false]
    obtain ⟨wR5s, rfl⟩ := Hp.nameW H
    apply region_n (frm wR5s.heap.size (fun _ => Hp _ _)) (frm_ok ?hfs_2) frm_sz [] [.light 0 0, .light 0 0, .light 0 0, .light 0 0, .light 0 0, .light 0 0, .light 0 0, .light 0 0, .light 0 0, .light 0 0, .light 0 0, .light 0 0, .light 0 0, .light 0 0, .light 0 0, .light 0 0, .light 0 0, .light 0 0, .light 0 0, .light 0 0, .light 0 0, .light 0 0, .light 0 0, .light 0 0, .light 0 0, .light 0 0, .light 0 0, .light 0 0, .light 0 0, .light 0 0] [false, false, false, false, false, false, false, false, false, false, false, false, false, false, false, false, false, false, false, false, false, false, false, false, false, false, false, false, false, false] 30 82 [] [some 19, some 20, some 21, some 22, some 23, some 24, some 25, some 26, some 27, some 28, some 29, some 30, some 31, some 32, some 33, some 34, some 35, some 36, some 37, some 38, some 39, some 40, some 41, some 42, some 43, some 44, some 45, some 46, some 47, some 48] [[], [0], [1], [2], [2, 3], [2], [2, 5], [2, 4, 6], [2, 7], [8], [9], [9, 10], [9], [9, 12], [9, 11, 13], [9, 14], [15], [16], [16, 17], [16], [16, 19], [16, 18, 20], [16, 21], [22], [23], [23, 24], [23], [23, 25, 26], [23, 27], [23, 28]] [Eq1 (.bool true), Eq1 (.bool false), Eq1 _, Eq1 _, Eq1 (.bool true), Eq1 _, Eq1 (.bool true), Eq1 (.bool false), Eq1 _, Eq1 _, Eq1 _, Eq1 (.int .i64 (dd : Int)), Eq1 _, Eq1 (.int .i64 (dd : Int)), Eq1 (.bool false), Eq1 _, Eq1 _, Eq1 _, Eq1 (.int .i64 (cc : Int)), Eq1 _, Eq1 (.int .i64 (cc : Int)), Eq1 (.bool false), Eq1 _, Eq1 _, Eq1 _, (TreeV wR5s.heap.size wR5s.heap.size wR5s n t), Eq1 _, Eq1 (.bool true), Eq1 (.bool false), Eq1 _] ?hq1_2 ?hq2_2 ?hq3_2 ?hq4_2 ?hq5_2 ?hq6_2 _ ?hA_2 ?hst_2 ?h0_2 ?hsteps_2 ?hend_2
    case hq1_2 => kernel_rfl
    case hq2_2 => kernel_rfl
    case hq3_2 => kernel_rfl
    case hq5_2 => kernel_rfl
    case hq4_2 => rfl
    case hq6_2 => rfl
    case hA_2 => intro vs; simp only [fillD, Nat.reduceAdd, Act.put, List.setIfInBounds_toArray, List.set_cons_zero, List.set_cons_succ]; rfl
    case h0_2 => exact H.drew
    case hfs_2 => exact fun _ _ _ hb h => Hp.step h hb
    case hsteps_2 =>
      refine ⟨?_, ?_, ?_, ?_, ?_, ?_, ?_, ?_, ?_, ?_, ?_, ?_, ?_, ?_, ?_, ?_, ?_, ?_, ?_, ?_, ?_, ?_, ?_, ?_, ?_, ?_, ?_, ?_, ?_, ?_, trivial⟩
      · intro p vs w' K hJ hp1 hp2 hS hR hK
        rw [if_pos (by rfl)]
        have C := Hp.facts hS
        simp only [Facts, factsL, and_true, true_and, Zp, Zq, Zr] at C
        have hsz := hR.1
        go_step
        refine (known7_any _).mono ?_
        rintro e' w'' ⟨rfl, hb⟩
        exact hK.out _ _ hb (Eq1.of (rfl)) Fresh.no
      · intro p vs w' K hJ hp1 hp2 hS hR hK
        simp only [DepJ, List.getD_cons_zero, List.getD_cons_succ] at hJ
        obtain ⟨j0, -⟩ := hJ
        have j0 := Eq1.out j0
        simp only [j0] at hK ⊢
        rw [if_pos (by rfl)]
        go_step
        exact hK.out _ _ (Below.refl _ _) (Eq1.of (by first | rfl | (simp; done) | (simp; omega))) Fresh.no
      · intro p vs w' K hJ hp1 hp2 hS hR hK
        simp only [DepJ, List.getD_cons_zero, List.getD_cons_succ] at hJ
        obtain ⟨j1, -⟩ := hJ
        have j1 := Eq1.out j1
        simp only [j1] at hK ⊢
        rw [if_pos (by rfl)]
        go_step
        exact hK.out _ _ (Below.refl _ _) Eq1.mk Fresh.no
      · intro p vs w' K hJ hp1 hp2 hS hR hK
        simp only [DepJ, List.getD_cons_zero, List.getD_cons_succ] at hJ
        obtain ⟨j2, -⟩ := hJ
        have j2 := Eq1.out j2
        simp only [j2] at hK ⊢
        rw [if_pos (by rfl)]
        have C := Hp.facts hS
        simp only [Facts, factsL, and_true, true_and, Zp, Zq, Zr] at C
        have hsz := hR.1
        go_step
        exact hK.out _ _ (Below.refl _ _) Eq1.mk Fresh.no
      · intro p vs w' K hJ hp1 hp2 hS hR hK
        simp only [DepJ, List.getD_cons_zero, List.getD_cons_succ] at hJ
        obtain ⟨j2, j3, -⟩ := hJ
        have j2 := Eq1.out j2
        have j3 := Eq1.out j3
        simp only [j2, j3] at hK ⊢
        rw [if_pos (by rfl)]
        have C := Hp.facts hS
        simp only [Facts, factsL, and_true, true_and, Zp, Zq, Zr] at C
        have hsz := hR.1
        go_step
        refine (hRi _ (show Hp _ _ _ from hS).low).mono ?_
        rintro e' w'' ⟨rfl, hb⟩
        exact hK.out _ _ hb (Eq1.of (rfl)) Fresh.no
      · intro p vs w' K hJ hp1 hp2 hS hR hK
        simp only [DepJ, List.getD_cons_zero, List.getD_cons_succ] at hJ
        obtain ⟨j2, -⟩ := hJ
        have j2 := Eq1.out j2
        simp only [j2] at hK ⊢
        rw [if_pos (by rfl)]
        have C := Hp.facts hS
        simp only [Facts, factsL, and_true, true_and, Zp, Zq, Zr] at C
        have hsz := hR.1
        go_step
        exact hK.out _ _ (Below.refl _ _) Eq1.mk Fresh.no
      · intro p vs w' K hJ hp1 hp2 hS hR hK
        simp only [DepJ, List.getD_cons_zero, List.getD_cons_succ] at hJ
        obtain ⟨j2, j5, -⟩ := hJ
        have j2 := Eq1.out j2
        have j5 := Eq1.out j5
        simp only [j2, j5] at hK ⊢
        rw [if_pos (by rfl)]
        have C := Hp.facts hS
        simp only [Facts, factsL, and_true, true_and, Zp, Zq, Zr] at C
        have hsz := hR.1
        go_step
        refine (hRr _ (show Hp _ _ _ from hS).low).mono ?_
        rintro e' w'' ⟨rfl, hb⟩
        exact hK.out _ _ hb (Eq1.of (rfl)) Fresh.no
      · intro p vs w' K hJ hp1 hp2 hS hR hK
        simp only [DepJ, List.getD_cons_zero, List.getD_cons_succ] at hJ
        obtain ⟨j2, j4, j6, -⟩ := hJ
        have j2 := Eq1.out j2
        have j4 := Eq1.out j4
        have j6 := Eq1.out j6
        simp only [j2, j4, j6] at hK ⊢
        rw [if_pos (by rfl)]
        go_step
        exact hK.out _ _ (Below.refl _ _) (Eq1.of (by first | rfl | (simp; done) | (simp; omega))) Fresh.no
      · intro p vs w' K hJ hp1 hp2 hS hR hK
        simp only [DepJ, List.getD_cons_zero, List.getD_cons_succ] at hJ
        obtain ⟨j2, j7, -⟩ := hJ
        have j2 := Eq1.out j2
        have j7 := Eq1.out j7
        simp only [j2, j7] at hK ⊢
        rw [if_pos (by rfl)]
        go_step
        exact hK.out _ _ (Below.refl _ _) Eq1.mk Fresh.no
      · intro p vs w' K hJ hp1 hp2 hS hR hK
        simp only [DepJ, List.getD_cons_zero, List.getD_cons_succ] at hJ
        obtain ⟨j8, -⟩ := hJ
        have j8 := Eq1.out j8
        simp only [j8] at hK ⊢
        rw [if_pos (by rfl)]
        go_step
        exact hK.out _ _ (Below.refl _ _) Eq1.mk Fresh.no
      · intro p vs w' K hJ hp1 hp2 hS hR hK
        simp only [DepJ, List.getD_cons_zero, List.getD_cons_succ] at hJ
        obtain ⟨j9, -⟩ := hJ
        have j9 := Eq1.out j9
        simp only [j9] at hK ⊢
        rw [if_pos (by rfl)]
        have C := Hp.facts hS
        simp only [Facts, factsL, and_true, true_and, Zp, Zq, Zr] at C
        have hsz := hR.1
        go_step
        exact hK.out _ _ (Below.refl _ _) Eq1.mk Fresh.no
      · intro p vs w' K hJ hp1 hp2 hS hR hK
        simp only [DepJ, List.getD_cons_zero, List.getD_cons_succ] at hJ
        obtain ⟨j9, j10, -⟩ := hJ
        have j9 := Eq1.out j9
        have j10 := Eq1.out j10
        simp only [j9, j10] at hK ⊢
        rw [if_pos (by rfl)]
        have C := Hp.facts hS
        simp only [Facts, factsL, and_true, true_and, Zp, Zq, Zr] at C
        have hsz := hR.1
        go_step
        refine (hDx _ (show Hp _ _ _ from hS).low).mono ?_
        rintro e' w'' ⟨rfl, hb⟩
        exact hK.out _ _ hb (Eq1.of (rfl)) Fresh.no
      · intro p vs w' K hJ hp1 hp2 hS hR hK
        simp only [DepJ, List.getD_cons_zero, List.getD_cons_succ] at hJ
        obtain ⟨j9, -⟩ := hJ
        have j9 := Eq1.out j9
        simp only [j9] at hK ⊢
        rw [if_pos (by rfl)]
        have C := Hp.facts hS
        simp only [Facts, factsL, and_true, true_and, Zp, Zq, Zr] at C
        have hsz := hR.1
        go_step
        exact hK.out _ _ (Below.refl _ _) Eq1.mk Fresh.no
      · intro p vs w' K hJ hp1 hp2 hS hR hK
        simp only [DepJ, List.getD_cons_zero, List.getD_cons_succ] at hJ
        obtain ⟨j9, j12, -⟩ := hJ
        have j9 := Eq1.out j9
        have j12 := Eq1.out j12
        simp only [j9, j12] at hK ⊢
        rw [if_pos (by rfl)]
        have C := Hp.facts hS
        simp only [Facts, factsL, and_true, true_and, Zp, Zq, Zr] at C
        have hsz := hR.1
        go_step
        refine (hDr _ (show Hp _ _ _ from hS).low).mono ?_
        rintro e' w'' ⟨rfl, hb⟩
        exact hK.out _ _ hb (Eq1.of (rfl)) Fresh.no
      · intro p vs w' K hJ hp1 hp2 hS hR hK
        simp only [DepJ, List.getD_cons_zero, List.getD_cons_succ] at hJ
        obtain ⟨j9, j11, j13, -⟩ := hJ
        have j9 := Eq1.out j9
        have j11 := Eq1.out j11
        have j13 := Eq1.out j13
        simp only [j9, j11, j13] at hK ⊢
        rw [if_pos (by rfl)]
        go_step
        exact hK.out _ _ (Below.refl _ _) (Eq1.of (by simp)) Fresh.no
      · intro p vs w' K hJ hp1 hp2 hS hR hK
        simp only [DepJ, List.getD_cons_zero, List.getD_cons_succ] at hJ
        obtain ⟨j9, j14, -⟩ := hJ
        have j9 := Eq1.out j9
        have j14 := Eq1.out j14
        simp only [j9, j14] at hK ⊢
        rw [if_pos (by rfl)]
        go_step
        exact hK.out _ _ (Below.refl _ _) Eq1.mk Fresh.no
      · intro p vs w' K hJ hp1 hp2 hS hR hK
        simp only [DepJ, List.getD_cons_zero, List.getD_cons_succ] at hJ
        obtain ⟨j15, -⟩ := hJ
        have j15 := Eq1.out j15
        simp only [j15] at hK ⊢
        rw [if_pos (by rfl)]
        go_step
        exact hK.out _ _ (Below.refl _ _) Eq1.mk Fresh.no
      · intro p vs w' K hJ hp1 hp2 hS hR hK
        simp only [DepJ, List.getD_cons_zero, List.getD_cons_succ] at hJ
        obtain ⟨j16, -⟩ := hJ
        have j16 := Eq1.out j16
        simp only [j16] at hK ⊢
        rw [if_pos (by rfl)]
        have C := Hp.facts hS
        simp only [Facts, factsL, and_true, true_and, Zp, Zq, Zr] at C
        have hsz := hR.1
        go_step
        exact hK.out _ _ (Below.refl _ _) Eq1.mk Fresh.no
      · intro p vs w' K hJ hp1 hp2 hS hR hK
        simp only [DepJ, List.getD_cons_zero, List.getD_cons_succ] at hJ
        obtain ⟨j16, j17, -⟩ := hJ
        have j16 := Eq1.out j16
        have j17 := Eq1.out j17
        simp only [j16, j17] at hK ⊢
        rw [if_pos (by rfl)]
        have C := Hp.facts hS
        simp only [Facts, factsL, and_true, true_and, Zp, Zq, Zr] at C
        have hsz := hR.1
        go_step
        refine (hSx _ (show Hp _ _ _ from hS).low).mono ?_
        rintro e' w'' ⟨rfl, hb⟩
        exact hK.out _ _ hb (Eq1.of (rfl)) Fresh.no
      · intro p vs w' K hJ hp1 hp2 hS hR hK
        simp only [DepJ, List.getD_cons_zero, List.getD_cons_succ] at hJ
        obtain ⟨j16, -⟩ := hJ
        have j16 := Eq1.out j16
        simp only [j16] at hK ⊢
        rw [if_pos (by rfl)]
        have C := Hp.facts hS
        simp only [Facts, factsL, and_true, true_and, Zp, Zq, Zr] at C
        have hsz := hR.1
        go_step
        exact hK.out _ _ (Below.refl _ _) Eq1.mk Fresh.no
      · intro p vs w' K hJ hp1 hp2 hS hR hK
        simp only [DepJ, List.getD_cons_zero, List.getD_cons_succ] at hJ
        obtain ⟨j16, j19, -⟩ := hJ
        have j16 := Eq1.out j16
        have j19 := Eq1.out j19
        simp only [j16, j19] at hK ⊢
        rw [if_pos (by rfl)]
        have C := Hp.facts hS
        simp only [Facts, factsL, and_true, true_and, Zp, Zq, Zr] at C
        have hsz := hR.1
        go_step
        refine (hSr _ (show Hp _ _ _ from hS).low).mono ?_
        rintro e' w'' ⟨rfl, hb⟩
        exact hK.out _ _ hb (Eq1.of (rfl)) Fresh.no
      · intro p vs w' K hJ hp1 hp2 hS hR hK
        simp only [DepJ, List.getD_cons_zero, List.getD_cons_succ] at hJ
        obtain ⟨j16, j18, j20, -⟩ := hJ
        have j16 := Eq1.out j16
        have j18 := Eq1.out j18
        have j20 := Eq1.out j20
        simp only [j16, j18, j20] at hK ⊢
        rw [if_pos (by rfl)]
        go_step
        exact hK.out _ _ (Below.refl _ _) (Eq1.of (by simp)) Fresh.no
      · intro p vs w' K hJ hp1 hp2 hS hR hK
        simp only [DepJ, List.getD_cons_zero, List.getD_cons_succ] at hJ
        obtain ⟨j16, j21, -⟩ := hJ
        have j16 := Eq1.out j16
        have j21 := Eq1.out j21
        simp only [j16, j21] at hK ⊢
        rw [if_pos (by rfl)]
        go_step
        exact hK.out _ _ (Below.refl _ _) Eq1.mk Fresh.no
      · intro p vs w' K hJ hp1 hp2 hS hR hK
        simp only [DepJ, List.getD_cons_zero, List.getD_cons_succ] at hJ
        obtain ⟨j22, -⟩ := hJ
        have j22 := Eq1.out j22
        simp only [j22] at hK ⊢
        rw [if_pos (by rfl)]
        go_step
        exact hK.out _ _ (Below.refl _ _) Eq1.mk Fresh.no
      · intro p vs w' K hJ hp1 hp2 hS hR hK
        simp only [DepJ, List.getD_cons_zero, List.getD_cons_succ] at hJ
        obtain ⟨j23, -⟩ := hJ
        have j23 := Eq1.out j23
        simp only [j23] at hK ⊢
        rw [if_pos (by rfl)]
        have C := Hp.facts hS
        simp only [Facts, factsL, and_true, true_and, Zp, Zq, Zr] at C
        have hsz := hR.1
        go_step
        exact hK.out _ _ (Below.refl _ _) Eq1.mk Fresh.no
      · intro p vs w' K hJ hp1 hp2 hS hR hK
        simp only [DepJ, List.getD_cons_zero, List.getD_cons_succ] at hJ
        obtain ⟨j23, j24, -⟩ := hJ
        have j23 := Eq1.out j23
        have j24 := Eq1.out j24
        simp only [j23, j24] at hK ⊢
        rw [if_pos (by rfl)]
        replace hS : Hp _ _ _ := hS
        have C := Hp.facts hS
        simp only [Facts, factsL, and_true, true_and, Zp, Zq, Zr] at C
        have hsz := hR.1
        go_step
        refine (hOf _ hS.low).mono ?_
        rintro e' w'' ⟨⟨cs2, rfl, ht2⟩, hb2⟩
        exact hK.out _ _ hb2 (TreeV.mk hS (Nat.le_refl _) hR.1 hb2 ht2) Fresh.no
      · intro p vs w' K hJ hp1 hp2 hS hR hK
        simp only [DepJ, List.getD_cons_zero, List.getD_cons_succ] at hJ
        obtain ⟨j23, -⟩ := hJ
        have j23 := Eq1.out j23
        simp only [j23] at hK ⊢
        rw [if_pos (by rfl)]
        have C := Hp.facts hS
        simp only [Facts, factsL, and_true, true_and, Zp, Zq, Zr] at C
        have hsz := hR.1
        go_step
        exact hK.out _ _ (Below.refl _ _) Eq1.mk Fresh.no
      · intro p vs w' K hJ hp1 hp2 hS hR hK
        simp only [DepJ, List.getD_cons_zero, List.getD_cons_succ] at hJ
        obtain ⟨j23, j25, j26, -⟩ := hJ
        have j23 := Eq1.out j23
        obtain ⟨x0, x1, x2, x3, x4, j25, t25⟩ := j25
        have j26 := Eq1.out j26
        simp only [j23, j25, j26] at hK ⊢
        rw [if_pos (by rfl)]
        replace hS : Hp _ _ _ := hS
        have C := Hp.facts hS
        simp only [Facts, factsL, and_true, true_and, Zp, Zq, Zr] at C
        have hsz := hR.1
        go_step
        refine (hSm _ hS.low _ _ (t25.out hS (Nat.le_refl _)).any).mono ?_
        rintro e' w'' ⟨rfl, hb2⟩
        exact hK.out _ _ hb2 Eq1.mk Fresh.no
      · intro p vs w' K hJ hp1 hp2 hS hR hK
        simp only [DepJ, List.getD_cons_zero, List.getD_cons_succ] at hJ
        obtain ⟨j23, j27, -⟩ := hJ
        have j23 := Eq1.out j23
        have j27 := Eq1.out j27
        simp only [j23, j27] at hK ⊢
        rw [if_pos (by rfl)]
        go_step
        exact hK.out _ _ (Below.refl _ _) (Eq1.of (by first | rfl | (simp; done) | (simp; omega))) Fresh.no
      · intro p vs w' K hJ hp1 hp2 hS hR hK
        simp only [DepJ, List.getD_cons_zero, List.getD_cons_succ] at hJ
        obtain ⟨j23, j28, -⟩ := hJ
        have j23 := Eq1.out j23
        have j28 := Eq1.out j28
        simp only [j23, j28] at hK ⊢
        rw [if_pos (by rfl)]
        go_step
        exact hK.out _ _ (Below.refl _ _) Eq1.mk Fresh.no
    case hst_2 => refine ⟨fun _ _ _ _ h => h, fun _ _ _ _ h => h, fun _ _ _ _ h => h, fun _ _ _ _ h => h, fun _ _ _ _ h => h, fun _ _ _ _ h => h, fun _ _ _ _ h => h, fun _ _ _ _ h => h, fun _ _ _ _ h => h, fun _ _ _ _ h => h, fun _ _ _ _ h => h, fun _ _ _ _ h => h, fun _ _ _ _ h => h, fun _ _ _ _ h => h, fun _ _ _ _ h => h, fun _ _ _ _ h => h, fun _ _ _ _ h => h, fun _ _ _ _ h => h, fun _ _ _ _ h => h, fun _ _ _ _ h => h, fun _ _ _ _ h => h, fun _ _ _ _ h => h, fun _ _ _ _ h => h, fun _ _ _ _ h => h, fun _ _ _ _ h => h, fun _ _ _ hs h => TreeV.stay hs h, fun _ _ _ _ h => h, fun _ _ _ _ h => h, fun _ _ _ _ h => h, fun _ _ _ _ h => h, trivial⟩
    intro vs w' hJ hD hS hR
    simp only [AllJ, Nat.reduceAdd] at hJ
    obtain ⟨v0, v1, v2, v3, v4, v5, v6, v7, v8, v9, v10, v11, v12, v13, v14, v15, v16, v17, v18, v19, v20, v21, v22, v23, v24, v25, v26, v27, v28, v29, -⟩ := hJ
    clear C
    replace v0 := Eq1.out v0
    replace v1 := Eq1.out v1
    replace v2 := Eq1.out v2
    replace v3 := Eq1.out v3
    replace v4 := Eq1.out v4
    replace v5 := Eq1.out v5
    replace v6 := Eq1.out v6
    replace v7 := Eq1.out v7
    replace v8 := Eq1.out v8
    replace v9 := Eq1.out v9
    replace v10 := Eq1.out v10
    replace v11 := Eq1.out v11
    replace v12 := Eq1.out v12
    replace v13 := Eq1.out v13
    replace v14 := Eq1.out v14
    replace v15 := Eq1.out v15
    replace v16 := Eq1.out v16
    replace v17 := Eq1.out v17
    replace v18 := Eq1.out v18
    replace v19 := Eq1.out v19
    replace v20 := Eq1.out v20
    replace v21 := Eq1.out v21
    replace v22 := Eq1.out v22
    replace v23 := Eq1.out v23
    replace v24 := Eq1.out v24
    replace v26 := Eq1.out v26
    replace v27 := Eq1.out v27
    replace v28 := Eq1.out v28
    replace v29 := Eq1.out v29
    obtain ⟨x0, x1, x2, x3, x4, e25, t25⟩ := v25
    simp only [v0, v1, v2, v3, v4, v5, v6, v7, v8, v9, v10, v11, v12, v13, v14, v15, v16, v17, v18, v19, v20, v21, v22, v23, v24, v26, v27, v28, v29, e25, List.drop_succ_cons, List.drop_zero]
    refine wpList_nil' ?_
    have H' : Hp _ _ _ := hS
    clear hD hR hS v0 v1 v2 v3 v4 v5 v6 v7 v8 v9 v10 v11 v12 v13 v14 v15 v16 v17 v18 v19 v20 v21 v22 v23 v24 v26 v27 v28 v29
    clear t25 e25
    clear vs H
    have H := H'; clear H'; have C := Hp.facts H; simp only [Facts, factsL, and_true, true_and, Zp, Zq, Zr] at C
    have H' := HO.step H.low
    clear HO CO H C hOf hSm hRi hDx hDr hSx hSr gxq gaq
    have H := H'
    clear H'
    have C := Hp.facts H
    simp only [Facts, factsL, and_true, true_and, Zp, Zq, Zr] at C
    have hRr2 := fun w1 (h : Below w.heap.size w w1) => rright7_any n t _ w1 ((gta.out.step h).any) (by omega)
    simp only [← hrf.out, hir] at hRr2
    clear hRr
    (repeat' ((fail_if_success (with_reducible show bodyPost _ _ _ _ _ _)); first | ((with_reducible refine Hp.abs_alloc H ?_); intro b' w' H' hb'; (try simp only [hb']); clear hb'; ((try simp only [Zp, Zq, Zr] at H'); clear C H; have H := H'; clear H'; have C := Hp.facts H; simp only [Facts, factsL, and_true, true_and, Zp, Zq, Zr] at C)) | ((with_reducible show wpList _ _ _ _ _ (World.setCell _ _ _)); (with_reducible apply Hp.abs_gen H); (first | (with_reducible (repeat apply Zt 0); exact H); (repeat rfl); intro w' H' | (with_reducible (repeat apply Zt 1); exact H); (repeat rfl); intro w' H' | (with_reducible (repeat apply Zt 2); exact H); (repeat rfl); intro w' H' | (with_reducible (repeat apply Zt 3); exact H); (repeat rfl); intro w' H' | (with_reducible (repeat apply Zt 4); exact H); (repeat rfl); intro w' H' | (with_reducible (repeat apply Zt 5); exact H); (repeat rfl); intro w' H' | (with_reducible (repeat apply Zt 6); exact H); (repeat rfl); intro w' H' | (with_reducible (repeat apply Zt 7); exact H); (repeat rfl); intro w' H'); ((try simp only [Zp, Zq, Zr] at H'); clear C H; have H := H'; clear H'; have C := Hp.facts H; simp only [Facts, factsL, and_true, true_and, Zp, Zq, Zr] at C)) | go_values | go_skip | go_guarded | go_step | go_upon | go_back | (simp only [Int.not_lt, Int.not_le] at *; go_simp) | (go_values <;> (try go_simp)) | (go_ite <;> go_prune <;> (try go_simp)) | (split <;> (first | (rename_i hx; exact (hx _ rfl).elim) | go_prune))))
    refine (hRr2 _ H.low).mono ?_
    (rintro e' w' ⟨rfl, hb'⟩; (have H' := Hp.step H hb'; clear hb'; ((try simp only [Zp, Zq, Zr] at H'); clear C H; have H := H'; clear H'; have C := Hp.facts H; simp only [Facts, factsL, and_true, true_and, Zp, Zq, Zr] at C)))
    (repeat' ((fail_if_success (with_reducible show bodyPost _ _ _ _ _ _)); first | ((with_reducible refine Hp.abs_alloc H ?_); intro b' w' H' hb'; (try simp only [hb']); clear hb'; ((try simp only [Zp, Zq, Zr] at H'); clear C H; have H := H'; clear H'; have C := Hp.facts H; simp only [Facts, factsL, and_true, true_and, Zp, Zq, Zr] at C)) | ((with_reducible show wpList _ _ _ _ _ (World.setCell _ _ _)); (with_reducible apply Hp.abs_gen H); (first | (with_reducible (repeat apply Zt 0); exact H); (repeat rfl); intro w' H' | (with_reducible (repeat apply Zt 1); exact H); (repeat rfl); intro w' H' | (with_reducible (repeat apply Zt 2); exact H); (repeat rfl); intro w' H' | (with_reducible (repeat apply Zt 3); exact H); (repeat rfl); intro w' H' | (with_reducible (repeat apply Zt 4); exact H); (repeat rfl); intro w' H' | (with_reducible (repeat apply Zt 5); exact H); (repeat rfl); intro w' H' | (with_reducible (repeat apply Zt 6); exact H); (repeat rfl); intro w' H' | (with_reducible (repeat apply Zt 7); exact H); (repeat rfl); intro w' H'); ((try simp only [Zp, Zq, Zr] at H'); clear C H; have H := H'; clear H'; have C := Hp.facts H; simp only [Facts, factsL, and_true, true_and, Zp, Zq, Zr] at C)) | go_values | go_skip | go_guarded | go_step | go_upon | go_back | (simp only [Int.not_lt, Int.not_le] at *; go_simp) | (go_values <;> (try go_simp)) | (go_ite <;> go_prune <;> (try go_simp)) | (split <;> (first | (rename_i hx; exact (hx _ rfl).elim) | go_prune))))
    refine (iparse_any WL _ _ (bs_row H 0 rfl) (by omega)).mono ?_
    rintro e' w3 ⟨-, h2, hb⟩
    obtain ⟨cy, rfl, hty⟩ := h2 t sp (by rw [← hWL.out]; exact hsp.out)
    clear h2
    obtain ⟨Oy, H2, gy⟩ := H.keepTree (Nat.zero_le _) hb hty
    obtain ⟨d0, d1, d2, d3, d4, rfl⟩ := five_of hty.len
    obtain ⟨y0, y1, y2, yA, yB, yk, yc, ym, yd, rfl, rfl, rfl, rfl, rfl⟩ := hty.forms
    replace gy := Kp.mk gy
    clear H C hty hb
    have H := H2
    clear H2
    simp only [List.cons_append, List.nil_append, List.append_assoc] at H
    have C := Hp.facts H
    simp only [Facts, factsL, and_true, true_and, Zp, Zq, Zr] at C
    (repeat' ((fail_if_success (with_reducible show bodyPost _ _ _ _ _ _)); first | ((with_reducible refine Hp.abs_alloc H ?_); intro b' w' H' hb'; (try simp only [hb']); clear hb'; ((try simp only [Zp, Zq, Zr] at H'); clear C H; have H := H'; clear H'; have C := Hp.facts H; simp only [Facts, factsL, and_true, true_and, Zp, Zq, Zr] at C)) | ((with_reducible show wpList _ _ _ _ _ (World.setCell _ _ _)); (with_reducible apply Hp.abs_gen H); (first | (with_reducible (repeat apply Zt 0); exact H); (repeat rfl); intro w' H' | (with_reducible (repeat apply Zt 1); exact H); (repeat rfl); intro w' H' | (with_reducible (repeat apply Zt 2); exact H); (repeat rfl); intro w' H' | (with_reducible (repeat apply Zt 3); exact H); (repeat rfl); intro w' H' | (with_reducible (repeat apply Zt 4); exact H); (repeat rfl); intro w' H' | (with_reducible (repeat apply Zt 5); exact H); (repeat rfl); intro w' H' | (with_reducible (repeat apply Zt 6); exact H); (repeat rfl); intro w' H' | (with_reducible (repeat apply Zt 7); exact H); (repeat rfl); intro w' H'); ((try simp only [Zp, Zq, Zr] at H'); clear C H; have H := H'; clear H'; have C := Hp.facts H; simp only [Facts, factsL, and_true, true_and, Zp, Zq, Zr] at C)) | go_values | go_skip | go_guarded | go_step | go_upon | go_back | (simp only [Int.not_lt, Int.not_le] at *; go_simp) | (go_values <;> (try go_simp)) | (go_ite <;> go_prune <;> (try go_simp)) | (split <;> (first | (rename_i hx; exact (hx _ rfl).elim) | go_prune))))
    obtain ⟨wq, rfl⟩ := Hp.nameW H
    have HO := H
    have CO := C
    have gyq := Kp.mk ((gy.out _ _ HO (fun x hx => by simp [hx])).weak (Q := (· < wq.heap.size)) fun b _ hl => hl)
    have gaq := Kp.mk ((gta.out.step HO.low).weak (Q := (· < wq.heap.size)) fun b _ hl => hl)
    have gbq := Kp.mk (bs_row HO 1 rfl)
    clear H C
    have H := Hp.start wq
    have C := Hp.facts H
    simp only [Facts, factsL, and_true, true_and, Zp, Zq, Zr] at C
    have hOf := fun w1 (h : Below wq.heap.size wq w1) => of7_any 32 t _ w1 wq.heap.size h.size (gyq.out.step h) (by omega)
    have hSm := fun w1 (h : Below wq.heap.size wq w1) (m2 : Nat) (cs2 : List Value) (h2 : ItN w1 m2 t cs2) => rtsame_any m2 t cs2 n t _ w1 h2 ((gaq.out.step h).any) (by omega) (by omega)
    have hPt := fun w1 (h : Below wq.heap.size wq w1) => rprint_any n t _ w1 ((gaq.out.step h).any) hsnd.out (by rw [hWL.out]; omega) (by omega)
    have hSb := fun w1 (h : Below wq.heap.size wq w1) v (hv : Bs w1 v WL) => same_any WL WL _ v w1 (gbq.out.step h) hv (by omega) (by omega)
    simp only [Tree.same_self] at hSm
    simp only [hWL.out] at hPt
    simp only [decide_true] at hSb
    try simp (disch := omega) only [decide_eq_true, decide_eq_false]
    obtain ⟨wR10p, rfl⟩ := Hp.nameW H
    apply region_n (frm wR10p.heap.size (fun _ => Hp _ _)) (frm_ok ?hfs_3) frm_sz [] [.light 0 0, .light 0 0, .light 0 0, .light 0 0, .light 0 0, .light 0 0, .light 0 0, .light 0 0, .light 0 0, .light 0 0, .light 0 0, .light 0 0, .light 0 0, .light 0 0, .light 0 0, .light 0 0, .light 0 0, .light 0 0, .light 0 0] [false, false, false, false, false, true, false, false, false, false, false, false, false, false, false, false, false, false, false] 19 82 [] [some 64, some 65, some 66, some 67, some 68, some 69, some 70, some 71, some 72, some 73, some 74, some 75, some 76, some 77, some 78, some 79, some 80, some 81, some 2] [[], [0], [1], [2], [2], [2, 4], [2, 3, 5], [2, 6], [7], [8], [8, 9], [8, 10], [11], [12], [12, 13], [12], [12, 14, 15], [12, 16], [17]] [Eq1 _, Eq1 (.bool true), Eq1 _, Eq1 _, Eq1 _, RowJ wR10p.heap.size _ _ _, Eq1 (.bool true), Eq1 _, Eq1 _, Eq1 _, Eq1 (.bool true), Eq1 _, Eq1 _, Eq1 _, (TreeV wR10p.heap.size wR10p.heap.size wR10p 32 t), Eq1 _, Eq1 (.bool true), Eq1 _, Eq1 _] ?hq1_3 ?hq2_3 ?hq3_3 ?hq4_3 ?hq5_3 ?hq6_3 _ ?hA_3 ?hst_3 ?h0_3 ?hsteps_3 ?hend_3
    case hq1_3 => kernel_rfl
    case hq2_3 => kernel_rfl
    case hq3_3 => kernel_rfl
    case hq5_3 => kernel_rfl
    case hq4_3 => rfl
    case hq6_3 => rfl
    case hA_3 => intro vs; simp only [fillD, Nat.reduceAdd, Act.put, List.setIfInBounds_toArray, List.set_cons_zero, List.set_cons_succ]; rfl
    case h0_3 => exact H.drew
    case hfs_3 => exact fun _ _ _ hb h => Hp.step h hb
    case hsteps_3 =>
      refine ⟨?_, ?_, ?_, ?_, ?_, ?_, ?_, ?_, ?_, ?_, ?_, ?_, ?_, ?_, ?_, ?_, ?_, ?_, ?_, trivial⟩
      · intro p vs w' K hJ hp1 hp2 hS hR hK
        rw [if_pos (by rfl)]
        go_step
        exact hK.out _ _ (Below.refl _ _) Eq1.mk Fresh.no
      · intro p vs w' K hJ hp1 hp2 hS hR hK
        simp only [DepJ, List.getD_cons_zero, List.getD_cons_succ] at hJ
        obtain ⟨j0, -⟩ := hJ
        have j0 := Eq1.out j0
        simp only [j0] at hK ⊢
        rw [if_pos (by rfl)]
        go_step
        exact hK.out _ _ (Below.refl _ _) (Eq1.of (by first | rfl | (simp; done) | (simp; omega))) Fresh.no
      · intro p vs w' K hJ hp1 hp2 hS hR hK
        simp only [DepJ, List.getD_cons_zero, List.getD_cons_succ] at hJ
        obtain ⟨j1, -⟩ := hJ
        have j1 := Eq1.out j1
        simp only [j1] at hK ⊢
        rw [if_pos (by rfl)]
        go_step
        exact hK.out _ _ (Below.refl _ _) Eq1.mk Fresh.no
      · intro p vs w' K hJ hp1 hp2 hS hR hK
        simp only [DepJ, List.getD_cons_zero, List.getD_cons_succ] at hJ
        obtain ⟨j2, -⟩ := hJ
        have j2 := Eq1.out j2
        simp only [j2] at hK ⊢
        rw [if_pos (by rfl)]
        go_step
        exact hK.out _ _ (Below.refl _ _) Eq1.mk Fresh.no
      · intro p vs w' K hJ hp1 hp2 hS hR hK
        simp only [DepJ, List.getD_cons_zero, List.getD_cons_succ] at hJ
        obtain ⟨j2, -⟩ := hJ
        have j2 := Eq1.out j2
        simp only [j2] at hK ⊢
        rw [if_pos (by rfl)]
        have C := Hp.facts hS
        simp only [Facts, factsL, and_true, true_and, Zp, Zq, Zr] at C
        have hsz := hR.1
        go_step
        exact hK.out _ _ (Below.refl _ _) Eq1.mk Fresh.no
      · intro p vs w' K hJ hp1 hp2 hS hR hK
        simp only [DepJ, List.getD_cons_zero, List.getD_cons_succ] at hJ
        obtain ⟨j2, j4, -⟩ := hJ
        have j2 := Eq1.out j2
        have j4 := Eq1.out j4
        simp only [j2, j4] at hK ⊢
        rw [if_pos (by rfl)]
        have C := Hp.facts hS
        simp only [Facts, factsL, and_true, true_and, Zp, Zq, Zr] at C
        have hsz := hR.1
        go_step
        refine (hPt _ (show Hp _ _ _ from hS).low).mono ?_
        rintro e' w'' ⟨⟨v', rfl, ho⟩, hb⟩
        exact hK.out _ _ hb (RowJ.mk hR.1 ho) (Fresh.row ho)
      · intro p vs w' K hJ hp1 hp2 hS hR hK
        simp only [DepJ, List.getD_cons_zero, List.getD_cons_succ] at hJ
        obtain ⟨j2, j3, j5, -⟩ := hJ
        have j2 := Eq1.out j2
        have j3 := Eq1.out j3
        have jo5 := j5
        obtain ⟨A5, c5, j5⟩ := Go.LawLift.own_form jo5
        rw [j5] at jo5
        simp only [j2, j3, j5] at hK ⊢
        rw [if_pos (by rfl)]
        have C := Hp.facts hS
        simp only [Facts, factsL, and_true, true_and, Zp, Zq, Zr] at C
        have hsz := hR.1
        go_step
        refine (hSb _ (show Hp _ _ _ from hS).low _ jo5.bs).mono ?_
        rintro e' w'' ⟨rfl, hb⟩
        exact hK.out _ _ hb (Eq1.of (rfl)) Fresh.no
      · intro p vs w' K hJ hp1 hp2 hS hR hK
        simp only [DepJ, List.getD_cons_zero, List.getD_cons_succ] at hJ
        obtain ⟨j2, j6, -⟩ := hJ
        have j2 := Eq1.out j2
        have j6 := Eq1.out j6
        simp only [j2, j6] at hK ⊢
        rw [if_pos (by rfl)]
        go_step
        exact hK.out _ _ (Below.refl _ _) Eq1.mk Fresh.no
      · intro p vs w' K hJ hp1 hp2 hS hR hK
        simp only [DepJ, List.getD_cons_zero, List.getD_cons_succ] at hJ
        obtain ⟨j7, -⟩ := hJ
        have j7 := Eq1.out j7
        simp only [j7] at hK ⊢
        rw [if_pos (by rfl)]
        go_step
        exact hK.out _ _ (Below.refl _ _) Eq1.mk Fresh.no
      · intro p vs w' K hJ hp1 hp2 hS hR hK
        simp only [DepJ, List.getD_cons_zero, List.getD_cons_succ] at hJ
        obtain ⟨j8, -⟩ := hJ
        have j8 := Eq1.out j8
        simp only [j8] at hK ⊢
        rw [if_pos (by rfl)]
        go_step
        exact hK.out _ _ (Below.refl _ _) Eq1.mk Fresh.no
      · intro p vs w' K hJ hp1 hp2 hS hR hK
        simp only [DepJ, List.getD_cons_zero, List.getD_cons_succ] at hJ
        obtain ⟨j8, j9, -⟩ := hJ
        have j8 := Eq1.out j8
        have j9 := Eq1.out j9
        simp only [j8, j9] at hK ⊢
        rw [if_pos (by rfl)]
        go_step
        exact hK.out _ _ (Below.refl _ _) (Eq1.of (by first | rfl | (simp; done) | (simp; omega))) Fresh.no
      · intro p vs w' K hJ hp1 hp2 hS hR hK
        simp only [DepJ, List.getD_cons_zero, List.getD_cons_succ] at hJ
        obtain ⟨j8, j10, -⟩ := hJ
        have j8 := Eq1.out j8
        have j10 := Eq1.out j10
        simp only [j8, j10] at hK ⊢
        rw [if_pos (by rfl)]
        go_step
        exact hK.out _ _ (Below.refl _ _) Eq1.mk Fresh.no
      · intro p vs w' K hJ hp1 hp2 hS hR hK
        simp only [DepJ, List.getD_cons_zero, List.getD_cons_succ] at hJ
        obtain ⟨j11, -⟩ := hJ
        have j11 := Eq1.out j11
        simp only [j11] at hK ⊢
        rw [if_pos (by rfl)]
        go_step
        exact hK.out _ _ (Below.refl _ _) Eq1.mk Fresh.no
      · intro p vs w' K hJ hp1 hp2 hS hR hK
        simp only [DepJ, List.getD_cons_zero, List.getD_cons_succ] at hJ
        obtain ⟨j12, -⟩ := hJ
        have j12 := Eq1.out j12
        simp only [j12] at hK ⊢
        rw [if_pos (by rfl)]
        have C := Hp.facts hS
        simp only [Facts, factsL, and_true, true_and, Zp, Zq, Zr] at C
        have hsz := hR.1
        go_step
        exact hK.out _ _ (Below.refl _ _) Eq1.mk Fresh.no
      · intro p vs w' K hJ hp1 hp2 hS hR hK
        simp only [DepJ, List.getD_cons_zero, List.getD_cons_succ] at hJ
        obtain ⟨j12, j13, -⟩ := hJ
        have j12 := Eq1.out j12
        have j13 := Eq1.out j13
        simp only [j12, j13] at hK ⊢
        rw [if_pos (by rfl)]
        replace hS : Hp _ _ _ := hS
        have C := Hp.facts hS
        simp only [Facts, factsL, and_true, true_and, Zp, Zq, Zr] at C
        have hsz := hR.1
        go_step
        refine (hOf _ hS.low).mono ?_
        rintro e' w'' ⟨⟨cs2, rfl, ht2⟩, hb2⟩
        exact hK.out _ _ hb2 (TreeV.mk hS (Nat.le_refl _) hR.1 hb2 ht2) Fresh.no
      · intro p vs w' K hJ hp1 hp2 hS hR hK
        simp only [DepJ, List.getD_cons_zero, List.getD_cons_succ] at hJ
        obtain ⟨j12, -⟩ := hJ
        have j12 := Eq1.out j12
        simp only [j12] at hK ⊢
        rw [if_pos (by rfl)]
        have C := Hp.facts hS
        simp only [Facts, factsL, and_true, true_and, Zp, Zq, Zr] at C
        have hsz := hR.1
        go_step
        exact hK.out _ _ (Below.refl _ _) Eq1.mk Fresh.no
      · intro p vs w' K hJ hp1 hp2 hS hR hK
        simp only [DepJ, List.getD_cons_zero, List.getD_cons_succ] at hJ
        obtain ⟨j12, j14, j15, -⟩ := hJ
        have j12 := Eq1.out j12
        obtain ⟨x0, x1, x2, x3, x4, j14, t14⟩ := j14
        have j15 := Eq1.out j15
        simp only [j12, j14, j15] at hK ⊢
        rw [if_pos (by rfl)]
        replace hS : Hp _ _ _ := hS
        have C := Hp.facts hS
        simp only [Facts, factsL, and_true, true_and, Zp, Zq, Zr] at C
        have hsz := hR.1
        go_step
        refine (hSm _ hS.low _ _ (t14.out hS (Nat.le_refl _)).any).mono ?_
        rintro e' w'' ⟨rfl, hb2⟩
        exact hK.out _ _ hb2 Eq1.mk Fresh.no
      · intro p vs w' K hJ hp1 hp2 hS hR hK
        simp only [DepJ, List.getD_cons_zero, List.getD_cons_succ] at hJ
        obtain ⟨j12, j16, -⟩ := hJ
        have j12 := Eq1.out j12
        have j16 := Eq1.out j16
        simp only [j12, j16] at hK ⊢
        rw [if_pos (by rfl)]
        go_step
        exact hK.out _ _ (Below.refl _ _) Eq1.mk Fresh.no
      · intro p vs w' K hJ hp1 hp2 hS hR hK
        simp only [DepJ, List.getD_cons_zero, List.getD_cons_succ] at hJ
        obtain ⟨j17, -⟩ := hJ
        have j17 := Eq1.out j17
        simp only [j17] at hK ⊢
        rw [if_pos (by rfl)]
        go_step
        exact hK.out _ _ (Below.refl _ _) Eq1.mk Fresh.no
    case hst_3 => refine ⟨fun _ _ _ _ h => h, fun _ _ _ _ h => h, fun _ _ _ _ h => h, fun _ _ _ _ h => h, fun _ _ _ _ h => h, fun _ _ _ hs h => RowJ.stay hs h, fun _ _ _ _ h => h, fun _ _ _ _ h => h, fun _ _ _ _ h => h, fun _ _ _ _ h => h, fun _ _ _ _ h => h, fun _ _ _ _ h => h, fun _ _ _ _ h => h, fun _ _ _ _ h => h, fun _ _ _ hs h => TreeV.stay hs h, fun _ _ _ _ h => h, fun _ _ _ _ h => h, fun _ _ _ _ h => h, fun _ _ _ _ h => h, trivial⟩
    intro vs w' hJ hD hS hR
    simp only [AllJ, Nat.reduceAdd] at hJ
    obtain ⟨v0, v1, v2, v3, v4, v5, v6, v7, v8, v9, v10, v11, v12, v13, v14, v15, v16, v17, v18, -⟩ := hJ
    clear C
    replace v0 := Eq1.out v0
    replace v1 := Eq1.out v1
    replace v2 := Eq1.out v2
    replace v3 := Eq1.out v3
    replace v4 := Eq1.out v4
    replace v6 := Eq1.out v6
    replace v7 := Eq1.out v7
    replace v8 := Eq1.out v8
    replace v9 := Eq1.out v9
    replace v10 := Eq1.out v10
    replace v11 := Eq1.out v11
    replace v12 := Eq1.out v12
    replace v13 := Eq1.out v13
    replace v15 := Eq1.out v15
    replace v16 := Eq1.out v16
    replace v17 := Eq1.out v17
    replace v18 := Eq1.out v18
    obtain ⟨A5, c5, e5⟩ := Go.LawLift.own_form v5
    replace v5 := (show World.ownsRow _ _ _ _ _ _ _ from v5)
    rw [e5] at v5
    obtain ⟨x0, x1, x2, x3, x4, e14, t14⟩ := v14
    simp only [v0, v1, v2, v3, v4, v6, v7, v8, v9, v10, v11, v12, v13, v15, v16, v17, v18, e5, e14, List.drop_succ_cons, List.drop_zero]
    refine wpList_nil' ?_
    replace hS : Hp _ _ _ := hS
    have H' := Hp.adopts hS H.low.size (fun k hk => Hp.lows H k hk) [.row _ 1 (.slice A5 _ c5) _ _] (by intro x hx; simp only [List.mem_cons, List.not_mem_nil, or_false] at hx; subst hx; exact v5) (nodup1 _)
    simp only [List.cons_append, List.nil_append] at H'
    clear hD hR hS v0 v1 v2 v3 v4 v5 v6 v7 v8 v9 v10 v11 v12 v13 v15 v16 v17 v18
    clear e5
    clear t14 e14
    clear vs H
    have H := H'; clear H'; have C := Hp.facts H; simp only [Facts, factsL, and_true, true_and, Zp, Zq, Zr] at C
    have H' := HO.step H.low
    clear HO CO H C
    have H := H'
    clear H'
    have C := Hp.facts H
    simp only [Facts, factsL, and_true, true_and, Zp, Zq, Zr] at C
    (repeat' ((fail_if_success (with_reducible show bodyPost _ _ _ _ _ _)); first | ((with_reducible refine Hp.abs_alloc H ?_); intro b' w' H' hb'; (try simp only [hb']); clear hb'; ((try simp only [Zp, Zq, Zr] at H'); clear C H; have H := H'; clear H'; have C := Hp.facts H; simp only [Facts, factsL, and_true, true_and, Zp, Zq, Zr] at C)) | ((with_reducible show wpList _ _ _ _ _ (World.setCell _ _ _)); (with_reducible apply Hp.abs_gen H); (first | (with_reducible (repeat apply Zt 0); exact H); (repeat rfl); intro w' H' | (with_reducible (repeat apply Zt 1); exact H); (repeat rfl); intro w' H' | (with_reducible (repeat apply Zt 2); exact H); (repeat rfl); intro w' H' | (with_reducible (repeat apply Zt 3); exact H); (repeat rfl); intro w' H' | (with_reducible (repeat apply Zt 4); exact H); (repeat rfl); intro w' H' | (with_reducible (repeat apply Zt 5); exact H); (repeat rfl); intro w' H' | (with_reducible (repeat apply Zt 6); exact H); (repeat rfl); intro w' H' | (with_reducible (repeat apply Zt 7); exact H); (repeat rfl); intro w' H'); ((try simp only [Zp, Zq, Zr] at H'); clear C H; have H := H'; clear H'; have C := Hp.facts H; simp only [Facts, factsL, and_true, true_and, Zp, Zq, Zr] at C)) | go_values | go_skip | go_guarded | go_step | go_upon | go_back | (simp only [Int.not_lt, Int.not_le] at *; go_simp) | (go_values <;> (try go_simp)) | (go_ite <;> go_prune <;> (try go_simp)) | (split <;> (first | (rename_i hx; exact (hx _ rfl).elim) | go_prune))))
    go_ret
    exact ⟨rfl, H.low⟩
theorem itemPrints_any (n : Nat) (t : Tree) (cs : List Value) (w : World) (hta : ItN w n t cs) (hft : t.Fit) :
    Calls Try.prog 7 #[.agg cs.toArray] w fun e w' => e = .returned (.bool true) ∧ Below w.heap.size w w' := itemPrints_core n t cs w (hta.weak fun b _ h => h) hft
end Go.Proofs.Ytogliinfdfkobaa

