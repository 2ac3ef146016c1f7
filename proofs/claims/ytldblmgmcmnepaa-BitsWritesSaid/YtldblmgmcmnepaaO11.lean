/- Lemmas and walks on the way to the seat's laws; each theorem says its own conditions. -/
import Derived.Test.YtldblmgmcmnepaaO10
set_option linter.unusedSimpArgs false
set_option linter.unusedVariables false
set_option linter.unusedSimpArgs false
set_option linter.unusedVariables false
set_option maxRecDepth 100000
namespace Go.Proofs.Ytldblmgmcmnepaa
open Go.RowKit Go.Mem Go.Reg Oct
/-- What making a cursor tells: a new block with a row of its own. -/
def NewCur (w w' : World) (q : Nat) (v : Value) (l : List UInt8) : Prop :=
  w'.heap[q]? = some (.cells #[v, .int .i64 0] 140 (0, 0)) ∧ w.heap.size ≤ q ∧ w'.ownsRow w.heap.size 5 1 v l.length (l.map u8c) ∧ v.ownBlock ≠ some q
set_option maxHeartbeats 1000000 in
theorem take_big (b : Nat) (l : List UInt8) (k : Nat) (v : Value) (n : Int) (h0 : 0 ≤ n) (h1 : (l.length : Int) - (k : Int) < n) (w : World) (h : Cur w b l k v) :
    Calls Try.prog 54 #[.pointer (some ⟨b, 0, none⟩), .int .i64 n] w fun e w' => e = .returned (.tuple #[.slice none 0 0, .int .i64 3]) ∧ Below w.heap.size w w' := by
  have c0 := h.c0
  have c1 := h.c1
  have hbl := h.lt
  have hk := h.le
  have hl := h.len
  have hbs := h.bs
  have hfz := h.fz
  obtain ⟨A, c, rfl, hlc, hcm, hA, hcell⟩ := h.bs.open
  have H := Hp.start w
  have C : True := trivial
  go_enter Try.func54, Try.ntmps54
  (repeat' ((fail_if_success (with_reducible show bodyPost _ _ _ _ _ _)); first | ((with_reducible refine Hp.abs_alloc H ?_); intro b' w' H' hb'; (try simp only [hb']); clear hb'; ((try simp only [z0, z1, z2] at H'); clear C H; have H := H'; clear H'; have C := Hp.facts H; simp only [Facts, factsL, and_true, true_and, z0, z1, z2] at C)) | ((with_reducible show wpList _ _ _ _ _ (World.setCell _ _ _)); (with_reducible apply Hp.abs_gen H); (first | ((repeat (with_reducible apply Hp.set' 0)); (with_reducible exact H); (repeat rfl); intro w' H') | ((repeat (with_reducible apply Hp.set' 1)); (with_reducible exact H); (repeat rfl); intro w' H') | ((repeat (with_reducible apply Hp.set' 2)); (with_reducible exact H); (repeat rfl); intro w' H') | ((repeat (with_reducible apply Hp.set' 3)); (with_reducible exact H); (repeat rfl); intro w' H') | ((repeat (with_reducible apply Hp.set' 4)); (with_reducible exact H); (repeat rfl); intro w' H') | ((repeat (with_reducible apply Hp.set' 5)); (with_reducible exact H); (repeat rfl); intro w' H') | ((repeat (with_reducible apply Hp.set' 6)); (with_reducible exact H); (repeat rfl); intro w' H') | ((repeat (with_reducible apply Hp.set' 7)); (with_reducible exact H); (repeat rfl); intro w' H')); ((try simp only [z0, z1, z2] at H'); clear C H; have H := H'; clear H'; have C := Hp.facts H; simp only [Facts, factsL, and_true, true_and, z0, z1, z2] at C)) | (go_at_call 99; refine (may_big b l k _ _ h0 h1 _ (h.step H.low)).mono ?_; rintro e' w' ⟨rfl, hb'⟩; (have H' := Hp.step H hb'; clear hb'; ((try simp only [z0, z1, z2] at H'); clear C H; have H := H'; clear H'; have C := Hp.facts H; simp only [Facts, factsL, and_true, true_and, z0, z1, z2] at C))) | go_values | go_skip | go_guarded | go_step | go_upon | go_back | (simp only [Int.not_lt, Int.not_le] at *; go_simp) | (go_values <;> (try go_simp)) | (go_ite <;> go_prune <;> (try go_simp)) | (split <;> (first | (rename_i hx; exact (hx _ rfl).elim) | go_prune))))
  go_ret2
  exact ⟨rfl, H.low⟩
set_option maxHeartbeats 1000000 in
theorem sub_big (b : Nat) (l : List UInt8) (k : Nat) (v : Value) (n : Int) (h0 : 0 ≤ n) (h1 : (l.length : Int) - (k : Int) < n) (w : World) (h : Cur w b l k v) :
    Calls Try.prog 105 #[.pointer (some ⟨b, 0, none⟩), .int .i64 n] w fun e w' => e = .returned (.tuple #[.pointer none, .int .i64 3]) ∧ Below w.heap.size w w' := by
  have c0 := h.c0
  have c1 := h.c1
  have hbl := h.lt
  have hk := h.le
  have hl := h.len
  have hbs := h.bs
  have hfz := h.fz
  obtain ⟨A, c, rfl, hlc, hcm, hA, hcell⟩ := h.bs.open
  have H := Hp.start w
  have C : True := trivial
  go_enter Try.func105, Try.ntmps105
  (repeat' ((fail_if_success (with_reducible show bodyPost _ _ _ _ _ _)); first | ((with_reducible refine Hp.abs_alloc H ?_); intro b' w' H' hb'; (try simp only [hb']); clear hb'; ((try simp only [z0, z1, z2] at H'); clear C H; have H := H'; clear H'; have C := Hp.facts H; simp only [Facts, factsL, and_true, true_and, z0, z1, z2] at C)) | ((with_reducible show wpList _ _ _ _ _ (World.setCell _ _ _)); (with_reducible apply Hp.abs_gen H); (first | ((repeat (with_reducible apply Hp.set' 0)); (with_reducible exact H); (repeat rfl); intro w' H') | ((repeat (with_reducible apply Hp.set' 1)); (with_reducible exact H); (repeat rfl); intro w' H') | ((repeat (with_reducible apply Hp.set' 2)); (with_reducible exact H); (repeat rfl); intro w' H') | ((repeat (with_reducible apply Hp.set' 3)); (with_reducible exact H); (repeat rfl); intro w' H') | ((repeat (with_reducible apply Hp.set' 4)); (with_reducible exact H); (repeat rfl); intro w' H') | ((repeat (with_reducible apply Hp.set' 5)); (with_reducible exact H); (repeat rfl); intro w' H') | ((repeat (with_reducible apply Hp.set' 6)); (with_reducible exact H); (repeat rfl); intro w' H') | ((repeat (with_reducible apply Hp.set' 7)); (with_reducible exact H); (repeat rfl); intro w' H')); ((try simp only [z0, z1, z2] at H'); clear C H; have H := H'; clear H'; have C := Hp.facts H; simp only [Facts, factsL, and_true, true_and, z0, z1, z2] at C)) | (go_at_call 54; refine (take_big b l k _ _ h0 h1 _ (h.step H.low)).mono ?_; rintro e' w' ⟨rfl, hb'⟩; (have H' := Hp.step H hb'; clear hb'; ((try simp only [z0, z1, z2] at H'); clear C H; have H := H'; clear H'; have C := Hp.facts H; simp only [Facts, factsL, and_true, true_and, z0, z1, z2] at C))) | go_values | go_skip | go_guarded | go_step | go_upon | go_back | (simp only [Int.not_lt, Int.not_le] at *; go_simp) | (go_values <;> (try go_simp)) | (go_ite <;> go_prune <;> (try go_simp)) | (split <;> (first | (rename_i hx; exact (hx _ rfl).elim) | go_prune))))
  go_ret2
  exact ⟨rfl, H.low⟩
set_option maxHeartbeats 2000000 in
theorem rest_any (b : Nat) (l : List UInt8) (k : Nat) (v : Value) (w : World) (h : Cur w b l k v) :
    Calls Try.prog 66 #[.pointer (some ⟨b, 0, none⟩)] w fun e w' => ∃ v', e = .returned v' ∧ w'.ownsRow w.heap.size 5 1 v' (l.length - k) ((l.drop k).map u8c) ∧ Moved w b v l.length w' := by
  have c0 := h.c0
  have c1 := h.c1
  have hbl := h.lt
  have hk := h.le
  have hl := h.len
  have hbs := h.bs
  have hfz := h.fz
  obtain ⟨A, c, rfl, hlc, hcm, hA, hcell⟩ := h.bs.open
  have H := Hp.start w
  have C : True := trivial
  obtain ⟨n, hn⟩ : ∃ n, n = l.length - k := ⟨_, rfl⟩
  have hkn : k + n = l.length := by omega
  have hdr : ((l.drop k).take n) = l.drop k := List.take_of_length_le (by simp; omega)
  have gn := Lib.hid hn
  have gkn := Lib.hid hkn
  have gdr := Lib.hid hdr
  have hle : k + n ≤ l.length := by omega
  clear hn hkn hdr
  go_enter Try.func66, Try.ntmps66
  (repeat' ((fail_if_success (with_reducible show bodyPost _ _ _ _ _ _)); first | ((with_reducible refine Hp.abs_alloc H ?_); intro b' w' H' hb'; (try simp only [hb']); clear hb'; ((try simp only [z0, z1, z2] at H'); clear C H; have H := H'; clear H'; have C := Hp.facts H; simp only [Facts, factsL, and_true, true_and, z0, z1, z2] at C)) | ((with_reducible show wpList _ _ _ _ _ (World.setCell _ _ _)); (with_reducible apply Hp.abs_gen H); (first | ((repeat (with_reducible apply Hp.set' 0)); (with_reducible exact H); (repeat rfl); intro w' H') | ((repeat (with_reducible apply Hp.set' 1)); (with_reducible exact H); (repeat rfl); intro w' H') | ((repeat (with_reducible apply Hp.set' 2)); (with_reducible exact H); (repeat rfl); intro w' H') | ((repeat (with_reducible apply Hp.set' 3)); (with_reducible exact H); (repeat rfl); intro w' H') | ((repeat (with_reducible apply Hp.set' 4)); (with_reducible exact H); (repeat rfl); intro w' H') | ((repeat (with_reducible apply Hp.set' 5)); (with_reducible exact H); (repeat rfl); intro w' H') | ((repeat (with_reducible apply Hp.set' 6)); (with_reducible exact H); (repeat rfl); intro w' H') | ((repeat (with_reducible apply Hp.set' 7)); (with_reducible exact H); (repeat rfl); intro w' H')); ((try simp only [z0, z1, z2] at H'); clear C H; have H := H'; clear H'; have C := Hp.facts H; simp only [Facts, factsL, and_true, true_and, z0, z1, z2] at C)) | go_values | go_skip | go_guarded | go_step | go_upon | go_back | (simp only [Int.not_lt, Int.not_le] at *; go_simp) | (go_values <;> (try go_simp)) | (go_ite <;> go_prune <;> (try go_simp)) | (split <;> (first | (rename_i hx; exact (hx _ rfl).elim) | go_prune))))
  obtain ⟨w3, rfl⟩ := Hp.nameW H
  refine region_bt 12 26 [12, 12, 12, 12, 12, 12, 12, 12, 12, 12, 12, 12] [some 6, some 7, some 8, some 9, some 10, some 11, some 12, some 13, some 14, some 15, some 16, some 17] [[], [0], [1], [], [3], [4], [5], [], [7], [8], [9], [2, 6, 10]] [fun v _ => v = .pointer (some ⟨b, 0, none⟩), fun v _ => v = .pointer (some ⟨b, 0, none⟩), fun v _ => v = .pointer (some ⟨b, 0, none⟩), fun v _ => v = .pointer (some ⟨b, 0, none⟩), fun v _ => v = .pointer (some ⟨b, 0, none⟩), fun v _ => v = .pointer (some ⟨b, 1, none⟩), fun v _ => v = .int .i64 (k : Int), fun v _ => v = .pointer (some ⟨b, 0, none⟩), fun v _ => v = .pointer (some ⟨b, 0, none⟩), fun v _ => v = .pointer (some ⟨b, 0, none⟩), fun v _ => v = .int .i64 ((k + n : Nat) : Int), fun v w => w.ownsRow w3.heap.size 5 1 v n (((l.drop k).take n).map u8c)] (by kernel_rfl) (by kernel_rfl) (by kernel_rfl) rfl (by kernel_rfl) rfl _ (fun vs => (by simp only [fillD, Nat.reduceAdd, Act.put, List.setIfInBounds_toArray, List.set_cons_zero, List.set_cons_succ]; rfl)) ?_ ?_ ?_
  · refine ⟨fun _ _ _ _ h => h, fun _ _ _ _ h => h, fun _ _ _ _ h => h, fun _ _ _ _ h => h, fun _ _ _ _ h => h, fun _ _ _ _ h => h, fun _ _ _ _ h => h, fun _ _ _ _ h => h, fun _ _ _ _ h => h, fun _ _ _ _ h => h, fun _ _ _ _ h => h, fun _ _ _ hr h => Go.Mem.owns_step h hr, trivial⟩
  · refine ⟨?_, ?_, ?_, ?_, ?_, ?_, ?_, ?_, ?_, ?_, ?_, ?_, trivial⟩
    · intro vs w' K hJ hR hK
      rw [if_pos (by rfl)]
      go_step
      exact hK.out _ _ (Below.refl _ _) (rfl)
    · intro vs w' K hJ hR hK
      simp only [DepJ, List.getD_cons_zero, List.getD_cons_succ] at hJ
      obtain ⟨j0, -⟩ := hJ
      simp only [j0] at hK ⊢
      rw [if_pos (by rfl)]
      go_step
      exact hK.out _ _ (Below.refl _ _) (rfl)
    · intro vs w' K hJ hR hK
      simp only [DepJ, List.getD_cons_zero, List.getD_cons_succ] at hJ
      obtain ⟨j1, -⟩ := hJ
      simp only [j1] at hK ⊢
      rw [if_pos (by rfl)]
      go_step
      exact hK.out _ _ (Below.refl _ _) (rfl)
    · intro vs w' K hJ hR hK
      rw [if_pos (by rfl)]
      go_step
      exact hK.out _ _ (Below.refl _ _) (rfl)
    · intro vs w' K hJ hR hK
      simp only [DepJ, List.getD_cons_zero, List.getD_cons_succ] at hJ
      obtain ⟨j3, -⟩ := hJ
      simp only [j3] at hK ⊢
      rw [if_pos (by rfl)]
      go_step
      exact hK.out _ _ (Below.refl _ _) (rfl)
    · intro vs w' K hJ hR hK
      simp only [DepJ, List.getD_cons_zero, List.getD_cons_succ] at hJ
      obtain ⟨j4, -⟩ := hJ
      simp only [j4] at hK ⊢
      rw [if_pos (by rfl)]
      go_step
      exact hK.out _ _ (Below.refl _ _) (rfl)
    · intro vs w' K hJ hR hK
      simp only [DepJ, List.getD_cons_zero, List.getD_cons_succ] at hJ
      obtain ⟨j5, -⟩ := hJ
      simp only [j5] at hK ⊢
      rw [if_pos (by rfl)]
      have C := Hp.facts (Hp.step H.drew hR)
      simp only [Facts, factsL, and_true, true_and, z0, z1, z2] at C
      have hl1 := hbl
      go_step
      exact hK.out _ _ (Below.refl _ _) rfl
    · intro vs w' K hJ hR hK
      rw [if_pos (by rfl)]
      go_step
      exact hK.out _ _ (Below.refl _ _) (rfl)
    · intro vs w' K hJ hR hK
      simp only [DepJ, List.getD_cons_zero, List.getD_cons_succ] at hJ
      obtain ⟨j7, -⟩ := hJ
      simp only [j7] at hK ⊢
      rw [if_pos (by rfl)]
      go_step
      exact hK.out _ _ (Below.refl _ _) (rfl)
    · intro vs w' K hJ hR hK
      simp only [DepJ, List.getD_cons_zero, List.getD_cons_succ] at hJ
      obtain ⟨j8, -⟩ := hJ
      simp only [j8] at hK ⊢
      rw [if_pos (by rfl)]
      go_step
      exact hK.out _ _ (Below.refl _ _) (rfl)
    · intro vs w' K hJ hR hK
      simp only [DepJ, List.getD_cons_zero, List.getD_cons_succ] at hJ
      obtain ⟨j9, -⟩ := hJ
      simp only [j9] at hK ⊢
      rw [if_pos (by rfl)]
      go_step
      refine (size_any (.slice A l.length c) l A c b w' rfl (((Hp.step H.drew hR).low.cell hbl).trans c0)).mono ?_
      rintro e' w'' ⟨rfl, rfl⟩
      exact hK.out _ _ (BelowR.refl _) (by rw [gkn.out])
    · intro vs w' K hJ hR hK
      simp only [DepJ, List.getD_cons_zero, List.getD_cons_succ] at hJ
      obtain ⟨j2, j6, j10, -⟩ := hJ
      simp only [j2, j6, j10] at hK ⊢
      rw [if_pos (by rfl)]
      go_step
      refine (cut_n b l _ k n hle w' ((Hp.step H.drew hR).bs hbs) hl (((Hp.step H.drew hR).low.cell hbl).trans c0)).mono ?_
      rintro e' w'' ⟨⟨v', rfl, ho⟩, hb⟩
      exact hK.out _ _ hb ⟨ho.1, ho.2.imp id fun ⟨g, cap, cur, e1, e2, r⟩ => ⟨g, cap, cur, e1, Nat.le_trans hR.size e2, r⟩⟩
  intro vs w' hJ hR
  simp only [AllJ, Nat.reduceAdd] at hJ
  obtain ⟨v0, v1, v2, v3, v4, v5, v6, v7, v8, v9, v10, v11, -⟩ := hJ
  simp only [List.drop_succ_cons, List.drop_zero]
  have H' := Hp.adopt H.drew hR (.row 5 1 (vs 11) n (((l.drop k).take n).map u8c)) v11
  ((try simp only [z0, z1, z2] at H'); clear C H; have H := H'; clear H'; have C := Hp.facts H; simp only [Facts, factsL, and_true, true_and, z0, z1, z2] at C)
  generalize vs 11 = v' at *
  clear v0 v1 v2 v3 v4 v5 v6 v7 v8 v9 v10 v11
  (repeat' ((fail_if_success (with_reducible show bodyPost _ _ _ _ _ _)); first | ((with_reducible refine Hp.abs_alloc H ?_); intro b' w' H' hb'; (try simp only [hb']); clear hb'; ((try simp only [z0, z1, z2] at H'); clear C H; have H := H'; clear H'; have C := Hp.facts H; simp only [Facts, factsL, and_true, true_and, z0, z1, z2] at C)) | ((with_reducible show wpList _ _ _ _ _ (World.setCell _ _ _)); (with_reducible apply Hp.abs_gen H); (first | ((repeat (with_reducible apply Hp.set' 0)); (with_reducible exact H); (repeat rfl); intro w' H') | ((repeat (with_reducible apply Hp.set' 1)); (with_reducible exact H); (repeat rfl); intro w' H') | ((repeat (with_reducible apply Hp.set' 2)); (with_reducible exact H); (repeat rfl); intro w' H') | ((repeat (with_reducible apply Hp.set' 3)); (with_reducible exact H); (repeat rfl); intro w' H') | ((repeat (with_reducible apply Hp.set' 4)); (with_reducible exact H); (repeat rfl); intro w' H') | ((repeat (with_reducible apply Hp.set' 5)); (with_reducible exact H); (repeat rfl); intro w' H') | ((repeat (with_reducible apply Hp.set' 6)); (with_reducible exact H); (repeat rfl); intro w' H') | ((repeat (with_reducible apply Hp.set' 7)); (with_reducible exact H); (repeat rfl); intro w' H')); ((try simp only [z0, z1, z2] at H'); clear C H; have H := H'; clear H'; have C := Hp.facts H; simp only [Facts, factsL, and_true, true_and, z0, z1, z2] at C)) | (go_at_call 107; refine (size_any (.slice A l.length c) l A c b _ rfl ((H.low.cell hbl).trans c0)).mono ?_; rintro e' w' ⟨rfl, rfl⟩) | go_values | go_skip | go_guarded | go_step | go_upon | go_back | (simp only [Int.not_lt, Int.not_le] at *; go_simp) | (go_values <;> (try go_simp)) | (go_ite <;> go_prune <;> (try go_simp)) | (split <;> (first | (rename_i hx; exact (hx _ rfl).elim) | go_prune))))
  go_ret
  refine ⟨v', rfl, ?_, Moved.put h H.low l.length⟩
  have ho := ownsRow_setCell_below (a := ⟨b, 1, none⟩) (ownsOf H 0 rfl) hbl (.int .i64 (l.length : Int))
  rw [gdr.out, gn.out] at ho
  exact ho
set_option maxHeartbeats 2000000 in
theorem new_any (l : List UInt8) (v : Value) (w : World) (hb : Bs w v l) (hl : l.length ≤ 1000000) :
    Calls Try.prog 50 #[v] w fun e w' => (∃ q v', e = .returned (.pointer (some ⟨q, 0, none⟩)) ∧ NewCur w w' q v' l) ∧ Below w.heap.size w w' := by
  obtain ⟨i0, hi, hz0, hz1, hz2⟩ := info_parts info_u8
  obtain ⟨A, c, rfl, hlc, hcm, hA, hcell⟩ := hb.open
  have H := Hp.start w
  have C : True := trivial
  go_enter Try.func50, Try.ntmps50
  (repeat' ((fail_if_success (with_reducible show bodyPost _ _ _ _ _ _)); first | ((with_reducible refine Hp.abs_alloc H ?_); intro b' w' H' hb'; (try simp only [hb']); clear hb'; ((try simp only [z0, z1, z2] at H'); clear C H; have H := H'; clear H'; have C := Hp.facts H; simp only [Facts, factsL, and_true, true_and, z0, z1, z2] at C)) | ((with_reducible show wpList _ _ _ _ _ (World.setCell _ _ _)); (with_reducible apply Hp.abs_gen H); (first | ((repeat (with_reducible apply Hp.set' 0)); (with_reducible exact H); (repeat rfl); intro w' H') | ((repeat (with_reducible apply Hp.set' 1)); (with_reducible exact H); (repeat rfl); intro w' H') | ((repeat (with_reducible apply Hp.set' 2)); (with_reducible exact H); (repeat rfl); intro w' H') | ((repeat (with_reducible apply Hp.set' 3)); (with_reducible exact H); (repeat rfl); intro w' H') | ((repeat (with_reducible apply Hp.set' 4)); (with_reducible exact H); (repeat rfl); intro w' H') | ((repeat (with_reducible apply Hp.set' 5)); (with_reducible exact H); (repeat rfl); intro w' H') | ((repeat (with_reducible apply Hp.set' 6)); (with_reducible exact H); (repeat rfl); intro w' H') | ((repeat (with_reducible apply Hp.set' 7)); (with_reducible exact H); (repeat rfl); intro w' H')); ((try simp only [z0, z1, z2] at H'); clear C H; have H := H'; clear H'; have C := Hp.facts H; simp only [Facts, factsL, and_true, true_and, z0, z1, z2] at C)) | (at_make; refine wpList_full_hp H rfl _ _ _ rfl Try.underlying23 hi hz0 hz1 l.length rfl rfl rfl rfl (by rw [hz2]; omega) (by unfold maxLen; omega) ?_; intro g' w' H'; ((try simp only [z0, z1, z2] at H'); clear C H; have H := H'; clear H'; have C := Hp.facts H; simp only [Facts, factsL, and_true, true_and, z0, z1, z2] at C)) | (refine wpList_copy_hp H 0 rfl _ _ _ _ rfl Try.underlying23 size_u8 rfl rfl rfl (cs := l.map u8c) (H.bs hb).src.2.1 (H.bs hb).src.2.2 (u8c_one _) ?_; intro w' H'; ((try simp only [z0, z1, z2] at H'); clear C H; have H := H'; clear H'; have C := Hp.facts H; simp only [Facts, factsL, and_true, true_and, z0, z1, z2] at C)) | go_values | go_skip | go_guarded | go_step | go_upon | go_back | (simp only [Int.not_lt, Int.not_le] at *; go_simp) | (go_values <;> (try go_simp)) | (go_ite <;> go_prune <;> (try go_simp)) | (split <;> (first | (rename_i hx; exact (hx _ rfl).elim) | go_prune))))
  go_ret
  refine ⟨⟨b', _, rfl, H.get 1 rfl, (H.ok _ (List.mem_of_getElem? (i := 1) rfl)).2, ownsOf H 0 rfl, ?_⟩, H.low⟩
  exact nodup_ne _ 1 0 _ _ b' H.nd rfl rfl (by decide) rfl
theorem NewCur.hp {w0 w w1 : World} {L : List Ent} (H : Hp w0 L w) (hb : Below w.heap.size w w1) {q : Nat} {v : Value} {l : List UInt8} (h : NewCur w w1 q v l) : Hp w0 (.blk q #[v, .int .i64 0] 140 :: .row 5 1 v l.length (l.map u8c) :: L) w1 := by
  have H1 := H.adopt hb (.row 5 1 v l.length (l.map u8c)) h.2.2.1
  refine H1.add (.blk q _ _) ⟨h.1, Nat.le_trans H.low.size h.2.1⟩ ?_
  intro k hk hm
  simp only [Ent.fp, Option.some.injEq] at hk
  subst hk
  rcases List.mem_filterMap.1 hm with ⟨x, hx, hf⟩
  rcases List.mem_cons.1 hx with rfl | hx
  · exact h.2.2.2 hf
  · have := ((H.ok x hx).lt q hf).2
    have := h.2.1
    omega
theorem cur_hp {w0 w : World} {L : List Ent} (H : Hp w0 L w) (i j : Nat) {b k : Nat} {v : Value} {l : List UInt8} (hi : L[i]? = some (.blk b #[v, .int .i64 (k : Int)] 140)) (hj : L[j]? = some (.row 5 1 v l.length (l.map u8c))) (hk : k ≤ l.length) (hl : l.length ≤ 1000000) : Cur w b l k v :=
  ⟨H.get i hi, by have := ownsOf H j hj; exact slice_of_own (by simpa using this), hk, hl⟩
theorem moved_hp {w0 w w' : World} {L : List Ent} (H : Hp w0 L w) (i : Nat) {b k k' : Nat} {v : Value} (hi : L[i]? = some (.blk b #[v, .int .i64 (k : Int)] 140)) (m : Moved w b v k' w') : Hp w0 (L.set i (.blk b #[v, .int .i64 (k' : Int)] 140)) w' :=
  H.turn i hi m.only ⟨m.blk, (H.ok _ (List.mem_of_getElem? hi)).2⟩ fun _ hk => .inl hk
end Go.Proofs.Ytldblmgmcmnepaa

