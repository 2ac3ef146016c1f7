/- Lemmas and walks on the way to the seat's laws; each theorem says its own conditions. -/
import Derived.Test.YtogliinfdfkobaaO8
set_option linter.unusedSimpArgs false
set_option linter.unusedVariables false
set_option linter.unusedSimpArgs false
set_option linter.unusedVariables false
set_option maxRecDepth 100000
namespace Go.Proofs.Ytogliinfdfkobaa
open Go.RowKit Go.Mem Go.Reg Oct
/-- The cursor's block has turned, and nothing else that was there. -/
structure Moved (w : World) (b : Nat) (v : Value) (k : Nat) (w' : World) : Prop where
  only : Only (some b) w w'
  blk : w'.heap[b]? = some (.cells #[v, .int .i64 (k : Int)] 112 (0, 0))
theorem Cur.apart {w : World} {b : Nat} {l : List UInt8} {k : Nat} {v : Value} (h : Cur w b l k v) {g o : Nat} {u : UInt8} (hc : w.cell? ⟨g, o, none⟩ = some (u8c u)) : g ≠ b := by
  intro e
  subst e
  obtain ⟨A, c, rfl, -⟩ := h.bs.open
  rw [cell_of_row w g o _ _ _ h.blk] at hc
  match o, hc with
  | 0, hc => simp [u8c] at hc
  | 1, hc => simp [u8c] at hc
  | n + 2, hc => simp at hc
theorem bs_only {w w' : World} {b : Nat} {v : Value} {l : List UInt8} (h : Bs w v l) (ho : Only (some b) w w') (hne : ∀ g o u, w.cell? ⟨g, o, none⟩ = some (u8c u) → g ≠ b) : Bs w' v l := by
  obtain ⟨A, c, rfl, h1, h2, h3, h4⟩ := Bs.open h
  refine Bs.mk rfl h1 h2 h3 fun hp => ?_
  obtain ⟨g, o, rfl, hl, hc⟩ := h4 0 hp
  have hgb : g ≠ b := hne g (o + 0) l[0] (hc 0 hp)
  exact ⟨g, o, rfl, Nat.lt_of_lt_of_le hl ho.size, fun j hj => (World.cell?_of_block (a := ⟨g, o + j, none⟩) (ho.block g hl (fun e => hgb (by injection e with e; exact e.symm)))).trans (hc j hj)⟩
theorem Moved.of_below {w w' : World} {b : Nat} {l : List UInt8} {k : Nat} {v : Value} (h : Cur w b l k v) (hb : Below w.heap.size w w') : Moved w b v k w' := ⟨Only.of_below _ hb, (h.step hb).blk⟩
theorem Moved.put {w w' : World} {b : Nat} {l : List UInt8} {k : Nat} {v : Value} (h : Cur w b l k v) (hb : Below w.heap.size w w') (n : Nat) : Moved w b v n (w'.setCell ⟨b, 1, none⟩ (.int .i64 (n : Int))) :=
  ⟨(Only.of_below _ hb).trans (Only.setCell w' b 1 _), by rw [Mem.heap_same (h.step hb).blk]; rfl⟩
/-- What peeking tells. -/
def peekV (l : List UInt8) (k : Nat) : Value := match l[k]? with
  | some x => .tuple #[u8c x, .int .i64 0]
  | none => .tuple #[.int .u8 0, .int .i64 3]
theorem peekV_some {l : List UInt8} {k : Nat} (h : k < l.length) : peekV l k = .tuple #[.int .u8 (l[k].toNat : Int), .int .i64 0] := by
  unfold peekV
  rw [List.getElem?_eq_getElem h]
  rfl
theorem peekV_none {l : List UInt8} {k : Nat} (h : l.length ≤ k) : peekV l k = .tuple #[.int .u8 0, .int .i64 3] := by
  unfold peekV
  rw [List.getElem?_eq_none h]
set_option maxHeartbeats 1000000 in
theorem peek_any (b : Nat) (l : List UInt8) (k : Nat) (v : Value) (w : World) (h : Cur w b l k v) :
    Calls Try.prog 88 #[.pointer (some ⟨b, 0, none⟩)] w fun e w' => e = .returned (peekV l k) ∧ Below w.heap.size w w' := by
  have c0 := h.c0
  have c1 := h.c1
  have hbl := h.lt
  have hk := h.le
  have hl := h.len
  have hbs := h.bs
  have hfz := h.fz
  obtain ⟨A, c, rfl, hlc, hcm, hA, hcell⟩ := h.bs.open
  have H := Hp.start w
  have C : True := trivial
  by_cases hlt : k < l.length
  · obtain ⟨g, o, rfl, hgl, hc⟩ := hcell k hlt
    have hck := hc k hlt
    have g0 : ((l.length : Int) - (k : Int) == 0) = false := by simp; omega
    go_enter Try.func88, Try.ntmps88
    (repeat' ((fail_if_success (with_reducible show bodyPost _ _ _ _ _ _)); first | ((with_reducible refine Hp.abs_alloc H ?_); intro b' w' H' hb'; (try simp only [hb']); clear hb'; ((try simp only [List.set_cons_zero, List.set_cons_succ, List.setIfInBounds_toArray] at H'); clear C H; have H := H'; clear H'; have C := Hp.facts H; simp only [Facts, factsL, and_true, true_and, List.set_cons_zero, List.set_cons_succ, List.setIfInBounds_toArray] at C)) | ((with_reducible show wpList _ _ _ _ _ (World.setCell _ _ _)); (with_reducible apply Hp.abs_gen H); (first | ((repeat (with_reducible apply Hp.set' 0)); (with_reducible exact H); (repeat rfl); intro w' H') | ((repeat (with_reducible apply Hp.set' 1)); (with_reducible exact H); (repeat rfl); intro w' H') | ((repeat (with_reducible apply Hp.set' 2)); (with_reducible exact H); (repeat rfl); intro w' H') | ((repeat (with_reducible apply Hp.set' 3)); (with_reducible exact H); (repeat rfl); intro w' H') | ((repeat (with_reducible apply Hp.set' 4)); (with_reducible exact H); (repeat rfl); intro w' H') | ((repeat (with_reducible apply Hp.set' 5)); (with_reducible exact H); (repeat rfl); intro w' H') | ((repeat (with_reducible apply Hp.set' 6)); (with_reducible exact H); (repeat rfl); intro w' H') | ((repeat (with_reducible apply Hp.set' 7)); (with_reducible exact H); (repeat rfl); intro w' H')); ((try simp only [List.set_cons_zero, List.set_cons_succ, List.setIfInBounds_toArray] at H'); clear C H; have H := H'; clear H'; have C := Hp.facts H; simp only [Facts, factsL, and_true, true_and, List.set_cons_zero, List.set_cons_succ, List.setIfInBounds_toArray] at C)) | (go_at_call 52; refine (left_any b l k _ _ (h.step H.low)).mono ?_; rintro e' w' ⟨rfl, hb'⟩; (have H' := Hp.step H hb'; clear hb'; ((try simp only [List.set_cons_zero, List.set_cons_succ, List.setIfInBounds_toArray] at H'); clear C H; have H := H'; clear H'; have C := Hp.facts H; simp only [Facts, factsL, and_true, true_and, List.set_cons_zero, List.set_cons_succ, List.setIfInBounds_toArray] at C))) | go_values | go_skip | go_guarded | go_step | go_upon | go_back | (simp only [Int.not_lt, Int.not_le] at *; go_simp) | (go_values <;> (try go_simp)) | (go_ite <;> go_prune <;> (try go_simp)) | (split <;> (first | (rename_i hx; exact (hx _ rfl).elim) | go_prune))))
    refine region_bt 11 20 [11, 11, 11, 11, 11, 11, 11, 11, 11, 11, 11] [some 9, some 10, some 11, some 12, some 13, some 14, some 15, some 16, some 17, some 18, some 19] [[], [0], [1], [2], [3], [], [5], [6], [7], [4, 8], [9]] [fun v _ => v = .pointer (some ⟨b, 0, none⟩), fun v _ => v = .pointer (some ⟨b, 0, none⟩), fun v _ => v = .pointer (some ⟨b, 0, none⟩), fun v _ => v = .pointer (some ⟨b, 0, none⟩), fun v _ => v = .slice (some ⟨g, o, none⟩) l.length c, fun v _ => v = .pointer (some ⟨b, 0, none⟩), fun v _ => v = .pointer (some ⟨b, 0, none⟩), fun v _ => v = .pointer (some ⟨b, 1, none⟩), fun v _ => v = .int .i64 (k : Int), fun v _ => v = .pointer (some ⟨g, o + k, none⟩), fun v _ => v = .int .u8 (l[k].toNat : Int)] (by kernel_rfl) (by kernel_rfl) (by kernel_rfl) rfl (by kernel_rfl) rfl _ (fun vs => (by simp only [fillD, Nat.reduceAdd, Act.put, List.setIfInBounds_toArray, List.set_cons_zero, List.set_cons_succ]; rfl)) ?_ ?_ ?_
    · refine ⟨fun _ _ _ _ h => h, fun _ _ _ _ h => h, fun _ _ _ _ h => h, fun _ _ _ _ h => h, fun _ _ _ _ h => h, fun _ _ _ _ h => h, fun _ _ _ _ h => h, fun _ _ _ _ h => h, fun _ _ _ _ h => h, fun _ _ _ _ h => h, fun _ _ _ _ h => h, trivial⟩
    · refine ⟨?_, ?_, ?_, ?_, ?_, ?_, ?_, ?_, ?_, ?_, ?_, trivial⟩
      · intro vs w' K hJ hR hK
        rw [if_pos (by rfl)]
        go_step
        exact hK.out _ _ (Below.refl _ _) (rfl)
      · intro vs w' K hJ hR hK
        simp only [DepJ, List.getD_cons_zero, List.getD_cons_succ] at hJ
        obtain ⟨j0, -⟩ := hJ
        simp only [j0] at hK ⊢
        rw [if_pos (by rfl)]
        go_step
        exact hK.out _ _ (Below.refl _ _) (rfl)
      · intro vs w' K hJ hR hK
        simp only [DepJ, List.getD_cons_zero, List.getD_cons_succ] at hJ
        obtain ⟨j1, -⟩ := hJ
        simp only [j1] at hK ⊢
        rw [if_pos (by rfl)]
        go_step
        exact hK.out _ _ (Below.refl _ _) (rfl)
      · intro vs w' K hJ hR hK
        simp only [DepJ, List.getD_cons_zero, List.getD_cons_succ] at hJ
        obtain ⟨j2, -⟩ := hJ
        simp only [j2] at hK ⊢
        rw [if_pos (by rfl)]
        go_step
        exact hK.out _ _ (Below.refl _ _) (rfl)
      · intro vs w' K hJ hR hK
        simp only [DepJ, List.getD_cons_zero, List.getD_cons_succ] at hJ
        obtain ⟨j3, -⟩ := hJ
        simp only [j3] at hK ⊢
        rw [if_pos (by rfl)]
        have C := Hp.facts (Hp.step H.drew hR)
        simp only [Facts, factsL, and_true, true_and, List.set_cons_zero, List.set_cons_succ, List.setIfInBounds_toArray] at C
        have hl1 := hbl
        go_step
        exact hK.out _ _ (Below.refl _ _) rfl
      · intro vs w' K hJ hR hK
        rw [if_pos (by rfl)]
        go_step
        exact hK.out _ _ (Below.refl _ _) (rfl)
      · intro vs w' K hJ hR hK
        simp only [DepJ, List.getD_cons_zero, List.getD_cons_succ] at hJ
        obtain ⟨j5, -⟩ := hJ
        simp only [j5] at hK ⊢
        rw [if_pos (by rfl)]
        go_step
        exact hK.out _ _ (Below.refl _ _) (rfl)
      · intro vs w' K hJ hR hK
        simp only [DepJ, List.getD_cons_zero, List.getD_cons_succ] at hJ
        obtain ⟨j6, -⟩ := hJ
        simp only [j6] at hK ⊢
        rw [if_pos (by rfl)]
        go_step
        exact hK.out _ _ (Below.refl _ _) (rfl)
      · intro vs w' K hJ hR hK
        simp only [DepJ, List.getD_cons_zero, List.getD_cons_succ] at hJ
        obtain ⟨j7, -⟩ := hJ
        simp only [j7] at hK ⊢
        rw [if_pos (by rfl)]
        have C := Hp.facts (Hp.step H.drew hR)
        simp only [Facts, factsL, and_true, true_and, List.set_cons_zero, List.set_cons_succ, List.setIfInBounds_toArray] at C
        have hl1 := hbl
        go_step
        exact hK.out _ _ (Below.refl _ _) rfl
      · intro vs w' K hJ hR hK
        simp only [DepJ, List.getD_cons_zero, List.getD_cons_succ] at hJ
        obtain ⟨j4, j8, -⟩ := hJ
        simp only [j4, j8] at hK ⊢
        rw [if_pos (by rfl)]
        go_step
        exact hK.out _ _ (Below.refl _ _) (rfl)
      · intro vs w' K hJ hR hK
        simp only [DepJ, List.getD_cons_zero, List.getD_cons_succ] at hJ
        obtain ⟨j9, -⟩ := hJ
        simp only [j9] at hK ⊢
        rw [if_pos (by rfl)]
        have C := Hp.facts (Hp.step H.drew hR)
        simp only [Facts, factsL, and_true, true_and, List.set_cons_zero, List.set_cons_succ, List.setIfInBounds_toArray] at C
        have hl1 := hbl
        go_step
        exact hK.out _ _ (Below.refl _ _) rfl
    intro vs w' hJ hR
    simp only [AllJ, Nat.reduceAdd] at hJ
    obtain ⟨v0, v1, v2, v3, v4, v5, v6, v7, v8, v9, v10, -⟩ := hJ
    simp only [List.drop_succ_cons, List.drop_zero]
    simp only [v10]
    have H' := Hp.step H.drew hR
    ((try simp only [List.set_cons_zero, List.set_cons_succ, List.setIfInBounds_toArray] at H'); clear C H; have H := H'; clear H'; have C := Hp.facts H; simp only [Facts, factsL, and_true, true_and, List.set_cons_zero, List.set_cons_succ, List.setIfInBounds_toArray] at C)
    clear v0 v1 v2 v3 v4 v5 v6 v7 v8 v9 v10
    (repeat' ((fail_if_success (with_reducible show bodyPost _ _ _ _ _ _)); first | ((with_reducible refine Hp.abs_alloc H ?_); intro b' w' H' hb'; (try simp only [hb']); clear hb'; ((try simp only [List.set_cons_zero, List.set_cons_succ, List.setIfInBounds_toArray] at H'); clear C H; have H := H'; clear H'; have C := Hp.facts H; simp only [Facts, factsL, and_true, true_and, List.set_cons_zero, List.set_cons_succ, List.setIfInBounds_toArray] at C)) | ((with_reducible show wpList _ _ _ _ _ (World.setCell _ _ _)); (with_reducible apply Hp.abs_gen H); (first | ((repeat (with_reducible apply Hp.set' 0)); (with_reducible exact H); (repeat rfl); intro w' H') | ((repeat (with_reducible apply Hp.set' 1)); (with_reducible exact H); (repeat rfl); intro w' H') | ((repeat (with_reducible apply Hp.set' 2)); (with_reducible exact H); (repeat rfl); intro w' H') | ((repeat (with_reducible apply Hp.set' 3)); (with_reducible exact H); (repeat rfl); intro w' H') | ((repeat (with_reducible apply Hp.set' 4)); (with_reducible exact H); (repeat rfl); intro w' H') | ((repeat (with_reducible apply Hp.set' 5)); (with_reducible exact H); (repeat rfl); intro w' H') | ((repeat (with_reducible apply Hp.set' 6)); (with_reducible exact H); (repeat rfl); intro w' H') | ((repeat (with_reducible apply Hp.set' 7)); (with_reducible exact H); (repeat rfl); intro w' H')); ((try simp only [List.set_cons_zero, List.set_cons_succ, List.setIfInBounds_toArray] at H'); clear C H; have H := H'; clear H'; have C := Hp.facts H; simp only [Facts, factsL, and_true, true_and, List.set_cons_zero, List.set_cons_succ, List.setIfInBounds_toArray] at C)) | go_values | go_skip | go_guarded | go_step | go_upon | go_back | (simp only [Int.not_lt, Int.not_le] at *; go_simp) | (go_values <;> (try go_simp)) | (go_ite <;> go_prune <;> (try go_simp)) | (split <;> (first | (rename_i hx; exact (hx _ rfl).elim) | go_prune))))
    go_ret2
    exact ⟨by rw [peekV_some hlt]; rfl, H.low⟩
  · have hke : k = l.length := by omega
    have hke := Lib.hid hke
    go_enter Try.func88, Try.ntmps88
    (repeat' ((fail_if_success (with_reducible show bodyPost _ _ _ _ _ _)); first | ((with_reducible refine Hp.abs_alloc H ?_); intro b' w' H' hb'; (try simp only [hb']); clear hb'; ((try simp only [List.set_cons_zero, List.set_cons_succ, List.setIfInBounds_toArray] at H'); clear C H; have H := H'; clear H'; have C := Hp.facts H; simp only [Facts, factsL, and_true, true_and, List.set_cons_zero, List.set_cons_succ, List.setIfInBounds_toArray] at C)) | ((with_reducible show wpList _ _ _ _ _ (World.setCell _ _ _)); (with_reducible apply Hp.abs_gen H); (first | ((repeat (with_reducible apply Hp.set' 0)); (with_reducible exact H); (repeat rfl); intro w' H') | ((repeat (with_reducible apply Hp.set' 1)); (with_reducible exact H); (repeat rfl); intro w' H') | ((repeat (with_reducible apply Hp.set' 2)); (with_reducible exact H); (repeat rfl); intro w' H') | ((repeat (with_reducible apply Hp.set' 3)); (with_reducible exact H); (repeat rfl); intro w' H') | ((repeat (with_reducible apply Hp.set' 4)); (with_reducible exact H); (repeat rfl); intro w' H') | ((repeat (with_reducible apply Hp.set' 5)); (with_reducible exact H); (repeat rfl); intro w' H') | ((repeat (with_reducible apply Hp.set' 6)); (with_reducible exact H); (repeat rfl); intro w' H') | ((repeat (with_reducible apply Hp.set' 7)); (with_reducible exact H); (repeat rfl); intro w' H')); ((try simp only [List.set_cons_zero, List.set_cons_succ, List.setIfInBounds_toArray] at H'); clear C H; have H := H'; clear H'; have C := Hp.facts H; simp only [Facts, factsL, and_true, true_and, List.set_cons_zero, List.set_cons_succ, List.setIfInBounds_toArray] at C)) | (go_at_call 52; refine (left_any b l k _ _ (h.step H.low)).mono ?_; rintro e' w' ⟨rfl, hb'⟩; (have H' := Hp.step H hb'; clear hb'; ((try simp only [List.set_cons_zero, List.set_cons_succ, List.setIfInBounds_toArray] at H'); clear C H; have H := H'; clear H'; have C := Hp.facts H; simp only [Facts, factsL, and_true, true_and, List.set_cons_zero, List.set_cons_succ, List.setIfInBounds_toArray] at C))) | go_values | go_skip | go_guarded | go_step | go_upon | go_back | (simp only [Int.not_lt, Int.not_le] at *; go_simp) | (go_values <;> (try go_simp)) | (go_ite <;> go_prune <;> (try go_simp)) | (split <;> (first | (rename_i hx; exact (hx _ rfl).elim) | go_prune))))
    go_ret2
    exact ⟨by rw [peekV_none (by have := hke.out; omega)]; rfl, H.low⟩
set_option maxHeartbeats 1000000 in
theorem byte_any (b : Nat) (l : List UInt8) (k : Nat) (v : Value) (w : World) (h : Cur w b l k v) :
    Calls Try.prog 83 #[.pointer (some ⟨b, 0, none⟩)] w fun e w' => e = .returned (peekV l k) ∧ Moved w b v (if k < l.length then k + 1 else k) w' := by
  have c0 := h.c0
  have c1 := h.c1
  have hbl := h.lt
  have hk := h.le
  have hl := h.len
  have hbs := h.bs
  have hfz := h.fz
  obtain ⟨A, c, rfl, hlc, hcm, hA, hcell⟩ := h.bs.open
  have H := Hp.start w
  have C : True := trivial
  by_cases hlt : k < l.length
  · rw [if_pos hlt]
    have hp := Lib.hid (peekV_some hlt)
    go_enter Try.func83, Try.ntmps83
    (repeat' ((fail_if_success (with_reducible show bodyPost _ _ _ _ _ _)); first | ((with_reducible refine Hp.abs_alloc H ?_); intro b' w' H' hb'; (try simp only [hb']); clear hb'; ((try simp only [List.set_cons_zero, List.set_cons_succ, List.setIfInBounds_toArray] at H'); clear C H; have H := H'; clear H'; have C := Hp.facts H; simp only [Facts, factsL, and_true, true_and, List.set_cons_zero, List.set_cons_succ, List.setIfInBounds_toArray] at C)) | ((with_reducible show wpList _ _ _ _ _ (World.setCell _ _ _)); (with_reducible apply Hp.abs_gen H); (first | ((repeat (with_reducible apply Hp.set' 0)); (with_reducible exact H); (repeat rfl); intro w' H') | ((repeat (with_reducible apply Hp.set' 1)); (with_reducible exact H); (repeat rfl); intro w' H') | ((repeat (with_reducible apply Hp.set' 2)); (with_reducible exact H); (repeat rfl); intro w' H') | ((repeat (with_reducible apply Hp.set' 3)); (with_reducible exact H); (repeat rfl); intro w' H') | ((repeat (with_reducible apply Hp.set' 4)); (with_reducible exact H); (repeat rfl); intro w' H') | ((repeat (with_reducible apply Hp.set' 5)); (with_reducible exact H); (repeat rfl); intro w' H') | ((repeat (with_reducible apply Hp.set' 6)); (with_reducible exact H); (repeat rfl); intro w' H') | ((repeat (with_reducible apply Hp.set' 7)); (with_reducible exact H); (repeat rfl); intro w' H')); ((try simp only [List.set_cons_zero, List.set_cons_succ, List.setIfInBounds_toArray] at H'); clear C H; have H := H'; clear H'; have C := Hp.facts H; simp only [Facts, factsL, and_true, true_and, List.set_cons_zero, List.set_cons_succ, List.setIfInBounds_toArray] at C)) | (go_at_call 88; refine (peek_any b l k _ _ (h.step H.low)).mono ?_; rintro e' w' ⟨rfl, hb'⟩; rw [hp.out]; (have H' := Hp.step H hb'; clear hb'; ((try simp only [List.set_cons_zero, List.set_cons_succ, List.setIfInBounds_toArray] at H'); clear C H; have H := H'; clear H'; have C := Hp.facts H; simp only [Facts, factsL, and_true, true_and, List.set_cons_zero, List.set_cons_succ, List.setIfInBounds_toArray] at C))) | go_values | go_skip | go_guarded | go_step | go_upon | go_back | (simp only [Int.not_lt, Int.not_le] at *; go_simp) | (go_values <;> (try go_simp)) | (go_ite <;> go_prune <;> (try go_simp)) | (split <;> (first | (rename_i hx; exact (hx _ rfl).elim) | go_prune))))
    go_ret2
    exact ⟨by rw [hp.out]; rfl, Moved.put h H.low (k + 1)⟩
  · rw [if_neg hlt]
    have hp := Lib.hid (peekV_none (show l.length ≤ k by omega))
    go_enter Try.func83, Try.ntmps83
    (repeat' ((fail_if_success (with_reducible show bodyPost _ _ _ _ _ _)); first | ((with_reducible refine Hp.abs_alloc H ?_); intro b' w' H' hb'; (try simp only [hb']); clear hb'; ((try simp only [List.set_cons_zero, List.set_cons_succ, List.setIfInBounds_toArray] at H'); clear C H; have H := H'; clear H'; have C := Hp.facts H; simp only [Facts, factsL, and_true, true_and, List.set_cons_zero, List.set_cons_succ, List.setIfInBounds_toArray] at C)) | ((with_reducible show wpList _ _ _ _ _ (World.setCell _ _ _)); (with_reducible apply Hp.abs_gen H); (first | ((repeat (with_reducible apply Hp.set' 0)); (with_reducible exact H); (repeat rfl); intro w' H') | ((repeat (with_reducible apply Hp.set' 1)); (with_reducible exact H); (repeat rfl); intro w' H') | ((repeat (with_reducible apply Hp.set' 2)); (with_reducible exact H); (repeat rfl); intro w' H') | ((repeat (with_reducible apply Hp.set' 3)); (with_reducible exact H); (repeat rfl); intro w' H') | ((repeat (with_reducible apply Hp.set' 4)); (with_reducible exact H); (repeat rfl); intro w' H') | ((repeat (with_reducible apply Hp.set' 5)); (with_reducible exact H); (repeat rfl); intro w' H') | ((repeat (with_reducible apply Hp.set' 6)); (with_reducible exact H); (repeat rfl); intro w' H') | ((repeat (with_reducible apply Hp.set' 7)); (with_reducible exact H); (repeat rfl); intro w' H')); ((try simp only [List.set_cons_zero, List.set_cons_succ, List.setIfInBounds_toArray] at H'); clear C H; have H := H'; clear H'; have C := Hp.facts H; simp only [Facts, factsL, and_true, true_and, List.set_cons_zero, List.set_cons_succ, List.setIfInBounds_toArray] at C)) | (go_at_call 88; refine (peek_any b l k _ _ (h.step H.low)).mono ?_; rintro e' w' ⟨rfl, hb'⟩; rw [hp.out]; (have H' := Hp.step H hb'; clear hb'; ((try simp only [List.set_cons_zero, List.set_cons_succ, List.setIfInBounds_toArray] at H'); clear C H; have H := H'; clear H'; have C := Hp.facts H; simp only [Facts, factsL, and_true, true_and, List.set_cons_zero, List.set_cons_succ, List.setIfInBounds_toArray] at C))) | go_values | go_skip | go_guarded | go_step | go_upon | go_back | (simp only [Int.not_lt, Int.not_le] at *; go_simp) | (go_values <;> (try go_simp)) | (go_ite <;> go_prune <;> (try go_simp)) | (split <;> (first | (rename_i hx; exact (hx _ rfl).elim) | go_prune))))
    go_ret2
    exact ⟨by rw [hp.out]; rfl, Moved.of_below h H.low⟩
set_option maxHeartbeats 1000000 in
theorem back_yes (b : Nat) (l : List UInt8) (k : Nat) (v : Value) (m : Nat) (hm : m ≤ k) (w : World) (h : Cur w b l k v) :
    Calls Try.prog 80 #[.pointer (some ⟨b, 0, none⟩), .int .i64 (m : Int)] w fun e w' => e = .returned (.int .i64 0) ∧ Moved w b v m w' := by
  have c0 := h.c0
  have c1 := h.c1
  have hbl := h.lt
  have hk := h.le
  have hl := h.len
  have hbs := h.bs
  have hfz := h.fz
  obtain ⟨A, c, rfl, hlc, hcm, hA, hcell⟩ := h.bs.open
  have H := Hp.start w
  have C : True := trivial
  go_enter Try.func80, Try.ntmps80
  (repeat' ((fail_if_success (with_reducible show bodyPost _ _ _ _ _ _)); first | ((with_reducible refine Hp.abs_alloc H ?_); intro b' w' H' hb'; (try simp only [hb']); clear hb'; ((try simp only [List.set_cons_zero, List.set_cons_succ, List.setIfInBounds_toArray] at H'); clear C H; have H := H'; clear H'; have C := Hp.facts H; simp only [Facts, factsL, and_true, true_and, List.set_cons_zero, List.set_cons_succ, List.setIfInBounds_toArray] at C)) | ((with_reducible show wpList _ _ _ _ _ (World.setCell _ _ _)); (with_reducible apply Hp.abs_gen H); (first | ((repeat (with_reducible apply Hp.set' 0)); (with_reducible exact H); (repeat rfl); intro w' H') | ((repeat (with_reducible apply Hp.set' 1)); (with_reducible exact H); (repeat rfl); intro w' H') | ((repeat (with_reducible apply Hp.set' 2)); (with_reducible exact H); (repeat rfl); intro w' H') | ((repeat (with_reducible apply Hp.set' 3)); (with_reducible exact H); (repeat rfl); intro w' H') | ((repeat (with_reducible apply Hp.set' 4)); (with_reducible exact H); (repeat rfl); intro w' H') | ((repeat (with_reducible apply Hp.set' 5)); (with_reducible exact H); (repeat rfl); intro w' H') | ((repeat (with_reducible apply Hp.set' 6)); (with_reducible exact H); (repeat rfl); intro w' H') | ((repeat (with_reducible apply Hp.set' 7)); (with_reducible exact H); (repeat rfl); intro w' H')); ((try simp only [List.set_cons_zero, List.set_cons_succ, List.setIfInBounds_toArray] at H'); clear C H; have H := H'; clear H'; have C := Hp.facts H; simp only [Facts, factsL, and_true, true_and, List.set_cons_zero, List.set_cons_succ, List.setIfInBounds_toArray] at C)) | go_values | go_skip | go_guarded | go_step | go_upon | go_back | (simp only [Int.not_lt, Int.not_le] at *; go_simp) | (go_values <;> (try go_simp)) | (go_ite <;> go_prune <;> (try go_simp)) | (split <;> (first | (rename_i hx; exact (hx _ rfl).elim) | go_prune))))
  go_ret
  exact ⟨rfl, Moved.put h H.low m⟩
end Go.Proofs.Ytogliinfdfkobaa

