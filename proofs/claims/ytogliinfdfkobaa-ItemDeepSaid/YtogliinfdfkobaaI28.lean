/- Lemmas and walks on the way to the seat's laws; each theorem says its own conditions. -/
import Derived.Test.YtogliinfdfkobaaI27
set_option linter.unusedSimpArgs false
set_option linter.unusedVariables false
set_option linter.unusedSimpArgs false
set_option linter.unusedVariables false
set_option maxRecDepth 100000
namespace Go.Proofs.Ytogliinfdfkobaa
open Go.RowKit Go.Mem Go.Reg Oct Hd Go.LawLift
/-- The bytes of nested trees as they are built. -/
def NsRel (N : Nat) (w : World) (x ix : Value) (wr : World) : Prop := ∃ (i : Nat) (l : List UInt8), 1 ≤ i ∧ i ≤ N ∧ ix = .int .i64 i ∧ l = wholeT (nest (i - 1)) ∧ Hp w [.row 5 1 x l.length (l.map u8c)] wr
theorem NsRel.mk {N : Nat} {w : World} {x ix : Value} {wr : World} (i : Nat) (l : List UInt8) (h0 : 1 ≤ i) (h1 : i ≤ N) (h2 : ix = .int .i64 i) (h3 : l = wholeT (nest (i - 1))) (h4 : Hp w [.row 5 1 x l.length (l.map u8c)] wr) : NsRel N w x ix wr := ⟨i, l, h0, h1, h2, h3, h4⟩
theorem many_len {i : Nat} (h0 : 9996 ≤ i) (h1 : i ≤ 10000) : (wholeT (manyT i)).length = 4 + 2 * i := by
  rw [many_whole (by omega) (by omega)]
  simp only [List.length_cons, leaves_len]
  omega
theorem many_bytes {i : Nat} (h0 : 9996 ≤ i) (h1 : i ≤ 10000) : ([.int .u8 48, .int .u8 130, .int .u8 (2 * (i : Int) / 256), .int .u8 (2 * (i : Int) % 256)] : List Value) ++ (leavesL i).map u8c = (wholeT (manyT i)).map u8c := by
  rw [many_whole (by omega) (by omega)]
  simp only [List.map_cons, List.cons_append, List.nil_append]
  rw [u8c_byte (by omega) (by omega), u8c_byte (by omega) (by omega)]
  rfl
theorem many_print {i : Nat} (h0 : 9996 ≤ i) (h1 : i ≤ 10000) : printR (manyT i) = if i ≤ 9999 then (wholeT (manyT i), 0) else ([], 1) := by
  obtain ⟨f1, f2, f3, f4⟩ := many_facts i
  unfold printR
  rw [right_few (by rw [many_len h0 h1]; omega), f1, f3]
  by_cases h : i ≤ 9999
  · rw [if_pos (by simp; omega), if_pos h]
  · rw [if_neg (by simp; omega), if_neg h]
theorem manyPar {w0 w w' : World} {L : List Ent} {i : Nat} {e : Ending} (H : Hp w0 L w) (h0 : 9996 ≤ i) (h1 : i ≤ 10000) (h : PaP w (wholeT (manyT i)) e w') :
    ∃ (x0 x1 : Int) (x2 : Bool) (xA xB : Option Addr) (xk xc xm xd : Nat) (er : Int), e = .returned (.tuple #[.agg #[.int .i64 x0, .int .i64 x1, .bool x2, .slice xA xk xc, .slice xB xm xd], .int .i64 er]) ∧ Hp w0 L w' ∧
      ((i ≤ 9999 ∧ er = 0) ∨ (i = 10000 ∧ er = 2)) := by
  obtain ⟨h2, h3, hB⟩ := h
  by_cases hj : i ≤ 9999
  · obtain ⟨sp, hp⟩ := many_short (k := i) (by omega) (by omega)
    obtain ⟨cs, rfl, ht⟩ := h3 _ _ hp
    obtain ⟨d0, d1, d2, d3, d4, rfl⟩ := five_of ht.len
    obtain ⟨y0, y1, y2, yA, yB, yk, yc, ym, yd, rfl, rfl, rfl, rfl, rfl⟩ := ht.forms
    exact ⟨_, _, _, _, _, _, _, _, _, _, rfl, H.step hB, .inl ⟨hj, rfl⟩⟩
  · have hp := many_long (k := i) (by omega)
    obtain rfl := h2 _ hp
    exact ⟨_, _, _, _, _, _, _, _, _, _, rfl, H.step hB, .inr ⟨by omega, rfl⟩⟩
theorem kids_row {w0 w : World} {L : List Ent} {T : TypeId} {rv : Value} {n : Nat} {vals : List Value} (H : Hp w0 (.row T 5 rv n vals :: L) w) (ts : List Tree) (h : ts.length = n) : Hp w0 (.row T 5 rv ts.length vals :: L) w := by
  subst h
  exact H
theorem same_self_any (l : List UInt8) (v u : Value) (w : World) (hb : Bs w v l) (hd : Bs w u l) (hl : l.length ≤ 1000000) :
    Calls Try.prog 20 #[v, u] w fun e w' => e = .returned (.bool true) ∧ Below w.heap.size w w' := by
  have h := same_any l l v u w hb hd hl hl
  rw [show decide (l = l) = true from decide_eq_true rfl] at h
  exact h
theorem bs_row2 {w0 w : World} {L : List Ent} (H : Hp w0 L w) (j : Nat) {v : Value} {n : Nat} {l : List UInt8} (hn : l.length = n) (hj : L[j]? = some (.row 5 1 v n (l.map u8c))) : Bs w v l := by
  subst hn
  exact bs_row H j hj
theorem leaf_firm (w : World) : Firm w [] fun w1 => ItP (Kept 0 []) w1 1 leafT [.int .i64 0, .int .i64 5, .bool false, .slice none 0 0, .slice none 0 0] :=
  fun w1 L H hs => ⟨_, none, 0, rfl, Firm.nilBs w1 L H hs, Nat.le_refl _, by unfold maxLen; omega, fun _ => rfl, fun j hj => absurd hj (Nat.not_lt_zero _)⟩
/-- What the law knows of the nested item. -/
theorem deepPar {w0 w w' : World} {L : List Ent} {j : Nat} {e : Ending} (H : Hp w0 L w) (hj1 : j + 1 ≤ 34) (hj0 : 30 ≤ j + 1) (h : PaP w (wholeT (nest j)) e w') :
    ∃ (x0 x1 : Int) (x2 : Bool) (xA xB : Option Addr) (xk xc xm xd : Nat) (er : Int) (Ox : List Ent), e = .returned (.tuple #[.agg #[.int .i64 x0, .int .i64 x1, .bool x2, .slice xA xk xc, .slice xB xm xd], .int .i64 er]) ∧ Hp w0 (L ++ Ox) w' ∧
      ((j + 1 ≤ 32 ∧ er = 0) ∨ (32 < j + 1 ∧ er = 8)) ∧ (j + 1 ≤ 32 → ∀ w2 L2, Hp w0 L2 w2 → (∀ x ∈ Ox, x ∈ L2) → ItN w2 32 (nest j) [.int .i64 x0, .int .i64 x1, .bool x2, .slice xA xk xc, .slice xB xm xd]) := by
  obtain ⟨h1, h2, hB⟩ := h
  by_cases hj : j + 1 ≤ 32
  · obtain ⟨sp, hp⟩ := nest_shallow hj
    obtain ⟨cs, rfl, ht⟩ := h2 _ _ hp
    obtain ⟨Ox, H2, gx⟩ := H.keepTree (B := 0) (Nat.zero_le _) hB (ht.weak fun b hb _ => hb)
    obtain ⟨d0, d1, d2, d3, d4, rfl⟩ := five_of ht.len
    obtain ⟨y0, y1, y2, yA, yB, yk, yc, ym, yd, rfl, rfl, rfl, rfl, rfl⟩ := ht.forms
    exact ⟨_, _, _, _, _, _, _, _, _, _, Ox, rfl, H2, .inl ⟨hj, rfl⟩, fun _ w2 L2 h3 h4 => (gx w2 L2 h3 h4).any⟩
  · have hp : parseR (wholeT (nest j)) = .bad 8 := by
      rw [nestL_is j (by omega)]
      rcases (show j = 32 ∨ j = 33 by omega) with rfl | rfl
      · exact nest_deep32
      · exact nest_deep33
    obtain rfl := h1 _ hp
    exact ⟨_, _, _, _, _, _, _, _, _, _, [], rfl, by rw [List.append_nil]; exact H.step hB, .inr ⟨by omega, rfl⟩, fun h => absurd h hj⟩
/-- Many items, and their bytes, as they are built. -/
def MkRel (M : Nat) (w : World) (L : List Ent) (b9 : Nat) (lf : Ent) (x ix : Value) (wr : World) : Prop := ∃ (i : Nat) (vals : List Value) (A : Option Addr) (c : Nat), i + 1 ≤ M ∧ ix = .int .i64 ((i + 1 : Nat) : Int) ∧ KidsL w 0 1 (List.replicate i leafT) vals [] ∧
  Hp w (.blk b9 #[.int .i64 0, .int .i64 16, .bool true, .slice none 0 0, .slice A i c] 41 :: .row 41 5 (.slice A i c) i vals :: lf :: .row 5 1 x (2 * i) ((leavesL i).map u8c) :: L) wr
theorem MkRel.mk {M : Nat} {w : World} {L : List Ent} {b9 : Nat} {lf : Ent} {x ix : Value} {wr : World} (i : Nat) (vals : List Value) (A : Option Addr) (c : Nat) (h0 : i + 1 ≤ M) (h1 : ix = .int .i64 ((i + 1 : Nat) : Int)) (h2 : KidsL w 0 1 (List.replicate i leafT) vals [])
  (h3 : Hp w (.blk b9 #[.int .i64 0, .int .i64 16, .bool true, .slice none 0 0, .slice A i c] 41 :: .row 41 5 (.slice A i c) i vals :: lf :: .row 5 1 x (2 * i) ((leavesL i).map u8c) :: L) wr) : MkRel M w L b9 lf x ix wr := ⟨i, vals, A, c, h0, h1, h2, h3⟩
set_option maxHeartbeats 3200000 in
theorem itemDeep_core (n m : Int) (N M : Nat) (hN0 : 30 ≤ N) (hN1 : N ≤ 34) (hM0 : 9997 ≤ M) (hM1 : M ≤ 10001) (hN : wrap64 (30 + wrap64 ((IntKind.u64.wrap n).tmod 5)) = (N : Int)) (hM : wrap64 (9997 + wrap64 ((IntKind.u64.wrap m).tmod 5)) = (M : Int)) (w : World) :
    Calls Try.prog 8 #[.int .i64 n, .int .i64 m] w fun e w' => e = .returned (.bool true) ∧ Below w.heap.size w w' := by
  obtain ⟨i0, hi, hz0, hz1, hz2⟩ := info_parts info_u8
  obtain ⟨i5, hi5, hz50, hz51, hz52⟩ := info_parts info_it
  have H := Hp.start w
  have C : True := trivial
  go_enter Try.func8, Try.ntmps8
  (repeat' ((fail_if_success (with_reducible show bodyPost _ _ _ _ _ _)); first | ((with_reducible refine Hp.abs_alloc H ?_); intro b' w' H' hb'; (try simp only [hb']); clear hb'; ((try simp only [List.set_cons_zero, List.set_cons_succ, List.setIfInBounds_toArray] at H'); clear C H; have H := H'; clear H'; have C := Hp.facts H; simp only [Facts, factsL, and_true, true_and, List.set_cons_zero, List.set_cons_succ, List.setIfInBounds_toArray] at C)) | ((with_reducible show wpList _ _ _ _ _ (World.setCell _ _ _)); (with_reducible apply Hp.abs_gen H); (first | ((repeat (with_reducible apply Hp.set' 0)); (with_reducible exact H); (repeat rfl); intro w' H') | ((repeat (with_reducible apply Hp.set' 1)); (with_reducible exact H); (repeat rfl); intro w' H') | ((repeat (with_reducible apply Hp.set' 2)); (with_reducible exact H); (repeat rfl); intro w' H') | ((repeat (with_reducible apply Hp.set' 3)); (with_reducible exact H); (repeat rfl); intro w' H') | ((repeat (with_reducible apply Hp.set' 4)); (with_reducible exact H); (repeat rfl); intro w' H') | ((repeat (with_reducible apply Hp.set' 5)); (with_reducible exact H); (repeat rfl); intro w' H') | ((repeat (with_reducible apply Hp.set' 6)); (with_reducible exact H); (repeat rfl); intro w' H') | ((repeat (with_reducible apply Hp.set' 7)); (with_reducible exact H); (repeat rfl); intro w' H')); ((try simp only [List.set_cons_zero, List.set_cons_succ, List.setIfInBounds_toArray] at H'); clear C H; have H := H'; clear H'; have C := Hp.facts H; simp only [Facts, factsL, and_true, true_and, List.set_cons_zero, List.set_cons_succ, List.setIfInBounds_toArray] at C)) | go_values | go_skip | go_guarded | go_step | go_upon | go_back | (simp only [Int.not_lt, Int.not_le] at *; go_simp) | (go_values <;> (try go_simp)) | (go_ite <;> go_prune <;> (try go_simp)) | (split <;> (first | (rename_i hx; exact (hx _ rfl).elim) | go_prune))))
  simp only [hN, hM]
  clear hN hM
  have H2 : Hp w [.row 5 1 _ 2 _] _ := Hp.blkRow H 0 rfl 2 1 rfl (by unfold maxLen; omega)
  clear H C
  go_loopw [5, 6] (fun x ix wr => NsRel N w x ix wr) (fun _ ix _ => N - (intOf ix).toNat)
  case atStart => exact NsRel.mk 1 [5, 0] (Nat.le_refl _) (by omega) rfl (by rw [Nat.sub_self, nest, leaf_whole]) H2
  case round =>
    clear H2
    obtain ⟨i, l, hi0, hi1, rfl, hl, H⟩ := hrel
    obtain ⟨j, rfl⟩ : ∃ j, i = j + 1 := ⟨i - 1, by omega⟩
    rw [Nat.add_sub_cancel] at hl
    have hnl := nest_len j (by omega)
    rw [← hl] at hnl
    have hll : l.length ≤ 80 := by omega
    obtain ⟨Ar, cr, rfl⟩ := own_form (ownsOf H 0 rfl)
    have gl := Kp.mk hl
    have gn := Kp.mk hnl
    have C := Hp.facts H
    simp only [Facts, factsL, and_true, true_and, List.set_cons_zero, List.set_cons_succ, List.setIfInBounds_toArray] at C
    clear hl hnl
    by_cases hlt : j + 1 < N
    · have hlt2 : ((j : Int) + 1) < (N : Int) := by omega
      (repeat' ((fail_if_success (with_reducible show bodyPost _ _ _ _ _ _)); first | ((with_reducible refine Hp.abs_alloc H ?_); intro b' w' H' hb'; (try simp only [hb']); clear hb'; ((try simp only [List.set_cons_zero, List.set_cons_succ, List.setIfInBounds_toArray] at H'); clear C H; have H := H'; clear H'; have C := Hp.facts H; simp only [Facts, factsL, and_true, true_and, List.set_cons_zero, List.set_cons_succ, List.setIfInBounds_toArray] at C)) | ((with_reducible show wpList _ _ _ _ _ (World.setCell _ _ _)); (with_reducible apply Hp.abs_gen H); (first | ((repeat (with_reducible apply Hp.set' 0)); (with_reducible exact H); (repeat rfl); intro w' H') | ((repeat (with_reducible apply Hp.set' 1)); (with_reducible exact H); (repeat rfl); intro w' H') | ((repeat (with_reducible apply Hp.set' 2)); (with_reducible exact H); (repeat rfl); intro w' H') | ((repeat (with_reducible apply Hp.set' 3)); (with_reducible exact H); (repeat rfl); intro w' H') | ((repeat (with_reducible apply Hp.set' 4)); (with_reducible exact H); (repeat rfl); intro w' H') | ((repeat (with_reducible apply Hp.set' 5)); (with_reducible exact H); (repeat rfl); intro w' H') | ((repeat (with_reducible apply Hp.set' 6)); (with_reducible exact H); (repeat rfl); intro w' H') | ((repeat (with_reducible apply Hp.set' 7)); (with_reducible exact H); (repeat rfl); intro w' H')); ((try simp only [List.set_cons_zero, List.set_cons_succ, List.setIfInBounds_toArray] at H'); clear C H; have H := H'; clear H'; have C := Hp.facts H; simp only [Facts, factsL, and_true, true_and, List.set_cons_zero, List.set_cons_succ, List.setIfInBounds_toArray] at C)) | (at_builtin; (have H3 := Hp.blkRow H 0 rfl 2 1 rfl (by unfold maxLen; omega)); (refine wpList_append_hp H3 0 rfl _ _ _ rfl Try.underlying24 hi hz0 hz1 hz2 rfl (by decide) rfl rfl rfl (news := l.map u8c) (show Bs _ _ l from Hp.row H3 1 rfl).src.2.1 (show Bs _ _ l from Hp.row H3 1 rfl).src.1 (show Bs _ _ l from Hp.row H3 1 rfl).src.2.2 (u8c_one _) (by unfold maxLen; omega) (by omega) ?_); intro v' w' H'; (obtain ⟨Av, cw, rfl⟩ := own_form (ownsOf H' 0 rfl)); clear H3; ((try simp only [List.set_cons_zero, List.set_cons_succ, List.setIfInBounds_toArray] at H'); clear C H; have H := H'; clear H'; have C := Hp.facts H; simp only [Facts, factsL, and_true, true_and, List.set_cons_zero, List.set_cons_succ, List.setIfInBounds_toArray] at C)) | go_values | go_skip | go_guarded | go_step | go_upon | go_back | (simp only [Int.not_lt, Int.not_le] at *; go_simp) | (go_values <;> (try go_simp)) | (go_ite <;> go_prune <;> (try go_simp)) | (split <;> (first | (rename_i hx; exact (hx _ rfl).elim) | go_prune))))
      have e2 : u8c (byteI ((2 * (j + 1) : Nat) : Int)) = .int .u8 (l.length : Int) := by rw [u8c_byte (by omega) (by omega), gn.out.1]
      have e3 : u8c 48 = .int .u8 48 := rfl
      refine ⟨NsRel.mk (j + 2) (48 :: byteI ((2 * (j + 1) : Nat) : Int) :: l) (by omega) (by omega) (by go_num) (by rw [show j + 2 - 1 = j + 1 by omega, gn.out.2]) ?_, by simp [intOf]; omega⟩
      rw [List.map_cons, List.map_cons, e2, e3, List.length_cons, List.length_cons, show l.length + 1 + 1 = 2 + l.length by omega]
      exact H.sel [0] (by decide)
    · obtain rfl : N = j + 1 := by omega
      have hlt2 : ¬ ((j : Int) + 1) < ((j + 1 : Nat) : Int) := by omega
      have e5 : ((j + 1 : Nat) : Int) = (j : Int) + 1 := by omega
      simp only [e5]
      (repeat' ((fail_if_success (with_reducible show bodyPost _ _ _ _ _ _)); first | ((with_reducible refine Hp.abs_alloc H ?_); intro b' w' H' hb'; (try simp only [hb']); clear hb'; ((try simp only [List.set_cons_zero, List.set_cons_succ, List.setIfInBounds_toArray] at H'); clear C H; have H := H'; clear H'; have C := Hp.facts H; simp only [Facts, factsL, and_true, true_and, List.set_cons_zero, List.set_cons_succ, List.setIfInBounds_toArray] at C)) | ((with_reducible show wpList _ _ _ _ _ (World.setCell _ _ _)); (with_reducible apply Hp.abs_gen H); (first | ((repeat (with_reducible apply Hp.set' 0)); (with_reducible exact H); (repeat rfl); intro w' H') | ((repeat (with_reducible apply Hp.set' 1)); (with_reducible exact H); (repeat rfl); intro w' H') | ((repeat (with_reducible apply Hp.set' 2)); (with_reducible exact H); (repeat rfl); intro w' H') | ((repeat (with_reducible apply Hp.set' 3)); (with_reducible exact H); (repeat rfl); intro w' H') | ((repeat (with_reducible apply Hp.set' 4)); (with_reducible exact H); (repeat rfl); intro w' H') | ((repeat (with_reducible apply Hp.set' 5)); (with_reducible exact H); (repeat rfl); intro w' H') | ((repeat (with_reducible apply Hp.set' 6)); (with_reducible exact H); (repeat rfl); intro w' H') | ((repeat (with_reducible apply Hp.set' 7)); (with_reducible exact H); (repeat rfl); intro w' H')); ((try simp only [List.set_cons_zero, List.set_cons_succ, List.setIfInBounds_toArray] at H'); clear C H; have H := H'; clear H'; have C := Hp.facts H; simp only [Facts, factsL, and_true, true_and, List.set_cons_zero, List.set_cons_succ, List.setIfInBounds_toArray] at C)) | go_values | go_skip | go_guarded | go_step | go_upon | go_back | (simp only [Int.not_lt, Int.not_le] at *; go_simp) | (go_values <;> (try go_simp)) | (go_ite <;> go_prune <;> (try go_simp)) | (split <;> (first | (rename_i hx; exact (hx _ rfl).elim) | go_prune))))
      refine (iparse_any l _ _ (bs_row H 0 rfl) (by omega)).mono ?_
      intro e' w3 hP
      rw [gl.out] at hP
      obtain ⟨x0, x1, x2, xA, xB, xk, xc, xm, xd, er, Ox, rfl, H2, her, hx⟩ := deepPar H hN1 hN0 hP
      have gx := Kp.mk hx
      replace her := Kp.mk her
      clear hP hx H C gl gn
      have H := H2
      clear H2
      simp only [List.cons_append, List.nil_append] at H
      have C := Hp.facts H
      simp only [Facts, factsL, and_true, true_and, List.set_cons_zero, List.set_cons_succ, List.setIfInBounds_toArray] at C
      (repeat' ((fail_if_success (with_reducible show bodyPost _ _ _ _ _ _)); first | ((with_reducible refine Hp.abs_alloc H ?_); intro b' w' H' hb'; (try simp only [hb']); clear hb'; ((try simp only [List.set_cons_zero, List.set_cons_succ, List.setIfInBounds_toArray] at H'); clear C H; have H := H'; clear H'; have C := Hp.facts H; simp only [Facts, factsL, and_true, true_and, List.set_cons_zero, List.set_cons_succ, List.setIfInBounds_toArray] at C)) | ((with_reducible show wpList _ _ _ _ _ (World.setCell _ _ _)); (with_reducible apply Hp.abs_gen H); (first | ((repeat (with_reducible apply Hp.set' 0)); (with_reducible exact H); (repeat rfl); intro w' H') | ((repeat (with_reducible apply Hp.set' 1)); (with_reducible exact H); (repeat rfl); intro w' H') | ((repeat (with_reducible apply Hp.set' 2)); (with_reducible exact H); (repeat rfl); intro w' H') | ((repeat (with_reducible apply Hp.set' 3)); (with_reducible exact H); (repeat rfl); intro w' H') | ((repeat (with_reducible apply Hp.set' 4)); (with_reducible exact H); (repeat rfl); intro w' H') | ((repeat (with_reducible apply Hp.set' 5)); (with_reducible exact H); (repeat rfl); intro w' H') | ((repeat (with_reducible apply Hp.set' 6)); (with_reducible exact H); (repeat rfl); intro w' H') | ((repeat (with_reducible apply Hp.set' 7)); (with_reducible exact H); (repeat rfl); intro w' H')); ((try simp only [List.set_cons_zero, List.set_cons_succ, List.setIfInBounds_toArray] at H'); clear C H; have H := H'; clear H'; have C := Hp.facts H; simp only [Facts, factsL, and_true, true_and, List.set_cons_zero, List.set_cons_succ, List.setIfInBounds_toArray] at C)) | go_values | go_skip | go_guarded | go_step | go_upon | go_back | (simp only [Int.not_lt, Int.not_le] at *; go_simp) | (go_values <;> (try go_simp)) | (go_ite <;> go_prune <;> (try go_simp)) | (split <;> (first | (rename_i hx; exact (hx _ rfl).elim) | go_prune))))
      (obtain ⟨b10, rfl⟩ := Hp.name H 0 rfl; obtain ⟨b9, rfl⟩ := Hp.name H 1 rfl; obtain ⟨b7, rfl⟩ := Hp.name H 2 rfl)
      have H2 := Hp.selA (M := Ox) [_, _, _, _, _, _] ((H.nilRow 41 5).nilRow 5 1) [3, 1, 2, 0, 4] (by decide)
      clear H C
      go_loopw [11, 12] (fun x ix wr => MkRel M w (.blk b7 #[.int .i64 x0, .int .i64 x1, .bool x2, .slice xA xk xc, .slice xB xm xd] 41 :: Ox) b9 (.blk b10 #[.int .i64 0, .int .i64 5, .bool false, .slice none 0 0, .slice none 0 0] 41) x ix wr) (fun _ ix _ => M - (intOf ix).toNat)
      case atStart => exact MkRel.mk 0 [] _ _ (by omega) rfl KidsL.zero H2
      case round =>
        clear H2
        obtain ⟨i, vals, A, c, hi0, rfl, hk, H⟩ := hrel
        have hll := leaves_len i
        obtain ⟨Ar, cr, rfl⟩ := own_form (ownsOf H 3 rfl)
        have gk := Kp.mk hk
        have C := Hp.facts H
        simp only [Facts, factsL, and_true, true_and, List.set_cons_zero, List.set_cons_succ, List.setIfInBounds_toArray] at C
        clear hk
        by_cases hlt : i + 1 < M
        · have hlt2 : ((i : Int) + 1) < (M : Int) := by omega
          have e7 : ((i + 1 : Nat) : Int) = (i : Int) + 1 := by omega
          simp only [e7]
          (repeat' ((fail_if_success (with_reducible show bodyPost _ _ _ _ _ _)); first | ((with_reducible refine Hp.abs_alloc H ?_); intro b' w' H' hb'; (try simp only [hb']); clear hb'; ((try simp only [List.set_cons_zero, List.set_cons_succ, List.setIfInBounds_toArray] at H'); clear C H; have H := H'; clear H'; have C := Hp.facts H; simp only [Facts, factsL, and_true, true_and, List.set_cons_zero, List.set_cons_succ, List.setIfInBounds_toArray] at C)) | ((with_reducible show wpList _ _ _ _ _ (World.setCell _ _ _)); (with_reducible apply Hp.abs_gen H); (first | ((repeat (with_reducible apply Hp.set' 0)); (with_reducible exact H); (repeat rfl); intro w' H') | ((repeat (with_reducible apply Hp.set' 1)); (with_reducible exact H); (repeat rfl); intro w' H') | ((repeat (with_reducible apply Hp.set' 2)); (with_reducible exact H); (repeat rfl); intro w' H') | ((repeat (with_reducible apply Hp.set' 3)); (with_reducible exact H); (repeat rfl); intro w' H') | ((repeat (with_reducible apply Hp.set' 4)); (with_reducible exact H); (repeat rfl); intro w' H') | ((repeat (with_reducible apply Hp.set' 5)); (with_reducible exact H); (repeat rfl); intro w' H') | ((repeat (with_reducible apply Hp.set' 6)); (with_reducible exact H); (repeat rfl); intro w' H') | ((repeat (with_reducible apply Hp.set' 7)); (with_reducible exact H); (repeat rfl); intro w' H')); ((try simp only [List.set_cons_zero, List.set_cons_succ, List.setIfInBounds_toArray] at H'); clear C H; have H := H'; clear H'; have C := Hp.facts H; simp only [Facts, factsL, and_true, true_and, List.set_cons_zero, List.set_cons_succ, List.setIfInBounds_toArray] at C)) | (at_builtin; (refine wpList_append_hp H 2 rfl _ _ _ rfl Try.underlying39 hi5 hz50 hz51 hz52 rfl (by decide) rfl rfl rfl (news := [_, _, _, _, _]) rfl (fun h => by cases h) (fun _ => ⟨_, rfl, blk_news (H.get 0 rfl)⟩) (by simp [Value.oneCell']) (by unfold maxLen; omega) (by omega) ?_); intro v' w' H'; (obtain ⟨Av, cw, rfl⟩ := own_form (ownsOf H' 2 rfl)); ((try simp only [List.set_cons_zero, List.set_cons_succ, List.setIfInBounds_toArray] at H'); clear C H; have H := H'; clear H'; have C := Hp.facts H; simp only [Facts, factsL, and_true, true_and, List.set_cons_zero, List.set_cons_succ, List.setIfInBounds_toArray] at C)) | (at_builtin; (refine wpList_append_hp H 5 rfl _ _ _ rfl Try.underlying24 hi hz0 hz1 hz2 rfl (by decide) rfl rfl rfl (news := [_, _]) rfl (fun h => by cases h) (fun _ => ⟨_, rfl, blk_news (H.get 0 rfl)⟩) (by simp [Value.oneCell']) (by unfold maxLen; omega) (by omega) ?_); intro v' w' H'; (obtain ⟨Aw, cv, rfl⟩ := own_form (ownsOf H' 5 rfl)); ((try simp only [List.set_cons_zero, List.set_cons_succ, List.setIfInBounds_toArray] at H'); clear C H; have H := H'; clear H'; have C := Hp.facts H; simp only [Facts, factsL, and_true, true_and, List.set_cons_zero, List.set_cons_succ, List.setIfInBounds_toArray] at C)) | go_values | go_skip | go_guarded | go_step | go_upon | go_back | (simp only [Int.not_lt, Int.not_le] at *; go_simp) | (go_values <;> (try go_simp)) | (go_ite <;> go_prune <;> (try go_simp)) | (split <;> (first | (rename_i hx; exact (hx _ rfl).elim) | go_prune))))
          refine ⟨MkRel.mk (i + 1) _ Av cw (by omega) (by go_num) (by have h := gk.out.next (leaf_firm w); rw [List.replicate_succ']; exact h) ?_, by simp [intOf]; omega⟩
          rw [leaves_succ, List.map_append]
          exact Hp.selA (M := Ox) [_, _, _, _, _, _, _] H [2, 3, 4, 5, 6] (by decide)
        · obtain rfl : M = i + 1 := by omega
          have hlt2 : ¬ ((i : Int) + 1) < ((i + 1 : Nat) : Int) := by omega
          have e7 : ((i + 1 : Nat) : Int) = (i : Int) + 1 := by omega
          simp only [e7]
          obtain ⟨V, hV⟩ : ∃ V, V = leavesL i := ⟨_, rfl⟩
          rw [← hV] at H hll
          replace hV := Kp.mk hV
          (repeat' ((fail_if_success (with_reducible show bodyPost _ _ _ _ _ _)); first | ((with_reducible refine Hp.abs_alloc H ?_); intro b' w' H' hb'; (try simp only [hb']); clear hb'; ((try simp only [List.set_cons_zero, List.set_cons_succ, List.setIfInBounds_toArray] at H'); clear C H; have H := H'; clear H'; have C := Hp.facts H; simp only [Facts, factsL, and_true, true_and, List.set_cons_zero, List.set_cons_succ, List.setIfInBounds_toArray] at C)) | ((with_reducible show wpList _ _ _ _ _ (World.setCell _ _ _)); (with_reducible apply Hp.abs_gen H); (first | ((repeat (with_reducible apply Hp.set' 0)); (with_reducible exact H); (repeat rfl); intro w' H') | ((repeat (with_reducible apply Hp.set' 1)); (with_reducible exact H); (repeat rfl); intro w' H') | ((repeat (with_reducible apply Hp.set' 2)); (with_reducible exact H); (repeat rfl); intro w' H') | ((repeat (with_reducible apply Hp.set' 3)); (with_reducible exact H); (repeat rfl); intro w' H') | ((repeat (with_reducible apply Hp.set' 4)); (with_reducible exact H); (repeat rfl); intro w' H') | ((repeat (with_reducible apply Hp.set' 5)); (with_reducible exact H); (repeat rfl); intro w' H') | ((repeat (with_reducible apply Hp.set' 6)); (with_reducible exact H); (repeat rfl); intro w' H') | ((repeat (with_reducible apply Hp.set' 7)); (with_reducible exact H); (repeat rfl); intro w' H')); ((try simp only [List.set_cons_zero, List.set_cons_succ, List.setIfInBounds_toArray] at H'); clear C H; have H := H'; clear H'; have C := Hp.facts H; simp only [Facts, factsL, and_true, true_and, List.set_cons_zero, List.set_cons_succ, List.setIfInBounds_toArray] at C)) | (at_builtin; (have H3 := Hp.blkRow H 0 rfl 4 1 rfl (by unfold maxLen; omega)); (refine wpList_append_hp H3 0 rfl _ _ _ rfl Try.underlying24 hi hz0 hz1 hz2 rfl (by decide) rfl rfl rfl (news := V.map u8c) (bs_row2 H3 4 hll rfl).src.2.1 (bs_row2 H3 4 hll rfl).src.1 (bs_row2 H3 4 hll rfl).src.2.2 (u8c_one _) (by unfold maxLen; omega) (by omega) ?_); intro v' w' H'; (obtain ⟨Aw, cv, rfl⟩ := own_form (ownsOf H' 0 rfl)); clear H3; ((try simp only [List.set_cons_zero, List.set_cons_succ, List.setIfInBounds_toArray] at H'); clear C H; have H := H'; clear H'; have C := Hp.facts H; simp only [Facts, factsL, and_true, true_and, List.set_cons_zero, List.set_cons_succ, List.setIfInBounds_toArray] at C)) | go_values | go_skip | go_guarded | go_step | go_upon | go_back | (simp only [Int.not_lt, Int.not_le] at *; go_simp) | (go_values <;> (try go_simp)) | (go_ite <;> go_prune <;> (try go_simp)) | (split <;> (first | (rename_i hx; exact (hx _ rfl).elim) | go_prune))))
          have gM := Kp.mk (many_bytes (i := i) (by omega) (by omega))
          have gN := Kp.mk (many_len (i := i) (by omega) (by omega))
          have hpr := fun w1 cs (h : ItP (· < w1.heap.size) w1 2 (manyT i) cs) => print_any 2 (manyT i) cs w1 h (by rw [(many_facts i).2.2.1]; omega) (by rw [(many_facts i).2.2.2]; omega)
          rw [many_print (by omega) (by omega)] at hpr
          replace hpr := Kp.mk hpr
          rw [hV.out, gM.out] at H
          obtain ⟨W, hW⟩ : ∃ W, W = wholeT (manyT i) := ⟨_, rfl⟩
          simp only [← hW] at H gN hpr
          have gl2 := gN.out
          replace hW := Kp.mk hW
          have H2 : Hp w (.row 41 5 (.slice A i c) i vals :: .row 5 1 (.slice Aw (4 + 2 * i) cv) (4 + 2 * i) (W.map u8c) :: .blk b9 #[.int .i64 0, .int .i64 16, .bool true, .slice none 0 0, .slice A i c] 41 :: .blk b7 #[.int .i64 x0, .int .i64 x1, .bool x2, .slice xA xk xc, .slice xB xm xd] 41 :: Ox) _ := Hp.selA (M := Ox) [_, _, _, _, _, _] H [2, 0, 1, 5] (by decide)
          have H3 := kids_row H2 (List.replicate i leafT) List.length_replicate
          obtain ⟨Os1, H4, hT⟩ := KidsL.tree (tg := ⟨0, 16, true⟩) gk.out H3 Firm.nilBs
          simp only [List.nil_append] at hT
          replace hT := Kp.mk hT
          clear H C H2 H3 gM gN hV gk hll
          have H := H4
          clear H4
          simp only [List.cons_append, List.nil_append] at H
          have C := Hp.facts H
          simp only [Facts, factsL, and_true, true_and, List.set_cons_zero, List.set_cons_succ, List.setIfInBounds_toArray] at C
          refine (iparse_any W _ _ (bs_row2 H 0 gl2 rfl) (by omega)).mono ?_
          intro e' w4 hP
          rw [hW.out] at hP
          obtain ⟨y0, y1, y2, yA, yB, yk, yc, ym, yd, er2, rfl, H2, her2⟩ := manyPar H (by omega) (by omega) hP
          clear hP H C
          have H := H2
          clear H2
          have C := Hp.facts H
          simp only [Facts, factsL, and_true, true_and, List.set_cons_zero, List.set_cons_succ, List.setIfInBounds_toArray] at C
          replace her2 := Kp.mk her2
          (repeat' ((fail_if_success (with_reducible show bodyPost _ _ _ _ _ _)); first | ((with_reducible refine Hp.abs_alloc H ?_); intro b' w' H' hb'; (try simp only [hb']); clear hb'; ((try simp only [List.set_cons_zero, List.set_cons_succ, List.setIfInBounds_toArray] at H'); clear C H; have H := H'; clear H'; have C := Hp.facts H; simp only [Facts, factsL, and_true, true_and, List.set_cons_zero, List.set_cons_succ, List.setIfInBounds_toArray] at C)) | ((with_reducible show wpList _ _ _ _ _ (World.setCell _ _ _)); (with_reducible apply Hp.abs_gen H); (first | ((repeat (with_reducible apply Hp.set' 0)); (with_reducible exact H); (repeat rfl); intro w' H') | ((repeat (with_reducible apply Hp.set' 1)); (with_reducible exact H); (repeat rfl); intro w' H') | ((repeat (with_reducible apply Hp.set' 2)); (with_reducible exact H); (repeat rfl); intro w' H') | ((repeat (with_reducible apply Hp.set' 3)); (with_reducible exact H); (repeat rfl); intro w' H') | ((repeat (with_reducible apply Hp.set' 4)); (with_reducible exact H); (repeat rfl); intro w' H') | ((repeat (with_reducible apply Hp.set' 5)); (with_reducible exact H); (repeat rfl); intro w' H') | ((repeat (with_reducible apply Hp.set' 6)); (with_reducible exact H); (repeat rfl); intro w' H') | ((repeat (with_reducible apply Hp.set' 7)); (with_reducible exact H); (repeat rfl); intro w' H')); ((try simp only [List.set_cons_zero, List.set_cons_succ, List.setIfInBounds_toArray] at H'); clear C H; have H := H'; clear H'; have C := Hp.facts H; simp only [Facts, factsL, and_true, true_and, List.set_cons_zero, List.set_cons_succ, List.setIfInBounds_toArray] at C)) | go_values | go_skip | go_guarded | go_step | go_upon | go_back | (simp only [Int.not_lt, Int.not_le] at *; go_simp) | (go_values <;> (try go_simp)) | (go_ite <;> go_prune <;> (try go_simp)) | (split <;> (first | (rename_i hx; exact (hx _ rfl).elim) | go_prune))))
          have hD : j + 1 ≤ 32 → ∀ w2 L2, Hp w L2 w2 → (∀ x ∈ Ox, x ∈ L2) → Calls Try.prog 27 #[.agg #[.int .i64 x0, .int .i64 x1, .bool x2, .slice xA xk xc, .slice xB xm xd]] w2 fun e w' => e = .returned (.int .i64 ((j : Int) + 1)) ∧ Below w2.heap.size w2 w' := fun h w2 L2 H2 hs => by
            have h1 := depth_any 32 (nest j) _ w2 ((gx.out h _ _ H2 hs).weak fun b _ hl => hl) (by rw [(nest_facts j).2.2]; omega)
            rw [(nest_facts j).2.1] at h1
            exact h1
          replace hD := Kp.mk hD
          have hTk := (hT.out _ _ H (fun x hx => by simp [hx])).weak (Q := (· < w'.heap.size)) fun b _ hl => hl
          rcases her2.out with ⟨h2, rfl⟩ | ⟨h2, rfl⟩
          · simp only [if_pos h2] at hpr
            have hle2 : ¬ (10000 : Int) < (i : Int) + 1 := by omega
            refine (hpr.out _ _ hTk).mono ?_
            rintro e' w5 ⟨⟨v', rfl, ho⟩, hb'⟩
            simp only [gl2] at ho
            have H' := H.adopt hb' (.row 5 1 v' _ _) ho
            obtain ⟨Ab, cb, rfl⟩ := own_form ho
            clear ho hb' hTk hpr gx hT her2
            ((try simp only [List.set_cons_zero, List.set_cons_succ, List.setIfInBounds_toArray] at H'); clear C H; have H := H'; clear H'; have C := Hp.facts H; simp only [Facts, factsL, and_true, true_and, List.set_cons_zero, List.set_cons_succ, List.setIfInBounds_toArray] at C)
            rcases her.out with ⟨h3, rfl⟩ | ⟨h3, rfl⟩
            · have hlt3 : ¬ (32 : Int) < (j : Int) + 1 := by omega
              have hle3 : (j : Int) + 1 ≤ 32 := by omega
              clear her
              (repeat' ((fail_if_success (with_reducible show bodyPost _ _ _ _ _ _)); first | ((with_reducible refine Hp.abs_alloc H ?_); intro b' w' H' hb'; (try simp only [hb']); clear hb'; ((try simp only [List.set_cons_zero, List.set_cons_succ, List.setIfInBounds_toArray] at H'); clear C H; have H := H'; clear H'; have C := Hp.facts H; simp only [Facts, factsL, and_true, true_and, List.set_cons_zero, List.set_cons_succ, List.setIfInBounds_toArray] at C)) | ((with_reducible show wpList _ _ _ _ _ (World.setCell _ _ _)); (with_reducible apply Hp.abs_gen H); (first | ((repeat (with_reducible apply Hp.set' 0)); (with_reducible exact H); (repeat rfl); intro w' H') | ((repeat (with_reducible apply Hp.set' 1)); (with_reducible exact H); (repeat rfl); intro w' H') | ((repeat (with_reducible apply Hp.set' 2)); (with_reducible exact H); (repeat rfl); intro w' H') | ((repeat (with_reducible apply Hp.set' 3)); (with_reducible exact H); (repeat rfl); intro w' H') | ((repeat (with_reducible apply Hp.set' 4)); (with_reducible exact H); (repeat rfl); intro w' H') | ((repeat (with_reducible apply Hp.set' 5)); (with_reducible exact H); (repeat rfl); intro w' H') | ((repeat (with_reducible apply Hp.set' 6)); (with_reducible exact H); (repeat rfl); intro w' H') | ((repeat (with_reducible apply Hp.set' 7)); (with_reducible exact H); (repeat rfl); intro w' H')); ((try simp only [List.set_cons_zero, List.set_cons_succ, List.setIfInBounds_toArray] at H'); clear C H; have H := H'; clear H'; have C := Hp.facts H; simp only [Facts, factsL, and_true, true_and, List.set_cons_zero, List.set_cons_succ, List.setIfInBounds_toArray] at C)) | (go_at_call 27; refine (hD.out h3 _ _ H (fun x hx => by simp [hx])).mono ?_; rintro e' w' ⟨rfl, hb'⟩; (have H' := Hp.step H hb'; clear hb'; ((try simp only [List.set_cons_zero, List.set_cons_succ, List.setIfInBounds_toArray] at H'); clear C H; have H := H'; clear H'; have C := Hp.facts H; simp only [Facts, factsL, and_true, true_and, List.set_cons_zero, List.set_cons_succ, List.setIfInBounds_toArray] at C))) | (go_at_call 9; refine (known7_any _).mono ?_; rintro e' w' ⟨rfl, hb'⟩; (have H' := Hp.step H hb'; clear hb'; ((try simp only [List.set_cons_zero, List.set_cons_succ, List.setIfInBounds_toArray] at H'); clear C H; have H := H'; clear H'; have C := Hp.facts H; simp only [Facts, factsL, and_true, true_and, List.set_cons_zero, List.set_cons_succ, List.setIfInBounds_toArray] at C))) | (go_at_call 20; refine (same_self_any W _ _ _ (bs_row2 H 0 gl2 rfl) (bs_row2 H 2 gl2 rfl) (by omega)).mono ?_; rintro e' w' ⟨rfl, hb'⟩; (have H' := Hp.step H hb'; clear hb'; ((try simp only [List.set_cons_zero, List.set_cons_succ, List.setIfInBounds_toArray] at H'); clear C H; have H := H'; clear H'; have C := Hp.facts H; simp only [Facts, factsL, and_true, true_and, List.set_cons_zero, List.set_cons_succ, List.setIfInBounds_toArray] at C))) | go_values | go_skip | go_guarded | go_step | go_upon | go_back | (simp only [Int.not_lt, Int.not_le] at *; go_simp) | (go_values <;> (try go_simp)) | (go_ite <;> go_prune <;> (try go_simp)) | (split <;> (first | (rename_i hx; exact (hx _ rfl).elim) | go_prune))))
              go_ret
              exact ⟨rfl, H.low⟩
            · have hlt3 : (32 : Int) < (j : Int) + 1 := by omega
              have hle3 : ¬ (j : Int) + 1 ≤ 32 := by omega
              clear her
              (repeat' ((fail_if_success (with_reducible show bodyPost _ _ _ _ _ _)); first | ((with_reducible refine Hp.abs_alloc H ?_); intro b' w' H' hb'; (try simp only [hb']); clear hb'; ((try simp only [List.set_cons_zero, List.set_cons_succ, List.setIfInBounds_toArray] at H'); clear C H; have H := H'; clear H'; have C := Hp.facts H; simp only [Facts, factsL, and_true, true_and, List.set_cons_zero, List.set_cons_succ, List.setIfInBounds_toArray] at C)) | ((with_reducible show wpList _ _ _ _ _ (World.setCell _ _ _)); (with_reducible apply Hp.abs_gen H); (first | ((repeat (with_reducible apply Hp.set' 0)); (with_reducible exact H); (repeat rfl); intro w' H') | ((repeat (with_reducible apply Hp.set' 1)); (with_reducible exact H); (repeat rfl); intro w' H') | ((repeat (with_reducible apply Hp.set' 2)); (with_reducible exact H); (repeat rfl); intro w' H') | ((repeat (with_reducible apply Hp.set' 3)); (with_reducible exact H); (repeat rfl); intro w' H') | ((repeat (with_reducible apply Hp.set' 4)); (with_reducible exact H); (repeat rfl); intro w' H') | ((repeat (with_reducible apply Hp.set' 5)); (with_reducible exact H); (repeat rfl); intro w' H') | ((repeat (with_reducible apply Hp.set' 6)); (with_reducible exact H); (repeat rfl); intro w' H') | ((repeat (with_reducible apply Hp.set' 7)); (with_reducible exact H); (repeat rfl); intro w' H')); ((try simp only [List.set_cons_zero, List.set_cons_succ, List.setIfInBounds_toArray] at H'); clear C H; have H := H'; clear H'; have C := Hp.facts H; simp only [Facts, factsL, and_true, true_and, List.set_cons_zero, List.set_cons_succ, List.setIfInBounds_toArray] at C)) | (go_at_call 9; refine (known7_any _).mono ?_; rintro e' w' ⟨rfl, hb'⟩; (have H' := Hp.step H hb'; clear hb'; ((try simp only [List.set_cons_zero, List.set_cons_succ, List.setIfInBounds_toArray] at H'); clear C H; have H := H'; clear H'; have C := Hp.facts H; simp only [Facts, factsL, and_true, true_and, List.set_cons_zero, List.set_cons_succ, List.setIfInBounds_toArray] at C))) | (go_at_call 20; refine (same_self_any W _ _ _ (bs_row2 H 0 gl2 rfl) (bs_row2 H 2 gl2 rfl) (by omega)).mono ?_; rintro e' w' ⟨rfl, hb'⟩; (have H' := Hp.step H hb'; clear hb'; ((try simp only [List.set_cons_zero, List.set_cons_succ, List.setIfInBounds_toArray] at H'); clear C H; have H := H'; clear H'; have C := Hp.facts H; simp only [Facts, factsL, and_true, true_and, List.set_cons_zero, List.set_cons_succ, List.setIfInBounds_toArray] at C))) | go_values | go_skip | go_guarded | go_step | go_upon | go_back | (simp only [Int.not_lt, Int.not_le] at *; go_simp) | (go_values <;> (try go_simp)) | (go_ite <;> go_prune <;> (try go_simp)) | (split <;> (first | (rename_i hx; exact (hx _ rfl).elim) | go_prune))))
              go_ret
              exact ⟨rfl, H.low⟩
          · simp only [if_neg (show ¬ i ≤ 9999 by omega)] at hpr
            have hle2 : (10000 : Int) < (i : Int) + 1 := by omega
            refine (hpr.out _ _ hTk).mono ?_
            rintro e' w5 ⟨⟨v', rfl, ho⟩, hb'⟩
            simp only [List.length_nil, List.map_nil] at ho
            have H' := H.adopt hb' (.row 5 1 v' _ _) ho
            obtain ⟨Ab, cb, rfl⟩ := own_form ho
            clear ho hb' hTk hpr gx hT her2
            ((try simp only [List.set_cons_zero, List.set_cons_succ, List.setIfInBounds_toArray] at H'); clear C H; have H := H'; clear H'; have C := Hp.facts H; simp only [Facts, factsL, and_true, true_and, List.set_cons_zero, List.set_cons_succ, List.setIfInBounds_toArray] at C)
            rcases her.out with ⟨h3, rfl⟩ | ⟨h3, rfl⟩
            · have hlt3 : ¬ (32 : Int) < (j : Int) + 1 := by omega
              have hle3 : (j : Int) + 1 ≤ 32 := by omega
              clear her
              (repeat' ((fail_if_success (with_reducible show bodyPost _ _ _ _ _ _)); first | ((with_reducible refine Hp.abs_alloc H ?_); intro b' w' H' hb'; (try simp only [hb']); clear hb'; ((try simp only [List.set_cons_zero, List.set_cons_succ, List.setIfInBounds_toArray] at H'); clear C H; have H := H'; clear H'; have C := Hp.facts H; simp only [Facts, factsL, and_true, true_and, List.set_cons_zero, List.set_cons_succ, List.setIfInBounds_toArray] at C)) | ((with_reducible show wpList _ _ _ _ _ (World.setCell _ _ _)); (with_reducible apply Hp.abs_gen H); (first | ((repeat (with_reducible apply Hp.set' 0)); (with_reducible exact H); (repeat rfl); intro w' H') | ((repeat (with_reducible apply Hp.set' 1)); (with_reducible exact H); (repeat rfl); intro w' H') | ((repeat (with_reducible apply Hp.set' 2)); (with_reducible exact H); (repeat rfl); intro w' H') | ((repeat (with_reducible apply Hp.set' 3)); (with_reducible exact H); (repeat rfl); intro w' H') | ((repeat (with_reducible apply Hp.set' 4)); (with_reducible exact H); (repeat rfl); intro w' H') | ((repeat (with_reducible apply Hp.set' 5)); (with_reducible exact H); (repeat rfl); intro w' H') | ((repeat (with_reducible apply Hp.set' 6)); (with_reducible exact H); (repeat rfl); intro w' H') | ((repeat (with_reducible apply Hp.set' 7)); (with_reducible exact H); (repeat rfl); intro w' H')); ((try simp only [List.set_cons_zero, List.set_cons_succ, List.setIfInBounds_toArray] at H'); clear C H; have H := H'; clear H'; have C := Hp.facts H; simp only [Facts, factsL, and_true, true_and, List.set_cons_zero, List.set_cons_succ, List.setIfInBounds_toArray] at C)) | (go_at_call 27; refine (hD.out h3 _ _ H (fun x hx => by simp [hx])).mono ?_; rintro e' w' ⟨rfl, hb'⟩; (have H' := Hp.step H hb'; clear hb'; ((try simp only [List.set_cons_zero, List.set_cons_succ, List.setIfInBounds_toArray] at H'); clear C H; have H := H'; clear H'; have C := Hp.facts H; simp only [Facts, factsL, and_true, true_and, List.set_cons_zero, List.set_cons_succ, List.setIfInBounds_toArray] at C))) | (go_at_call 9; refine (known7_any _).mono ?_; rintro e' w' ⟨rfl, hb'⟩; (have H' := Hp.step H hb'; clear hb'; ((try simp only [List.set_cons_zero, List.set_cons_succ, List.setIfInBounds_toArray] at H'); clear C H; have H := H'; clear H'; have C := Hp.facts H; simp only [Facts, factsL, and_true, true_and, List.set_cons_zero, List.set_cons_succ, List.setIfInBounds_toArray] at C))) | go_values | go_skip | go_guarded | go_step | go_upon | go_back | (simp only [Int.not_lt, Int.not_le] at *; go_simp) | (go_values <;> (try go_simp)) | (go_ite <;> go_prune <;> (try go_simp)) | (split <;> (first | (rename_i hx; exact (hx _ rfl).elim) | go_prune))))
              go_ret
              exact ⟨rfl, H.low⟩
            · have hlt3 : (32 : Int) < (j : Int) + 1 := by omega
              have hle3 : ¬ (j : Int) + 1 ≤ 32 := by omega
              clear her
              (repeat' ((fail_if_success (with_reducible show bodyPost _ _ _ _ _ _)); first | ((with_reducible refine Hp.abs_alloc H ?_); intro b' w' H' hb'; (try simp only [hb']); clear hb'; ((try simp only [List.set_cons_zero, List.set_cons_succ, List.setIfInBounds_toArray] at H'); clear C H; have H := H'; clear H'; have C := Hp.facts H; simp only [Facts, factsL, and_true, true_and, List.set_cons_zero, List.set_cons_succ, List.setIfInBounds_toArray] at C)) | ((with_reducible show wpList _ _ _ _ _ (World.setCell _ _ _)); (with_reducible apply Hp.abs_gen H); (first | ((repeat (with_reducible apply Hp.set' 0)); (with_reducible exact H); (repeat rfl); intro w' H') | ((repeat (with_reducible apply Hp.set' 1)); (with_reducible exact H); (repeat rfl); intro w' H') | ((repeat (with_reducible apply Hp.set' 2)); (with_reducible exact H); (repeat rfl); intro w' H') | ((repeat (with_reducible apply Hp.set' 3)); (with_reducible exact H); (repeat rfl); intro w' H') | ((repeat (with_reducible apply Hp.set' 4)); (with_reducible exact H); (repeat rfl); intro w' H') | ((repeat (with_reducible apply Hp.set' 5)); (with_reducible exact H); (repeat rfl); intro w' H') | ((repeat (with_reducible apply Hp.set' 6)); (with_reducible exact H); (repeat rfl); intro w' H') | ((repeat (with_reducible apply Hp.set' 7)); (with_reducible exact H); (repeat rfl); intro w' H')); ((try simp only [List.set_cons_zero, List.set_cons_succ, List.setIfInBounds_toArray] at H'); clear C H; have H := H'; clear H'; have C := Hp.facts H; simp only [Facts, factsL, and_true, true_and, List.set_cons_zero, List.set_cons_succ, List.setIfInBounds_toArray] at C)) | (go_at_call 9; refine (known7_any _).mono ?_; rintro e' w' ⟨rfl, hb'⟩; (have H' := Hp.step H hb'; clear hb'; ((try simp only [List.set_cons_zero, List.set_cons_succ, List.setIfInBounds_toArray] at H'); clear C H; have H := H'; clear H'; have C := Hp.facts H; simp only [Facts, factsL, and_true, true_and, List.set_cons_zero, List.set_cons_succ, List.setIfInBounds_toArray] at C))) | go_values | go_skip | go_guarded | go_step | go_upon | go_back | (simp only [Int.not_lt, Int.not_le] at *; go_simp) | (go_values <;> (try go_simp)) | (go_ite <;> go_prune <;> (try go_simp)) | (split <;> (first | (rename_i hx; exact (hx _ rfl).elim) | go_prune))))
              go_ret
              exact ⟨rfl, H.low⟩
end Go.Proofs.Ytogliinfdfkobaa

