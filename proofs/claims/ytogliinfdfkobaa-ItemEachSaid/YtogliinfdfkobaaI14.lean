/- Lemmas and walks on the way to the seat's laws; each theorem says its own conditions. -/
import Derived.Test.YtogliinfdfkobaaI13
set_option linter.unusedSimpArgs false
set_option linter.unusedVariables false
set_option linter.unusedSimpArgs false
set_option linter.unusedVariables false
set_option maxRecDepth 100000
namespace Go.Proofs.Ytogliinfdfkobaa
open Go.RowKit Go.Mem Go.Reg Oct Hd Go.LawLift Go.Shelf
attribute [local go_sem] Oper.semAt_some
/-- The iterator's box, and the tree in it. -/
def EachT (B : Nat) (Os : List Ent) (n : Nat) (t : Tree) (cs : List Value) (bx : Nat) (W : World) : Prop := W.heap[bx]? = some (.cells cs.toArray 41 (0, 0)) ∧ ItP (Kept B Os) W n t cs
theorem EachT.step {B : Nat} {Os : List Ent} {n : Nat} {t : Tree} {cs : List Value} {bx : Nat} {W W' : World} (h : EachT B Os n t cs bx W) (hb : Below W.heap.size W W') : EachT B Os n t cs bx W' :=
  ⟨(hb.block bx (Array.getElem?_eq_some_iff.1 h.1).1).trans h.1, h.2.step hb⟩
abbrev GoodT (t : Tree) (xs : List TI) : Prop := xs.map TI.is <+: t.told 1
abbrev AllT (t : Tree) (xs : List TI) : Prop := xs.map TI.is = t.told 1
set_option maxHeartbeats 400000 in
theorem each1_seq (w0 : World) (B : Nat) (hB : B ≤ w0.heap.size) (Os : List Ent) (n : Nat) (t : Tree) (cs : List Value) (bx : Nat) (hc : t.count ≤ 1000000) :
    SeqF Try.prog 34 #[.pointer (some ⟨bx, 0, none⟩)] encT w0 (EachT B Os n t cs bx) Os (TOk B Os) (GoodT t) (AllT t) := by
  intro l Lp Lx M L W H hL hT hK hY
  obtain ⟨hbx, ht⟩ := hT
  obtain ⟨d0, d1, d2, d3, d4, rfl⟩ : ∃ d0 d1 d2 d3 d4, cs = [d0, d1, d2, d3, d4] := by
    clear hY hK hL H hbx
    match cs, ht.len with
    | [d0, d1, d2, d3, d4], _ => exact ⟨d0, d1, d2, d3, d4, rfl⟩
  obtain ⟨x0, x1, x2, xA, xA2, xk, xc, xk2, xc2, rfl, rfl, rfl, rfl, rfl⟩ := ht.forms
  have hD := down_any w0 B hB Os l Lp Lx (GoodT t) hK hY n t _ 1 [] M L W ht hL H (fun xs h => h) (by omega)
  have C := fun j => cell_of_row W bx j _ _ (0, 0) hbx
  clear ht
  obtain ⟨R, hR⟩ : ∃ R, R = @DownOut w0 1 t (GoodT t) Lp Lx [] M := ⟨_, rfl⟩
  rw [← hR] at hD
  replace hR := Kp.mk hR
  replace hD : Calls Try.prog 35 #[.agg #[.int .i64 x0, .int .i64 x1, .bool x2, .slice xA xk xc, .slice xA2 xk2 xc2], .int .i64 1, .func (.yield l) #[] #[]] W R := hD
  clear hY hK hL H hbx
  simp only [List.append_toArray, List.cons_append, List.nil_append]
  show Calls Try.prog 34 #[.func (.yield l) #[] #[], .pointer (some ⟨bx, 0, none⟩)] W _
  go_enter Try.func34, Try.ntmps34
  go_wp2_with (go_at_call 35; refine hD.mono ?_; intro e X hX; rw [hR.out] at hX; clear hD hR; obtain ⟨xs, L', H', (⟨rfl, h1, h2⟩ | ⟨rfl, h1, h2⟩)⟩ := hX)
  · go_end0
    exact ⟨⟨_, rfl⟩, xs, L', H', .inl ⟨h1, h2⟩⟩
  · go_end0
    exact ⟨⟨_, rfl⟩, xs, L', H', .inr ⟨h1, h2⟩⟩
set_option maxHeartbeats 1600000 in
theorem each_any (n : Nat) (t : Tree) (cs : List Value) (w : World) (P : Nat → Prop) (ht : ItP P w n t cs) :
    Calls Try.prog 12 #[.agg cs.toArray] w fun e w' => ∃ bx, e = .returned (.func (.func 34) #[] #[.pointer (some ⟨bx, 0, none⟩)]) ∧ ∀ w0 L, Hp w0 L w → Hp w0 (.blk bx cs.toArray 41 :: L) w' := by
  obtain ⟨d0, d1, d2, d3, d4, rfl⟩ : ∃ d0 d1 d2 d3 d4, cs = [d0, d1, d2, d3, d4] := by
    match cs, ht.len with
    | [d0, d1, d2, d3, d4], _ => exact ⟨d0, d1, d2, d3, d4, rfl⟩
  obtain ⟨x0, x1, x2, xA, xA2, xk, xc, xk2, xc2, rfl, rfl, rfl, rfl, rfl⟩ := ht.forms
  clear ht
  go_enter Try.func12, Try.ntmps12
  go_wp2_with (fail)
  go_ret
  exact ⟨_, rfl, fun _ _ H => H.alloc _ _⟩
/-- The list of a count that goes on. -/
abbrev NumL (f : List TI → Nat) (bn : Nat) (T : TypeId) (pre : List TI) (L : List Ent) : Prop := L = [Ent.blk bn #[.int .i64 (f pre : Int)] T]
theorem good_len {t : Tree} {xs : List TI} (h : GoodT t xs) : xs.length ≤ t.count := by
  have := h.length_le
  rw [List.length_map, Tree.told_len] at this
  exact this
set_option maxHeartbeats 1600000 in
theorem depth_any (n : Nat) (t : Tree) (cs : List Value) (w : World) (ht : ItP (· < w.heap.size) w n t cs) (hc : t.count ≤ 1000000) :
    Calls Try.prog 27 #[.agg cs.toArray] w fun e w' => e = .returned (.int .i64 (t.deep : Int)) ∧ Below w.heap.size w w' := by
  have hE := fun w1 (h : Below w.heap.size w w1) => each_any n t cs w1 _ (ht.step h)
  obtain ⟨d0, d1, d2, d3, d4, rfl⟩ : ∃ d0 d1 d2 d3 d4, cs = [d0, d1, d2, d3, d4] := by
    match cs, ht.len with
    | [d0, d1, d2, d3, d4], _ => exact ⟨d0, d1, d2, d3, d4, rfl⟩
  obtain ⟨x0, x1, x2, xA, xA2, xk, xc, xk2, xc2, rfl, rfl, rfl, rfl, rfl⟩ := ht.forms
  have gt := Kp.mk ht
  clear ht
  refine (callsIn_wide (n := 8)).1 (callsIn_of_wp_marks Try.func27 rfl trivial ?_ rfl)
  refine wpIn_wide.2 ?_
  simp only [Try.ntmps27, List.size_toArray, List.length_cons, List.length_nil, Nat.reduceAdd, Nat.reduceSub, Array.replicate_succ, Array.replicate_zero, List.push_toArray, List.append_toArray, List.nil_append, List.cons_append]
  have H := Hp.start w
  have C : True := trivial
  (repeat' ((fail_if_success (with_reducible show bodyPost _ _ _ _ _ _)); first | ((with_reducible refine Hp.abs_alloc H ?_); intro b' w' H' hb'; (try simp only [hb']); clear hb'; ((try simp only [List.set_cons_zero, List.set_cons_succ, List.setIfInBounds_toArray] at H'); clear C H; have H := H'; clear H'; have C := Hp.facts H; simp only [Facts, factsL, and_true, true_and, List.set_cons_zero, List.set_cons_succ, List.setIfInBounds_toArray] at C)) | ((with_reducible show wpList _ _ _ _ _ (World.setCell _ _ _)); (with_reducible apply Hp.abs_gen H); (first | ((repeat (with_reducible apply Hp.set' 0)); (with_reducible exact H); (repeat rfl); intro w' H') | ((repeat (with_reducible apply Hp.set' 1)); (with_reducible exact H); (repeat rfl); intro w' H') | ((repeat (with_reducible apply Hp.set' 2)); (with_reducible exact H); (repeat rfl); intro w' H') | ((repeat (with_reducible apply Hp.set' 3)); (with_reducible exact H); (repeat rfl); intro w' H') | ((repeat (with_reducible apply Hp.set' 4)); (with_reducible exact H); (repeat rfl); intro w' H') | ((repeat (with_reducible apply Hp.set' 5)); (with_reducible exact H); (repeat rfl); intro w' H') | ((repeat (with_reducible apply Hp.set' 6)); (with_reducible exact H); (repeat rfl); intro w' H') | ((repeat (with_reducible apply Hp.set' 7)); (with_reducible exact H); (repeat rfl); intro w' H')); ((try simp only [List.set_cons_zero, List.set_cons_succ, List.setIfInBounds_toArray] at H'); clear C H; have H := H'; clear H'; have C := Hp.facts H; simp only [Facts, factsL, and_true, true_and, List.set_cons_zero, List.set_cons_succ, List.setIfInBounds_toArray] at C)) | go_values | go_skip | go_guarded | go_step | go_upon | go_back | (simp only [Int.not_lt, Int.not_le] at *; go_simp) | (go_values <;> (try go_simp)) | (go_ite <;> go_prune <;> (try go_simp)) | (split <;> (first | (rename_i hx; exact (hx _ rfl).elim) | go_prune))))
  refine (hE _ H.low).mono ?_
  rintro e' w2 ⟨bx, rfl, hH⟩
  have H' := hH _ _ H
  clear hH
  ((try simp only [List.set_cons_zero, List.set_cons_succ, List.setIfInBounds_toArray] at H'); clear C H; have H := H'; clear H'; have C := Hp.facts H; simp only [Facts, factsL, and_true, true_and, List.set_cons_zero, List.set_cons_succ, List.setIfInBounds_toArray] at C)
  (repeat' ((fail_if_success (with_reducible show bodyPost _ _ _ _ _ _)); first | ((with_reducible refine Hp.abs_alloc H ?_); intro b' w' H' hb'; (try simp only [hb']); clear hb'; ((try simp only [List.set_cons_zero, List.set_cons_succ, List.setIfInBounds_toArray] at H'); clear C H; have H := H'; clear H'; have C := Hp.facts H; simp only [Facts, factsL, and_true, true_and, List.set_cons_zero, List.set_cons_succ, List.setIfInBounds_toArray] at C)) | ((with_reducible show wpList _ _ _ _ _ (World.setCell _ _ _)); (with_reducible apply Hp.abs_gen H); (first | ((repeat (with_reducible apply Hp.set' 0)); (with_reducible exact H); (repeat rfl); intro w' H') | ((repeat (with_reducible apply Hp.set' 1)); (with_reducible exact H); (repeat rfl); intro w' H') | ((repeat (with_reducible apply Hp.set' 2)); (with_reducible exact H); (repeat rfl); intro w' H') | ((repeat (with_reducible apply Hp.set' 3)); (with_reducible exact H); (repeat rfl); intro w' H') | ((repeat (with_reducible apply Hp.set' 4)); (with_reducible exact H); (repeat rfl); intro w' H') | ((repeat (with_reducible apply Hp.set' 5)); (with_reducible exact H); (repeat rfl); intro w' H') | ((repeat (with_reducible apply Hp.set' 6)); (with_reducible exact H); (repeat rfl); intro w' H') | ((repeat (with_reducible apply Hp.set' 7)); (with_reducible exact H); (repeat rfl); intro w' H')); ((try simp only [List.set_cons_zero, List.set_cons_succ, List.setIfInBounds_toArray] at H'); clear C H; have H := H'; clear H'; have C := Hp.facts H; simp only [Facts, factsL, and_true, true_and, List.set_cons_zero, List.set_cons_succ, List.setIfInBounds_toArray] at C)) | go_values | go_skip | go_guarded | go_step | go_upon | go_back | (simp only [Int.not_lt, Int.not_le] at *; go_simp) | (go_values <;> (try go_simp)) | (go_ite <;> go_prune <;> (try go_simp)) | (split <;> (first | (rename_i hx; exact (hx _ rfl).elim) | go_prune))))
  (obtain ⟨bn, rfl⟩ := Hp.name H 1 rfl)
  refine (wpIn_wide (n := 8)).1 ?_
  have H0 : Hp w [.blk bn #[.int .i64 0] 3] w2 := Hp.sel H [1] (by decide)
  have hS := each1_seq w w.heap.size (Nat.le_refl _) [] n t [.int .i64 x0, .int .i64 x1, .bool x2, .slice xA xk xc, .slice xA2 xk2 xc2] bx hc
  refine' range_fr (gf := 34) (lb := #[.pointer (some ⟨bx, 0, none⟩)]) rfl (enters_of Try.func34 (by kernel_rfl) rfl) H0 hS (fun _ => rfl)
    (NumL (fun pre => maxD 0 (pre.map TI.is)) bn 3) (fun _ _ _ => False) rfl (fun W hb => EachT.step ⟨H.get 0 rfl, (gt.out.step H.low).weak fun b h _ => .inl h⟩ hb) (fun _ _ _ x hx => (List.not_mem_nil hx).elim) (fun X Y L L' x h1 h2 h3 h4 => TOk.move (Nat.le_refl _) X Y L L' x h1 h2 h3 h4) _ ?assign ?body ?done ?stop
  case assign =>
    intro l0 x W K hK
    dsimp only [encT]
    gi_wp2
    exact hK
  case body =>
    rintro l0 pre ⟨d, tx, cx⟩ L M W rfl H2 hok hgood
    clear H H0 C hS hE
    have H := H2
    simp only [List.cons_append, List.nil_append] at H
    have C := H.facts
    simp only [Facts, factsL, and_true, true_and, List.set_cons_zero, List.set_cons_succ, List.setIfInBounds_toArray] at C
    have hgl := good_len hgood
    have gM := Kp.mk (show maxD 0 ((pre ++ [(d, tx, cx)]).map TI.is) = max (maxD 0 (pre.map TI.is)) d by rw [List.map_append]; exact maxD_one 0 _ _)
    generalize maxD 0 (pre.map TI.is) = m at *
    by_cases hlt : (m : Int) < (d : Int)
    · (repeat' ((fail_if_success (with_reducible show bodyPost _ _ _ _ _ _)); first | ((with_reducible refine Hp.abs_allocIn H ?_); intro b' w' H' hb'; (try simp only [hb']); clear hb'; ((try simp only [List.set_cons_zero, List.set_cons_succ, List.setIfInBounds_toArray] at H'); clear C H; have H := H'; clear H'; have C := Hp.facts H; simp only [Facts, factsL, and_true, true_and, List.set_cons_zero, List.set_cons_succ, List.setIfInBounds_toArray] at C)) | ((with_reducible show wpListIn _ _ _ _ _ _ _ (World.setCell _ _ _)); (with_reducible apply Hp.abs_genIn H); (first | ((repeat (with_reducible apply Hp.set' 0)); (with_reducible exact H); (repeat rfl); intro w' H') | ((repeat (with_reducible apply Hp.set' 1)); (with_reducible exact H); (repeat rfl); intro w' H') | ((repeat (with_reducible apply Hp.set' 2)); (with_reducible exact H); (repeat rfl); intro w' H') | ((repeat (with_reducible apply Hp.set' 3)); (with_reducible exact H); (repeat rfl); intro w' H') | ((repeat (with_reducible apply Hp.set' 4)); (with_reducible exact H); (repeat rfl); intro w' H') | ((repeat (with_reducible apply Hp.set' 5)); (with_reducible exact H); (repeat rfl); intro w' H') | ((repeat (with_reducible apply Hp.set' 6)); (with_reducible exact H); (repeat rfl); intro w' H') | ((repeat (with_reducible apply Hp.set' 7)); (with_reducible exact H); (repeat rfl); intro w' H')); ((try simp only [List.set_cons_zero, List.set_cons_succ, List.setIfInBounds_toArray] at H'); clear C H; have H := H'; clear H'; have C := Hp.facts H; simp only [Facts, factsL, and_true, true_and, List.set_cons_zero, List.set_cons_succ, List.setIfInBounds_toArray] at C)) | go_values | gi_guarded | gi_step | gi_upon | gi_back | (simp only [Int.not_lt, Int.not_le] at *; go_simp) | (go_values <;> (try go_simp)) | (go_ite <;> go_prune <;> (try go_simp)) | (split <;> (first | (rename_i hx; exact (hx _ rfl).elim) | go_prune))))
      exact ⟨[Ent.blk bn #[.int .i64 (d : Int)] 3], by show _ = _; simp only [gM.out]; rw [Nat.max_eq_right (by omega)], H⟩
    · (repeat' ((fail_if_success (with_reducible show bodyPost _ _ _ _ _ _)); first | ((with_reducible refine Hp.abs_allocIn H ?_); intro b' w' H' hb'; (try simp only [hb']); clear hb'; ((try simp only [List.set_cons_zero, List.set_cons_succ, List.setIfInBounds_toArray] at H'); clear C H; have H := H'; clear H'; have C := Hp.facts H; simp only [Facts, factsL, and_true, true_and, List.set_cons_zero, List.set_cons_succ, List.setIfInBounds_toArray] at C)) | ((with_reducible show wpListIn _ _ _ _ _ _ _ (World.setCell _ _ _)); (with_reducible apply Hp.abs_genIn H); (first | ((repeat (with_reducible apply Hp.set' 0)); (with_reducible exact H); (repeat rfl); intro w' H') | ((repeat (with_reducible apply Hp.set' 1)); (with_reducible exact H); (repeat rfl); intro w' H') | ((repeat (with_reducible apply Hp.set' 2)); (with_reducible exact H); (repeat rfl); intro w' H') | ((repeat (with_reducible apply Hp.set' 3)); (with_reducible exact H); (repeat rfl); intro w' H') | ((repeat (with_reducible apply Hp.set' 4)); (with_reducible exact H); (repeat rfl); intro w' H') | ((repeat (with_reducible apply Hp.set' 5)); (with_reducible exact H); (repeat rfl); intro w' H') | ((repeat (with_reducible apply Hp.set' 6)); (with_reducible exact H); (repeat rfl); intro w' H') | ((repeat (with_reducible apply Hp.set' 7)); (with_reducible exact H); (repeat rfl); intro w' H')); ((try simp only [List.set_cons_zero, List.set_cons_succ, List.setIfInBounds_toArray] at H'); clear C H; have H := H'; clear H'; have C := Hp.facts H; simp only [Facts, factsL, and_true, true_and, List.set_cons_zero, List.set_cons_succ, List.setIfInBounds_toArray] at C)) | go_values | gi_guarded | gi_step | gi_upon | gi_back | (simp only [Int.not_lt, Int.not_le] at *; go_simp) | (go_values <;> (try go_simp)) | (go_ite <;> go_prune <;> (try go_simp)) | (split <;> (first | (rename_i hx; exact (hx _ rfl).elim) | go_prune))))
      exact ⟨[Ent.blk bn #[.int .i64 (m : Int)] 3], by show _ = _; simp only [gM.out]; rw [Nat.max_eq_left (by omega)], H⟩
  case done =>
    rintro D xs L W hS' rfl H2
    clear H H0 C hE hS
    have H := H2
    have eM : maxD 0 (xs.map TI.is) = t.deep := by rw [show xs.map TI.is = t.told 1 from hS', Tree.told_max]; omega
    simp only [eM] at H
    clear eM hS' 
    have C := H.facts
    simp only [Facts, factsL, and_true, true_and, List.set_cons_zero, List.set_cons_succ, List.setIfInBounds_toArray] at C
    (repeat' ((fail_if_success (with_reducible show bodyPost _ _ _ _ _ _)); first | ((with_reducible refine Hp.abs_alloc H ?_); intro b' w' H' hb'; (try simp only [hb']); clear hb'; ((try simp only [List.set_cons_zero, List.set_cons_succ, List.setIfInBounds_toArray] at H'); clear C H; have H := H'; clear H'; have C := Hp.facts H; simp only [Facts, factsL, and_true, true_and, List.set_cons_zero, List.set_cons_succ, List.setIfInBounds_toArray] at C)) | ((with_reducible show wpList _ _ _ _ _ (World.setCell _ _ _)); (with_reducible apply Hp.abs_gen H); (first | ((repeat (with_reducible apply Hp.set' 0)); (with_reducible exact H); (repeat rfl); intro w' H') | ((repeat (with_reducible apply Hp.set' 1)); (with_reducible exact H); (repeat rfl); intro w' H') | ((repeat (with_reducible apply Hp.set' 2)); (with_reducible exact H); (repeat rfl); intro w' H') | ((repeat (with_reducible apply Hp.set' 3)); (with_reducible exact H); (repeat rfl); intro w' H') | ((repeat (with_reducible apply Hp.set' 4)); (with_reducible exact H); (repeat rfl); intro w' H') | ((repeat (with_reducible apply Hp.set' 5)); (with_reducible exact H); (repeat rfl); intro w' H') | ((repeat (with_reducible apply Hp.set' 6)); (with_reducible exact H); (repeat rfl); intro w' H') | ((repeat (with_reducible apply Hp.set' 7)); (with_reducible exact H); (repeat rfl); intro w' H')); ((try simp only [List.set_cons_zero, List.set_cons_succ, List.setIfInBounds_toArray] at H'); clear C H; have H := H'; clear H'; have C := Hp.facts H; simp only [Facts, factsL, and_true, true_and, List.set_cons_zero, List.set_cons_succ, List.setIfInBounds_toArray] at C)) | go_values | go_skip | go_guarded | go_step | go_upon | go_back | (simp only [Int.not_lt, Int.not_le] at *; go_simp) | (go_values <;> (try go_simp)) | (go_ite <;> go_prune <;> (try go_simp)) | (split <;> (first | (rename_i hx; exact (hx _ rfl).elim) | go_prune))))
    have H5 := H.putObj 0 rfl (.deferred none)
    have C5 := H5.facts
    simp only [Facts, factsL, and_true, true_and, List.set_cons_zero, List.set_cons_succ, List.setIfInBounds_toArray] at C5
    exact ⟨by simp, .inl ⟨_, _, rfl, run_takeDeferred (H.objAt 0 rfl), .int .i64 (t.deep : Int), by simp [results, go_sem, C5], rfl, H5.low⟩⟩
  case stop =>
    rintro D cd pre L W _ h _
    exact h.elim
set_option maxHeartbeats 1600000 in
theorem isize_any (n : Nat) (t : Tree) (cs : List Value) (w : World) (ht : ItP (· < w.heap.size) w n t cs) (hc : t.count ≤ 1000000) :
    Calls Try.prog 29 #[.agg cs.toArray] w fun e w' => e = .returned (.int .i64 (t.count : Int)) ∧ Below w.heap.size w w' := by
  have hE := fun w1 (h : Below w.heap.size w w1) => each_any n t cs w1 _ (ht.step h)
  obtain ⟨d0, d1, d2, d3, d4, rfl⟩ : ∃ d0 d1 d2 d3 d4, cs = [d0, d1, d2, d3, d4] := by
    match cs, ht.len with
    | [d0, d1, d2, d3, d4], _ => exact ⟨d0, d1, d2, d3, d4, rfl⟩
  obtain ⟨x0, x1, x2, xA, xA2, xk, xc, xk2, xc2, rfl, rfl, rfl, rfl, rfl⟩ := ht.forms
  have gt := Kp.mk ht
  clear ht
  refine (callsIn_wide (n := 8)).1 (callsIn_of_wp_marks Try.func29 rfl trivial ?_ rfl)
  refine wpIn_wide.2 ?_
  simp only [Try.ntmps29, List.size_toArray, List.length_cons, List.length_nil, Nat.reduceAdd, Nat.reduceSub, Array.replicate_succ, Array.replicate_zero, List.push_toArray, List.append_toArray, List.nil_append, List.cons_append]
  have H := Hp.start w
  have C : True := trivial
  (repeat' ((fail_if_success (with_reducible show bodyPost _ _ _ _ _ _)); first | ((with_reducible refine Hp.abs_alloc H ?_); intro b' w' H' hb'; (try simp only [hb']); clear hb'; ((try simp only [List.set_cons_zero, List.set_cons_succ, List.setIfInBounds_toArray] at H'); clear C H; have H := H'; clear H'; have C := Hp.facts H; simp only [Facts, factsL, and_true, true_and, List.set_cons_zero, List.set_cons_succ, List.setIfInBounds_toArray] at C)) | ((with_reducible show wpList _ _ _ _ _ (World.setCell _ _ _)); (with_reducible apply Hp.abs_gen H); (first | ((repeat (with_reducible apply Hp.set' 0)); (with_reducible exact H); (repeat rfl); intro w' H') | ((repeat (with_reducible apply Hp.set' 1)); (with_reducible exact H); (repeat rfl); intro w' H') | ((repeat (with_reducible apply Hp.set' 2)); (with_reducible exact H); (repeat rfl); intro w' H') | ((repeat (with_reducible apply Hp.set' 3)); (with_reducible exact H); (repeat rfl); intro w' H') | ((repeat (with_reducible apply Hp.set' 4)); (with_reducible exact H); (repeat rfl); intro w' H') | ((repeat (with_reducible apply Hp.set' 5)); (with_reducible exact H); (repeat rfl); intro w' H') | ((repeat (with_reducible apply Hp.set' 6)); (with_reducible exact H); (repeat rfl); intro w' H') | ((repeat (with_reducible apply Hp.set' 7)); (with_reducible exact H); (repeat rfl); intro w' H')); ((try simp only [List.set_cons_zero, List.set_cons_succ, List.setIfInBounds_toArray] at H'); clear C H; have H := H'; clear H'; have C := Hp.facts H; simp only [Facts, factsL, and_true, true_and, List.set_cons_zero, List.set_cons_succ, List.setIfInBounds_toArray] at C)) | go_values | go_skip | go_guarded | go_step | go_upon | go_back | (simp only [Int.not_lt, Int.not_le] at *; go_simp) | (go_values <;> (try go_simp)) | (go_ite <;> go_prune <;> (try go_simp)) | (split <;> (first | (rename_i hx; exact (hx _ rfl).elim) | go_prune))))
  refine (hE _ H.low).mono ?_
  rintro e' w2 ⟨bx, rfl, hH⟩
  have H' := hH _ _ H
  clear hH
  ((try simp only [List.set_cons_zero, List.set_cons_succ, List.setIfInBounds_toArray] at H'); clear C H; have H := H'; clear H'; have C := Hp.facts H; simp only [Facts, factsL, and_true, true_and, List.set_cons_zero, List.set_cons_succ, List.setIfInBounds_toArray] at C)
  (repeat' ((fail_if_success (with_reducible show bodyPost _ _ _ _ _ _)); first | ((with_reducible refine Hp.abs_alloc H ?_); intro b' w' H' hb'; (try simp only [hb']); clear hb'; ((try simp only [List.set_cons_zero, List.set_cons_succ, List.setIfInBounds_toArray] at H'); clear C H; have H := H'; clear H'; have C := Hp.facts H; simp only [Facts, factsL, and_true, true_and, List.set_cons_zero, List.set_cons_succ, List.setIfInBounds_toArray] at C)) | ((with_reducible show wpList _ _ _ _ _ (World.setCell _ _ _)); (with_reducible apply Hp.abs_gen H); (first | ((repeat (with_reducible apply Hp.set' 0)); (with_reducible exact H); (repeat rfl); intro w' H') | ((repeat (with_reducible apply Hp.set' 1)); (with_reducible exact H); (repeat rfl); intro w' H') | ((repeat (with_reducible apply Hp.set' 2)); (with_reducible exact H); (repeat rfl); intro w' H') | ((repeat (with_reducible apply Hp.set' 3)); (with_reducible exact H); (repeat rfl); intro w' H') | ((repeat (with_reducible apply Hp.set' 4)); (with_reducible exact H); (repeat rfl); intro w' H') | ((repeat (with_reducible apply Hp.set' 5)); (with_reducible exact H); (repeat rfl); intro w' H') | ((repeat (with_reducible apply Hp.set' 6)); (with_reducible exact H); (repeat rfl); intro w' H') | ((repeat (with_reducible apply Hp.set' 7)); (with_reducible exact H); (repeat rfl); intro w' H')); ((try simp only [List.set_cons_zero, List.set_cons_succ, List.setIfInBounds_toArray] at H'); clear C H; have H := H'; clear H'; have C := Hp.facts H; simp only [Facts, factsL, and_true, true_and, List.set_cons_zero, List.set_cons_succ, List.setIfInBounds_toArray] at C)) | go_values | go_skip | go_guarded | go_step | go_upon | go_back | (simp only [Int.not_lt, Int.not_le] at *; go_simp) | (go_values <;> (try go_simp)) | (go_ite <;> go_prune <;> (try go_simp)) | (split <;> (first | (rename_i hx; exact (hx _ rfl).elim) | go_prune))))
  (obtain ⟨bn, rfl⟩ := Hp.name H 1 rfl)
  refine (wpIn_wide (n := 8)).1 ?_
  have H0 : Hp w [.blk bn #[.int .i64 0] 3] w2 := Hp.sel H [1] (by decide)
  have hS := each1_seq w w.heap.size (Nat.le_refl _) [] n t [.int .i64 x0, .int .i64 x1, .bool x2, .slice xA xk xc, .slice xA2 xk2 xc2] bx hc
  refine' range_fr (gf := 34) (lb := #[.pointer (some ⟨bx, 0, none⟩)]) rfl (enters_of Try.func34 (by kernel_rfl) rfl) H0 hS (fun _ => rfl)
    (NumL (fun pre => pre.length) bn 3) (fun _ _ _ => False) rfl (fun W hb => EachT.step ⟨H.get 0 rfl, (gt.out.step H.low).weak fun b h _ => .inl h⟩ hb) (fun _ _ _ x hx => (List.not_mem_nil hx).elim) (fun X Y L L' x h1 h2 h3 h4 => TOk.move (Nat.le_refl _) X Y L L' x h1 h2 h3 h4) _ ?assign ?body ?done ?stop
  case assign =>
    intro l0 x W K hK
    dsimp only [encT]
    gi_wp2
    exact hK
  case body =>
    rintro l0 pre ⟨d, tx, cx⟩ L M W rfl H2 hok hgood
    clear H H0 C hS hE
    have H := H2
    simp only [List.cons_append, List.nil_append] at H
    have C := H.facts
    simp only [Facts, factsL, and_true, true_and, List.set_cons_zero, List.set_cons_succ, List.setIfInBounds_toArray] at C
    have hgl := good_len hgood
    have gM := Kp.mk (show (pre ++ [(d, tx, cx)]).length = pre.length + 1 by simp)
    rw [gM.out] at hgl
    generalize pre.length = m at *
    (repeat' ((fail_if_success (with_reducible show bodyPost _ _ _ _ _ _)); first | ((with_reducible refine Hp.abs_allocIn H ?_); intro b' w' H' hb'; (try simp only [hb']); clear hb'; ((try simp only [List.set_cons_zero, List.set_cons_succ, List.setIfInBounds_toArray] at H'); clear C H; have H := H'; clear H'; have C := Hp.facts H; simp only [Facts, factsL, and_true, true_and, List.set_cons_zero, List.set_cons_succ, List.setIfInBounds_toArray] at C)) | ((with_reducible show wpListIn _ _ _ _ _ _ _ (World.setCell _ _ _)); (with_reducible apply Hp.abs_genIn H); (first | ((repeat (with_reducible apply Hp.set' 0)); (with_reducible exact H); (repeat rfl); intro w' H') | ((repeat (with_reducible apply Hp.set' 1)); (with_reducible exact H); (repeat rfl); intro w' H') | ((repeat (with_reducible apply Hp.set' 2)); (with_reducible exact H); (repeat rfl); intro w' H') | ((repeat (with_reducible apply Hp.set' 3)); (with_reducible exact H); (repeat rfl); intro w' H') | ((repeat (with_reducible apply Hp.set' 4)); (with_reducible exact H); (repeat rfl); intro w' H') | ((repeat (with_reducible apply Hp.set' 5)); (with_reducible exact H); (repeat rfl); intro w' H') | ((repeat (with_reducible apply Hp.set' 6)); (with_reducible exact H); (repeat rfl); intro w' H') | ((repeat (with_reducible apply Hp.set' 7)); (with_reducible exact H); (repeat rfl); intro w' H')); ((try simp only [List.set_cons_zero, List.set_cons_succ, List.setIfInBounds_toArray] at H'); clear C H; have H := H'; clear H'; have C := Hp.facts H; simp only [Facts, factsL, and_true, true_and, List.set_cons_zero, List.set_cons_succ, List.setIfInBounds_toArray] at C)) | go_values | gi_guarded | gi_step | gi_upon | gi_back | (simp only [Int.not_lt, Int.not_le] at *; go_simp) | (go_values <;> (try go_simp)) | (go_ite <;> go_prune <;> (try go_simp)) | (split <;> (first | (rename_i hx; exact (hx _ rfl).elim) | go_prune))))
    exact ⟨[Ent.blk bn #[.int .i64 ((m + 1 : Nat) : Int)] 3], by show _ = _; simp only [gM.out], by rw [show ((m + 1 : Nat) : Int) = (m : Int) + 1 by omega]; exact H⟩
  case done =>
    rintro D xs L W hS' rfl H2
    clear H H0 C hE hS
    have H := H2
    have eM : xs.length = t.count := by rw [← Tree.told_len t 1, ← show xs.map TI.is = t.told 1 from hS', List.length_map]
    simp only [eM] at H
    clear eM hS' 
    have C := H.facts
    simp only [Facts, factsL, and_true, true_and, List.set_cons_zero, List.set_cons_succ, List.setIfInBounds_toArray] at C
    (repeat' ((fail_if_success (with_reducible show bodyPost _ _ _ _ _ _)); first | ((with_reducible refine Hp.abs_alloc H ?_); intro b' w' H' hb'; (try simp only [hb']); clear hb'; ((try simp only [List.set_cons_zero, List.set_cons_succ, List.setIfInBounds_toArray] at H'); clear C H; have H := H'; clear H'; have C := Hp.facts H; simp only [Facts, factsL, and_true, true_and, List.set_cons_zero, List.set_cons_succ, List.setIfInBounds_toArray] at C)) | ((with_reducible show wpList _ _ _ _ _ (World.setCell _ _ _)); (with_reducible apply Hp.abs_gen H); (first | ((repeat (with_reducible apply Hp.set' 0)); (with_reducible exact H); (repeat rfl); intro w' H') | ((repeat (with_reducible apply Hp.set' 1)); (with_reducible exact H); (repeat rfl); intro w' H') | ((repeat (with_reducible apply Hp.set' 2)); (with_reducible exact H); (repeat rfl); intro w' H') | ((repeat (with_reducible apply Hp.set' 3)); (with_reducible exact H); (repeat rfl); intro w' H') | ((repeat (with_reducible apply Hp.set' 4)); (with_reducible exact H); (repeat rfl); intro w' H') | ((repeat (with_reducible apply Hp.set' 5)); (with_reducible exact H); (repeat rfl); intro w' H') | ((repeat (with_reducible apply Hp.set' 6)); (with_reducible exact H); (repeat rfl); intro w' H') | ((repeat (with_reducible apply Hp.set' 7)); (with_reducible exact H); (repeat rfl); intro w' H')); ((try simp only [List.set_cons_zero, List.set_cons_succ, List.setIfInBounds_toArray] at H'); clear C H; have H := H'; clear H'; have C := Hp.facts H; simp only [Facts, factsL, and_true, true_and, List.set_cons_zero, List.set_cons_succ, List.setIfInBounds_toArray] at C)) | go_values | go_skip | go_guarded | go_step | go_upon | go_back | (simp only [Int.not_lt, Int.not_le] at *; go_simp) | (go_values <;> (try go_simp)) | (go_ite <;> go_prune <;> (try go_simp)) | (split <;> (first | (rename_i hx; exact (hx _ rfl).elim) | go_prune))))
    have H5 := H.putObj 0 rfl (.deferred none)
    have C5 := H5.facts
    simp only [Facts, factsL, and_true, true_and, List.set_cons_zero, List.set_cons_succ, List.setIfInBounds_toArray] at C5
    exact ⟨by simp, .inl ⟨_, _, rfl, run_takeDeferred (H.objAt 0 rfl), .int .i64 (t.count : Int), by simp [results, go_sem, C5], rfl, H5.low⟩⟩
  case stop =>
    rintro D cd pre L W _ h _
    exact h.elim
end Go.Proofs.Ytogliinfdfkobaa

