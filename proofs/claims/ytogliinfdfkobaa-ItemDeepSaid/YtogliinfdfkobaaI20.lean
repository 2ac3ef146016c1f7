/- Lemmas and walks on the way to the seat's laws; each theorem says its own conditions. -/
import Derived.Test.YtogliinfdfkobaaI19
set_option linter.unusedSimpArgs false
set_option linter.unusedVariables false
set_option linter.unusedSimpArgs false
set_option linter.unusedVariables false
set_option maxRecDepth 100000
namespace Go.Proofs.Ytogliinfdfkobaa
open Go.RowKit Go.Mem Go.Reg Oct Hd Go.LawLift Go.Shelf
attribute [local go_sem] Oper.semAt_some
/-- May a tree be? -/
def okT (x : TI) : Bool := decide (x.1 ≤ 32) && Tree.flat x.2.1
def irightT (t : Tree) : Bool := decide (t.deep ≤ 32) && decide (t.count ≤ 10000) && t.sound && decide (0 ≤ lenT t)
def okN (x : Nat × Tree) : Bool := decide (x.1 ≤ 32) && Tree.flat x.2
mutual
theorem told_ok : ∀ (t : Tree) (d : Nat), (t.told d).all okN = (decide (d + t.deep ≤ 33) && t.sound)
  | .mk t b ks, d => by
    have h := tolds_ok ks (d + 1)
    rw [Tree.told, List.all_cons, h, Tree.sound_flat]
    simp only [okN, Tree.kids, Tree.deep]
    rw [Bool.eq_iff_iff]
    simp only [Bool.and_eq_true, Bool.or_eq_true, decide_eq_true_eq]
    constructor
    · rintro ⟨⟨h1, h2⟩, h3, h4⟩
      exact ⟨decide_eq_true (by rcases h3 with h3 | h3 <;> omega), h2, h4⟩
    · rintro ⟨h1, h2, h3⟩
      have h1 := of_decide_eq_true h1
      refine ⟨⟨by omega, h2⟩, ?_, h3⟩
      by_cases h0 : Tree.deeps ks = 0
      · exact .inl h0
      · right; omega
theorem tolds_ok : ∀ (ks : List Tree) (d : Nat), (Tree.tolds ks d).all okN = ((decide (Tree.deeps ks = 0) || decide (d + Tree.deeps ks ≤ 33)) && Tree.sounds ks)
  | [], d => by simp [Tree.tolds, Tree.deeps, Tree.sounds]
  | k :: r, d => by
    have h1 := told_ok k d
    have h2 := tolds_ok r d
    have h3 := Tree.deep_is k
    rw [Tree.tolds, List.all_append, h1, h2, Tree.deeps, Tree.sounds]
    rw [Bool.eq_iff_iff]
    simp only [Bool.and_eq_true, Bool.or_eq_true, decide_eq_true_eq]
    constructor
    · rintro ⟨⟨h1, h2⟩, h3, h4⟩
      refine ⟨.inr ?_, h2, h4⟩
      rcases h3 with h3 | h3 <;> omega
    · rintro ⟨h1, h2, h4⟩
      have h5 : d + max k.deep (Tree.deeps r) ≤ 33 := by rcases h1 with h1 | h1 <;> omega
      refine ⟨⟨by omega, h2⟩, ?_, h4⟩
      right; omega
end
theorem all_okT (xs : List TI) : xs.all okT = (xs.map TI.is).all okN := by rw [List.all_map]; rfl
theorem right_yes {t : Tree} {xs : List TI} (h : AllT t xs) (ha : xs.all okT = true) (hl : xs.length ≤ 10000) : irightT t = decide (0 ≤ lenT t) := by
  rw [all_okT, show xs.map TI.is = t.told 1 from h, told_ok] at ha
  have hc : xs.length = t.count := by rw [← Tree.told_len t 1, ← show xs.map TI.is = t.told 1 from h, List.length_map]
  simp only [Bool.and_eq_true, decide_eq_true_eq] at ha
  unfold irightT
  rw [decide_eq_true (show t.deep ≤ 32 by omega), decide_eq_true (show t.count ≤ 10000 by omega), ha.2]
  rfl
theorem right_no {t : Tree} {pre : List TI} {x : TI} (h : GoodT t (pre ++ [x])) (hx : okT x = false ∨ 10000 < (pre ++ [x]).length) : irightT t = false := by
  cases hr : irightT t with
  | false => rfl
  | true =>
    exfalso
    unfold irightT at hr
    simp only [Bool.and_eq_true, decide_eq_true_eq] at hr
    obtain ⟨⟨⟨h1, h2⟩, h3⟩, -⟩ := hr
    rcases hx with hx | hx
    · have hm : x.is ∈ t.told 1 := h.subset (by simp)
      have ha : (t.told 1).all okN = true := by
        rw [told_ok, h3, Bool.and_true]
        exact decide_eq_true (by omega)
      have := List.all_eq_true.1 ha _ hm
      rw [show okN x.is = okT x from rfl, hx] at this
      cases this
    · have := good_len h
      omega
set_option maxHeartbeats 3200000 in
theorem iright_any (n : Nat) (t : Tree) (cs : List Value) (w : World) (ht : ItP (· < w.heap.size) w n t cs) (hc : t.count ≤ 1000000) (htot : t.total ≤ 100000000) :
    Calls Try.prog 25 #[.agg cs.toArray] w fun e w' => e = .returned (.bool (irightT t)) ∧ Below w.heap.size w w' := by
  have hE := fun w1 (h : Below w.heap.size w w1) => each_any n t cs w1 _ (ht.step h)
  have hLn := fun w1 (h : Below w.heap.size w w1) => length_any n t cs w1 ((ht.step h).any) hc htot
  obtain ⟨d0, d1, d2, d3, d4, rfl⟩ := five_of ht.len
  obtain ⟨x0, x1, x2, xA, xA2, xk, xc, xk2, xc2, rfl, rfl, rfl, rfl, rfl⟩ := ht.forms
  have gt := Kp.mk ht
  clear ht
  have hLn := Kp.mk hLn
  refine (callsIn_wide (n := 8)).1 (callsIn_of_wp_marks Try.func25 rfl trivial ?_ rfl)
  refine wpIn_wide.2 ?_
  simp only [Try.ntmps25, List.size_toArray, List.length_cons, List.length_nil, Nat.reduceAdd, Nat.reduceSub, Array.replicate_succ, Array.replicate_zero, List.push_toArray, List.append_toArray, List.nil_append, List.cons_append]
  have H := Hp.start w
  have C : True := trivial
  (repeat' ((fail_if_success (with_reducible show bodyPost _ _ _ _ _ _)); first | ((with_reducible refine Hp.abs_alloc H ?_); intro b' w' H' hb'; (try simp only [hb']); clear hb'; ((try simp only [List.set_cons_zero, List.set_cons_succ, List.setIfInBounds_toArray] at H'); clear C H; have H := H'; clear H'; have C := Hp.facts H; simp only [Facts, factsL, and_true, true_and, List.set_cons_zero, List.set_cons_succ, List.setIfInBounds_toArray] at C)) | ((with_reducible show wpList _ _ _ _ _ (World.setCell _ _ _)); (with_reducible apply Hp.abs_gen H); (first | ((repeat (with_reducible apply Hp.set' 0)); (with_reducible exact H); (repeat rfl); intro w' H') | ((repeat (with_reducible apply Hp.set' 1)); (with_reducible exact H); (repeat rfl); intro w' H') | ((repeat (with_reducible apply Hp.set' 2)); (with_reducible exact H); (repeat rfl); intro w' H') | ((repeat (with_reducible apply Hp.set' 3)); (with_reducible exact H); (repeat rfl); intro w' H') | ((repeat (with_reducible apply Hp.set' 4)); (with_reducible exact H); (repeat rfl); intro w' H') | ((repeat (with_reducible apply Hp.set' 5)); (with_reducible exact H); (repeat rfl); intro w' H') | ((repeat (with_reducible apply Hp.set' 6)); (with_reducible exact H); (repeat rfl); intro w' H') | ((repeat (with_reducible apply Hp.set' 7)); (with_reducible exact H); (repeat rfl); intro w' H')); ((try simp only [List.set_cons_zero, List.set_cons_succ, List.setIfInBounds_toArray] at H'); clear C H; have H := H'; clear H'; have C := Hp.facts H; simp only [Facts, factsL, and_true, true_and, List.set_cons_zero, List.set_cons_succ, List.setIfInBounds_toArray] at C)) | go_values | go_skip | go_guarded | go_step | go_upon | go_back | (simp only [Int.not_lt, Int.not_le] at *; go_simp) | (go_values <;> (try go_simp)) | (go_ite <;> go_prune <;> (try go_simp)) | (split <;> (first | (rename_i hx; exact (hx _ rfl).elim) | go_prune))))
  refine (hE _ H.low).mono ?_
  rintro e' w2 ⟨bx, rfl, hH⟩
  have H' := hH _ _ H
  clear hH
  ((try simp only [List.set_cons_zero, List.set_cons_succ, List.setIfInBounds_toArray] at H'); clear C H; have H := H'; clear H'; have C := Hp.facts H; simp only [Facts, factsL, and_true, true_and, List.set_cons_zero, List.set_cons_succ, List.setIfInBounds_toArray] at C)
  (repeat' ((fail_if_success (with_reducible show bodyPost _ _ _ _ _ _)); first | ((with_reducible refine Hp.abs_alloc H ?_); intro b' w' H' hb'; (try simp only [hb']); clear hb'; ((try simp only [List.set_cons_zero, List.set_cons_succ, List.setIfInBounds_toArray] at H'); clear C H; have H := H'; clear H'; have C := Hp.facts H; simp only [Facts, factsL, and_true, true_and, List.set_cons_zero, List.set_cons_succ, List.setIfInBounds_toArray] at C)) | ((with_reducible show wpList _ _ _ _ _ (World.setCell _ _ _)); (with_reducible apply Hp.abs_gen H); (first | ((repeat (with_reducible apply Hp.set' 0)); (with_reducible exact H); (repeat rfl); intro w' H') | ((repeat (with_reducible apply Hp.set' 1)); (with_reducible exact H); (repeat rfl); intro w' H') | ((repeat (with_reducible apply Hp.set' 2)); (with_reducible exact H); (repeat rfl); intro w' H') | ((repeat (with_reducible apply Hp.set' 3)); (with_reducible exact H); (repeat rfl); intro w' H') | ((repeat (with_reducible apply Hp.set' 4)); (with_reducible exact H); (repeat rfl); intro w' H') | ((repeat (with_reducible apply Hp.set' 5)); (with_reducible exact H); (repeat rfl); intro w' H') | ((repeat (with_reducible apply Hp.set' 6)); (with_reducible exact H); (repeat rfl); intro w' H') | ((repeat (with_reducible apply Hp.set' 7)); (with_reducible exact H); (repeat rfl); intro w' H')); ((try simp only [List.set_cons_zero, List.set_cons_succ, List.setIfInBounds_toArray] at H'); clear C H; have H := H'; clear H'; have C := Hp.facts H; simp only [Facts, factsL, and_true, true_and, List.set_cons_zero, List.set_cons_succ, List.setIfInBounds_toArray] at C)) | go_values | go_skip | go_guarded | go_step | go_upon | go_back | (simp only [Int.not_lt, Int.not_le] at *; go_simp) | (go_values <;> (try go_simp)) | (go_ite <;> go_prune <;> (try go_simp)) | (split <;> (first | (rename_i hx; exact (hx _ rfl).elim) | go_prune))))
  (obtain ⟨bn, rfl⟩ := Hp.name H 1 rfl; obtain ⟨br, rfl⟩ := Hp.name H 2 rfl; obtain ⟨bt, rfl⟩ := Hp.name H 3 rfl)
  refine (wpIn_wide (n := 8)).1 ?_
  have hS := each1_seq w w.heap.size (Nat.le_refl _) [] n t [.int .i64 x0, .int .i64 x1, .bool x2, .slice xA xk xc, .slice xA2 xk2 xc2] bx hc
  refine' range_fr2 (gf := 34) (lb := #[.pointer (some ⟨bx, 0, none⟩)]) rfl (enters_of Try.func34 (by kernel_rfl) rfl) H.tail hS (fun _ => rfl)
    (fun pre L => L = [Ent.blk bn #[.int .i64 (pre.length : Int)] 3, .blk br #[.bool false] 4, .blk bt #[.int .i64 x0, .int .i64 x1, .bool x2, .slice xA xk xc, .slice xA2 xk2 xc2] 41] ∧ pre.all okT = true ∧ pre.length ≤ 10000) (fun cd pre L => cd = .ret ∧ irightT t = false ∧ ∃ m : Int, L = [Ent.blk bn #[.int .i64 m] 3, .blk br #[.bool false] 4, .blk bt #[.int .i64 x0, .int .i64 x1, .bool x2, .slice xA xk xc, .slice xA2 xk2 xc2] 41])
    ⟨rfl, rfl, Nat.zero_le _⟩ (fun W hb => EachT.step ⟨H.get 0 rfl, (gt.out.step H.low).weak fun b h _ => .inl h⟩ hb) (fun _ _ _ x hx => (List.not_mem_nil hx).elim) (fun X Y L L' x h1 h2 h3 h4 => TOk.move (Nat.le_refl _) X Y L L' x h1 h2 h3 h4)
    (fun x b => .blk b x.2.2.toArray 41) (fun x b => { tmps := #[.agg #[.int .i64 x0, .int .i64 x1, .bool x2, .slice xA xk xc, .slice xA2 xk2 xc2], .pointer (some ⟨bt, 0, none⟩), .pointer (some ⟨br, 0, none⟩), .pointer (some ⟨bn, 0, none⟩), .int .i64 (x.1 : Int), .pointer (some ⟨b, 0, none⟩), .agg #[.int .i64 x0, .int .i64 x1, .bool x2, .slice xA xk xc, .slice xA2 xk2 xc2], .func (.func 34) #[] #[.pointer (some ⟨bx, 0, none⟩)], .int .i64 (x.1 : Int), .agg x.2.2.toArray, undef, undef, undef, undef, undef, undef, undef, undef, undef, undef, undef, undef, undef, undef, undef, undef], defers := [] }) ?assign ?body ?done ?stop
  case assign =>
    rintro l0 ⟨d, tx, cx⟩ L W K H2 ⟨mx, hok⟩ hK
    obtain ⟨e0, e1, e2, e3, e4, rfl⟩ := five_of hok.len
    clear hE hLn
    replace hS := Kp.mk hS
    obtain ⟨f0, f1, f2, fA, fB, fk, fc, fk2, fc2, rfl, rfl, rfl, rfl, rfl⟩ := hok.forms
    have H := H2
    have C := H.facts
    simp only [Facts] at C
    dsimp only [encT]
    (repeat' ((fail_if_success (with_reducible show bodyPost _ _ _ _ _ _)); first | ((with_reducible refine Hp.abs_allocIn H ?_); intro b' w' H' hb'; (try simp only [hb']); clear hb'; ((try simp only [List.set_cons_zero, List.set_cons_succ, List.setIfInBounds_toArray] at H'); clear C H; have H := H'; clear H'; have C := Hp.facts H; simp only [Facts, factsL, and_true, true_and, List.set_cons_zero, List.set_cons_succ, List.setIfInBounds_toArray] at C)) | ((with_reducible show wpListIn _ _ _ _ _ _ _ (World.setCell _ _ _)); (with_reducible apply Hp.abs_genIn H); (first | ((repeat (with_reducible apply Hp.set' 0)); (with_reducible exact H); (repeat rfl); intro w' H') | ((repeat (with_reducible apply Hp.set' 1)); (with_reducible exact H); (repeat rfl); intro w' H') | ((repeat (with_reducible apply Hp.set' 2)); (with_reducible exact H); (repeat rfl); intro w' H') | ((repeat (with_reducible apply Hp.set' 3)); (with_reducible exact H); (repeat rfl); intro w' H') | ((repeat (with_reducible apply Hp.set' 4)); (with_reducible exact H); (repeat rfl); intro w' H') | ((repeat (with_reducible apply Hp.set' 5)); (with_reducible exact H); (repeat rfl); intro w' H') | ((repeat (with_reducible apply Hp.set' 6)); (with_reducible exact H); (repeat rfl); intro w' H') | ((repeat (with_reducible apply Hp.set' 7)); (with_reducible exact H); (repeat rfl); intro w' H')); ((try simp only [List.set_cons_zero, List.set_cons_succ, List.setIfInBounds_toArray] at H'); clear C H; have H := H'; clear H'; have C := Hp.facts H; simp only [Facts, factsL, and_true, true_and, List.set_cons_zero, List.set_cons_succ, List.setIfInBounds_toArray] at C)) | go_values | gi_guarded | gi_step | gi_upon | gi_back | (simp only [Int.not_lt, Int.not_le] at *; go_simp) | (go_values <;> (try go_simp)) | (go_ite <;> go_prune <;> (try go_simp)) | (split <;> (first | (rename_i hx; exact (hx _ rfl).elim) | go_prune))))
  case body =>
    rintro l0 pre ⟨d, tx, cx⟩ bk L M W ⟨rfl, hall, hlen⟩ H2 ⟨mx, hok⟩ hgood
    clear hE hLn
    replace hS := Kp.mk hS
    have H := H2
    simp only [List.cons_append, List.nil_append] at H
    have C := H.facts
    simp only [Facts, factsL, and_true, true_and, List.set_cons_zero, List.set_cons_succ, List.setIfInBounds_toArray] at C
    have gok := fun W' L' (H' : Hp w L' W') => hok.move (Kept.agree (Nat.le_refl _) H H' (fun x hx => (List.not_mem_nil hx).elim) (fun x hx => (List.not_mem_nil hx).elim))
    have hsd := fun W' L' (H' : Hp w L' W') => isound_any mx tx cx W' (gok W' L' H').any
    clear gok
    have hno := Kp.mk (@right_no t pre (d, tx, cx) hgood)
    obtain ⟨e0, e1, e2, e3, e4, rfl⟩ := five_of hok.len
    obtain ⟨f0, f1, f2, fA, fB, fk, fc, fk2, fc2, rfl, rfl, rfl, rfl, rfl⟩ := hok.forms
    clear hok hgood
    by_cases h32 : (32 : Int) < (d : Int)
    · have hno := Kp.mk (hno.out (.inl (by unfold okT; rw [decide_eq_false (by simp only; omega)]; rfl)))
      have e32 : decide ((32 : Int) < (d : Int)) = true := decide_eq_true h32
      clear h32
      (repeat' ((fail_if_success (with_reducible show bodyPost _ _ _ _ _ _)); first | ((with_reducible refine Hp.abs_allocIn H ?_); intro b' w' H' hb'; (try simp only [hb']); clear hb'; ((try simp only [List.set_cons_zero, List.set_cons_succ, List.setIfInBounds_toArray] at H'); clear C H; have H := H'; clear H'; have C := Hp.facts H; simp only [Facts, factsL, and_true, true_and, List.set_cons_zero, List.set_cons_succ, List.setIfInBounds_toArray] at C)) | ((with_reducible show wpListIn _ _ _ _ _ _ _ (World.setCell _ _ _)); (with_reducible apply Hp.abs_genIn H); (first | ((repeat (with_reducible apply Hp.set' 0)); (with_reducible exact H); (repeat rfl); intro w' H') | ((repeat (with_reducible apply Hp.set' 1)); (with_reducible exact H); (repeat rfl); intro w' H') | ((repeat (with_reducible apply Hp.set' 2)); (with_reducible exact H); (repeat rfl); intro w' H') | ((repeat (with_reducible apply Hp.set' 3)); (with_reducible exact H); (repeat rfl); intro w' H') | ((repeat (with_reducible apply Hp.set' 4)); (with_reducible exact H); (repeat rfl); intro w' H') | ((repeat (with_reducible apply Hp.set' 5)); (with_reducible exact H); (repeat rfl); intro w' H') | ((repeat (with_reducible apply Hp.set' 6)); (with_reducible exact H); (repeat rfl); intro w' H') | ((repeat (with_reducible apply Hp.set' 7)); (with_reducible exact H); (repeat rfl); intro w' H')); ((try simp only [List.set_cons_zero, List.set_cons_succ, List.setIfInBounds_toArray] at H'); clear C H; have H := H'; clear H'; have C := Hp.facts H; simp only [Facts, factsL, and_true, true_and, List.set_cons_zero, List.set_cons_succ, List.setIfInBounds_toArray] at C)) | (refine ⟨trivial, ?_⟩) | go_values | gi_guarded | gi_step | gi_upon | gi_back | (simp only [Int.not_lt, Int.not_le] at *; go_simp) | (go_values <;> (try go_simp)) | (go_ite <;> go_prune <;> (try go_simp)) | (split <;> (first | (rename_i hx; exact (hx _ rfl).elim) | go_prune))))
      exact ⟨[_, _, _], ⟨rfl, hno.out, _, rfl⟩, H.tail⟩
    · by_cases hN : (10000 : Int) < (pre.length : Int) + 1
      · have hno := Kp.mk (hno.out (.inr (by simp; omega)))
        (repeat' ((fail_if_success (with_reducible show bodyPost _ _ _ _ _ _)); first | ((with_reducible refine Hp.abs_allocIn H ?_); intro b' w' H' hb'; (try simp only [hb']); clear hb'; ((try simp only [List.set_cons_zero, List.set_cons_succ, List.setIfInBounds_toArray] at H'); clear C H; have H := H'; clear H'; have C := Hp.facts H; simp only [Facts, factsL, and_true, true_and, List.set_cons_zero, List.set_cons_succ, List.setIfInBounds_toArray] at C)) | ((with_reducible show wpListIn _ _ _ _ _ _ _ (World.setCell _ _ _)); (with_reducible apply Hp.abs_genIn H); (first | ((repeat (with_reducible apply Hp.set' 0)); (with_reducible exact H); (repeat rfl); intro w' H') | ((repeat (with_reducible apply Hp.set' 1)); (with_reducible exact H); (repeat rfl); intro w' H') | ((repeat (with_reducible apply Hp.set' 2)); (with_reducible exact H); (repeat rfl); intro w' H') | ((repeat (with_reducible apply Hp.set' 3)); (with_reducible exact H); (repeat rfl); intro w' H') | ((repeat (with_reducible apply Hp.set' 4)); (with_reducible exact H); (repeat rfl); intro w' H') | ((repeat (with_reducible apply Hp.set' 5)); (with_reducible exact H); (repeat rfl); intro w' H') | ((repeat (with_reducible apply Hp.set' 6)); (with_reducible exact H); (repeat rfl); intro w' H') | ((repeat (with_reducible apply Hp.set' 7)); (with_reducible exact H); (repeat rfl); intro w' H')); ((try simp only [List.set_cons_zero, List.set_cons_succ, List.setIfInBounds_toArray] at H'); clear C H; have H := H'; clear H'; have C := Hp.facts H; simp only [Facts, factsL, and_true, true_and, List.set_cons_zero, List.set_cons_succ, List.setIfInBounds_toArray] at C)) | (refine ⟨trivial, ?_⟩) | go_values | gi_guarded | gi_step | gi_upon | gi_back | (simp only [Int.not_lt, Int.not_le] at *; go_simp) | (go_values <;> (try go_simp)) | (go_ite <;> go_prune <;> (try go_simp)) | (split <;> (first | (rename_i hx; exact (hx _ rfl).elim) | go_prune))))
        exact ⟨[_, _, _], ⟨rfl, hno.out, _, rfl⟩, H.tail⟩
      · cases hfl : Tree.flat tx with
        | false =>
          have hno := Kp.mk (hno.out (.inl (by unfold okT; rw [hfl, Bool.and_false])))
          rw [hfl] at hsd
          clear hfl
          (repeat' ((fail_if_success (with_reducible show bodyPost _ _ _ _ _ _)); first | ((with_reducible refine Hp.abs_allocIn H ?_); intro b' w' H' hb'; (try simp only [hb']); clear hb'; ((try simp only [List.set_cons_zero, List.set_cons_succ, List.setIfInBounds_toArray] at H'); clear C H; have H := H'; clear H'; have C := Hp.facts H; simp only [Facts, factsL, and_true, true_and, List.set_cons_zero, List.set_cons_succ, List.setIfInBounds_toArray] at C)) | ((with_reducible show wpListIn _ _ _ _ _ _ _ (World.setCell _ _ _)); (with_reducible apply Hp.abs_genIn H); (first | ((repeat (with_reducible apply Hp.set' 0)); (with_reducible exact H); (repeat rfl); intro w' H') | ((repeat (with_reducible apply Hp.set' 1)); (with_reducible exact H); (repeat rfl); intro w' H') | ((repeat (with_reducible apply Hp.set' 2)); (with_reducible exact H); (repeat rfl); intro w' H') | ((repeat (with_reducible apply Hp.set' 3)); (with_reducible exact H); (repeat rfl); intro w' H') | ((repeat (with_reducible apply Hp.set' 4)); (with_reducible exact H); (repeat rfl); intro w' H') | ((repeat (with_reducible apply Hp.set' 5)); (with_reducible exact H); (repeat rfl); intro w' H') | ((repeat (with_reducible apply Hp.set' 6)); (with_reducible exact H); (repeat rfl); intro w' H') | ((repeat (with_reducible apply Hp.set' 7)); (with_reducible exact H); (repeat rfl); intro w' H')); ((try simp only [List.set_cons_zero, List.set_cons_succ, List.setIfInBounds_toArray] at H'); clear C H; have H := H'; clear H'; have C := Hp.facts H; simp only [Facts, factsL, and_true, true_and, List.set_cons_zero, List.set_cons_succ, List.setIfInBounds_toArray] at C)) | (refine ⟨trivial, ?_⟩; gi_at_call 45; refine (CallsIn.inRound l0 (callsIn_wide.2 (hsd _ _ H))).mono ?_; rintro e X2 ⟨rfl, hX2⟩; (have H' := Hp.step H hX2; clear hX2; ((try simp only [List.set_cons_zero, List.set_cons_succ, List.setIfInBounds_toArray] at H'); clear C H; have H := H'; clear H'; have C := Hp.facts H; simp only [Facts, factsL, and_true, true_and, List.set_cons_zero, List.set_cons_succ, List.setIfInBounds_toArray] at C))) | go_values | gi_guarded | gi_step | gi_upon | gi_back | (simp only [Int.not_lt, Int.not_le] at *; go_simp) | (go_values <;> (try go_simp)) | (go_ite <;> go_prune <;> (try go_simp)) | (split <;> (first | (rename_i hx; exact (hx _ rfl).elim) | go_prune))))
          exact ⟨[_, _, _], ⟨rfl, hno.out, _, rfl⟩, H.tail⟩
        | true =>
          have hall2 := Kp.mk (show (pre ++ [((d, tx, [.int .i64 f0, .int .i64 f1, .bool f2, .slice fA fk fc, .slice fB fk2 fc2]) : TI)]).all okT = true by
            rw [List.all_append, hall, List.all_cons, show okT (d, tx, _) = true by unfold okT; rw [hfl, decide_eq_true (by simp only; omega)]; rfl]
            rfl)
          rw [hfl] at hsd
          clear hfl hall hno
          (repeat' ((fail_if_success (with_reducible show bodyPost _ _ _ _ _ _)); first | ((with_reducible refine Hp.abs_allocIn H ?_); intro b' w' H' hb'; (try simp only [hb']); clear hb'; ((try simp only [List.set_cons_zero, List.set_cons_succ, List.setIfInBounds_toArray] at H'); clear C H; have H := H'; clear H'; have C := Hp.facts H; simp only [Facts, factsL, and_true, true_and, List.set_cons_zero, List.set_cons_succ, List.setIfInBounds_toArray] at C)) | ((with_reducible show wpListIn _ _ _ _ _ _ _ (World.setCell _ _ _)); (with_reducible apply Hp.abs_genIn H); (first | ((repeat (with_reducible apply Hp.set' 0)); (with_reducible exact H); (repeat rfl); intro w' H') | ((repeat (with_reducible apply Hp.set' 1)); (with_reducible exact H); (repeat rfl); intro w' H') | ((repeat (with_reducible apply Hp.set' 2)); (with_reducible exact H); (repeat rfl); intro w' H') | ((repeat (with_reducible apply Hp.set' 3)); (with_reducible exact H); (repeat rfl); intro w' H') | ((repeat (with_reducible apply Hp.set' 4)); (with_reducible exact H); (repeat rfl); intro w' H') | ((repeat (with_reducible apply Hp.set' 5)); (with_reducible exact H); (repeat rfl); intro w' H') | ((repeat (with_reducible apply Hp.set' 6)); (with_reducible exact H); (repeat rfl); intro w' H') | ((repeat (with_reducible apply Hp.set' 7)); (with_reducible exact H); (repeat rfl); intro w' H')); ((try simp only [List.set_cons_zero, List.set_cons_succ, List.setIfInBounds_toArray] at H'); clear C H; have H := H'; clear H'; have C := Hp.facts H; simp only [Facts, factsL, and_true, true_and, List.set_cons_zero, List.set_cons_succ, List.setIfInBounds_toArray] at C)) | (refine ⟨trivial, ?_⟩; gi_at_call 45; refine (CallsIn.inRound l0 (callsIn_wide.2 (hsd _ _ H))).mono ?_; rintro e X2 ⟨rfl, hX2⟩; (have H' := Hp.step H hX2; clear hX2; ((try simp only [List.set_cons_zero, List.set_cons_succ, List.setIfInBounds_toArray] at H'); clear C H; have H := H'; clear H'; have C := Hp.facts H; simp only [Facts, factsL, and_true, true_and, List.set_cons_zero, List.set_cons_succ, List.setIfInBounds_toArray] at C))) | go_values | gi_guarded | gi_step | gi_upon | gi_back | (simp only [Int.not_lt, Int.not_le] at *; go_simp) | (go_values <;> (try go_simp)) | (go_ite <;> go_prune <;> (try go_simp)) | (split <;> (first | (rename_i hx; exact (hx _ rfl).elim) | go_prune))))
          exact ⟨[Ent.blk bn #[.int .i64 ((pre.length : Int) + 1)] 3, _, _], ⟨by rw [List.length_append, List.length_cons, List.length_nil]; simp, hall2.out, by simp; omega⟩, H.tail⟩
  case done =>
    rintro D xs L W hS' ⟨rfl, hall, hlen⟩ H2
    clear H C hE hS
    have H := H2
    have hres := Kp.mk (right_yes hS' hall hlen)
    have C := H.facts
    simp only [Facts, factsL, and_true, true_and, List.set_cons_zero, List.set_cons_succ, List.setIfInBounds_toArray] at C
    (repeat' ((fail_if_success (with_reducible show bodyPost _ _ _ _ _ _)); first | ((with_reducible refine Hp.abs_alloc H ?_); intro b' w' H' hb'; (try simp only [hb']); clear hb'; ((try simp only [List.set_cons_zero, List.set_cons_succ, List.setIfInBounds_toArray] at H'); clear C H; have H := H'; clear H'; have C := Hp.facts H; simp only [Facts, factsL, and_true, true_and, List.set_cons_zero, List.set_cons_succ, List.setIfInBounds_toArray] at C)) | ((with_reducible show wpList _ _ _ _ _ (World.setCell _ _ _)); (with_reducible apply Hp.abs_gen H); (first | ((repeat (with_reducible apply Hp.set' 0)); (with_reducible exact H); (repeat rfl); intro w' H') | ((repeat (with_reducible apply Hp.set' 1)); (with_reducible exact H); (repeat rfl); intro w' H') | ((repeat (with_reducible apply Hp.set' 2)); (with_reducible exact H); (repeat rfl); intro w' H') | ((repeat (with_reducible apply Hp.set' 3)); (with_reducible exact H); (repeat rfl); intro w' H') | ((repeat (with_reducible apply Hp.set' 4)); (with_reducible exact H); (repeat rfl); intro w' H') | ((repeat (with_reducible apply Hp.set' 5)); (with_reducible exact H); (repeat rfl); intro w' H') | ((repeat (with_reducible apply Hp.set' 6)); (with_reducible exact H); (repeat rfl); intro w' H') | ((repeat (with_reducible apply Hp.set' 7)); (with_reducible exact H); (repeat rfl); intro w' H')); ((try simp only [List.set_cons_zero, List.set_cons_succ, List.setIfInBounds_toArray] at H'); clear C H; have H := H'; clear H'; have C := Hp.facts H; simp only [Facts, factsL, and_true, true_and, List.set_cons_zero, List.set_cons_succ, List.setIfInBounds_toArray] at C)) | go_values | go_skip | go_guarded | go_step | go_upon | go_back | (simp only [Int.not_lt, Int.not_le] at *; go_simp) | (go_values <;> (try go_simp)) | (go_ite <;> go_prune <;> (try go_simp)) | (split <;> (first | (rename_i hx; exact (hx _ rfl).elim) | go_prune))))
    refine (hLn.out _ H.low).mono ?_
    (rintro e' w' ⟨rfl, hb'⟩; (have H' := Hp.step H hb'; clear hb'; ((try simp only [List.set_cons_zero, List.set_cons_succ, List.setIfInBounds_toArray] at H'); clear C H; have H := H'; clear H'; have C := Hp.facts H; simp only [Facts, factsL, and_true, true_and, List.set_cons_zero, List.set_cons_succ, List.setIfInBounds_toArray] at C)))
    (repeat' ((fail_if_success (with_reducible show bodyPost _ _ _ _ _ _)); first | ((with_reducible refine Hp.abs_alloc H ?_); intro b' w' H' hb'; (try simp only [hb']); clear hb'; ((try simp only [List.set_cons_zero, List.set_cons_succ, List.setIfInBounds_toArray] at H'); clear C H; have H := H'; clear H'; have C := Hp.facts H; simp only [Facts, factsL, and_true, true_and, List.set_cons_zero, List.set_cons_succ, List.setIfInBounds_toArray] at C)) | ((with_reducible show wpList _ _ _ _ _ (World.setCell _ _ _)); (with_reducible apply Hp.abs_gen H); (first | ((repeat (with_reducible apply Hp.set' 0)); (with_reducible exact H); (repeat rfl); intro w' H') | ((repeat (with_reducible apply Hp.set' 1)); (with_reducible exact H); (repeat rfl); intro w' H') | ((repeat (with_reducible apply Hp.set' 2)); (with_reducible exact H); (repeat rfl); intro w' H') | ((repeat (with_reducible apply Hp.set' 3)); (with_reducible exact H); (repeat rfl); intro w' H') | ((repeat (with_reducible apply Hp.set' 4)); (with_reducible exact H); (repeat rfl); intro w' H') | ((repeat (with_reducible apply Hp.set' 5)); (with_reducible exact H); (repeat rfl); intro w' H') | ((repeat (with_reducible apply Hp.set' 6)); (with_reducible exact H); (repeat rfl); intro w' H') | ((repeat (with_reducible apply Hp.set' 7)); (with_reducible exact H); (repeat rfl); intro w' H')); ((try simp only [List.set_cons_zero, List.set_cons_succ, List.setIfInBounds_toArray] at H'); clear C H; have H := H'; clear H'; have C := Hp.facts H; simp only [Facts, factsL, and_true, true_and, List.set_cons_zero, List.set_cons_succ, List.setIfInBounds_toArray] at C)) | go_values | go_skip | go_guarded | go_step | go_upon | go_back | (simp only [Int.not_lt, Int.not_le] at *; go_simp) | (go_values <;> (try go_simp)) | (go_ite <;> go_prune <;> (try go_simp)) | (split <;> (first | (rename_i hx; exact (hx _ rfl).elim) | go_prune))))
    have H5 := H.putObj 0 rfl (.deferred none)
    have C5 := H5.facts
    simp only [Facts, factsL, and_true, true_and, List.set_cons_zero, List.set_cons_succ, List.setIfInBounds_toArray] at C5
    exact ⟨by simp, .inl ⟨_, _, rfl, run_takeDeferred (H.objAt 0 rfl), .bool (decide (0 ≤ lenT t)), by simp [results, go_sem, C5], by rw [hres.out], H5.low⟩⟩
  case stop =>
    rintro D cd pre L W _ ⟨rfl, hres, m, rfl⟩ H2
    clear H C hS hE hLn
    have H := H2
    have C := H.facts
    simp only [Facts, factsL, and_true, true_and, List.set_cons_zero, List.set_cons_succ, List.setIfInBounds_toArray] at C
    gi_wp2
    have H5 := H.putObj 0 rfl (.deferred none)
    have C5 := H5.facts
    simp only [Facts, factsL, and_true, true_and, List.set_cons_zero, List.set_cons_succ, List.setIfInBounds_toArray] at C5
    exact ⟨by simp, .inl ⟨_, _, rfl, run_takeDeferred (H.objAt 0 rfl), .bool false, by simp [results, go_sem, C5], by rw [hres], H5.low⟩⟩
end Go.Proofs.Ytogliinfdfkobaa

