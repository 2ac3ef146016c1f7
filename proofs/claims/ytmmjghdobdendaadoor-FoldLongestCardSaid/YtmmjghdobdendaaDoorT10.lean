/- Lemmas and walks on the way to the seat's laws; each theorem says its own conditions. -/
import Derived.Test.YtmmjghdobdendaaDoorT9
set_option linter.unusedSimpArgs false
set_option linter.unusedVariables false
set_option linter.unusedSimpArgs false
set_option linter.unusedVariables false
set_option maxRecDepth 100000
namespace Go.Proofs.YtmmjghdobdendaaDoor
open Go.RowKit Go.Mem Go.Reg Oct Bit Go.Txt Go.Shelf Go.LawLift
attribute [local go_sem] Oper.semAt_some
/-- A row of whole numbers, and an error. -/
def OutZ (w : World) (xs : List Int) (er : Int) (e : Ending) (w' : World) : Prop := (∃ v, e = .returned (.tuple #[v, .int .i64 er]) ∧ w'.ownsRow w.heap.size 3 1 v xs.length (zvs xs)) ∧ Below w.heap.size w w'
theorem OutZ.none {w w' : World} {er : Int} {e : Ending} (he : e = .returned (.tuple #[.slice none 0 0, .int .i64 er])) (hb : Below w.heap.size w w') : OutZ w [] er e w' := ⟨⟨_, he, World.ownsRow_nil w' _ _ _⟩, hb⟩
def sgOf (k : Int) (l : List UInt8) : List Int := if rightT k l then sg k l else []
def erOf (k : Int) (l : List UInt8) : Int := if rightT k l then 0 else 6
theorem sg_len (k : Int) (l : List UInt8) : (sg k l).length ≤ l.length := by
  have h1 : ∀ (n : Nat) (l : List UInt8), (sgW n l).length ≤ l.length := by
    intro n
    induction n with
    | zero => intro l; simp [sgW]
    | succ n ih =>
      intro l
      by_cases hl : l = []
      · subst hl; simp [sgW]
      · have hw := Lib.decodeL_width l
        have hp : 0 < l.length := List.length_pos_iff.2 hl
        simp only [sgW, if_neg hl, List.length_cons]
        have := ih (l.drop (Lib.decodeL l).2)
        rw [List.length_drop] at this
        omega
  have h2 : ∀ (n : Nat) (l : List UInt8), l.length ≤ n → (sgP l).length ≤ l.length := by
    intro n
    induction n with
    | zero => intro l hl; obtain rfl : l = [] := List.eq_nil_of_length_eq_zero (by omega); simp [sgP]
    | succ n ih =>
      intro l hl
      match l, hl with
      | [], _ => simp [sgP]
      | [_], _ => simp [sgP]
      | a :: b :: r, hl =>
        simp only [sgP, List.length_cons] at *
        have := ih r (by omega)
        omega
  unfold sg
  by_cases hk : k = 12
  · rw [if_pos hk]; exact h1 _ _
  · rw [if_neg hk]
    by_cases hk2 : k = 30
    · rw [if_pos hk2]; exact h2 _ _ (Nat.le_refl _)
    · rw [if_neg hk2]; simp [sgS]
set_option maxRecDepth 100000 in
set_option maxHeartbeats 2000000 in
theorem tsigns_any (k : Int) (l : List UInt8) (v : Value) (hl : l.length ≤ 1000000) (w : World) (hT : Tabs w) (hb : Bs w v l) :
    Calls Tryd.prog 26 #[.agg #[.int .i64 k, v]] w (OutZ w (sgOf k l) (erOf k l)) := by
  obtain ⟨i0, hi, hz0, hz1, hz2⟩ := info_parts info_i64
  have hR := fun w => tright_any k l v hl w
  have hlen := sg_len k l
  obtain ⟨A, c, rfl, hlc, hcm, hA, -⟩ := id hb.open
  have hS := fun w => signs_any k l A l.length c hl w
  refine (callsIn_wide (n := 6)).1 (callsIn_of_wp_marks Tryd.func26 rfl trivial ?_ rfl)
  refine wpIn_wide.2 ?_
  simp only [Tryd.ntmps26, List.size_toArray, List.length_cons, List.length_nil, Nat.reduceAdd, Nat.reduceSub, Array.replicate_succ, Array.replicate_zero, List.push_toArray, List.append_toArray, List.nil_append, List.cons_append]
  have H := Hp.start w
  have C : True := trivial
  cases hr : rightT k l with
  | false =>
    rw [hr] at hR
    have h1 := Kp.mk (show sgOf k l = [] by unfold sgOf; rw [hr]; rfl)
    have h2 := Kp.mk (show erOf k l = 6 by unfold erOf; rw [hr]; rfl)
    clear hr
    (repeat' ((fail_if_success (with_reducible show bodyPost _ _ _ _ _ _)); first | ((with_reducible refine Hp.abs_alloc H ?_); intro b' w' H' hb'; (try simp only [hb']); clear hb'; ((try simp only [List.set_cons_zero, List.set_cons_succ, List.setIfInBounds_toArray] at H'); clear C H; have H := H'; clear H'; have C := Hp.facts H; simp only [Facts, factsL, and_true, true_and, List.set_cons_zero, List.set_cons_succ, List.setIfInBounds_toArray] at C)) | ((with_reducible show wpList _ _ _ _ _ (World.setCell _ _ _)); (with_reducible apply Hp.abs_gen H); (first | ((repeat (with_reducible apply Hp.set' 0)); (with_reducible exact H); (repeat rfl); intro w' H') | ((repeat (with_reducible apply Hp.set' 1)); (with_reducible exact H); (repeat rfl); intro w' H') | ((repeat (with_reducible apply Hp.set' 2)); (with_reducible exact H); (repeat rfl); intro w' H') | ((repeat (with_reducible apply Hp.set' 3)); (with_reducible exact H); (repeat rfl); intro w' H') | ((repeat (with_reducible apply Hp.set' 4)); (with_reducible exact H); (repeat rfl); intro w' H') | ((repeat (with_reducible apply Hp.set' 5)); (with_reducible exact H); (repeat rfl); intro w' H') | ((repeat (with_reducible apply Hp.set' 6)); (with_reducible exact H); (repeat rfl); intro w' H') | ((repeat (with_reducible apply Hp.set' 7)); (with_reducible exact H); (repeat rfl); intro w' H')); ((try simp only [List.set_cons_zero, List.set_cons_succ, List.setIfInBounds_toArray] at H'); clear C H; have H := H'; clear H'; have C := Hp.facts H; simp only [Facts, factsL, and_true, true_and, List.set_cons_zero, List.set_cons_succ, List.setIfInBounds_toArray] at C)) | (go_at_call 42; refine (hR _ (hT.below H.low) (H.bs hb)).mono ?_; rintro e' w' ⟨rfl, hb'⟩; (have H' := Hp.step H hb'; clear hb'; ((try simp only [List.set_cons_zero, List.set_cons_succ, List.setIfInBounds_toArray] at H'); clear C H; have H := H'; clear H'; have C := Hp.facts H; simp only [Facts, factsL, and_true, true_and, List.set_cons_zero, List.set_cons_succ, List.setIfInBounds_toArray] at C))) | go_values | go_skip | go_guarded | go_step | go_upon | go_back | (simp only [Int.not_lt, Int.not_le] at *; go_simp) | (go_values <;> (try go_simp)) | (go_ite <;> go_prune <;> (try go_simp)) | (split <;> (first | (rename_i hx; exact (hx _ rfl).elim) | go_prune))))
    exact ⟨.tuple #[.slice none 0 0, .int .i64 6], by simp [results, go_sem], by rw [h1.out, h2.out]; exact OutZ.none rfl H.low⟩
  | true =>
    rw [hr] at hR
    have h1 := Kp.mk (show sgOf k l = sg k l by unfold sgOf; rw [hr]; rfl)
    have h2 := Kp.mk (show erOf k l = 0 by unfold erOf; rw [hr]; rfl)
    clear hr
    (repeat' ((fail_if_success (with_reducible show bodyPost _ _ _ _ _ _)); first | ((with_reducible refine Hp.abs_alloc H ?_); intro b' w' H' hb'; (try simp only [hb']); clear hb'; ((try simp only [List.set_cons_zero, List.set_cons_succ, List.setIfInBounds_toArray] at H'); clear C H; have H := H'; clear H'; have C := Hp.facts H; simp only [Facts, factsL, and_true, true_and, List.set_cons_zero, List.set_cons_succ, List.setIfInBounds_toArray] at C)) | ((with_reducible show wpList _ _ _ _ _ (World.setCell _ _ _)); (with_reducible apply Hp.abs_gen H); (first | ((repeat (with_reducible apply Hp.set' 0)); (with_reducible exact H); (repeat rfl); intro w' H') | ((repeat (with_reducible apply Hp.set' 1)); (with_reducible exact H); (repeat rfl); intro w' H') | ((repeat (with_reducible apply Hp.set' 2)); (with_reducible exact H); (repeat rfl); intro w' H') | ((repeat (with_reducible apply Hp.set' 3)); (with_reducible exact H); (repeat rfl); intro w' H') | ((repeat (with_reducible apply Hp.set' 4)); (with_reducible exact H); (repeat rfl); intro w' H') | ((repeat (with_reducible apply Hp.set' 5)); (with_reducible exact H); (repeat rfl); intro w' H') | ((repeat (with_reducible apply Hp.set' 6)); (with_reducible exact H); (repeat rfl); intro w' H') | ((repeat (with_reducible apply Hp.set' 7)); (with_reducible exact H); (repeat rfl); intro w' H')); ((try simp only [List.set_cons_zero, List.set_cons_succ, List.setIfInBounds_toArray] at H'); clear C H; have H := H'; clear H'; have C := Hp.facts H; simp only [Facts, factsL, and_true, true_and, List.set_cons_zero, List.set_cons_succ, List.setIfInBounds_toArray] at C)) | (go_at_call 42; refine (hR _ (hT.below H.low) (H.bs hb)).mono ?_; rintro e' w' ⟨rfl, hb'⟩; (have H' := Hp.step H hb'; clear hb'; ((try simp only [List.set_cons_zero, List.set_cons_succ, List.setIfInBounds_toArray] at H'); clear C H; have H := H'; clear H'; have C := Hp.facts H; simp only [Facts, factsL, and_true, true_and, List.set_cons_zero, List.set_cons_succ, List.setIfInBounds_toArray] at C))) | go_values | go_skip | go_guarded | go_step | go_upon | go_back | (simp only [Int.not_lt, Int.not_le] at *; go_simp) | (go_values <;> (try go_simp)) | (go_ite <;> go_prune <;> (try go_simp)) | (split <;> (first | (rename_i hx; exact (hx _ rfl).elim) | go_prune))))
    refine (hS _).mono ?_
    rintro e' w2 ⟨gf, bx, rfl, he, hH, hQ⟩
    have H' := hH _ _ H
    clear hH
    ((try simp only [List.set_cons_zero, List.set_cons_succ, List.setIfInBounds_toArray] at H'); clear C H; have H := H'; clear H'; have C := Hp.facts H; simp only [Facts, factsL, and_true, true_and, List.set_cons_zero, List.set_cons_succ, List.setIfInBounds_toArray] at C)
    (repeat' ((fail_if_success (with_reducible show bodyPost _ _ _ _ _ _)); first | ((with_reducible refine Hp.abs_alloc H ?_); intro b' w' H' hb'; (try simp only [hb']); clear hb'; ((try simp only [List.set_cons_zero, List.set_cons_succ, List.setIfInBounds_toArray] at H'); clear C H; have H := H'; clear H'; have C := Hp.facts H; simp only [Facts, factsL, and_true, true_and, List.set_cons_zero, List.set_cons_succ, List.setIfInBounds_toArray] at C)) | ((with_reducible show wpList _ _ _ _ _ (World.setCell _ _ _)); (with_reducible apply Hp.abs_gen H); (first | ((repeat (with_reducible apply Hp.set' 0)); (with_reducible exact H); (repeat rfl); intro w' H') | ((repeat (with_reducible apply Hp.set' 1)); (with_reducible exact H); (repeat rfl); intro w' H') | ((repeat (with_reducible apply Hp.set' 2)); (with_reducible exact H); (repeat rfl); intro w' H') | ((repeat (with_reducible apply Hp.set' 3)); (with_reducible exact H); (repeat rfl); intro w' H') | ((repeat (with_reducible apply Hp.set' 4)); (with_reducible exact H); (repeat rfl); intro w' H') | ((repeat (with_reducible apply Hp.set' 5)); (with_reducible exact H); (repeat rfl); intro w' H') | ((repeat (with_reducible apply Hp.set' 6)); (with_reducible exact H); (repeat rfl); intro w' H') | ((repeat (with_reducible apply Hp.set' 7)); (with_reducible exact H); (repeat rfl); intro w' H')); ((try simp only [List.set_cons_zero, List.set_cons_succ, List.setIfInBounds_toArray] at H'); clear C H; have H := H'; clear H'; have C := Hp.facts H; simp only [Facts, factsL, and_true, true_and, List.set_cons_zero, List.set_cons_succ, List.setIfInBounds_toArray] at C)) | go_values | go_skip | go_guarded | go_step | go_upon | go_back | (simp only [Int.not_lt, Int.not_le] at *; go_simp) | (go_values <;> (try go_simp)) | (go_ite <;> go_prune <;> (try go_simp)) | (split <;> (first | (rename_i hx; exact (hx _ rfl).elim) | go_prune))))
    (obtain ⟨bq, rfl⟩ := Hp.name H 1 rfl; obtain ⟨bt, rfl⟩ := Hp.name H 2 rfl)
    have hbx : w.heap.size ≤ bx := (H.ok _ (List.mem_cons_self ..)).2
    have H0 := (Hp.nilRow H 3 1).perm ((List.Perm.swap _ _ _).trans (List.Perm.cons _ (List.Perm.swap _ _ _)))
    clear H C
    refine (wpIn_wide (n := 6)).1 ?_
    refine' range_hp (n := 6) (by omega) (gf := gf) (lb := #[.pointer (some ⟨bx, 0, none⟩)]) rfl he H0 (hQ w hT hbx hb) (fun W h1 h2 => ⟨h1, h2⟩) (fun _ => rfl)
      (fun pre L => ∃ v', L = [Ent.blk bq #[v'] 22, Ent.row 3 1 v' pre.length (zvs pre), Ent.blk bt #[.int .i64 k, .slice A l.length c] 26]) (fun _ _ _ => False) ⟨_, rfl⟩ _ ?assign ?body ?done ?stop
    case assign =>
      intro l0 x W K hK
      dsimp only [encI]
      gi_wp2
      exact hK
    case body =>
      rintro l0 D ob oL pre x L W ⟨v', rfl⟩ H2 hlt
      clear H0 hQ
      have H := H2
      have C := H.facts
      simp only [Facts, factsL, List.cons_append, List.nil_append] at C H
      gi_wp2_with (gi_at_builtin; have HA := H.alloc #[.int .i64 x] 3; refine wpListIn_append_hp HA 5 rfl _ _ _ rfl Tryd.underlying22 hi hz0 hz1 hz2 rfl (by decide) rfl rfl (news := [_]) rfl rfl (blk_news (HA.get 0 rfl)) (by simp [Value.oneCell']) (by unfold maxLen; omega) (by omega) ?_; intro v2 w1 H6; obtain ⟨A2, c2, rfl⟩ := Go.LawLift.own_form (ownsOf H6 5 rfl); clear C; have C := H6.facts; simp only [Facts, factsL, List.set_cons_succ, List.set_cons_zero] at C H6)
      have H7 := H6.set 4 rfl 0 (.slice A2 (pre.length + 1) c2)
      refine ⟨Nat.le_of_lt (H7.lt 0 rfl), _, ⟨.slice A2 (pre.length + 1) c2, rfl⟩, ?_⟩
      rw [show (pre ++ [x]).length = pre.length + 1 by simp, ← zvs_snoc]
      exact H7.tail
    case done =>
      rintro D ob xs L W rfl ⟨v', rfl⟩ H2
      clear H0 hQ
      have H := H2
      have C := H.facts
      simp only [Facts, factsL] at C
      (repeat' ((fail_if_success (with_reducible show bodyPost _ _ _ _ _ _)); first | ((with_reducible refine Hp.abs_alloc H ?_); intro b' w' H' hb'; (try simp only [hb']); clear hb'; ((try simp only [List.set_cons_zero, List.set_cons_succ, List.setIfInBounds_toArray] at H'); clear C H; have H := H'; clear H'; have C := Hp.facts H; simp only [Facts, factsL, and_true, true_and, List.set_cons_zero, List.set_cons_succ, List.setIfInBounds_toArray] at C)) | ((with_reducible show wpList _ _ _ _ _ (World.setCell _ _ _)); (with_reducible apply Hp.abs_gen H); (first | ((repeat (with_reducible apply Hp.set' 0)); (with_reducible exact H); (repeat rfl); intro w' H') | ((repeat (with_reducible apply Hp.set' 1)); (with_reducible exact H); (repeat rfl); intro w' H') | ((repeat (with_reducible apply Hp.set' 2)); (with_reducible exact H); (repeat rfl); intro w' H') | ((repeat (with_reducible apply Hp.set' 3)); (with_reducible exact H); (repeat rfl); intro w' H') | ((repeat (with_reducible apply Hp.set' 4)); (with_reducible exact H); (repeat rfl); intro w' H') | ((repeat (with_reducible apply Hp.set' 5)); (with_reducible exact H); (repeat rfl); intro w' H') | ((repeat (with_reducible apply Hp.set' 6)); (with_reducible exact H); (repeat rfl); intro w' H') | ((repeat (with_reducible apply Hp.set' 7)); (with_reducible exact H); (repeat rfl); intro w' H')); ((try simp only [List.set_cons_zero, List.set_cons_succ, List.setIfInBounds_toArray] at H'); clear C H; have H := H'; clear H'; have C := Hp.facts H; simp only [Facts, factsL, and_true, true_and, List.set_cons_zero, List.set_cons_succ, List.setIfInBounds_toArray] at C)) | go_values | go_skip | go_guarded | go_step | go_upon | go_back | (simp only [Int.not_lt, Int.not_le] at *; go_simp) | (go_values <;> (try go_simp)) | (go_ite <;> go_prune <;> (try go_simp)) | (split <;> (first | (rename_i hx; exact (hx _ rfl).elim) | go_prune))))
      have H5 := H.putObj 1 rfl (.deferred none)
      refine ⟨by simp, .inl ⟨_, _, rfl, run_takeDeferred (H.objAt 1 rfl), .tuple #[v', .int .i64 0], by simp [results, go_sem], ?_⟩⟩
      rw [h1.out, h2.out]
      exact ⟨⟨_, rfl, ownsOf H5 3 rfl⟩, H5.low⟩
    case stop =>
      rintro D ob cd pre L W _ h _
      exact h.elim
end Go.Proofs.YtmmjghdobdendaaDoor

