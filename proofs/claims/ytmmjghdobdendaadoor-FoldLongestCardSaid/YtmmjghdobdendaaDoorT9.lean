/- Lemmas and walks on the way to the seat's laws; each theorem says its own conditions. -/
import Derived.Test.YtmmjghdobdendaaDoorT8
set_option linter.unusedSimpArgs false
set_option linter.unusedVariables false
set_option linter.unusedSimpArgs false
set_option linter.unusedVariables false
set_option maxRecDepth 100000
namespace Go.Proofs.YtmmjghdobdendaaDoor
open Go.RowKit Go.Mem Go.Reg Oct Bit Go.Txt Go.Shelf Go.LawLift
attribute [local go_sem] Oper.semAt_some
theorem all_take_no {α : Type} {p : α → Bool} {l : List α} {j : Nat} (h : (l.take j).all p = false) : l.all p = false := by
  rw [← List.take_append_drop j l, List.all_append, h, Bool.false_and]
theorem right_un {k : Int} {l : List UInt8} (h : knownK k = false) : rightT k l = false := by
  unfold rightT
  rw [h, Bool.false_and]
theorem right_is {k : Int} {l : List UInt8} (h : knownK k = true) : rightT k l = (sg k l).all (may k) := by
  unfold rightT
  rw [h, Bool.true_and]
set_option maxRecDepth 100000 in
set_option maxHeartbeats 2000000 in
theorem tright_any (k : Int) (l : List UInt8) (v : Value) (hl : l.length ≤ 1000000) (w : World) (hT : Tabs w) (hb : Bs w v l) :
    Calls Tryd.prog 42 #[.agg #[.int .i64 k, v]] w fun e w' => e = .returned (.bool (rightT k l)) ∧ Below w.heap.size w w' := by
  obtain ⟨A, c, rfl, hlc, hcm, hA, -⟩ := id hb.open
  have hK := knownk_any k
  have hM := may_any k
  have hS := fun w => signs_any k l A l.length c hl w
  refine (callsIn_wide (n := 6)).1 (callsIn_of_wp_marks Tryd.func42 rfl trivial ?_ rfl)
  refine wpIn_wide.2 ?_
  simp only [Tryd.ntmps42, List.size_toArray, List.length_cons, List.length_nil, Nat.reduceAdd, Nat.reduceSub, Array.replicate_succ, Array.replicate_zero, List.push_toArray, List.append_toArray, List.nil_append, List.cons_append]
  have H := Hp.start w
  have C : True := trivial
  cases hk : knownK k with
  | false =>
    rw [hk] at hK
    have hr := Kp.mk (right_un (l := l) hk)
    (repeat' ((fail_if_success (with_reducible show bodyPost _ _ _ _ _ _)); first | ((with_reducible refine Hp.abs_alloc H ?_); intro b' w' H' hb'; (try simp only [hb']); clear hb'; ((try simp only [List.set_cons_zero, List.set_cons_succ, List.setIfInBounds_toArray] at H'); clear C H; have H := H'; clear H'; have C := Hp.facts H; simp only [Facts, factsL, and_true, true_and, List.set_cons_zero, List.set_cons_succ, List.setIfInBounds_toArray] at C)) | ((with_reducible show wpList _ _ _ _ _ (World.setCell _ _ _)); (with_reducible apply Hp.abs_gen H); (first | ((repeat (with_reducible apply Hp.set' 0)); (with_reducible exact H); (repeat rfl); intro w' H') | ((repeat (with_reducible apply Hp.set' 1)); (with_reducible exact H); (repeat rfl); intro w' H') | ((repeat (with_reducible apply Hp.set' 2)); (with_reducible exact H); (repeat rfl); intro w' H') | ((repeat (with_reducible apply Hp.set' 3)); (with_reducible exact H); (repeat rfl); intro w' H') | ((repeat (with_reducible apply Hp.set' 4)); (with_reducible exact H); (repeat rfl); intro w' H') | ((repeat (with_reducible apply Hp.set' 5)); (with_reducible exact H); (repeat rfl); intro w' H') | ((repeat (with_reducible apply Hp.set' 6)); (with_reducible exact H); (repeat rfl); intro w' H') | ((repeat (with_reducible apply Hp.set' 7)); (with_reducible exact H); (repeat rfl); intro w' H')); ((try simp only [List.set_cons_zero, List.set_cons_succ, List.setIfInBounds_toArray] at H'); clear C H; have H := H'; clear H'; have C := Hp.facts H; simp only [Facts, factsL, and_true, true_and, List.set_cons_zero, List.set_cons_succ, List.setIfInBounds_toArray] at C)) | (go_at_call 44; refine (hK _).mono ?_; rintro e' w' ⟨rfl, hb'⟩; (have H' := Hp.step H hb'; clear hb'; ((try simp only [List.set_cons_zero, List.set_cons_succ, List.setIfInBounds_toArray] at H'); clear C H; have H := H'; clear H'; have C := Hp.facts H; simp only [Facts, factsL, and_true, true_and, List.set_cons_zero, List.set_cons_succ, List.setIfInBounds_toArray] at C))) | go_values | go_skip | go_guarded | go_step | go_upon | go_back | (simp only [Int.not_lt, Int.not_le] at *; go_simp) | (go_values <;> (try go_simp)) | (go_ite <;> go_prune <;> (try go_simp)) | (split <;> (first | (rename_i hx; exact (hx _ rfl).elim) | go_prune))))
    exact ⟨.bool false, by simp [results, go_sem, C], by rw [hr.out], H.low⟩
  | true =>
    rw [hk] at hK
    have hr := Kp.mk (right_is (l := l) hk)
    clear hk
    (repeat' ((fail_if_success (with_reducible show bodyPost _ _ _ _ _ _)); first | ((with_reducible refine Hp.abs_alloc H ?_); intro b' w' H' hb'; (try simp only [hb']); clear hb'; ((try simp only [List.set_cons_zero, List.set_cons_succ, List.setIfInBounds_toArray] at H'); clear C H; have H := H'; clear H'; have C := Hp.facts H; simp only [Facts, factsL, and_true, true_and, List.set_cons_zero, List.set_cons_succ, List.setIfInBounds_toArray] at C)) | ((with_reducible show wpList _ _ _ _ _ (World.setCell _ _ _)); (with_reducible apply Hp.abs_gen H); (first | ((repeat (with_reducible apply Hp.set' 0)); (with_reducible exact H); (repeat rfl); intro w' H') | ((repeat (with_reducible apply Hp.set' 1)); (with_reducible exact H); (repeat rfl); intro w' H') | ((repeat (with_reducible apply Hp.set' 2)); (with_reducible exact H); (repeat rfl); intro w' H') | ((repeat (with_reducible apply Hp.set' 3)); (with_reducible exact H); (repeat rfl); intro w' H') | ((repeat (with_reducible apply Hp.set' 4)); (with_reducible exact H); (repeat rfl); intro w' H') | ((repeat (with_reducible apply Hp.set' 5)); (with_reducible exact H); (repeat rfl); intro w' H') | ((repeat (with_reducible apply Hp.set' 6)); (with_reducible exact H); (repeat rfl); intro w' H') | ((repeat (with_reducible apply Hp.set' 7)); (with_reducible exact H); (repeat rfl); intro w' H')); ((try simp only [List.set_cons_zero, List.set_cons_succ, List.setIfInBounds_toArray] at H'); clear C H; have H := H'; clear H'; have C := Hp.facts H; simp only [Facts, factsL, and_true, true_and, List.set_cons_zero, List.set_cons_succ, List.setIfInBounds_toArray] at C)) | (go_at_call 44; refine (hK _).mono ?_; rintro e' w' ⟨rfl, hb'⟩; (have H' := Hp.step H hb'; clear hb'; ((try simp only [List.set_cons_zero, List.set_cons_succ, List.setIfInBounds_toArray] at H'); clear C H; have H := H'; clear H'; have C := Hp.facts H; simp only [Facts, factsL, and_true, true_and, List.set_cons_zero, List.set_cons_succ, List.setIfInBounds_toArray] at C))) | go_values | go_skip | go_guarded | go_step | go_upon | go_back | (simp only [Int.not_lt, Int.not_le] at *; go_simp) | (go_values <;> (try go_simp)) | (go_ite <;> go_prune <;> (try go_simp)) | (split <;> (first | (rename_i hx; exact (hx _ rfl).elim) | go_prune))))
    refine (hS _).mono ?_
    rintro e' w2 ⟨gf, bx, rfl, he, hH, hQ⟩
    have H' := hH _ _ H
    clear hH
    ((try simp only [List.set_cons_zero, List.set_cons_succ, List.setIfInBounds_toArray] at H'); clear C H; have H := H'; clear H'; have C := Hp.facts H; simp only [Facts, factsL, and_true, true_and, List.set_cons_zero, List.set_cons_succ, List.setIfInBounds_toArray] at C)
    (repeat' ((fail_if_success (with_reducible show bodyPost _ _ _ _ _ _)); first | ((with_reducible refine Hp.abs_alloc H ?_); intro b' w' H' hb'; (try simp only [hb']); clear hb'; ((try simp only [List.set_cons_zero, List.set_cons_succ, List.setIfInBounds_toArray] at H'); clear C H; have H := H'; clear H'; have C := Hp.facts H; simp only [Facts, factsL, and_true, true_and, List.set_cons_zero, List.set_cons_succ, List.setIfInBounds_toArray] at C)) | ((with_reducible show wpList _ _ _ _ _ (World.setCell _ _ _)); (with_reducible apply Hp.abs_gen H); (first | ((repeat (with_reducible apply Hp.set' 0)); (with_reducible exact H); (repeat rfl); intro w' H') | ((repeat (with_reducible apply Hp.set' 1)); (with_reducible exact H); (repeat rfl); intro w' H') | ((repeat (with_reducible apply Hp.set' 2)); (with_reducible exact H); (repeat rfl); intro w' H') | ((repeat (with_reducible apply Hp.set' 3)); (with_reducible exact H); (repeat rfl); intro w' H') | ((repeat (with_reducible apply Hp.set' 4)); (with_reducible exact H); (repeat rfl); intro w' H') | ((repeat (with_reducible apply Hp.set' 5)); (with_reducible exact H); (repeat rfl); intro w' H') | ((repeat (with_reducible apply Hp.set' 6)); (with_reducible exact H); (repeat rfl); intro w' H') | ((repeat (with_reducible apply Hp.set' 7)); (with_reducible exact H); (repeat rfl); intro w' H')); ((try simp only [List.set_cons_zero, List.set_cons_succ, List.setIfInBounds_toArray] at H'); clear C H; have H := H'; clear H'; have C := Hp.facts H; simp only [Facts, factsL, and_true, true_and, List.set_cons_zero, List.set_cons_succ, List.setIfInBounds_toArray] at C)) | go_values | go_skip | go_guarded | go_step | go_upon | go_back | (simp only [Int.not_lt, Int.not_le] at *; go_simp) | (go_values <;> (try go_simp)) | (go_ite <;> go_prune <;> (try go_simp)) | (split <;> (first | (rename_i hx; exact (hx _ rfl).elim) | go_prune))))
    (obtain ⟨b1, rfl⟩ := Hp.name H 2 rfl)
    have hbx : w.heap.size ≤ bx := (H.ok _ (List.mem_cons_self ..)).2
    refine (wpIn_wide (n := 6)).1 ?_
    refine' range_hp (n := 6) (by omega) (gf := gf) (lb := #[.pointer (some ⟨bx, 0, none⟩)]) rfl he H (hQ w hT hbx hb) (fun W h1 h2 => ⟨h1, h2⟩) (fun _ => rfl)
      (fun pre L => L = [Ent.blk b' #[.bool false] 4, Ent.blk b1 #[.int .i64 k, .slice A l.length c] 26] ∧ pre.all (may k) = true) (fun cd pre L => cd = .ret ∧ L = [Ent.blk b' #[.bool false] 4, Ent.blk b1 #[.int .i64 k, .slice A l.length c] 26] ∧ pre.all (may k) = false) ⟨rfl, rfl⟩ _ ?assign ?body ?done ?stop
    case assign =>
      intro l0 x W K hK
      dsimp only [encI]
      gi_wp2
      exact hK
    case body =>
      rintro l0 D ob oL pre x L W ⟨rfl, hp⟩ H2 hlt
      clear H C hQ
      have H := H2
      have C := H.facts
      simp only [Facts, factsL] at C
      cases hm : may k x with
      | true =>
        have hM1 := hM x
        rw [hm] at hM1
        have hm := Kp.mk hm
        gi_wp2_with (refine ⟨trivial, ?_⟩; gi_at_call 45; refine (CallsIn.inRound l0 (callsIn_wide.2 (hM1 _))).mono ?_; rintro e X2 ⟨rfl, hX2⟩; have H3 := H.step hX2)
        exact ⟨hX2.size, _, ⟨rfl, by rw [List.all_append, hp, List.all_cons, hm.out]; rfl⟩, H3⟩
      | false =>
        have hM1 := hM x
        rw [hm] at hM1
        have hm := Kp.mk hm
        gi_wp2_with (refine ⟨trivial, ?_⟩; gi_at_call 45; refine (CallsIn.inRound l0 (callsIn_wide.2 (hM1 _))).mono ?_; rintro e X2 ⟨rfl, hX2⟩; have H3 := H.step hX2; clear C; have C := H3.facts; simp only [Facts, factsL] at C)
        exact ⟨Nat.le_trans hX2.size (Only.setCell _ _ _ _).size, _, ⟨rfl, rfl, by rw [List.all_append, hp, List.all_cons, hm.out]; rfl⟩, H3.set 3 rfl 0 (.bool false)⟩
    case done =>
      rintro D ob xs L W rfl ⟨rfl, hp⟩ H2
      clear H C hQ
      have H := H2
      have C := H.facts
      simp only [Facts, factsL] at C
      (repeat' ((fail_if_success (with_reducible show bodyPost _ _ _ _ _ _)); first | ((with_reducible refine Hp.abs_alloc H ?_); intro b' w' H' hb'; (try simp only [hb']); clear hb'; ((try simp only [List.set_cons_zero, List.set_cons_succ, List.setIfInBounds_toArray] at H'); clear C H; have H := H'; clear H'; have C := Hp.facts H; simp only [Facts, factsL, and_true, true_and, List.set_cons_zero, List.set_cons_succ, List.setIfInBounds_toArray] at C)) | ((with_reducible show wpList _ _ _ _ _ (World.setCell _ _ _)); (with_reducible apply Hp.abs_gen H); (first | ((repeat (with_reducible apply Hp.set' 0)); (with_reducible exact H); (repeat rfl); intro w' H') | ((repeat (with_reducible apply Hp.set' 1)); (with_reducible exact H); (repeat rfl); intro w' H') | ((repeat (with_reducible apply Hp.set' 2)); (with_reducible exact H); (repeat rfl); intro w' H') | ((repeat (with_reducible apply Hp.set' 3)); (with_reducible exact H); (repeat rfl); intro w' H') | ((repeat (with_reducible apply Hp.set' 4)); (with_reducible exact H); (repeat rfl); intro w' H') | ((repeat (with_reducible apply Hp.set' 5)); (with_reducible exact H); (repeat rfl); intro w' H') | ((repeat (with_reducible apply Hp.set' 6)); (with_reducible exact H); (repeat rfl); intro w' H') | ((repeat (with_reducible apply Hp.set' 7)); (with_reducible exact H); (repeat rfl); intro w' H')); ((try simp only [List.set_cons_zero, List.set_cons_succ, List.setIfInBounds_toArray] at H'); clear C H; have H := H'; clear H'; have C := Hp.facts H; simp only [Facts, factsL, and_true, true_and, List.set_cons_zero, List.set_cons_succ, List.setIfInBounds_toArray] at C)) | go_values | go_skip | go_guarded | go_step | go_upon | go_back | (simp only [Int.not_lt, Int.not_le] at *; go_simp) | (go_values <;> (try go_simp)) | (go_ite <;> go_prune <;> (try go_simp)) | (split <;> (first | (rename_i hx; exact (hx _ rfl).elim) | go_prune))))
      have H5 := H.putObj 1 rfl (.deferred none)
      have C5 := H5.facts
      simp only [Facts, factsL, List.set_cons_succ, List.set_cons_zero] at C5
      exact ⟨by simp, .inl ⟨_, _, rfl, run_takeDeferred (H.objAt 1 rfl), .bool true, by simp [results, go_sem, C5], by rw [hr.out, hp], H5.low⟩⟩
    case stop =>
      rintro D ob cd pre L W ⟨j, rfl⟩ ⟨rfl, rfl, hp⟩ H2
      clear H C hQ
      have H := H2
      have C := H.facts
      simp only [Facts, factsL] at C
      gi_wp2
      have H5 := H.putObj 1 rfl (.deferred none)
      have C5 := H5.facts
      simp only [Facts, factsL, List.set_cons_succ, List.set_cons_zero] at C5
      exact ⟨by simp, .inl ⟨_, _, rfl, run_takeDeferred (H.objAt 1 rfl), .bool false, by simp [results, go_sem, C5], by rw [hr.out, all_take_no hp], H5.low⟩⟩
end Go.Proofs.YtmmjghdobdendaaDoor

