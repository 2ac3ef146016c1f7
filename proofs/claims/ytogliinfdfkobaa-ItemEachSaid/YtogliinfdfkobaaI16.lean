/- Lemmas and walks on the way to the seat's laws; each theorem says its own conditions. -/
import Derived.Test.YtogliinfdfkobaaI15
set_option linter.unusedSimpArgs false
set_option linter.unusedVariables false
set_option linter.unusedSimpArgs false
set_option linter.unusedVariables false
set_option maxRecDepth 100000
namespace Go.Proofs.Ytogliinfdfkobaa
open Go.RowKit Go.Mem Go.Reg Oct Hd Go.LawLift
/-- What parsing tells and leaves. -/
def ParP (w : World) (l : List UInt8) (e : Ending) (w' : World) : Prop :=
  (∀ er, parseR l = .bad er → e = .returned (.tuple #[.agg #[.int .i64 0, .int .i64 0, .bool false, .slice none 0 0, .slice none 0 0], .slice none 0 0, .int .i64 (er : Int)])) ∧
  (∀ t sp, parseR l = .ok (t, sp) → ∃ (cs : List Value) (sv : Value), e = .returned (.tuple #[.agg cs.toArray, sv, .int .i64 0]) ∧ ItP (fun b => b < 0 ∨ w.heap.size ≤ b) w' 32 t cs ∧ w'.ownsRow w.heap.size 56 2 sv sp.length (pv (pz sp))) ∧ Below w.heap.size w w'
theorem ParP.bad {w : World} {l : List UInt8} {e : Ending} {w' : World} {er : Nat} (h : parseR l = .bad er) (he : e = .returned (.tuple #[.agg #[.int .i64 0, .int .i64 0, .bool false, .slice none 0 0, .slice none 0 0], .slice none 0 0, .int .i64 (er : Int)])) (hb : Below w.heap.size w w') : ParP w l e w' :=
  ⟨fun er2 h2 => by rw [h] at h2; injection h2 with h2; subst h2; exact he, fun t sp h2 => (by rw [h] at h2; cases h2), hb⟩
theorem ParP.okk {w : World} {l : List UInt8} {e : Ending} {w' : World} {t : Tree} {sp : Sps} (h : parseR l = .ok (t, sp)) (he : ∃ (cs : List Value) (sv : Value), e = .returned (.tuple #[.agg cs.toArray, sv, .int .i64 0]) ∧ ItP (fun b => b < 0 ∨ w.heap.size ≤ b) w' 32 t cs ∧ w'.ownsRow w.heap.size 56 2 sv sp.length (pv (pz sp))) (hb : Below w.heap.size w w') : ParP w l e w' :=
  ⟨fun er2 h2 => (by rw [h] at h2; cases h2), fun t2 sp2 h2 => by rw [h] at h2; injection h2 with h2; simp only [Prod.mk.injEq] at h2; obtain ⟨rfl, rfl⟩ := h2; exact he, hb⟩
/-- What Parse tells. -/
def PaP (w : World) (l : List UInt8) (e : Ending) (w' : World) : Prop :=
  (∀ er, parseR l = .bad er → e = .returned (.tuple #[.agg #[.int .i64 0, .int .i64 0, .bool false, .slice none 0 0, .slice none 0 0], .int .i64 (er : Int)])) ∧
  (∀ t sp, parseR l = .ok (t, sp) → ∃ (cs : List Value), e = .returned (.tuple #[.agg cs.toArray, .int .i64 0]) ∧ ItP (fun b => b < 0 ∨ w.heap.size ≤ b) w' 32 t cs) ∧ Below w.heap.size w w'
theorem PaP.bad {w : World} {l : List UInt8} {e : Ending} {w' : World} {er : Nat} (h : parseR l = .bad er) (he : e = .returned (.tuple #[.agg #[.int .i64 0, .int .i64 0, .bool false, .slice none 0 0, .slice none 0 0], .int .i64 (er : Int)])) (hb : Below w.heap.size w w') : PaP w l e w' :=
  ⟨fun er2 h2 => by rw [h] at h2; injection h2 with h2; subst h2; exact he, fun t sp h2 => (by rw [h] at h2; cases h2), hb⟩
theorem PaP.okk {w : World} {l : List UInt8} {e : Ending} {w' : World} {t : Tree} {sp : Sps} (h : parseR l = .ok (t, sp)) (he : ∃ (cs : List Value), e = .returned (.tuple #[.agg cs.toArray, .int .i64 0]) ∧ ItP (fun b => b < 0 ∨ w.heap.size ≤ b) w' 32 t cs) (hb : Below w.heap.size w w') : PaP w l e w' :=
  ⟨fun er2 h2 => (by rw [h] at h2; cases h2), fun t2 sp2 h2 => by rw [h] at h2; injection h2 with h2; simp only [Prod.mk.injEq] at h2; obtain ⟨rfl, rfl⟩ := h2; exact he, hb⟩
/-- What Spans tells. -/
def SpP (w : World) (l : List UInt8) (e : Ending) (w' : World) : Prop :=
  (∀ er, parseR l = .bad er → e = .returned (.tuple #[.slice none 0 0, .int .i64 (er : Int)])) ∧
  (∀ t sp, parseR l = .ok (t, sp) → ∃ (sv : Value), e = .returned (.tuple #[sv, .int .i64 0]) ∧ w'.ownsRow w.heap.size 56 2 sv sp.length (pv (pz sp))) ∧ Below w.heap.size w w'
theorem SpP.bad {w : World} {l : List UInt8} {e : Ending} {w' : World} {er : Nat} (h : parseR l = .bad er) (he : e = .returned (.tuple #[.slice none 0 0, .int .i64 (er : Int)])) (hb : Below w.heap.size w w') : SpP w l e w' :=
  ⟨fun er2 h2 => by rw [h] at h2; injection h2 with h2; subst h2; exact he, fun t sp h2 => (by rw [h] at h2; cases h2), hb⟩
theorem SpP.okk {w : World} {l : List UInt8} {e : Ending} {w' : World} {t : Tree} {sp : Sps} (h : parseR l = .ok (t, sp)) (he : ∃ (sv : Value), e = .returned (.tuple #[sv, .int .i64 0]) ∧ w'.ownsRow w.heap.size 56 2 sv sp.length (pv (pz sp))) (hb : Below w.heap.size w w') : SpP w l e w' :=
  ⟨fun er2 h2 => (by rw [h] at h2; cases h2), fun t2 sp2 h2 => by rw [h] at h2; injection h2 with h2; simp only [Prod.mk.injEq] at h2; obtain ⟨rfl, rfl⟩ := h2; exact he, hb⟩
set_option maxHeartbeats 3200000 in
theorem parse_any (l : List UInt8) (v : Value) (w : World) (hb : Bs w v l) (hl : l.length ≤ 1000000) : Calls Try.prog 38 #[v] w (ParP w l) := by
  obtain ⟨A, c, rfl, hlc, hcm, hA, -⟩ := id hb.open
  have H := Hp.start w
  have C : True := trivial
  obtain ⟨Q, hQ⟩ : ∃ Q, Q = ParP w l := ⟨_, rfl⟩
  rw [← hQ]
  replace hQ := Kp.mk hQ
  have hn : ¬ (16777216 : Int) < (l.length : Int) := by omega
  have gl := Kp.mk hl
  have gb := Kp.mk hb
  clear hb hcm hlc hA
  go_enter Try.func38, Try.ntmps38
  (repeat' ((fail_if_success (with_reducible show bodyPost _ _ _ _ _ _)); first | ((with_reducible refine Hp.abs_alloc H ?_); intro b' w' H' hb'; (try simp only [hb']); clear hb'; ((try simp only [List.set_cons_zero, List.set_cons_succ, List.setIfInBounds_toArray] at H'); clear C H; have H := H'; clear H'; have C := Hp.facts H; simp only [Facts, factsL, and_true, true_and, List.set_cons_zero, List.set_cons_succ, List.setIfInBounds_toArray] at C)) | ((with_reducible show wpList _ _ _ _ _ (World.setCell _ _ _)); (with_reducible apply Hp.abs_gen H); (first | ((repeat (with_reducible apply Hp.set' 0)); (with_reducible exact H); (repeat rfl); intro w' H') | ((repeat (with_reducible apply Hp.set' 1)); (with_reducible exact H); (repeat rfl); intro w' H') | ((repeat (with_reducible apply Hp.set' 2)); (with_reducible exact H); (repeat rfl); intro w' H') | ((repeat (with_reducible apply Hp.set' 3)); (with_reducible exact H); (repeat rfl); intro w' H') | ((repeat (with_reducible apply Hp.set' 4)); (with_reducible exact H); (repeat rfl); intro w' H') | ((repeat (with_reducible apply Hp.set' 5)); (with_reducible exact H); (repeat rfl); intro w' H') | ((repeat (with_reducible apply Hp.set' 6)); (with_reducible exact H); (repeat rfl); intro w' H') | ((repeat (with_reducible apply Hp.set' 7)); (with_reducible exact H); (repeat rfl); intro w' H')); ((try simp only [List.set_cons_zero, List.set_cons_succ, List.setIfInBounds_toArray] at H'); clear C H; have H := H'; clear H'; have C := Hp.facts H; simp only [Facts, factsL, and_true, true_and, List.set_cons_zero, List.set_cons_succ, List.setIfInBounds_toArray] at C)) | (go_at_call 50; refine (new_any l _ _ (H.bs gb.out) gl.out).mono ?_; rintro e' w' ⟨⟨q, y, rfl, hc⟩, hb⟩; have H' := hc.hp H hb; clear hc hb; ((try simp only [List.set_cons_zero, List.set_cons_succ, List.setIfInBounds_toArray] at H'); clear C H; have H := H'; clear H'; have C := Hp.facts H; simp only [Facts, factsL, and_true, true_and, List.set_cons_zero, List.set_cons_succ, List.setIfInBounds_toArray] at C)) | go_values | go_skip | go_guarded | go_step | go_upon | go_back | (simp only [Int.not_lt, Int.not_le] at *; go_simp) | (go_values <;> (try go_simp)) | (go_ite <;> go_prune <;> (try go_simp)) | (split <;> (first | (rename_i hx; exact (hx _ rfl).elim) | go_prune))))
  (obtain ⟨br, rfl⟩ := Hp.name H 0 rfl; obtain ⟨q, rfl⟩ := Hp.name H 1 rfl; obtain ⟨bs, rfl⟩ := Hp.name H 3 rfl; obtain ⟨bn, rfl⟩ := Hp.name H 4 rfl; obtain ⟨bz, rfl⟩ := Hp.name H 5 rfl)
  have H2 : Hp w (RdL q y l 0 bn bs 0 (.slice none 0 0) [] [.blk br #[.pointer (some ⟨q, 0, none⟩), .int .i64 0, .pointer (some ⟨bn, 0, none⟩), .pointer (some ⟨bs, 0, none⟩)] 97, .blk bz #[.int .i64 0, .int .i64 0, .bool false, .slice none 0 0, .slice none 0 0] 41]) _ := Hp.sel (H.nilRow 56 2) [2, 3, 5, 4, 0, 1, 6] (by decide)
  clear H C
  refine (one_any 32 1 w _ q bn bs l 0 0 0 y _ [] _ (by decide) (Nat.zero_le _) (by have := gl.out; omega) (by decide) rfl H2).mono ?_
  clear H2
  intro e' w3 hO
  cases hO1 : oneR 32 l 0 0 0 with
  | bad er =>
    rw [hO1] at hO
    obtain ⟨rfl, H⟩ := hO.1 er rfl
    have hne := oneR_bad0 _ _ _ _ _ _ hO1
    have e0 : ((er : Int) != 0) = true := by simp; omega
    have gR : Kp (parseR l = .bad er) := ⟨by unfold parseR; rw [hO1]⟩
    clear hO hne hO1
    have C := Hp.facts H
    simp only [Facts, factsL, and_true, true_and, List.set_cons_zero, List.set_cons_succ, List.setIfInBounds_toArray] at C
    (repeat' ((fail_if_success (with_reducible show bodyPost _ _ _ _ _ _)); first | ((with_reducible refine Hp.abs_alloc H ?_); intro b' w' H' hb'; (try simp only [hb']); clear hb'; ((try simp only [List.set_cons_zero, List.set_cons_succ, List.setIfInBounds_toArray] at H'); clear C H; have H := H'; clear H'; have C := Hp.facts H; simp only [Facts, factsL, and_true, true_and, List.set_cons_zero, List.set_cons_succ, List.setIfInBounds_toArray] at C)) | ((with_reducible show wpList _ _ _ _ _ (World.setCell _ _ _)); (with_reducible apply Hp.abs_gen H); (first | ((repeat (with_reducible apply Hp.set' 0)); (with_reducible exact H); (repeat rfl); intro w' H') | ((repeat (with_reducible apply Hp.set' 1)); (with_reducible exact H); (repeat rfl); intro w' H') | ((repeat (with_reducible apply Hp.set' 2)); (with_reducible exact H); (repeat rfl); intro w' H') | ((repeat (with_reducible apply Hp.set' 3)); (with_reducible exact H); (repeat rfl); intro w' H') | ((repeat (with_reducible apply Hp.set' 4)); (with_reducible exact H); (repeat rfl); intro w' H') | ((repeat (with_reducible apply Hp.set' 5)); (with_reducible exact H); (repeat rfl); intro w' H') | ((repeat (with_reducible apply Hp.set' 6)); (with_reducible exact H); (repeat rfl); intro w' H') | ((repeat (with_reducible apply Hp.set' 7)); (with_reducible exact H); (repeat rfl); intro w' H')); ((try simp only [List.set_cons_zero, List.set_cons_succ, List.setIfInBounds_toArray] at H'); clear C H; have H := H'; clear H'; have C := Hp.facts H; simp only [Facts, factsL, and_true, true_and, List.set_cons_zero, List.set_cons_succ, List.setIfInBounds_toArray] at C)) | go_values | go_skip | go_guarded | go_step | go_upon | go_back | (simp only [Int.not_lt, Int.not_le] at *; go_simp) | (go_values <;> (try go_simp)) | (go_ite <;> go_prune <;> (try go_simp)) | (split <;> (first | (rename_i hx; exact (hx _ rfl).elim) | go_prune))))
    refine bodyPost_ret (v := .tuple #[.agg #[.int .i64 0, .int .i64 0, .bool false, .slice none 0 0, .slice none 0 0], .slice none 0 0, .int .i64 er]) (by simp [results, go_sem, C]) rfl ?_
    rw [hQ.out]
    exact ParP.bad gR.out rfl H.low
  | ok x =>
    obtain ⟨t, k2, sp⟩ := x
    rw [hO1] at hO
    obtain ⟨cs', sv3, Os, rfl, H, hF⟩ := hO.2 t k2 sp rfl
    have hk := oneR_ok hO1 (Nat.zero_le _)
    have gP : Kp (parseR l = if k2 < l.length then .bad 7 else .ok (t, sp)) := ⟨by unfold parseR; rw [hO1]⟩
    clear hO hO1
    have ht2 := hF w3 _ H (fun x hx => by simp [hx])
    obtain ⟨d0, d1, d2, d3, d4, rfl⟩ : ∃ d0 d1 d2 d3 d4, cs' = [d0, d1, d2, d3, d4] := by
      clear H hF
      match cs', ht2.len with
      | [d0, d1, d2, d3, d4], _ => exact ⟨d0, d1, d2, d3, d4, rfl⟩
    obtain ⟨f0, f1, f2, fA, fA2, fk, fc, fk2, fc2, rfl, rfl, rfl, rfl, rfl⟩ := ht2.forms
    have gF := Kp.mk hF
    clear ht2 hF
    have hk2 := hk.2
    have hl1 := gl.out
    simp only [RdL, List.cons_append, List.nil_append, Nat.zero_add] at H
    obtain ⟨As, cs, rfl⟩ := Go.LawLift.own_form (ownsOf H 4 rfl)
    have C := Hp.facts H
    simp only [Facts, factsL, and_true, true_and, List.set_cons_zero, List.set_cons_succ, List.setIfInBounds_toArray] at C
    by_cases hlt : k2 < l.length
    · have gR : Kp (parseR l = .bad 7) := ⟨by rw [gP.out, if_pos hlt]⟩
      have hlt2 : (0 : Int) < (l.length : Int) - (k2 : Int) := by omega
      clear gP gl hk
      (repeat' ((fail_if_success (with_reducible show bodyPost _ _ _ _ _ _)); first | ((with_reducible refine Hp.abs_alloc H ?_); intro b' w' H' hb'; (try simp only [hb']); clear hb'; ((try simp only [List.set_cons_zero, List.set_cons_succ, List.setIfInBounds_toArray] at H'); clear C H; have H := H'; clear H'; have C := Hp.facts H; simp only [Facts, factsL, and_true, true_and, List.set_cons_zero, List.set_cons_succ, List.setIfInBounds_toArray] at C)) | ((with_reducible show wpList _ _ _ _ _ (World.setCell _ _ _)); (with_reducible apply Hp.abs_gen H); (first | ((repeat (with_reducible apply Hp.set' 0)); (with_reducible exact H); (repeat rfl); intro w' H') | ((repeat (with_reducible apply Hp.set' 1)); (with_reducible exact H); (repeat rfl); intro w' H') | ((repeat (with_reducible apply Hp.set' 2)); (with_reducible exact H); (repeat rfl); intro w' H') | ((repeat (with_reducible apply Hp.set' 3)); (with_reducible exact H); (repeat rfl); intro w' H') | ((repeat (with_reducible apply Hp.set' 4)); (with_reducible exact H); (repeat rfl); intro w' H') | ((repeat (with_reducible apply Hp.set' 5)); (with_reducible exact H); (repeat rfl); intro w' H') | ((repeat (with_reducible apply Hp.set' 6)); (with_reducible exact H); (repeat rfl); intro w' H') | ((repeat (with_reducible apply Hp.set' 7)); (with_reducible exact H); (repeat rfl); intro w' H')); ((try simp only [List.set_cons_zero, List.set_cons_succ, List.setIfInBounds_toArray] at H'); clear C H; have H := H'; clear H'; have C := Hp.facts H; simp only [Facts, factsL, and_true, true_and, List.set_cons_zero, List.set_cons_succ, List.setIfInBounds_toArray] at C)) | (go_at_call 52; refine (left_any q l k2 y _ (cur_hp H 1 2 rfl rfl hk2 hl1)).mono ?_; rintro e' w' ⟨rfl, hb'⟩; (have H' := Hp.step H hb'; clear hb'; ((try simp only [List.set_cons_zero, List.set_cons_succ, List.setIfInBounds_toArray] at H'); clear C H; have H := H'; clear H'; have C := Hp.facts H; simp only [Facts, factsL, and_true, true_and, List.set_cons_zero, List.set_cons_succ, List.setIfInBounds_toArray] at C))) | go_values | go_skip | go_guarded | go_step | go_upon | go_back | (simp only [Int.not_lt, Int.not_le] at *; go_simp) | (go_values <;> (try go_simp)) | (go_ite <;> go_prune <;> (try go_simp)) | (split <;> (first | (rename_i hx; exact (hx _ rfl).elim) | go_prune))))
      refine bodyPost_ret (v := .tuple #[.agg #[.int .i64 0, .int .i64 0, .bool false, .slice none 0 0, .slice none 0 0], .slice none 0 0, .int .i64 7]) (by simp [results, go_sem, C]) rfl ?_
      rw [hQ.out]
      exact ParP.bad gR.out rfl H.low
    · have gR : Kp (parseR l = .ok (t, sp)) := ⟨by rw [gP.out, if_neg hlt]⟩
      have hlt2 : ¬ (0 : Int) < (l.length : Int) - (k2 : Int) := by omega
      clear gP gl hk
      (repeat' ((fail_if_success (with_reducible show bodyPost _ _ _ _ _ _)); first | ((with_reducible refine Hp.abs_alloc H ?_); intro b' w' H' hb'; (try simp only [hb']); clear hb'; ((try simp only [List.set_cons_zero, List.set_cons_succ, List.setIfInBounds_toArray] at H'); clear C H; have H := H'; clear H'; have C := Hp.facts H; simp only [Facts, factsL, and_true, true_and, List.set_cons_zero, List.set_cons_succ, List.setIfInBounds_toArray] at C)) | ((with_reducible show wpList _ _ _ _ _ (World.setCell _ _ _)); (with_reducible apply Hp.abs_gen H); (first | ((repeat (with_reducible apply Hp.set' 0)); (with_reducible exact H); (repeat rfl); intro w' H') | ((repeat (with_reducible apply Hp.set' 1)); (with_reducible exact H); (repeat rfl); intro w' H') | ((repeat (with_reducible apply Hp.set' 2)); (with_reducible exact H); (repeat rfl); intro w' H') | ((repeat (with_reducible apply Hp.set' 3)); (with_reducible exact H); (repeat rfl); intro w' H') | ((repeat (with_reducible apply Hp.set' 4)); (with_reducible exact H); (repeat rfl); intro w' H') | ((repeat (with_reducible apply Hp.set' 5)); (with_reducible exact H); (repeat rfl); intro w' H') | ((repeat (with_reducible apply Hp.set' 6)); (with_reducible exact H); (repeat rfl); intro w' H') | ((repeat (with_reducible apply Hp.set' 7)); (with_reducible exact H); (repeat rfl); intro w' H')); ((try simp only [List.set_cons_zero, List.set_cons_succ, List.setIfInBounds_toArray] at H'); clear C H; have H := H'; clear H'; have C := Hp.facts H; simp only [Facts, factsL, and_true, true_and, List.set_cons_zero, List.set_cons_succ, List.setIfInBounds_toArray] at C)) | (go_at_call 52; refine (left_any q l k2 y _ (cur_hp H 1 2 rfl rfl hk2 hl1)).mono ?_; rintro e' w' ⟨rfl, hb'⟩; (have H' := Hp.step H hb'; clear hb'; ((try simp only [List.set_cons_zero, List.set_cons_succ, List.setIfInBounds_toArray] at H'); clear C H; have H := H'; clear H'; have C := Hp.facts H; simp only [Facts, factsL, and_true, true_and, List.set_cons_zero, List.set_cons_succ, List.setIfInBounds_toArray] at C))) | go_values | go_skip | go_guarded | go_step | go_upon | go_back | (simp only [Int.not_lt, Int.not_le] at *; go_simp) | (go_values <;> (try go_simp)) | (go_ite <;> go_prune <;> (try go_simp)) | (split <;> (first | (rename_i hx; exact (hx _ rfl).elim) | go_prune))))
      (obtain ⟨kb, rfl⟩ := Hp.name H 0 rfl)
      try simp (disch := omega) only [decide_eq_true, decide_eq_false]
      obtain ⟨wR11, rfl⟩ := Hp.nameW H
      apply region_n (frm wR11.heap.size (fun p => match p with | 0 => Hp w (.blk kb #[.int .i64 f0, .int .i64 f1, .bool f2, .slice fA fk fc, .slice fA2 fk2 fc2] 41 :: .blk q #[y, .int .i64 (k2 : Int)] 112 :: .row 5 1 y l.length (l.map u8c) :: .blk bn #[.int .i64 (sp.length : Int)] 3 :: .blk bs #[.slice As sp.length cs] 50 :: .row 56 2 (.slice As sp.length cs) sp.length (pv (pz sp)) :: .blk br #[.pointer (some ⟨q, 0, none⟩), .int .i64 0, .pointer (some ⟨bn, 0, none⟩), .pointer (some ⟨bs, 0, none⟩)] 97 :: .blk bz #[.int .i64 0, .int .i64 0, .bool false, .slice none 0 0, .slice none 0 0] 41 :: Os) | _ => Hp w (.blk kb #[.int .i64 f0, .int .i64 f1, .bool f2, .slice fA fk fc, .slice fA2 fk2 fc2] 41 :: .blk q #[y, .int .i64 (k2 : Int)] 112 :: .row 5 1 y l.length (l.map u8c) :: .blk bn #[.int .i64 (sp.length : Int)] 3 :: .blk bs #[.slice As sp.length cs] 50 :: .row 56 2 (.slice As sp.length cs) sp.length (pv (pz sp)) :: .blk br #[.pointer (some ⟨q, 0, none⟩), .int .i64 0, .pointer (some ⟨bn, 0, none⟩), .pointer (some ⟨bs, 0, none⟩)] 97 :: .blk bz #[.int .i64 f0, .int .i64 f1, .bool f2, .slice fA fk fc, .slice fA2 fk2 fc2] 41 :: Os))) (frm_ok ?hfs_1) frm_sz [2] [.light 0 0, .light 0 1, .turns 0] [false, false, false] 3 35 [3, 3, 3] [some 33, some 34, none] [[], [], [0]] [Eq1 _, Eq1 _, Eq1 _] ?hq1_1 ?hq2_1 ?hq3_1 ?hq4_1 ?hq5_1 ?hq6_1 _ ?hA_1 ?hst_1 ?h0_1 ?hsteps_1 ?hend_1
      case hq1_1 => kernel_rfl
      case hq2_1 => kernel_rfl
      case hq3_1 => kernel_rfl
      case hq5_1 => kernel_rfl
      case hq4_1 => rfl
      case hq6_1 => rfl
      case hA_1 => intro vs; simp only [fillD, Nat.reduceAdd, Act.put, List.setIfInBounds_toArray, List.set_cons_zero, List.set_cons_succ]; rfl
      case h0_1 => exact H.drew
      case hfs_1 => intro p x y hb h; rcases p with _ | _ <;> exact Hp.step h hb
      case hsteps_1 =>
        refine ⟨?_, ?_, ?_, trivial⟩
        · intro p vs w' K hJ hp1 hp2 hS hR hK
          obtain rfl : p = 0 := by omega
          rw [if_pos (by rfl)]
          have C := Hp.facts hS
          simp only [Facts, factsL, and_true, true_and, List.set_cons_zero, List.set_cons_succ, List.setIfInBounds_toArray] at C
          have hsz := hR.1
          go_step
          exact hK.out _ _ (Below.refl _ _) Eq1.mk Fresh.no
        · intro p vs w' K hJ hp1 hp2 hS hR hK
          rcases (by omega : p = 0 ∨ p = 1) with rfl | rfl
          all_goals (
          rw [if_pos (by rfl)]
          have C := Hp.facts hS
          simp only [Facts, factsL, and_true, true_and, List.set_cons_zero, List.set_cons_succ, List.setIfInBounds_toArray] at C
          have hsz := hR.1
          go_step
          exact hK.out _ _ (Below.refl _ _) Eq1.mk Fresh.no
          )
        · intro vs w' K hJ hS hR hK
          simp only [DepJ, List.getD_cons_zero, List.getD_cons_succ] at hJ
          obtain ⟨j0, -⟩ := hJ
          have j0 := Eq1.out j0
          simp only [j0] at hK ⊢
          rw [if_pos (by rfl)]
          replace hS : Hp _ _ _ := hS
          have C := Hp.facts hS
          simp only [Facts, factsL, and_true, true_and, List.set_cons_zero, List.set_cons_succ, List.setIfInBounds_toArray] at C
          go_step
          exact hK.out undef _ (AboveR.only ((Only.setCell _ bz 0 _).trans ((Only.setCell _ bz 1 _).trans ((Only.setCell _ bz 2 _).trans ((Only.setCell _ bz 3 _).trans (Only.setCell _ bz 4 _))))) (H.lt 7 rfl)) (((((hS.set 7 rfl 0 _).set 7 rfl 1 _).set 7 rfl 2 _).set 7 rfl 3 _).set 7 rfl 4 _) Eq1.mk Fresh.no
      case hst_1 => refine ⟨fun _ _ _ _ h => h, fun _ _ _ _ h => h, fun _ _ _ _ h => h, trivial⟩
      intro vs w' hJ hD hS hR
      simp only [AllJ, Nat.reduceAdd] at hJ
      obtain ⟨v0, v1, v2, -⟩ := hJ
      clear C
      replace v0 := Eq1.out v0
      replace v1 := Eq1.out v1
      replace v2 := Eq1.out v2
      simp only [v0, v1, v2, List.drop_succ_cons, List.drop_zero]
      have H' : Hp _ _ _ := hS
      clear hD hR hS v0 v1 v2
      clear vs H
      have H := H'; clear H'; have C := Hp.facts H; simp only [Facts, factsL, and_true, true_and, List.set_cons_zero, List.set_cons_succ, List.setIfInBounds_toArray] at C

      (repeat' ((fail_if_success (with_reducible show bodyPost _ _ _ _ _ _)); first | ((with_reducible refine Hp.abs_alloc H ?_); intro b' w' H' hb'; (try simp only [hb']); clear hb'; ((try simp only [List.set_cons_zero, List.set_cons_succ, List.setIfInBounds_toArray] at H'); clear C H; have H := H'; clear H'; have C := Hp.facts H; simp only [Facts, factsL, and_true, true_and, List.set_cons_zero, List.set_cons_succ, List.setIfInBounds_toArray] at C)) | ((with_reducible show wpList _ _ _ _ _ (World.setCell _ _ _)); (with_reducible apply Hp.abs_gen H); (first | ((repeat (with_reducible apply Hp.set' 0)); (with_reducible exact H); (repeat rfl); intro w' H') | ((repeat (with_reducible apply Hp.set' 1)); (with_reducible exact H); (repeat rfl); intro w' H') | ((repeat (with_reducible apply Hp.set' 2)); (with_reducible exact H); (repeat rfl); intro w' H') | ((repeat (with_reducible apply Hp.set' 3)); (with_reducible exact H); (repeat rfl); intro w' H') | ((repeat (with_reducible apply Hp.set' 4)); (with_reducible exact H); (repeat rfl); intro w' H') | ((repeat (with_reducible apply Hp.set' 5)); (with_reducible exact H); (repeat rfl); intro w' H') | ((repeat (with_reducible apply Hp.set' 6)); (with_reducible exact H); (repeat rfl); intro w' H') | ((repeat (with_reducible apply Hp.set' 7)); (with_reducible exact H); (repeat rfl); intro w' H')); ((try simp only [List.set_cons_zero, List.set_cons_succ, List.setIfInBounds_toArray] at H'); clear C H; have H := H'; clear H'; have C := Hp.facts H; simp only [Facts, factsL, and_true, true_and, List.set_cons_zero, List.set_cons_succ, List.setIfInBounds_toArray] at C)) | go_values | go_skip | go_guarded | go_step | go_upon | go_back | (simp only [Int.not_lt, Int.not_le] at *; go_simp) | (go_values <;> (try go_simp)) | (go_ite <;> go_prune <;> (try go_simp)) | (split <;> (first | (rename_i hx; exact (hx _ rfl).elim) | go_prune))))
      refine bodyPost_ret (v := .tuple #[.agg #[.int .i64 f0, .int .i64 f1, .bool f2, .slice fA fk fc, .slice fA2 fk2 fc2], .slice As sp.length cs, .int .i64 0]) (by simp [results, go_sem, C]) rfl ?_
      rw [hQ.out]
      exact ParP.okk gR.out ⟨[_, _, _, _, _], _, rfl, (gF.out _ _ H (fun x hx => by simp [hx])).keptOut H (fun x hx => by simp [hx]), ownsOf H 5 rfl⟩ H.low
set_option maxHeartbeats 1600000 in
theorem iparse_any (l : List UInt8) (v : Value) (w : World) (hb : Bs w v l) (hl : l.length ≤ 1000000) : Calls Try.prog 17 #[v] w (PaP w l) := by
  have hP := fun w1 (h : w1 = w) => parse_any l v w1 (h ▸ hb) hl
  obtain ⟨A, c, rfl, -⟩ := id hb.open
  have H := Hp.start w
  have C : True := trivial
  obtain ⟨Q, hQ⟩ : ∃ Q, Q = PaP w l := ⟨_, rfl⟩
  rw [← hQ]
  replace hQ := Kp.mk hQ
  have hb := Kp.mk hb
  have hPr := fun w1 (h : Below w.heap.size w w1) => parse_any l _ w1 (hb.out.step h) hl
  clear hP
  go_enter Try.func17, Try.ntmps17
  (repeat' ((fail_if_success (with_reducible show bodyPost _ _ _ _ _ _)); first | ((with_reducible refine Hp.abs_alloc H ?_); intro b' w' H' hb'; (try simp only [hb']); clear hb'; ((try simp only [List.set_cons_zero, List.set_cons_succ, List.setIfInBounds_toArray] at H'); clear C H; have H := H'; clear H'; have C := Hp.facts H; simp only [Facts, factsL, and_true, true_and, List.set_cons_zero, List.set_cons_succ, List.setIfInBounds_toArray] at C)) | ((with_reducible show wpList _ _ _ _ _ (World.setCell _ _ _)); (with_reducible apply Hp.abs_gen H); (first | ((repeat (with_reducible apply Hp.set' 0)); (with_reducible exact H); (repeat rfl); intro w' H') | ((repeat (with_reducible apply Hp.set' 1)); (with_reducible exact H); (repeat rfl); intro w' H') | ((repeat (with_reducible apply Hp.set' 2)); (with_reducible exact H); (repeat rfl); intro w' H') | ((repeat (with_reducible apply Hp.set' 3)); (with_reducible exact H); (repeat rfl); intro w' H') | ((repeat (with_reducible apply Hp.set' 4)); (with_reducible exact H); (repeat rfl); intro w' H') | ((repeat (with_reducible apply Hp.set' 5)); (with_reducible exact H); (repeat rfl); intro w' H') | ((repeat (with_reducible apply Hp.set' 6)); (with_reducible exact H); (repeat rfl); intro w' H') | ((repeat (with_reducible apply Hp.set' 7)); (with_reducible exact H); (repeat rfl); intro w' H')); ((try simp only [List.set_cons_zero, List.set_cons_succ, List.setIfInBounds_toArray] at H'); clear C H; have H := H'; clear H'; have C := Hp.facts H; simp only [Facts, factsL, and_true, true_and, List.set_cons_zero, List.set_cons_succ, List.setIfInBounds_toArray] at C)) | go_values | go_skip | go_guarded | go_step | go_upon | go_back | (simp only [Int.not_lt, Int.not_le] at *; go_simp) | (go_values <;> (try go_simp)) | (go_ite <;> go_prune <;> (try go_simp)) | (split <;> (first | (rename_i hx; exact (hx _ rfl).elim) | go_prune))))
  refine (hPr _ H.low).mono ?_
  clear hPr
  rintro e' w3 ⟨h1, h2, hB⟩
  cases hR : parseR l with
  | bad er =>
    obtain rfl := h1 er hR
    replace hR := Kp.mk hR
    clear h1 h2
    (have H' := Hp.step H hB; clear hB; ((try simp only [List.set_cons_zero, List.set_cons_succ, List.setIfInBounds_toArray] at H'); clear C H; have H := H'; clear H'; have C := Hp.facts H; simp only [Facts, factsL, and_true, true_and, List.set_cons_zero, List.set_cons_succ, List.setIfInBounds_toArray] at C))
    (repeat' ((fail_if_success (with_reducible show bodyPost _ _ _ _ _ _)); first | ((with_reducible refine Hp.abs_alloc H ?_); intro b' w' H' hb'; (try simp only [hb']); clear hb'; ((try simp only [List.set_cons_zero, List.set_cons_succ, List.setIfInBounds_toArray] at H'); clear C H; have H := H'; clear H'; have C := Hp.facts H; simp only [Facts, factsL, and_true, true_and, List.set_cons_zero, List.set_cons_succ, List.setIfInBounds_toArray] at C)) | ((with_reducible show wpList _ _ _ _ _ (World.setCell _ _ _)); (with_reducible apply Hp.abs_gen H); (first | ((repeat (with_reducible apply Hp.set' 0)); (with_reducible exact H); (repeat rfl); intro w' H') | ((repeat (with_reducible apply Hp.set' 1)); (with_reducible exact H); (repeat rfl); intro w' H') | ((repeat (with_reducible apply Hp.set' 2)); (with_reducible exact H); (repeat rfl); intro w' H') | ((repeat (with_reducible apply Hp.set' 3)); (with_reducible exact H); (repeat rfl); intro w' H') | ((repeat (with_reducible apply Hp.set' 4)); (with_reducible exact H); (repeat rfl); intro w' H') | ((repeat (with_reducible apply Hp.set' 5)); (with_reducible exact H); (repeat rfl); intro w' H') | ((repeat (with_reducible apply Hp.set' 6)); (with_reducible exact H); (repeat rfl); intro w' H') | ((repeat (with_reducible apply Hp.set' 7)); (with_reducible exact H); (repeat rfl); intro w' H')); ((try simp only [List.set_cons_zero, List.set_cons_succ, List.setIfInBounds_toArray] at H'); clear C H; have H := H'; clear H'; have C := Hp.facts H; simp only [Facts, factsL, and_true, true_and, List.set_cons_zero, List.set_cons_succ, List.setIfInBounds_toArray] at C)) | go_values | go_skip | go_guarded | go_step | go_upon | go_back | (simp only [Int.not_lt, Int.not_le] at *; go_simp) | (go_values <;> (try go_simp)) | (go_ite <;> go_prune <;> (try go_simp)) | (split <;> (first | (rename_i hx; exact (hx _ rfl).elim) | go_prune))))
    refine bodyPost_ret (v := .tuple #[.agg #[.int .i64 0, .int .i64 0, .bool false, .slice none 0 0, .slice none 0 0], .int .i64 er]) (by simp [results, go_sem, C]) rfl ?_
    rw [hQ.out]
    exact PaP.bad hR.out rfl H.low
  | ok x =>
    obtain ⟨t, sp⟩ := x
    obtain ⟨cs', sv, rfl, ht, ho⟩ := h2 t sp hR
    replace hR := Kp.mk hR
    clear h1 h2
    obtain ⟨As, cs, rfl⟩ := Go.LawLift.own_form ho
    obtain ⟨d0, d1, d2, d3, d4, rfl⟩ : ∃ d0 d1 d2 d3 d4, cs' = [d0, d1, d2, d3, d4] := by
      match cs', ht.len with
      | [d0, d1, d2, d3, d4], _ => exact ⟨d0, d1, d2, d3, d4, rfl⟩
    obtain ⟨f0, f1, f2, fA, fA2, fk, fc, fk2, fc2, rfl, rfl, rfl, rfl, rfl⟩ := ht.forms
    obtain ⟨Os, H2, gk⟩ := H.keepTree (Nat.zero_le _) hB ht
    replace gk := Kp.mk gk
    clear H C ht hB ho
    have H := H2
    clear H2
    simp only [List.cons_append, List.nil_append] at H
    have C := Hp.facts H
    simp only [Facts, factsL, and_true, true_and, List.set_cons_zero, List.set_cons_succ, List.setIfInBounds_toArray] at C
    (repeat' ((fail_if_success (with_reducible show bodyPost _ _ _ _ _ _)); first | ((with_reducible refine Hp.abs_alloc H ?_); intro b' w' H' hb'; (try simp only [hb']); clear hb'; ((try simp only [List.set_cons_zero, List.set_cons_succ, List.setIfInBounds_toArray] at H'); clear C H; have H := H'; clear H'; have C := Hp.facts H; simp only [Facts, factsL, and_true, true_and, List.set_cons_zero, List.set_cons_succ, List.setIfInBounds_toArray] at C)) | ((with_reducible show wpList _ _ _ _ _ (World.setCell _ _ _)); (with_reducible apply Hp.abs_gen H); (first | ((repeat (with_reducible apply Hp.set' 0)); (with_reducible exact H); (repeat rfl); intro w' H') | ((repeat (with_reducible apply Hp.set' 1)); (with_reducible exact H); (repeat rfl); intro w' H') | ((repeat (with_reducible apply Hp.set' 2)); (with_reducible exact H); (repeat rfl); intro w' H') | ((repeat (with_reducible apply Hp.set' 3)); (with_reducible exact H); (repeat rfl); intro w' H') | ((repeat (with_reducible apply Hp.set' 4)); (with_reducible exact H); (repeat rfl); intro w' H') | ((repeat (with_reducible apply Hp.set' 5)); (with_reducible exact H); (repeat rfl); intro w' H') | ((repeat (with_reducible apply Hp.set' 6)); (with_reducible exact H); (repeat rfl); intro w' H') | ((repeat (with_reducible apply Hp.set' 7)); (with_reducible exact H); (repeat rfl); intro w' H')); ((try simp only [List.set_cons_zero, List.set_cons_succ, List.setIfInBounds_toArray] at H'); clear C H; have H := H'; clear H'; have C := Hp.facts H; simp only [Facts, factsL, and_true, true_and, List.set_cons_zero, List.set_cons_succ, List.setIfInBounds_toArray] at C)) | go_values | go_skip | go_guarded | go_step | go_upon | go_back | (simp only [Int.not_lt, Int.not_le] at *; go_simp) | (go_values <;> (try go_simp)) | (go_ite <;> go_prune <;> (try go_simp)) | (split <;> (first | (rename_i hx; exact (hx _ rfl).elim) | go_prune))))
    refine bodyPost_ret (v := .tuple #[.agg #[.int .i64 f0, .int .i64 f1, .bool f2, .slice fA fk fc, .slice fA2 fk2 fc2], .int .i64 0]) (by simp [results, go_sem, C]) rfl ?_
    rw [hQ.out]
    exact PaP.okk hR.out ⟨[_, _, _, _, _], rfl, gk.out _ _ H (fun x hx => by simp [hx])⟩ H.low
end Go.Proofs.Ytogliinfdfkobaa

