/- Lemmas and walks on the way to the seat's laws; each theorem says its own conditions. -/
import Derived.Test.YtogliinfdfkobaaI31
import Derived.Test.YtogliinfdfkobaaI18
import Derived.Test.YtogliinfdfkobaaO23c
set_option linter.unusedSimpArgs false
set_option linter.unusedVariables false
set_option linter.unusedSimpArgs false
set_option linter.unusedVariables false
set_option maxRecDepth 100000
namespace Go.Proofs.Ytogliinfdfkobaa
open Go.RowKit Go.Mem Go.Reg Oct Hd Go.LawLift
@[go_sem] theorem eq_sp (a b c d : Int) (w : World) : (Op.equalIn 10000 56 (.agg #[.int .i64 a, .int .i64 b]) (.agg #[.int .i64 c, .int .i64 d])).run Try.prog w = .ok (a == c && b == d) w := by
  have u3 := Try.underlying3
  have a3 := Try.isAgg3
  have z3 := Try.sizeOf3
  rw [show (10000 : Nat) = 9999 + 1 from rfl, Op.equalIn]
  simp only [Sem.run_bind, run_underlying Try.underlying56, Result.andThen_ok]
  simp only [Std.Legacy.Range.forIn_eq_forIn_range', Std.Legacy.Range.size, Nat.sub_zero, Nat.add_sub_cancel, Nat.div_one, List.range'_succ, List.range'_zero, List.forIn_cons, List.forIn_nil]
  go_simp
  by_cases h1 : a = c <;> by_cases h2 : b = d <;> simp [h1, h2]
theorem own_cellN {w : World} {B : Nat} {e : TypeId} {s n c g : Nat} {xs : List Value} (h : w.ownsRow B e s (.slice (some ⟨g, 0, none⟩) n c) n xs) : ∀ (j : Nat) (u : Value), xs[j]? = some u → w.cell? ⟨g, j, none⟩ = some u := by
  obtain ⟨hx, hr⟩ := h
  rcases hr with ⟨h, _⟩ | ⟨g', cap, cur, hv, hb, hg, hnc, hcm, hcs, ht⟩
  · cases h
  · injection hv with e1 e2 e3
    injection e1 with e1
    injection e1 with e1
    subst e1 e3
    intro j u hu
    rw [cell_of_row w g j cur e (0, 0) hg]
    rw [← ht, List.getElem?_take] at hu
    split at hu
    · simpa using hu
    · cases hu
theorem row_baseN {w : World} {B : Nat} {e : TypeId} {s : Nat} {A : Option Addr} {n c : Nat} {xs : List Value} (h : w.ownsRow B e s (.slice A n c) n xs) (hn : 0 < n) : ∃ b, A = some ⟨b, 0, none⟩ := by
  rcases h.2 with ⟨-, h0⟩ | ⟨g, cap, cur, hv, -⟩
  · omega
  · injection hv with e
    exact ⟨g, e⟩
theorem parse_uni (l : List UInt8) : ∃ (T : Tree) (S : Sps) (er : Nat), T.count ≤ 10000 ∧ S.length ≤ 10000 ∧
    (∀ w e w', PaP w l e w' → ∃ cs : List Value, e = .returned (.tuple #[.agg cs.toArray, .int .i64 (er : Int)]) ∧ ItP (fun b => b < 0 ∨ w.heap.size ≤ b) w' 32 T cs ∧ Below w.heap.size w w') ∧
    (∀ w e w', SpP w l e w' → ∃ sv : Value, e = .returned (.tuple #[sv, .int .i64 (er : Int)]) ∧ w'.ownsRow w.heap.size 56 2 sv S.length (pv (pz S)) ∧ Below w.heap.size w w') ∧
    (∀ w e w', RPaP w l e w' → ∃ (cs : List Value) (sv : Value), e = .returned (.tuple #[.agg cs.toArray, sv, .int .i64 (er : Int)]) ∧ ItP (fun b => b < 0 ∨ w.heap.size ≤ b) w' 32 T cs ∧ w'.ownsRow w.heap.size 56 2 sv S.length (pv (pz S)) ∧ Below w.heap.size w w') := by
  cases hR : parseR l with
  | bad er =>
    refine ⟨zt, [], er, by decide, by simp, fun w e w' h => ?_, fun w e w' h => ?_, fun w e w' h => ?_⟩
    · obtain ⟨h1, -, h3⟩ := h
      obtain rfl := h1 _ hR
      exact ⟨[_, _, _, _, _], rfl, zero_it _ w' 31, h3⟩
    · obtain ⟨h1, -, h3⟩ := h
      obtain rfl := h1 _ hR
      exact ⟨_, rfl, World.ownsRow_nil w' _ _ _, h3⟩
    · obtain ⟨h1, -, h3⟩ := h
      obtain rfl := h1 _ hR
      exact ⟨[_, _, _, _, _], _, rfl, zero_it _ w' 31, World.ownsRow_nil w' _ _ _, h3⟩
  | ok x =>
    obtain ⟨t, sp⟩ := x
    have hc : sp.length ≤ 10000 ∧ sp.length = t.count := by
      unfold parseR at hR
      split at hR
      · cases hR
      · rename_i t2 k2 sp2 h1
        split at hR
        · cases hR
        · injection hR with hR
          simp only [Prod.mk.injEq] at hR
          obtain ⟨rfl, rfl⟩ := hR
          have := oneR_count 32 l 0 0 0 (by omega) _ _ _ h1
          omega
    refine ⟨t, sp, 0, by omega, by omega, fun w e w' h => ?_, fun w e w' h => ?_, fun w e w' h => ?_⟩
    · obtain ⟨-, h2, h3⟩ := h
      obtain ⟨cs, rfl, ht⟩ := h2 _ _ hR
      exact ⟨cs, rfl, ht, h3⟩
    · obtain ⟨-, h2, h3⟩ := h
      obtain ⟨cs, rfl, ht⟩ := h2 _ _ hR
      exact ⟨cs, rfl, ht, h3⟩
    · obtain ⟨-, h2, h3⟩ := h
      obtain ⟨cs, sv, rfl, ht, ho⟩ := h2 _ _ hR
      exact ⟨cs, sv, rfl, ht, ho, h3⟩
theorem same_self2 (l : List UInt8) (v u : Value) (w : World) (hb : Bs w v l) (hd : Bs w u l) (hl : l.length ≤ 1000000) :
    Calls Try.prog 20 #[v, u] w fun e w' => e = .returned (.bool true) ∧ Below w.heap.size w w' := by
  have h := same_any l l v u w hb hd hl hl
  rw [show decide (l = l) = true from decide_eq_true rfl] at h
  exact h
def PsRel (w : World) (M : List Ent) (n : Nat) (ix : Value) (wr : World) : Prop := ∃ i : Nat, i ≤ n ∧ ix = .int .i64 i ∧ Hp w M wr
theorem PsRel.mk {w : World} {M : List Ent} {n : Nat} {ix : Value} {wr : World} (i : Nat) (h1 : i ≤ n) (h2 : ix = .int .i64 i) (h3 : Hp w M wr) : PsRel w M n ix wr := ⟨i, h1, h2, h3⟩
theorem PsRel.start {w wr : World} {M : List Ent} {n : Nat} (H : Hp w M wr) : ∃ M', M' = M ∧ PsRel w M' n (.int .i64 0) wr := ⟨M, rfl, 0, Nat.zero_le _, rfl, H⟩
set_option maxHeartbeats 3200000 in
theorem itemParses_core (n0 : Nat) (A : Option Addr) (c : Nat) (L : List UInt8) (w : World) (hB : Bs w (.slice A L.length c) L) (hL : L.length ≤ 3000) (hmin : min (n0 : Int) 3000 = (L.length : Int)) (hlc : n0 ≤ c) (hcm : c ≤ 9223372036854775807) :
    Calls Try.prog 4 #[.slice A n0 c] w fun e w' => e = .returned (.bool true) ∧ Below w.heap.size w w' := by
  obtain ⟨T, S, er, hT, hS0, hU1, hU2, hU3⟩ := parse_uni L
  have H := Hp.start w
  have C : True := trivial
  have hmin2 : (if (3000 : Int) < (n0 : Int) then (3000 : Int) else (n0 : Int)) = (L.length : Int) := by rw [← hmin]; split <;> omega
  have hLc : L.length ≤ c := by omega
  have hCp := fun w1 (h : Below w.heap.size w w1) => copy_any L _ w1 (hB.step h) (by omega)
  have hPa := fun w1 (h : Below w.heap.size w w1) => iparse_any L _ w1 (hB.step h) (by omega)
  have hSp := fun w1 (h : Below w.heap.size w w1) => ispans_any L _ w1 (hB.step h) (by omega)
  have hRp := fun w1 (h : Below w.heap.size w w1) => rparse_any L _ w1 (hB.step h) (by omega)
  have gB := Kp.mk hB
  replace hPa := Kp.mk hPa
  replace hSp := Kp.mk hSp
  replace hRp := Kp.mk hRp
  clear hB
  go_enter Try.func4, Try.ntmps4
  (repeat' (first | go_values | go_skip | go_guarded | go_step | go_upon | go_back | (go_values <;> (try go_simp))))
  try simp only [hmin, hmin2, Int.toNat_natCast]
  clear hmin hmin2 hlc
  refine (hCp _ H.low).mono ?_
  clear hCp
  rintro e' w1 ⟨⟨cv, rfl, ho⟩, hb'⟩
  have H' := H.adopt hb' (.row 5 1 cv _ _) ho
  obtain ⟨Aw, cw, rfl⟩ := own_form ho
  clear ho hb'
  ((try simp only [List.set_cons_zero, List.set_cons_succ, List.setIfInBounds_toArray] at H'); clear C H; have H := H'; clear H'; have C := Hp.facts H; simp only [Facts, factsL, and_true, true_and, List.set_cons_zero, List.set_cons_succ, List.setIfInBounds_toArray] at C)
  (repeat' ((fail_if_success (with_reducible show bodyPost _ _ _ _ _ _)); first | ((with_reducible refine Hp.abs_alloc H ?_); intro b' w' H' hb'; (try simp only [hb']); clear hb'; ((try simp only [List.set_cons_zero, List.set_cons_succ, List.setIfInBounds_toArray] at H'); clear C H; have H := H'; clear H'; have C := Hp.facts H; simp only [Facts, factsL, and_true, true_and, List.set_cons_zero, List.set_cons_succ, List.setIfInBounds_toArray] at C)) | ((with_reducible show wpList _ _ _ _ _ (World.setCell _ _ _)); (with_reducible apply Hp.abs_gen H); (first | ((repeat (with_reducible apply Hp.set' 0)); (with_reducible exact H); (repeat rfl); intro w' H') | ((repeat (with_reducible apply Hp.set' 1)); (with_reducible exact H); (repeat rfl); intro w' H') | ((repeat (with_reducible apply Hp.set' 2)); (with_reducible exact H); (repeat rfl); intro w' H') | ((repeat (with_reducible apply Hp.set' 3)); (with_reducible exact H); (repeat rfl); intro w' H') | ((repeat (with_reducible apply Hp.set' 4)); (with_reducible exact H); (repeat rfl); intro w' H') | ((repeat (with_reducible apply Hp.set' 5)); (with_reducible exact H); (repeat rfl); intro w' H') | ((repeat (with_reducible apply Hp.set' 6)); (with_reducible exact H); (repeat rfl); intro w' H') | ((repeat (with_reducible apply Hp.set' 7)); (with_reducible exact H); (repeat rfl); intro w' H')); ((try simp only [List.set_cons_zero, List.set_cons_succ, List.setIfInBounds_toArray] at H'); clear C H; have H := H'; clear H'; have C := Hp.facts H; simp only [Facts, factsL, and_true, true_and, List.set_cons_zero, List.set_cons_succ, List.setIfInBounds_toArray] at C)) | go_values | go_skip | go_guarded | go_step | go_upon | go_back | (simp only [Int.not_lt, Int.not_le] at *; go_simp) | (go_values <;> (try go_simp)) | (go_ite <;> go_prune <;> (try go_simp)) | (split <;> (first | (rename_i hx; exact (hx _ rfl).elim) | go_prune))))
  refine (hPa.out _ H.low).mono ?_
  intro e' w3 hP
  obtain ⟨cx, rfl, htx, hb⟩ := hU1 _ _ _ hP
  obtain ⟨Ox, H2, gx⟩ := H.keepTree (Nat.zero_le _) hb htx
  obtain ⟨d0, d1, d2, d3, d4, rfl⟩ := five_of htx.len
  obtain ⟨x0, x1, x2, xA, xB, xk, xc, xm, xd, rfl, rfl, rfl, rfl, rfl⟩ := htx.forms
  replace gx := Kp.mk gx
  clear H C htx hb hP hU1 hPa
  have H := H2
  clear H2
  simp only [List.cons_append, List.nil_append, List.append_assoc] at H
  have C := Hp.facts H
  simp only [Facts, factsL, and_true, true_and, List.set_cons_zero, List.set_cons_succ, List.setIfInBounds_toArray] at C
  (repeat' ((fail_if_success (with_reducible show bodyPost _ _ _ _ _ _)); first | ((with_reducible refine Hp.abs_alloc H ?_); intro b' w' H' hb'; (try simp only [hb']); clear hb'; ((try simp only [List.set_cons_zero, List.set_cons_succ, List.setIfInBounds_toArray] at H'); clear C H; have H := H'; clear H'; have C := Hp.facts H; simp only [Facts, factsL, and_true, true_and, List.set_cons_zero, List.set_cons_succ, List.setIfInBounds_toArray] at C)) | ((with_reducible show wpList _ _ _ _ _ (World.setCell _ _ _)); (with_reducible apply Hp.abs_gen H); (first | ((repeat (with_reducible apply Hp.set' 0)); (with_reducible exact H); (repeat rfl); intro w' H') | ((repeat (with_reducible apply Hp.set' 1)); (with_reducible exact H); (repeat rfl); intro w' H') | ((repeat (with_reducible apply Hp.set' 2)); (with_reducible exact H); (repeat rfl); intro w' H') | ((repeat (with_reducible apply Hp.set' 3)); (with_reducible exact H); (repeat rfl); intro w' H') | ((repeat (with_reducible apply Hp.set' 4)); (with_reducible exact H); (repeat rfl); intro w' H') | ((repeat (with_reducible apply Hp.set' 5)); (with_reducible exact H); (repeat rfl); intro w' H') | ((repeat (with_reducible apply Hp.set' 6)); (with_reducible exact H); (repeat rfl); intro w' H') | ((repeat (with_reducible apply Hp.set' 7)); (with_reducible exact H); (repeat rfl); intro w' H')); ((try simp only [List.set_cons_zero, List.set_cons_succ, List.setIfInBounds_toArray] at H'); clear C H; have H := H'; clear H'; have C := Hp.facts H; simp only [Facts, factsL, and_true, true_and, List.set_cons_zero, List.set_cons_succ, List.setIfInBounds_toArray] at C)) | go_values | go_skip | go_guarded | go_step | go_upon | go_back | (simp only [Int.not_lt, Int.not_le] at *; go_simp) | (go_values <;> (try go_simp)) | (go_ite <;> go_prune <;> (try go_simp)) | (split <;> (first | (rename_i hx; exact (hx _ rfl).elim) | go_prune))))
  refine (hSp.out _ H.low).mono ?_
  intro e' w4 hP
  obtain ⟨sv, rfl, ho, hb'⟩ := hU2 _ _ _ hP
  have H' := H.adopt hb' (.row 56 2 sv _ _) ho
  obtain ⟨As, cs, rfl⟩ := own_form ho
  clear ho hb' hP hU2 hSp
  ((try simp only [List.set_cons_zero, List.set_cons_succ, List.setIfInBounds_toArray] at H'); clear C H; have H := H'; clear H'; have C := Hp.facts H; simp only [Facts, factsL, and_true, true_and, List.set_cons_zero, List.set_cons_succ, List.setIfInBounds_toArray] at C)
  (repeat' ((fail_if_success (with_reducible show bodyPost _ _ _ _ _ _)); first | ((with_reducible refine Hp.abs_alloc H ?_); intro b' w' H' hb'; (try simp only [hb']); clear hb'; ((try simp only [List.set_cons_zero, List.set_cons_succ, List.setIfInBounds_toArray] at H'); clear C H; have H := H'; clear H'; have C := Hp.facts H; simp only [Facts, factsL, and_true, true_and, List.set_cons_zero, List.set_cons_succ, List.setIfInBounds_toArray] at C)) | ((with_reducible show wpList _ _ _ _ _ (World.setCell _ _ _)); (with_reducible apply Hp.abs_gen H); (first | ((repeat (with_reducible apply Hp.set' 0)); (with_reducible exact H); (repeat rfl); intro w' H') | ((repeat (with_reducible apply Hp.set' 1)); (with_reducible exact H); (repeat rfl); intro w' H') | ((repeat (with_reducible apply Hp.set' 2)); (with_reducible exact H); (repeat rfl); intro w' H') | ((repeat (with_reducible apply Hp.set' 3)); (with_reducible exact H); (repeat rfl); intro w' H') | ((repeat (with_reducible apply Hp.set' 4)); (with_reducible exact H); (repeat rfl); intro w' H') | ((repeat (with_reducible apply Hp.set' 5)); (with_reducible exact H); (repeat rfl); intro w' H') | ((repeat (with_reducible apply Hp.set' 6)); (with_reducible exact H); (repeat rfl); intro w' H') | ((repeat (with_reducible apply Hp.set' 7)); (with_reducible exact H); (repeat rfl); intro w' H')); ((try simp only [List.set_cons_zero, List.set_cons_succ, List.setIfInBounds_toArray] at H'); clear C H; have H := H'; clear H'; have C := Hp.facts H; simp only [Facts, factsL, and_true, true_and, List.set_cons_zero, List.set_cons_succ, List.setIfInBounds_toArray] at C)) | go_values | go_skip | go_guarded | go_step | go_upon | go_back | (simp only [Int.not_lt, Int.not_le] at *; go_simp) | (go_values <;> (try go_simp)) | (go_ite <;> go_prune <;> (try go_simp)) | (split <;> (first | (rename_i hx; exact (hx _ rfl).elim) | go_prune))))
  refine (hRp.out _ H.low).mono ?_
  intro e' w5 hP
  obtain ⟨cy, sy, rfl, hty, ho, hb⟩ := hU3 _ _ _ hP
  obtain ⟨Oy, H2, gy, gO⟩ := H.keepTree2 (Nat.zero_le _) hb hty
  have gO := Kp.mk (gO _ _ _ _ _ ho)
  obtain ⟨At, ct, rfl⟩ := own_form ho
  obtain ⟨d0, d1, d2, d3, d4, rfl⟩ := five_of hty.len
  obtain ⟨y0, y1, y2, yA, yB, yk, yc, ym, yd, rfl, rfl, rfl, rfl, rfl⟩ := hty.forms
  replace gy := Kp.mk gy
  clear H C hty hb hP hU3 hRp ho
  have H := H2
  clear H2
  simp only [List.cons_append, List.nil_append, List.append_assoc] at H
  have C := Hp.facts H
  simp only [Facts, factsL, and_true, true_and, List.set_cons_zero, List.set_cons_succ, List.setIfInBounds_toArray] at C
  have eb : ((er : Int) != (er : Int)) = false := by simp
  have eb2 : ((S.length : Int) != (S.length : Int)) = false := by simp
  (repeat' ((fail_if_success (with_reducible show bodyPost _ _ _ _ _ _)); first | ((with_reducible refine Hp.abs_alloc H ?_); intro b' w' H' hb'; (try simp only [hb']); clear hb'; ((try simp only [List.set_cons_zero, List.set_cons_succ, List.setIfInBounds_toArray] at H'); clear C H; have H := H'; clear H'; have C := Hp.facts H; simp only [Facts, factsL, and_true, true_and, List.set_cons_zero, List.set_cons_succ, List.setIfInBounds_toArray] at C)) | ((with_reducible show wpList _ _ _ _ _ (World.setCell _ _ _)); (with_reducible apply Hp.abs_gen H); (first | ((repeat (with_reducible apply Hp.set' 0)); (with_reducible exact H); (repeat rfl); intro w' H') | ((repeat (with_reducible apply Hp.set' 1)); (with_reducible exact H); (repeat rfl); intro w' H') | ((repeat (with_reducible apply Hp.set' 2)); (with_reducible exact H); (repeat rfl); intro w' H') | ((repeat (with_reducible apply Hp.set' 3)); (with_reducible exact H); (repeat rfl); intro w' H') | ((repeat (with_reducible apply Hp.set' 4)); (with_reducible exact H); (repeat rfl); intro w' H') | ((repeat (with_reducible apply Hp.set' 5)); (with_reducible exact H); (repeat rfl); intro w' H') | ((repeat (with_reducible apply Hp.set' 6)); (with_reducible exact H); (repeat rfl); intro w' H') | ((repeat (with_reducible apply Hp.set' 7)); (with_reducible exact H); (repeat rfl); intro w' H')); ((try simp only [List.set_cons_zero, List.set_cons_succ, List.setIfInBounds_toArray] at H'); clear C H; have H := H'; clear H'; have C := Hp.facts H; simp only [Facts, factsL, and_true, true_and, List.set_cons_zero, List.set_cons_succ, List.setIfInBounds_toArray] at C)) | (go_at_call 9; refine (known7_any _).mono ?_; rintro e' w' ⟨rfl, hb'⟩; (have H' := Hp.step H hb'; clear hb'; ((try simp only [List.set_cons_zero, List.set_cons_succ, List.setIfInBounds_toArray] at H'); clear C H; have H := H'; clear H'; have C := Hp.facts H; simp only [Facts, factsL, and_true, true_and, List.set_cons_zero, List.set_cons_succ, List.setIfInBounds_toArray] at C))) | (go_at_call 20; refine (same_self2 L _ _ _ (gB.out.step H.low) (bs_row H 3 rfl) (by omega)).mono ?_; rintro e' w' ⟨rfl, hb'⟩; (have H' := Hp.step H hb'; clear hb'; ((try simp only [List.set_cons_zero, List.set_cons_succ, List.setIfInBounds_toArray] at H'); clear C H; have H := H'; clear H'; have C := Hp.facts H; simp only [Facts, factsL, and_true, true_and, List.set_cons_zero, List.set_cons_succ, List.setIfInBounds_toArray] at C))) | go_values | go_skip | go_guarded | go_step | go_upon | go_back | (simp only [Int.not_lt, Int.not_le] at *; go_simp) | (go_values <;> (try go_simp)) | (go_ite <;> go_prune <;> (try go_simp)) | (split <;> (first | (rename_i hx; exact (hx _ rfl).elim) | go_prune))))
  obtain ⟨M, hM, hrel0⟩ := PsRel.start (n := S.length) H
  clear H C
  go_loopw [11] (fun ix wr => PsRel w M S.length ix wr) (fun ix _ => S.length - (intOf ix).toNat)
  case atStart => exact hrel0
  case round =>
    clear hrel0
    obtain ⟨i, hi, rfl, H⟩ := hrel
    rw [hM] at H
    have C := Hp.facts H
    simp only [Facts, factsL, and_true, true_and, List.set_cons_zero, List.set_cons_succ, List.setIfInBounds_toArray] at C
    by_cases hlt : i < S.length
    · obtain ⟨g1, rfl⟩ := row_baseN (ownsOf H 1 rfl) (by omega)
      obtain ⟨g2, rfl⟩ := row_baseN (gO.out.1 _ _ H (fun x hx => by simp [hx])) (by omega)
      have hpl : i < (pz S).length := by simp [pz]; exact hlt
      have hp := pv_get (pz S) i hpl
      rw [Nat.mul_comm 2 i] at hp
      generalize (pz S)[i].1 = sa at hp
      generalize (pz S)[i].2 = sb at hp
      (repeat' ((fail_if_success (with_reducible show bodyPost _ _ _ _ _ _)); first | ((with_reducible refine Hp.abs_alloc H ?_); intro b' w' H' hb'; (try simp only [hb']); clear hb'; ((try simp only [List.set_cons_zero, List.set_cons_succ, List.setIfInBounds_toArray] at H'); clear C H; have H := H'; clear H'; have C := Hp.facts H; simp only [Facts, factsL, and_true, true_and, List.set_cons_zero, List.set_cons_succ, List.setIfInBounds_toArray] at C)) | ((with_reducible show wpList _ _ _ _ _ (World.setCell _ _ _)); (with_reducible apply Hp.abs_gen H); (first | ((repeat (with_reducible apply Hp.set' 0)); (with_reducible exact H); (repeat rfl); intro w' H') | ((repeat (with_reducible apply Hp.set' 1)); (with_reducible exact H); (repeat rfl); intro w' H') | ((repeat (with_reducible apply Hp.set' 2)); (with_reducible exact H); (repeat rfl); intro w' H') | ((repeat (with_reducible apply Hp.set' 3)); (with_reducible exact H); (repeat rfl); intro w' H') | ((repeat (with_reducible apply Hp.set' 4)); (with_reducible exact H); (repeat rfl); intro w' H') | ((repeat (with_reducible apply Hp.set' 5)); (with_reducible exact H); (repeat rfl); intro w' H') | ((repeat (with_reducible apply Hp.set' 6)); (with_reducible exact H); (repeat rfl); intro w' H') | ((repeat (with_reducible apply Hp.set' 7)); (with_reducible exact H); (repeat rfl); intro w' H')); ((try simp only [List.set_cons_zero, List.set_cons_succ, List.setIfInBounds_toArray] at H'); clear C H; have H := H'; clear H'; have C := Hp.facts H; simp only [Facts, factsL, and_true, true_and, List.set_cons_zero, List.set_cons_succ, List.setIfInBounds_toArray] at C)) | go_values | go_skip | go_guarded | go_step | go_upon | go_back | (simp only [Int.not_lt, Int.not_le] at *; go_simp) | (go_values <;> (try go_simp)) | (go_ite <;> go_prune <;> (try go_simp)) | (split <;> (first | (rename_i hx; exact (hx _ rfl).elim) | go_prune))))
      try simp (disch := omega) only [decide_eq_true, decide_eq_false]
      obtain ⟨wR11, rfl⟩ := Hp.nameW H
      apply region_n (frm wR11.heap.size (fun _ => Hp _ _)) (frm_ok ?hfs_1) frm_sz [] [.light 0 0, .light 0 0, .light 0 0, .light 0 0, .light 0 0, .light 0 0, .light 0 0, .light 0 0, .light 0 0] [false, false, false, false, false, false, false, false, false] 9 79 [] [some 66, some 67, some 68, some 69, some 70, some 71, some 72, some 73, some 74] [[], [], [0, 1], [2], [], [], [4, 5], [6], [3, 7]] [Eq1 _, Eq1 _, Eq1 _, Eq1 _, Eq1 _, Eq1 _, Eq1 _, Eq1 _, Eq1 (.bool false)] ?hq1_1 ?hq2_1 ?hq3_1 ?hq4_1 ?hq5_1 ?hq6_1 _ ?hA_1 ?hst_1 ?h0_1 ?hsteps_1 ?hend_1
      case hq1_1 => kernel_rfl
      case hq2_1 => kernel_rfl
      case hq3_1 => kernel_rfl
      case hq5_1 => kernel_rfl
      case hq4_1 => rfl
      case hq6_1 => rfl
      case hA_1 => intro vs; simp only [fillD, Nat.reduceAdd, Act.put, List.setIfInBounds_toArray, List.set_cons_zero, List.set_cons_succ]; rfl
      case h0_1 => exact H.drew
      case hfs_1 => exact fun _ _ _ hb h => Hp.step h hb
      case hsteps_1 =>
        refine ⟨?_, ?_, ?_, ?_, ?_, ?_, ?_, ?_, ?_, trivial⟩
        · intro p vs w' K hJ hp1 hp2 hS hR hK
          rw [if_pos (by rfl)]
          go_step
          exact hK.out _ _ (Below.refl _ _) Eq1.mk Fresh.no
        · intro p vs w' K hJ hp1 hp2 hS hR hK
          rw [if_pos (by rfl)]
          go_step
          exact hK.out _ _ (Below.refl _ _) Eq1.mk Fresh.no
        · intro p vs w' K hJ hp1 hp2 hS hR hK
          simp only [DepJ, List.getD_cons_zero, List.getD_cons_succ] at hJ
          obtain ⟨j0, j1, -⟩ := hJ
          have j0 := Eq1.out j0
          have j1 := Eq1.out j1
          simp only [j0, j1] at hK ⊢
          rw [if_pos (by rfl)]
          go_step
          exact hK.out _ _ (Below.refl _ _) Eq1.mk Fresh.no
        · intro p vs w' K hJ hp1 hp2 hS hR hK
          simp only [DepJ, List.getD_cons_zero, List.getD_cons_succ] at hJ
          obtain ⟨j2, -⟩ := hJ
          have j2 := Eq1.out j2
          simp only [j2] at hK ⊢
          rw [if_pos (by rfl)]
          have C := Hp.facts hS
          simp only [Facts, factsL, and_true, true_and, List.set_cons_zero, List.set_cons_succ, List.setIfInBounds_toArray] at C
          have hsz := hR.1
          have hq1 := own_cellN (ownsOf (show Hp _ _ _ from hS) 1 rfl) _ _ hp.1
          have hq2 := own_cellN (ownsOf (show Hp _ _ _ from hS) 1 rfl) _ _ hp.2
          go_step
          exact hK.out _ _ (Below.refl _ _) Eq1.mk Fresh.no
        · intro p vs w' K hJ hp1 hp2 hS hR hK
          rw [if_pos (by rfl)]
          go_step
          exact hK.out _ _ (Below.refl _ _) Eq1.mk Fresh.no
        · intro p vs w' K hJ hp1 hp2 hS hR hK
          rw [if_pos (by rfl)]
          go_step
          exact hK.out _ _ (Below.refl _ _) Eq1.mk Fresh.no
        · intro p vs w' K hJ hp1 hp2 hS hR hK
          simp only [DepJ, List.getD_cons_zero, List.getD_cons_succ] at hJ
          obtain ⟨j4, j5, -⟩ := hJ
          have j4 := Eq1.out j4
          have j5 := Eq1.out j5
          simp only [j4, j5] at hK ⊢
          rw [if_pos (by rfl)]
          go_step
          exact hK.out _ _ (Below.refl _ _) Eq1.mk Fresh.no
        · intro p vs w' K hJ hp1 hp2 hS hR hK
          simp only [DepJ, List.getD_cons_zero, List.getD_cons_succ] at hJ
          obtain ⟨j6, -⟩ := hJ
          have j6 := Eq1.out j6
          simp only [j6] at hK ⊢
          rw [if_pos (by rfl)]
          have C := Hp.facts hS
          simp only [Facts, factsL, and_true, true_and, List.set_cons_zero, List.set_cons_succ, List.setIfInBounds_toArray] at C
          have hsz := hR.1
          have hq1 := own_cellN (gO.out.1 _ _ (show Hp _ _ _ from hS) (fun x hx => by simp [hx])) _ _ hp.1
          have hq2 := own_cellN (gO.out.1 _ _ (show Hp _ _ _ from hS) (fun x hx => by simp [hx])) _ _ hp.2
          go_step
          exact hK.out _ _ (Below.refl _ _) Eq1.mk Fresh.no
        · intro p vs w' K hJ hp1 hp2 hS hR hK
          simp only [DepJ, List.getD_cons_zero, List.getD_cons_succ] at hJ
          obtain ⟨j3, j7, -⟩ := hJ
          have j3 := Eq1.out j3
          have j7 := Eq1.out j7
          simp only [j3, j7] at hK ⊢
          rw [if_pos (by rfl)]
          go_step
          exact hK.out _ _ (Below.refl _ _) (Eq1.of (by simp)) Fresh.no
      case hst_1 => refine ⟨fun _ _ _ _ h => h, fun _ _ _ _ h => h, fun _ _ _ _ h => h, fun _ _ _ _ h => h, fun _ _ _ _ h => h, fun _ _ _ _ h => h, fun _ _ _ _ h => h, fun _ _ _ _ h => h, fun _ _ _ _ h => h, trivial⟩
      intro vs w' hJ hD hS hR
      simp only [AllJ, Nat.reduceAdd] at hJ
      obtain ⟨v0, v1, v2, v3, v4, v5, v6, v7, v8, -⟩ := hJ
      clear C
      replace v0 := Eq1.out v0
      replace v1 := Eq1.out v1
      replace v2 := Eq1.out v2
      replace v3 := Eq1.out v3
      replace v4 := Eq1.out v4
      replace v5 := Eq1.out v5
      replace v6 := Eq1.out v6
      replace v7 := Eq1.out v7
      replace v8 := Eq1.out v8
      simp only [v0, v1, v2, v3, v4, v5, v6, v7, v8, List.drop_succ_cons, List.drop_zero]
      refine wpList_nil' ?_
      have H' : Hp _ _ _ := hS
      clear hD hR hS v0 v1 v2 v3 v4 v5 v6 v7 v8
      clear vs H
      have H := H'; clear H'; have C := Hp.facts H; simp only [Facts, factsL, and_true, true_and, List.set_cons_zero, List.set_cons_succ, List.setIfInBounds_toArray] at C

      (repeat' ((fail_if_success (with_reducible show bodyPost _ _ _ _ _ _)); first | ((with_reducible refine Hp.abs_alloc H ?_); intro b' w' H' hb'; (try simp only [hb']); clear hb'; ((try simp only [List.set_cons_zero, List.set_cons_succ, List.setIfInBounds_toArray] at H'); clear C H; have H := H'; clear H'; have C := Hp.facts H; simp only [Facts, factsL, and_true, true_and, List.set_cons_zero, List.set_cons_succ, List.setIfInBounds_toArray] at C)) | ((with_reducible show wpList _ _ _ _ _ (World.setCell _ _ _)); (with_reducible apply Hp.abs_gen H); (first | ((repeat (with_reducible apply Hp.set' 0)); (with_reducible exact H); (repeat rfl); intro w' H') | ((repeat (with_reducible apply Hp.set' 1)); (with_reducible exact H); (repeat rfl); intro w' H') | ((repeat (with_reducible apply Hp.set' 2)); (with_reducible exact H); (repeat rfl); intro w' H') | ((repeat (with_reducible apply Hp.set' 3)); (with_reducible exact H); (repeat rfl); intro w' H') | ((repeat (with_reducible apply Hp.set' 4)); (with_reducible exact H); (repeat rfl); intro w' H') | ((repeat (with_reducible apply Hp.set' 5)); (with_reducible exact H); (repeat rfl); intro w' H') | ((repeat (with_reducible apply Hp.set' 6)); (with_reducible exact H); (repeat rfl); intro w' H') | ((repeat (with_reducible apply Hp.set' 7)); (with_reducible exact H); (repeat rfl); intro w' H')); ((try simp only [List.set_cons_zero, List.set_cons_succ, List.setIfInBounds_toArray] at H'); clear C H; have H := H'; clear H'; have C := Hp.facts H; simp only [Facts, factsL, and_true, true_and, List.set_cons_zero, List.set_cons_succ, List.setIfInBounds_toArray] at C)) | go_values | go_skip | go_guarded | go_step | go_upon | go_back | (simp only [Int.not_lt, Int.not_le] at *; go_simp) | (go_values <;> (try go_simp)) | (go_ite <;> go_prune <;> (try go_simp)) | (split <;> (first | (rename_i hx; exact (hx _ rfl).elim) | go_prune))))
      rw [← hM] at H
      exact ⟨PsRel.mk (i + 1) (by omega) (by go_num) H, by simp [intOf]; omega⟩
    · obtain rfl : i = S.length := by omega
      clear hM
      (repeat' ((fail_if_success (with_reducible show bodyPost _ _ _ _ _ _)); first | ((with_reducible refine Hp.abs_alloc H ?_); intro b' w' H' hb'; (try simp only [hb']); clear hb'; ((try simp only [List.set_cons_zero, List.set_cons_succ, List.setIfInBounds_toArray] at H'); clear C H; have H := H'; clear H'; have C := Hp.facts H; simp only [Facts, factsL, and_true, true_and, List.set_cons_zero, List.set_cons_succ, List.setIfInBounds_toArray] at C)) | ((with_reducible show wpList _ _ _ _ _ (World.setCell _ _ _)); (with_reducible apply Hp.abs_gen H); (first | ((repeat (with_reducible apply Hp.set' 0)); (with_reducible exact H); (repeat rfl); intro w' H') | ((repeat (with_reducible apply Hp.set' 1)); (with_reducible exact H); (repeat rfl); intro w' H') | ((repeat (with_reducible apply Hp.set' 2)); (with_reducible exact H); (repeat rfl); intro w' H') | ((repeat (with_reducible apply Hp.set' 3)); (with_reducible exact H); (repeat rfl); intro w' H') | ((repeat (with_reducible apply Hp.set' 4)); (with_reducible exact H); (repeat rfl); intro w' H') | ((repeat (with_reducible apply Hp.set' 5)); (with_reducible exact H); (repeat rfl); intro w' H') | ((repeat (with_reducible apply Hp.set' 6)); (with_reducible exact H); (repeat rfl); intro w' H') | ((repeat (with_reducible apply Hp.set' 7)); (with_reducible exact H); (repeat rfl); intro w' H')); ((try simp only [List.set_cons_zero, List.set_cons_succ, List.setIfInBounds_toArray] at H'); clear C H; have H := H'; clear H'; have C := Hp.facts H; simp only [Facts, factsL, and_true, true_and, List.set_cons_zero, List.set_cons_succ, List.setIfInBounds_toArray] at C)) | go_values | go_skip | go_guarded | go_step | go_upon | go_back | (simp only [Int.not_lt, Int.not_le] at *; go_simp) | (go_values <;> (try go_simp)) | (go_ite <;> go_prune <;> (try go_simp)) | (split <;> (first | (rename_i hx; exact (hx _ rfl).elim) | go_prune))))
      obtain ⟨wq, rfl⟩ := Hp.nameW H
      have HO := H
      have CO := C
      have gxq := Kp.mk ((gx.out _ _ HO (fun x hx => by simp [hx])).weak (Q := (· < wq.heap.size)) fun b _ hl => hl)
      have gyq := Kp.mk ((gy.out _ _ HO (fun x hx => by simp [hx])).any)
      clear H C
      have H := Hp.start wq
      have C := Hp.facts H
      simp only [Facts, factsL, and_true, true_and, List.set_cons_zero, List.set_cons_succ, List.setIfInBounds_toArray] at C
      have hOf := fun w1 (h : Below wq.heap.size wq w1) => of7_any 32 T _ w1 wq.heap.size h.size (gxq.out.step h) (by omega)
      have hSm := fun w1 (h : Below wq.heap.size wq w1) (m2 : Nat) (cs2 : List Value) (h2 : ItN w1 m2 T cs2) => rtsame_any m2 T cs2 32 T _ w1 h2 (gyq.out.step h) (by omega) (by omega)
      simp only [Tree.same_self] at hSm
      try simp (disch := omega) only [decide_eq_true, decide_eq_false]
      obtain ⟨wR13q, rfl⟩ := Hp.nameW H
      apply region_n (frm wR13q.heap.size (fun _ => Hp _ _)) (frm_ok ?hfs_2) frm_sz [] [.light 0 0, .light 0 0, .light 0 0, .light 0 0, .light 0 0] [false, false, false, false, false] 5 79 [] [some 75, some 76, some 77, some 78, some 2] [[], [0], [], [1, 2], [3]] [Eq1 _, (TreeV wR13q.heap.size wR13q.heap.size wR13q 32 T), Eq1 _, Eq1 _, Eq1 _] ?hq1_2 ?hq2_2 ?hq3_2 ?hq4_2 ?hq5_2 ?hq6_2 _ ?hA_2 ?hst_2 ?h0_2 ?hsteps_2 ?hend_2
      case hq1_2 => kernel_rfl
      case hq2_2 => kernel_rfl
      case hq3_2 => kernel_rfl
      case hq5_2 => kernel_rfl
      case hq4_2 => rfl
      case hq6_2 => rfl
      case hA_2 => intro vs; simp only [fillD, Nat.reduceAdd, Act.put, List.setIfInBounds_toArray, List.set_cons_zero, List.set_cons_succ]; rfl
      case h0_2 => exact H.drew
      case hfs_2 => exact fun _ _ _ hb h => Hp.step h hb
      case hsteps_2 =>
        refine ⟨?_, ?_, ?_, ?_, ?_, trivial⟩
        · intro p vs w' K hJ hp1 hp2 hS hR hK
          rw [if_pos (by rfl)]
          have C := Hp.facts hS
          simp only [Facts, factsL, and_true, true_and, List.set_cons_zero, List.set_cons_succ, List.setIfInBounds_toArray] at C
          have hsz := hR.1
          go_step
          exact hK.out _ _ (Below.refl _ _) Eq1.mk Fresh.no
        · intro p vs w' K hJ hp1 hp2 hS hR hK
          simp only [DepJ, List.getD_cons_zero, List.getD_cons_succ] at hJ
          obtain ⟨j0, -⟩ := hJ
          have j0 := Eq1.out j0
          simp only [j0] at hK ⊢
          rw [if_pos (by rfl)]
          replace hS : Hp _ _ _ := hS
          have C := Hp.facts hS
          simp only [Facts, factsL, and_true, true_and, List.set_cons_zero, List.set_cons_succ, List.setIfInBounds_toArray] at C
          have hsz := hR.1
          go_step
          refine (hOf _ hS.low).mono ?_
          rintro e' w'' ⟨⟨cs2, rfl, ht2⟩, hb2⟩
          exact hK.out _ _ hb2 (TreeV.mk hS (Nat.le_refl _) hR.1 hb2 ht2) Fresh.no
        · intro p vs w' K hJ hp1 hp2 hS hR hK
          rw [if_pos (by rfl)]
          have C := Hp.facts hS
          simp only [Facts, factsL, and_true, true_and, List.set_cons_zero, List.set_cons_succ, List.setIfInBounds_toArray] at C
          have hsz := hR.1
          go_step
          exact hK.out _ _ (Below.refl _ _) Eq1.mk Fresh.no
        · intro p vs w' K hJ hp1 hp2 hS hR hK
          simp only [DepJ, List.getD_cons_zero, List.getD_cons_succ] at hJ
          obtain ⟨j1, j2, -⟩ := hJ
          obtain ⟨x0, x1, x2, x3, x4, j1, t1⟩ := j1
          have j2 := Eq1.out j2
          simp only [j1, j2] at hK ⊢
          rw [if_pos (by rfl)]
          replace hS : Hp _ _ _ := hS
          have C := Hp.facts hS
          simp only [Facts, factsL, and_true, true_and, List.set_cons_zero, List.set_cons_succ, List.setIfInBounds_toArray] at C
          have hsz := hR.1
          go_step
          refine (hSm _ hS.low _ _ (t1.out hS (Nat.le_refl _)).any).mono ?_
          rintro e' w'' ⟨rfl, hb2⟩
          exact hK.out _ _ hb2 Eq1.mk Fresh.no
        · intro p vs w' K hJ hp1 hp2 hS hR hK
          simp only [DepJ, List.getD_cons_zero, List.getD_cons_succ] at hJ
          obtain ⟨j3, -⟩ := hJ
          have j3 := Eq1.out j3
          simp only [j3] at hK ⊢
          rw [if_pos (by rfl)]
          go_step
          exact hK.out _ _ (Below.refl _ _) Eq1.mk Fresh.no
      case hst_2 => refine ⟨fun _ _ _ _ h => h, fun _ _ _ hs h => TreeV.stay hs h, fun _ _ _ _ h => h, fun _ _ _ _ h => h, fun _ _ _ _ h => h, trivial⟩
      intro vs w' hJ hD hS hR
      simp only [AllJ, Nat.reduceAdd] at hJ
      obtain ⟨v0, v1, v2, v3, v4, -⟩ := hJ
      clear C
      replace v0 := Eq1.out v0
      replace v2 := Eq1.out v2
      replace v3 := Eq1.out v3
      replace v4 := Eq1.out v4
      obtain ⟨x0, x1, x2, x3, x4, e1, t1⟩ := v1
      simp only [v0, v2, v3, v4, e1, List.drop_succ_cons, List.drop_zero]
      refine wpList_nil' ?_
      have H' : Hp _ _ _ := hS
      clear hD hR hS v0 v2 v3 v4
      clear t1 e1
      clear vs H
      have H := H'; clear H'; have C := Hp.facts H; simp only [Facts, factsL, and_true, true_and, List.set_cons_zero, List.set_cons_succ, List.setIfInBounds_toArray] at C

      have H' := HO.step H.low
      clear HO CO H C
      have H := H'
      clear H'
      have C := Hp.facts H
      simp only [Facts, factsL, and_true, true_and, List.set_cons_zero, List.set_cons_succ, List.setIfInBounds_toArray] at C
      (repeat' ((fail_if_success (with_reducible show bodyPost _ _ _ _ _ _)); first | ((with_reducible refine Hp.abs_alloc H ?_); intro b' w' H' hb'; (try simp only [hb']); clear hb'; ((try simp only [List.set_cons_zero, List.set_cons_succ, List.setIfInBounds_toArray] at H'); clear C H; have H := H'; clear H'; have C := Hp.facts H; simp only [Facts, factsL, and_true, true_and, List.set_cons_zero, List.set_cons_succ, List.setIfInBounds_toArray] at C)) | ((with_reducible show wpList _ _ _ _ _ (World.setCell _ _ _)); (with_reducible apply Hp.abs_gen H); (first | ((repeat (with_reducible apply Hp.set' 0)); (with_reducible exact H); (repeat rfl); intro w' H') | ((repeat (with_reducible apply Hp.set' 1)); (with_reducible exact H); (repeat rfl); intro w' H') | ((repeat (with_reducible apply Hp.set' 2)); (with_reducible exact H); (repeat rfl); intro w' H') | ((repeat (with_reducible apply Hp.set' 3)); (with_reducible exact H); (repeat rfl); intro w' H') | ((repeat (with_reducible apply Hp.set' 4)); (with_reducible exact H); (repeat rfl); intro w' H') | ((repeat (with_reducible apply Hp.set' 5)); (with_reducible exact H); (repeat rfl); intro w' H') | ((repeat (with_reducible apply Hp.set' 6)); (with_reducible exact H); (repeat rfl); intro w' H') | ((repeat (with_reducible apply Hp.set' 7)); (with_reducible exact H); (repeat rfl); intro w' H')); ((try simp only [List.set_cons_zero, List.set_cons_succ, List.setIfInBounds_toArray] at H'); clear C H; have H := H'; clear H'; have C := Hp.facts H; simp only [Facts, factsL, and_true, true_and, List.set_cons_zero, List.set_cons_succ, List.setIfInBounds_toArray] at C)) | go_values | go_skip | go_guarded | go_step | go_upon | go_back | (simp only [Int.not_lt, Int.not_le] at *; go_simp) | (go_values <;> (try go_simp)) | (go_ite <;> go_prune <;> (try go_simp)) | (split <;> (first | (rename_i hx; exact (hx _ rfl).elim) | go_prune))))
      go_ret
      exact ⟨rfl, H.low⟩
theorem itemParses_any (l : List UInt8) (v : Value) (w : World) (hb : Bs w v l) : Calls Try.prog 4 #[v] w fun e w' => e = .returned (.bool true) ∧ Below w.heap.size w w' := by
  obtain ⟨A, c, rfl, h1, h2, h3, -⟩ := hb.open
  have hL : (l.take (min l.length 3000)).length = min l.length 3000 := by simp
  have hB := hb.front (k := min l.length 3000) (by omega)
  generalize l.take (min l.length 3000) = L at *
  rw [← hL] at hB
  exact itemParses_core l.length A c L w hB (by omega) (by omega) h1 h2
end Go.Proofs.Ytogliinfdfkobaa

