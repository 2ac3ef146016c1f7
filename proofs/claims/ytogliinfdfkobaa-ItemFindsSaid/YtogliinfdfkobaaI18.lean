/- Lemmas and walks on the way to the seat's laws; each theorem says its own conditions. -/
import Derived.Test.YtogliinfdfkobaaI17
set_option linter.unusedSimpArgs false
set_option linter.unusedVariables false
set_option linter.unusedSimpArgs false
set_option linter.unusedVariables false
set_option maxRecDepth 100000
namespace Go.Proofs.Ytogliinfdfkobaa
open Go.RowKit Go.Mem Go.Reg Oct Hd Go.LawLift
theorem five_of {cs : List Value} (h : cs.length = 5) : ∃ d0 d1 d2 d3 d4, cs = [d0, d1, d2, d3, d4] := by
  match cs, h with
  | [d0, d1, d2, d3, d4], _ => exact ⟨d0, d1, d2, d3, d4, rfl⟩
/-- The tree of no part. -/
abbrev zt : Tree := .mk ⟨0, 0, false⟩ [] []
theorem zero_it (P : Nat → Prop) (w : World) (n : Nat) : ItP P w (n + 1) zt [.int .i64 0, .int .i64 0, .bool false, .slice none 0 0, .slice none 0 0] :=
  ⟨_, none, 0, rfl, fun w' _ => Bs.nil w', Nat.le_refl _, by simp [maxLen], fun _ => rfl, fun j hj => by simp at hj⟩
theorem findT_le : ∀ (ps : List Int) (t u : Tree), findT t ps = some u → u.count ≤ t.count ∧ u.total ≤ t.total
  | [], t, u, h => by
    rw [findT] at h
    injection h with h
    subst h
    exact ⟨Nat.le_refl _, Nat.le_refl _⟩
  | i :: r, t, u, h => by
    rw [findT] at h
    split at h
    · rename_i hi
      have h1 := findT_le r _ u h
      have h2 := Tree.counts_at t.kids i.toNat hi.2
      have h3 := Tree.totals_at t.kids i.toNat hi.2
      have h4 := t.count_is
      have h5 := t.total_is
      omega
    · cases h
theorem it_back {w w1 : World} {L : List Ent} (H : Hp w L w1) {n : Nat} {t : Tree} {cs : List Value} (h : ItP (· < w.heap.size) w1 n t cs) : ItP (· < w.heap.size) w n t cs :=
  h.move fun b hb _ => (H.low.block b hb).symm
/-- Bytes that are turned one by one. -/
def FiRel (w : World) (y3 : Value) (n : Nat) (M : List Ent) (ix : Value) (wr : World) : Prop := ∃ (i : Nat) (zs : List Int), i ≤ n ∧ ix = .int .i64 i ∧ zs.length = n ∧ Hp w (.row 5 1 y3 n (zs.map (Value.int .u8)) :: M) wr
theorem FiRel.mk {w : World} {y3 : Value} {n : Nat} {M : List Ent} {ix : Value} {wr : World} (i : Nat) (zs : List Int) (h1 : i ≤ n) (h2 : ix = .int .i64 i) (h3 : zs.length = n) (h4 : Hp w (.row 5 1 y3 n (zs.map (Value.int .u8)) :: M) wr) : FiRel w y3 n M ix wr := ⟨i, zs, h1, h2, h3, h4⟩
theorem FiRel.start {w wr : World} {y3 : Value} {n : Nat} {zs : List Int} {M : List Ent} (h3 : zs.length = n) (H : Hp w (.row 5 1 y3 n (zs.map (Value.int .u8)) :: M) wr) : ∃ M', M' = M ∧ FiRel w y3 n M' (.int .i64 0) wr :=
  ⟨M, rfl, 0, zs, Nat.zero_le _, rfl, h3, H⟩
theorem row_base0 {w : World} {B : Nat} {e : TypeId} {A : Option Addr} {n c : Nat} {xs : List Value} (h : w.ownsRow B e 1 (.slice A n c) n xs) (hn : 0 < n) : ∃ b, A = some ⟨b, 0, none⟩ := by
  rcases h.2 with ⟨-, h0⟩ | ⟨g, cap, cur, hv, -⟩
  · omega
  · injection hv with e
    exact ⟨g, e⟩
theorem u8c_ints (l : List UInt8) : l.map u8c = (l.map fun u => (u.toNat : Int)).map (Value.int .u8) := by
  rw [List.map_map]
  rfl
set_option maxHeartbeats 1600000 in
theorem itemFinds_core (na nb : Nat) (ta tb : Tree) (ca cb : List Value) (n0 : Nat) (A : Option Addr) (c : Nat) (ps : List Int) (w : World) (hta : ItP (· < w.heap.size) w na ta ca) (htb : ItP (· < w.heap.size) w nb tb cb) (hfa : ta.Fit) (hfb : tb.Fit)
    (hZ : Sl w (.slice A ps.length c) (ps.map fun z => .int .i64 z)) (hps : ps.length ≤ 100) (hmin : min (n0 : Int) 100 = (ps.length : Int)) (hlc : n0 ≤ c) (hcm : c ≤ 9223372036854775807) :
    Calls Try.prog 5 #[.agg ca.toArray, .agg cb.toArray, .slice A n0 c] w fun e w' => e = .returned (.bool true) ∧ Below w.heap.size w w' := by
  have H := Hp.start w
  have C : True := trivial
  obtain ⟨d0, d1, d2, d3, d4, rfl⟩ := five_of hta.len
  obtain ⟨a0, a1, a2, aA, aB, ak, ac, am, ad, rfl, rfl, rfl, rfl, rfl⟩ := hta.forms
  obtain ⟨d0, d1, d2, d3, d4, rfl⟩ := five_of htb.len
  obtain ⟨b0, b1, b2, bA, bB, bk, bc, bm, bd, rfl, rfl, rfl, rfl, rfl⟩ := htb.forms
  have hFa := fun w1 (h : Below w.heap.size w w1) => few7_any na ta _ w1 ((hta.any).step h) hfa
  have hFb := fun w1 (h : Below w.heap.size w w1) => few7_any nb tb _ w1 ((htb.any).step h) hfb
  have gta := Kp.mk hta
  have gtb := Kp.mk htb
  have gmin := Kp.mk hmin
  have hpc : ps.length ≤ c := by omega
  replace hZ := Kp.mk hZ
  clear hta htb hfa hfb hmin
  go_enter Try.func5, Try.ntmps5
  (repeat' ((fail_if_success (with_reducible show bodyPost _ _ _ _ _ _)); first | ((with_reducible refine Hp.abs_alloc H ?_); intro b' w' H' hb'; (try simp only [hb']); clear hb'; ((try simp only [List.set_cons_zero, List.set_cons_succ, List.setIfInBounds_toArray] at H'); clear C H; have H := H'; clear H'; have C := Hp.facts H; simp only [Facts, factsL, and_true, true_and, List.set_cons_zero, List.set_cons_succ, List.setIfInBounds_toArray] at C)) | ((with_reducible show wpList _ _ _ _ _ (World.setCell _ _ _)); (with_reducible apply Hp.abs_gen H); (first | ((repeat (with_reducible apply Hp.set' 0)); (with_reducible exact H); (repeat rfl); intro w' H') | ((repeat (with_reducible apply Hp.set' 1)); (with_reducible exact H); (repeat rfl); intro w' H') | ((repeat (with_reducible apply Hp.set' 2)); (with_reducible exact H); (repeat rfl); intro w' H') | ((repeat (with_reducible apply Hp.set' 3)); (with_reducible exact H); (repeat rfl); intro w' H') | ((repeat (with_reducible apply Hp.set' 4)); (with_reducible exact H); (repeat rfl); intro w' H') | ((repeat (with_reducible apply Hp.set' 5)); (with_reducible exact H); (repeat rfl); intro w' H') | ((repeat (with_reducible apply Hp.set' 6)); (with_reducible exact H); (repeat rfl); intro w' H') | ((repeat (with_reducible apply Hp.set' 7)); (with_reducible exact H); (repeat rfl); intro w' H') | ((repeat (with_reducible apply Hp.set' 8)); (with_reducible exact H); (repeat rfl); intro w' H') | ((repeat (with_reducible apply Hp.set' 9)); (with_reducible exact H); (repeat rfl); intro w' H') | ((repeat (with_reducible apply Hp.set' 10)); (with_reducible exact H); (repeat rfl); intro w' H') | ((repeat (with_reducible apply Hp.set' 11)); (with_reducible exact H); (repeat rfl); intro w' H') | ((repeat (with_reducible apply Hp.set' 12)); (with_reducible exact H); (repeat rfl); intro w' H') | ((repeat (with_reducible apply Hp.set' 13)); (with_reducible exact H); (repeat rfl); intro w' H')); ((try simp only [List.set_cons_zero, List.set_cons_succ, List.setIfInBounds_toArray] at H'); clear C H; have H := H'; clear H'; have C := Hp.facts H; simp only [Facts, factsL, and_true, true_and, List.set_cons_zero, List.set_cons_succ, List.setIfInBounds_toArray] at C)) | go_values | go_skip | go_guarded | go_step | go_upon | go_back | (simp only [Int.not_lt, Int.not_le] at *; go_simp) | (go_values <;> (try go_simp)) | (go_ite <;> go_prune <;> (try go_simp)) | (split <;> (first | (rename_i hx; exact (hx _ rfl).elim) | go_prune))))
  refine (hFa _ H.low).mono ?_
  rintro e' w1 ⟨⟨oka, rfl, hoka⟩, hb⟩
  (have H' := Hp.step H hb; clear hb; ((try simp only [List.set_cons_zero, List.set_cons_succ, List.setIfInBounds_toArray] at H'); clear C H; have H := H'; clear H'; have C := Hp.facts H; simp only [Facts, factsL, and_true, true_and, List.set_cons_zero, List.set_cons_succ, List.setIfInBounds_toArray] at C))
  cases oka with
  | false =>
    clear hoka hFb
    (repeat' ((fail_if_success (with_reducible show bodyPost _ _ _ _ _ _)); first | ((with_reducible refine Hp.abs_alloc H ?_); intro b' w' H' hb'; (try simp only [hb']); clear hb'; ((try simp only [List.set_cons_zero, List.set_cons_succ, List.setIfInBounds_toArray] at H'); clear C H; have H := H'; clear H'; have C := Hp.facts H; simp only [Facts, factsL, and_true, true_and, List.set_cons_zero, List.set_cons_succ, List.setIfInBounds_toArray] at C)) | ((with_reducible show wpList _ _ _ _ _ (World.setCell _ _ _)); (with_reducible apply Hp.abs_gen H); (first | ((repeat (with_reducible apply Hp.set' 0)); (with_reducible exact H); (repeat rfl); intro w' H') | ((repeat (with_reducible apply Hp.set' 1)); (with_reducible exact H); (repeat rfl); intro w' H') | ((repeat (with_reducible apply Hp.set' 2)); (with_reducible exact H); (repeat rfl); intro w' H') | ((repeat (with_reducible apply Hp.set' 3)); (with_reducible exact H); (repeat rfl); intro w' H') | ((repeat (with_reducible apply Hp.set' 4)); (with_reducible exact H); (repeat rfl); intro w' H') | ((repeat (with_reducible apply Hp.set' 5)); (with_reducible exact H); (repeat rfl); intro w' H') | ((repeat (with_reducible apply Hp.set' 6)); (with_reducible exact H); (repeat rfl); intro w' H') | ((repeat (with_reducible apply Hp.set' 7)); (with_reducible exact H); (repeat rfl); intro w' H') | ((repeat (with_reducible apply Hp.set' 8)); (with_reducible exact H); (repeat rfl); intro w' H') | ((repeat (with_reducible apply Hp.set' 9)); (with_reducible exact H); (repeat rfl); intro w' H') | ((repeat (with_reducible apply Hp.set' 10)); (with_reducible exact H); (repeat rfl); intro w' H') | ((repeat (with_reducible apply Hp.set' 11)); (with_reducible exact H); (repeat rfl); intro w' H') | ((repeat (with_reducible apply Hp.set' 12)); (with_reducible exact H); (repeat rfl); intro w' H') | ((repeat (with_reducible apply Hp.set' 13)); (with_reducible exact H); (repeat rfl); intro w' H')); ((try simp only [List.set_cons_zero, List.set_cons_succ, List.setIfInBounds_toArray] at H'); clear C H; have H := H'; clear H'; have C := Hp.facts H; simp only [Facts, factsL, and_true, true_and, List.set_cons_zero, List.set_cons_succ, List.setIfInBounds_toArray] at C)) | (go_at_call 9; refine (known7_any _).mono ?_; rintro e' w' ⟨rfl, hb'⟩; (have H' := Hp.step H hb'; clear hb'; ((try simp only [List.set_cons_zero, List.set_cons_succ, List.setIfInBounds_toArray] at H'); clear C H; have H := H'; clear H'; have C := Hp.facts H; simp only [Facts, factsL, and_true, true_and, List.set_cons_zero, List.set_cons_succ, List.setIfInBounds_toArray] at C))) | go_values | go_skip | go_guarded | go_step | go_upon | go_back | (simp only [Int.not_lt, Int.not_le] at *; go_simp) | (go_values <;> (try go_simp)) | (go_ite <;> go_prune <;> (try go_simp)) | (split <;> (first | (rename_i hx; exact (hx _ rfl).elim) | go_prune))))
    go_ret
    exact ⟨rfl, H.low⟩
  | true =>
    replace hoka := hoka rfl
    (repeat' ((fail_if_success (with_reducible show bodyPost _ _ _ _ _ _)); first | ((with_reducible refine Hp.abs_alloc H ?_); intro b' w' H' hb'; (try simp only [hb']); clear hb'; ((try simp only [List.set_cons_zero, List.set_cons_succ, List.setIfInBounds_toArray] at H'); clear C H; have H := H'; clear H'; have C := Hp.facts H; simp only [Facts, factsL, and_true, true_and, List.set_cons_zero, List.set_cons_succ, List.setIfInBounds_toArray] at C)) | ((with_reducible show wpList _ _ _ _ _ (World.setCell _ _ _)); (with_reducible apply Hp.abs_gen H); (first | ((repeat (with_reducible apply Hp.set' 0)); (with_reducible exact H); (repeat rfl); intro w' H') | ((repeat (with_reducible apply Hp.set' 1)); (with_reducible exact H); (repeat rfl); intro w' H') | ((repeat (with_reducible apply Hp.set' 2)); (with_reducible exact H); (repeat rfl); intro w' H') | ((repeat (with_reducible apply Hp.set' 3)); (with_reducible exact H); (repeat rfl); intro w' H') | ((repeat (with_reducible apply Hp.set' 4)); (with_reducible exact H); (repeat rfl); intro w' H') | ((repeat (with_reducible apply Hp.set' 5)); (with_reducible exact H); (repeat rfl); intro w' H') | ((repeat (with_reducible apply Hp.set' 6)); (with_reducible exact H); (repeat rfl); intro w' H') | ((repeat (with_reducible apply Hp.set' 7)); (with_reducible exact H); (repeat rfl); intro w' H') | ((repeat (with_reducible apply Hp.set' 8)); (with_reducible exact H); (repeat rfl); intro w' H') | ((repeat (with_reducible apply Hp.set' 9)); (with_reducible exact H); (repeat rfl); intro w' H') | ((repeat (with_reducible apply Hp.set' 10)); (with_reducible exact H); (repeat rfl); intro w' H') | ((repeat (with_reducible apply Hp.set' 11)); (with_reducible exact H); (repeat rfl); intro w' H') | ((repeat (with_reducible apply Hp.set' 12)); (with_reducible exact H); (repeat rfl); intro w' H') | ((repeat (with_reducible apply Hp.set' 13)); (with_reducible exact H); (repeat rfl); intro w' H')); ((try simp only [List.set_cons_zero, List.set_cons_succ, List.setIfInBounds_toArray] at H'); clear C H; have H := H'; clear H'; have C := Hp.facts H; simp only [Facts, factsL, and_true, true_and, List.set_cons_zero, List.set_cons_succ, List.setIfInBounds_toArray] at C)) | go_values | go_skip | go_guarded | go_step | go_upon | go_back | (simp only [Int.not_lt, Int.not_le] at *; go_simp) | (go_values <;> (try go_simp)) | (go_ite <;> go_prune <;> (try go_simp)) | (split <;> (first | (rename_i hx; exact (hx _ rfl).elim) | go_prune))))
    refine (hFb _ H.low).mono ?_
    rintro e' w1 ⟨⟨okb, rfl, hokb⟩, hb⟩
    (have H' := Hp.step H hb; clear hb; ((try simp only [List.set_cons_zero, List.set_cons_succ, List.setIfInBounds_toArray] at H'); clear C H; have H := H'; clear H'; have C := Hp.facts H; simp only [Facts, factsL, and_true, true_and, List.set_cons_zero, List.set_cons_succ, List.setIfInBounds_toArray] at C))
    cases okb with
    | false =>
      clear hokb
      (repeat' ((fail_if_success (with_reducible show bodyPost _ _ _ _ _ _)); first | ((with_reducible refine Hp.abs_alloc H ?_); intro b' w' H' hb'; (try simp only [hb']); clear hb'; ((try simp only [List.set_cons_zero, List.set_cons_succ, List.setIfInBounds_toArray] at H'); clear C H; have H := H'; clear H'; have C := Hp.facts H; simp only [Facts, factsL, and_true, true_and, List.set_cons_zero, List.set_cons_succ, List.setIfInBounds_toArray] at C)) | ((with_reducible show wpList _ _ _ _ _ (World.setCell _ _ _)); (with_reducible apply Hp.abs_gen H); (first | ((repeat (with_reducible apply Hp.set' 0)); (with_reducible exact H); (repeat rfl); intro w' H') | ((repeat (with_reducible apply Hp.set' 1)); (with_reducible exact H); (repeat rfl); intro w' H') | ((repeat (with_reducible apply Hp.set' 2)); (with_reducible exact H); (repeat rfl); intro w' H') | ((repeat (with_reducible apply Hp.set' 3)); (with_reducible exact H); (repeat rfl); intro w' H') | ((repeat (with_reducible apply Hp.set' 4)); (with_reducible exact H); (repeat rfl); intro w' H') | ((repeat (with_reducible apply Hp.set' 5)); (with_reducible exact H); (repeat rfl); intro w' H') | ((repeat (with_reducible apply Hp.set' 6)); (with_reducible exact H); (repeat rfl); intro w' H') | ((repeat (with_reducible apply Hp.set' 7)); (with_reducible exact H); (repeat rfl); intro w' H') | ((repeat (with_reducible apply Hp.set' 8)); (with_reducible exact H); (repeat rfl); intro w' H') | ((repeat (with_reducible apply Hp.set' 9)); (with_reducible exact H); (repeat rfl); intro w' H') | ((repeat (with_reducible apply Hp.set' 10)); (with_reducible exact H); (repeat rfl); intro w' H') | ((repeat (with_reducible apply Hp.set' 11)); (with_reducible exact H); (repeat rfl); intro w' H') | ((repeat (with_reducible apply Hp.set' 12)); (with_reducible exact H); (repeat rfl); intro w' H') | ((repeat (with_reducible apply Hp.set' 13)); (with_reducible exact H); (repeat rfl); intro w' H')); ((try simp only [List.set_cons_zero, List.set_cons_succ, List.setIfInBounds_toArray] at H'); clear C H; have H := H'; clear H'; have C := Hp.facts H; simp only [Facts, factsL, and_true, true_and, List.set_cons_zero, List.set_cons_succ, List.setIfInBounds_toArray] at C)) | (go_at_call 9; refine (known7_any _).mono ?_; rintro e' w' ⟨rfl, hb'⟩; (have H' := Hp.step H hb'; clear hb'; ((try simp only [List.set_cons_zero, List.set_cons_succ, List.setIfInBounds_toArray] at H'); clear C H; have H := H'; clear H'; have C := Hp.facts H; simp only [Facts, factsL, and_true, true_and, List.set_cons_zero, List.set_cons_succ, List.setIfInBounds_toArray] at C))) | go_values | go_skip | go_guarded | go_step | go_upon | go_back | (simp only [Int.not_lt, Int.not_le] at *; go_simp) | (go_values <;> (try go_simp)) | (go_ite <;> go_prune <;> (try go_simp)) | (split <;> (first | (rename_i hx; exact (hx _ rfl).elim) | go_prune))))
      go_ret
      exact ⟨rfl, H.low⟩
    | true =>
      replace hokb := hokb rfl
      obtain ⟨ha1, ha2, -⟩ := hoka
      obtain ⟨hb1, hb2, -⟩ := hokb
      have hmin := gmin.out
      have hmin2 : (if (100 : Int) < (n0 : Int) then (100 : Int) else (n0 : Int)) = (ps.length : Int) := by rw [← hmin]; split <;> omega
      clear hFa hFb gmin
      simp only []
      (repeat' (first | go_values | go_skip | go_guarded | go_step | go_upon | go_back | (go_values <;> (try go_simp))))
      try simp only [hmin, hmin2, Int.toNat_natCast]
      clear hmin hmin2
      cases hf : findT ta ps with
      | some u =>
        have hul := findT_le ps ta u hf
        have hcu : u.count ≤ 200000 := by omega
        have hubl : u.bytes.length ≤ 2000 := by have := u.total_is; omega
        replace hf := Kp.mk hf
        refine (to7_any na ta _ _ w.heap.size H.low.size (gta.out.step H.low) (by omega)).mono ?_
        rintro e' wX ⟨⟨cx, rfl, htx⟩, hb⟩
        obtain ⟨Ox, H2, gx⟩ := H.keepTree (Nat.le_refl _) hb htx
        obtain ⟨d0, d1, d2, d3, d4, rfl⟩ := five_of htx.len
        obtain ⟨x0, x1, x2, xA, xB, xk, xc, xm, xd, rfl, rfl, rfl, rfl, rfl⟩ := htx.forms
        replace gx := Kp.mk gx
        clear H C htx hb
        have H := H2
        clear H2
        simp only [List.cons_append, List.nil_append, List.append_assoc] at H
        have C := Hp.facts H
        simp only [Facts, factsL, and_true, true_and, List.set_cons_zero, List.set_cons_succ, List.setIfInBounds_toArray] at C
        (repeat' ((fail_if_success (with_reducible show bodyPost _ _ _ _ _ _)); first | ((with_reducible refine Hp.abs_alloc H ?_); intro b' w' H' hb'; (try simp only [hb']); clear hb'; ((try simp only [List.set_cons_zero, List.set_cons_succ, List.setIfInBounds_toArray] at H'); clear C H; have H := H'; clear H'; have C := Hp.facts H; simp only [Facts, factsL, and_true, true_and, List.set_cons_zero, List.set_cons_succ, List.setIfInBounds_toArray] at C)) | ((with_reducible show wpList _ _ _ _ _ (World.setCell _ _ _)); (with_reducible apply Hp.abs_gen H); (first | ((repeat (with_reducible apply Hp.set' 0)); (with_reducible exact H); (repeat rfl); intro w' H') | ((repeat (with_reducible apply Hp.set' 1)); (with_reducible exact H); (repeat rfl); intro w' H') | ((repeat (with_reducible apply Hp.set' 2)); (with_reducible exact H); (repeat rfl); intro w' H') | ((repeat (with_reducible apply Hp.set' 3)); (with_reducible exact H); (repeat rfl); intro w' H') | ((repeat (with_reducible apply Hp.set' 4)); (with_reducible exact H); (repeat rfl); intro w' H') | ((repeat (with_reducible apply Hp.set' 5)); (with_reducible exact H); (repeat rfl); intro w' H') | ((repeat (with_reducible apply Hp.set' 6)); (with_reducible exact H); (repeat rfl); intro w' H') | ((repeat (with_reducible apply Hp.set' 7)); (with_reducible exact H); (repeat rfl); intro w' H') | ((repeat (with_reducible apply Hp.set' 8)); (with_reducible exact H); (repeat rfl); intro w' H') | ((repeat (with_reducible apply Hp.set' 9)); (with_reducible exact H); (repeat rfl); intro w' H') | ((repeat (with_reducible apply Hp.set' 10)); (with_reducible exact H); (repeat rfl); intro w' H') | ((repeat (with_reducible apply Hp.set' 11)); (with_reducible exact H); (repeat rfl); intro w' H') | ((repeat (with_reducible apply Hp.set' 12)); (with_reducible exact H); (repeat rfl); intro w' H') | ((repeat (with_reducible apply Hp.set' 13)); (with_reducible exact H); (repeat rfl); intro w' H')); ((try simp only [List.set_cons_zero, List.set_cons_succ, List.setIfInBounds_toArray] at H'); clear C H; have H := H'; clear H'; have C := Hp.facts H; simp only [Facts, factsL, and_true, true_and, List.set_cons_zero, List.set_cons_succ, List.setIfInBounds_toArray] at C)) | go_values | go_skip | go_guarded | go_step | go_upon | go_back | (simp only [Int.not_lt, Int.not_le] at *; go_simp) | (go_values <;> (try go_simp)) | (go_ite <;> go_prune <;> (try go_simp)) | (split <;> (first | (rename_i hx; exact (hx _ rfl).elim) | go_prune))))
        refine (find_any na ta _ ps _ _ ((gx.out _ _ H (fun x hx => by simp [hx])).any) (by omega) (by omega) (hZ.out.step H.low) (by omega)).mono ?_
        rintro e' wY ⟨h1, -, hb⟩
        obtain ⟨my, cy, rfl, hty, hoy⟩ := h1 u hf.out
        clear h1
        obtain ⟨Oy, H2, gy, gO⟩ := H.keepTree2 (Nat.zero_le _) hb hty
        have gO := Kp.mk (gO _ _ _ _ _ hoy)
        obtain ⟨d0, d1, d2, d3, d4, rfl⟩ := five_of hty.len
        obtain ⟨y0, y1, y2, yA, yB, yk, yc, ym, yd, rfl, rfl, rfl, rfl, rfl⟩ := hty.forms
        obtain rfl : yk = u.bytes.length := by
          obtain ⟨A8, c8, e8⟩ := Go.LawLift.own_form hoy
          injection e8
        replace gy := Kp.mk gy
        clear H C hty hb hoy
        have H := H2
        clear H2
        simp only [List.cons_append, List.nil_append, List.append_assoc] at H
        have C := Hp.facts H
        simp only [Facts, factsL, and_true, true_and, List.set_cons_zero, List.set_cons_succ, List.setIfInBounds_toArray] at C
        (repeat' ((fail_if_success (with_reducible show bodyPost _ _ _ _ _ _)); first | ((with_reducible refine Hp.abs_alloc H ?_); intro b' w' H' hb'; (try simp only [hb']); clear hb'; ((try simp only [List.set_cons_zero, List.set_cons_succ, List.setIfInBounds_toArray] at H'); clear C H; have H := H'; clear H'; have C := Hp.facts H; simp only [Facts, factsL, and_true, true_and, List.set_cons_zero, List.set_cons_succ, List.setIfInBounds_toArray] at C)) | ((with_reducible show wpList _ _ _ _ _ (World.setCell _ _ _)); (with_reducible apply Hp.abs_gen H); (first | ((repeat (with_reducible apply Hp.set' 0)); (with_reducible exact H); (repeat rfl); intro w' H') | ((repeat (with_reducible apply Hp.set' 1)); (with_reducible exact H); (repeat rfl); intro w' H') | ((repeat (with_reducible apply Hp.set' 2)); (with_reducible exact H); (repeat rfl); intro w' H') | ((repeat (with_reducible apply Hp.set' 3)); (with_reducible exact H); (repeat rfl); intro w' H') | ((repeat (with_reducible apply Hp.set' 4)); (with_reducible exact H); (repeat rfl); intro w' H') | ((repeat (with_reducible apply Hp.set' 5)); (with_reducible exact H); (repeat rfl); intro w' H') | ((repeat (with_reducible apply Hp.set' 6)); (with_reducible exact H); (repeat rfl); intro w' H') | ((repeat (with_reducible apply Hp.set' 7)); (with_reducible exact H); (repeat rfl); intro w' H') | ((repeat (with_reducible apply Hp.set' 8)); (with_reducible exact H); (repeat rfl); intro w' H') | ((repeat (with_reducible apply Hp.set' 9)); (with_reducible exact H); (repeat rfl); intro w' H') | ((repeat (with_reducible apply Hp.set' 10)); (with_reducible exact H); (repeat rfl); intro w' H') | ((repeat (with_reducible apply Hp.set' 11)); (with_reducible exact H); (repeat rfl); intro w' H') | ((repeat (with_reducible apply Hp.set' 12)); (with_reducible exact H); (repeat rfl); intro w' H') | ((repeat (with_reducible apply Hp.set' 13)); (with_reducible exact H); (repeat rfl); intro w' H')); ((try simp only [List.set_cons_zero, List.set_cons_succ, List.setIfInBounds_toArray] at H'); clear C H; have H := H'; clear H'; have C := Hp.facts H; simp only [Facts, factsL, and_true, true_and, List.set_cons_zero, List.set_cons_succ, List.setIfInBounds_toArray] at C)) | go_values | go_skip | go_guarded | go_step | go_upon | go_back | (simp only [Int.not_lt, Int.not_le] at *; go_simp) | (go_values <;> (try go_simp)) | (go_ite <;> go_prune <;> (try go_simp)) | (split <;> (first | (rename_i hx; exact (hx _ rfl).elim) | go_prune))))
        refine (lfind_any (· < w.heap.size) na ta _ ps _ _ (gta.out.step H.low) (by omega) (hZ.out.step H.low) (by omega)).mono ?_
        rintro e' wZ ⟨h1, -, hb⟩
        obtain ⟨mz, cz, rfl, htz⟩ := h1 u hf.out
        clear h1
        (have H' := Hp.step H hb; clear hb; ((try simp only [List.set_cons_zero, List.set_cons_succ, List.setIfInBounds_toArray] at H'); clear C H; have H := H'; clear H'; have C := Hp.facts H; simp only [Facts, factsL, and_true, true_and, List.set_cons_zero, List.set_cons_succ, List.setIfInBounds_toArray] at C))
        replace htz := it_back H htz
        obtain ⟨d0, d1, d2, d3, d4, rfl⟩ := five_of htz.len
        obtain ⟨z0, z1, z2, zA, zB, zk, zc, zm, zd, rfl, rfl, rfl, rfl, rfl⟩ := htz.forms
        have gz := Kp.mk htz
        clear htz
        (repeat' ((fail_if_success (with_reducible show bodyPost _ _ _ _ _ _)); first | ((with_reducible refine Hp.abs_alloc H ?_); intro b' w' H' hb'; (try simp only [hb']); clear hb'; ((try simp only [List.set_cons_zero, List.set_cons_succ, List.setIfInBounds_toArray] at H'); clear C H; have H := H'; clear H'; have C := Hp.facts H; simp only [Facts, factsL, and_true, true_and, List.set_cons_zero, List.set_cons_succ, List.setIfInBounds_toArray] at C)) | ((with_reducible show wpList _ _ _ _ _ (World.setCell _ _ _)); (with_reducible apply Hp.abs_gen H); (first | ((repeat (with_reducible apply Hp.set' 0)); (with_reducible exact H); (repeat rfl); intro w' H') | ((repeat (with_reducible apply Hp.set' 1)); (with_reducible exact H); (repeat rfl); intro w' H') | ((repeat (with_reducible apply Hp.set' 2)); (with_reducible exact H); (repeat rfl); intro w' H') | ((repeat (with_reducible apply Hp.set' 3)); (with_reducible exact H); (repeat rfl); intro w' H') | ((repeat (with_reducible apply Hp.set' 4)); (with_reducible exact H); (repeat rfl); intro w' H') | ((repeat (with_reducible apply Hp.set' 5)); (with_reducible exact H); (repeat rfl); intro w' H') | ((repeat (with_reducible apply Hp.set' 6)); (with_reducible exact H); (repeat rfl); intro w' H') | ((repeat (with_reducible apply Hp.set' 7)); (with_reducible exact H); (repeat rfl); intro w' H') | ((repeat (with_reducible apply Hp.set' 8)); (with_reducible exact H); (repeat rfl); intro w' H') | ((repeat (with_reducible apply Hp.set' 9)); (with_reducible exact H); (repeat rfl); intro w' H') | ((repeat (with_reducible apply Hp.set' 10)); (with_reducible exact H); (repeat rfl); intro w' H') | ((repeat (with_reducible apply Hp.set' 11)); (with_reducible exact H); (repeat rfl); intro w' H') | ((repeat (with_reducible apply Hp.set' 12)); (with_reducible exact H); (repeat rfl); intro w' H') | ((repeat (with_reducible apply Hp.set' 13)); (with_reducible exact H); (repeat rfl); intro w' H')); ((try simp only [List.set_cons_zero, List.set_cons_succ, List.setIfInBounds_toArray] at H'); clear C H; have H := H'; clear H'; have C := Hp.facts H; simp only [Facts, factsL, and_true, true_and, List.set_cons_zero, List.set_cons_succ, List.setIfInBounds_toArray] at C)) | go_values | go_skip | go_guarded | go_step | go_upon | go_back | (simp only [Int.not_lt, Int.not_le] at *; go_simp) | (go_values <;> (try go_simp)) | (go_ite <;> go_prune <;> (try go_simp)) | (split <;> (first | (rename_i hx; exact (hx _ rfl).elim) | go_prune))))
        obtain ⟨wq, rfl⟩ := Hp.nameW H
        have HO := H
        have CO := C
        have gyq := Kp.mk ((gy.out _ _ HO (fun x hx => by simp [hx])).weak (Q := (· < wq.heap.size)) fun b _ hl => hl)
        have gzq := Kp.mk (gz.out.step HO.low)
        clear H C
        have H := Hp.start wq
        have C := Hp.facts H
        simp only [Facts, factsL, and_true, true_and, List.set_cons_zero, List.set_cons_succ, List.setIfInBounds_toArray] at C
        have hOf := fun w1 (h : Below wq.heap.size wq w1) => of7_any my u _ w1 wq.heap.size h.size (gyq.out.step h) hcu
        have hSm := fun w1 (h : Below wq.heap.size wq w1) (m2 : Nat) (cs2 : List Value) (h2 : ItN w1 m2 u cs2) => rtsame_any m2 u cs2 mz u _ w1 h2 ((gzq.out.step h).any) hcu hcu
        simp only [Tree.same_self] at hSm
        try simp (disch := omega) only [decide_eq_true, decide_eq_false]
        obtain ⟨wR7s, rfl⟩ := Hp.nameW H
        apply region_n (frm wR7s.heap.size (fun _ => Hp _ _)) (frm_ok ?hfs_1) frm_sz [] [.light 0 0, .light 0 0, .light 0 0, .light 0 0, .light 0 0, .light 0 0, .light 0 0, .light 0 0, .light 0 0, .light 0 0, .light 0 0, .light 0 0, .light 0 0, .light 0 0, .light 0 0, .light 0 0, .light 0 0, .light 0 0, .light 0 0] [false, false, false, false, false, false, false, false, false, false, false, false, false, false, false, false, false, false, false] 19 113 [] [some 43, some 44, some 45, some 46, some 47, some 48, some 49, some 50, some 51, some 52, some 53, some 54, some 55, some 56, some 57, some 58, some 59, some 60, some 61] [[], [0], [], [1, 2], [3], [4], [4, 5], [4, 6], [7], [7, 8], [4, 7, 9], [4, 10], [11], [12], [12, 13], [12], [12, 14, 15], [12, 16], [12, 17]] [Eq1 _, Eq1 _, Eq1 _, Eq1 (.bool false), Eq1 _, Eq1 _, Eq1 (.bool false), Eq1 _, Eq1 _, Eq1 _, Eq1 _, Eq1 _, Eq1 _, Eq1 _, (TreeV wR7s.heap.size wR7s.heap.size wR7s my u), Eq1 _, Eq1 (.bool true), Eq1 (.bool false), Eq1 _] ?hq1_1 ?hq2_1 ?hq3_1 ?hq4_1 ?hq5_1 ?hq6_1 _ ?hA_1 ?hst_1 ?h0_1 ?hsteps_1 ?hend_1
        case hq1_1 => kernel_rfl
        case hq2_1 => kernel_rfl
        case hq3_1 => kernel_rfl
        case hq5_1 => kernel_rfl
        case hq4_1 => rfl
        case hq6_1 => rfl
        case hA_1 => intro vs; simp only [fillD, Nat.reduceAdd, Act.put, List.setIfInBounds_toArray, List.set_cons_zero, List.set_cons_succ]; rfl
        case h0_1 => exact H.drew
        case hfs_1 => exact fun _ _ _ hb h => Hp.step h hb
        case hsteps_1 =>
          refine ⟨?_, ?_, ?_, ?_, ?_, ?_, ?_, ?_, ?_, ?_, ?_, ?_, ?_, ?_, ?_, ?_, ?_, ?_, ?_, trivial⟩
          · intro p vs w' K hJ hp1 hp2 hS hR hK
            rw [if_pos (by rfl)]
            go_step
            exact hK.out _ _ (Below.refl _ _) Eq1.mk Fresh.no
          · intro p vs w' K hJ hp1 hp2 hS hR hK
            simp only [DepJ, List.getD_cons_zero, List.getD_cons_succ] at hJ
            obtain ⟨j0, -⟩ := hJ
            have j0 := Eq1.out j0
            simp only [j0] at hK ⊢
            rw [if_pos (by rfl)]
            go_step
            exact hK.out _ _ (Below.refl _ _) Eq1.mk Fresh.no
          · intro p vs w' K hJ hp1 hp2 hS hR hK
            rw [if_pos (by rfl)]
            go_step
            exact hK.out _ _ (Below.refl _ _) Eq1.mk Fresh.no
          · intro p vs w' K hJ hp1 hp2 hS hR hK
            simp only [DepJ, List.getD_cons_zero, List.getD_cons_succ] at hJ
            obtain ⟨j1, j2, -⟩ := hJ
            have j1 := Eq1.out j1
            have j2 := Eq1.out j2
            simp only [j1, j2] at hK ⊢
            rw [if_pos (by rfl)]
            go_step
            exact hK.out _ _ (Below.refl _ _) (Eq1.of (by first | rfl | (simp; done) | (simp; omega))) Fresh.no
          · intro p vs w' K hJ hp1 hp2 hS hR hK
            simp only [DepJ, List.getD_cons_zero, List.getD_cons_succ] at hJ
            obtain ⟨j3, -⟩ := hJ
            have j3 := Eq1.out j3
            simp only [j3] at hK ⊢
            rw [if_pos (by rfl)]
            go_step
            exact hK.out _ _ (Below.refl _ _) Eq1.mk Fresh.no
          · intro p vs w' K hJ hp1 hp2 hS hR hK
            simp only [DepJ, List.getD_cons_zero, List.getD_cons_succ] at hJ
            obtain ⟨j4, -⟩ := hJ
            have j4 := Eq1.out j4
            simp only [j4] at hK ⊢
            rw [if_pos (by rfl)]
            go_step
            exact hK.out _ _ (Below.refl _ _) Eq1.mk Fresh.no
          · intro p vs w' K hJ hp1 hp2 hS hR hK
            simp only [DepJ, List.getD_cons_zero, List.getD_cons_succ] at hJ
            obtain ⟨j4, j5, -⟩ := hJ
            have j4 := Eq1.out j4
            have j5 := Eq1.out j5
            simp only [j4, j5] at hK ⊢
            rw [if_pos (by rfl)]
            go_step
            exact hK.out _ _ (Below.refl _ _) (Eq1.of (by first | rfl | (simp; done) | (simp; omega))) Fresh.no
          · intro p vs w' K hJ hp1 hp2 hS hR hK
            simp only [DepJ, List.getD_cons_zero, List.getD_cons_succ] at hJ
            obtain ⟨j4, j6, -⟩ := hJ
            have j4 := Eq1.out j4
            have j6 := Eq1.out j6
            simp only [j4, j6] at hK ⊢
            rw [if_pos (by rfl)]
            go_step
            exact hK.out _ _ (Below.refl _ _) Eq1.mk Fresh.no
          · intro p vs w' K hJ hp1 hp2 hS hR hK
            simp only [DepJ, List.getD_cons_zero, List.getD_cons_succ] at hJ
            obtain ⟨j7, -⟩ := hJ
            have j7 := Eq1.out j7
            simp only [j7] at hK ⊢
            rw [if_neg (by simp [Region.wanted, yielded, undef])]
            exact hK.out _ _ (Below.refl _ _) Eq1.mk Fresh.no
          · intro p vs w' K hJ hp1 hp2 hS hR hK
            simp only [DepJ, List.getD_cons_zero, List.getD_cons_succ] at hJ
            obtain ⟨j7, j8, -⟩ := hJ
            have j7 := Eq1.out j7
            have j8 := Eq1.out j8
            simp only [j7, j8] at hK ⊢
            rw [if_neg (by simp [Region.wanted, yielded, undef])]
            exact hK.out _ _ (Below.refl _ _) Eq1.mk Fresh.no
          · intro p vs w' K hJ hp1 hp2 hS hR hK
            simp only [DepJ, List.getD_cons_zero, List.getD_cons_succ] at hJ
            obtain ⟨j4, j7, j9, -⟩ := hJ
            have j4 := Eq1.out j4
            have j7 := Eq1.out j7
            have j9 := Eq1.out j9
            simp only [j4, j7, j9] at hK ⊢
            rw [if_pos (by rfl)]
            go_step
            exact hK.out _ _ (Below.refl _ _) Eq1.mk Fresh.no
          · intro p vs w' K hJ hp1 hp2 hS hR hK
            simp only [DepJ, List.getD_cons_zero, List.getD_cons_succ] at hJ
            obtain ⟨j4, j10, -⟩ := hJ
            have j4 := Eq1.out j4
            have j10 := Eq1.out j10
            simp only [j4, j10] at hK ⊢
            rw [if_pos (by rfl)]
            go_step
            exact hK.out _ _ (Below.refl _ _) Eq1.mk Fresh.no
          · intro p vs w' K hJ hp1 hp2 hS hR hK
            simp only [DepJ, List.getD_cons_zero, List.getD_cons_succ] at hJ
            obtain ⟨j11, -⟩ := hJ
            have j11 := Eq1.out j11
            simp only [j11] at hK ⊢
            rw [if_pos (by rfl)]
            go_step
            exact hK.out _ _ (Below.refl _ _) Eq1.mk Fresh.no
          · intro p vs w' K hJ hp1 hp2 hS hR hK
            simp only [DepJ, List.getD_cons_zero, List.getD_cons_succ] at hJ
            obtain ⟨j12, -⟩ := hJ
            have j12 := Eq1.out j12
            simp only [j12] at hK ⊢
            rw [if_pos (by rfl)]
            have C := Hp.facts hS
            simp only [Facts, factsL, and_true, true_and, List.set_cons_zero, List.set_cons_succ, List.setIfInBounds_toArray] at C
            have hsz := hR.1
            go_step
            exact hK.out _ _ (Below.refl _ _) Eq1.mk Fresh.no
          · intro p vs w' K hJ hp1 hp2 hS hR hK
            simp only [DepJ, List.getD_cons_zero, List.getD_cons_succ] at hJ
            obtain ⟨j12, j13, -⟩ := hJ
            have j12 := Eq1.out j12
            have j13 := Eq1.out j13
            simp only [j12, j13] at hK ⊢
            rw [if_pos (by rfl)]
            replace hS : Hp _ _ _ := hS
            have C := Hp.facts hS
            simp only [Facts, factsL, and_true, true_and, List.set_cons_zero, List.set_cons_succ, List.setIfInBounds_toArray] at C
            have hsz := hR.1
            go_step
            refine (hOf _ hS.low).mono ?_
            rintro e' w'' ⟨⟨cs2, rfl, ht2⟩, hb2⟩
            exact hK.out _ _ hb2 (TreeV.mk hS (Nat.le_refl _) hR.1 hb2 ht2) Fresh.no
          · intro p vs w' K hJ hp1 hp2 hS hR hK
            simp only [DepJ, List.getD_cons_zero, List.getD_cons_succ] at hJ
            obtain ⟨j12, -⟩ := hJ
            have j12 := Eq1.out j12
            simp only [j12] at hK ⊢
            rw [if_pos (by rfl)]
            have C := Hp.facts hS
            simp only [Facts, factsL, and_true, true_and, List.set_cons_zero, List.set_cons_succ, List.setIfInBounds_toArray] at C
            have hsz := hR.1
            go_step
            exact hK.out _ _ (Below.refl _ _) Eq1.mk Fresh.no
          · intro p vs w' K hJ hp1 hp2 hS hR hK
            simp only [DepJ, List.getD_cons_zero, List.getD_cons_succ] at hJ
            obtain ⟨j12, j14, j15, -⟩ := hJ
            have j12 := Eq1.out j12
            obtain ⟨x0, x1, x2, x3, x4, j14, t14⟩ := j14
            have j15 := Eq1.out j15
            simp only [j12, j14, j15] at hK ⊢
            rw [if_pos (by rfl)]
            replace hS : Hp _ _ _ := hS
            have C := Hp.facts hS
            simp only [Facts, factsL, and_true, true_and, List.set_cons_zero, List.set_cons_succ, List.setIfInBounds_toArray] at C
            have hsz := hR.1
            go_step
            refine (hSm _ hS.low _ _ (t14.out hS (Nat.le_refl _)).any).mono ?_
            rintro e' w'' ⟨rfl, hb2⟩
            exact hK.out _ _ hb2 Eq1.mk Fresh.no
          · intro p vs w' K hJ hp1 hp2 hS hR hK
            simp only [DepJ, List.getD_cons_zero, List.getD_cons_succ] at hJ
            obtain ⟨j12, j16, -⟩ := hJ
            have j12 := Eq1.out j12
            have j16 := Eq1.out j16
            simp only [j12, j16] at hK ⊢
            rw [if_pos (by rfl)]
            go_step
            exact hK.out _ _ (Below.refl _ _) (Eq1.of (by first | rfl | (simp; done) | (simp; omega))) Fresh.no
          · intro p vs w' K hJ hp1 hp2 hS hR hK
            simp only [DepJ, List.getD_cons_zero, List.getD_cons_succ] at hJ
            obtain ⟨j12, j17, -⟩ := hJ
            have j12 := Eq1.out j12
            have j17 := Eq1.out j17
            simp only [j12, j17] at hK ⊢
            rw [if_pos (by rfl)]
            go_step
            exact hK.out _ _ (Below.refl _ _) Eq1.mk Fresh.no
        case hst_1 => refine ⟨fun _ _ _ _ h => h, fun _ _ _ _ h => h, fun _ _ _ _ h => h, fun _ _ _ _ h => h, fun _ _ _ _ h => h, fun _ _ _ _ h => h, fun _ _ _ _ h => h, fun _ _ _ _ h => h, fun _ _ _ _ h => h, fun _ _ _ _ h => h, fun _ _ _ _ h => h, fun _ _ _ _ h => h, fun _ _ _ _ h => h, fun _ _ _ _ h => h, fun _ _ _ hs h => TreeV.stay hs h, fun _ _ _ _ h => h, fun _ _ _ _ h => h, fun _ _ _ _ h => h, fun _ _ _ _ h => h, trivial⟩
        intro vs w' hJ hD hS hR
        simp only [AllJ, Nat.reduceAdd] at hJ
        obtain ⟨v0, v1, v2, v3, v4, v5, v6, v7, v8, v9, v10, v11, v12, v13, v14, v15, v16, v17, v18, -⟩ := hJ
        clear C
        replace v0 := Eq1.out v0
        replace v1 := Eq1.out v1
        replace v2 := Eq1.out v2
        replace v3 := Eq1.out v3
        replace v4 := Eq1.out v4
        replace v5 := Eq1.out v5
        replace v6 := Eq1.out v6
        replace v7 := Eq1.out v7
        replace v8 := Eq1.out v8
        replace v9 := Eq1.out v9
        replace v10 := Eq1.out v10
        replace v11 := Eq1.out v11
        replace v12 := Eq1.out v12
        replace v13 := Eq1.out v13
        replace v15 := Eq1.out v15
        replace v16 := Eq1.out v16
        replace v17 := Eq1.out v17
        replace v18 := Eq1.out v18
        obtain ⟨x0, x1, x2, x3, x4, e14, t14⟩ := v14
        simp only [v0, v1, v2, v3, v4, v5, v6, v7, v8, v9, v10, v11, v12, v13, v15, v16, v17, v18, e14, List.drop_succ_cons, List.drop_zero]
        refine wpList_nil' ?_
        have H' : Hp _ _ _ := hS
        clear hD hR hS v0 v1 v2 v3 v4 v5 v6 v7 v8 v9 v10 v11 v12 v13 v15 v16 v17 v18
        clear t14 e14
        clear vs H
        have H := H'; clear H'; have C := Hp.facts H; simp only [Facts, factsL, and_true, true_and, List.set_cons_zero, List.set_cons_succ, List.setIfInBounds_toArray] at C
        have H' := HO.step H.low
        clear HO CO H C hOf hSm gyq
        have H := H'
        clear H'
        have C := Hp.facts H
        simp only [Facts, factsL, and_true, true_and, List.set_cons_zero, List.set_cons_succ, List.setIfInBounds_toArray] at C
        (repeat' ((fail_if_success (with_reducible show bodyPost _ _ _ _ _ _)); first | ((with_reducible refine Hp.abs_alloc H ?_); intro b' w' H' hb'; (try simp only [hb']); clear hb'; ((try simp only [List.set_cons_zero, List.set_cons_succ, List.setIfInBounds_toArray] at H'); clear C H; have H := H'; clear H'; have C := Hp.facts H; simp only [Facts, factsL, and_true, true_and, List.set_cons_zero, List.set_cons_succ, List.setIfInBounds_toArray] at C)) | ((with_reducible show wpList _ _ _ _ _ (World.setCell _ _ _)); (with_reducible apply Hp.abs_gen H); (first | ((repeat (with_reducible apply Hp.set' 0)); (with_reducible exact H); (repeat rfl); intro w' H') | ((repeat (with_reducible apply Hp.set' 1)); (with_reducible exact H); (repeat rfl); intro w' H') | ((repeat (with_reducible apply Hp.set' 2)); (with_reducible exact H); (repeat rfl); intro w' H') | ((repeat (with_reducible apply Hp.set' 3)); (with_reducible exact H); (repeat rfl); intro w' H') | ((repeat (with_reducible apply Hp.set' 4)); (with_reducible exact H); (repeat rfl); intro w' H') | ((repeat (with_reducible apply Hp.set' 5)); (with_reducible exact H); (repeat rfl); intro w' H') | ((repeat (with_reducible apply Hp.set' 6)); (with_reducible exact H); (repeat rfl); intro w' H') | ((repeat (with_reducible apply Hp.set' 7)); (with_reducible exact H); (repeat rfl); intro w' H') | ((repeat (with_reducible apply Hp.set' 8)); (with_reducible exact H); (repeat rfl); intro w' H') | ((repeat (with_reducible apply Hp.set' 9)); (with_reducible exact H); (repeat rfl); intro w' H') | ((repeat (with_reducible apply Hp.set' 10)); (with_reducible exact H); (repeat rfl); intro w' H') | ((repeat (with_reducible apply Hp.set' 11)); (with_reducible exact H); (repeat rfl); intro w' H') | ((repeat (with_reducible apply Hp.set' 12)); (with_reducible exact H); (repeat rfl); intro w' H') | ((repeat (with_reducible apply Hp.set' 13)); (with_reducible exact H); (repeat rfl); intro w' H')); ((try simp only [List.set_cons_zero, List.set_cons_succ, List.setIfInBounds_toArray] at H'); clear C H; have H := H'; clear H'; have C := Hp.facts H; simp only [Facts, factsL, and_true, true_and, List.set_cons_zero, List.set_cons_succ, List.setIfInBounds_toArray] at C)) | go_values | go_skip | go_guarded | go_step | go_upon | go_back | (simp only [Int.not_lt, Int.not_le] at *; go_simp) | (go_values <;> (try go_simp)) | (go_ite <;> go_prune <;> (try go_simp)) | (split <;> (first | (rename_i hx; exact (hx _ rfl).elim) | go_prune))))
        (obtain ⟨b8, rfl⟩ := Hp.name H 1 rfl)
        have H4 := Hp.thaw (L := _ :: _ :: _ :: _ :: _ :: Ox) (Os := Oy) H gO.out.1 gO.out.2
        rw [u8c_ints] at H4
        obtain ⟨M, hM, hrel0⟩ := FiRel.start (by simp) H4
        clear H4 gy gO
        clear H C
        go_loopw [12] (fun ix wr => FiRel w (.slice yA u.bytes.length yc) u.bytes.length M ix wr) (fun ix _ => u.bytes.length - (intOf ix).toNat)
        case atStart => exact hrel0
        case round =>
          clear hrel0
          obtain ⟨i, zs, hi, rfl, hzl, H⟩ := hrel
          rw [hM] at H
          have C := Hp.facts H
          simp only [Facts, factsL, and_true, true_and, List.set_cons_zero, List.set_cons_succ, List.setIfInBounds_toArray] at C
          by_cases hlt : i < u.bytes.length
          · obtain ⟨g, rfl⟩ := row_base0 (ownsOf H 0 rfl) (by omega)
            have hz : (zs.map (Value.int .u8))[i]? = some (.int .u8 zs[i]) := by rw [List.getElem?_map, List.getElem?_eq_getElem (by omega)]; rfl
            have hgl := (Hp.rowCell H 0 rfl).1
            (repeat' ((fail_if_success (with_reducible show bodyPost _ _ _ _ _ _)); first | ((with_reducible refine Hp.abs_alloc H ?_); intro b' w' H' hb'; (try simp only [hb']); clear hb'; ((try simp only [List.set_cons_zero, List.set_cons_succ, List.setIfInBounds_toArray] at H'); clear C H; have H := H'; clear H'; have C := Hp.facts H; simp only [Facts, factsL, and_true, true_and, List.set_cons_zero, List.set_cons_succ, List.setIfInBounds_toArray] at C)) | ((with_reducible show wpList _ _ _ _ _ (World.setCell _ _ _)); (with_reducible apply Hp.abs_gen H); (first | ((repeat (with_reducible apply Hp.set' 0)); (with_reducible exact H); (repeat rfl); intro w' H') | ((repeat (with_reducible apply Hp.set' 1)); (with_reducible exact H); (repeat rfl); intro w' H') | ((repeat (with_reducible apply Hp.set' 2)); (with_reducible exact H); (repeat rfl); intro w' H') | ((repeat (with_reducible apply Hp.set' 3)); (with_reducible exact H); (repeat rfl); intro w' H') | ((repeat (with_reducible apply Hp.set' 4)); (with_reducible exact H); (repeat rfl); intro w' H') | ((repeat (with_reducible apply Hp.set' 5)); (with_reducible exact H); (repeat rfl); intro w' H') | ((repeat (with_reducible apply Hp.set' 6)); (with_reducible exact H); (repeat rfl); intro w' H') | ((repeat (with_reducible apply Hp.set' 7)); (with_reducible exact H); (repeat rfl); intro w' H') | ((repeat (with_reducible apply Hp.set' 8)); (with_reducible exact H); (repeat rfl); intro w' H') | ((repeat (with_reducible apply Hp.set' 9)); (with_reducible exact H); (repeat rfl); intro w' H') | ((repeat (with_reducible apply Hp.set' 10)); (with_reducible exact H); (repeat rfl); intro w' H') | ((repeat (with_reducible apply Hp.set' 11)); (with_reducible exact H); (repeat rfl); intro w' H') | ((repeat (with_reducible apply Hp.set' 12)); (with_reducible exact H); (repeat rfl); intro w' H') | ((repeat (with_reducible apply Hp.set' 13)); (with_reducible exact H); (repeat rfl); intro w' H')); ((try simp only [List.set_cons_zero, List.set_cons_succ, List.setIfInBounds_toArray] at H'); clear C H; have H := H'; clear H'; have C := Hp.facts H; simp only [Facts, factsL, and_true, true_and, List.set_cons_zero, List.set_cons_succ, List.setIfInBounds_toArray] at C)) | go_values | go_skip | go_guarded | go_step | go_upon | go_back | (simp only [Int.not_lt, Int.not_le] at *; go_simp) | (go_values <;> (try go_simp)) | (go_ite <;> go_prune <;> (try go_simp)) | (split <;> (first | (rename_i hx; exact (hx _ rfl).elim) | go_prune))))
            try simp (disch := omega) only [decide_eq_true, decide_eq_false]
            obtain ⟨wR12s, rfl⟩ := Hp.nameW H
            apply region_n (frm wR12s.heap.size (fun _ => Hp _ _)) (frm_ok ?hfs_2) frm_sz [] [.light 0 0, .light 0 0, .light 0 0, .light 0 0, .light 0 0, .light 0 0, .light 0 0, .light 0 0, .light 0 0] [false, false, false, false, false, false, false, false, false] 9 113 [9, 9, 9, 9, 9, 9, 9, 9, 9] [some 69, some 70, some 71, some 72, some 73, some 74, some 75, some 76, some 77] [[], [0], [], [], [3], [], [4, 5], [6], [7]] [Eq1 _, Eq1 _, Eq1 _, Eq1 _, Eq1 _, Eq1 _, Eq1 _, Eq1 _, Eq1 _] ?hq1_2 ?hq2_2 ?hq3_2 ?hq4_2 ?hq5_2 ?hq6_2 _ ?hA_2 ?hst_2 ?h0_2 ?hsteps_2 ?hend_2
            case hq1_2 => kernel_rfl
            case hq2_2 => kernel_rfl
            case hq3_2 => kernel_rfl
            case hq5_2 => kernel_rfl
            case hq4_2 => rfl
            case hq6_2 => rfl
            case hA_2 => intro vs; simp only [fillD, Nat.reduceAdd, Act.put, List.setIfInBounds_toArray, List.set_cons_zero, List.set_cons_succ]; rfl
            case h0_2 => exact H.drew
            case hfs_2 => exact fun _ _ _ hb h => Hp.step h hb
            case hsteps_2 =>
              refine ⟨?_, ?_, ?_, ?_, ?_, ?_, ?_, ?_, ?_, trivial⟩
              · intro p vs w' K hJ hp1 hp2 hS hR hK
                rw [if_pos (by rfl)]
                go_step
                exact hK.out _ _ (Below.refl _ _) Eq1.mk Fresh.no
              · intro p vs w' K hJ hp1 hp2 hS hR hK
                simp only [DepJ, List.getD_cons_zero, List.getD_cons_succ] at hJ
                obtain ⟨j0, -⟩ := hJ
                have j0 := Eq1.out j0
                simp only [j0] at hK ⊢
                rw [if_pos (by rfl)]
                have C := Hp.facts hS
                simp only [Facts, factsL, and_true, true_and, List.set_cons_zero, List.set_cons_succ, List.setIfInBounds_toArray] at C
                have hsz := hR.1
                go_step
                exact hK.out _ _ (Below.refl _ _) Eq1.mk Fresh.no
              · intro p vs w' K hJ hp1 hp2 hS hR hK
                rw [if_pos (by rfl)]
                go_step
                exact hK.out _ _ (Below.refl _ _) Eq1.mk Fresh.no
              · intro p vs w' K hJ hp1 hp2 hS hR hK
                rw [if_pos (by rfl)]
                go_step
                exact hK.out _ _ (Below.refl _ _) Eq1.mk Fresh.no
              · intro p vs w' K hJ hp1 hp2 hS hR hK
                simp only [DepJ, List.getD_cons_zero, List.getD_cons_succ] at hJ
                obtain ⟨j3, -⟩ := hJ
                have j3 := Eq1.out j3
                simp only [j3] at hK ⊢
                rw [if_pos (by rfl)]
                have C := Hp.facts hS
                simp only [Facts, factsL, and_true, true_and, List.set_cons_zero, List.set_cons_succ, List.setIfInBounds_toArray] at C
                have hsz := hR.1
                go_step
                exact hK.out _ _ (Below.refl _ _) Eq1.mk Fresh.no
              · intro p vs w' K hJ hp1 hp2 hS hR hK
                rw [if_pos (by rfl)]
                go_step
                exact hK.out _ _ (Below.refl _ _) Eq1.mk Fresh.no
              · intro p vs w' K hJ hp1 hp2 hS hR hK
                simp only [DepJ, List.getD_cons_zero, List.getD_cons_succ] at hJ
                obtain ⟨j4, j5, -⟩ := hJ
                have j4 := Eq1.out j4
                have j5 := Eq1.out j5
                simp only [j4, j5] at hK ⊢
                rw [if_pos (by rfl)]
                go_step
                exact hK.out _ _ (Below.refl _ _) Eq1.mk Fresh.no
              · intro p vs w' K hJ hp1 hp2 hS hR hK
                simp only [DepJ, List.getD_cons_zero, List.getD_cons_succ] at hJ
                obtain ⟨j6, -⟩ := hJ
                have j6 := Eq1.out j6
                simp only [j6] at hK ⊢
                rw [if_pos (by rfl)]
                have C := Hp.facts hS
                simp only [Facts, factsL, and_true, true_and, List.set_cons_zero, List.set_cons_succ, List.setIfInBounds_toArray] at C
                have hsz := hR.1
                have hq := (Hp.rowCell (show Hp _ _ _ from hS) 0 rfl).2.2.2 i _ hz
                go_step
                exact hK.out _ _ (Below.refl _ _) Eq1.mk Fresh.no
              · intro p vs w' K hJ hp1 hp2 hS hR hK
                simp only [DepJ, List.getD_cons_zero, List.getD_cons_succ] at hJ
                obtain ⟨j7, -⟩ := hJ
                have j7 := Eq1.out j7
                simp only [j7] at hK ⊢
                rw [if_pos (by rfl)]
                go_step
                exact hK.out _ _ (Below.refl _ _) Eq1.mk Fresh.no
            case hst_2 => refine ⟨fun _ _ _ _ h => h, fun _ _ _ _ h => h, fun _ _ _ _ h => h, fun _ _ _ _ h => h, fun _ _ _ _ h => h, fun _ _ _ _ h => h, fun _ _ _ _ h => h, fun _ _ _ _ h => h, fun _ _ _ _ h => h, trivial⟩
            intro vs w' hJ hD hS hR
            simp only [AllJ, Nat.reduceAdd] at hJ
            obtain ⟨v0, v1, v2, v3, v4, v5, v6, v7, v8, -⟩ := hJ
            clear C
            replace v0 := Eq1.out v0
            replace v1 := Eq1.out v1
            replace v2 := Eq1.out v2
            replace v3 := Eq1.out v3
            replace v4 := Eq1.out v4
            replace v5 := Eq1.out v5
            replace v6 := Eq1.out v6
            replace v7 := Eq1.out v7
            replace v8 := Eq1.out v8
            simp only [v0, v1, v2, v3, v4, v5, v6, v7, v8, List.drop_succ_cons, List.drop_zero]
            have H' : Hp _ _ _ := hS
            clear hD hR hS v0 v1 v2 v3 v4 v5 v6 v7 v8
            clear vs H
            have H := H'; clear H'; have C := Hp.facts H; simp only [Facts, factsL, and_true, true_and, List.set_cons_zero, List.set_cons_succ, List.setIfInBounds_toArray] at C
            have hfr := (Hp.rowCell H 0 rfl).2.2.1
            have hq := (Hp.rowCell H 0 rfl).2.2.2 i _ hz
            (repeat' ((fail_if_success (with_reducible show bodyPost _ _ _ _ _ _)); first | ((with_reducible refine Hp.abs_alloc H ?_); intro b' w' H' hb'; (try simp only [hb']); clear hb'; ((try simp only [List.set_cons_zero, List.set_cons_succ, List.setIfInBounds_toArray] at H'); clear C H; have H := H'; clear H'; have C := Hp.facts H; simp only [Facts, factsL, and_true, true_and, List.set_cons_zero, List.set_cons_succ, List.setIfInBounds_toArray] at C)) | ((with_reducible show wpList _ _ _ _ _ (World.setCell _ _ _)); (with_reducible apply Hp.abs_gen H); (first | ((repeat (with_reducible apply Hp.set' 0)); (with_reducible exact H); (repeat rfl); intro w' H') | ((repeat (with_reducible apply Hp.set' 1)); (with_reducible exact H); (repeat rfl); intro w' H') | ((repeat (with_reducible apply Hp.set' 2)); (with_reducible exact H); (repeat rfl); intro w' H') | ((repeat (with_reducible apply Hp.set' 3)); (with_reducible exact H); (repeat rfl); intro w' H') | ((repeat (with_reducible apply Hp.set' 4)); (with_reducible exact H); (repeat rfl); intro w' H') | ((repeat (with_reducible apply Hp.set' 5)); (with_reducible exact H); (repeat rfl); intro w' H') | ((repeat (with_reducible apply Hp.set' 6)); (with_reducible exact H); (repeat rfl); intro w' H') | ((repeat (with_reducible apply Hp.set' 7)); (with_reducible exact H); (repeat rfl); intro w' H') | ((repeat (with_reducible apply Hp.set' 8)); (with_reducible exact H); (repeat rfl); intro w' H') | ((repeat (with_reducible apply Hp.set' 9)); (with_reducible exact H); (repeat rfl); intro w' H') | ((repeat (with_reducible apply Hp.set' 10)); (with_reducible exact H); (repeat rfl); intro w' H') | ((repeat (with_reducible apply Hp.set' 11)); (with_reducible exact H); (repeat rfl); intro w' H') | ((repeat (with_reducible apply Hp.set' 12)); (with_reducible exact H); (repeat rfl); intro w' H') | ((repeat (with_reducible apply Hp.set' 13)); (with_reducible exact H); (repeat rfl); intro w' H')); ((try simp only [List.set_cons_zero, List.set_cons_succ, List.setIfInBounds_toArray] at H'); clear C H; have H := H'; clear H'; have C := Hp.facts H; simp only [Facts, factsL, and_true, true_and, List.set_cons_zero, List.set_cons_succ, List.setIfInBounds_toArray] at C)) | ((with_reducible show wpList _ _ _ _ _ (World.setCell _ _ _)); with_reducible refine Hp.abs_gen H (Hp.rowSet H 0 rfl _ _) ?_; intro w' H'; ((try simp only [List.set_cons_zero, List.set_cons_succ, List.setIfInBounds_toArray] at H'); clear C H; have H := H'; clear H'; have C := Hp.facts H; simp only [Facts, factsL, and_true, true_and, List.set_cons_zero, List.set_cons_succ, List.setIfInBounds_toArray] at C)) | go_values | go_skip | go_guarded | go_step | go_upon | go_back | (simp only [Int.not_lt, Int.not_le] at *; go_simp) | (go_values <;> (try go_simp)) | (go_ite <;> go_prune <;> (try go_simp)) | (split <;> (first | (rename_i hx; exact (hx _ rfl).elim) | go_prune))))
            rw [← List.map_set, ← hM] at H
            exact ⟨FiRel.mk (i + 1) _ (by omega) (by go_num) (by rw [List.length_set]; exact hzl) H, by simp [intOf]; omega⟩
          · obtain rfl : i = u.bytes.length := by omega
            have hik := hM
            clear hM
            (repeat' ((fail_if_success (with_reducible show bodyPost _ _ _ _ _ _)); first | ((with_reducible refine Hp.abs_alloc H ?_); intro b' w' H' hb'; (try simp only [hb']); clear hb'; ((try simp only [List.set_cons_zero, List.set_cons_succ, List.setIfInBounds_toArray] at H'); clear C H; have H := H'; clear H'; have C := Hp.facts H; simp only [Facts, factsL, and_true, true_and, List.set_cons_zero, List.set_cons_succ, List.setIfInBounds_toArray] at C)) | ((with_reducible show wpList _ _ _ _ _ (World.setCell _ _ _)); (with_reducible apply Hp.abs_gen H); (first | ((repeat (with_reducible apply Hp.set' 0)); (with_reducible exact H); (repeat rfl); intro w' H') | ((repeat (with_reducible apply Hp.set' 1)); (with_reducible exact H); (repeat rfl); intro w' H') | ((repeat (with_reducible apply Hp.set' 2)); (with_reducible exact H); (repeat rfl); intro w' H') | ((repeat (with_reducible apply Hp.set' 3)); (with_reducible exact H); (repeat rfl); intro w' H') | ((repeat (with_reducible apply Hp.set' 4)); (with_reducible exact H); (repeat rfl); intro w' H') | ((repeat (with_reducible apply Hp.set' 5)); (with_reducible exact H); (repeat rfl); intro w' H') | ((repeat (with_reducible apply Hp.set' 6)); (with_reducible exact H); (repeat rfl); intro w' H') | ((repeat (with_reducible apply Hp.set' 7)); (with_reducible exact H); (repeat rfl); intro w' H') | ((repeat (with_reducible apply Hp.set' 8)); (with_reducible exact H); (repeat rfl); intro w' H') | ((repeat (with_reducible apply Hp.set' 9)); (with_reducible exact H); (repeat rfl); intro w' H') | ((repeat (with_reducible apply Hp.set' 10)); (with_reducible exact H); (repeat rfl); intro w' H') | ((repeat (with_reducible apply Hp.set' 11)); (with_reducible exact H); (repeat rfl); intro w' H') | ((repeat (with_reducible apply Hp.set' 12)); (with_reducible exact H); (repeat rfl); intro w' H') | ((repeat (with_reducible apply Hp.set' 13)); (with_reducible exact H); (repeat rfl); intro w' H')); ((try simp only [List.set_cons_zero, List.set_cons_succ, List.setIfInBounds_toArray] at H'); clear C H; have H := H'; clear H'; have C := Hp.facts H; simp only [Facts, factsL, and_true, true_and, List.set_cons_zero, List.set_cons_succ, List.setIfInBounds_toArray] at C)) | go_values | go_skip | go_guarded | go_step | go_upon | go_back | (simp only [Int.not_lt, Int.not_le] at *; go_simp) | (go_values <;> (try go_simp)) | (go_ite <;> go_prune <;> (try go_simp)) | (split <;> (first | (rename_i hx; exact (hx _ rfl).elim) | go_prune))))
            refine (find_any na ta _ ps _ _ ((gx.out _ _ H (fun x hx => by simp [hx])).any) (by omega) (by omega) (hZ.out.step H.low) (by omega)).mono ?_
            rintro e' wY ⟨h1, -, hb⟩
            obtain ⟨my, cy, rfl, hty, -⟩ := h1 u hf.out
            clear h1
            obtain ⟨Oy, H2, gy⟩ := H.keepTree (Nat.zero_le _) hb hty
            obtain ⟨d0, d1, d2, d3, d4, rfl⟩ := five_of hty.len
            obtain ⟨g0, g1, g2, gA, gB, gk, gc, gm, gd, rfl, rfl, rfl, rfl, rfl⟩ := hty.forms
            replace gy := Kp.mk gy
            clear H C hty hb
            have H := H2
            clear H2
            simp only [List.cons_append, List.nil_append, List.append_assoc] at H
            have C := Hp.facts H
            simp only [Facts, factsL, and_true, true_and, List.set_cons_zero, List.set_cons_succ, List.setIfInBounds_toArray] at C
            (repeat' ((fail_if_success (with_reducible show bodyPost _ _ _ _ _ _)); first | ((with_reducible refine Hp.abs_alloc H ?_); intro b' w' H' hb'; (try simp only [hb']); clear hb'; ((try simp only [List.set_cons_zero, List.set_cons_succ, List.setIfInBounds_toArray] at H'); clear C H; have H := H'; clear H'; have C := Hp.facts H; simp only [Facts, factsL, and_true, true_and, List.set_cons_zero, List.set_cons_succ, List.setIfInBounds_toArray] at C)) | ((with_reducible show wpList _ _ _ _ _ (World.setCell _ _ _)); (with_reducible apply Hp.abs_gen H); (first | ((repeat (with_reducible apply Hp.set' 0)); (with_reducible exact H); (repeat rfl); intro w' H') | ((repeat (with_reducible apply Hp.set' 1)); (with_reducible exact H); (repeat rfl); intro w' H') | ((repeat (with_reducible apply Hp.set' 2)); (with_reducible exact H); (repeat rfl); intro w' H') | ((repeat (with_reducible apply Hp.set' 3)); (with_reducible exact H); (repeat rfl); intro w' H') | ((repeat (with_reducible apply Hp.set' 4)); (with_reducible exact H); (repeat rfl); intro w' H') | ((repeat (with_reducible apply Hp.set' 5)); (with_reducible exact H); (repeat rfl); intro w' H') | ((repeat (with_reducible apply Hp.set' 6)); (with_reducible exact H); (repeat rfl); intro w' H') | ((repeat (with_reducible apply Hp.set' 7)); (with_reducible exact H); (repeat rfl); intro w' H') | ((repeat (with_reducible apply Hp.set' 8)); (with_reducible exact H); (repeat rfl); intro w' H') | ((repeat (with_reducible apply Hp.set' 9)); (with_reducible exact H); (repeat rfl); intro w' H') | ((repeat (with_reducible apply Hp.set' 10)); (with_reducible exact H); (repeat rfl); intro w' H') | ((repeat (with_reducible apply Hp.set' 11)); (with_reducible exact H); (repeat rfl); intro w' H') | ((repeat (with_reducible apply Hp.set' 12)); (with_reducible exact H); (repeat rfl); intro w' H') | ((repeat (with_reducible apply Hp.set' 13)); (with_reducible exact H); (repeat rfl); intro w' H')); ((try simp only [List.set_cons_zero, List.set_cons_succ, List.setIfInBounds_toArray] at H'); clear C H; have H := H'; clear H'; have C := Hp.facts H; simp only [Facts, factsL, and_true, true_and, List.set_cons_zero, List.set_cons_succ, List.setIfInBounds_toArray] at C)) | go_values | go_skip | go_guarded | go_step | go_upon | go_back | (simp only [Int.not_lt, Int.not_le] at *; go_simp) | (go_values <;> (try go_simp)) | (go_ite <;> go_prune <;> (try go_simp)) | (split <;> (first | (rename_i hx; exact (hx _ rfl).elim) | go_prune))))
            obtain ⟨wq, rfl⟩ := Hp.nameW H
            have HO := H
            have CO := C
            have gyq := Kp.mk ((gy.out _ _ HO (fun x hx => by simp [hx])).weak (Q := (· < wq.heap.size)) fun b _ hl => hl)
            have gzq := Kp.mk (gz.out.step HO.low)
            have gxq := Kp.mk ((gx.out _ _ HO (fun x hx => by simp [hx])).any)
            have gaq := Kp.mk ((gta.out.step HO.low).weak (Q := (· < wq.heap.size)) fun b _ hl => hl)
            have gbq := Kp.mk ((gtb.out.step HO.low).weak (Q := (· < wq.heap.size)) fun b _ hl => hl)
            have hOf := fun w1 (h : Below wq.heap.size wq w1) => of7_any my u _ w1 wq.heap.size h.size (gyq.out.step h) hcu
            have hSm := fun w1 (h : Below wq.heap.size wq w1) (m2 : Nat) (cs2 : List Value) (h2 : ItN w1 m2 u cs2) => rtsame_any m2 u cs2 mz u _ w1 h2 ((gzq.out.step h).any) hcu hcu
            have hTb := fun w1 (h : Below wq.heap.size wq w1) => to7_any nb tb _ w1 wq.heap.size h.size (gbq.out.step h) (by omega)
            have hTa := fun w1 (h : Below wq.heap.size wq w1) => to7_any na ta _ w1 wq.heap.size h.size (gaq.out.step h) (by omega)
            have hSb := fun w1 (h : Below wq.heap.size wq w1) (m2 : Nat) (cs2 : List Value) (h2 : ItN w1 m2 tb cs2) => same7_any na ta _ m2 tb cs2 w1 (gxq.out.step h) h2 (by omega) (by omega)
            have hSa := fun w1 (h : Below wq.heap.size wq w1) (m2 : Nat) (cs2 : List Value) (h2 : ItN w1 m2 ta cs2) => same7_any na ta _ m2 ta cs2 w1 (gxq.out.step h) h2 (by omega) (by omega)
            have hSr := fun w1 (h : Below wq.heap.size wq w1) => rtsame_any na ta _ nb tb _ w1 ((gaq.out.step h).any) ((gbq.out.step h).any) (by omega) (by omega)
            simp only [Tree.same_self] at hSm hSa
            generalize ta.same tb = sv at hSb hSr
            clear H C
            have H := Hp.start wq
            have C := Hp.facts H
            simp only [Facts, factsL, and_true, true_and, List.set_cons_zero, List.set_cons_succ, List.setIfInBounds_toArray] at C
            try simp (disch := omega) only [decide_eq_true, decide_eq_false]
            obtain ⟨wR14s, rfl⟩ := Hp.nameW H
            apply region_n (frm wR14s.heap.size (fun _ => Hp _ _)) (frm_ok ?hfs_3) frm_sz [] [.light 0 0, .light 0 0, .light 0 0, .light 0 0, .light 0 0, .light 0 0, .light 0 0, .light 0 0, .light 0 0, .light 0 0, .light 0 0, .light 0 0, .light 0 0, .light 0 0, .light 0 0, .light 0 0, .light 0 0, .light 0 0, .light 0 0, .light 0 0, .light 0 0, .light 0 0, .light 0 0, .light 0 0, .light 0 0, .light 0 0, .light 0 0, .light 0 0, .light 0 0] [false, false, false, false, false, false, false, false, false, false, false, false, false, false, false, false, false, false, false, false, false, false, false, false, false, false, false, false, false] 29 113 [] [some 85, some 86, some 87, some 88, some 89, some 90, some 91, some 92, some 93, some 94, some 95, some 96, some 97, some 98, some 99, some 100, some 101, some 102, some 103, some 104, some 105, some 106, some 107, some 108, some 109, some 110, some 111, some 112, some 6] [[], [0], [1], [1], [1, 2, 3], [1, 4], [5], [6], [6, 7], [6], [6, 8, 9], [6, 10], [11], [12], [12], [12, 14], [12, 13, 15], [12], [12], [12, 17, 18], [12, 16, 19], [12, 20], [21], [22], [22], [22, 24], [22, 23, 25], [22, 26], [27]] [Eq1 (.bool true), Eq1 _, Eq1 _, Eq1 _, Eq1 (.bool true), Eq1 _, Eq1 _, Eq1 _, (TreeV wR14s.heap.size wR14s.heap.size wR14s my u), Eq1 _, Eq1 (.bool true), Eq1 _, Eq1 _, Eq1 _, Eq1 _, (TreeV wR14s.heap.size wR14s.heap.size wR14s nb tb), Eq1 (.bool sv), Eq1 _, Eq1 _, Eq1 (.bool sv), Eq1 (.bool true), Eq1 _, Eq1 _, Eq1 _, Eq1 _, (TreeV wR14s.heap.size wR14s.heap.size wR14s na ta), Eq1 (.bool true), Eq1 _, Eq1 _] ?hq1_3 ?hq2_3 ?hq3_3 ?hq4_3 ?hq5_3 ?hq6_3 _ ?hA_3 ?hst_3 ?h0_3 ?hsteps_3 ?hend_3
            case hq1_3 => kernel_rfl
            case hq2_3 => kernel_rfl
            case hq3_3 => kernel_rfl
            case hq5_3 => kernel_rfl
            case hq4_3 => rfl
            case hq6_3 => rfl
            case hA_3 => intro vs; simp only [fillD, Nat.reduceAdd, Act.put, List.setIfInBounds_toArray, List.set_cons_zero, List.set_cons_succ]; rfl
            case h0_3 => exact H.drew
            case hfs_3 => exact fun _ _ _ hb h => Hp.step h hb
            case hsteps_3 =>
              refine ⟨?_, ?_, ?_, ?_, ?_, ?_, ?_, ?_, ?_, ?_, ?_, ?_, ?_, ?_, ?_, ?_, ?_, ?_, ?_, ?_, ?_, ?_, ?_, ?_, ?_, ?_, ?_, ?_, ?_, trivial⟩
              · intro p vs w' K hJ hp1 hp2 hS hR hK
                rw [if_pos (by rfl)]
                have C := Hp.facts hS
                simp only [Facts, factsL, and_true, true_and, List.set_cons_zero, List.set_cons_succ, List.setIfInBounds_toArray] at C
                have hsz := hR.1
                go_step
                refine (known7_any _).mono ?_
                rintro e' w'' ⟨rfl, hb⟩
                exact hK.out _ _ hb (Eq1.of (rfl)) Fresh.no
              · intro p vs w' K hJ hp1 hp2 hS hR hK
                simp only [DepJ, List.getD_cons_zero, List.getD_cons_succ] at hJ
                obtain ⟨j0, -⟩ := hJ
                have j0 := Eq1.out j0
                simp only [j0] at hK ⊢
                rw [if_pos (by rfl)]
                go_step
                exact hK.out _ _ (Below.refl _ _) Eq1.mk Fresh.no
              · intro p vs w' K hJ hp1 hp2 hS hR hK
                simp only [DepJ, List.getD_cons_zero, List.getD_cons_succ] at hJ
                obtain ⟨j1, -⟩ := hJ
                have j1 := Eq1.out j1
                simp only [j1] at hK ⊢
                rw [if_pos (by rfl)]
                go_step
                exact hK.out _ _ (Below.refl _ _) Eq1.mk Fresh.no
              · intro p vs w' K hJ hp1 hp2 hS hR hK
                simp only [DepJ, List.getD_cons_zero, List.getD_cons_succ] at hJ
                obtain ⟨j1, -⟩ := hJ
                have j1 := Eq1.out j1
                simp only [j1] at hK ⊢
                rw [if_pos (by rfl)]
                go_step
                exact hK.out _ _ (Below.refl _ _) Eq1.mk Fresh.no
              · intro p vs w' K hJ hp1 hp2 hS hR hK
                simp only [DepJ, List.getD_cons_zero, List.getD_cons_succ] at hJ
                obtain ⟨j1, j2, j3, -⟩ := hJ
                have j1 := Eq1.out j1
                have j2 := Eq1.out j2
                have j3 := Eq1.out j3
                simp only [j1, j2, j3] at hK ⊢
                rw [if_pos (by rfl)]
                go_step
                exact hK.out _ _ (Below.refl _ _) (Eq1.of (by first | rfl | (simp; done) | (simp; omega))) Fresh.no
              · intro p vs w' K hJ hp1 hp2 hS hR hK
                simp only [DepJ, List.getD_cons_zero, List.getD_cons_succ] at hJ
                obtain ⟨j1, j4, -⟩ := hJ
                have j1 := Eq1.out j1
                have j4 := Eq1.out j4
                simp only [j1, j4] at hK ⊢
                rw [if_pos (by rfl)]
                go_step
                exact hK.out _ _ (Below.refl _ _) Eq1.mk Fresh.no
              · intro p vs w' K hJ hp1 hp2 hS hR hK
                simp only [DepJ, List.getD_cons_zero, List.getD_cons_succ] at hJ
                obtain ⟨j5, -⟩ := hJ
                have j5 := Eq1.out j5
                simp only [j5] at hK ⊢
                rw [if_pos (by rfl)]
                go_step
                exact hK.out _ _ (Below.refl _ _) Eq1.mk Fresh.no
              · intro p vs w' K hJ hp1 hp2 hS hR hK
                simp only [DepJ, List.getD_cons_zero, List.getD_cons_succ] at hJ
                obtain ⟨j6, -⟩ := hJ
                have j6 := Eq1.out j6
                simp only [j6] at hK ⊢
                rw [if_pos (by rfl)]
                have C := Hp.facts hS
                simp only [Facts, factsL, and_true, true_and, List.set_cons_zero, List.set_cons_succ, List.setIfInBounds_toArray] at C
                have hsz := hR.1
                go_step
                exact hK.out _ _ (Below.refl _ _) Eq1.mk Fresh.no
              · intro p vs w' K hJ hp1 hp2 hS hR hK
                simp only [DepJ, List.getD_cons_zero, List.getD_cons_succ] at hJ
                obtain ⟨j6, j7, -⟩ := hJ
                have j6 := Eq1.out j6
                have j7 := Eq1.out j7
                simp only [j6, j7] at hK ⊢
                rw [if_pos (by rfl)]
                replace hS : Hp _ _ _ := hS
                have C := Hp.facts hS
                simp only [Facts, factsL, and_true, true_and, List.set_cons_zero, List.set_cons_succ, List.setIfInBounds_toArray] at C
                have hsz := hR.1
                go_step
                refine (hOf _ hS.low).mono ?_
                rintro e' w'' ⟨⟨cs2, rfl, ht2⟩, hb2⟩
                exact hK.out _ _ hb2 (TreeV.mk hS (Nat.le_refl _) hR.1 hb2 ht2) Fresh.no
              · intro p vs w' K hJ hp1 hp2 hS hR hK
                simp only [DepJ, List.getD_cons_zero, List.getD_cons_succ] at hJ
                obtain ⟨j6, -⟩ := hJ
                have j6 := Eq1.out j6
                simp only [j6] at hK ⊢
                rw [if_pos (by rfl)]
                have C := Hp.facts hS
                simp only [Facts, factsL, and_true, true_and, List.set_cons_zero, List.set_cons_succ, List.setIfInBounds_toArray] at C
                have hsz := hR.1
                go_step
                exact hK.out _ _ (Below.refl _ _) Eq1.mk Fresh.no
              · intro p vs w' K hJ hp1 hp2 hS hR hK
                simp only [DepJ, List.getD_cons_zero, List.getD_cons_succ] at hJ
                obtain ⟨j6, j8, j9, -⟩ := hJ
                have j6 := Eq1.out j6
                obtain ⟨x0, x1, x2, x3, x4, j8, t8⟩ := j8
                have j9 := Eq1.out j9
                simp only [j6, j8, j9] at hK ⊢
                rw [if_pos (by rfl)]
                replace hS : Hp _ _ _ := hS
                have C := Hp.facts hS
                simp only [Facts, factsL, and_true, true_and, List.set_cons_zero, List.set_cons_succ, List.setIfInBounds_toArray] at C
                have hsz := hR.1
                go_step
                refine (hSm _ hS.low _ _ (t8.out hS (Nat.le_refl _)).any).mono ?_
                rintro e' w'' ⟨rfl, hb2⟩
                exact hK.out _ _ hb2 Eq1.mk Fresh.no
              · intro p vs w' K hJ hp1 hp2 hS hR hK
                simp only [DepJ, List.getD_cons_zero, List.getD_cons_succ] at hJ
                obtain ⟨j6, j10, -⟩ := hJ
                have j6 := Eq1.out j6
                have j10 := Eq1.out j10
                simp only [j6, j10] at hK ⊢
                rw [if_pos (by rfl)]
                go_step
                exact hK.out _ _ (Below.refl _ _) Eq1.mk Fresh.no
              · intro p vs w' K hJ hp1 hp2 hS hR hK
                simp only [DepJ, List.getD_cons_zero, List.getD_cons_succ] at hJ
                obtain ⟨j11, -⟩ := hJ
                have j11 := Eq1.out j11
                simp only [j11] at hK ⊢
                rw [if_pos (by rfl)]
                go_step
                exact hK.out _ _ (Below.refl _ _) Eq1.mk Fresh.no
              · intro p vs w' K hJ hp1 hp2 hS hR hK
                simp only [DepJ, List.getD_cons_zero, List.getD_cons_succ] at hJ
                obtain ⟨j12, -⟩ := hJ
                have j12 := Eq1.out j12
                simp only [j12] at hK ⊢
                rw [if_pos (by rfl)]
                have C := Hp.facts hS
                simp only [Facts, factsL, and_true, true_and, List.set_cons_zero, List.set_cons_succ, List.setIfInBounds_toArray] at C
                have hsz := hR.1
                go_step
                exact hK.out _ _ (Below.refl _ _) Eq1.mk Fresh.no
              · intro p vs w' K hJ hp1 hp2 hS hR hK
                simp only [DepJ, List.getD_cons_zero, List.getD_cons_succ] at hJ
                obtain ⟨j12, -⟩ := hJ
                have j12 := Eq1.out j12
                simp only [j12] at hK ⊢
                rw [if_pos (by rfl)]
                have C := Hp.facts hS
                simp only [Facts, factsL, and_true, true_and, List.set_cons_zero, List.set_cons_succ, List.setIfInBounds_toArray] at C
                have hsz := hR.1
                go_step
                exact hK.out _ _ (Below.refl _ _) Eq1.mk Fresh.no
              · intro p vs w' K hJ hp1 hp2 hS hR hK
                simp only [DepJ, List.getD_cons_zero, List.getD_cons_succ] at hJ
                obtain ⟨j12, j14, -⟩ := hJ
                have j12 := Eq1.out j12
                have j14 := Eq1.out j14
                simp only [j12, j14] at hK ⊢
                rw [if_pos (by rfl)]
                replace hS : Hp _ _ _ := hS
                have C := Hp.facts hS
                simp only [Facts, factsL, and_true, true_and, List.set_cons_zero, List.set_cons_succ, List.setIfInBounds_toArray] at C
                have hsz := hR.1
                go_step
                refine (hTb _ hS.low).mono ?_
                rintro e' w'' ⟨⟨cs2, rfl, ht2⟩, hb2⟩
                exact hK.out _ _ hb2 (TreeV.mk hS (Nat.le_refl _) hR.1 hb2 ht2) Fresh.no
              · intro p vs w' K hJ hp1 hp2 hS hR hK
                simp only [DepJ, List.getD_cons_zero, List.getD_cons_succ] at hJ
                obtain ⟨j12, j13, j15, -⟩ := hJ
                have j12 := Eq1.out j12
                have j13 := Eq1.out j13
                obtain ⟨x0, x1, x2, x3, x4, j15, t15⟩ := j15
                simp only [j12, j13, j15] at hK ⊢
                rw [if_pos (by rfl)]
                replace hS : Hp _ _ _ := hS
                have C := Hp.facts hS
                simp only [Facts, factsL, and_true, true_and, List.set_cons_zero, List.set_cons_succ, List.setIfInBounds_toArray] at C
                have hsz := hR.1
                go_step
                refine (hSb _ hS.low _ _ (t15.out hS (Nat.le_refl _)).any).mono ?_
                rintro e' w'' ⟨rfl, hb2⟩
                exact hK.out _ _ hb2 Eq1.mk Fresh.no
              · intro p vs w' K hJ hp1 hp2 hS hR hK
                simp only [DepJ, List.getD_cons_zero, List.getD_cons_succ] at hJ
                obtain ⟨j12, -⟩ := hJ
                have j12 := Eq1.out j12
                simp only [j12] at hK ⊢
                rw [if_pos (by rfl)]
                have C := Hp.facts hS
                simp only [Facts, factsL, and_true, true_and, List.set_cons_zero, List.set_cons_succ, List.setIfInBounds_toArray] at C
                have hsz := hR.1
                go_step
                exact hK.out _ _ (Below.refl _ _) Eq1.mk Fresh.no
              · intro p vs w' K hJ hp1 hp2 hS hR hK
                simp only [DepJ, List.getD_cons_zero, List.getD_cons_succ] at hJ
                obtain ⟨j12, -⟩ := hJ
                have j12 := Eq1.out j12
                simp only [j12] at hK ⊢
                rw [if_pos (by rfl)]
                have C := Hp.facts hS
                simp only [Facts, factsL, and_true, true_and, List.set_cons_zero, List.set_cons_succ, List.setIfInBounds_toArray] at C
                have hsz := hR.1
                go_step
                exact hK.out _ _ (Below.refl _ _) Eq1.mk Fresh.no
              · intro p vs w' K hJ hp1 hp2 hS hR hK
                simp only [DepJ, List.getD_cons_zero, List.getD_cons_succ] at hJ
                obtain ⟨j12, j17, j18, -⟩ := hJ
                have j12 := Eq1.out j12
                have j17 := Eq1.out j17
                have j18 := Eq1.out j18
                simp only [j12, j17, j18] at hK ⊢
                rw [if_pos (by rfl)]
                have C := Hp.facts hS
                simp only [Facts, factsL, and_true, true_and, List.set_cons_zero, List.set_cons_succ, List.setIfInBounds_toArray] at C
                have hsz := hR.1
                go_step
                refine (hSr _ (show Hp _ _ _ from hS).low).mono ?_
                rintro e' w'' ⟨rfl, hb⟩
                exact hK.out _ _ hb (Eq1.of (rfl)) Fresh.no
              · intro p vs w' K hJ hp1 hp2 hS hR hK
                simp only [DepJ, List.getD_cons_zero, List.getD_cons_succ] at hJ
                obtain ⟨j12, j16, j19, -⟩ := hJ
                have j12 := Eq1.out j12
                have j16 := Eq1.out j16
                have j19 := Eq1.out j19
                simp only [j12, j16, j19] at hK ⊢
                rw [if_pos (by rfl)]
                go_step
                exact hK.out _ _ (Below.refl _ _) (Eq1.of (by simp)) Fresh.no
              · intro p vs w' K hJ hp1 hp2 hS hR hK
                simp only [DepJ, List.getD_cons_zero, List.getD_cons_succ] at hJ
                obtain ⟨j12, j20, -⟩ := hJ
                have j12 := Eq1.out j12
                have j20 := Eq1.out j20
                simp only [j12, j20] at hK ⊢
                rw [if_pos (by rfl)]
                go_step
                exact hK.out _ _ (Below.refl _ _) Eq1.mk Fresh.no
              · intro p vs w' K hJ hp1 hp2 hS hR hK
                simp only [DepJ, List.getD_cons_zero, List.getD_cons_succ] at hJ
                obtain ⟨j21, -⟩ := hJ
                have j21 := Eq1.out j21
                simp only [j21] at hK ⊢
                rw [if_pos (by rfl)]
                go_step
                exact hK.out _ _ (Below.refl _ _) Eq1.mk Fresh.no
              · intro p vs w' K hJ hp1 hp2 hS hR hK
                simp only [DepJ, List.getD_cons_zero, List.getD_cons_succ] at hJ
                obtain ⟨j22, -⟩ := hJ
                have j22 := Eq1.out j22
                simp only [j22] at hK ⊢
                rw [if_pos (by rfl)]
                have C := Hp.facts hS
                simp only [Facts, factsL, and_true, true_and, List.set_cons_zero, List.set_cons_succ, List.setIfInBounds_toArray] at C
                have hsz := hR.1
                go_step
                exact hK.out _ _ (Below.refl _ _) Eq1.mk Fresh.no
              · intro p vs w' K hJ hp1 hp2 hS hR hK
                simp only [DepJ, List.getD_cons_zero, List.getD_cons_succ] at hJ
                obtain ⟨j22, -⟩ := hJ
                have j22 := Eq1.out j22
                simp only [j22] at hK ⊢
                rw [if_pos (by rfl)]
                have C := Hp.facts hS
                simp only [Facts, factsL, and_true, true_and, List.set_cons_zero, List.set_cons_succ, List.setIfInBounds_toArray] at C
                have hsz := hR.1
                go_step
                exact hK.out _ _ (Below.refl _ _) Eq1.mk Fresh.no
              · intro p vs w' K hJ hp1 hp2 hS hR hK
                simp only [DepJ, List.getD_cons_zero, List.getD_cons_succ] at hJ
                obtain ⟨j22, j24, -⟩ := hJ
                have j22 := Eq1.out j22
                have j24 := Eq1.out j24
                simp only [j22, j24] at hK ⊢
                rw [if_pos (by rfl)]
                replace hS : Hp _ _ _ := hS
                have C := Hp.facts hS
                simp only [Facts, factsL, and_true, true_and, List.set_cons_zero, List.set_cons_succ, List.setIfInBounds_toArray] at C
                have hsz := hR.1
                go_step
                refine (hTa _ hS.low).mono ?_
                rintro e' w'' ⟨⟨cs2, rfl, ht2⟩, hb2⟩
                exact hK.out _ _ hb2 (TreeV.mk hS (Nat.le_refl _) hR.1 hb2 ht2) Fresh.no
              · intro p vs w' K hJ hp1 hp2 hS hR hK
                simp only [DepJ, List.getD_cons_zero, List.getD_cons_succ] at hJ
                obtain ⟨j22, j23, j25, -⟩ := hJ
                have j22 := Eq1.out j22
                have j23 := Eq1.out j23
                obtain ⟨x0, x1, x2, x3, x4, j25, t25⟩ := j25
                simp only [j22, j23, j25] at hK ⊢
                rw [if_pos (by rfl)]
                replace hS : Hp _ _ _ := hS
                have C := Hp.facts hS
                simp only [Facts, factsL, and_true, true_and, List.set_cons_zero, List.set_cons_succ, List.setIfInBounds_toArray] at C
                have hsz := hR.1
                go_step
                refine (hSa _ hS.low _ _ (t25.out hS (Nat.le_refl _)).any).mono ?_
                rintro e' w'' ⟨rfl, hb2⟩
                exact hK.out _ _ hb2 Eq1.mk Fresh.no
              · intro p vs w' K hJ hp1 hp2 hS hR hK
                simp only [DepJ, List.getD_cons_zero, List.getD_cons_succ] at hJ
                obtain ⟨j22, j26, -⟩ := hJ
                have j22 := Eq1.out j22
                have j26 := Eq1.out j26
                simp only [j22, j26] at hK ⊢
                rw [if_pos (by rfl)]
                go_step
                exact hK.out _ _ (Below.refl _ _) Eq1.mk Fresh.no
              · intro p vs w' K hJ hp1 hp2 hS hR hK
                simp only [DepJ, List.getD_cons_zero, List.getD_cons_succ] at hJ
                obtain ⟨j27, -⟩ := hJ
                have j27 := Eq1.out j27
                simp only [j27] at hK ⊢
                rw [if_pos (by rfl)]
                go_step
                exact hK.out _ _ (Below.refl _ _) Eq1.mk Fresh.no
            case hst_3 => refine ⟨fun _ _ _ _ h => h, fun _ _ _ _ h => h, fun _ _ _ _ h => h, fun _ _ _ _ h => h, fun _ _ _ _ h => h, fun _ _ _ _ h => h, fun _ _ _ _ h => h, fun _ _ _ _ h => h, fun _ _ _ hs h => TreeV.stay hs h, fun _ _ _ _ h => h, fun _ _ _ _ h => h, fun _ _ _ _ h => h, fun _ _ _ _ h => h, fun _ _ _ _ h => h, fun _ _ _ _ h => h, fun _ _ _ hs h => TreeV.stay hs h, fun _ _ _ _ h => h, fun _ _ _ _ h => h, fun _ _ _ _ h => h, fun _ _ _ _ h => h, fun _ _ _ _ h => h, fun _ _ _ _ h => h, fun _ _ _ _ h => h, fun _ _ _ _ h => h, fun _ _ _ _ h => h, fun _ _ _ hs h => TreeV.stay hs h, fun _ _ _ _ h => h, fun _ _ _ _ h => h, fun _ _ _ _ h => h, trivial⟩
            intro vs w' hJ hD hS hR
            simp only [AllJ, Nat.reduceAdd] at hJ
            obtain ⟨v0, v1, v2, v3, v4, v5, v6, v7, v8, v9, v10, v11, v12, v13, v14, v15, v16, v17, v18, v19, v20, v21, v22, v23, v24, v25, v26, v27, v28, -⟩ := hJ
            clear C
            replace v0 := Eq1.out v0
            replace v1 := Eq1.out v1
            replace v2 := Eq1.out v2
            replace v3 := Eq1.out v3
            replace v4 := Eq1.out v4
            replace v5 := Eq1.out v5
            replace v6 := Eq1.out v6
            replace v7 := Eq1.out v7
            replace v9 := Eq1.out v9
            replace v10 := Eq1.out v10
            replace v11 := Eq1.out v11
            replace v12 := Eq1.out v12
            replace v13 := Eq1.out v13
            replace v14 := Eq1.out v14
            replace v16 := Eq1.out v16
            replace v17 := Eq1.out v17
            replace v18 := Eq1.out v18
            replace v19 := Eq1.out v19
            replace v20 := Eq1.out v20
            replace v21 := Eq1.out v21
            replace v22 := Eq1.out v22
            replace v23 := Eq1.out v23
            replace v24 := Eq1.out v24
            replace v26 := Eq1.out v26
            replace v27 := Eq1.out v27
            replace v28 := Eq1.out v28
            obtain ⟨x0, x1, x2, x3, x4, e8, t8⟩ := v8
            obtain ⟨x0, x1, x2, x3, x4, e15, t15⟩ := v15
            obtain ⟨x0, x1, x2, x3, x4, e25, t25⟩ := v25
            simp only [v0, v1, v2, v3, v4, v5, v6, v7, v9, v10, v11, v12, v13, v14, v16, v17, v18, v19, v20, v21, v22, v23, v24, v26, v27, v28, e8, e15, e25, List.drop_succ_cons, List.drop_zero]
            refine wpList_nil' ?_
            have H' : Hp _ _ _ := hS
            clear hD hR hS v0 v1 v2 v3 v4 v5 v6 v7 v9 v10 v11 v12 v13 v14 v16 v17 v18 v19 v20 v21 v22 v23 v24 v26 v27 v28
            clear t8 e8
            clear t15 e15
            clear t25 e25
            clear vs H
            have H := H'; clear H'; have C := Hp.facts H; simp only [Facts, factsL, and_true, true_and, List.set_cons_zero, List.set_cons_succ, List.setIfInBounds_toArray] at C
            have H' := HO.step H.low
            clear HO CO H C
            have H := H'
            clear H'
            have C := Hp.facts H
            simp only [Facts, factsL, and_true, true_and, List.set_cons_zero, List.set_cons_succ, List.setIfInBounds_toArray] at C
            (repeat' ((fail_if_success (with_reducible show bodyPost _ _ _ _ _ _)); first | ((with_reducible refine Hp.abs_alloc H ?_); intro b' w' H' hb'; (try simp only [hb']); clear hb'; ((try simp only [List.set_cons_zero, List.set_cons_succ, List.setIfInBounds_toArray] at H'); clear C H; have H := H'; clear H'; have C := Hp.facts H; simp only [Facts, factsL, and_true, true_and, List.set_cons_zero, List.set_cons_succ, List.setIfInBounds_toArray] at C)) | ((with_reducible show wpList _ _ _ _ _ (World.setCell _ _ _)); (with_reducible apply Hp.abs_gen H); (first | ((repeat (with_reducible apply Hp.set' 0)); (with_reducible exact H); (repeat rfl); intro w' H') | ((repeat (with_reducible apply Hp.set' 1)); (with_reducible exact H); (repeat rfl); intro w' H') | ((repeat (with_reducible apply Hp.set' 2)); (with_reducible exact H); (repeat rfl); intro w' H') | ((repeat (with_reducible apply Hp.set' 3)); (with_reducible exact H); (repeat rfl); intro w' H') | ((repeat (with_reducible apply Hp.set' 4)); (with_reducible exact H); (repeat rfl); intro w' H') | ((repeat (with_reducible apply Hp.set' 5)); (with_reducible exact H); (repeat rfl); intro w' H') | ((repeat (with_reducible apply Hp.set' 6)); (with_reducible exact H); (repeat rfl); intro w' H') | ((repeat (with_reducible apply Hp.set' 7)); (with_reducible exact H); (repeat rfl); intro w' H') | ((repeat (with_reducible apply Hp.set' 8)); (with_reducible exact H); (repeat rfl); intro w' H') | ((repeat (with_reducible apply Hp.set' 9)); (with_reducible exact H); (repeat rfl); intro w' H') | ((repeat (with_reducible apply Hp.set' 10)); (with_reducible exact H); (repeat rfl); intro w' H') | ((repeat (with_reducible apply Hp.set' 11)); (with_reducible exact H); (repeat rfl); intro w' H') | ((repeat (with_reducible apply Hp.set' 12)); (with_reducible exact H); (repeat rfl); intro w' H') | ((repeat (with_reducible apply Hp.set' 13)); (with_reducible exact H); (repeat rfl); intro w' H')); ((try simp only [List.set_cons_zero, List.set_cons_succ, List.setIfInBounds_toArray] at H'); clear C H; have H := H'; clear H'; have C := Hp.facts H; simp only [Facts, factsL, and_true, true_and, List.set_cons_zero, List.set_cons_succ, List.setIfInBounds_toArray] at C)) | go_values | go_skip | go_guarded | go_step | go_upon | go_back | (simp only [Int.not_lt, Int.not_le] at *; go_simp) | (go_values <;> (try go_simp)) | (go_ite <;> go_prune <;> (try go_simp)) | (split <;> (first | (rename_i hx; exact (hx _ rfl).elim) | go_prune))))
            go_ret
            exact ⟨rfl, H.low⟩
      | none =>
        have hcu : zt.count ≤ 200000 := by simp [Tree.count, Tree.counts]
        replace hf := Kp.mk hf
        refine (to7_any na ta _ _ w.heap.size H.low.size (gta.out.step H.low) (by omega)).mono ?_
        rintro e' wX ⟨⟨cx, rfl, htx⟩, hb⟩
        obtain ⟨Ox, H2, gx⟩ := H.keepTree (Nat.le_refl _) hb htx
        obtain ⟨d0, d1, d2, d3, d4, rfl⟩ := five_of htx.len
        obtain ⟨x0, x1, x2, xA, xB, xk, xc, xm, xd, rfl, rfl, rfl, rfl, rfl⟩ := htx.forms
        replace gx := Kp.mk gx
        clear H C htx hb
        have H := H2
        clear H2
        simp only [List.cons_append, List.nil_append, List.append_assoc] at H
        have C := Hp.facts H
        simp only [Facts, factsL, and_true, true_and, List.set_cons_zero, List.set_cons_succ, List.setIfInBounds_toArray] at C
        (repeat' ((fail_if_success (with_reducible show bodyPost _ _ _ _ _ _)); first | ((with_reducible refine Hp.abs_alloc H ?_); intro b' w' H' hb'; (try simp only [hb']); clear hb'; ((try simp only [List.set_cons_zero, List.set_cons_succ, List.setIfInBounds_toArray] at H'); clear C H; have H := H'; clear H'; have C := Hp.facts H; simp only [Facts, factsL, and_true, true_and, List.set_cons_zero, List.set_cons_succ, List.setIfInBounds_toArray] at C)) | ((with_reducible show wpList _ _ _ _ _ (World.setCell _ _ _)); (with_reducible apply Hp.abs_gen H); (first | ((repeat (with_reducible apply Hp.set' 0)); (with_reducible exact H); (repeat rfl); intro w' H') | ((repeat (with_reducible apply Hp.set' 1)); (with_reducible exact H); (repeat rfl); intro w' H') | ((repeat (with_reducible apply Hp.set' 2)); (with_reducible exact H); (repeat rfl); intro w' H') | ((repeat (with_reducible apply Hp.set' 3)); (with_reducible exact H); (repeat rfl); intro w' H') | ((repeat (with_reducible apply Hp.set' 4)); (with_reducible exact H); (repeat rfl); intro w' H') | ((repeat (with_reducible apply Hp.set' 5)); (with_reducible exact H); (repeat rfl); intro w' H') | ((repeat (with_reducible apply Hp.set' 6)); (with_reducible exact H); (repeat rfl); intro w' H') | ((repeat (with_reducible apply Hp.set' 7)); (with_reducible exact H); (repeat rfl); intro w' H') | ((repeat (with_reducible apply Hp.set' 8)); (with_reducible exact H); (repeat rfl); intro w' H') | ((repeat (with_reducible apply Hp.set' 9)); (with_reducible exact H); (repeat rfl); intro w' H') | ((repeat (with_reducible apply Hp.set' 10)); (with_reducible exact H); (repeat rfl); intro w' H') | ((repeat (with_reducible apply Hp.set' 11)); (with_reducible exact H); (repeat rfl); intro w' H') | ((repeat (with_reducible apply Hp.set' 12)); (with_reducible exact H); (repeat rfl); intro w' H') | ((repeat (with_reducible apply Hp.set' 13)); (with_reducible exact H); (repeat rfl); intro w' H')); ((try simp only [List.set_cons_zero, List.set_cons_succ, List.setIfInBounds_toArray] at H'); clear C H; have H := H'; clear H'; have C := Hp.facts H; simp only [Facts, factsL, and_true, true_and, List.set_cons_zero, List.set_cons_succ, List.setIfInBounds_toArray] at C)) | go_values | go_skip | go_guarded | go_step | go_upon | go_back | (simp only [Int.not_lt, Int.not_le] at *; go_simp) | (go_values <;> (try go_simp)) | (go_ite <;> go_prune <;> (try go_simp)) | (split <;> (first | (rename_i hx; exact (hx _ rfl).elim) | go_prune))))
        refine (find_any na ta _ ps _ _ ((gx.out _ _ H (fun x hx => by simp [hx])).any) (by omega) (by omega) (hZ.out.step H.low) (by omega)).mono ?_
        rintro e' wY ⟨-, h2, hb⟩
        obtain rfl := h2 hf.out
        clear h2
        (have H' := Hp.step H hb; clear hb; ((try simp only [List.set_cons_zero, List.set_cons_succ, List.setIfInBounds_toArray] at H'); clear C H; have H := H'; clear H'; have C := Hp.facts H; simp only [Facts, factsL, and_true, true_and, List.set_cons_zero, List.set_cons_succ, List.setIfInBounds_toArray] at C))
        (repeat' ((fail_if_success (with_reducible show bodyPost _ _ _ _ _ _)); first | ((with_reducible refine Hp.abs_alloc H ?_); intro b' w' H' hb'; (try simp only [hb']); clear hb'; ((try simp only [List.set_cons_zero, List.set_cons_succ, List.setIfInBounds_toArray] at H'); clear C H; have H := H'; clear H'; have C := Hp.facts H; simp only [Facts, factsL, and_true, true_and, List.set_cons_zero, List.set_cons_succ, List.setIfInBounds_toArray] at C)) | ((with_reducible show wpList _ _ _ _ _ (World.setCell _ _ _)); (with_reducible apply Hp.abs_gen H); (first | ((repeat (with_reducible apply Hp.set' 0)); (with_reducible exact H); (repeat rfl); intro w' H') | ((repeat (with_reducible apply Hp.set' 1)); (with_reducible exact H); (repeat rfl); intro w' H') | ((repeat (with_reducible apply Hp.set' 2)); (with_reducible exact H); (repeat rfl); intro w' H') | ((repeat (with_reducible apply Hp.set' 3)); (with_reducible exact H); (repeat rfl); intro w' H') | ((repeat (with_reducible apply Hp.set' 4)); (with_reducible exact H); (repeat rfl); intro w' H') | ((repeat (with_reducible apply Hp.set' 5)); (with_reducible exact H); (repeat rfl); intro w' H') | ((repeat (with_reducible apply Hp.set' 6)); (with_reducible exact H); (repeat rfl); intro w' H') | ((repeat (with_reducible apply Hp.set' 7)); (with_reducible exact H); (repeat rfl); intro w' H') | ((repeat (with_reducible apply Hp.set' 8)); (with_reducible exact H); (repeat rfl); intro w' H') | ((repeat (with_reducible apply Hp.set' 9)); (with_reducible exact H); (repeat rfl); intro w' H') | ((repeat (with_reducible apply Hp.set' 10)); (with_reducible exact H); (repeat rfl); intro w' H') | ((repeat (with_reducible apply Hp.set' 11)); (with_reducible exact H); (repeat rfl); intro w' H') | ((repeat (with_reducible apply Hp.set' 12)); (with_reducible exact H); (repeat rfl); intro w' H') | ((repeat (with_reducible apply Hp.set' 13)); (with_reducible exact H); (repeat rfl); intro w' H')); ((try simp only [List.set_cons_zero, List.set_cons_succ, List.setIfInBounds_toArray] at H'); clear C H; have H := H'; clear H'; have C := Hp.facts H; simp only [Facts, factsL, and_true, true_and, List.set_cons_zero, List.set_cons_succ, List.setIfInBounds_toArray] at C)) | go_values | go_skip | go_guarded | go_step | go_upon | go_back | (simp only [Int.not_lt, Int.not_le] at *; go_simp) | (go_values <;> (try go_simp)) | (go_ite <;> go_prune <;> (try go_simp)) | (split <;> (first | (rename_i hx; exact (hx _ rfl).elim) | go_prune))))
        refine (lfind_any (· < w.heap.size) na ta _ ps _ _ (gta.out.step H.low) (by omega) (hZ.out.step H.low) (by omega)).mono ?_
        rintro e' wZ ⟨-, h2, hb⟩
        obtain rfl := h2 hf.out
        clear h2
        (have H' := Hp.step H hb; clear hb; ((try simp only [List.set_cons_zero, List.set_cons_succ, List.setIfInBounds_toArray] at H'); clear C H; have H := H'; clear H'; have C := Hp.facts H; simp only [Facts, factsL, and_true, true_and, List.set_cons_zero, List.set_cons_succ, List.setIfInBounds_toArray] at C))
        (repeat' ((fail_if_success (with_reducible show bodyPost _ _ _ _ _ _)); first | ((with_reducible refine Hp.abs_alloc H ?_); intro b' w' H' hb'; (try simp only [hb']); clear hb'; ((try simp only [List.set_cons_zero, List.set_cons_succ, List.setIfInBounds_toArray] at H'); clear C H; have H := H'; clear H'; have C := Hp.facts H; simp only [Facts, factsL, and_true, true_and, List.set_cons_zero, List.set_cons_succ, List.setIfInBounds_toArray] at C)) | ((with_reducible show wpList _ _ _ _ _ (World.setCell _ _ _)); (with_reducible apply Hp.abs_gen H); (first | ((repeat (with_reducible apply Hp.set' 0)); (with_reducible exact H); (repeat rfl); intro w' H') | ((repeat (with_reducible apply Hp.set' 1)); (with_reducible exact H); (repeat rfl); intro w' H') | ((repeat (with_reducible apply Hp.set' 2)); (with_reducible exact H); (repeat rfl); intro w' H') | ((repeat (with_reducible apply Hp.set' 3)); (with_reducible exact H); (repeat rfl); intro w' H') | ((repeat (with_reducible apply Hp.set' 4)); (with_reducible exact H); (repeat rfl); intro w' H') | ((repeat (with_reducible apply Hp.set' 5)); (with_reducible exact H); (repeat rfl); intro w' H') | ((repeat (with_reducible apply Hp.set' 6)); (with_reducible exact H); (repeat rfl); intro w' H') | ((repeat (with_reducible apply Hp.set' 7)); (with_reducible exact H); (repeat rfl); intro w' H') | ((repeat (with_reducible apply Hp.set' 8)); (with_reducible exact H); (repeat rfl); intro w' H') | ((repeat (with_reducible apply Hp.set' 9)); (with_reducible exact H); (repeat rfl); intro w' H') | ((repeat (with_reducible apply Hp.set' 10)); (with_reducible exact H); (repeat rfl); intro w' H') | ((repeat (with_reducible apply Hp.set' 11)); (with_reducible exact H); (repeat rfl); intro w' H') | ((repeat (with_reducible apply Hp.set' 12)); (with_reducible exact H); (repeat rfl); intro w' H') | ((repeat (with_reducible apply Hp.set' 13)); (with_reducible exact H); (repeat rfl); intro w' H')); ((try simp only [List.set_cons_zero, List.set_cons_succ, List.setIfInBounds_toArray] at H'); clear C H; have H := H'; clear H'; have C := Hp.facts H; simp only [Facts, factsL, and_true, true_and, List.set_cons_zero, List.set_cons_succ, List.setIfInBounds_toArray] at C)) | go_values | go_skip | go_guarded | go_step | go_upon | go_back | (simp only [Int.not_lt, Int.not_le] at *; go_simp) | (go_values <;> (try go_simp)) | (go_ite <;> go_prune <;> (try go_simp)) | (split <;> (first | (rename_i hx; exact (hx _ rfl).elim) | go_prune))))
        obtain ⟨wq, rfl⟩ := Hp.nameW H
        have HO := H
        have CO := C
        have gyq := Kp.mk (zero_it (· < wq.heap.size) wq 0)
        have gzq := Kp.mk (zero_it (· < w.heap.size) wq 0)
        clear H C
        have H := Hp.start wq
        have C := Hp.facts H
        simp only [Facts, factsL, and_true, true_and, List.set_cons_zero, List.set_cons_succ, List.setIfInBounds_toArray] at C
        have hOf := fun w1 (h : Below wq.heap.size wq w1) => of7_any 1 zt _ w1 wq.heap.size h.size (gyq.out.step h) hcu
        have hSm := fun w1 (h : Below wq.heap.size wq w1) (m2 : Nat) (cs2 : List Value) (h2 : ItN w1 m2 zt cs2) => rtsame_any m2 zt cs2 1 zt _ w1 h2 ((gzq.out.step h).any) hcu hcu
        simp only [Tree.same_self] at hSm
        try simp (disch := omega) only [decide_eq_true, decide_eq_false]
        obtain ⟨wR7n, rfl⟩ := Hp.nameW H
        apply region_n (frm wR7n.heap.size (fun _ => Hp _ _)) (frm_ok ?hfs_4) frm_sz [] [.light 0 0, .light 0 0, .light 0 0, .light 0 0, .light 0 0, .light 0 0, .light 0 0, .light 0 0, .light 0 0, .light 0 0, .light 0 0, .light 0 0, .light 0 0, .light 0 0, .light 0 0, .light 0 0, .light 0 0, .light 0 0, .light 0 0] [false, false, false, false, false, false, false, false, false, false, false, false, false, false, false, false, false, false, false] 19 113 [] [some 43, some 44, some 45, some 46, some 47, some 48, some 49, some 50, some 51, some 52, some 53, some 54, some 55, some 56, some 57, some 58, some 59, some 60, some 61] [[], [0], [], [1, 2], [3], [4], [4, 5], [4, 6], [7], [7, 8], [4, 7, 9], [4, 10], [11], [12], [12, 13], [12], [12, 14, 15], [12, 16], [12, 17]] [Eq1 _, Eq1 _, Eq1 _, Eq1 (.bool false), Eq1 _, Eq1 _, Eq1 (.bool true), Eq1 _, Eq1 _, Eq1 (.bool false), Eq1 _, Eq1 _, Eq1 _, Eq1 _, (TreeV wR7n.heap.size wR7n.heap.size wR7n 1 zt), Eq1 _, Eq1 (.bool true), Eq1 (.bool false), Eq1 _] ?hq1_4 ?hq2_4 ?hq3_4 ?hq4_4 ?hq5_4 ?hq6_4 _ ?hA_4 ?hst_4 ?h0_4 ?hsteps_4 ?hend_4
        case hq1_4 => kernel_rfl
        case hq2_4 => kernel_rfl
        case hq3_4 => kernel_rfl
        case hq5_4 => kernel_rfl
        case hq4_4 => rfl
        case hq6_4 => rfl
        case hA_4 => intro vs; simp only [fillD, Nat.reduceAdd, Act.put, List.setIfInBounds_toArray, List.set_cons_zero, List.set_cons_succ]; rfl
        case h0_4 => exact H.drew
        case hfs_4 => exact fun _ _ _ hb h => Hp.step h hb
        case hsteps_4 =>
          refine ⟨?_, ?_, ?_, ?_, ?_, ?_, ?_, ?_, ?_, ?_, ?_, ?_, ?_, ?_, ?_, ?_, ?_, ?_, ?_, trivial⟩
          · intro p vs w' K hJ hp1 hp2 hS hR hK
            rw [if_pos (by rfl)]
            go_step
            exact hK.out _ _ (Below.refl _ _) Eq1.mk Fresh.no
          · intro p vs w' K hJ hp1 hp2 hS hR hK
            simp only [DepJ, List.getD_cons_zero, List.getD_cons_succ] at hJ
            obtain ⟨j0, -⟩ := hJ
            have j0 := Eq1.out j0
            simp only [j0] at hK ⊢
            rw [if_pos (by rfl)]
            go_step
            exact hK.out _ _ (Below.refl _ _) Eq1.mk Fresh.no
          · intro p vs w' K hJ hp1 hp2 hS hR hK
            rw [if_pos (by rfl)]
            go_step
            exact hK.out _ _ (Below.refl _ _) Eq1.mk Fresh.no
          · intro p vs w' K hJ hp1 hp2 hS hR hK
            simp only [DepJ, List.getD_cons_zero, List.getD_cons_succ] at hJ
            obtain ⟨j1, j2, -⟩ := hJ
            have j1 := Eq1.out j1
            have j2 := Eq1.out j2
            simp only [j1, j2] at hK ⊢
            rw [if_pos (by rfl)]
            go_step
            exact hK.out _ _ (Below.refl _ _) (Eq1.of (by first | rfl | (simp; done) | (simp; omega))) Fresh.no
          · intro p vs w' K hJ hp1 hp2 hS hR hK
            simp only [DepJ, List.getD_cons_zero, List.getD_cons_succ] at hJ
            obtain ⟨j3, -⟩ := hJ
            have j3 := Eq1.out j3
            simp only [j3] at hK ⊢
            rw [if_pos (by rfl)]
            go_step
            exact hK.out _ _ (Below.refl _ _) Eq1.mk Fresh.no
          · intro p vs w' K hJ hp1 hp2 hS hR hK
            simp only [DepJ, List.getD_cons_zero, List.getD_cons_succ] at hJ
            obtain ⟨j4, -⟩ := hJ
            have j4 := Eq1.out j4
            simp only [j4] at hK ⊢
            rw [if_pos (by rfl)]
            go_step
            exact hK.out _ _ (Below.refl _ _) Eq1.mk Fresh.no
          · intro p vs w' K hJ hp1 hp2 hS hR hK
            simp only [DepJ, List.getD_cons_zero, List.getD_cons_succ] at hJ
            obtain ⟨j4, j5, -⟩ := hJ
            have j4 := Eq1.out j4
            have j5 := Eq1.out j5
            simp only [j4, j5] at hK ⊢
            rw [if_pos (by rfl)]
            go_step
            exact hK.out _ _ (Below.refl _ _) (Eq1.of (by first | rfl | (simp; done) | (simp; omega))) Fresh.no
          · intro p vs w' K hJ hp1 hp2 hS hR hK
            simp only [DepJ, List.getD_cons_zero, List.getD_cons_succ] at hJ
            obtain ⟨j4, j6, -⟩ := hJ
            have j4 := Eq1.out j4
            have j6 := Eq1.out j6
            simp only [j4, j6] at hK ⊢
            rw [if_pos (by rfl)]
            go_step
            exact hK.out _ _ (Below.refl _ _) Eq1.mk Fresh.no
          · intro p vs w' K hJ hp1 hp2 hS hR hK
            simp only [DepJ, List.getD_cons_zero, List.getD_cons_succ] at hJ
            obtain ⟨j7, -⟩ := hJ
            have j7 := Eq1.out j7
            simp only [j7] at hK ⊢
            rw [if_pos (by rfl)]
            go_step
            exact hK.out _ _ (Below.refl _ _) Eq1.mk Fresh.no
          · intro p vs w' K hJ hp1 hp2 hS hR hK
            simp only [DepJ, List.getD_cons_zero, List.getD_cons_succ] at hJ
            obtain ⟨j7, j8, -⟩ := hJ
            have j7 := Eq1.out j7
            have j8 := Eq1.out j8
            simp only [j7, j8] at hK ⊢
            rw [if_pos (by rfl)]
            go_step
            exact hK.out _ _ (Below.refl _ _) (Eq1.of (by first | rfl | (simp; done) | (simp; omega))) Fresh.no
          · intro p vs w' K hJ hp1 hp2 hS hR hK
            simp only [DepJ, List.getD_cons_zero, List.getD_cons_succ] at hJ
            obtain ⟨j4, j7, j9, -⟩ := hJ
            have j4 := Eq1.out j4
            have j7 := Eq1.out j7
            have j9 := Eq1.out j9
            simp only [j4, j7, j9] at hK ⊢
            rw [if_pos (by rfl)]
            go_step
            exact hK.out _ _ (Below.refl _ _) Eq1.mk Fresh.no
          · intro p vs w' K hJ hp1 hp2 hS hR hK
            simp only [DepJ, List.getD_cons_zero, List.getD_cons_succ] at hJ
            obtain ⟨j4, j10, -⟩ := hJ
            have j4 := Eq1.out j4
            have j10 := Eq1.out j10
            simp only [j4, j10] at hK ⊢
            rw [if_pos (by rfl)]
            go_step
            exact hK.out _ _ (Below.refl _ _) Eq1.mk Fresh.no
          · intro p vs w' K hJ hp1 hp2 hS hR hK
            simp only [DepJ, List.getD_cons_zero, List.getD_cons_succ] at hJ
            obtain ⟨j11, -⟩ := hJ
            have j11 := Eq1.out j11
            simp only [j11] at hK ⊢
            rw [if_pos (by rfl)]
            go_step
            exact hK.out _ _ (Below.refl _ _) Eq1.mk Fresh.no
          · intro p vs w' K hJ hp1 hp2 hS hR hK
            simp only [DepJ, List.getD_cons_zero, List.getD_cons_succ] at hJ
            obtain ⟨j12, -⟩ := hJ
            have j12 := Eq1.out j12
            simp only [j12] at hK ⊢
            rw [if_pos (by rfl)]
            have C := Hp.facts hS
            simp only [Facts, factsL, and_true, true_and, List.set_cons_zero, List.set_cons_succ, List.setIfInBounds_toArray] at C
            have hsz := hR.1
            go_step
            exact hK.out _ _ (Below.refl _ _) Eq1.mk Fresh.no
          · intro p vs w' K hJ hp1 hp2 hS hR hK
            simp only [DepJ, List.getD_cons_zero, List.getD_cons_succ] at hJ
            obtain ⟨j12, j13, -⟩ := hJ
            have j12 := Eq1.out j12
            have j13 := Eq1.out j13
            simp only [j12, j13] at hK ⊢
            rw [if_pos (by rfl)]
            replace hS : Hp _ _ _ := hS
            have C := Hp.facts hS
            simp only [Facts, factsL, and_true, true_and, List.set_cons_zero, List.set_cons_succ, List.setIfInBounds_toArray] at C
            have hsz := hR.1
            go_step
            refine (hOf _ hS.low).mono ?_
            rintro e' w'' ⟨⟨cs2, rfl, ht2⟩, hb2⟩
            exact hK.out _ _ hb2 (TreeV.mk hS (Nat.le_refl _) hR.1 hb2 ht2) Fresh.no
          · intro p vs w' K hJ hp1 hp2 hS hR hK
            simp only [DepJ, List.getD_cons_zero, List.getD_cons_succ] at hJ
            obtain ⟨j12, -⟩ := hJ
            have j12 := Eq1.out j12
            simp only [j12] at hK ⊢
            rw [if_pos (by rfl)]
            have C := Hp.facts hS
            simp only [Facts, factsL, and_true, true_and, List.set_cons_zero, List.set_cons_succ, List.setIfInBounds_toArray] at C
            have hsz := hR.1
            go_step
            exact hK.out _ _ (Below.refl _ _) Eq1.mk Fresh.no
          · intro p vs w' K hJ hp1 hp2 hS hR hK
            simp only [DepJ, List.getD_cons_zero, List.getD_cons_succ] at hJ
            obtain ⟨j12, j14, j15, -⟩ := hJ
            have j12 := Eq1.out j12
            obtain ⟨x0, x1, x2, x3, x4, j14, t14⟩ := j14
            have j15 := Eq1.out j15
            simp only [j12, j14, j15] at hK ⊢
            rw [if_pos (by rfl)]
            replace hS : Hp _ _ _ := hS
            have C := Hp.facts hS
            simp only [Facts, factsL, and_true, true_and, List.set_cons_zero, List.set_cons_succ, List.setIfInBounds_toArray] at C
            have hsz := hR.1
            go_step
            refine (hSm _ hS.low _ _ (t14.out hS (Nat.le_refl _)).any).mono ?_
            rintro e' w'' ⟨rfl, hb2⟩
            exact hK.out _ _ hb2 Eq1.mk Fresh.no
          · intro p vs w' K hJ hp1 hp2 hS hR hK
            simp only [DepJ, List.getD_cons_zero, List.getD_cons_succ] at hJ
            obtain ⟨j12, j16, -⟩ := hJ
            have j12 := Eq1.out j12
            have j16 := Eq1.out j16
            simp only [j12, j16] at hK ⊢
            rw [if_pos (by rfl)]
            go_step
            exact hK.out _ _ (Below.refl _ _) (Eq1.of (by first | rfl | (simp; done) | (simp; omega))) Fresh.no
          · intro p vs w' K hJ hp1 hp2 hS hR hK
            simp only [DepJ, List.getD_cons_zero, List.getD_cons_succ] at hJ
            obtain ⟨j12, j17, -⟩ := hJ
            have j12 := Eq1.out j12
            have j17 := Eq1.out j17
            simp only [j12, j17] at hK ⊢
            rw [if_pos (by rfl)]
            go_step
            exact hK.out _ _ (Below.refl _ _) Eq1.mk Fresh.no
        case hst_4 => refine ⟨fun _ _ _ _ h => h, fun _ _ _ _ h => h, fun _ _ _ _ h => h, fun _ _ _ _ h => h, fun _ _ _ _ h => h, fun _ _ _ _ h => h, fun _ _ _ _ h => h, fun _ _ _ _ h => h, fun _ _ _ _ h => h, fun _ _ _ _ h => h, fun _ _ _ _ h => h, fun _ _ _ _ h => h, fun _ _ _ _ h => h, fun _ _ _ _ h => h, fun _ _ _ hs h => TreeV.stay hs h, fun _ _ _ _ h => h, fun _ _ _ _ h => h, fun _ _ _ _ h => h, fun _ _ _ _ h => h, trivial⟩
        intro vs w' hJ hD hS hR
        simp only [AllJ, Nat.reduceAdd] at hJ
        obtain ⟨v0, v1, v2, v3, v4, v5, v6, v7, v8, v9, v10, v11, v12, v13, v14, v15, v16, v17, v18, -⟩ := hJ
        clear C
        replace v0 := Eq1.out v0
        replace v1 := Eq1.out v1
        replace v2 := Eq1.out v2
        replace v3 := Eq1.out v3
        replace v4 := Eq1.out v4
        replace v5 := Eq1.out v5
        replace v6 := Eq1.out v6
        replace v7 := Eq1.out v7
        replace v8 := Eq1.out v8
        replace v9 := Eq1.out v9
        replace v10 := Eq1.out v10
        replace v11 := Eq1.out v11
        replace v12 := Eq1.out v12
        replace v13 := Eq1.out v13
        replace v15 := Eq1.out v15
        replace v16 := Eq1.out v16
        replace v17 := Eq1.out v17
        replace v18 := Eq1.out v18
        obtain ⟨x0, x1, x2, x3, x4, e14, t14⟩ := v14
        simp only [v0, v1, v2, v3, v4, v5, v6, v7, v8, v9, v10, v11, v12, v13, v15, v16, v17, v18, e14, List.drop_succ_cons, List.drop_zero]
        refine wpList_nil' ?_
        have H' : Hp _ _ _ := hS
        clear hD hR hS v0 v1 v2 v3 v4 v5 v6 v7 v8 v9 v10 v11 v12 v13 v15 v16 v17 v18
        clear t14 e14
        clear vs H
        have H := H'; clear H'; have C := Hp.facts H; simp only [Facts, factsL, and_true, true_and, List.set_cons_zero, List.set_cons_succ, List.setIfInBounds_toArray] at C
        have H' := HO.step H.low
        clear HO CO H C hOf hSm gyq
        have H := H'
        clear H'
        have C := Hp.facts H
        simp only [Facts, factsL, and_true, true_and, List.set_cons_zero, List.set_cons_succ, List.setIfInBounds_toArray] at C
        (repeat' ((fail_if_success (with_reducible show bodyPost _ _ _ _ _ _)); first | ((with_reducible refine Hp.abs_alloc H ?_); intro b' w' H' hb'; (try simp only [hb']); clear hb'; ((try simp only [List.set_cons_zero, List.set_cons_succ, List.setIfInBounds_toArray] at H'); clear C H; have H := H'; clear H'; have C := Hp.facts H; simp only [Facts, factsL, and_true, true_and, List.set_cons_zero, List.set_cons_succ, List.setIfInBounds_toArray] at C)) | ((with_reducible show wpList _ _ _ _ _ (World.setCell _ _ _)); (with_reducible apply Hp.abs_gen H); (first | ((repeat (with_reducible apply Hp.set' 0)); (with_reducible exact H); (repeat rfl); intro w' H') | ((repeat (with_reducible apply Hp.set' 1)); (with_reducible exact H); (repeat rfl); intro w' H') | ((repeat (with_reducible apply Hp.set' 2)); (with_reducible exact H); (repeat rfl); intro w' H') | ((repeat (with_reducible apply Hp.set' 3)); (with_reducible exact H); (repeat rfl); intro w' H') | ((repeat (with_reducible apply Hp.set' 4)); (with_reducible exact H); (repeat rfl); intro w' H') | ((repeat (with_reducible apply Hp.set' 5)); (with_reducible exact H); (repeat rfl); intro w' H') | ((repeat (with_reducible apply Hp.set' 6)); (with_reducible exact H); (repeat rfl); intro w' H') | ((repeat (with_reducible apply Hp.set' 7)); (with_reducible exact H); (repeat rfl); intro w' H') | ((repeat (with_reducible apply Hp.set' 8)); (with_reducible exact H); (repeat rfl); intro w' H') | ((repeat (with_reducible apply Hp.set' 9)); (with_reducible exact H); (repeat rfl); intro w' H') | ((repeat (with_reducible apply Hp.set' 10)); (with_reducible exact H); (repeat rfl); intro w' H') | ((repeat (with_reducible apply Hp.set' 11)); (with_reducible exact H); (repeat rfl); intro w' H') | ((repeat (with_reducible apply Hp.set' 12)); (with_reducible exact H); (repeat rfl); intro w' H') | ((repeat (with_reducible apply Hp.set' 13)); (with_reducible exact H); (repeat rfl); intro w' H')); ((try simp only [List.set_cons_zero, List.set_cons_succ, List.setIfInBounds_toArray] at H'); clear C H; have H := H'; clear H'; have C := Hp.facts H; simp only [Facts, factsL, and_true, true_and, List.set_cons_zero, List.set_cons_succ, List.setIfInBounds_toArray] at C)) | go_values | go_skip | go_guarded | go_step | go_upon | go_back | (simp only [Int.not_lt, Int.not_le] at *; go_simp) | (go_values <;> (try go_simp)) | (go_ite <;> go_prune <;> (try go_simp)) | (split <;> (first | (rename_i hx; exact (hx _ rfl).elim) | go_prune))))
        (obtain ⟨b8, rfl⟩ := Hp.name H 1 rfl)
        obtain ⟨M, hM, hrel0⟩ := FiRel.start (y3 := .slice none 0 0) (n := 0) (zs := []) rfl (H.nilRow 5 1)
        clear H C
        go_loopw [12] (fun ix wr => FiRel w (.slice none 0 0) 0 M ix wr) (fun ix _ => 0 - (intOf ix).toNat)
        case atStart => exact hrel0
        case round =>
          clear hrel0
          obtain ⟨i, zs, hi, rfl, hzl, H⟩ := hrel
          rw [hM] at H
          have C := Hp.facts H
          simp only [Facts, factsL, and_true, true_and, List.set_cons_zero, List.set_cons_succ, List.setIfInBounds_toArray] at C
          · obtain rfl : i = 0 := by omega
            have hik := hM
            clear hM
            (repeat' ((fail_if_success (with_reducible show bodyPost _ _ _ _ _ _)); first | ((with_reducible refine Hp.abs_alloc H ?_); intro b' w' H' hb'; (try simp only [hb']); clear hb'; ((try simp only [List.set_cons_zero, List.set_cons_succ, List.setIfInBounds_toArray] at H'); clear C H; have H := H'; clear H'; have C := Hp.facts H; simp only [Facts, factsL, and_true, true_and, List.set_cons_zero, List.set_cons_succ, List.setIfInBounds_toArray] at C)) | ((with_reducible show wpList _ _ _ _ _ (World.setCell _ _ _)); (with_reducible apply Hp.abs_gen H); (first | ((repeat (with_reducible apply Hp.set' 0)); (with_reducible exact H); (repeat rfl); intro w' H') | ((repeat (with_reducible apply Hp.set' 1)); (with_reducible exact H); (repeat rfl); intro w' H') | ((repeat (with_reducible apply Hp.set' 2)); (with_reducible exact H); (repeat rfl); intro w' H') | ((repeat (with_reducible apply Hp.set' 3)); (with_reducible exact H); (repeat rfl); intro w' H') | ((repeat (with_reducible apply Hp.set' 4)); (with_reducible exact H); (repeat rfl); intro w' H') | ((repeat (with_reducible apply Hp.set' 5)); (with_reducible exact H); (repeat rfl); intro w' H') | ((repeat (with_reducible apply Hp.set' 6)); (with_reducible exact H); (repeat rfl); intro w' H') | ((repeat (with_reducible apply Hp.set' 7)); (with_reducible exact H); (repeat rfl); intro w' H') | ((repeat (with_reducible apply Hp.set' 8)); (with_reducible exact H); (repeat rfl); intro w' H') | ((repeat (with_reducible apply Hp.set' 9)); (with_reducible exact H); (repeat rfl); intro w' H') | ((repeat (with_reducible apply Hp.set' 10)); (with_reducible exact H); (repeat rfl); intro w' H') | ((repeat (with_reducible apply Hp.set' 11)); (with_reducible exact H); (repeat rfl); intro w' H') | ((repeat (with_reducible apply Hp.set' 12)); (with_reducible exact H); (repeat rfl); intro w' H') | ((repeat (with_reducible apply Hp.set' 13)); (with_reducible exact H); (repeat rfl); intro w' H')); ((try simp only [List.set_cons_zero, List.set_cons_succ, List.setIfInBounds_toArray] at H'); clear C H; have H := H'; clear H'; have C := Hp.facts H; simp only [Facts, factsL, and_true, true_and, List.set_cons_zero, List.set_cons_succ, List.setIfInBounds_toArray] at C)) | go_values | go_skip | go_guarded | go_step | go_upon | go_back | (simp only [Int.not_lt, Int.not_le] at *; go_simp) | (go_values <;> (try go_simp)) | (go_ite <;> go_prune <;> (try go_simp)) | (split <;> (first | (rename_i hx; exact (hx _ rfl).elim) | go_prune))))
            refine (find_any na ta _ ps _ _ ((gx.out _ _ H (fun x hx => by simp [hx])).any) (by omega) (by omega) (hZ.out.step H.low) (by omega)).mono ?_
            rintro e' wY ⟨-, h2, hb⟩
            obtain rfl := h2 hf.out
            clear h2
            (have H' := Hp.step H hb; clear hb; ((try simp only [List.set_cons_zero, List.set_cons_succ, List.setIfInBounds_toArray] at H'); clear C H; have H := H'; clear H'; have C := Hp.facts H; simp only [Facts, factsL, and_true, true_and, List.set_cons_zero, List.set_cons_succ, List.setIfInBounds_toArray] at C))
            (repeat' ((fail_if_success (with_reducible show bodyPost _ _ _ _ _ _)); first | ((with_reducible refine Hp.abs_alloc H ?_); intro b' w' H' hb'; (try simp only [hb']); clear hb'; ((try simp only [List.set_cons_zero, List.set_cons_succ, List.setIfInBounds_toArray] at H'); clear C H; have H := H'; clear H'; have C := Hp.facts H; simp only [Facts, factsL, and_true, true_and, List.set_cons_zero, List.set_cons_succ, List.setIfInBounds_toArray] at C)) | ((with_reducible show wpList _ _ _ _ _ (World.setCell _ _ _)); (with_reducible apply Hp.abs_gen H); (first | ((repeat (with_reducible apply Hp.set' 0)); (with_reducible exact H); (repeat rfl); intro w' H') | ((repeat (with_reducible apply Hp.set' 1)); (with_reducible exact H); (repeat rfl); intro w' H') | ((repeat (with_reducible apply Hp.set' 2)); (with_reducible exact H); (repeat rfl); intro w' H') | ((repeat (with_reducible apply Hp.set' 3)); (with_reducible exact H); (repeat rfl); intro w' H') | ((repeat (with_reducible apply Hp.set' 4)); (with_reducible exact H); (repeat rfl); intro w' H') | ((repeat (with_reducible apply Hp.set' 5)); (with_reducible exact H); (repeat rfl); intro w' H') | ((repeat (with_reducible apply Hp.set' 6)); (with_reducible exact H); (repeat rfl); intro w' H') | ((repeat (with_reducible apply Hp.set' 7)); (with_reducible exact H); (repeat rfl); intro w' H') | ((repeat (with_reducible apply Hp.set' 8)); (with_reducible exact H); (repeat rfl); intro w' H') | ((repeat (with_reducible apply Hp.set' 9)); (with_reducible exact H); (repeat rfl); intro w' H') | ((repeat (with_reducible apply Hp.set' 10)); (with_reducible exact H); (repeat rfl); intro w' H') | ((repeat (with_reducible apply Hp.set' 11)); (with_reducible exact H); (repeat rfl); intro w' H') | ((repeat (with_reducible apply Hp.set' 12)); (with_reducible exact H); (repeat rfl); intro w' H') | ((repeat (with_reducible apply Hp.set' 13)); (with_reducible exact H); (repeat rfl); intro w' H')); ((try simp only [List.set_cons_zero, List.set_cons_succ, List.setIfInBounds_toArray] at H'); clear C H; have H := H'; clear H'; have C := Hp.facts H; simp only [Facts, factsL, and_true, true_and, List.set_cons_zero, List.set_cons_succ, List.setIfInBounds_toArray] at C)) | go_values | go_skip | go_guarded | go_step | go_upon | go_back | (simp only [Int.not_lt, Int.not_le] at *; go_simp) | (go_values <;> (try go_simp)) | (go_ite <;> go_prune <;> (try go_simp)) | (split <;> (first | (rename_i hx; exact (hx _ rfl).elim) | go_prune))))
            obtain ⟨wq, rfl⟩ := Hp.nameW H
            have HO := H
            have CO := C
            have gyq := Kp.mk (zero_it (· < wq.heap.size) wq 0)
            have gzq := Kp.mk (zero_it (· < w.heap.size) wq 0)
            have gxq := Kp.mk ((gx.out _ _ HO (fun x hx => by simp [hx])).any)
            have gaq := Kp.mk ((gta.out.step HO.low).weak (Q := (· < wq.heap.size)) fun b _ hl => hl)
            have gbq := Kp.mk ((gtb.out.step HO.low).weak (Q := (· < wq.heap.size)) fun b _ hl => hl)
            have hOf := fun w1 (h : Below wq.heap.size wq w1) => of7_any 1 zt _ w1 wq.heap.size h.size (gyq.out.step h) hcu
            have hSm := fun w1 (h : Below wq.heap.size wq w1) (m2 : Nat) (cs2 : List Value) (h2 : ItN w1 m2 zt cs2) => rtsame_any m2 zt cs2 1 zt _ w1 h2 ((gzq.out.step h).any) hcu hcu
            have hTb := fun w1 (h : Below wq.heap.size wq w1) => to7_any nb tb _ w1 wq.heap.size h.size (gbq.out.step h) (by omega)
            have hTa := fun w1 (h : Below wq.heap.size wq w1) => to7_any na ta _ w1 wq.heap.size h.size (gaq.out.step h) (by omega)
            have hSb := fun w1 (h : Below wq.heap.size wq w1) (m2 : Nat) (cs2 : List Value) (h2 : ItN w1 m2 tb cs2) => same7_any na ta _ m2 tb cs2 w1 (gxq.out.step h) h2 (by omega) (by omega)
            have hSa := fun w1 (h : Below wq.heap.size wq w1) (m2 : Nat) (cs2 : List Value) (h2 : ItN w1 m2 ta cs2) => same7_any na ta _ m2 ta cs2 w1 (gxq.out.step h) h2 (by omega) (by omega)
            have hSr := fun w1 (h : Below wq.heap.size wq w1) => rtsame_any na ta _ nb tb _ w1 ((gaq.out.step h).any) ((gbq.out.step h).any) (by omega) (by omega)
            simp only [Tree.same_self] at hSm hSa
            generalize ta.same tb = sv at hSb hSr
            clear H C
            have H := Hp.start wq
            have C := Hp.facts H
            simp only [Facts, factsL, and_true, true_and, List.set_cons_zero, List.set_cons_succ, List.setIfInBounds_toArray] at C
            try simp (disch := omega) only [decide_eq_true, decide_eq_false]
            obtain ⟨wR14n, rfl⟩ := Hp.nameW H
            apply region_n (frm wR14n.heap.size (fun _ => Hp _ _)) (frm_ok ?hfs_5) frm_sz [] [.light 0 0, .light 0 0, .light 0 0, .light 0 0, .light 0 0, .light 0 0, .light 0 0, .light 0 0, .light 0 0, .light 0 0, .light 0 0, .light 0 0, .light 0 0, .light 0 0, .light 0 0, .light 0 0, .light 0 0, .light 0 0, .light 0 0, .light 0 0, .light 0 0, .light 0 0, .light 0 0, .light 0 0, .light 0 0, .light 0 0, .light 0 0, .light 0 0, .light 0 0] [false, false, false, false, false, false, false, false, false, false, false, false, false, false, false, false, false, false, false, false, false, false, false, false, false, false, false, false, false] 29 113 [] [some 85, some 86, some 87, some 88, some 89, some 90, some 91, some 92, some 93, some 94, some 95, some 96, some 97, some 98, some 99, some 100, some 101, some 102, some 103, some 104, some 105, some 106, some 107, some 108, some 109, some 110, some 111, some 112, some 6] [[], [0], [1], [1], [1, 2, 3], [1, 4], [5], [6], [6, 7], [6], [6, 8, 9], [6, 10], [11], [12], [12], [12, 14], [12, 13, 15], [12], [12], [12, 17, 18], [12, 16, 19], [12, 20], [21], [22], [22], [22, 24], [22, 23, 25], [22, 26], [27]] [Eq1 (.bool true), Eq1 _, Eq1 _, Eq1 _, Eq1 (.bool true), Eq1 _, Eq1 _, Eq1 _, (TreeV wR14n.heap.size wR14n.heap.size wR14n 1 zt), Eq1 _, Eq1 (.bool true), Eq1 _, Eq1 _, Eq1 _, Eq1 _, (TreeV wR14n.heap.size wR14n.heap.size wR14n nb tb), Eq1 (.bool sv), Eq1 _, Eq1 _, Eq1 (.bool sv), Eq1 (.bool true), Eq1 _, Eq1 _, Eq1 _, Eq1 _, (TreeV wR14n.heap.size wR14n.heap.size wR14n na ta), Eq1 (.bool true), Eq1 _, Eq1 _] ?hq1_5 ?hq2_5 ?hq3_5 ?hq4_5 ?hq5_5 ?hq6_5 _ ?hA_5 ?hst_5 ?h0_5 ?hsteps_5 ?hend_5
            case hq1_5 => kernel_rfl
            case hq2_5 => kernel_rfl
            case hq3_5 => kernel_rfl
            case hq5_5 => kernel_rfl
            case hq4_5 => rfl
            case hq6_5 => rfl
            case hA_5 => intro vs; simp only [fillD, Nat.reduceAdd, Act.put, List.setIfInBounds_toArray, List.set_cons_zero, List.set_cons_succ]; rfl
            case h0_5 => exact H.drew
            case hfs_5 => exact fun _ _ _ hb h => Hp.step h hb
            case hsteps_5 =>
              refine ⟨?_, ?_, ?_, ?_, ?_, ?_, ?_, ?_, ?_, ?_, ?_, ?_, ?_, ?_, ?_, ?_, ?_, ?_, ?_, ?_, ?_, ?_, ?_, ?_, ?_, ?_, ?_, ?_, ?_, trivial⟩
              · intro p vs w' K hJ hp1 hp2 hS hR hK
                rw [if_pos (by rfl)]
                have C := Hp.facts hS
                simp only [Facts, factsL, and_true, true_and, List.set_cons_zero, List.set_cons_succ, List.setIfInBounds_toArray] at C
                have hsz := hR.1
                go_step
                refine (known7_any _).mono ?_
                rintro e' w'' ⟨rfl, hb⟩
                exact hK.out _ _ hb (Eq1.of (rfl)) Fresh.no
              · intro p vs w' K hJ hp1 hp2 hS hR hK
                simp only [DepJ, List.getD_cons_zero, List.getD_cons_succ] at hJ
                obtain ⟨j0, -⟩ := hJ
                have j0 := Eq1.out j0
                simp only [j0] at hK ⊢
                rw [if_pos (by rfl)]
                go_step
                exact hK.out _ _ (Below.refl _ _) Eq1.mk Fresh.no
              · intro p vs w' K hJ hp1 hp2 hS hR hK
                simp only [DepJ, List.getD_cons_zero, List.getD_cons_succ] at hJ
                obtain ⟨j1, -⟩ := hJ
                have j1 := Eq1.out j1
                simp only [j1] at hK ⊢
                rw [if_pos (by rfl)]
                go_step
                exact hK.out _ _ (Below.refl _ _) Eq1.mk Fresh.no
              · intro p vs w' K hJ hp1 hp2 hS hR hK
                simp only [DepJ, List.getD_cons_zero, List.getD_cons_succ] at hJ
                obtain ⟨j1, -⟩ := hJ
                have j1 := Eq1.out j1
                simp only [j1] at hK ⊢
                rw [if_pos (by rfl)]
                go_step
                exact hK.out _ _ (Below.refl _ _) Eq1.mk Fresh.no
              · intro p vs w' K hJ hp1 hp2 hS hR hK
                simp only [DepJ, List.getD_cons_zero, List.getD_cons_succ] at hJ
                obtain ⟨j1, j2, j3, -⟩ := hJ
                have j1 := Eq1.out j1
                have j2 := Eq1.out j2
                have j3 := Eq1.out j3
                simp only [j1, j2, j3] at hK ⊢
                rw [if_pos (by rfl)]
                go_step
                exact hK.out _ _ (Below.refl _ _) (Eq1.of (by first | rfl | (simp; done) | (simp; omega))) Fresh.no
              · intro p vs w' K hJ hp1 hp2 hS hR hK
                simp only [DepJ, List.getD_cons_zero, List.getD_cons_succ] at hJ
                obtain ⟨j1, j4, -⟩ := hJ
                have j1 := Eq1.out j1
                have j4 := Eq1.out j4
                simp only [j1, j4] at hK ⊢
                rw [if_pos (by rfl)]
                go_step
                exact hK.out _ _ (Below.refl _ _) Eq1.mk Fresh.no
              · intro p vs w' K hJ hp1 hp2 hS hR hK
                simp only [DepJ, List.getD_cons_zero, List.getD_cons_succ] at hJ
                obtain ⟨j5, -⟩ := hJ
                have j5 := Eq1.out j5
                simp only [j5] at hK ⊢
                rw [if_pos (by rfl)]
                go_step
                exact hK.out _ _ (Below.refl _ _) Eq1.mk Fresh.no
              · intro p vs w' K hJ hp1 hp2 hS hR hK
                simp only [DepJ, List.getD_cons_zero, List.getD_cons_succ] at hJ
                obtain ⟨j6, -⟩ := hJ
                have j6 := Eq1.out j6
                simp only [j6] at hK ⊢
                rw [if_pos (by rfl)]
                have C := Hp.facts hS
                simp only [Facts, factsL, and_true, true_and, List.set_cons_zero, List.set_cons_succ, List.setIfInBounds_toArray] at C
                have hsz := hR.1
                go_step
                exact hK.out _ _ (Below.refl _ _) Eq1.mk Fresh.no
              · intro p vs w' K hJ hp1 hp2 hS hR hK
                simp only [DepJ, List.getD_cons_zero, List.getD_cons_succ] at hJ
                obtain ⟨j6, j7, -⟩ := hJ
                have j6 := Eq1.out j6
                have j7 := Eq1.out j7
                simp only [j6, j7] at hK ⊢
                rw [if_pos (by rfl)]
                replace hS : Hp _ _ _ := hS
                have C := Hp.facts hS
                simp only [Facts, factsL, and_true, true_and, List.set_cons_zero, List.set_cons_succ, List.setIfInBounds_toArray] at C
                have hsz := hR.1
                go_step
                refine (hOf _ hS.low).mono ?_
                rintro e' w'' ⟨⟨cs2, rfl, ht2⟩, hb2⟩
                exact hK.out _ _ hb2 (TreeV.mk hS (Nat.le_refl _) hR.1 hb2 ht2) Fresh.no
              · intro p vs w' K hJ hp1 hp2 hS hR hK
                simp only [DepJ, List.getD_cons_zero, List.getD_cons_succ] at hJ
                obtain ⟨j6, -⟩ := hJ
                have j6 := Eq1.out j6
                simp only [j6] at hK ⊢
                rw [if_pos (by rfl)]
                have C := Hp.facts hS
                simp only [Facts, factsL, and_true, true_and, List.set_cons_zero, List.set_cons_succ, List.setIfInBounds_toArray] at C
                have hsz := hR.1
                go_step
                exact hK.out _ _ (Below.refl _ _) Eq1.mk Fresh.no
              · intro p vs w' K hJ hp1 hp2 hS hR hK
                simp only [DepJ, List.getD_cons_zero, List.getD_cons_succ] at hJ
                obtain ⟨j6, j8, j9, -⟩ := hJ
                have j6 := Eq1.out j6
                obtain ⟨x0, x1, x2, x3, x4, j8, t8⟩ := j8
                have j9 := Eq1.out j9
                simp only [j6, j8, j9] at hK ⊢
                rw [if_pos (by rfl)]
                replace hS : Hp _ _ _ := hS
                have C := Hp.facts hS
                simp only [Facts, factsL, and_true, true_and, List.set_cons_zero, List.set_cons_succ, List.setIfInBounds_toArray] at C
                have hsz := hR.1
                go_step
                refine (hSm _ hS.low _ _ (t8.out hS (Nat.le_refl _)).any).mono ?_
                rintro e' w'' ⟨rfl, hb2⟩
                exact hK.out _ _ hb2 Eq1.mk Fresh.no
              · intro p vs w' K hJ hp1 hp2 hS hR hK
                simp only [DepJ, List.getD_cons_zero, List.getD_cons_succ] at hJ
                obtain ⟨j6, j10, -⟩ := hJ
                have j6 := Eq1.out j6
                have j10 := Eq1.out j10
                simp only [j6, j10] at hK ⊢
                rw [if_pos (by rfl)]
                go_step
                exact hK.out _ _ (Below.refl _ _) Eq1.mk Fresh.no
              · intro p vs w' K hJ hp1 hp2 hS hR hK
                simp only [DepJ, List.getD_cons_zero, List.getD_cons_succ] at hJ
                obtain ⟨j11, -⟩ := hJ
                have j11 := Eq1.out j11
                simp only [j11] at hK ⊢
                rw [if_pos (by rfl)]
                go_step
                exact hK.out _ _ (Below.refl _ _) Eq1.mk Fresh.no
              · intro p vs w' K hJ hp1 hp2 hS hR hK
                simp only [DepJ, List.getD_cons_zero, List.getD_cons_succ] at hJ
                obtain ⟨j12, -⟩ := hJ
                have j12 := Eq1.out j12
                simp only [j12] at hK ⊢
                rw [if_pos (by rfl)]
                have C := Hp.facts hS
                simp only [Facts, factsL, and_true, true_and, List.set_cons_zero, List.set_cons_succ, List.setIfInBounds_toArray] at C
                have hsz := hR.1
                go_step
                exact hK.out _ _ (Below.refl _ _) Eq1.mk Fresh.no
              · intro p vs w' K hJ hp1 hp2 hS hR hK
                simp only [DepJ, List.getD_cons_zero, List.getD_cons_succ] at hJ
                obtain ⟨j12, -⟩ := hJ
                have j12 := Eq1.out j12
                simp only [j12] at hK ⊢
                rw [if_pos (by rfl)]
                have C := Hp.facts hS
                simp only [Facts, factsL, and_true, true_and, List.set_cons_zero, List.set_cons_succ, List.setIfInBounds_toArray] at C
                have hsz := hR.1
                go_step
                exact hK.out _ _ (Below.refl _ _) Eq1.mk Fresh.no
              · intro p vs w' K hJ hp1 hp2 hS hR hK
                simp only [DepJ, List.getD_cons_zero, List.getD_cons_succ] at hJ
                obtain ⟨j12, j14, -⟩ := hJ
                have j12 := Eq1.out j12
                have j14 := Eq1.out j14
                simp only [j12, j14] at hK ⊢
                rw [if_pos (by rfl)]
                replace hS : Hp _ _ _ := hS
                have C := Hp.facts hS
                simp only [Facts, factsL, and_true, true_and, List.set_cons_zero, List.set_cons_succ, List.setIfInBounds_toArray] at C
                have hsz := hR.1
                go_step
                refine (hTb _ hS.low).mono ?_
                rintro e' w'' ⟨⟨cs2, rfl, ht2⟩, hb2⟩
                exact hK.out _ _ hb2 (TreeV.mk hS (Nat.le_refl _) hR.1 hb2 ht2) Fresh.no
              · intro p vs w' K hJ hp1 hp2 hS hR hK
                simp only [DepJ, List.getD_cons_zero, List.getD_cons_succ] at hJ
                obtain ⟨j12, j13, j15, -⟩ := hJ
                have j12 := Eq1.out j12
                have j13 := Eq1.out j13
                obtain ⟨x0, x1, x2, x3, x4, j15, t15⟩ := j15
                simp only [j12, j13, j15] at hK ⊢
                rw [if_pos (by rfl)]
                replace hS : Hp _ _ _ := hS
                have C := Hp.facts hS
                simp only [Facts, factsL, and_true, true_and, List.set_cons_zero, List.set_cons_succ, List.setIfInBounds_toArray] at C
                have hsz := hR.1
                go_step
                refine (hSb _ hS.low _ _ (t15.out hS (Nat.le_refl _)).any).mono ?_
                rintro e' w'' ⟨rfl, hb2⟩
                exact hK.out _ _ hb2 Eq1.mk Fresh.no
              · intro p vs w' K hJ hp1 hp2 hS hR hK
                simp only [DepJ, List.getD_cons_zero, List.getD_cons_succ] at hJ
                obtain ⟨j12, -⟩ := hJ
                have j12 := Eq1.out j12
                simp only [j12] at hK ⊢
                rw [if_pos (by rfl)]
                have C := Hp.facts hS
                simp only [Facts, factsL, and_true, true_and, List.set_cons_zero, List.set_cons_succ, List.setIfInBounds_toArray] at C
                have hsz := hR.1
                go_step
                exact hK.out _ _ (Below.refl _ _) Eq1.mk Fresh.no
              · intro p vs w' K hJ hp1 hp2 hS hR hK
                simp only [DepJ, List.getD_cons_zero, List.getD_cons_succ] at hJ
                obtain ⟨j12, -⟩ := hJ
                have j12 := Eq1.out j12
                simp only [j12] at hK ⊢
                rw [if_pos (by rfl)]
                have C := Hp.facts hS
                simp only [Facts, factsL, and_true, true_and, List.set_cons_zero, List.set_cons_succ, List.setIfInBounds_toArray] at C
                have hsz := hR.1
                go_step
                exact hK.out _ _ (Below.refl _ _) Eq1.mk Fresh.no
              · intro p vs w' K hJ hp1 hp2 hS hR hK
                simp only [DepJ, List.getD_cons_zero, List.getD_cons_succ] at hJ
                obtain ⟨j12, j17, j18, -⟩ := hJ
                have j12 := Eq1.out j12
                have j17 := Eq1.out j17
                have j18 := Eq1.out j18
                simp only [j12, j17, j18] at hK ⊢
                rw [if_pos (by rfl)]
                have C := Hp.facts hS
                simp only [Facts, factsL, and_true, true_and, List.set_cons_zero, List.set_cons_succ, List.setIfInBounds_toArray] at C
                have hsz := hR.1
                go_step
                refine (hSr _ (show Hp _ _ _ from hS).low).mono ?_
                rintro e' w'' ⟨rfl, hb⟩
                exact hK.out _ _ hb (Eq1.of (rfl)) Fresh.no
              · intro p vs w' K hJ hp1 hp2 hS hR hK
                simp only [DepJ, List.getD_cons_zero, List.getD_cons_succ] at hJ
                obtain ⟨j12, j16, j19, -⟩ := hJ
                have j12 := Eq1.out j12
                have j16 := Eq1.out j16
                have j19 := Eq1.out j19
                simp only [j12, j16, j19] at hK ⊢
                rw [if_pos (by rfl)]
                go_step
                exact hK.out _ _ (Below.refl _ _) (Eq1.of (by simp)) Fresh.no
              · intro p vs w' K hJ hp1 hp2 hS hR hK
                simp only [DepJ, List.getD_cons_zero, List.getD_cons_succ] at hJ
                obtain ⟨j12, j20, -⟩ := hJ
                have j12 := Eq1.out j12
                have j20 := Eq1.out j20
                simp only [j12, j20] at hK ⊢
                rw [if_pos (by rfl)]
                go_step
                exact hK.out _ _ (Below.refl _ _) Eq1.mk Fresh.no
              · intro p vs w' K hJ hp1 hp2 hS hR hK
                simp only [DepJ, List.getD_cons_zero, List.getD_cons_succ] at hJ
                obtain ⟨j21, -⟩ := hJ
                have j21 := Eq1.out j21
                simp only [j21] at hK ⊢
                rw [if_pos (by rfl)]
                go_step
                exact hK.out _ _ (Below.refl _ _) Eq1.mk Fresh.no
              · intro p vs w' K hJ hp1 hp2 hS hR hK
                simp only [DepJ, List.getD_cons_zero, List.getD_cons_succ] at hJ
                obtain ⟨j22, -⟩ := hJ
                have j22 := Eq1.out j22
                simp only [j22] at hK ⊢
                rw [if_pos (by rfl)]
                have C := Hp.facts hS
                simp only [Facts, factsL, and_true, true_and, List.set_cons_zero, List.set_cons_succ, List.setIfInBounds_toArray] at C
                have hsz := hR.1
                go_step
                exact hK.out _ _ (Below.refl _ _) Eq1.mk Fresh.no
              · intro p vs w' K hJ hp1 hp2 hS hR hK
                simp only [DepJ, List.getD_cons_zero, List.getD_cons_succ] at hJ
                obtain ⟨j22, -⟩ := hJ
                have j22 := Eq1.out j22
                simp only [j22] at hK ⊢
                rw [if_pos (by rfl)]
                have C := Hp.facts hS
                simp only [Facts, factsL, and_true, true_and, List.set_cons_zero, List.set_cons_succ, List.setIfInBounds_toArray] at C
                have hsz := hR.1
                go_step
                exact hK.out _ _ (Below.refl _ _) Eq1.mk Fresh.no
              · intro p vs w' K hJ hp1 hp2 hS hR hK
                simp only [DepJ, List.getD_cons_zero, List.getD_cons_succ] at hJ
                obtain ⟨j22, j24, -⟩ := hJ
                have j22 := Eq1.out j22
                have j24 := Eq1.out j24
                simp only [j22, j24] at hK ⊢
                rw [if_pos (by rfl)]
                replace hS : Hp _ _ _ := hS
                have C := Hp.facts hS
                simp only [Facts, factsL, and_true, true_and, List.set_cons_zero, List.set_cons_succ, List.setIfInBounds_toArray] at C
                have hsz := hR.1
                go_step
                refine (hTa _ hS.low).mono ?_
                rintro e' w'' ⟨⟨cs2, rfl, ht2⟩, hb2⟩
                exact hK.out _ _ hb2 (TreeV.mk hS (Nat.le_refl _) hR.1 hb2 ht2) Fresh.no
              · intro p vs w' K hJ hp1 hp2 hS hR hK
                simp only [DepJ, List.getD_cons_zero, List.getD_cons_succ] at hJ
                obtain ⟨j22, j23, j25, -⟩ := hJ
                have j22 := Eq1.out j22
                have j23 := Eq1.out j23
                obtain ⟨x0, x1, x2, x3, x4, j25, t25⟩ := j25
                simp only [j22, j23, j25] at hK ⊢
                rw [if_pos (by rfl)]
                replace hS : Hp _ _ _ := hS
                have C := Hp.facts hS
                simp only [Facts, factsL, and_true, true_and, List.set_cons_zero, List.set_cons_succ, List.setIfInBounds_toArray] at C
                have hsz := hR.1
                go_step
                refine (hSa _ hS.low _ _ (t25.out hS (Nat.le_refl _)).any).mono ?_
                rintro e' w'' ⟨rfl, hb2⟩
                exact hK.out _ _ hb2 Eq1.mk Fresh.no
              · intro p vs w' K hJ hp1 hp2 hS hR hK
                simp only [DepJ, List.getD_cons_zero, List.getD_cons_succ] at hJ
                obtain ⟨j22, j26, -⟩ := hJ
                have j22 := Eq1.out j22
                have j26 := Eq1.out j26
                simp only [j22, j26] at hK ⊢
                rw [if_pos (by rfl)]
                go_step
                exact hK.out _ _ (Below.refl _ _) Eq1.mk Fresh.no
              · intro p vs w' K hJ hp1 hp2 hS hR hK
                simp only [DepJ, List.getD_cons_zero, List.getD_cons_succ] at hJ
                obtain ⟨j27, -⟩ := hJ
                have j27 := Eq1.out j27
                simp only [j27] at hK ⊢
                rw [if_pos (by rfl)]
                go_step
                exact hK.out _ _ (Below.refl _ _) Eq1.mk Fresh.no
            case hst_5 => refine ⟨fun _ _ _ _ h => h, fun _ _ _ _ h => h, fun _ _ _ _ h => h, fun _ _ _ _ h => h, fun _ _ _ _ h => h, fun _ _ _ _ h => h, fun _ _ _ _ h => h, fun _ _ _ _ h => h, fun _ _ _ hs h => TreeV.stay hs h, fun _ _ _ _ h => h, fun _ _ _ _ h => h, fun _ _ _ _ h => h, fun _ _ _ _ h => h, fun _ _ _ _ h => h, fun _ _ _ _ h => h, fun _ _ _ hs h => TreeV.stay hs h, fun _ _ _ _ h => h, fun _ _ _ _ h => h, fun _ _ _ _ h => h, fun _ _ _ _ h => h, fun _ _ _ _ h => h, fun _ _ _ _ h => h, fun _ _ _ _ h => h, fun _ _ _ _ h => h, fun _ _ _ _ h => h, fun _ _ _ hs h => TreeV.stay hs h, fun _ _ _ _ h => h, fun _ _ _ _ h => h, fun _ _ _ _ h => h, trivial⟩
            intro vs w' hJ hD hS hR
            simp only [AllJ, Nat.reduceAdd] at hJ
            obtain ⟨v0, v1, v2, v3, v4, v5, v6, v7, v8, v9, v10, v11, v12, v13, v14, v15, v16, v17, v18, v19, v20, v21, v22, v23, v24, v25, v26, v27, v28, -⟩ := hJ
            clear C
            replace v0 := Eq1.out v0
            replace v1 := Eq1.out v1
            replace v2 := Eq1.out v2
            replace v3 := Eq1.out v3
            replace v4 := Eq1.out v4
            replace v5 := Eq1.out v5
            replace v6 := Eq1.out v6
            replace v7 := Eq1.out v7
            replace v9 := Eq1.out v9
            replace v10 := Eq1.out v10
            replace v11 := Eq1.out v11
            replace v12 := Eq1.out v12
            replace v13 := Eq1.out v13
            replace v14 := Eq1.out v14
            replace v16 := Eq1.out v16
            replace v17 := Eq1.out v17
            replace v18 := Eq1.out v18
            replace v19 := Eq1.out v19
            replace v20 := Eq1.out v20
            replace v21 := Eq1.out v21
            replace v22 := Eq1.out v22
            replace v23 := Eq1.out v23
            replace v24 := Eq1.out v24
            replace v26 := Eq1.out v26
            replace v27 := Eq1.out v27
            replace v28 := Eq1.out v28
            obtain ⟨x0, x1, x2, x3, x4, e8, t8⟩ := v8
            obtain ⟨x0, x1, x2, x3, x4, e15, t15⟩ := v15
            obtain ⟨x0, x1, x2, x3, x4, e25, t25⟩ := v25
            simp only [v0, v1, v2, v3, v4, v5, v6, v7, v9, v10, v11, v12, v13, v14, v16, v17, v18, v19, v20, v21, v22, v23, v24, v26, v27, v28, e8, e15, e25, List.drop_succ_cons, List.drop_zero]
            refine wpList_nil' ?_
            have H' : Hp _ _ _ := hS
            clear hD hR hS v0 v1 v2 v3 v4 v5 v6 v7 v9 v10 v11 v12 v13 v14 v16 v17 v18 v19 v20 v21 v22 v23 v24 v26 v27 v28
            clear t8 e8
            clear t15 e15
            clear t25 e25
            clear vs H
            have H := H'; clear H'; have C := Hp.facts H; simp only [Facts, factsL, and_true, true_and, List.set_cons_zero, List.set_cons_succ, List.setIfInBounds_toArray] at C
            have H' := HO.step H.low
            clear HO CO H C
            have H := H'
            clear H'
            have C := Hp.facts H
            simp only [Facts, factsL, and_true, true_and, List.set_cons_zero, List.set_cons_succ, List.setIfInBounds_toArray] at C
            (repeat' ((fail_if_success (with_reducible show bodyPost _ _ _ _ _ _)); first | ((with_reducible refine Hp.abs_alloc H ?_); intro b' w' H' hb'; (try simp only [hb']); clear hb'; ((try simp only [List.set_cons_zero, List.set_cons_succ, List.setIfInBounds_toArray] at H'); clear C H; have H := H'; clear H'; have C := Hp.facts H; simp only [Facts, factsL, and_true, true_and, List.set_cons_zero, List.set_cons_succ, List.setIfInBounds_toArray] at C)) | ((with_reducible show wpList _ _ _ _ _ (World.setCell _ _ _)); (with_reducible apply Hp.abs_gen H); (first | ((repeat (with_reducible apply Hp.set' 0)); (with_reducible exact H); (repeat rfl); intro w' H') | ((repeat (with_reducible apply Hp.set' 1)); (with_reducible exact H); (repeat rfl); intro w' H') | ((repeat (with_reducible apply Hp.set' 2)); (with_reducible exact H); (repeat rfl); intro w' H') | ((repeat (with_reducible apply Hp.set' 3)); (with_reducible exact H); (repeat rfl); intro w' H') | ((repeat (with_reducible apply Hp.set' 4)); (with_reducible exact H); (repeat rfl); intro w' H') | ((repeat (with_reducible apply Hp.set' 5)); (with_reducible exact H); (repeat rfl); intro w' H') | ((repeat (with_reducible apply Hp.set' 6)); (with_reducible exact H); (repeat rfl); intro w' H') | ((repeat (with_reducible apply Hp.set' 7)); (with_reducible exact H); (repeat rfl); intro w' H') | ((repeat (with_reducible apply Hp.set' 8)); (with_reducible exact H); (repeat rfl); intro w' H') | ((repeat (with_reducible apply Hp.set' 9)); (with_reducible exact H); (repeat rfl); intro w' H') | ((repeat (with_reducible apply Hp.set' 10)); (with_reducible exact H); (repeat rfl); intro w' H') | ((repeat (with_reducible apply Hp.set' 11)); (with_reducible exact H); (repeat rfl); intro w' H') | ((repeat (with_reducible apply Hp.set' 12)); (with_reducible exact H); (repeat rfl); intro w' H') | ((repeat (with_reducible apply Hp.set' 13)); (with_reducible exact H); (repeat rfl); intro w' H')); ((try simp only [List.set_cons_zero, List.set_cons_succ, List.setIfInBounds_toArray] at H'); clear C H; have H := H'; clear H'; have C := Hp.facts H; simp only [Facts, factsL, and_true, true_and, List.set_cons_zero, List.set_cons_succ, List.setIfInBounds_toArray] at C)) | go_values | go_skip | go_guarded | go_step | go_upon | go_back | (simp only [Int.not_lt, Int.not_le] at *; go_simp) | (go_values <;> (try go_simp)) | (go_ite <;> go_prune <;> (try go_simp)) | (split <;> (first | (rename_i hx; exact (hx _ rfl).elim) | go_prune))))
            go_ret
            exact ⟨rfl, H.low⟩
theorem itemFinds_any (na nb : Nat) (ta tb : Tree) (ca cb : List Value) (ps : List Int) (v : Value) (w : World) (hta : ItN w na ta ca) (htb : ItN w nb tb cb) (hfa : ta.Fit) (hfb : tb.Fit) (hp : Sl w v (ps.map (Value.int .i64))) :
    Calls Try.prog 5 #[.agg ca.toArray, .agg cb.toArray, v] w fun e w' => e = .returned (.bool true) ∧ Below w.heap.size w w' := by
  obtain ⟨A, c, rfl, h1, h2, -, -⟩ := id hp.openK
  have hZ := hp.frontK (k := min 100 ps.length) (by omega)
  rw [← List.map_take] at hZ
  have hK : (ps.take (min 100 ps.length)).length = min 100 ps.length := by simp
  generalize ps.take (min 100 ps.length) = L at *
  rw [← hK] at hZ
  exact itemFinds_core na nb ta tb ca cb ps.length A c L w (hta.weak fun b _ h => h) (htb.weak fun b _ h => h) hfa hfb hZ (by omega) (by omega) h1 h2
#print axioms itemFinds_any
end Go.Proofs.Ytogliinfdfkobaa

