/- Lemmas and walks on the way to the seat's laws; each theorem says its own conditions. -/
import Derived.Test.YtogliinfdfkobaaI33
import Derived.Test.YtogliinfdfkobaaI17
import Derived.Test.YtogliinfdfkobaaRangeB
set_option linter.unusedSimpArgs false
set_option linter.unusedVariables false
set_option linter.unusedSimpArgs false
set_option linter.unusedVariables false
set_option maxRecDepth 100000
namespace Go.Proofs.Ytogliinfdfkobaa
attribute [local go_sem] Oper.semAt_some
open Go.RowKit Go.Mem Go.Reg Oct Hd Go.LawLift
theorem keepTree3 {w0 w1 w2 : World} {L : List Ent} {B n : Nat} {t : Tree} {cs : List Value} (H : Hp w0 L w1) (hB : B ≤ w0.heap.size) (hb : Below w1.heap.size w1 w2) (ht : ItP (fun b => b < B ∨ w1.heap.size ≤ b) w2 n t cs) :
    ∃ Os, Hp w0 (L ++ Os) w2 ∧ ∀ w3 L3, Hp w0 L3 w3 → (∀ x ∈ Os, x ∈ L3) → ItP (Kept B Os) w3 n t cs := by
  have H2 := (H.step hb).keepAll (Hp.lows H) H.low.size
  refine ⟨_, H2, fun w3 L3 H3 hs => ?_⟩
  have h1 : ItP (Kept B (made w1.heap.size w2)) w2 n t cs := by simpa using ht.kept (Os := [])
  exact h1.move (Kept.agree hB H2 H3 (fun x hx => List.mem_append_right _ hx) hs)
theorem told_at {t : Tree} {pre tl : List TI} {x : TI} (h1 : (pre ++ [x]).map TI.is <+: t.told 1) (h2 : tl.map TI.is = t.told 1) : ∃ h : pre.length < tl.length, tl[pre.length].is = x.is := by
  obtain ⟨r, hr⟩ := h1
  have h3 : (tl.map TI.is)[pre.length]? = some x.is := by
    rw [h2, ← hr, List.map_append]
    simp
  rw [List.getElem?_map] at h3
  cases h4 : tl[pre.length]? with
  | none => rw [h4] at h3; cases h3
  | some y =>
    rw [h4] at h3
    obtain ⟨h5, h6⟩ := List.getElem?_eq_some_iff.1 h4
    refine ⟨h5, ?_⟩
    rw [h6]
    simpa using h3
mutual
theorem Tree.told_count : ∀ (t : Tree) (d : Nat) (x : Nat × Tree), x ∈ t.told d → x.2.count ≤ t.count
  | .mk t b ks, d, x, h => by
    rw [Tree.told, List.mem_cons] at h
    rcases h with rfl | h
    · exact Nat.le_refl _
    · have := Tree.tolds_count ks (d + 1) x h
      rw [Tree.count]
      omega
theorem Tree.tolds_count : ∀ (ks : List Tree) (d : Nat) (x : Nat × Tree), x ∈ Tree.tolds ks d → x.2.count ≤ Tree.counts ks
  | [], d, x, h => by simp [Tree.tolds] at h
  | k :: r, d, x, h => by
    rw [Tree.tolds, List.mem_append] at h
    rw [Tree.counts]
    rcases h with h | h
    · have := Tree.told_count k d x h
      omega
    · have := Tree.tolds_count r d x h
      omega
end
theorem told_form {x : TI} {d : Nat} {t : Tree} {c : List Value} (h : x.is = TI.is (d, t, c)) : ∃ cy, x = (d, t, cy) := by
  obtain ⟨a, u, e⟩ := x
  simp only [TI.is, Prod.mk.injEq] at h
  obtain ⟨rfl, rfl⟩ := h
  exact ⟨e, rfl⟩
theorem tdeps_at (tl : List TI) (i : Nat) (h : i < tl.length) : (tdeps tl)[i]? = some (.int .i64 (tl[i].1 : Int)) := by
  simp [tdeps, h]
theorem tvals_at : ∀ (tl : List TI), (∀ x ∈ tl, x.2.2.length = 5) → ∀ (i : Nat) (h : i < tl.length) (j : Nat), j < 5 → (tvals tl)[i * 5 + j]? = (tl[i].2.2)[j]?
  | [], _, i, h, _, _ => by simp at h
  | x :: r, hl, 0, h, j, hj => by
    have h5 := hl x (by simp)
    simp only [tvals, List.flatMap_cons, Nat.zero_mul, Nat.zero_add, List.getElem_cons_zero]
    rw [List.getElem?_append_left (by omega)]
  | x :: r, hl, i + 1, h, j, hj => by
    have h5 := hl x (by simp)
    have ih := tvals_at r (fun y hy => hl y (List.mem_cons_of_mem _ hy)) i (by simpa using h) j hj
    simp only [tvals, List.flatMap_cons, List.getElem_cons_succ]
    rw [List.getElem?_append_right (by omega), h5, show (i + 1) * 5 + j - 5 = i * 5 + j by omega]
    exact ih
/-- What the consumer holds. -/
def EaL (b8 b7 b5 b6 b3 b2 : Nat) (rv dv : Value) (tl : List TI) (N k : Nat) (tc : Array Value) (Ox : List Ent) : List Ent :=
  .blk b8 #[.bool true] 4 :: .blk b7 #[.int .i64 (k : Int)] 3 :: .blk b5 #[rv] 25 :: .row 27 5 rv tl.length (tvals tl) :: .blk b6 #[dv] 31 :: .row 3 1 dv tl.length (tdeps tl) :: .blk b3 #[.int .i64 (N : Int)] 3 :: .blk b2 tc 27 :: Ox
theorem mod300 (x : Int) : ∃ N : Nat, 1 ≤ N ∧ N ≤ 300 ∧ wrap64 (1 + wrap64 ((IntKind.u64.wrap x).tmod 300)) = (N : Int) := by
  have h0 : 0 ≤ IntKind.u64.wrap x := by
    have := IntKind.wrap_u64 x
    omega
  have h1 : (IntKind.u64.wrap x).tmod 300 = IntKind.u64.wrap x % 300 := Int.tmod_eq_emod_of_nonneg h0
  obtain ⟨r, hr⟩ : ∃ r : Nat, IntKind.u64.wrap x % 300 = r := ⟨(IntKind.u64.wrap x % 300).toNat, by omega⟩
  have hr3 : r < 300 := by omega
  refine ⟨1 + r, by omega, by omega, ?_⟩
  rw [h1, hr, show wrap64 (r : Int) = r by unfold wrap64; omega, show wrap64 (1 + (r : Int)) = 1 + r by unfold wrap64; omega]
  omega
set_option maxHeartbeats 3200000 in
theorem itemEach_core (n : Nat) (t : Tree) (cs : List Value) (st : Int) (N : Nat) (hN1 : 1 ≤ N) (hN2 : N ≤ 300) (hN : wrap64 (1 + wrap64 ((IntKind.u64.wrap st).tmod 300)) = (N : Int)) (w : World) (hta : ItP (· < w.heap.size) w n t cs) (hft : t.Fit) :
    Calls Try.prog 3 #[.agg cs.toArray, .int .i64 st] w fun e w' => e = .returned (.bool true) ∧ Below w.heap.size w w' := by
  have H := Hp.start w
  have C : True := trivial
  obtain ⟨d0, d1, d2, d3, d4, rfl⟩ := five_of hta.len
  obtain ⟨a0, a1, a2, aA, aB, ak, ac, am, ad, rfl, rfl, rfl, rfl, rfl⟩ := hta.forms
  have hFa := fun w1 (h : Below w.heap.size w w1) => few7_any n t _ w1 ((hta.any).step h) hft
  have gta := Kp.mk hta
  have gN := Kp.mk hN
  clear hta hft hN
  refine (callsIn_wide (n := 8)).1 (callsIn_of_wp_marks Try.func3 rfl trivial ?_ rfl)
  refine wpIn_wide.2 ?_
  simp only [Try.ntmps3, List.size_toArray, List.length_cons, List.length_nil, Nat.reduceAdd, Nat.reduceSub, Array.replicate_succ, Array.replicate_zero, List.push_toArray, List.append_toArray, List.nil_append, List.cons_append]
  (repeat' ((fail_if_success (with_reducible show bodyPost _ _ _ _ _ _)); first | ((with_reducible refine Hp.abs_alloc H ?_); intro b' w' H' hb'; (try simp only [hb']); clear hb'; ((try simp only [List.set_cons_zero, List.set_cons_succ, List.setIfInBounds_toArray] at H'); clear C H; have H := H'; clear H'; have C := Hp.facts H; simp only [Facts, factsL, and_true, true_and, List.set_cons_zero, List.set_cons_succ, List.setIfInBounds_toArray] at C)) | ((with_reducible show wpList _ _ _ _ _ (World.setCell _ _ _)); (with_reducible apply Hp.abs_gen H); (first | ((repeat (with_reducible apply Hp.set' 0)); (with_reducible exact H); (repeat rfl); intro w' H') | ((repeat (with_reducible apply Hp.set' 1)); (with_reducible exact H); (repeat rfl); intro w' H') | ((repeat (with_reducible apply Hp.set' 2)); (with_reducible exact H); (repeat rfl); intro w' H') | ((repeat (with_reducible apply Hp.set' 3)); (with_reducible exact H); (repeat rfl); intro w' H') | ((repeat (with_reducible apply Hp.set' 4)); (with_reducible exact H); (repeat rfl); intro w' H') | ((repeat (with_reducible apply Hp.set' 5)); (with_reducible exact H); (repeat rfl); intro w' H') | ((repeat (with_reducible apply Hp.set' 6)); (with_reducible exact H); (repeat rfl); intro w' H') | ((repeat (with_reducible apply Hp.set' 7)); (with_reducible exact H); (repeat rfl); intro w' H') | ((repeat (with_reducible apply Hp.set' 8)); (with_reducible exact H); (repeat rfl); intro w' H') | ((repeat (with_reducible apply Hp.set' 9)); (with_reducible exact H); (repeat rfl); intro w' H')); ((try simp only [List.set_cons_zero, List.set_cons_succ, List.setIfInBounds_toArray] at H'); clear C H; have H := H'; clear H'; have C := Hp.facts H; simp only [Facts, factsL, and_true, true_and, List.set_cons_zero, List.set_cons_succ, List.setIfInBounds_toArray] at C)) | (go_at_call 9; refine (known7_any _).mono ?_; rintro e' w' ⟨rfl, hb'⟩; (have H' := Hp.step H hb'; clear hb'; ((try simp only [List.set_cons_zero, List.set_cons_succ, List.setIfInBounds_toArray] at H'); clear C H; have H := H'; clear H'; have C := Hp.facts H; simp only [Facts, factsL, and_true, true_and, List.set_cons_zero, List.set_cons_succ, List.setIfInBounds_toArray] at C))) | go_values | go_skip | go_guarded | go_step | go_upon | go_back | (simp only [Int.not_lt, Int.not_le] at *; go_simp) | (go_values <;> (try go_simp)) | (go_ite <;> go_prune <;> (try go_simp)) | (split <;> (first | (rename_i hx; exact (hx _ rfl).elim) | go_prune))))
  refine (hFa _ H.low).mono ?_
  rintro e' w1 ⟨⟨oka, rfl, hoka⟩, hb⟩
  (have H' := Hp.step H hb; clear hb; ((try simp only [List.set_cons_zero, List.set_cons_succ, List.setIfInBounds_toArray] at H'); clear C H; have H := H'; clear H'; have C := Hp.facts H; simp only [Facts, factsL, and_true, true_and, List.set_cons_zero, List.set_cons_succ, List.setIfInBounds_toArray] at C))
  cases oka with
  | false =>
    clear hoka hFa
    (repeat' ((fail_if_success (with_reducible show bodyPost _ _ _ _ _ _)); first | ((with_reducible refine Hp.abs_alloc H ?_); intro b' w' H' hb'; (try simp only [hb']); clear hb'; ((try simp only [List.set_cons_zero, List.set_cons_succ, List.setIfInBounds_toArray] at H'); clear C H; have H := H'; clear H'; have C := Hp.facts H; simp only [Facts, factsL, and_true, true_and, List.set_cons_zero, List.set_cons_succ, List.setIfInBounds_toArray] at C)) | ((with_reducible show wpList _ _ _ _ _ (World.setCell _ _ _)); (with_reducible apply Hp.abs_gen H); (first | ((repeat (with_reducible apply Hp.set' 0)); (with_reducible exact H); (repeat rfl); intro w' H') | ((repeat (with_reducible apply Hp.set' 1)); (with_reducible exact H); (repeat rfl); intro w' H') | ((repeat (with_reducible apply Hp.set' 2)); (with_reducible exact H); (repeat rfl); intro w' H') | ((repeat (with_reducible apply Hp.set' 3)); (with_reducible exact H); (repeat rfl); intro w' H') | ((repeat (with_reducible apply Hp.set' 4)); (with_reducible exact H); (repeat rfl); intro w' H') | ((repeat (with_reducible apply Hp.set' 5)); (with_reducible exact H); (repeat rfl); intro w' H') | ((repeat (with_reducible apply Hp.set' 6)); (with_reducible exact H); (repeat rfl); intro w' H') | ((repeat (with_reducible apply Hp.set' 7)); (with_reducible exact H); (repeat rfl); intro w' H') | ((repeat (with_reducible apply Hp.set' 8)); (with_reducible exact H); (repeat rfl); intro w' H') | ((repeat (with_reducible apply Hp.set' 9)); (with_reducible exact H); (repeat rfl); intro w' H')); ((try simp only [List.set_cons_zero, List.set_cons_succ, List.setIfInBounds_toArray] at H'); clear C H; have H := H'; clear H'; have C := Hp.facts H; simp only [Facts, factsL, and_true, true_and, List.set_cons_zero, List.set_cons_succ, List.setIfInBounds_toArray] at C)) | (go_at_call 9; refine (known7_any _).mono ?_; rintro e' w' ⟨rfl, hb'⟩; (have H' := Hp.step H hb'; clear hb'; ((try simp only [List.set_cons_zero, List.set_cons_succ, List.setIfInBounds_toArray] at H'); clear C H; have H := H'; clear H'; have C := Hp.facts H; simp only [Facts, factsL, and_true, true_and, List.set_cons_zero, List.set_cons_succ, List.setIfInBounds_toArray] at C))) | go_values | go_skip | go_guarded | go_step | go_upon | go_back | (simp only [Int.not_lt, Int.not_le] at *; go_simp) | (go_values <;> (try go_simp)) | (go_ite <;> go_prune <;> (try go_simp)) | (split <;> (first | (rename_i hx; exact (hx _ rfl).elim) | go_prune))))
    exact ⟨.bool true, by simp [results, go_sem, C], rfl, H.low⟩
  | true =>
    obtain ⟨ha1, ha2, ha3⟩ := hoka rfl
    clear hoka hFa
    have hNo := gN.out
    (repeat' ((fail_if_success (with_reducible show bodyPost _ _ _ _ _ _)); first | ((with_reducible refine Hp.abs_alloc H ?_); intro b' w' H' hb'; (try simp only [hb']); clear hb'; ((try simp only [List.set_cons_zero, List.set_cons_succ, List.setIfInBounds_toArray] at H'); clear C H; have H := H'; clear H'; have C := Hp.facts H; simp only [Facts, factsL, and_true, true_and, List.set_cons_zero, List.set_cons_succ, List.setIfInBounds_toArray] at C)) | ((with_reducible show wpList _ _ _ _ _ (World.setCell _ _ _)); (with_reducible apply Hp.abs_gen H); (first | ((repeat (with_reducible apply Hp.set' 0)); (with_reducible exact H); (repeat rfl); intro w' H') | ((repeat (with_reducible apply Hp.set' 1)); (with_reducible exact H); (repeat rfl); intro w' H') | ((repeat (with_reducible apply Hp.set' 2)); (with_reducible exact H); (repeat rfl); intro w' H') | ((repeat (with_reducible apply Hp.set' 3)); (with_reducible exact H); (repeat rfl); intro w' H') | ((repeat (with_reducible apply Hp.set' 4)); (with_reducible exact H); (repeat rfl); intro w' H') | ((repeat (with_reducible apply Hp.set' 5)); (with_reducible exact H); (repeat rfl); intro w' H') | ((repeat (with_reducible apply Hp.set' 6)); (with_reducible exact H); (repeat rfl); intro w' H') | ((repeat (with_reducible apply Hp.set' 7)); (with_reducible exact H); (repeat rfl); intro w' H') | ((repeat (with_reducible apply Hp.set' 8)); (with_reducible exact H); (repeat rfl); intro w' H') | ((repeat (with_reducible apply Hp.set' 9)); (with_reducible exact H); (repeat rfl); intro w' H')); ((try simp only [List.set_cons_zero, List.set_cons_succ, List.setIfInBounds_toArray] at H'); clear C H; have H := H'; clear H'; have C := Hp.facts H; simp only [Facts, factsL, and_true, true_and, List.set_cons_zero, List.set_cons_succ, List.setIfInBounds_toArray] at C)) | go_values | go_skip | go_guarded | go_step | go_upon | go_back | (simp only [Int.not_lt, Int.not_le] at *; go_simp) | (go_values <;> (try go_simp)) | (go_ite <;> go_prune <;> (try go_simp)) | (split <;> (first | (rename_i hx; exact (hx _ rfl).elim) | go_prune))))
    (obtain ⟨b6, rfl⟩ := Hp.name H 0 rfl; obtain ⟨b5, rfl⟩ := Hp.name H 1 rfl; obtain ⟨b3, rfl⟩ := Hp.name H 2 rfl; obtain ⟨b2, rfl⟩ := Hp.name H 3 rfl)
    have H2 : Hp w (LsL b5 b6 (.slice none 0 0) (.slice none 0 0) [] [.blk b3 #[.int .i64 (N : Int)] 3, .blk b2 #[.int .i64 a0, .int .i64 a1, .bool a2, .slice aA ak ac, .slice aB am ad] 27]) _ := Hp.sel ((H.nilRow 27 5).nilRow 3 1) [3, 1, 2, 0, 4, 5] (by decide)
    refine (list_any n 1 w w.heap.size _ b5 b6 t _ _ _ [] _ (Nat.le_refl _) gta.out (by omega) (by simp; omega) H2).mono ?_
    rintro e' w2 ⟨rfl, rv, dv, tl, H3, htl, hall⟩
    clear H C H2
    have gtl := Kp.mk htl
    have gall := Kp.mk hall
    clear htl hall
    simp only [LsL, List.nil_append] at H3
    have H := H3
    clear H3
    obtain ⟨Ar, cr, rfl⟩ := own_form (ownsOf H 1 rfl)
    obtain ⟨Ad, cd, rfl⟩ := own_form (ownsOf H 3 rfl)
    have C := Hp.facts H
    simp only [Facts, factsL, and_true, true_and, List.set_cons_zero, List.set_cons_succ, List.setIfInBounds_toArray] at C
    (repeat' ((fail_if_success (with_reducible show bodyPost _ _ _ _ _ _)); first | ((with_reducible refine Hp.abs_alloc H ?_); intro b' w' H' hb'; (try simp only [hb']); clear hb'; ((try simp only [List.set_cons_zero, List.set_cons_succ, List.setIfInBounds_toArray] at H'); clear C H; have H := H'; clear H'; have C := Hp.facts H; simp only [Facts, factsL, and_true, true_and, List.set_cons_zero, List.set_cons_succ, List.setIfInBounds_toArray] at C)) | ((with_reducible show wpList _ _ _ _ _ (World.setCell _ _ _)); (with_reducible apply Hp.abs_gen H); (first | ((repeat (with_reducible apply Hp.set' 0)); (with_reducible exact H); (repeat rfl); intro w' H') | ((repeat (with_reducible apply Hp.set' 1)); (with_reducible exact H); (repeat rfl); intro w' H') | ((repeat (with_reducible apply Hp.set' 2)); (with_reducible exact H); (repeat rfl); intro w' H') | ((repeat (with_reducible apply Hp.set' 3)); (with_reducible exact H); (repeat rfl); intro w' H') | ((repeat (with_reducible apply Hp.set' 4)); (with_reducible exact H); (repeat rfl); intro w' H') | ((repeat (with_reducible apply Hp.set' 5)); (with_reducible exact H); (repeat rfl); intro w' H') | ((repeat (with_reducible apply Hp.set' 6)); (with_reducible exact H); (repeat rfl); intro w' H') | ((repeat (with_reducible apply Hp.set' 7)); (with_reducible exact H); (repeat rfl); intro w' H') | ((repeat (with_reducible apply Hp.set' 8)); (with_reducible exact H); (repeat rfl); intro w' H') | ((repeat (with_reducible apply Hp.set' 9)); (with_reducible exact H); (repeat rfl); intro w' H')); ((try simp only [List.set_cons_zero, List.set_cons_succ, List.setIfInBounds_toArray] at H'); clear C H; have H := H'; clear H'; have C := Hp.facts H; simp only [Facts, factsL, and_true, true_and, List.set_cons_zero, List.set_cons_succ, List.setIfInBounds_toArray] at C)) | go_values | go_skip | go_guarded | go_step | go_upon | go_back | (simp only [Int.not_lt, Int.not_le] at *; go_simp) | (go_values <;> (try go_simp)) | (go_ite <;> go_prune <;> (try go_simp)) | (split <;> (first | (rename_i hx; exact (hx _ rfl).elim) | go_prune))))
    refine (to7_any n t _ _ w.heap.size H.low.size (gta.out.step H.low) (by omega)).mono ?_
    rintro e' wX ⟨⟨cx, rfl, htx⟩, hb⟩
    obtain ⟨Ox, H2, gx⟩ := keepTree3 H (Nat.le_refl _) hb htx
    replace gx := Kp.mk gx
    clear H C hb
    have H := H2
    clear H2
    simp only [List.cons_append, List.nil_append, List.append_assoc] at H
    obtain ⟨d0, d1, d2, d3, d4, rfl⟩ := five_of htx.len
    obtain ⟨x0, x1, x2, xA, xB, xk, xc, xm, xd, rfl, rfl, rfl, rfl, rfl⟩ := htx.forms
    clear htx
    have C := Hp.facts H
    simp only [Facts, factsL, and_true, true_and, List.set_cons_zero, List.set_cons_succ, List.setIfInBounds_toArray] at C
    (repeat' ((fail_if_success (with_reducible show bodyPost _ _ _ _ _ _)); first | ((with_reducible refine Hp.abs_alloc H ?_); intro b' w' H' hb'; (try simp only [hb']); clear hb'; ((try simp only [List.set_cons_zero, List.set_cons_succ, List.setIfInBounds_toArray] at H'); clear C H; have H := H'; clear H'; have C := Hp.facts H; simp only [Facts, factsL, and_true, true_and, List.set_cons_zero, List.set_cons_succ, List.setIfInBounds_toArray] at C)) | ((with_reducible show wpList _ _ _ _ _ (World.setCell _ _ _)); (with_reducible apply Hp.abs_gen H); (first | ((repeat (with_reducible apply Hp.set' 0)); (with_reducible exact H); (repeat rfl); intro w' H') | ((repeat (with_reducible apply Hp.set' 1)); (with_reducible exact H); (repeat rfl); intro w' H') | ((repeat (with_reducible apply Hp.set' 2)); (with_reducible exact H); (repeat rfl); intro w' H') | ((repeat (with_reducible apply Hp.set' 3)); (with_reducible exact H); (repeat rfl); intro w' H') | ((repeat (with_reducible apply Hp.set' 4)); (with_reducible exact H); (repeat rfl); intro w' H') | ((repeat (with_reducible apply Hp.set' 5)); (with_reducible exact H); (repeat rfl); intro w' H') | ((repeat (with_reducible apply Hp.set' 6)); (with_reducible exact H); (repeat rfl); intro w' H') | ((repeat (with_reducible apply Hp.set' 7)); (with_reducible exact H); (repeat rfl); intro w' H') | ((repeat (with_reducible apply Hp.set' 8)); (with_reducible exact H); (repeat rfl); intro w' H') | ((repeat (with_reducible apply Hp.set' 9)); (with_reducible exact H); (repeat rfl); intro w' H')); ((try simp only [List.set_cons_zero, List.set_cons_succ, List.setIfInBounds_toArray] at H'); clear C H; have H := H'; clear H'; have C := Hp.facts H; simp only [Facts, factsL, and_true, true_and, List.set_cons_zero, List.set_cons_succ, List.setIfInBounds_toArray] at C)) | go_values | go_skip | go_guarded | go_step | go_upon | go_back | (simp only [Int.not_lt, Int.not_le] at *; go_simp) | (go_values <;> (try go_simp)) | (go_ite <;> go_prune <;> (try go_simp)) | (split <;> (first | (rename_i hx; exact (hx _ rfl).elim) | go_prune))))
    refine (each_any n t _ _ _ (gx.out _ _ H (fun x hx => by simp [hx]))).mono ?_
    rintro e' w4 ⟨bx, rfl, hH⟩
    have H' := hH _ _ H
    clear hH
    ((try simp only [List.set_cons_zero, List.set_cons_succ, List.setIfInBounds_toArray] at H'); clear C H; have H := H'; clear H'; have C := Hp.facts H; simp only [Facts, factsL, and_true, true_and, List.set_cons_zero, List.set_cons_succ, List.setIfInBounds_toArray] at C)
    (repeat' ((fail_if_success (with_reducible show bodyPost _ _ _ _ _ _)); first | ((with_reducible refine Hp.abs_alloc H ?_); intro b' w' H' hb'; (try simp only [hb']); clear hb'; ((try simp only [List.set_cons_zero, List.set_cons_succ, List.setIfInBounds_toArray] at H'); clear C H; have H := H'; clear H'; have C := Hp.facts H; simp only [Facts, factsL, and_true, true_and, List.set_cons_zero, List.set_cons_succ, List.setIfInBounds_toArray] at C)) | ((with_reducible show wpList _ _ _ _ _ (World.setCell _ _ _)); (with_reducible apply Hp.abs_gen H); (first | ((repeat (with_reducible apply Hp.set' 0)); (with_reducible exact H); (repeat rfl); intro w' H') | ((repeat (with_reducible apply Hp.set' 1)); (with_reducible exact H); (repeat rfl); intro w' H') | ((repeat (with_reducible apply Hp.set' 2)); (with_reducible exact H); (repeat rfl); intro w' H') | ((repeat (with_reducible apply Hp.set' 3)); (with_reducible exact H); (repeat rfl); intro w' H') | ((repeat (with_reducible apply Hp.set' 4)); (with_reducible exact H); (repeat rfl); intro w' H') | ((repeat (with_reducible apply Hp.set' 5)); (with_reducible exact H); (repeat rfl); intro w' H') | ((repeat (with_reducible apply Hp.set' 6)); (with_reducible exact H); (repeat rfl); intro w' H') | ((repeat (with_reducible apply Hp.set' 7)); (with_reducible exact H); (repeat rfl); intro w' H') | ((repeat (with_reducible apply Hp.set' 8)); (with_reducible exact H); (repeat rfl); intro w' H') | ((repeat (with_reducible apply Hp.set' 9)); (with_reducible exact H); (repeat rfl); intro w' H')); ((try simp only [List.set_cons_zero, List.set_cons_succ, List.setIfInBounds_toArray] at H'); clear C H; have H := H'; clear H'; have C := Hp.facts H; simp only [Facts, factsL, and_true, true_and, List.set_cons_zero, List.set_cons_succ, List.setIfInBounds_toArray] at C)) | go_values | go_skip | go_guarded | go_step | go_upon | go_back | (simp only [Int.not_lt, Int.not_le] at *; go_simp) | (go_values <;> (try go_simp)) | (go_ite <;> go_prune <;> (try go_simp)) | (split <;> (first | (rename_i hx; exact (hx _ rfl).elim) | go_prune))))
    (obtain ⟨b8, rfl⟩ := Hp.name H 1 rfl; obtain ⟨b7, rfl⟩ := Hp.name H 2 rfl)
    refine (wpIn_wide (n := 8)).1 ?_
    have H0 : Hp w (EaL b8 b7 b5 b6 b3 b2 (.slice Ar tl.length cr) (.slice Ad tl.length cd) tl N 0 #[.int .i64 a0, .int .i64 a1, .bool a2, .slice aA ak ac, .slice aB am ad] Ox) w4 := H.tail
    have hS := each1_seq w w.heap.size (Nat.le_refl _) Ox n t [.int .i64 x0, .int .i64 x1, .bool x2, .slice xA xk xc, .slice xB xm xd] bx (by omega)
    refine' range_fr3 (gf := 34) (lb := #[.pointer (some ⟨bx, 0, none⟩)]) rfl (enters_of Try.func34 (by kernel_rfl) rfl) H0 hS (fun _ => rfl)
      (fun pre L => pre.length < N ∧ L = EaL b8 b7 b5 b6 b3 b2 (.slice Ar tl.length cr) (.slice Ad tl.length cd) tl N pre.length #[.int .i64 a0, .int .i64 a1, .bool a2, .slice aA ak ac, .slice aB am ad] Ox)
      (fun c pre L => c = .exit 0 ∧ pre.length = N ∧ L = EaL b8 b7 b5 b6 b3 b2 (.slice Ar tl.length cr) (.slice Ad tl.length cd) tl N pre.length #[.int .i64 a0, .int .i64 a1, .bool a2, .slice aA ak ac, .slice aB am ad] Ox)
      ⟨hN1, rfl⟩ (fun W hb => EachT.step ⟨H.get 0 rfl, gx.out _ _ H (fun x hx => by simp [hx])⟩ hb) (fun pre L hL x hx => by rw [hL.2]; simp [EaL, hx]) (fun X Y L L' x h1 h2 h3 h4 => TOk.move (Nat.le_refl _) X Y L L' x h1 h2 h3 h4) (fun x b => .blk b x.2.2.toArray 41) 9 10 (fun x => .int .i64 (x.1 : Int)) ?assign ?body ?done ?stop
    case assign =>
      rintro l0 ⟨xd1, tx, cx⟩ L W K H2 ⟨m1, hm1⟩ hK
      simp only [boxAct] at hK
      obtain ⟨e0, e1, e2, e3, e4, rfl⟩ := five_of hm1.len
      obtain ⟨y0, y1, y2, yA, yB, yk, yc, ym, yd, rfl, rfl, rfl, rfl, rfl⟩ := hm1.forms
      clear H C H0 hS hm1
      have H := H2
      have C := Hp.facts H
      simp only [Facts, factsL, and_true, true_and, List.set_cons_zero, List.set_cons_succ, List.setIfInBounds_toArray] at C
      dsimp only [encT]
      (repeat' ((fail_if_success (with_reducible show bodyPost _ _ _ _ _ _)); first | ((with_reducible refine Hp.abs_allocIn H ?_); intro b' w' H' hb'; (try simp only [hb']); clear hb'; ((try simp only [List.set_cons_zero, List.set_cons_succ, List.setIfInBounds_toArray] at H'); clear C H; have H := H'; clear H'; have C := Hp.facts H; simp only [Facts, factsL, and_true, true_and, List.set_cons_zero, List.set_cons_succ, List.setIfInBounds_toArray] at C)) | ((with_reducible show wpListIn _ _ _ _ _ _ _ (World.setCell _ _ _)); (with_reducible apply Hp.abs_genIn H); (first | ((repeat (with_reducible apply Hp.set' 0)); (with_reducible exact H); (repeat rfl); intro w' H') | ((repeat (with_reducible apply Hp.set' 1)); (with_reducible exact H); (repeat rfl); intro w' H') | ((repeat (with_reducible apply Hp.set' 2)); (with_reducible exact H); (repeat rfl); intro w' H') | ((repeat (with_reducible apply Hp.set' 3)); (with_reducible exact H); (repeat rfl); intro w' H') | ((repeat (with_reducible apply Hp.set' 4)); (with_reducible exact H); (repeat rfl); intro w' H') | ((repeat (with_reducible apply Hp.set' 5)); (with_reducible exact H); (repeat rfl); intro w' H') | ((repeat (with_reducible apply Hp.set' 6)); (with_reducible exact H); (repeat rfl); intro w' H') | ((repeat (with_reducible apply Hp.set' 7)); (with_reducible exact H); (repeat rfl); intro w' H') | ((repeat (with_reducible apply Hp.set' 8)); (with_reducible exact H); (repeat rfl); intro w' H') | ((repeat (with_reducible apply Hp.set' 9)); (with_reducible exact H); (repeat rfl); intro w' H')); ((try simp only [List.set_cons_zero, List.set_cons_succ, List.setIfInBounds_toArray] at H'); clear C H; have H := H'; clear H'; have C := Hp.facts H; simp only [Facts, factsL, and_true, true_and, List.set_cons_zero, List.set_cons_succ, List.setIfInBounds_toArray] at C)) | go_values | gi_guarded | gi_step | gi_upon | gi_back | (simp only [Int.not_lt, Int.not_le] at *; go_simp) | (go_values <;> (try go_simp)) | (go_ite <;> go_prune <;> (try go_simp)) | (split <;> (first | (rename_i hx; exact (hx _ rfl).elim) | go_prune))))
      have h := hK _ _ H
      simp [encT] at h
      exact h
    case body =>
      rintro l0 pre ⟨xd1, tx, cx⟩ b L M W ⟨hpl, rfl⟩ H2 ⟨m1, hm1⟩ hgood
      obtain ⟨e0, e1, e2, e3, e4, rfl⟩ := five_of hm1.len
      obtain ⟨y0, y1, y2, yA, yB, yk, yc, ym, yd, rfl, rfl, rfl, rfl, rfl⟩ := hm1.forms
      clear H C H0 hS
      have H := H2
      clear H2
      simp only [EaL, List.cons_append, List.nil_append] at H
      have C := Hp.facts H
      simp only [Facts, factsL, and_true, true_and, List.set_cons_zero, List.set_cons_succ, List.setIfInBounds_toArray] at C
      simp [boxAct, encT]
      (repeat' ((fail_if_success (with_reducible show bodyPost _ _ _ _ _ _)); first | ((with_reducible refine Hp.abs_allocIn H ?_); intro b' w' H' hb'; (try simp only [hb']); clear hb'; ((try simp only [List.set_cons_zero, List.set_cons_succ, List.setIfInBounds_toArray] at H'); clear C H; have H := H'; clear H'; have C := Hp.facts H; simp only [Facts, factsL, and_true, true_and, List.set_cons_zero, List.set_cons_succ, List.setIfInBounds_toArray] at C)) | ((with_reducible show wpListIn _ _ _ _ _ _ _ (World.setCell _ _ _)); (with_reducible apply Hp.abs_genIn H); (first | ((repeat (with_reducible apply Hp.set' 0)); (with_reducible exact H); (repeat rfl); intro w' H') | ((repeat (with_reducible apply Hp.set' 1)); (with_reducible exact H); (repeat rfl); intro w' H') | ((repeat (with_reducible apply Hp.set' 2)); (with_reducible exact H); (repeat rfl); intro w' H') | ((repeat (with_reducible apply Hp.set' 3)); (with_reducible exact H); (repeat rfl); intro w' H') | ((repeat (with_reducible apply Hp.set' 4)); (with_reducible exact H); (repeat rfl); intro w' H') | ((repeat (with_reducible apply Hp.set' 5)); (with_reducible exact H); (repeat rfl); intro w' H') | ((repeat (with_reducible apply Hp.set' 6)); (with_reducible exact H); (repeat rfl); intro w' H') | ((repeat (with_reducible apply Hp.set' 7)); (with_reducible exact H); (repeat rfl); intro w' H') | ((repeat (with_reducible apply Hp.set' 8)); (with_reducible exact H); (repeat rfl); intro w' H') | ((repeat (with_reducible apply Hp.set' 9)); (with_reducible exact H); (repeat rfl); intro w' H')); ((try simp only [List.set_cons_zero, List.set_cons_succ, List.setIfInBounds_toArray] at H'); clear C H; have H := H'; clear H'; have C := Hp.facts H; simp only [Facts, factsL, and_true, true_and, List.set_cons_zero, List.set_cons_succ, List.setIfInBounds_toArray] at C)) | go_values | gi_guarded | gi_step | gi_upon | gi_back | (simp only [Int.not_lt, Int.not_le] at *; go_simp) | (go_values <;> (try go_simp)) | (go_ite <;> go_prune <;> (try go_simp)) | (split <;> (first | (rename_i hx; exact (hx _ rfl).elim) | go_prune))))
      obtain ⟨hlt, hti⟩ := told_at hgood gtl.out
      have htc := Tree.told_count t 1 (xd1, tx) (by obtain ⟨r, hr⟩ := hgood; rw [← hr]; simp [TI.is])
      dsimp only at htc
      obtain ⟨cy, hy⟩ := told_form hti
      obtain ⟨m2, hm2⟩ := gall.out _ (List.getElem_mem hlt)
      have hv := tvals_at tl (fun x hx => by obtain ⟨m, h⟩ := gall.out x hx; exact h.len) pre.length hlt
      have hd := tdeps_at tl pre.length hlt
      rw [hy] at hm2 hv hd
      dsimp only at hm2 hv hd
      clear hti hy
      obtain ⟨z0, z1, z2, z3, z4, rfl⟩ := five_of hm2.len
      obtain ⟨g0, g1, g2, gA, gB, gk, gc, gm, gd, rfl, rfl, rfl, rfl, rfl⟩ := hm2.forms
      obtain ⟨gr, rfl⟩ := row_base3 (ownsOf H 4 rfl) (by omega)
      obtain ⟨gq, rfl⟩ := row_base3 (ownsOf H 6 rfl) (by omega)
      have hv0 := Kp.mk (hv 0 (by omega))
      have hv1 := Kp.mk (hv 1 (by omega))
      have hv2 := Kp.mk (hv 2 (by omega))
      have hv3 := Kp.mk (hv 3 (by omega))
      have hv4 := Kp.mk (hv 4 (by omega))
      replace hd := Kp.mk hd
      have hltI : (pre.length : Int) < (tl.length : Int) := by omega
      clear hv
      obtain ⟨wq, rfl⟩ := Hp.nameW H
      have HO := H
      have gxq := Kp.mk (hm1.weak (Q := (· < wq.heap.size)) fun b _ hl => hl)
      have gyq := Kp.mk ((hm2.step H.low).weak (Q := (· < wq.heap.size)) fun b _ hl => hl)
      clear H C hm1 hm2
      have H := Hp.start wq
      have C := Hp.facts H
      simp only [Facts, factsL, and_true, true_and, List.set_cons_zero, List.set_cons_succ, List.setIfInBounds_toArray] at C
      have hOf := fun w1 (h : Below wq.heap.size wq w1) => of7_any m1 tx _ w1 wq.heap.size h.size (gxq.out.step h) (by omega)
      have hSm := fun w1 (h : Below wq.heap.size wq w1) (m3 : Nat) (cs2 : List Value) (h2 : ItN w1 m3 tx cs2) => rtsame_any m3 tx cs2 m2 tx _ w1 h2 ((gyq.out.step h).any) (by omega) (by omega)
      simp only [Tree.same_self] at hSm
      try simp (disch := omega) only [decide_eq_true, decide_eq_false]
      obtain ⟨wR12, rfl⟩ := Hp.nameW H
      apply region_r (by kernel_rfl) (frm wR12.heap.size (fun _ => Hp _ _)) (frm_ok ?hfs_1) frm_sz [] [.light 0 0, .light 0 0, .light 0 0, .light 0 0, .light 0 0, .light 0 0, .light 0 0, .light 0 0, .light 0 0, .light 0 0, .light 0 0, .light 0 0, .light 0 0, .light 0 0, .light 0 0, .light 0 0, .light 0 0, .light 0 0, .light 0 0, .light 0 0, .light 0 0, .light 0 0, .light 0 0, .light 0 0] [false, false, false, false, false, false, false, false, false, false, false, false, false, false, false, false, false, false, false, false, false, false, false, false] 24 76 [24, 24, 24, 24, 24, 24, 24, 24, 24, 24, 24, 24, 24, 24, 24, 24, 24, 24, 24, 24, 24, 24, 24, 24] [some 31, some 32, some 33, some 34, some 35, some 36, some 37, some 38, some 39, some 40, some 41, some 42, some 43, some 44, some 45, some 46, some 47, some 48, some 49, some 50, some 51, some 52, some 53, some 54] [[], [0], [1], [1], [1, 3], [1, 2, 4], [1, 5], [6], [7], [7], [7], [7, 9, 10], [7, 11], [7, 8, 12], [7, 13], [14], [15], [15, 16], [15], [15], [15, 18, 19], [15, 20], [15, 17, 21], [15, 22]] [Eq1 (.bool true), Eq1 (.bool true), Eq1 _, Eq1 _, Eq1 _, Eq1 (.bool true), Eq1 _, Eq1 (.bool true), Eq1 _, Eq1 _, Eq1 _, Eq1 _, Eq1 _, Eq1 (.bool true), Eq1 _, Eq1 (.bool true), Eq1 _, (TreeV wR12.heap.size wR12.heap.size wR12 m1 tx), Eq1 _, Eq1 _, Eq1 _, Eq1 _, Eq1 (.bool true), Eq1 _] ?hq1_1 ?hq2_1 ?hq3_1 ?hq4_1 ?hq5_1 ?hq6_1 _ ?hA_1 ?hst_1 ?h0_1 ?hsteps_1 ?hend_1
      case hq1_1 => kernel_rfl
      case hq2_1 => kernel_rfl
      case hq3_1 => kernel_rfl
      case hq5_1 => kernel_rfl
      case hq4_1 => rfl
      case hq6_1 => rfl
      case hA_1 => intro vs; simp only [fillD, Nat.reduceAdd, Act.put, List.setIfInBounds_toArray, List.set_cons_zero, List.set_cons_succ]; rfl
      case h0_1 => exact H.drew
      case hfs_1 => exact fun _ _ _ hb h => Hp.step h hb
      case hsteps_1 =>
        refine ⟨?_, ?_, ?_, ?_, ?_, ?_, ?_, ?_, ?_, ?_, ?_, ?_, ?_, ?_, ?_, ?_, ?_, ?_, ?_, ?_, ?_, ?_, ?_, ?_, trivial⟩
        · intro p vs w' K hJ hp1 hp2 hS hR hK
          rw [if_pos (by rfl)]
          have C := Hp.facts hS
          simp only [Facts, factsL, and_true, true_and, List.set_cons_zero, List.set_cons_succ, List.setIfInBounds_toArray] at C
          have hsz := hR.1
          have HX := HO.step (show Hp _ _ _ from hS).low
          have CX := Hp.facts HX
          simp only [Facts, factsL, and_true, true_and, List.set_cons_zero, List.set_cons_succ, List.setIfInBounds_toArray] at CX
          
          go_step
          exact hK.out _ _ (Below.refl _ _) (Eq1.of (by first | rfl | (simp; done) | (simp; omega))) Fresh.no
        · intro p vs w' K hJ hp1 hp2 hS hR hK
          simp only [DepJ, List.getD_cons_zero, List.getD_cons_succ] at hJ
          obtain ⟨j0, -⟩ := hJ
          have j0 := Eq1.out j0
          simp only [j0] at hK ⊢
          rw [if_pos (by rfl)]
          go_step
          exact hK.out _ _ (Below.refl _ _) (Eq1.of (by first | rfl | (simp; done) | (simp; omega))) Fresh.no
        · intro p vs w' K hJ hp1 hp2 hS hR hK
          simp only [DepJ, List.getD_cons_zero, List.getD_cons_succ] at hJ
          obtain ⟨j1, -⟩ := hJ
          have j1 := Eq1.out j1
          simp only [j1] at hK ⊢
          rw [if_pos (by rfl)]
          have C := Hp.facts hS
          simp only [Facts, factsL, and_true, true_and, List.set_cons_zero, List.set_cons_succ, List.setIfInBounds_toArray] at C
          have hsz := hR.1
          have HX := HO.step (show Hp _ _ _ from hS).low
          have CX := Hp.facts HX
          simp only [Facts, factsL, and_true, true_and, List.set_cons_zero, List.set_cons_succ, List.setIfInBounds_toArray] at CX
          
          go_step
          exact hK.out _ _ (Below.refl _ _) Eq1.mk Fresh.no
        · intro p vs w' K hJ hp1 hp2 hS hR hK
          simp only [DepJ, List.getD_cons_zero, List.getD_cons_succ] at hJ
          obtain ⟨j1, -⟩ := hJ
          have j1 := Eq1.out j1
          simp only [j1] at hK ⊢
          rw [if_pos (by rfl)]
          have C := Hp.facts hS
          simp only [Facts, factsL, and_true, true_and, List.set_cons_zero, List.set_cons_succ, List.setIfInBounds_toArray] at C
          have hsz := hR.1
          have HX := HO.step (show Hp _ _ _ from hS).low
          have CX := Hp.facts HX
          simp only [Facts, factsL, and_true, true_and, List.set_cons_zero, List.set_cons_succ, List.setIfInBounds_toArray] at CX
          
          go_step
          exact hK.out _ _ (Below.refl _ _) Eq1.mk Fresh.no
        · intro p vs w' K hJ hp1 hp2 hS hR hK
          simp only [DepJ, List.getD_cons_zero, List.getD_cons_succ] at hJ
          obtain ⟨j1, j3, -⟩ := hJ
          have j1 := Eq1.out j1
          have j3 := Eq1.out j3
          simp only [j1, j3] at hK ⊢
          rw [if_pos (by rfl)]
          have C := Hp.facts hS
          simp only [Facts, factsL, and_true, true_and, List.set_cons_zero, List.set_cons_succ, List.setIfInBounds_toArray] at C
          have hsz := hR.1
          go_step
          exact hK.out _ _ (Below.refl _ _) Eq1.mk Fresh.no
        · intro p vs w' K hJ hp1 hp2 hS hR hK
          simp only [DepJ, List.getD_cons_zero, List.getD_cons_succ] at hJ
          obtain ⟨j1, j2, j4, -⟩ := hJ
          have j1 := Eq1.out j1
          have j2 := Eq1.out j2
          have j4 := Eq1.out j4
          simp only [j1, j2, j4] at hK ⊢
          rw [if_pos (by rfl)]
          go_step
          exact hK.out _ _ (Below.refl _ _) (Eq1.of (by simp)) Fresh.no
        · intro p vs w' K hJ hp1 hp2 hS hR hK
          simp only [DepJ, List.getD_cons_zero, List.getD_cons_succ] at hJ
          obtain ⟨j1, j5, -⟩ := hJ
          have j1 := Eq1.out j1
          have j5 := Eq1.out j5
          simp only [j1, j5] at hK ⊢
          rw [if_pos (by rfl)]
          go_step
          exact hK.out _ _ (Below.refl _ _) Eq1.mk Fresh.no
        · intro p vs w' K hJ hp1 hp2 hS hR hK
          simp only [DepJ, List.getD_cons_zero, List.getD_cons_succ] at hJ
          obtain ⟨j6, -⟩ := hJ
          have j6 := Eq1.out j6
          simp only [j6] at hK ⊢
          rw [if_pos (by rfl)]
          go_step
          exact hK.out _ _ (Below.refl _ _) (Eq1.of (by first | rfl | (simp; done) | (simp; omega))) Fresh.no
        · intro p vs w' K hJ hp1 hp2 hS hR hK
          simp only [DepJ, List.getD_cons_zero, List.getD_cons_succ] at hJ
          obtain ⟨j7, -⟩ := hJ
          have j7 := Eq1.out j7
          simp only [j7] at hK ⊢
          rw [if_pos (by rfl)]
          go_step
          exact hK.out _ _ (Below.refl _ _) Eq1.mk Fresh.no
        · intro p vs w' K hJ hp1 hp2 hS hR hK
          simp only [DepJ, List.getD_cons_zero, List.getD_cons_succ] at hJ
          obtain ⟨j7, -⟩ := hJ
          have j7 := Eq1.out j7
          simp only [j7] at hK ⊢
          rw [if_pos (by rfl)]
          have C := Hp.facts hS
          simp only [Facts, factsL, and_true, true_and, List.set_cons_zero, List.set_cons_succ, List.setIfInBounds_toArray] at C
          have hsz := hR.1
          have HX := HO.step (show Hp _ _ _ from hS).low
          have CX := Hp.facts HX
          simp only [Facts, factsL, and_true, true_and, List.set_cons_zero, List.set_cons_succ, List.setIfInBounds_toArray] at CX
          
          go_step
          exact hK.out _ _ (Below.refl _ _) Eq1.mk Fresh.no
        · intro p vs w' K hJ hp1 hp2 hS hR hK
          simp only [DepJ, List.getD_cons_zero, List.getD_cons_succ] at hJ
          obtain ⟨j7, -⟩ := hJ
          have j7 := Eq1.out j7
          simp only [j7] at hK ⊢
          rw [if_pos (by rfl)]
          have C := Hp.facts hS
          simp only [Facts, factsL, and_true, true_and, List.set_cons_zero, List.set_cons_succ, List.setIfInBounds_toArray] at C
          have hsz := hR.1
          have HX := HO.step (show Hp _ _ _ from hS).low
          have CX := Hp.facts HX
          simp only [Facts, factsL, and_true, true_and, List.set_cons_zero, List.set_cons_succ, List.setIfInBounds_toArray] at CX
          
          go_step
          exact hK.out _ _ (Below.refl _ _) Eq1.mk Fresh.no
        · intro p vs w' K hJ hp1 hp2 hS hR hK
          simp only [DepJ, List.getD_cons_zero, List.getD_cons_succ] at hJ
          obtain ⟨j7, j9, j10, -⟩ := hJ
          have j7 := Eq1.out j7
          have j9 := Eq1.out j9
          have j10 := Eq1.out j10
          simp only [j7, j9, j10] at hK ⊢
          rw [if_pos (by rfl)]
          go_step
          exact hK.out _ _ (Below.refl _ _) Eq1.mk Fresh.no
        · intro p vs w' K hJ hp1 hp2 hS hR hK
          simp only [DepJ, List.getD_cons_zero, List.getD_cons_succ] at hJ
          obtain ⟨j7, j11, -⟩ := hJ
          have j7 := Eq1.out j7
          have j11 := Eq1.out j11
          simp only [j7, j11] at hK ⊢
          rw [if_pos (by rfl)]
          have C := Hp.facts hS
          simp only [Facts, factsL, and_true, true_and, List.set_cons_zero, List.set_cons_succ, List.setIfInBounds_toArray] at C
          have hsz := hR.1
          have HX := HO.step (show Hp _ _ _ from hS).low
          have CX := Hp.facts HX
          simp only [Facts, factsL, and_true, true_and, List.set_cons_zero, List.set_cons_succ, List.setIfInBounds_toArray] at CX
          have hq := (Hp.rowCellN HX 6 rfl).2.2.2 pre.length _ hd.out
          go_step
          exact hK.out _ _ (Below.refl _ _) Eq1.mk Fresh.no
        · intro p vs w' K hJ hp1 hp2 hS hR hK
          simp only [DepJ, List.getD_cons_zero, List.getD_cons_succ] at hJ
          obtain ⟨j7, j8, j12, -⟩ := hJ
          have j7 := Eq1.out j7
          have j8 := Eq1.out j8
          have j12 := Eq1.out j12
          simp only [j7, j8, j12] at hK ⊢
          rw [if_pos (by rfl)]
          go_step
          exact hK.out _ _ (Below.refl _ _) (Eq1.of (by simp)) Fresh.no
        · intro p vs w' K hJ hp1 hp2 hS hR hK
          simp only [DepJ, List.getD_cons_zero, List.getD_cons_succ] at hJ
          obtain ⟨j7, j13, -⟩ := hJ
          have j7 := Eq1.out j7
          have j13 := Eq1.out j13
          simp only [j7, j13] at hK ⊢
          rw [if_pos (by rfl)]
          go_step
          exact hK.out _ _ (Below.refl _ _) Eq1.mk Fresh.no
        · intro p vs w' K hJ hp1 hp2 hS hR hK
          simp only [DepJ, List.getD_cons_zero, List.getD_cons_succ] at hJ
          obtain ⟨j14, -⟩ := hJ
          have j14 := Eq1.out j14
          simp only [j14] at hK ⊢
          rw [if_pos (by rfl)]
          go_step
          exact hK.out _ _ (Below.refl _ _) (Eq1.of (by first | rfl | (simp; done) | (simp; omega))) Fresh.no
        · intro p vs w' K hJ hp1 hp2 hS hR hK
          simp only [DepJ, List.getD_cons_zero, List.getD_cons_succ] at hJ
          obtain ⟨j15, -⟩ := hJ
          have j15 := Eq1.out j15
          simp only [j15] at hK ⊢
          rw [if_pos (by rfl)]
          have C := Hp.facts hS
          simp only [Facts, factsL, and_true, true_and, List.set_cons_zero, List.set_cons_succ, List.setIfInBounds_toArray] at C
          have hsz := hR.1
          have HX := HO.step (show Hp _ _ _ from hS).low
          have CX := Hp.facts HX
          simp only [Facts, factsL, and_true, true_and, List.set_cons_zero, List.set_cons_succ, List.setIfInBounds_toArray] at CX
          
          go_step
          exact hK.out _ _ (Below.refl _ _) Eq1.mk Fresh.no
        · intro p vs w' K hJ hp1 hp2 hS hR hK
          simp only [DepJ, List.getD_cons_zero, List.getD_cons_succ] at hJ
          obtain ⟨j15, j16, -⟩ := hJ
          have j15 := Eq1.out j15
          have j16 := Eq1.out j16
          simp only [j15, j16] at hK ⊢
          rw [if_pos (by rfl)]
          replace hS : Hp _ _ _ := hS
          have C := Hp.facts hS
          simp only [Facts, factsL, and_true, true_and, List.set_cons_zero, List.set_cons_succ, List.setIfInBounds_toArray] at C
          have hsz := hR.1
          have CX := Hp.facts (HO.step (show Hp _ _ _ from hS).low)
          simp only [Facts, factsL, and_true, true_and, List.set_cons_zero, List.set_cons_succ, List.setIfInBounds_toArray] at CX
          go_step
          refine (hOf _ hS.low).mono ?_
          rintro e' w'' ⟨⟨cs2, rfl, ht2⟩, hb2⟩
          exact hK.out _ _ hb2 (TreeV.mk hS (Nat.le_refl _) hR.1 hb2 ht2) Fresh.no
        · intro p vs w' K hJ hp1 hp2 hS hR hK
          simp only [DepJ, List.getD_cons_zero, List.getD_cons_succ] at hJ
          obtain ⟨j15, -⟩ := hJ
          have j15 := Eq1.out j15
          simp only [j15] at hK ⊢
          rw [if_pos (by rfl)]
          have C := Hp.facts hS
          simp only [Facts, factsL, and_true, true_and, List.set_cons_zero, List.set_cons_succ, List.setIfInBounds_toArray] at C
          have hsz := hR.1
          have HX := HO.step (show Hp _ _ _ from hS).low
          have CX := Hp.facts HX
          simp only [Facts, factsL, and_true, true_and, List.set_cons_zero, List.set_cons_succ, List.setIfInBounds_toArray] at CX
          
          go_step
          exact hK.out _ _ (Below.refl _ _) Eq1.mk Fresh.no
        · intro p vs w' K hJ hp1 hp2 hS hR hK
          simp only [DepJ, List.getD_cons_zero, List.getD_cons_succ] at hJ
          obtain ⟨j15, -⟩ := hJ
          have j15 := Eq1.out j15
          simp only [j15] at hK ⊢
          rw [if_pos (by rfl)]
          have C := Hp.facts hS
          simp only [Facts, factsL, and_true, true_and, List.set_cons_zero, List.set_cons_succ, List.setIfInBounds_toArray] at C
          have hsz := hR.1
          have HX := HO.step (show Hp _ _ _ from hS).low
          have CX := Hp.facts HX
          simp only [Facts, factsL, and_true, true_and, List.set_cons_zero, List.set_cons_succ, List.setIfInBounds_toArray] at CX
          
          go_step
          exact hK.out _ _ (Below.refl _ _) Eq1.mk Fresh.no
        · intro p vs w' K hJ hp1 hp2 hS hR hK
          simp only [DepJ, List.getD_cons_zero, List.getD_cons_succ] at hJ
          obtain ⟨j15, j18, j19, -⟩ := hJ
          have j15 := Eq1.out j15
          have j18 := Eq1.out j18
          have j19 := Eq1.out j19
          simp only [j15, j18, j19] at hK ⊢
          rw [if_pos (by rfl)]
          go_step
          exact hK.out _ _ (Below.refl _ _) Eq1.mk Fresh.no
        · intro p vs w' K hJ hp1 hp2 hS hR hK
          simp only [DepJ, List.getD_cons_zero, List.getD_cons_succ] at hJ
          obtain ⟨j15, j20, -⟩ := hJ
          have j15 := Eq1.out j15
          have j20 := Eq1.out j20
          simp only [j15, j20] at hK ⊢
          rw [if_pos (by rfl)]
          have C := Hp.facts hS
          simp only [Facts, factsL, and_true, true_and, List.set_cons_zero, List.set_cons_succ, List.setIfInBounds_toArray] at C
          have hsz := hR.1
          have HX := HO.step (show Hp _ _ _ from hS).low
          have CX := Hp.facts HX
          simp only [Facts, factsL, and_true, true_and, List.set_cons_zero, List.set_cons_succ, List.setIfInBounds_toArray] at CX
          have hq0 := (Hp.rowCellN HX 4 rfl).2.2.2 (pre.length * 5 + 0) _ hv0.out
          have hq1 := (Hp.rowCellN HX 4 rfl).2.2.2 (pre.length * 5 + 1) _ hv1.out
          have hq2 := (Hp.rowCellN HX 4 rfl).2.2.2 (pre.length * 5 + 2) _ hv2.out
          have hq3 := (Hp.rowCellN HX 4 rfl).2.2.2 (pre.length * 5 + 3) _ hv3.out
          have hq4 := (Hp.rowCellN HX 4 rfl).2.2.2 (pre.length * 5 + 4) _ hv4.out
          simp only [Nat.add_zero] at hq0
          go_step
          exact hK.out _ _ (Below.refl _ _) Eq1.mk Fresh.no
        · intro p vs w' K hJ hp1 hp2 hS hR hK
          simp only [DepJ, List.getD_cons_zero, List.getD_cons_succ] at hJ
          obtain ⟨j15, j17, j21, -⟩ := hJ
          have j15 := Eq1.out j15
          obtain ⟨x0, x1, x2, x3, x4, j17, t17⟩ := j17
          have j21 := Eq1.out j21
          simp only [j15, j17, j21] at hK ⊢
          rw [if_pos (by rfl)]
          replace hS : Hp _ _ _ := hS
          have C := Hp.facts hS
          simp only [Facts, factsL, and_true, true_and, List.set_cons_zero, List.set_cons_succ, List.setIfInBounds_toArray] at C
          have hsz := hR.1
          go_step
          refine (hSm _ hS.low _ _ (t17.out hS (Nat.le_refl _)).any).mono ?_
          rintro e' w'' ⟨rfl, hb2⟩
          exact hK.out _ _ hb2 Eq1.mk Fresh.no
        · intro p vs w' K hJ hp1 hp2 hS hR hK
          simp only [DepJ, List.getD_cons_zero, List.getD_cons_succ] at hJ
          obtain ⟨j15, j22, -⟩ := hJ
          have j15 := Eq1.out j15
          have j22 := Eq1.out j22
          simp only [j15, j22] at hK ⊢
          rw [if_pos (by rfl)]
          go_step
          exact hK.out _ _ (Below.refl _ _) Eq1.mk Fresh.no
      case hst_1 => refine ⟨fun _ _ _ _ h => h, fun _ _ _ _ h => h, fun _ _ _ _ h => h, fun _ _ _ _ h => h, fun _ _ _ _ h => h, fun _ _ _ _ h => h, fun _ _ _ _ h => h, fun _ _ _ _ h => h, fun _ _ _ _ h => h, fun _ _ _ _ h => h, fun _ _ _ _ h => h, fun _ _ _ _ h => h, fun _ _ _ _ h => h, fun _ _ _ _ h => h, fun _ _ _ _ h => h, fun _ _ _ _ h => h, fun _ _ _ _ h => h, fun _ _ _ hs h => TreeV.stay hs h, fun _ _ _ _ h => h, fun _ _ _ _ h => h, fun _ _ _ _ h => h, fun _ _ _ _ h => h, fun _ _ _ _ h => h, fun _ _ _ _ h => h, trivial⟩
      intro vs w' hJ hD hS hR
      simp only [AllJ, Nat.reduceAdd] at hJ
      obtain ⟨v0, v1, v2, v3, v4, v5, v6, v7, v8, v9, v10, v11, v12, v13, v14, v15, v16, v17, v18, v19, v20, v21, v22, v23, -⟩ := hJ
      clear C
      replace v0 := Eq1.out v0
      replace v1 := Eq1.out v1
      replace v2 := Eq1.out v2
      replace v3 := Eq1.out v3
      replace v4 := Eq1.out v4
      replace v5 := Eq1.out v5
      replace v6 := Eq1.out v6
      replace v7 := Eq1.out v7
      replace v8 := Eq1.out v8
      replace v9 := Eq1.out v9
      replace v10 := Eq1.out v10
      replace v11 := Eq1.out v11
      replace v12 := Eq1.out v12
      replace v13 := Eq1.out v13
      replace v14 := Eq1.out v14
      replace v15 := Eq1.out v15
      replace v16 := Eq1.out v16
      replace v18 := Eq1.out v18
      replace v19 := Eq1.out v19
      replace v20 := Eq1.out v20
      replace v21 := Eq1.out v21
      replace v22 := Eq1.out v22
      replace v23 := Eq1.out v23
      obtain ⟨x0, x1, x2, x3, x4, e17, t17⟩ := v17
      simp only [v0, v1, v2, v3, v4, v5, v6, v7, v8, v9, v10, v11, v12, v13, v14, v15, v16, v18, v19, v20, v21, v22, v23, e17, List.drop_succ_cons, List.drop_zero]
      have H' : Hp _ _ _ := hS
      clear hD hR hS v0 v1 v2 v3 v4 v5 v6 v7 v8 v9 v10 v11 v12 v13 v14 v15 v16 v18 v19 v20 v21 v22 v23
      clear t17 e17
      clear vs H
      have H := H'; clear H'; have C := Hp.facts H; simp only [Facts, factsL, and_true, true_and, List.set_cons_zero, List.set_cons_succ, List.setIfInBounds_toArray] at C
      have H' := HO.step H.low
      clear HO H C hOf hSm gxq gyq
      have H := H'
      clear H'
      have C := Hp.facts H
      simp only [Facts, factsL, and_true, true_and, List.set_cons_zero, List.set_cons_succ, List.setIfInBounds_toArray] at C
      (repeat' ((fail_if_success (with_reducible show bodyPost _ _ _ _ _ _)); first | ((with_reducible refine Hp.abs_alloc H ?_); intro b' w' H' hb'; (try simp only [hb']); clear hb'; ((try simp only [List.set_cons_zero, List.set_cons_succ, List.setIfInBounds_toArray] at H'); clear C H; have H := H'; clear H'; have C := Hp.facts H; simp only [Facts, factsL, and_true, true_and, List.set_cons_zero, List.set_cons_succ, List.setIfInBounds_toArray] at C)) | ((with_reducible show wpList _ _ _ _ _ (World.setCell _ _ _)); (with_reducible apply Hp.abs_gen H); (first | ((repeat (with_reducible apply Hp.set' 0)); (with_reducible exact H); (repeat rfl); intro w' H') | ((repeat (with_reducible apply Hp.set' 1)); (with_reducible exact H); (repeat rfl); intro w' H') | ((repeat (with_reducible apply Hp.set' 2)); (with_reducible exact H); (repeat rfl); intro w' H') | ((repeat (with_reducible apply Hp.set' 3)); (with_reducible exact H); (repeat rfl); intro w' H') | ((repeat (with_reducible apply Hp.set' 4)); (with_reducible exact H); (repeat rfl); intro w' H') | ((repeat (with_reducible apply Hp.set' 5)); (with_reducible exact H); (repeat rfl); intro w' H') | ((repeat (with_reducible apply Hp.set' 6)); (with_reducible exact H); (repeat rfl); intro w' H') | ((repeat (with_reducible apply Hp.set' 7)); (with_reducible exact H); (repeat rfl); intro w' H') | ((repeat (with_reducible apply Hp.set' 8)); (with_reducible exact H); (repeat rfl); intro w' H') | ((repeat (with_reducible apply Hp.set' 9)); (with_reducible exact H); (repeat rfl); intro w' H')); ((try simp only [List.set_cons_zero, List.set_cons_succ, List.setIfInBounds_toArray] at H'); clear C H; have H := H'; clear H'; have C := Hp.facts H; simp only [Facts, factsL, and_true, true_and, List.set_cons_zero, List.set_cons_succ, List.setIfInBounds_toArray] at C)) | go_values | go_skip | go_guarded | go_step | go_upon | go_back | (simp only [Int.not_lt, Int.not_le] at *; go_simp) | (go_values <;> (try go_simp)) | (go_ite <;> go_prune <;> (try go_simp)) | (split <;> (first | (rename_i hx; exact (hx _ rfl).elim) | go_prune))))
      refine ⟨rfl, ?_⟩
      by_cases hN3 : (pre.length : Int) + 1 = (N : Int)
      · (repeat' ((fail_if_success (with_reducible show bodyPost _ _ _ _ _ _)); first | ((with_reducible refine Hp.abs_allocIn H ?_); intro b' w' H' hb'; (try simp only [hb']); clear hb'; ((try simp only [List.set_cons_zero, List.set_cons_succ, List.setIfInBounds_toArray] at H'); clear C H; have H := H'; clear H'; have C := Hp.facts H; simp only [Facts, factsL, and_true, true_and, List.set_cons_zero, List.set_cons_succ, List.setIfInBounds_toArray] at C)) | ((with_reducible show wpListIn _ _ _ _ _ _ _ (World.setCell _ _ _)); (with_reducible apply Hp.abs_genIn H); (first | ((repeat (with_reducible apply Hp.set' 0)); (with_reducible exact H); (repeat rfl); intro w' H') | ((repeat (with_reducible apply Hp.set' 1)); (with_reducible exact H); (repeat rfl); intro w' H') | ((repeat (with_reducible apply Hp.set' 2)); (with_reducible exact H); (repeat rfl); intro w' H') | ((repeat (with_reducible apply Hp.set' 3)); (with_reducible exact H); (repeat rfl); intro w' H') | ((repeat (with_reducible apply Hp.set' 4)); (with_reducible exact H); (repeat rfl); intro w' H') | ((repeat (with_reducible apply Hp.set' 5)); (with_reducible exact H); (repeat rfl); intro w' H') | ((repeat (with_reducible apply Hp.set' 6)); (with_reducible exact H); (repeat rfl); intro w' H') | ((repeat (with_reducible apply Hp.set' 7)); (with_reducible exact H); (repeat rfl); intro w' H') | ((repeat (with_reducible apply Hp.set' 8)); (with_reducible exact H); (repeat rfl); intro w' H') | ((repeat (with_reducible apply Hp.set' 9)); (with_reducible exact H); (repeat rfl); intro w' H')); ((try simp only [List.set_cons_zero, List.set_cons_succ, List.setIfInBounds_toArray] at H'); clear C H; have H := H'; clear H'; have C := Hp.facts H; simp only [Facts, factsL, and_true, true_and, List.set_cons_zero, List.set_cons_succ, List.setIfInBounds_toArray] at C)) | go_values | gi_guarded | gi_step | gi_upon | gi_back | (simp only [Int.not_lt, Int.not_le] at *; go_simp) | (go_values <;> (try go_simp)) | (go_ite <;> go_prune <;> (try go_simp)) | (split <;> (first | (rename_i hx; exact (hx _ rfl).elim) | go_prune))))
        have e1 : (pre ++ [(xd1, tx, [Value.int .i64 y0, .int .i64 y1, .bool y2, .slice yA yk yc, .slice yB ym yd])]).length = pre.length + 1 := by simp
        refine ⟨_, ⟨rfl, by rw [e1]; omega, rfl⟩, ?_⟩
        rw [e1]
        simp only [EaL, List.cons_append]
        rw [show ((pre.length + 1 : Nat) : Int) = (N : Int) by omega]
        exact H.tail
      · (repeat' ((fail_if_success (with_reducible show bodyPost _ _ _ _ _ _)); first | ((with_reducible refine Hp.abs_allocIn H ?_); intro b' w' H' hb'; (try simp only [hb']); clear hb'; ((try simp only [List.set_cons_zero, List.set_cons_succ, List.setIfInBounds_toArray] at H'); clear C H; have H := H'; clear H'; have C := Hp.facts H; simp only [Facts, factsL, and_true, true_and, List.set_cons_zero, List.set_cons_succ, List.setIfInBounds_toArray] at C)) | ((with_reducible show wpListIn _ _ _ _ _ _ _ (World.setCell _ _ _)); (with_reducible apply Hp.abs_genIn H); (first | ((repeat (with_reducible apply Hp.set' 0)); (with_reducible exact H); (repeat rfl); intro w' H') | ((repeat (with_reducible apply Hp.set' 1)); (with_reducible exact H); (repeat rfl); intro w' H') | ((repeat (with_reducible apply Hp.set' 2)); (with_reducible exact H); (repeat rfl); intro w' H') | ((repeat (with_reducible apply Hp.set' 3)); (with_reducible exact H); (repeat rfl); intro w' H') | ((repeat (with_reducible apply Hp.set' 4)); (with_reducible exact H); (repeat rfl); intro w' H') | ((repeat (with_reducible apply Hp.set' 5)); (with_reducible exact H); (repeat rfl); intro w' H') | ((repeat (with_reducible apply Hp.set' 6)); (with_reducible exact H); (repeat rfl); intro w' H') | ((repeat (with_reducible apply Hp.set' 7)); (with_reducible exact H); (repeat rfl); intro w' H') | ((repeat (with_reducible apply Hp.set' 8)); (with_reducible exact H); (repeat rfl); intro w' H') | ((repeat (with_reducible apply Hp.set' 9)); (with_reducible exact H); (repeat rfl); intro w' H')); ((try simp only [List.set_cons_zero, List.set_cons_succ, List.setIfInBounds_toArray] at H'); clear C H; have H := H'; clear H'; have C := Hp.facts H; simp only [Facts, factsL, and_true, true_and, List.set_cons_zero, List.set_cons_succ, List.setIfInBounds_toArray] at C)) | go_values | gi_guarded | gi_step | gi_upon | gi_back | (simp only [Int.not_lt, Int.not_le] at *; go_simp) | (go_values <;> (try go_simp)) | (go_ite <;> go_prune <;> (try go_simp)) | (split <;> (first | (rename_i hx; exact (hx _ rfl).elim) | go_prune))))
        have e1 : (pre ++ [(xd1, tx, [Value.int .i64 y0, .int .i64 y1, .bool y2, .slice yA yk yc, .slice yB ym yd])]).length = pre.length + 1 := by simp
        refine ⟨_, ⟨by rw [e1]; omega, rfl⟩, ?_⟩
        rw [e1]
        simp only [EaL, List.cons_append]
        rw [show ((pre.length + 1 : Nat) : Int) = (pre.length : Int) + 1 by omega]
        exact H.tail
    case done =>
      rintro D pre L W hg ⟨hpN, rfl⟩ H2
      have hpt : pre.length = tl.length := by
        have h1 := congrArg List.length hg
        rw [← gtl.out, List.length_map, List.length_map] at h1
        exact h1
      have hpt1 : pre.length ≤ tl.length := by omega
      have hpt2 : tl.length ≤ pre.length := by omega
      clear hpt
      clear H H0 C hS
      have H := H2
      clear H2
      simp only [EaL] at H
      have C := Hp.facts H
      simp only [Facts, factsL, and_true, true_and, List.set_cons_zero, List.set_cons_succ, List.setIfInBounds_toArray] at C
      have hmn : min (N : Int) (tl.length : Int) = (pre.length : Int) := by omega
      have hmn2 : (if (tl.length : Int) < (N : Int) then (tl.length : Int) else (N : Int)) = (pre.length : Int) := by split <;> omega
      (repeat' ((fail_if_success (with_reducible show bodyPost _ _ _ _ _ _)); first | ((with_reducible refine Hp.abs_alloc H ?_); intro b' w' H' hb'; (try simp only [hb']); clear hb'; ((try simp only [List.set_cons_zero, List.set_cons_succ, List.setIfInBounds_toArray] at H'); clear C H; have H := H'; clear H'; have C := Hp.facts H; simp only [Facts, factsL, and_true, true_and, List.set_cons_zero, List.set_cons_succ, List.setIfInBounds_toArray] at C)) | ((with_reducible show wpList _ _ _ _ _ (World.setCell _ _ _)); (with_reducible apply Hp.abs_gen H); (first | ((repeat (with_reducible apply Hp.set' 0)); (with_reducible exact H); (repeat rfl); intro w' H') | ((repeat (with_reducible apply Hp.set' 1)); (with_reducible exact H); (repeat rfl); intro w' H') | ((repeat (with_reducible apply Hp.set' 2)); (with_reducible exact H); (repeat rfl); intro w' H') | ((repeat (with_reducible apply Hp.set' 3)); (with_reducible exact H); (repeat rfl); intro w' H') | ((repeat (with_reducible apply Hp.set' 4)); (with_reducible exact H); (repeat rfl); intro w' H') | ((repeat (with_reducible apply Hp.set' 5)); (with_reducible exact H); (repeat rfl); intro w' H') | ((repeat (with_reducible apply Hp.set' 6)); (with_reducible exact H); (repeat rfl); intro w' H') | ((repeat (with_reducible apply Hp.set' 7)); (with_reducible exact H); (repeat rfl); intro w' H') | ((repeat (with_reducible apply Hp.set' 8)); (with_reducible exact H); (repeat rfl); intro w' H') | ((repeat (with_reducible apply Hp.set' 9)); (with_reducible exact H); (repeat rfl); intro w' H')); ((try simp only [List.set_cons_zero, List.set_cons_succ, List.setIfInBounds_toArray] at H'); clear C H; have H := H'; clear H'; have C := Hp.facts H; simp only [Facts, factsL, and_true, true_and, List.set_cons_zero, List.set_cons_succ, List.setIfInBounds_toArray] at C)) | (go_at_call 9; refine (known7_any _).mono ?_; rintro e' w' ⟨rfl, hb'⟩; (have H' := Hp.step H hb'; clear hb'; ((try simp only [List.set_cons_zero, List.set_cons_succ, List.setIfInBounds_toArray] at H'); clear C H; have H := H'; clear H'; have C := Hp.facts H; simp only [Facts, factsL, and_true, true_and, List.set_cons_zero, List.set_cons_succ, List.setIfInBounds_toArray] at C))) | go_values | go_skip | go_guarded | go_step | go_upon | go_back | (simp only [Int.not_lt, Int.not_le] at *; go_simp) | (go_values <;> (try go_simp)) | (go_ite <;> go_prune <;> (try go_simp)) | (split <;> (first | (rename_i hx; exact (hx _ rfl).elim) | go_prune))))
      have H5 := H.putObj 0 rfl (.deferred none)
      have C5 := H5.facts
      simp only [Facts, factsL, and_true, true_and, List.set_cons_zero, List.set_cons_succ, List.setIfInBounds_toArray] at C5
      exact ⟨by simp, .inl ⟨_, _, rfl, run_takeDeferred (H.objAt 0 rfl), .bool true, by simp [results, go_sem, C5]; omega, rfl, H5.low⟩⟩
    case stop =>
      rintro D c pre L W hg ⟨rfl, hpN, rfl⟩ H2
      have hpt : pre.length ≤ tl.length := by
        have h1 := hg.length_le
        rw [← gtl.out, List.length_map, List.length_map] at h1
        exact h1
      clear H H0 C hS
      have H := H2
      clear H2
      simp only [EaL] at H
      have C := Hp.facts H
      simp only [Facts, factsL, and_true, true_and, List.set_cons_zero, List.set_cons_succ, List.setIfInBounds_toArray] at C
      have hmn : min (N : Int) (tl.length : Int) = (pre.length : Int) := by omega
      have hmn2 : (if (tl.length : Int) < (N : Int) then (tl.length : Int) else (N : Int)) = (pre.length : Int) := by split <;> omega
      refine wpIn_wide.2 ?_
      (repeat' ((fail_if_success (with_reducible show bodyPost _ _ _ _ _ _)); first | ((with_reducible refine Hp.abs_alloc H ?_); intro b' w' H' hb'; (try simp only [hb']); clear hb'; ((try simp only [List.set_cons_zero, List.set_cons_succ, List.setIfInBounds_toArray] at H'); clear C H; have H := H'; clear H'; have C := Hp.facts H; simp only [Facts, factsL, and_true, true_and, List.set_cons_zero, List.set_cons_succ, List.setIfInBounds_toArray] at C)) | ((with_reducible show wpList _ _ _ _ _ (World.setCell _ _ _)); (with_reducible apply Hp.abs_gen H); (first | ((repeat (with_reducible apply Hp.set' 0)); (with_reducible exact H); (repeat rfl); intro w' H') | ((repeat (with_reducible apply Hp.set' 1)); (with_reducible exact H); (repeat rfl); intro w' H') | ((repeat (with_reducible apply Hp.set' 2)); (with_reducible exact H); (repeat rfl); intro w' H') | ((repeat (with_reducible apply Hp.set' 3)); (with_reducible exact H); (repeat rfl); intro w' H') | ((repeat (with_reducible apply Hp.set' 4)); (with_reducible exact H); (repeat rfl); intro w' H') | ((repeat (with_reducible apply Hp.set' 5)); (with_reducible exact H); (repeat rfl); intro w' H') | ((repeat (with_reducible apply Hp.set' 6)); (with_reducible exact H); (repeat rfl); intro w' H') | ((repeat (with_reducible apply Hp.set' 7)); (with_reducible exact H); (repeat rfl); intro w' H') | ((repeat (with_reducible apply Hp.set' 8)); (with_reducible exact H); (repeat rfl); intro w' H') | ((repeat (with_reducible apply Hp.set' 9)); (with_reducible exact H); (repeat rfl); intro w' H')); ((try simp only [List.set_cons_zero, List.set_cons_succ, List.setIfInBounds_toArray] at H'); clear C H; have H := H'; clear H'; have C := Hp.facts H; simp only [Facts, factsL, and_true, true_and, List.set_cons_zero, List.set_cons_succ, List.setIfInBounds_toArray] at C)) | (go_at_call 9; refine (known7_any _).mono ?_; rintro e' w' ⟨rfl, hb'⟩; (have H' := Hp.step H hb'; clear hb'; ((try simp only [List.set_cons_zero, List.set_cons_succ, List.setIfInBounds_toArray] at H'); clear C H; have H := H'; clear H'; have C := Hp.facts H; simp only [Facts, factsL, and_true, true_and, List.set_cons_zero, List.set_cons_succ, List.setIfInBounds_toArray] at C))) | go_values | go_skip | go_guarded | go_step | go_upon | go_back | (simp only [Int.not_lt, Int.not_le] at *; go_simp) | (go_values <;> (try go_simp)) | (go_ite <;> go_prune <;> (try go_simp)) | (split <;> (first | (rename_i hx; exact (hx _ rfl).elim) | go_prune))))
      have H5 := H.putObj 0 rfl (.deferred none)
      have C5 := H5.facts
      simp only [Facts, factsL, and_true, true_and, List.set_cons_zero, List.set_cons_succ, List.setIfInBounds_toArray] at C5
      exact ⟨by simp, .inl ⟨_, _, rfl, run_takeDeferred (H.objAt 0 rfl), .bool true, by simp [results, go_sem, C5], rfl, H5.low⟩⟩
theorem itemEach_any (n : Nat) (t : Tree) (cs : List Value) (st : Int) (w : World) (hta : ItN w n t cs) (hft : t.Fit) :
    Calls Try.prog 3 #[.agg cs.toArray, .int .i64 st] w fun e w' => e = .returned (.bool true) ∧ Below w.heap.size w w' := by
  obtain ⟨N, h1, h2, h3⟩ := mod300 st
  exact itemEach_core n t cs st N h1 h2 h3 w (hta.weak fun b _ h => h) hft
end Go.Proofs.Ytogliinfdfkobaa

