/- Lemmas and walks on the way to the seat's laws; each theorem says its own conditions. -/
import Derived.Test.YtogliinfdfkobaaH15
import Derived.Test.YtogliinfdfkobaaI16
set_option linter.unusedSimpArgs false
set_option linter.unusedVariables false
set_option linter.unusedSimpArgs false
set_option linter.unusedVariables false
set_option maxRecDepth 100000
namespace Go.Proofs.Ytogliinfdfkobaa
open Go.RowKit Go.Mem Go.Reg Hd Go.LawLift Oct
theorem wrap_any (c n : Int) (m : Bool) (ls : List (List UInt8)) (v : Value) (w : World) (hb : Bss w v ls) (hl : ls.length ≤ 10000) (hls : ∀ l ∈ ls, l.length ≤ 67108864) :
    Calls Try.prog 55 #[.agg #[.int .i64 c, .int .i64 n, .bool m], v] w (OwnOut w (wrapR ⟨c, n, m⟩ ls).1 (wrapR ⟨c, n, m⟩ ls).2) := by
  cases h : okTag ⟨c, n, m⟩ with
  | false =>
    obtain ⟨A, cc, rfl, -⟩ := hb.open
    rw [show wrapR ⟨c, n, m⟩ ls = ([], 1) by unfold wrapR; rw [h]; rfl]
    exact wrap_no c n m A _ cc h w
  | true =>
    obtain ⟨-, -, h0, -⟩ := okTag_iff.1 h
    obtain ⟨k, rfl⟩ := Int.eq_ofNat_of_zero_le (show 0 ≤ n from h0)
    exact wrap_yes c k m ls v w hb hl hls h
/-- The bytes of a tag, or an error. -/
def tagR (t : Tg) : List UInt8 × Nat := if okTag t then (tagL t, 0) else ([], 1)
theorem hbytes_all (c n : Int) (m : Bool) (w : World) : Calls Try.prog 67 #[.agg #[.int .i64 c, .int .i64 n, .bool m]] w (OwnOut w (tagR ⟨c, n, m⟩).1 (tagR ⟨c, n, m⟩).2) := by
  cases h : okTag ⟨c, n, m⟩ with
  | false =>
    rw [show tagR ⟨c, n, m⟩ = ([], 1) by unfold tagR; rw [h]; rfl]
    exact hbytes_no c n m h w
  | true =>
    rw [show tagR ⟨c, n, m⟩ = (tagL ⟨c, n, m⟩, 0) by unfold tagR; rw [h]; rfl]
    obtain ⟨-, -, h0, -⟩ := okTag_iff.1 h
    obtain ⟨k, rfl⟩ := Int.eq_ofNat_of_zero_le (show 0 ≤ n from h0)
    exact hbytes_any c k m w h
def lenR (n : Int) : List UInt8 × Nat := if n < 0 then ([], 1) else if 16777216 < n then ([], 2) else (lenL n, 0)
theorem hlen_all (n : Int) (w : World) : Calls Try.prog 68 #[.int .i64 n] w (OwnOut w (lenR n).1 (lenR n).2) := by
  unfold lenR
  split
  · rename_i h
    exact hlen_neg n h w
  · split
    · rename_i h1 h2
      exact hlen_big n h2 w
    · rename_i h1 h2
      obtain ⟨k, rfl⟩ := Int.eq_ofNat_of_zero_le (show 0 ≤ n by omega)
      exact hlen_ok k (by omega) w
theorem hex_of {l : List UInt8} {h : List UInt8} (e : hexL l = h) (v : Value) (w : World) (hb : Bs w v l) (hl : l.length ≤ 100000) :
    Calls Try.prog 32 #[v] w fun e w' => e = .returned (.string ⟨h.toArray⟩) ∧ Below w.heap.size w w' := by
  subst e
  exact hex_any l v w hb hl
/-- Two rows as a slice of slices. -/
theorem bss_blk {w0 w : World} {L : List Ent} (H : Hp w0 L w) (i : Nat) {b : Nat} {T : TypeId} {xs : List Value} {ls : List (List UInt8)} (hi : L[i]? = some (.blk b xs.toArray T)) (ha : All2 (Bs w) xs ls) (hl : xs.length ≤ 1000) : Bss w (.slice (some ⟨b, 0, none⟩) xs.length xs.length) ls :=
  ⟨xs, sl_cells (H.get i hi) rfl rfl (by omega), ha⟩
end Go.Proofs.Ytogliinfdfkobaa

set_option linter.unusedSimpArgs false
set_option linter.unusedVariables false
set_option maxRecDepth 100000
namespace Go.Proofs.Ytogliinfdfkobaa
open Go.RowKit Go.Mem Go.Reg Oct Hd Go.LawLift
abbrev kt1 : Tree := .mk ⟨0, 16, true⟩ [] [.mk ⟨0, 2, false⟩ [5] []]
theorem kp1 : parseR [48, 3, 2, 1, 5] = .ok (kt1, [(0, 5), (2, 5)]) := by kernel_rfl
theorem kp2 : parseR [48, 2, 2, 1] = .bad 3 := by kernel_rfl
theorem kd1 : kt1.deep = 2 := by simp [Tree.deep, Tree.deeps]
theorem kc1 : kt1.count = 2 := by simp [Tree.count, Tree.counts]
theorem ktot : kt1.total = 1 := by simp [Tree.total, Tree.totals]
theorem kf1 : findT kt1 [0] = some (.mk ⟨0, 2, false⟩ [5] []) := by simp [findT, Tree.kids]
set_option maxHeartbeats 3200000 in
theorem known7_any (w : World) : Calls Try.prog 9 #[] w fun e w' => e = .returned (.bool true) ∧ Below w.heap.size w w' := by
  have H := Hp.start w
  have C : True := trivial
  go_enter Try.func9, Try.ntmps9
  (repeat' ((fail_if_success (with_reducible show bodyPost _ _ _ _ _ _)); first | ((with_reducible refine Hp.abs_alloc H ?_); intro b' w' H' hb'; (try simp only [hb']); clear hb'; ((try simp only [List.set_cons_zero, List.set_cons_succ, List.setIfInBounds_toArray] at H'); clear C H; have H := H'; clear H'; have C := Hp.facts H; simp only [Facts, factsL, and_true, true_and, List.set_cons_zero, List.set_cons_succ, List.setIfInBounds_toArray] at C)) | ((with_reducible show wpList _ _ _ _ _ (World.setCell _ _ _)); (with_reducible apply Hp.abs_gen H); (first | ((repeat (with_reducible apply Hp.set' 0)); (with_reducible exact H); (repeat rfl); intro w' H') | ((repeat (with_reducible apply Hp.set' 1)); (with_reducible exact H); (repeat rfl); intro w' H') | ((repeat (with_reducible apply Hp.set' 2)); (with_reducible exact H); (repeat rfl); intro w' H') | ((repeat (with_reducible apply Hp.set' 3)); (with_reducible exact H); (repeat rfl); intro w' H') | ((repeat (with_reducible apply Hp.set' 4)); (with_reducible exact H); (repeat rfl); intro w' H') | ((repeat (with_reducible apply Hp.set' 5)); (with_reducible exact H); (repeat rfl); intro w' H') | ((repeat (with_reducible apply Hp.set' 6)); (with_reducible exact H); (repeat rfl); intro w' H') | ((repeat (with_reducible apply Hp.set' 7)); (with_reducible exact H); (repeat rfl); intro w' H')); ((try simp only [List.set_cons_zero, List.set_cons_succ, List.setIfInBounds_toArray] at H'); clear C H; have H := H'; clear H'; have C := Hp.facts H; simp only [Facts, factsL, and_true, true_and, List.set_cons_zero, List.set_cons_succ, List.setIfInBounds_toArray] at C)) | go_values | go_skip | go_guarded | go_step | go_upon | go_back | (simp only [Int.not_lt, Int.not_le] at *; go_simp) | (go_values <;> (try go_simp)) | (go_ite <;> go_prune <;> (try go_simp)) | (split <;> (first | (rename_i hx; exact (hx _ rfl).elim) | go_prune))))
  refine (iparse_any [48, 3, 2, 1, 5] _ _ (bs_cells (H.get 0 rfl) rfl rfl (by decide)) (by decide)).mono ?_
  rintro e' w1 ⟨-, h2, hB⟩
  obtain ⟨cs, rfl, ht⟩ := h2 _ _ kp1
  clear h2
  obtain ⟨Os, H2, gk⟩ := H.keepTree (Nat.zero_le _) hB ht
  obtain ⟨d0, d1, d2, d3, d4, rfl⟩ : ∃ d0 d1 d2 d3 d4, cs = [d0, d1, d2, d3, d4] := by
    clear H C H2 gk
    match cs, ht.len with
    | [d0, d1, d2, d3, d4], _ => exact ⟨d0, d1, d2, d3, d4, rfl⟩
  obtain ⟨f0, f1, f2, fA, fA2, fk, fc, fk2, fc2, rfl, rfl, rfl, rfl, rfl⟩ := ht.forms
  replace gk := Kp.mk gk
  clear H C ht hB
  have H := H2
  clear H2
  simp only [List.cons_append, List.nil_append] at H
  have C := Hp.facts H
  simp only [Facts, factsL, and_true, true_and, List.set_cons_zero, List.set_cons_succ, List.setIfInBounds_toArray] at C
  (repeat' ((fail_if_success (with_reducible show bodyPost _ _ _ _ _ _)); first | ((with_reducible refine Hp.abs_alloc H ?_); intro b' w' H' hb'; (try simp only [hb']); clear hb'; ((try simp only [List.set_cons_zero, List.set_cons_succ, List.setIfInBounds_toArray] at H'); clear C H; have H := H'; clear H'; have C := Hp.facts H; simp only [Facts, factsL, and_true, true_and, List.set_cons_zero, List.set_cons_succ, List.setIfInBounds_toArray] at C)) | ((with_reducible show wpList _ _ _ _ _ (World.setCell _ _ _)); (with_reducible apply Hp.abs_gen H); (first | ((repeat (with_reducible apply Hp.set' 0)); (with_reducible exact H); (repeat rfl); intro w' H') | ((repeat (with_reducible apply Hp.set' 1)); (with_reducible exact H); (repeat rfl); intro w' H') | ((repeat (with_reducible apply Hp.set' 2)); (with_reducible exact H); (repeat rfl); intro w' H') | ((repeat (with_reducible apply Hp.set' 3)); (with_reducible exact H); (repeat rfl); intro w' H') | ((repeat (with_reducible apply Hp.set' 4)); (with_reducible exact H); (repeat rfl); intro w' H') | ((repeat (with_reducible apply Hp.set' 5)); (with_reducible exact H); (repeat rfl); intro w' H') | ((repeat (with_reducible apply Hp.set' 6)); (with_reducible exact H); (repeat rfl); intro w' H') | ((repeat (with_reducible apply Hp.set' 7)); (with_reducible exact H); (repeat rfl); intro w' H')); ((try simp only [List.set_cons_zero, List.set_cons_succ, List.setIfInBounds_toArray] at H'); clear C H; have H := H'; clear H'; have C := Hp.facts H; simp only [Facts, factsL, and_true, true_and, List.set_cons_zero, List.set_cons_succ, List.setIfInBounds_toArray] at C)) | go_values | go_skip | go_guarded | go_step | go_upon | go_back | (simp only [Int.not_lt, Int.not_le] at *; go_simp) | (go_values <;> (try go_simp)) | (go_ite <;> go_prune <;> (try go_simp)) | (split <;> (first | (rename_i hx; exact (hx _ rfl).elim) | go_prune))))
  refine (iparse_any [48, 2, 2, 1] _ _ (bs_cells (H.get 0 rfl) rfl rfl (by decide)) (by decide)).mono ?_
  rintro e' w2 ⟨h1, -, hB⟩
  obtain rfl := h1 3 kp2
  clear h1
  (have H' := Hp.step H hB; clear hB; ((try simp only [List.set_cons_zero, List.set_cons_succ, List.setIfInBounds_toArray] at H'); clear C H; have H := H'; clear H'; have C := Hp.facts H; simp only [Facts, factsL, and_true, true_and, List.set_cons_zero, List.set_cons_succ, List.setIfInBounds_toArray] at C))
  (repeat' ((fail_if_success (with_reducible show bodyPost _ _ _ _ _ _)); first | ((with_reducible refine Hp.abs_alloc H ?_); intro b' w' H' hb'; (try simp only [hb']); clear hb'; ((try simp only [List.set_cons_zero, List.set_cons_succ, List.setIfInBounds_toArray] at H'); clear C H; have H := H'; clear H'; have C := Hp.facts H; simp only [Facts, factsL, and_true, true_and, List.set_cons_zero, List.set_cons_succ, List.setIfInBounds_toArray] at C)) | ((with_reducible show wpList _ _ _ _ _ (World.setCell _ _ _)); (with_reducible apply Hp.abs_gen H); (first | ((repeat (with_reducible apply Hp.set' 0)); (with_reducible exact H); (repeat rfl); intro w' H') | ((repeat (with_reducible apply Hp.set' 1)); (with_reducible exact H); (repeat rfl); intro w' H') | ((repeat (with_reducible apply Hp.set' 2)); (with_reducible exact H); (repeat rfl); intro w' H') | ((repeat (with_reducible apply Hp.set' 3)); (with_reducible exact H); (repeat rfl); intro w' H') | ((repeat (with_reducible apply Hp.set' 4)); (with_reducible exact H); (repeat rfl); intro w' H') | ((repeat (with_reducible apply Hp.set' 5)); (with_reducible exact H); (repeat rfl); intro w' H') | ((repeat (with_reducible apply Hp.set' 6)); (with_reducible exact H); (repeat rfl); intro w' H') | ((repeat (with_reducible apply Hp.set' 7)); (with_reducible exact H); (repeat rfl); intro w' H')); ((try simp only [List.set_cons_zero, List.set_cons_succ, List.setIfInBounds_toArray] at H'); clear C H; have H := H'; clear H'; have C := Hp.facts H; simp only [Facts, factsL, and_true, true_and, List.set_cons_zero, List.set_cons_succ, List.setIfInBounds_toArray] at C)) | go_values | go_skip | go_guarded | go_step | go_upon | go_back | (simp only [Int.not_lt, Int.not_le] at *; go_simp) | (go_values <;> (try go_simp)) | (go_ite <;> go_prune <;> (try go_simp)) | (split <;> (first | (rename_i hx; exact (hx _ rfl).elim) | go_prune))))
  have gt := fun w3 L3 (H3 : Hp w L3 w3) (hs : ∀ x ∈ Os, x ∈ L3) => gk.out w3 L3 H3 hs
  refine (find_any 32 kt1 _ [0] _ _ ((gt _ _ H (fun x hx => by simp [hx])).any) (by rw [kc1]; decide) (by rw [ktot]; decide) (sl_cells (H.get 0 rfl) rfl rfl (by decide)) (by decide)).mono ?_
  rintro e' w3 ⟨h1, -, hB⟩
  obtain ⟨m, cs, rfl, ht, -⟩ := h1 _ kf1
  clear h1
  obtain ⟨Os2, H2, gk2⟩ := H.keepTree (Nat.zero_le _) hB ht
  obtain ⟨d0, d1, d2, d3, d4, rfl⟩ : ∃ d0 d1 d2 d3 d4, cs = [d0, d1, d2, d3, d4] := by
    clear H C H2 gk gk2 gt
    match cs, ht.len with
    | [d0, d1, d2, d3, d4], _ => exact ⟨d0, d1, d2, d3, d4, rfl⟩
  obtain ⟨e0, e1, e2, eA, eA2, ek, ec, ek2, ec2, rfl, rfl, rfl, rfl, rfl⟩ := ht.forms
  replace gk2 := Kp.mk gk2
  replace gt := Kp.mk gt
  clear H C ht hB gk
  have H := H2
  clear H2
  simp only [List.cons_append, List.nil_append] at H
  have C := Hp.facts H
  simp only [Facts, factsL, and_true, true_and, List.set_cons_zero, List.set_cons_succ, List.setIfInBounds_toArray] at C
  (repeat' ((fail_if_success (with_reducible show bodyPost _ _ _ _ _ _)); first | ((with_reducible refine Hp.abs_alloc H ?_); intro b' w' H' hb'; (try simp only [hb']); clear hb'; ((try simp only [List.set_cons_zero, List.set_cons_succ, List.setIfInBounds_toArray] at H'); clear C H; have H := H'; clear H'; have C := Hp.facts H; simp only [Facts, factsL, and_true, true_and, List.set_cons_zero, List.set_cons_succ, List.setIfInBounds_toArray] at C)) | ((with_reducible show wpList _ _ _ _ _ (World.setCell _ _ _)); (with_reducible apply Hp.abs_gen H); (first | ((repeat (with_reducible apply Hp.set' 0)); (with_reducible exact H); (repeat rfl); intro w' H') | ((repeat (with_reducible apply Hp.set' 1)); (with_reducible exact H); (repeat rfl); intro w' H') | ((repeat (with_reducible apply Hp.set' 2)); (with_reducible exact H); (repeat rfl); intro w' H') | ((repeat (with_reducible apply Hp.set' 3)); (with_reducible exact H); (repeat rfl); intro w' H') | ((repeat (with_reducible apply Hp.set' 4)); (with_reducible exact H); (repeat rfl); intro w' H') | ((repeat (with_reducible apply Hp.set' 5)); (with_reducible exact H); (repeat rfl); intro w' H') | ((repeat (with_reducible apply Hp.set' 6)); (with_reducible exact H); (repeat rfl); intro w' H') | ((repeat (with_reducible apply Hp.set' 7)); (with_reducible exact H); (repeat rfl); intro w' H')); ((try simp only [List.set_cons_zero, List.set_cons_succ, List.setIfInBounds_toArray] at H'); clear C H; have H := H'; clear H'; have C := Hp.facts H; simp only [Facts, factsL, and_true, true_and, List.set_cons_zero, List.set_cons_succ, List.setIfInBounds_toArray] at C)) | go_values | go_skip | go_guarded | go_step | go_upon | go_back | (simp only [Int.not_lt, Int.not_le] at *; go_simp) | (go_values <;> (try go_simp)) | (go_ite <;> go_prune <;> (try go_simp)) | (split <;> (first | (rename_i hx; exact (hx _ rfl).elim) | go_prune))))
  have hd := depth_any 32 kt1 _ _ ((gt.out _ _ H (fun x hx => by simp [hx])).weak fun b _ hl => hl) (by rw [kc1]; decide)
  rw [kd1] at hd
  refine hd.mono ?_
  clear hd
  (rintro e' w' ⟨rfl, hb'⟩; (have H' := Hp.step H hb'; clear hb'; ((try simp only [List.set_cons_zero, List.set_cons_succ, List.setIfInBounds_toArray] at H'); clear C H; have H := H'; clear H'; have C := Hp.facts H; simp only [Facts, factsL, and_true, true_and, List.set_cons_zero, List.set_cons_succ, List.setIfInBounds_toArray] at C)))
  (repeat' ((fail_if_success (with_reducible show bodyPost _ _ _ _ _ _)); first | ((with_reducible refine Hp.abs_alloc H ?_); intro b' w' H' hb'; (try simp only [hb']); clear hb'; ((try simp only [List.set_cons_zero, List.set_cons_succ, List.setIfInBounds_toArray] at H'); clear C H; have H := H'; clear H'; have C := Hp.facts H; simp only [Facts, factsL, and_true, true_and, List.set_cons_zero, List.set_cons_succ, List.setIfInBounds_toArray] at C)) | ((with_reducible show wpList _ _ _ _ _ (World.setCell _ _ _)); (with_reducible apply Hp.abs_gen H); (first | ((repeat (with_reducible apply Hp.set' 0)); (with_reducible exact H); (repeat rfl); intro w' H') | ((repeat (with_reducible apply Hp.set' 1)); (with_reducible exact H); (repeat rfl); intro w' H') | ((repeat (with_reducible apply Hp.set' 2)); (with_reducible exact H); (repeat rfl); intro w' H') | ((repeat (with_reducible apply Hp.set' 3)); (with_reducible exact H); (repeat rfl); intro w' H') | ((repeat (with_reducible apply Hp.set' 4)); (with_reducible exact H); (repeat rfl); intro w' H') | ((repeat (with_reducible apply Hp.set' 5)); (with_reducible exact H); (repeat rfl); intro w' H') | ((repeat (with_reducible apply Hp.set' 6)); (with_reducible exact H); (repeat rfl); intro w' H') | ((repeat (with_reducible apply Hp.set' 7)); (with_reducible exact H); (repeat rfl); intro w' H')); ((try simp only [List.set_cons_zero, List.set_cons_succ, List.setIfInBounds_toArray] at H'); clear C H; have H := H'; clear H'; have C := Hp.facts H; simp only [Facts, factsL, and_true, true_and, List.set_cons_zero, List.set_cons_succ, List.setIfInBounds_toArray] at C)) | go_values | go_skip | go_guarded | go_step | go_upon | go_back | (simp only [Int.not_lt, Int.not_le] at *; go_simp) | (go_values <;> (try go_simp)) | (go_ite <;> go_prune <;> (try go_simp)) | (split <;> (first | (rename_i hx; exact (hx _ rfl).elim) | go_prune))))
  have hd := isize_any 32 kt1 _ _ ((gt.out _ _ H (fun x hx => by simp [hx])).weak fun b _ hl => hl) (by rw [kc1]; decide)
  rw [kc1] at hd
  refine hd.mono ?_
  clear hd
  (rintro e' w' ⟨rfl, hb'⟩; (have H' := Hp.step H hb'; clear hb'; ((try simp only [List.set_cons_zero, List.set_cons_succ, List.setIfInBounds_toArray] at H'); clear C H; have H := H'; clear H'; have C := Hp.facts H; simp only [Facts, factsL, and_true, true_and, List.set_cons_zero, List.set_cons_succ, List.setIfInBounds_toArray] at C)))
  (repeat' ((fail_if_success (with_reducible show bodyPost _ _ _ _ _ _)); first | ((with_reducible refine Hp.abs_alloc H ?_); intro b' w' H' hb'; (try simp only [hb']); clear hb'; ((try simp only [List.set_cons_zero, List.set_cons_succ, List.setIfInBounds_toArray] at H'); clear C H; have H := H'; clear H'; have C := Hp.facts H; simp only [Facts, factsL, and_true, true_and, List.set_cons_zero, List.set_cons_succ, List.setIfInBounds_toArray] at C)) | ((with_reducible show wpList _ _ _ _ _ (World.setCell _ _ _)); (with_reducible apply Hp.abs_gen H); (first | ((repeat (with_reducible apply Hp.set' 0)); (with_reducible exact H); (repeat rfl); intro w' H') | ((repeat (with_reducible apply Hp.set' 1)); (with_reducible exact H); (repeat rfl); intro w' H') | ((repeat (with_reducible apply Hp.set' 2)); (with_reducible exact H); (repeat rfl); intro w' H') | ((repeat (with_reducible apply Hp.set' 3)); (with_reducible exact H); (repeat rfl); intro w' H') | ((repeat (with_reducible apply Hp.set' 4)); (with_reducible exact H); (repeat rfl); intro w' H') | ((repeat (with_reducible apply Hp.set' 5)); (with_reducible exact H); (repeat rfl); intro w' H') | ((repeat (with_reducible apply Hp.set' 6)); (with_reducible exact H); (repeat rfl); intro w' H') | ((repeat (with_reducible apply Hp.set' 7)); (with_reducible exact H); (repeat rfl); intro w' H')); ((try simp only [List.set_cons_zero, List.set_cons_succ, List.setIfInBounds_toArray] at H'); clear C H; have H := H'; clear H'; have C := Hp.facts H; simp only [Facts, factsL, and_true, true_and, List.set_cons_zero, List.set_cons_succ, List.setIfInBounds_toArray] at C)) | go_values | go_skip | go_guarded | go_step | go_upon | go_back | (simp only [Int.not_lt, Int.not_le] at *; go_simp) | (go_values <;> (try go_simp)) | (go_ite <;> go_prune <;> (try go_simp)) | (split <;> (first | (rename_i hx; exact (hx _ rfl).elim) | go_prune))))
  refine (hex_of (l := [5]) (h := [48, 53]) (by decide +kernel) _ _ (gk2.out _ _ H (fun x hx => by simp [hx])).bytesAt.out (by decide)).mono ?_
  (rintro e' w' ⟨rfl, hb'⟩; (have H' := Hp.step H hb'; clear hb'; ((try simp only [List.set_cons_zero, List.set_cons_succ, List.setIfInBounds_toArray] at H'); clear C H; have H := H'; clear H'; have C := Hp.facts H; simp only [Facts, factsL, and_true, true_and, List.set_cons_zero, List.set_cons_succ, List.setIfInBounds_toArray] at C)))
  (repeat' ((fail_if_success (with_reducible show bodyPost _ _ _ _ _ _)); first | ((with_reducible refine Hp.abs_alloc H ?_); intro b' w' H' hb'; (try simp only [hb']); clear hb'; ((try simp only [List.set_cons_zero, List.set_cons_succ, List.setIfInBounds_toArray] at H'); clear C H; have H := H'; clear H'; have C := Hp.facts H; simp only [Facts, factsL, and_true, true_and, List.set_cons_zero, List.set_cons_succ, List.setIfInBounds_toArray] at C)) | ((with_reducible show wpList _ _ _ _ _ (World.setCell _ _ _)); (with_reducible apply Hp.abs_gen H); (first | ((repeat (with_reducible apply Hp.set' 0)); (with_reducible exact H); (repeat rfl); intro w' H') | ((repeat (with_reducible apply Hp.set' 1)); (with_reducible exact H); (repeat rfl); intro w' H') | ((repeat (with_reducible apply Hp.set' 2)); (with_reducible exact H); (repeat rfl); intro w' H') | ((repeat (with_reducible apply Hp.set' 3)); (with_reducible exact H); (repeat rfl); intro w' H') | ((repeat (with_reducible apply Hp.set' 4)); (with_reducible exact H); (repeat rfl); intro w' H') | ((repeat (with_reducible apply Hp.set' 5)); (with_reducible exact H); (repeat rfl); intro w' H') | ((repeat (with_reducible apply Hp.set' 6)); (with_reducible exact H); (repeat rfl); intro w' H') | ((repeat (with_reducible apply Hp.set' 7)); (with_reducible exact H); (repeat rfl); intro w' H')); ((try simp only [List.set_cons_zero, List.set_cons_succ, List.setIfInBounds_toArray] at H'); clear C H; have H := H'; clear H'; have C := Hp.facts H; simp only [Facts, factsL, and_true, true_and, List.set_cons_zero, List.set_cons_succ, List.setIfInBounds_toArray] at C)) | go_values | go_skip | go_guarded | go_step | go_upon | go_back | (simp only [Int.not_lt, Int.not_le] at *; go_simp) | (go_values <;> (try go_simp)) | (go_ite <;> go_prune <;> (try go_simp)) | (split <;> (first | (rename_i hx; exact (hx _ rfl).elim) | go_prune))))
  go_ret
  exact ⟨rfl, H.low⟩
end Go.Proofs.Ytogliinfdfkobaa

set_option linter.unusedSimpArgs false
set_option linter.unusedVariables false
set_option maxRecDepth 100000
namespace Go.Proofs.Ytogliinfdfkobaa
open Go.RowKit Go.Mem Go.Reg Oct Hd Go.LawLift
theorem five_of {cs : List Value} (h : cs.length = 5) : ∃ d0 d1 d2 d3 d4, cs = [d0, d1, d2, d3, d4] := by
  match cs, h with
  | [d0, d1, d2, d3, d4], _ => exact ⟨d0, d1, d2, d3, d4, rfl⟩
/-- The tree of no part. -/
abbrev zt : Tree := .mk ⟨0, 0, false⟩ [] []
/-- Bytes that are turned one by one. -/
def FiRel (w : World) (y3 : Value) (n : Nat) (M : List Ent) (ix : Value) (wr : World) : Prop := ∃ (i : Nat) (zs : List Int), i ≤ n ∧ ix = .int .i64 i ∧ zs.length = n ∧ Hp w (.row 5 1 y3 n (zs.map (Value.int .u8)) :: M) wr
theorem FiRel.mk {w : World} {y3 : Value} {n : Nat} {M : List Ent} {ix : Value} {wr : World} (i : Nat) (zs : List Int) (h1 : i ≤ n) (h2 : ix = .int .i64 i) (h3 : zs.length = n) (h4 : Hp w (.row 5 1 y3 n (zs.map (Value.int .u8)) :: M) wr) : FiRel w y3 n M ix wr := ⟨i, zs, h1, h2, h3, h4⟩
theorem FiRel.start {w wr : World} {y3 : Value} {n : Nat} {zs : List Int} {M : List Ent} (h3 : zs.length = n) (H : Hp w (.row 5 1 y3 n (zs.map (Value.int .u8)) :: M) wr) : ∃ M', M' = M ∧ FiRel w y3 n M' (.int .i64 0) wr :=
  ⟨M, rfl, 0, zs, Nat.zero_le _, rfl, h3, H⟩
end Go.Proofs.Ytogliinfdfkobaa

set_option linter.unusedSimpArgs false
set_option linter.unusedVariables false
set_option maxRecDepth 100000
namespace Go.Proofs.Ytogliinfdfkobaa
open Go.RowKit Go.Mem Go.Reg Hd Go.LawLift Oct
end Go.Proofs.Ytogliinfdfkobaa

