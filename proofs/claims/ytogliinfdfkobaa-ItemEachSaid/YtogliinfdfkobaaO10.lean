/- Lemmas and walks on the way to the seat's laws; each theorem says its own conditions. -/
import Derived.Test.YtogliinfdfkobaaO9
set_option linter.unusedSimpArgs false
set_option linter.unusedVariables false
set_option linter.unusedSimpArgs false
set_option linter.unusedVariables false
set_option maxRecDepth 100000
namespace Go.Proofs.Ytogliinfdfkobaa
open Go.RowKit Go.Mem Go.Reg Oct
theorem size_u8 : (Try.prog.info? 5).map (·.size) = some 1 := by kernel_rfl
theorem cut_src {w0 w : World} {L : List Ent} (H : Hp w0 L w) {l : List UInt8} {g o : Nat} (hg : g < w0.heap.size) (hc : ∀ j, (hj : j < l.length) → w0.cell? ⟨g, o + j, none⟩ = some (.int .u8 (l[j].toNat : Int))) (f n : Nat) :
    ∀ (j : Nat) (u : Value), (((l.drop f).take n).map u8c)[j]? = some u → w.cell? ((⟨g, o + f, none⟩ : Addr).add j) = some u := by
  intro j u hu
  have ha : (⟨g, o + f, none⟩ : Addr).add j = ⟨g, o + (f + j), none⟩ := by unfold Addr.add; split <;> simp_all [Nat.add_assoc]
  rw [ha]
  rw [List.getElem?_map, List.getElem?_take] at hu
  split at hu
  · rw [List.getElem?_drop] at hu
    cases hx : l[f + j]? with
    | none => rw [hx] at hu; cases hu
    | some x =>
      rw [hx] at hu
      obtain ⟨hlt, hxe⟩ := List.getElem?_eq_some_iff.1 hx
      have h1 : w.cell? ⟨g, o + (f + j), none⟩ = w0.cell? ⟨g, o + (f + j), none⟩ := H.low.cell hg
      rw [h1, hc (f + j) hlt, hxe]
      exact hu
  · cases hu
set_option maxHeartbeats 1000000 in
theorem may_ok (b : Nat) (l : List UInt8) (k : Nat) (v : Value) (n : Int) (h0 : 0 ≤ n) (h1 : n ≤ (l.length : Int) - (k : Int)) (w : World) (h : Cur w b l k v) :
    Calls Try.prog 70 #[.pointer (some ⟨b, 0, none⟩), .int .i64 n] w fun e w' => e = .returned (.int .i64 0) ∧ Below w.heap.size w w' := by
  have c0 := h.c0
  have c1 := h.c1
  have hbl := h.lt
  have hk := h.le
  have hl := h.len
  have hbs := h.bs
  have hfz := h.fz
  obtain ⟨A, c, rfl, hlc, hcm, hA, hcell⟩ := h.bs.open
  have H := Hp.start w
  have C : True := trivial
  go_enter Try.func70, Try.ntmps70
  (repeat' ((fail_if_success (with_reducible show bodyPost _ _ _ _ _ _)); first | ((with_reducible refine Hp.abs_alloc H ?_); intro b' w' H' hb'; (try simp only [hb']); clear hb'; ((try simp only [List.set_cons_zero, List.set_cons_succ, List.setIfInBounds_toArray] at H'); clear C H; have H := H'; clear H'; have C := Hp.facts H; simp only [Facts, factsL, and_true, true_and, List.set_cons_zero, List.set_cons_succ, List.setIfInBounds_toArray] at C)) | ((with_reducible show wpList _ _ _ _ _ (World.setCell _ _ _)); (with_reducible apply Hp.abs_gen H); (first | ((repeat (with_reducible apply Hp.set' 0)); (with_reducible exact H); (repeat rfl); intro w' H') | ((repeat (with_reducible apply Hp.set' 1)); (with_reducible exact H); (repeat rfl); intro w' H') | ((repeat (with_reducible apply Hp.set' 2)); (with_reducible exact H); (repeat rfl); intro w' H') | ((repeat (with_reducible apply Hp.set' 3)); (with_reducible exact H); (repeat rfl); intro w' H') | ((repeat (with_reducible apply Hp.set' 4)); (with_reducible exact H); (repeat rfl); intro w' H') | ((repeat (with_reducible apply Hp.set' 5)); (with_reducible exact H); (repeat rfl); intro w' H') | ((repeat (with_reducible apply Hp.set' 6)); (with_reducible exact H); (repeat rfl); intro w' H') | ((repeat (with_reducible apply Hp.set' 7)); (with_reducible exact H); (repeat rfl); intro w' H')); ((try simp only [List.set_cons_zero, List.set_cons_succ, List.setIfInBounds_toArray] at H'); clear C H; have H := H'; clear H'; have C := Hp.facts H; simp only [Facts, factsL, and_true, true_and, List.set_cons_zero, List.set_cons_succ, List.setIfInBounds_toArray] at C)) | (go_at_call 52; refine (left_any b l k _ _ (h.step H.low)).mono ?_; rintro e' w' ⟨rfl, hb'⟩; (have H' := Hp.step H hb'; clear hb'; ((try simp only [List.set_cons_zero, List.set_cons_succ, List.setIfInBounds_toArray] at H'); clear C H; have H := H'; clear H'; have C := Hp.facts H; simp only [Facts, factsL, and_true, true_and, List.set_cons_zero, List.set_cons_succ, List.setIfInBounds_toArray] at C))) | go_values | go_skip | go_guarded | go_step | go_upon | go_back | (simp only [Int.not_lt, Int.not_le] at *; go_simp) | (go_values <;> (try go_simp)) | (go_ite <;> go_prune <;> (try go_simp)) | (split <;> (first | (rename_i hx; exact (hx _ rfl).elim) | go_prune))))
  go_ret
  exact ⟨rfl, H.low⟩
set_option maxHeartbeats 1000000 in
theorem may_big (b : Nat) (l : List UInt8) (k : Nat) (v : Value) (n : Int) (h0 : 0 ≤ n) (h1 : (l.length : Int) - (k : Int) < n) (w : World) (h : Cur w b l k v) :
    Calls Try.prog 70 #[.pointer (some ⟨b, 0, none⟩), .int .i64 n] w fun e w' => e = .returned (.int .i64 3) ∧ Below w.heap.size w w' := by
  have c0 := h.c0
  have c1 := h.c1
  have hbl := h.lt
  have hk := h.le
  have hl := h.len
  have hbs := h.bs
  have hfz := h.fz
  obtain ⟨A, c, rfl, hlc, hcm, hA, hcell⟩ := h.bs.open
  have H := Hp.start w
  have C : True := trivial
  go_enter Try.func70, Try.ntmps70
  (repeat' ((fail_if_success (with_reducible show bodyPost _ _ _ _ _ _)); first | ((with_reducible refine Hp.abs_alloc H ?_); intro b' w' H' hb'; (try simp only [hb']); clear hb'; ((try simp only [List.set_cons_zero, List.set_cons_succ, List.setIfInBounds_toArray] at H'); clear C H; have H := H'; clear H'; have C := Hp.facts H; simp only [Facts, factsL, and_true, true_and, List.set_cons_zero, List.set_cons_succ, List.setIfInBounds_toArray] at C)) | ((with_reducible show wpList _ _ _ _ _ (World.setCell _ _ _)); (with_reducible apply Hp.abs_gen H); (first | ((repeat (with_reducible apply Hp.set' 0)); (with_reducible exact H); (repeat rfl); intro w' H') | ((repeat (with_reducible apply Hp.set' 1)); (with_reducible exact H); (repeat rfl); intro w' H') | ((repeat (with_reducible apply Hp.set' 2)); (with_reducible exact H); (repeat rfl); intro w' H') | ((repeat (with_reducible apply Hp.set' 3)); (with_reducible exact H); (repeat rfl); intro w' H') | ((repeat (with_reducible apply Hp.set' 4)); (with_reducible exact H); (repeat rfl); intro w' H') | ((repeat (with_reducible apply Hp.set' 5)); (with_reducible exact H); (repeat rfl); intro w' H') | ((repeat (with_reducible apply Hp.set' 6)); (with_reducible exact H); (repeat rfl); intro w' H') | ((repeat (with_reducible apply Hp.set' 7)); (with_reducible exact H); (repeat rfl); intro w' H')); ((try simp only [List.set_cons_zero, List.set_cons_succ, List.setIfInBounds_toArray] at H'); clear C H; have H := H'; clear H'; have C := Hp.facts H; simp only [Facts, factsL, and_true, true_and, List.set_cons_zero, List.set_cons_succ, List.setIfInBounds_toArray] at C)) | (go_at_call 52; refine (left_any b l k _ _ (h.step H.low)).mono ?_; rintro e' w' ⟨rfl, hb'⟩; (have H' := Hp.step H hb'; clear hb'; ((try simp only [List.set_cons_zero, List.set_cons_succ, List.setIfInBounds_toArray] at H'); clear C H; have H := H'; clear H'; have C := Hp.facts H; simp only [Facts, factsL, and_true, true_and, List.set_cons_zero, List.set_cons_succ, List.setIfInBounds_toArray] at C))) | go_values | go_skip | go_guarded | go_step | go_upon | go_back | (simp only [Int.not_lt, Int.not_le] at *; go_simp) | (go_values <;> (try go_simp)) | (go_ite <;> go_prune <;> (try go_simp)) | (split <;> (first | (rename_i hx; exact (hx _ rfl).elim) | go_prune))))
  go_ret
  exact ⟨rfl, H.low⟩
set_option maxHeartbeats 2000000 in
theorem cut_any (b : Nat) (l : List UInt8) (v : Value) (f t : Nat) (hft : f ≤ t) (ht : t ≤ l.length) (w : World) (hb : Bs w v l) (hl : l.length ≤ 1000000) (c0 : w.cell? ⟨b, 0, none⟩ = some v) :
    Calls Try.prog 71 #[.pointer (some ⟨b, 0, none⟩), .int .i64 (f : Int), .int .i64 (t : Int)] w fun e w' => (∃ v', e = .returned v' ∧ w'.ownsRow w.heap.size 5 1 v' (t - f) (((l.drop f).take (t - f)).map u8c)) ∧ Below w.heap.size w w' := by
  obtain ⟨i0, hi, hz0, hz1, hz2⟩ := info_parts info_u8
  have hbl : b < w.heap.size := World.block_lt_of_cell? w _ c0
  obtain ⟨A, c, rfl, hlc, hcm, hA, hcell⟩ := hb.open
  have H := Hp.start w
  have C : True := trivial
  by_cases hp : f < t
  · obtain ⟨g, o, rfl, hgl, hc⟩ := hcell f (by omega)
    go_enter Try.func71, Try.ntmps71
    (repeat' ((fail_if_success (with_reducible show bodyPost _ _ _ _ _ _)); first | ((with_reducible refine Hp.abs_alloc H ?_); intro b' w' H' hb'; (try simp only [hb']); clear hb'; ((try simp only [List.set_cons_zero, List.set_cons_succ, List.setIfInBounds_toArray] at H'); clear C H; have H := H'; clear H'; have C := Hp.facts H; simp only [Facts, factsL, and_true, true_and, List.set_cons_zero, List.set_cons_succ, List.setIfInBounds_toArray] at C)) | ((with_reducible show wpList _ _ _ _ _ (World.setCell _ _ _)); (with_reducible apply Hp.abs_gen H); (first | ((repeat (with_reducible apply Hp.set' 0)); (with_reducible exact H); (repeat rfl); intro w' H') | ((repeat (with_reducible apply Hp.set' 1)); (with_reducible exact H); (repeat rfl); intro w' H') | ((repeat (with_reducible apply Hp.set' 2)); (with_reducible exact H); (repeat rfl); intro w' H') | ((repeat (with_reducible apply Hp.set' 3)); (with_reducible exact H); (repeat rfl); intro w' H') | ((repeat (with_reducible apply Hp.set' 4)); (with_reducible exact H); (repeat rfl); intro w' H') | ((repeat (with_reducible apply Hp.set' 5)); (with_reducible exact H); (repeat rfl); intro w' H') | ((repeat (with_reducible apply Hp.set' 6)); (with_reducible exact H); (repeat rfl); intro w' H') | ((repeat (with_reducible apply Hp.set' 7)); (with_reducible exact H); (repeat rfl); intro w' H')); ((try simp only [List.set_cons_zero, List.set_cons_succ, List.setIfInBounds_toArray] at H'); clear C H; have H := H'; clear H'; have C := Hp.facts H; simp only [Facts, factsL, and_true, true_and, List.set_cons_zero, List.set_cons_succ, List.setIfInBounds_toArray] at C)) | (at_make; refine wpList_full_hp H rfl _ _ _ rfl Try.underlying24 hi hz0 hz1 (t - f) rfl rfl (by omega) (by omega) (by rw [hz2]; omega) (by unfold maxLen; omega) ?_; intro g' w' H'; ((try simp only [List.set_cons_zero, List.set_cons_succ, List.setIfInBounds_toArray] at H'); clear C H; have H := H'; clear H'; have C := Hp.facts H; simp only [Facts, factsL, and_true, true_and, List.set_cons_zero, List.set_cons_succ, List.setIfInBounds_toArray] at C)) | (refine wpList_copy_hp H 0 rfl _ _ _ _ rfl Try.underlying24 size_u8 rfl rfl rfl (cs := ((l.drop f).take (t - f)).map u8c) (by simp; omega) (fun _ => ⟨_, rfl, cut_src H hgl hc f (t - f)⟩) (u8c_one _) ?_; intro w' H'; ((try simp only [List.set_cons_zero, List.set_cons_succ, List.setIfInBounds_toArray] at H'); clear C H; have H := H'; clear H'; have C := Hp.facts H; simp only [Facts, factsL, and_true, true_and, List.set_cons_zero, List.set_cons_succ, List.setIfInBounds_toArray] at C)) | go_values | go_skip | go_guarded | go_step | go_upon | go_back | (simp only [Int.not_lt, Int.not_le] at *; go_simp) | (go_values <;> (try go_simp)) | (go_ite <;> go_prune <;> (try go_simp)) | (split <;> (first | (rename_i hx; exact (hx _ rfl).elim) | go_prune))))
    go_ret
    exact ⟨⟨_, rfl, ownsOf H 0 rfl⟩, H.low⟩
  · obtain rfl : f = t := by omega
    rw [show f - f = 0 by omega]
    go_enter Try.func71, Try.ntmps71
    (repeat' ((fail_if_success (with_reducible show bodyPost _ _ _ _ _ _)); first | ((with_reducible refine Hp.abs_alloc H ?_); intro b' w' H' hb'; (try simp only [hb']); clear hb'; ((try simp only [List.set_cons_zero, List.set_cons_succ, List.setIfInBounds_toArray] at H'); clear C H; have H := H'; clear H'; have C := Hp.facts H; simp only [Facts, factsL, and_true, true_and, List.set_cons_zero, List.set_cons_succ, List.setIfInBounds_toArray] at C)) | ((with_reducible show wpList _ _ _ _ _ (World.setCell _ _ _)); (with_reducible apply Hp.abs_gen H); (first | ((repeat (with_reducible apply Hp.set' 0)); (with_reducible exact H); (repeat rfl); intro w' H') | ((repeat (with_reducible apply Hp.set' 1)); (with_reducible exact H); (repeat rfl); intro w' H') | ((repeat (with_reducible apply Hp.set' 2)); (with_reducible exact H); (repeat rfl); intro w' H') | ((repeat (with_reducible apply Hp.set' 3)); (with_reducible exact H); (repeat rfl); intro w' H') | ((repeat (with_reducible apply Hp.set' 4)); (with_reducible exact H); (repeat rfl); intro w' H') | ((repeat (with_reducible apply Hp.set' 5)); (with_reducible exact H); (repeat rfl); intro w' H') | ((repeat (with_reducible apply Hp.set' 6)); (with_reducible exact H); (repeat rfl); intro w' H') | ((repeat (with_reducible apply Hp.set' 7)); (with_reducible exact H); (repeat rfl); intro w' H')); ((try simp only [List.set_cons_zero, List.set_cons_succ, List.setIfInBounds_toArray] at H'); clear C H; have H := H'; clear H'; have C := Hp.facts H; simp only [Facts, factsL, and_true, true_and, List.set_cons_zero, List.set_cons_succ, List.setIfInBounds_toArray] at C)) | (at_make; refine wpList_full_hp H rfl _ _ _ rfl Try.underlying24 hi hz0 hz1 0 rfl rfl (by omega) (by omega) (by rw [hz2]; omega) (by unfold maxLen; omega) ?_; intro g' w' H'; ((try simp only [List.set_cons_zero, List.set_cons_succ, List.setIfInBounds_toArray] at H'); clear C H; have H := H'; clear H'; have C := Hp.facts H; simp only [Facts, factsL, and_true, true_and, List.set_cons_zero, List.set_cons_succ, List.setIfInBounds_toArray] at C)) | (refine wpList_copy_hp H 0 rfl _ _ _ _ rfl Try.underlying24 size_u8 rfl rfl rfl (cs := []) rfl (fun h => absurd h (by omega)) (by simp) ?_; intro w' H'; ((try simp only [List.set_cons_zero, List.set_cons_succ, List.setIfInBounds_toArray] at H'); clear C H; have H := H'; clear H'; have C := Hp.facts H; simp only [Facts, factsL, and_true, true_and, List.set_cons_zero, List.set_cons_succ, List.setIfInBounds_toArray] at C)) | go_values | go_skip | go_guarded | go_step | go_upon | go_back | (simp only [Int.not_lt, Int.not_le] at *; go_simp) | (go_values <;> (try go_simp)) | (go_ite <;> go_prune <;> (try go_simp)) | (split <;> (first | (rename_i hx; exact (hx _ rfl).elim) | go_prune))))
    go_ret
    exact ⟨⟨_, rfl, by simpa using ownsOf H 0 rfl⟩, H.low⟩
theorem cut_n (b : Nat) (l : List UInt8) (v : Value) (f n : Nat) (ht : f + n ≤ l.length) (w : World) (hb : Bs w v l) (hl : l.length ≤ 1000000) (c0 : w.cell? ⟨b, 0, none⟩ = some v) :
    Calls Try.prog 71 #[.pointer (some ⟨b, 0, none⟩), .int .i64 (f : Int), .int .i64 ((f + n : Nat) : Int)] w fun e w' => (∃ v', e = .returned v' ∧ w'.ownsRow w.heap.size 5 1 v' n (((l.drop f).take n).map u8c)) ∧ Below w.heap.size w w' := by
  have := cut_any b l v f (f + n) (by omega) ht w hb hl c0
  rwa [Nat.add_sub_cancel_left] at this
/-- What taking tells and leaves. -/
def TakePost (w : World) (b : Nat) (v : Value) (l : List UInt8) (k n : Nat) (e : Ending) (w' : World) : Prop :=
  ∃ v', e = .returned (.tuple #[v', .int .i64 0]) ∧ w'.ownsRow w.heap.size 5 1 v' n (((l.drop k).take n).map u8c) ∧ Moved w b v (k + n) w'
set_option maxHeartbeats 2000000 in
theorem take_yes (b : Nat) (l : List UInt8) (k : Nat) (v : Value) (n : Nat) (hn : k + n ≤ l.length) (w : World) (h : Cur w b l k v) :
    Calls Try.prog 63 #[.pointer (some ⟨b, 0, none⟩), .int .i64 (n : Int)] w (TakePost w b v l k n) := by
  have c0 := h.c0
  have c1 := h.c1
  have hbl := h.lt
  have hk := h.le
  have hl := h.len
  have hbs := h.bs
  have hfz := h.fz
  obtain ⟨A, c, rfl, hlc, hcm, hA, hcell⟩ := h.bs.open
  have H := Hp.start w
  have C : True := trivial
  go_enter Try.func63, Try.ntmps63
  (repeat' ((fail_if_success (with_reducible show bodyPost _ _ _ _ _ _)); first | ((with_reducible refine Hp.abs_alloc H ?_); intro b' w' H' hb'; (try simp only [hb']); clear hb'; ((try simp only [List.set_cons_zero, List.set_cons_succ, List.setIfInBounds_toArray] at H'); clear C H; have H := H'; clear H'; have C := Hp.facts H; simp only [Facts, factsL, and_true, true_and, List.set_cons_zero, List.set_cons_succ, List.setIfInBounds_toArray] at C)) | ((with_reducible show wpList _ _ _ _ _ (World.setCell _ _ _)); (with_reducible apply Hp.abs_gen H); (first | ((repeat (with_reducible apply Hp.set' 0)); (with_reducible exact H); (repeat rfl); intro w' H') | ((repeat (with_reducible apply Hp.set' 1)); (with_reducible exact H); (repeat rfl); intro w' H') | ((repeat (with_reducible apply Hp.set' 2)); (with_reducible exact H); (repeat rfl); intro w' H') | ((repeat (with_reducible apply Hp.set' 3)); (with_reducible exact H); (repeat rfl); intro w' H') | ((repeat (with_reducible apply Hp.set' 4)); (with_reducible exact H); (repeat rfl); intro w' H') | ((repeat (with_reducible apply Hp.set' 5)); (with_reducible exact H); (repeat rfl); intro w' H') | ((repeat (with_reducible apply Hp.set' 6)); (with_reducible exact H); (repeat rfl); intro w' H') | ((repeat (with_reducible apply Hp.set' 7)); (with_reducible exact H); (repeat rfl); intro w' H')); ((try simp only [List.set_cons_zero, List.set_cons_succ, List.setIfInBounds_toArray] at H'); clear C H; have H := H'; clear H'; have C := Hp.facts H; simp only [Facts, factsL, and_true, true_and, List.set_cons_zero, List.set_cons_succ, List.setIfInBounds_toArray] at C)) | (go_at_call 70; refine (may_ok b l k _ _ (by omega) (by omega) _ (h.step H.low)).mono ?_; rintro e' w' ⟨rfl, hb'⟩; (have H' := Hp.step H hb'; clear hb'; ((try simp only [List.set_cons_zero, List.set_cons_succ, List.setIfInBounds_toArray] at H'); clear C H; have H := H'; clear H'; have C := Hp.facts H; simp only [Facts, factsL, and_true, true_and, List.set_cons_zero, List.set_cons_succ, List.setIfInBounds_toArray] at C))) | go_values | go_skip | go_guarded | go_step | go_upon | go_back | (simp only [Int.not_lt, Int.not_le] at *; go_simp) | (go_values <;> (try go_simp)) | (go_ite <;> go_prune <;> (try go_simp)) | (split <;> (first | (rename_i hx; exact (hx _ rfl).elim) | go_prune))))
  obtain ⟨w3, rfl⟩ := Hp.nameW H
  refine region_bt 14 37 [14, 14, 14, 14, 14, 14, 14, 14, 14, 14, 14, 14, 14, 14] [some 14, some 15, some 16, some 17, some 18, some 19, some 20, some 21, some 22, some 23, some 24, some 25, some 26, some 27] [[], [0], [1], [], [3], [4], [5], [], [7], [8], [9], [], [10, 11], [2, 6, 12]] [fun v _ => v = .pointer (some ⟨b, 0, none⟩), fun v _ => v = .pointer (some ⟨b, 0, none⟩), fun v _ => v = .pointer (some ⟨b, 0, none⟩), fun v _ => v = .pointer (some ⟨b, 0, none⟩), fun v _ => v = .pointer (some ⟨b, 0, none⟩), fun v _ => v = .pointer (some ⟨b, 1, none⟩), fun v _ => v = .int .i64 (k : Int), fun v _ => v = .pointer (some ⟨b, 0, none⟩), fun v _ => v = .pointer (some ⟨b, 0, none⟩), fun v _ => v = .pointer (some ⟨b, 1, none⟩), fun v _ => v = .int .i64 (k : Int), fun v _ => v = .int .i64 (n : Int), fun v _ => v = .int .i64 ((k + n : Nat) : Int), fun v w => w.ownsRow w3.heap.size 5 1 v n (((l.drop k).take n).map u8c)] (by kernel_rfl) (by kernel_rfl) (by kernel_rfl) rfl (by kernel_rfl) rfl _ (fun vs => (by simp only [fillD, Nat.reduceAdd, Act.put, List.setIfInBounds_toArray, List.set_cons_zero, List.set_cons_succ]; rfl)) ?_ ?_ ?_
  · refine ⟨fun _ _ _ _ h => h, fun _ _ _ _ h => h, fun _ _ _ _ h => h, fun _ _ _ _ h => h, fun _ _ _ _ h => h, fun _ _ _ _ h => h, fun _ _ _ _ h => h, fun _ _ _ _ h => h, fun _ _ _ _ h => h, fun _ _ _ _ h => h, fun _ _ _ _ h => h, fun _ _ _ _ h => h, fun _ _ _ _ h => h, fun _ _ _ hr h => Go.Mem.owns_step h hr, trivial⟩
  · refine ⟨?_, ?_, ?_, ?_, ?_, ?_, ?_, ?_, ?_, ?_, ?_, ?_, ?_, ?_, trivial⟩
    · intro vs w' K hJ hR hK
      rw [if_pos (by rfl)]
      go_step
      exact hK.out _ _ (Below.refl _ _) (rfl)
    · intro vs w' K hJ hR hK
      simp only [DepJ, List.getD_cons_zero, List.getD_cons_succ] at hJ
      obtain ⟨j0, -⟩ := hJ
      simp only [j0] at hK ⊢
      rw [if_pos (by rfl)]
      go_step
      exact hK.out _ _ (Below.refl _ _) (rfl)
    · intro vs w' K hJ hR hK
      simp only [DepJ, List.getD_cons_zero, List.getD_cons_succ] at hJ
      obtain ⟨j1, -⟩ := hJ
      simp only [j1] at hK ⊢
      rw [if_pos (by rfl)]
      go_step
      exact hK.out _ _ (Below.refl _ _) (rfl)
    · intro vs w' K hJ hR hK
      rw [if_pos (by rfl)]
      go_step
      exact hK.out _ _ (Below.refl _ _) (rfl)
    · intro vs w' K hJ hR hK
      simp only [DepJ, List.getD_cons_zero, List.getD_cons_succ] at hJ
      obtain ⟨j3, -⟩ := hJ
      simp only [j3] at hK ⊢
      rw [if_pos (by rfl)]
      go_step
      exact hK.out _ _ (Below.refl _ _) (rfl)
    · intro vs w' K hJ hR hK
      simp only [DepJ, List.getD_cons_zero, List.getD_cons_succ] at hJ
      obtain ⟨j4, -⟩ := hJ
      simp only [j4] at hK ⊢
      rw [if_pos (by rfl)]
      go_step
      exact hK.out _ _ (Below.refl _ _) (rfl)
    · intro vs w' K hJ hR hK
      simp only [DepJ, List.getD_cons_zero, List.getD_cons_succ] at hJ
      obtain ⟨j5, -⟩ := hJ
      simp only [j5] at hK ⊢
      rw [if_pos (by rfl)]
      have C := Hp.facts (Hp.step H.drew hR)
      simp only [Facts, factsL, and_true, true_and, List.set_cons_zero, List.set_cons_succ, List.setIfInBounds_toArray] at C
      have hl1 := hbl
      go_step
      exact hK.out _ _ (Below.refl _ _) rfl
    · intro vs w' K hJ hR hK
      rw [if_pos (by rfl)]
      go_step
      exact hK.out _ _ (Below.refl _ _) (rfl)
    · intro vs w' K hJ hR hK
      simp only [DepJ, List.getD_cons_zero, List.getD_cons_succ] at hJ
      obtain ⟨j7, -⟩ := hJ
      simp only [j7] at hK ⊢
      rw [if_pos (by rfl)]
      go_step
      exact hK.out _ _ (Below.refl _ _) (rfl)
    · intro vs w' K hJ hR hK
      simp only [DepJ, List.getD_cons_zero, List.getD_cons_succ] at hJ
      obtain ⟨j8, -⟩ := hJ
      simp only [j8] at hK ⊢
      rw [if_pos (by rfl)]
      go_step
      exact hK.out _ _ (Below.refl _ _) (rfl)
    · intro vs w' K hJ hR hK
      simp only [DepJ, List.getD_cons_zero, List.getD_cons_succ] at hJ
      obtain ⟨j9, -⟩ := hJ
      simp only [j9] at hK ⊢
      rw [if_pos (by rfl)]
      have C := Hp.facts (Hp.step H.drew hR)
      simp only [Facts, factsL, and_true, true_and, List.set_cons_zero, List.set_cons_succ, List.setIfInBounds_toArray] at C
      have hl1 := hbl
      go_step
      exact hK.out _ _ (Below.refl _ _) rfl
    · intro vs w' K hJ hR hK
      rw [if_pos (by rfl)]
      go_step
      exact hK.out _ _ (Below.refl _ _) (rfl)
    · intro vs w' K hJ hR hK
      simp only [DepJ, List.getD_cons_zero, List.getD_cons_succ] at hJ
      obtain ⟨j10, j11, -⟩ := hJ
      simp only [j10, j11] at hK ⊢
      rw [if_pos (by rfl)]
      go_step
      exact hK.out _ _ (Below.refl _ _) (by simp)
    · intro vs w' K hJ hR hK
      simp only [DepJ, List.getD_cons_zero, List.getD_cons_succ] at hJ
      obtain ⟨j2, j6, j12, -⟩ := hJ
      simp only [j2, j6, j12] at hK ⊢
      rw [if_pos (by rfl)]
      go_step
      refine (cut_n b l _ k n (by omega) w' ((Hp.step H.drew hR).bs hbs) hl (((Hp.step H.drew hR).low.cell hbl).trans c0)).mono ?_
      rintro e' w'' ⟨⟨v', rfl, ho⟩, hb⟩
      exact hK.out _ _ hb ⟨ho.1, ho.2.imp id fun ⟨g, cap, cur, e1, e2, r⟩ => ⟨g, cap, cur, e1, Nat.le_trans hR.size e2, r⟩⟩
  intro vs w' hJ hR
  simp only [AllJ, Nat.reduceAdd] at hJ
  obtain ⟨v0, v1, v2, v3, v4, v5, v6, v7, v8, v9, v10, v11, v12, v13, -⟩ := hJ
  simp only [List.drop_succ_cons, List.drop_zero]
  have hR' := hR
  have H' := Hp.adopt H.drew hR (.row 5 1 (vs 13) n (((l.drop k).take n).map u8c)) v13
  ((try simp only [List.set_cons_zero, List.set_cons_succ, List.setIfInBounds_toArray] at H'); clear C H; have H := H'; clear H'; have C := Hp.facts H; simp only [Facts, factsL, and_true, true_and, List.set_cons_zero, List.set_cons_succ, List.setIfInBounds_toArray] at C)
  generalize vs 13 = v' at *
  clear v0 v1 v2 v3 v4 v5 v6 v7 v8 v9 v10 v11 v12 v13
  (repeat' ((fail_if_success (with_reducible show bodyPost _ _ _ _ _ _)); first | ((with_reducible refine Hp.abs_alloc H ?_); intro b' w' H' hb'; (try simp only [hb']); clear hb'; ((try simp only [List.set_cons_zero, List.set_cons_succ, List.setIfInBounds_toArray] at H'); clear C H; have H := H'; clear H'; have C := Hp.facts H; simp only [Facts, factsL, and_true, true_and, List.set_cons_zero, List.set_cons_succ, List.setIfInBounds_toArray] at C)) | ((with_reducible show wpList _ _ _ _ _ (World.setCell _ _ _)); (with_reducible apply Hp.abs_gen H); (first | ((repeat (with_reducible apply Hp.set' 0)); (with_reducible exact H); (repeat rfl); intro w' H') | ((repeat (with_reducible apply Hp.set' 1)); (with_reducible exact H); (repeat rfl); intro w' H') | ((repeat (with_reducible apply Hp.set' 2)); (with_reducible exact H); (repeat rfl); intro w' H') | ((repeat (with_reducible apply Hp.set' 3)); (with_reducible exact H); (repeat rfl); intro w' H') | ((repeat (with_reducible apply Hp.set' 4)); (with_reducible exact H); (repeat rfl); intro w' H') | ((repeat (with_reducible apply Hp.set' 5)); (with_reducible exact H); (repeat rfl); intro w' H') | ((repeat (with_reducible apply Hp.set' 6)); (with_reducible exact H); (repeat rfl); intro w' H') | ((repeat (with_reducible apply Hp.set' 7)); (with_reducible exact H); (repeat rfl); intro w' H')); ((try simp only [List.set_cons_zero, List.set_cons_succ, List.setIfInBounds_toArray] at H'); clear C H; have H := H'; clear H'; have C := Hp.facts H; simp only [Facts, factsL, and_true, true_and, List.set_cons_zero, List.set_cons_succ, List.setIfInBounds_toArray] at C)) | go_values | go_skip | go_guarded | go_step | go_upon | go_back | (simp only [Int.not_lt, Int.not_le] at *; go_simp) | (go_values <;> (try go_simp)) | (go_ite <;> go_prune <;> (try go_simp)) | (split <;> (first | (rename_i hx; exact (hx _ rfl).elim) | go_prune))))
  go_ret2
  have hm := Moved.put h H.low (k + n)
  refine ⟨v', rfl, ?_, by simpa using hm⟩
  exact ownsRow_setCell_below (a := ⟨b, 1, none⟩) (ownsOf H 0 rfl) hbl _
end Go.Proofs.Ytogliinfdfkobaa

