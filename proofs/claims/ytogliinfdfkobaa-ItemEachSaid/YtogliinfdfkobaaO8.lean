/- Lemmas and walks on the way to the seat's laws; each theorem says its own conditions. -/
import Derived.Test.YtogliinfdfkobaaHPlain
set_option linter.unusedSimpArgs false
set_option linter.unusedVariables false
set_option linter.unusedSimpArgs false
set_option linter.unusedVariables false
set_option maxRecDepth 100000
namespace Go.Proofs.Ytogliinfdfkobaa
open Go.RowKit Go.Mem Go.Reg Oct
/-- A cursor over bytes l at place k: its block holds a slice that reads l, and k. -/
structure Cur (w : World) (b : Nat) (l : List UInt8) (k : Nat) (v : Value) : Prop where
  blk : w.heap[b]? = some (.cells #[v, .int .i64 (k : Int)] 112 (0, 0))
  bs : Bs w v l
  le : k ≤ l.length
  len : l.length ≤ 1000000
theorem Cur.lt {w : World} {b : Nat} {l : List UInt8} {k : Nat} {v : Value} (h : Cur w b l k v) : b < w.heap.size := (Array.getElem?_eq_some_iff.1 h.blk).1
theorem Cur.c0 {w : World} {b : Nat} {l : List UInt8} {k : Nat} {v : Value} (h : Cur w b l k v) : w.cell? ⟨b, 0, none⟩ = some v := by
  rw [cell_of_row w b 0 _ _ _ h.blk]; rfl
theorem Cur.c1 {w : World} {b : Nat} {l : List UInt8} {k : Nat} {v : Value} (h : Cur w b l k v) : w.cell? ⟨b, 1, none⟩ = some (.int .i64 (k : Int)) := by
  rw [cell_of_row w b 1 _ _ _ h.blk]; rfl
theorem Cur.fz {w : World} {b : Nat} {l : List UInt8} {k : Nat} {v : Value} (h : Cur w b l k v) (j : Nat) : w.frozen? ⟨b, j, none⟩ = false := frozen_of_row w b j _ _ h.blk
theorem Cur.step {w w' : World} {b : Nat} {l : List UInt8} {k : Nat} {v : Value} (h : Cur w b l k v) (hb : Below w.heap.size w w') : Cur w' b l k v :=
  ⟨(hb.block b h.lt).trans h.blk, h.bs.step hb, h.le, h.len⟩
/-- The same cursor at another place. -/
theorem Cur.put {w : World} {b : Nat} {l : List UInt8} {k : Nat} {v : Value} (h : Cur w b l k v) (n : Nat) (hn : n ≤ l.length) : (w.setCell ⟨b, 1, none⟩ (.int .i64 (n : Int))).heap[b]? = some (.cells #[v, .int .i64 (n : Int)] 112 (0, 0)) := by
  rw [Mem.heap_same h.blk]
  rfl
set_option maxHeartbeats 1000000 in
theorem size_any (v : Value) (l : List UInt8) (A : Option Addr) (c b : Nat) (w : World) (hv : v = .slice A l.length c) (hc : w.cell? ⟨b, 0, none⟩ = some v) :
    Calls Try.prog 64 #[.pointer (some ⟨b, 0, none⟩)] w fun e w' => e = .returned (.int .i64 (l.length : Int)) ∧ w = w' := by
  subst hv
  go_enter Try.func64, Try.ntmps64
  go_wp2_with (fail)
  go_ret
  exact ⟨rfl, rfl⟩
set_option maxHeartbeats 1000000 in
theorem left_any (b : Nat) (l : List UInt8) (k : Nat) (v : Value) (w : World) (h : Cur w b l k v) :
    Calls Try.prog 52 #[.pointer (some ⟨b, 0, none⟩)] w fun e w' => e = .returned (.int .i64 ((l.length : Int) - (k : Int))) ∧ Below w.heap.size w w' := by
  have c0 := h.c0
  have c1 := h.c1
  have hbl := h.lt
  have hk := h.le
  have hl := h.len
  have hbs := h.bs
  obtain ⟨A, c, rfl, hlc, hcm, hA, hcell⟩ := h.bs.open
  have H := Hp.start w
  have C : True := trivial
  go_enter Try.func52, Try.ntmps52
  (repeat' ((fail_if_success (with_reducible show bodyPost _ _ _ _ _ _)); first | ((with_reducible refine Hp.abs_alloc H ?_); intro b' w' H' hb'; (try simp only [hb']); clear hb'; ((try simp only [List.set_cons_zero, List.set_cons_succ, List.setIfInBounds_toArray] at H'); clear C H; have H := H'; clear H'; have C := Hp.facts H; simp only [Facts, factsL, and_true, true_and, List.set_cons_zero, List.set_cons_succ, List.setIfInBounds_toArray] at C)) | ((with_reducible show wpList _ _ _ _ _ (World.setCell _ _ _)); (with_reducible apply Hp.abs_gen H); (first | ((repeat (with_reducible apply Hp.set' 0)); (with_reducible exact H); (repeat rfl); intro w' H') | ((repeat (with_reducible apply Hp.set' 1)); (with_reducible exact H); (repeat rfl); intro w' H') | ((repeat (with_reducible apply Hp.set' 2)); (with_reducible exact H); (repeat rfl); intro w' H') | ((repeat (with_reducible apply Hp.set' 3)); (with_reducible exact H); (repeat rfl); intro w' H') | ((repeat (with_reducible apply Hp.set' 4)); (with_reducible exact H); (repeat rfl); intro w' H') | ((repeat (with_reducible apply Hp.set' 5)); (with_reducible exact H); (repeat rfl); intro w' H') | ((repeat (with_reducible apply Hp.set' 6)); (with_reducible exact H); (repeat rfl); intro w' H') | ((repeat (with_reducible apply Hp.set' 7)); (with_reducible exact H); (repeat rfl); intro w' H')); ((try simp only [List.set_cons_zero, List.set_cons_succ, List.setIfInBounds_toArray] at H'); clear C H; have H := H'; clear H'; have C := Hp.facts H; simp only [Facts, factsL, and_true, true_and, List.set_cons_zero, List.set_cons_succ, List.setIfInBounds_toArray] at C)) | go_values | go_skip | go_guarded | go_step | go_upon | go_back | (simp only [Int.not_lt, Int.not_le] at *; go_simp) | (go_values <;> (try go_simp)) | (go_ite <;> go_prune <;> (try go_simp)) | (split <;> (first | (rename_i hx; exact (hx _ rfl).elim) | go_prune))))
  refine region_bt 9 14 [9, 9, 9, 9, 9, 9, 9, 9, 9] [some 5, some 6, some 7, some 8, some 9, some 10, some 11, some 12, some 13] [[], [0], [1], [2], [], [4], [5], [6], [3, 7]] [fun v _ => v = .pointer (some ⟨b, 0, none⟩), fun v _ => v = .pointer (some ⟨b, 0, none⟩), fun v _ => v = .pointer (some ⟨b, 0, none⟩), fun v _ => v = .int .i64 (l.length : Int), fun v _ => v = .pointer (some ⟨b, 0, none⟩), fun v _ => v = .pointer (some ⟨b, 0, none⟩), fun v _ => v = .pointer (some ⟨b, 1, none⟩), fun v _ => v = .int .i64 (k : Int), fun v _ => v = .int .i64 ((l.length : Int) - (k : Int))] (by kernel_rfl) (by kernel_rfl) (by kernel_rfl) rfl (by kernel_rfl) rfl _ (fun vs => (by simp only [fillD, Nat.reduceAdd, Act.put, List.setIfInBounds_toArray, List.set_cons_zero, List.set_cons_succ]; rfl)) ?_ ?_ ?_
  · refine ⟨fun _ _ _ _ h => h, fun _ _ _ _ h => h, fun _ _ _ _ h => h, fun _ _ _ _ h => h, fun _ _ _ _ h => h, fun _ _ _ _ h => h, fun _ _ _ _ h => h, fun _ _ _ _ h => h, fun _ _ _ _ h => h, trivial⟩
  · refine ⟨?_, ?_, ?_, ?_, ?_, ?_, ?_, ?_, ?_, trivial⟩
    · intro vs w' K hJ hR hK
      rw [if_pos (by rfl)]
      go_step
      exact hK.out _ _ (Below.refl _ _) (rfl)
    · intro vs w' K hJ hR hK
      simp only [DepJ, List.getD_cons_zero, List.getD_cons_succ] at hJ
      obtain ⟨j0, -⟩ := hJ
      simp only [j0] at hK ⊢
      rw [if_pos (by rfl)]
      go_step
      exact hK.out _ _ (Below.refl _ _) (rfl)
    · intro vs w' K hJ hR hK
      simp only [DepJ, List.getD_cons_zero, List.getD_cons_succ] at hJ
      obtain ⟨j1, -⟩ := hJ
      simp only [j1] at hK ⊢
      rw [if_pos (by rfl)]
      go_step
      exact hK.out _ _ (Below.refl _ _) (rfl)
    · intro vs w' K hJ hR hK
      simp only [DepJ, List.getD_cons_zero, List.getD_cons_succ] at hJ
      obtain ⟨j2, -⟩ := hJ
      simp only [j2] at hK ⊢
      rw [if_pos (by rfl)]
      go_step
      refine (size_any (.slice A l.length c) l A c b w' rfl (((Hp.step H.drew hR).low.cell hbl).trans c0)).mono ?_
      rintro e' w'' ⟨rfl, rfl⟩
      exact hK.out _ _ (BelowR.refl _) rfl
    · intro vs w' K hJ hR hK
      rw [if_pos (by rfl)]
      go_step
      exact hK.out _ _ (Below.refl _ _) (rfl)
    · intro vs w' K hJ hR hK
      simp only [DepJ, List.getD_cons_zero, List.getD_cons_succ] at hJ
      obtain ⟨j4, -⟩ := hJ
      simp only [j4] at hK ⊢
      rw [if_pos (by rfl)]
      go_step
      exact hK.out _ _ (Below.refl _ _) (rfl)
    · intro vs w' K hJ hR hK
      simp only [DepJ, List.getD_cons_zero, List.getD_cons_succ] at hJ
      obtain ⟨j5, -⟩ := hJ
      simp only [j5] at hK ⊢
      rw [if_pos (by rfl)]
      go_step
      exact hK.out _ _ (Below.refl _ _) (rfl)
    · intro vs w' K hJ hR hK
      simp only [DepJ, List.getD_cons_zero, List.getD_cons_succ] at hJ
      obtain ⟨j6, -⟩ := hJ
      simp only [j6] at hK ⊢
      rw [if_pos (by rfl)]
      have C := Hp.facts (Hp.step H.drew hR)
      simp only [Facts, factsL, and_true, true_and, List.set_cons_zero, List.set_cons_succ, List.setIfInBounds_toArray] at C
      have hl1 := hbl
      go_step
      exact hK.out _ _ (Below.refl _ _) rfl
    · intro vs w' K hJ hR hK
      simp only [DepJ, List.getD_cons_zero, List.getD_cons_succ] at hJ
      obtain ⟨j3, j7, -⟩ := hJ
      simp only [j3, j7] at hK ⊢
      rw [if_pos (by rfl)]
      go_step
      exact hK.out _ _ (Below.refl _ _) (rfl)
  intro vs w' hJ hR
  simp only [AllJ, Nat.reduceAdd] at hJ
  obtain ⟨v0, v1, v2, v3, v4, v5, v6, v7, v8, -⟩ := hJ
  simp only [List.drop_succ_cons, List.drop_zero]
  simp only [v8]
  have H' := Hp.step H.drew hR
  ((try simp only [List.set_cons_zero, List.set_cons_succ, List.setIfInBounds_toArray] at H'); clear C H; have H := H'; clear H'; have C := Hp.facts H; simp only [Facts, factsL, and_true, true_and, List.set_cons_zero, List.set_cons_succ, List.setIfInBounds_toArray] at C)
  clear v0 v1 v2 v3 v4 v5 v6 v7 v8
  (repeat' ((fail_if_success (with_reducible show bodyPost _ _ _ _ _ _)); first | ((with_reducible refine Hp.abs_alloc H ?_); intro b' w' H' hb'; (try simp only [hb']); clear hb'; ((try simp only [List.set_cons_zero, List.set_cons_succ, List.setIfInBounds_toArray] at H'); clear C H; have H := H'; clear H'; have C := Hp.facts H; simp only [Facts, factsL, and_true, true_and, List.set_cons_zero, List.set_cons_succ, List.setIfInBounds_toArray] at C)) | ((with_reducible show wpList _ _ _ _ _ (World.setCell _ _ _)); (with_reducible apply Hp.abs_gen H); (first | ((repeat (with_reducible apply Hp.set' 0)); (with_reducible exact H); (repeat rfl); intro w' H') | ((repeat (with_reducible apply Hp.set' 1)); (with_reducible exact H); (repeat rfl); intro w' H') | ((repeat (with_reducible apply Hp.set' 2)); (with_reducible exact H); (repeat rfl); intro w' H') | ((repeat (with_reducible apply Hp.set' 3)); (with_reducible exact H); (repeat rfl); intro w' H') | ((repeat (with_reducible apply Hp.set' 4)); (with_reducible exact H); (repeat rfl); intro w' H') | ((repeat (with_reducible apply Hp.set' 5)); (with_reducible exact H); (repeat rfl); intro w' H') | ((repeat (with_reducible apply Hp.set' 6)); (with_reducible exact H); (repeat rfl); intro w' H') | ((repeat (with_reducible apply Hp.set' 7)); (with_reducible exact H); (repeat rfl); intro w' H')); ((try simp only [List.set_cons_zero, List.set_cons_succ, List.setIfInBounds_toArray] at H'); clear C H; have H := H'; clear H'; have C := Hp.facts H; simp only [Facts, factsL, and_true, true_and, List.set_cons_zero, List.set_cons_succ, List.setIfInBounds_toArray] at C)) | go_values | go_skip | go_guarded | go_step | go_upon | go_back | (simp only [Int.not_lt, Int.not_le] at *; go_simp) | (go_values <;> (try go_simp)) | (go_ite <;> go_prune <;> (try go_simp)) | (split <;> (first | (rename_i hx; exact (hx _ rfl).elim) | go_prune))))
  go_ret
  exact ⟨rfl, H.low⟩
set_option maxHeartbeats 1000000 in
theorem at_any (b : Nat) (l : List UInt8) (k : Nat) (v : Value) (w : World) (h : Cur w b l k v) :
    Calls Try.prog 61 #[.pointer (some ⟨b, 0, none⟩)] w fun e w' => e = .returned (.int .i64 (k : Int)) ∧ Below w.heap.size w w' := by
  have c0 := h.c0
  have c1 := h.c1
  have hbl := h.lt
  have hk := h.le
  have hl := h.len
  have hbs := h.bs
  obtain ⟨A, c, rfl, hlc, hcm, hA, hcell⟩ := h.bs.open
  have H := Hp.start w
  have C : True := trivial
  go_enter Try.func61, Try.ntmps61
  (repeat' ((fail_if_success (with_reducible show bodyPost _ _ _ _ _ _)); first | ((with_reducible refine Hp.abs_alloc H ?_); intro b' w' H' hb'; (try simp only [hb']); clear hb'; ((try simp only [List.set_cons_zero, List.set_cons_succ, List.setIfInBounds_toArray] at H'); clear C H; have H := H'; clear H'; have C := Hp.facts H; simp only [Facts, factsL, and_true, true_and, List.set_cons_zero, List.set_cons_succ, List.setIfInBounds_toArray] at C)) | ((with_reducible show wpList _ _ _ _ _ (World.setCell _ _ _)); (with_reducible apply Hp.abs_gen H); (first | ((repeat (with_reducible apply Hp.set' 0)); (with_reducible exact H); (repeat rfl); intro w' H') | ((repeat (with_reducible apply Hp.set' 1)); (with_reducible exact H); (repeat rfl); intro w' H') | ((repeat (with_reducible apply Hp.set' 2)); (with_reducible exact H); (repeat rfl); intro w' H') | ((repeat (with_reducible apply Hp.set' 3)); (with_reducible exact H); (repeat rfl); intro w' H') | ((repeat (with_reducible apply Hp.set' 4)); (with_reducible exact H); (repeat rfl); intro w' H') | ((repeat (with_reducible apply Hp.set' 5)); (with_reducible exact H); (repeat rfl); intro w' H') | ((repeat (with_reducible apply Hp.set' 6)); (with_reducible exact H); (repeat rfl); intro w' H') | ((repeat (with_reducible apply Hp.set' 7)); (with_reducible exact H); (repeat rfl); intro w' H')); ((try simp only [List.set_cons_zero, List.set_cons_succ, List.setIfInBounds_toArray] at H'); clear C H; have H := H'; clear H'; have C := Hp.facts H; simp only [Facts, factsL, and_true, true_and, List.set_cons_zero, List.set_cons_succ, List.setIfInBounds_toArray] at C)) | go_values | go_skip | go_guarded | go_step | go_upon | go_back | (simp only [Int.not_lt, Int.not_le] at *; go_simp) | (go_values <;> (try go_simp)) | (go_ite <;> go_prune <;> (try go_simp)) | (split <;> (first | (rename_i hx; exact (hx _ rfl).elim) | go_prune))))
  go_ret
  exact ⟨rfl, H.low⟩
end Go.Proofs.Ytogliinfdfkobaa

