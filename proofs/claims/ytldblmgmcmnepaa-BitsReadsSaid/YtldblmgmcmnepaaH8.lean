/- Lemmas and walks on the way to the seat's laws; each theorem says its own conditions. -/
import Derived.Test.YtldblmgmcmnepaaHPlain
import Derived.Test.YtldblmgmcmnepaaLift
import Derived.Test.YtldblmgmcmnepaaLiftB
set_option linter.unusedSimpArgs false
set_option linter.unusedVariables false
set_option linter.unusedSimpArgs false
set_option linter.unusedVariables false
set_option maxRecDepth 100000
namespace Go.Proofs.Ytldblmgmcmnepaa
open Go.RowKit Go.Mem Go.Reg Hd
set_option maxHeartbeats 400000 in
theorem hof_any (n : Int) (w : World) :
    Calls Try.prog 42 #[.int .i64 n] w fun e w' => e = .returned (.agg #[.int .i64 0, .int .i64 n, .bool (n == 16 || n == 17)]) ∧ Below w.heap.size w w' := by
  by_cases h : n = 16
  · subst h
    have H := Hp.start w
    have C : True := trivial
    go_enter Try.func42, Try.ntmps42
    (repeat' ((fail_if_success (with_reducible show bodyPost _ _ _ _ _ _)); first | ((with_reducible refine Hp.abs_alloc H ?_); intro b' w' H' hb'; (try simp only [hb']); clear hb'; ((try simp only [List.set_cons_zero, List.set_cons_succ, List.setIfInBounds_toArray] at H'); clear C H; have H := H'; clear H'; have C := Hp.facts H; simp only [Facts, factsL, and_true, true_and, List.set_cons_zero, List.set_cons_succ, List.setIfInBounds_toArray] at C)) | ((with_reducible show wpList _ _ _ _ _ (World.setCell _ _ _)); (with_reducible apply Hp.abs_gen H); (first | ((repeat (with_reducible apply Hp.set' 0)); (with_reducible exact H); (repeat rfl); intro w' H') | ((repeat (with_reducible apply Hp.set' 1)); (with_reducible exact H); (repeat rfl); intro w' H') | ((repeat (with_reducible apply Hp.set' 2)); (with_reducible exact H); (repeat rfl); intro w' H') | ((repeat (with_reducible apply Hp.set' 3)); (with_reducible exact H); (repeat rfl); intro w' H') | ((repeat (with_reducible apply Hp.set' 4)); (with_reducible exact H); (repeat rfl); intro w' H') | ((repeat (with_reducible apply Hp.set' 5)); (with_reducible exact H); (repeat rfl); intro w' H') | ((repeat (with_reducible apply Hp.set' 6)); (with_reducible exact H); (repeat rfl); intro w' H') | ((repeat (with_reducible apply Hp.set' 7)); (with_reducible exact H); (repeat rfl); intro w' H')); ((try simp only [List.set_cons_zero, List.set_cons_succ, List.setIfInBounds_toArray] at H'); clear C H; have H := H'; clear H'; have C := Hp.facts H; simp only [Facts, factsL, and_true, true_and, List.set_cons_zero, List.set_cons_succ, List.setIfInBounds_toArray] at C)) | go_values | go_skip | go_guarded | go_step | go_upon | go_back | (simp only [Int.not_lt, Int.not_le] at *; go_simp) | (go_values <;> (try go_simp)) | (go_ite <;> go_prune <;> (try go_simp)) | (split <;> (first | (rename_i hx; exact (hx _ rfl).elim) | go_prune))))
    refine bodyPost_ret (v := .agg #[.int .i64 0, .int .i64 16, .bool true]) (by simp [results, go_sem, C]) rfl ⟨rfl, H.low⟩
  · have h1 : (n == 16) = false := by simp [h]
    rw [show (n == 16 || n == 17) = (n == 17) by simp [h]]
    have H := Hp.start w
    have C : True := trivial
    go_enter Try.func42, Try.ntmps42
    (repeat' ((fail_if_success (with_reducible show bodyPost _ _ _ _ _ _)); first | ((with_reducible refine Hp.abs_alloc H ?_); intro b' w' H' hb'; (try simp only [hb']); clear hb'; ((try simp only [List.set_cons_zero, List.set_cons_succ, List.setIfInBounds_toArray] at H'); clear C H; have H := H'; clear H'; have C := Hp.facts H; simp only [Facts, factsL, and_true, true_and, List.set_cons_zero, List.set_cons_succ, List.setIfInBounds_toArray] at C)) | ((with_reducible show wpList _ _ _ _ _ (World.setCell _ _ _)); (with_reducible apply Hp.abs_gen H); (first | ((repeat (with_reducible apply Hp.set' 0)); (with_reducible exact H); (repeat rfl); intro w' H') | ((repeat (with_reducible apply Hp.set' 1)); (with_reducible exact H); (repeat rfl); intro w' H') | ((repeat (with_reducible apply Hp.set' 2)); (with_reducible exact H); (repeat rfl); intro w' H') | ((repeat (with_reducible apply Hp.set' 3)); (with_reducible exact H); (repeat rfl); intro w' H') | ((repeat (with_reducible apply Hp.set' 4)); (with_reducible exact H); (repeat rfl); intro w' H') | ((repeat (with_reducible apply Hp.set' 5)); (with_reducible exact H); (repeat rfl); intro w' H') | ((repeat (with_reducible apply Hp.set' 6)); (with_reducible exact H); (repeat rfl); intro w' H') | ((repeat (with_reducible apply Hp.set' 7)); (with_reducible exact H); (repeat rfl); intro w' H')); ((try simp only [List.set_cons_zero, List.set_cons_succ, List.setIfInBounds_toArray] at H'); clear C H; have H := H'; clear H'; have C := Hp.facts H; simp only [Facts, factsL, and_true, true_and, List.set_cons_zero, List.set_cons_succ, List.setIfInBounds_toArray] at C)) | go_values | go_skip | go_guarded | go_step | go_upon | go_back | (simp only [Int.not_lt, Int.not_le] at *; go_simp) | (go_values <;> (try go_simp)) | (go_ite <;> go_prune <;> (try go_simp)) | (split <;> (first | (rename_i hx; exact (hx _ rfl).elim) | go_prune))))
    refine bodyPost_ret (v := .agg #[.int .i64 0, .int .i64 n, .bool (n == 17)]) (by simp [results, go_sem, C]) rfl ⟨rfl, H.low⟩
set_option maxHeartbeats 400000 in
theorem rof_any (n : Int) (w : World) :
    Calls Try.prog 43 #[.int .i64 n] w fun e w' => e = .returned (.agg #[.int .i64 0, .int .i64 n, .bool (n == 16 || n == 17)]) ∧ Below w.heap.size w w' := by
  by_cases h : n = 16
  · subst h
    have H := Hp.start w
    have C : True := trivial
    go_enter Try.func43, Try.ntmps43
    (repeat' ((fail_if_success (with_reducible show bodyPost _ _ _ _ _ _)); first | ((with_reducible refine Hp.abs_alloc H ?_); intro b' w' H' hb'; (try simp only [hb']); clear hb'; ((try simp only [List.set_cons_zero, List.set_cons_succ, List.setIfInBounds_toArray] at H'); clear C H; have H := H'; clear H'; have C := Hp.facts H; simp only [Facts, factsL, and_true, true_and, List.set_cons_zero, List.set_cons_succ, List.setIfInBounds_toArray] at C)) | ((with_reducible show wpList _ _ _ _ _ (World.setCell _ _ _)); (with_reducible apply Hp.abs_gen H); (first | ((repeat (with_reducible apply Hp.set' 0)); (with_reducible exact H); (repeat rfl); intro w' H') | ((repeat (with_reducible apply Hp.set' 1)); (with_reducible exact H); (repeat rfl); intro w' H') | ((repeat (with_reducible apply Hp.set' 2)); (with_reducible exact H); (repeat rfl); intro w' H') | ((repeat (with_reducible apply Hp.set' 3)); (with_reducible exact H); (repeat rfl); intro w' H') | ((repeat (with_reducible apply Hp.set' 4)); (with_reducible exact H); (repeat rfl); intro w' H') | ((repeat (with_reducible apply Hp.set' 5)); (with_reducible exact H); (repeat rfl); intro w' H') | ((repeat (with_reducible apply Hp.set' 6)); (with_reducible exact H); (repeat rfl); intro w' H') | ((repeat (with_reducible apply Hp.set' 7)); (with_reducible exact H); (repeat rfl); intro w' H')); ((try simp only [List.set_cons_zero, List.set_cons_succ, List.setIfInBounds_toArray] at H'); clear C H; have H := H'; clear H'; have C := Hp.facts H; simp only [Facts, factsL, and_true, true_and, List.set_cons_zero, List.set_cons_succ, List.setIfInBounds_toArray] at C)) | go_values | go_skip | go_guarded | go_step | go_upon | go_back | (simp only [Int.not_lt, Int.not_le] at *; go_simp) | (go_values <;> (try go_simp)) | (go_ite <;> go_prune <;> (try go_simp)) | (split <;> (first | (rename_i hx; exact (hx _ rfl).elim) | go_prune))))
    refine bodyPost_ret (v := .agg #[.int .i64 0, .int .i64 16, .bool true]) (by simp [results, go_sem, C]) rfl ⟨rfl, H.low⟩
  · have h1 : (n == 16) = false := by simp [h]
    rw [show (n == 16 || n == 17) = (n == 17) by simp [h]]
    have H := Hp.start w
    have C : True := trivial
    go_enter Try.func43, Try.ntmps43
    (repeat' ((fail_if_success (with_reducible show bodyPost _ _ _ _ _ _)); first | ((with_reducible refine Hp.abs_alloc H ?_); intro b' w' H' hb'; (try simp only [hb']); clear hb'; ((try simp only [List.set_cons_zero, List.set_cons_succ, List.setIfInBounds_toArray] at H'); clear C H; have H := H'; clear H'; have C := Hp.facts H; simp only [Facts, factsL, and_true, true_and, List.set_cons_zero, List.set_cons_succ, List.setIfInBounds_toArray] at C)) | ((with_reducible show wpList _ _ _ _ _ (World.setCell _ _ _)); (with_reducible apply Hp.abs_gen H); (first | ((repeat (with_reducible apply Hp.set' 0)); (with_reducible exact H); (repeat rfl); intro w' H') | ((repeat (with_reducible apply Hp.set' 1)); (with_reducible exact H); (repeat rfl); intro w' H') | ((repeat (with_reducible apply Hp.set' 2)); (with_reducible exact H); (repeat rfl); intro w' H') | ((repeat (with_reducible apply Hp.set' 3)); (with_reducible exact H); (repeat rfl); intro w' H') | ((repeat (with_reducible apply Hp.set' 4)); (with_reducible exact H); (repeat rfl); intro w' H') | ((repeat (with_reducible apply Hp.set' 5)); (with_reducible exact H); (repeat rfl); intro w' H') | ((repeat (with_reducible apply Hp.set' 6)); (with_reducible exact H); (repeat rfl); intro w' H') | ((repeat (with_reducible apply Hp.set' 7)); (with_reducible exact H); (repeat rfl); intro w' H')); ((try simp only [List.set_cons_zero, List.set_cons_succ, List.setIfInBounds_toArray] at H'); clear C H; have H := H'; clear H'; have C := Hp.facts H; simp only [Facts, factsL, and_true, true_and, List.set_cons_zero, List.set_cons_succ, List.setIfInBounds_toArray] at C)) | go_values | go_skip | go_guarded | go_step | go_upon | go_back | (simp only [Int.not_lt, Int.not_le] at *; go_simp) | (go_values <;> (try go_simp)) | (go_ite <;> go_prune <;> (try go_simp)) | (split <;> (first | (rename_i hx; exact (hx _ rfl).elim) | go_prune))))
    refine bodyPost_ret (v := .agg #[.int .i64 0, .int .i64 n, .bool (n == 17)]) (by simp [results, go_sem, C]) rfl ⟨rfl, H.low⟩
end Go.Proofs.Ytldblmgmcmnepaa

set_option linter.unusedSimpArgs false
set_option linter.unusedVariables false
set_option maxRecDepth 100000
namespace Go.Proofs.Ytldblmgmcmnepaa
open Go.RowKit Go.Mem Go.Reg Hd
theorem cell_row_map {w0 w : World} {L : List Ent} (H : Hp w0 L w) (i : Nat) {n c g : Nat} {bs : List UInt8} (hi : L[i]? = some (.row 5 1 (.slice (some ⟨g, 0, none⟩) n c) n (bs.map u8c))) (j : Nat) (hj : j < bs.length) : w.cell? ⟨g, j, none⟩ = some (.int .u8 (bs[j].toNat : Int)) := by
  refine (Hp.rowCell H i hi).2.2.2 j _ ?_
  rw [List.getElem?_map, List.getElem?_eq_getElem hj]
  rfl
/-- What has been turned so far, from both ends. -/
def RevAt (xs ys : List UInt8) (i : Nat) : Prop := ys.length = xs.length ∧ ∀ t, (ht : t < xs.length) → ys[t]? = if i ≤ t ∧ t + i < xs.length then xs[t]? else xs[xs.length - 1 - t]?
theorem RevAt.start (xs : List UInt8) : RevAt xs xs 0 := ⟨rfl, fun t ht => by rw [if_pos (by omega)]⟩
theorem RevAt.step {xs ys : List UInt8} {i : Nat} (h : RevAt xs ys i) (hi : i + i + 1 < xs.length) (h1 : i < ys.length) (h2 : xs.length - 1 - i < ys.length) : RevAt xs ((ys.set i (ys[xs.length - 1 - i])).set (xs.length - 1 - i) (ys[i])) (i + 1) := by
  obtain ⟨hl, hh⟩ := h
  refine ⟨by simp [hl], fun t ht => ?_⟩
  have e1 : ys[i]? = xs[i]? := by rw [hh i (by omega), if_pos (by omega)]
  have e2 : ys[xs.length - 1 - i]? = xs[xs.length - 1 - i]? := by rw [hh _ (by omega), if_pos (by omega)]
  rw [List.getElem?_set]
  by_cases ht1 : xs.length - 1 - i = t
  · subst ht1
    rw [if_pos rfl, if_pos (by simp [hl]; omega), if_neg (by omega), ← List.getElem?_eq_getElem h1, e1]
    congr 1
    omega
  · rw [if_neg ht1, List.getElem?_set]
    by_cases ht2 : i = t
    · subst ht2
      rw [if_pos rfl, if_pos h1, if_neg (by omega), ← List.getElem?_eq_getElem h2, e2]
    · rw [if_neg ht2, hh t ht]
      by_cases hc : i ≤ t ∧ t + i < xs.length
      · rw [if_pos hc, if_pos (by omega)]
      · rw [if_neg hc, if_neg (by omega)]
theorem RevAt.done {xs ys : List UInt8} {i : Nat} (h : RevAt xs ys i) (hi : xs.length ≤ i + i + 1) : ys = xs.reverse := by
  apply List.ext_getElem?
  intro t
  by_cases ht : t < xs.length
  · rw [h.2 t ht, List.getElem?_reverse ht]
    split
    · congr 1; omega
    · rfl
  · rw [List.getElem?_eq_none (by rw [h.1]; omega), List.getElem?_eq_none (by simp; omega)]
end Go.Proofs.Ytldblmgmcmnepaa

set_option linter.unusedSimpArgs false
set_option linter.unusedVariables false
set_option maxRecDepth 100000
namespace Go.Proofs.Ytldblmgmcmnepaa
open Go.RowKit Go.Mem Go.Reg Hd
end Go.Proofs.Ytldblmgmcmnepaa

set_option linter.unusedSimpArgs false
set_option linter.unusedVariables false
set_option maxRecDepth 100000
namespace Go.Proofs.Ytldblmgmcmnepaa
open Go.RowKit Go.Mem Go.Reg Hd
def DigRel (w : World) (n B kb pb pn pk : Nat) (wr : World) : Prop :=
  ∃ (m : Nat) (ys : List UInt8) (v : Value), m ≤ n ∧ Hid (ys ++ (digR B m m).map (fun (d : Nat) => byteI (d : Int)) = (digR B n n).map (fun (d : Nat) => byteI (d : Int))) ∧
    Hp w [.blk pb #[v] 23, .blk pn #[.int .i64 (m : Int)] 3, .blk pk #[.int .i64 (kb : Int)] 3, .row 5 1 v ys.length (ys.map u8c)] wr
end Go.Proofs.Ytldblmgmcmnepaa

set_option linter.unusedSimpArgs false
set_option linter.unusedVariables false
set_option maxRecDepth 100000
namespace Go.Proofs.Ytldblmgmcmnepaa
open Go.RowKit Go.Mem Go.Reg Hd
/-- A result that is a row of the call's own, with an error. -/
def OwnOut (w : World) (bs : List UInt8) (er : Int) (e : Ending) (w' : World) : Prop :=
  (∃ v, e = .returned (.tuple #[v, .int .i64 er]) ∧ w'.ownsRow w.heap.size 5 1 v bs.length (bs.map u8c)) ∧ Below w.heap.size w w'
theorem OwnOut.none {w w' : World} {er : Int} {e : Ending} (he : e = .returned (.tuple #[.slice none 0 0, .int .i64 er])) (hb : Below w.heap.size w w') : OwnOut w [] er e w' := ⟨⟨_, he, World.ownsRow_nil w' _ _ _⟩, hb⟩
end Go.Proofs.Ytldblmgmcmnepaa

set_option linter.unusedSimpArgs false
set_option linter.unusedVariables false
set_option maxRecDepth 100000
namespace Go.Proofs.Ytldblmgmcmnepaa
open Go.RowKit Go.Mem Go.Reg Hd
end Go.Proofs.Ytldblmgmcmnepaa

set_option linter.unusedSimpArgs false
set_option linter.unusedVariables false
set_option maxRecDepth 100000
namespace Go.Proofs.Ytldblmgmcmnepaa
open Go.RowKit Go.Mem Go.Reg Hd
def OwnOne (w : World) (bs : List UInt8) (e : Ending) (w' : World) : Prop :=
  (∃ v, e = .returned v ∧ w'.ownsRow w.heap.size 5 1 v bs.length (bs.map u8c)) ∧ Below w.heap.size w w'
theorem OwnOne.of {w w' : World} {L : List Ent} (H : Hp w L w') (i : Nat) {v : Value} {n : Nat} {bs : List UInt8} {xs : List Value} (hi : L[i]? = some (.row 5 1 v n xs)) (hn : n = bs.length) (hx : xs = bs.map u8c) {e : Ending} (he : e = .returned v) : OwnOne w bs e w' := by
  subst hn hx
  exact ⟨⟨v, he, ownsOf H i hi⟩, H.low⟩
end Go.Proofs.Ytldblmgmcmnepaa

set_option linter.unusedSimpArgs false
set_option linter.unusedVariables false
set_option maxRecDepth 100000
namespace Go.Proofs.Ytldblmgmcmnepaa
open Go.RowKit Go.Mem Go.Reg Hd
end Go.Proofs.Ytldblmgmcmnepaa

