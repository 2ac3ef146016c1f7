/- Lemmas and walks on the way to the seat's laws; each theorem says its own conditions. -/
import Derived.Test.YtmmjghdobdendaaC5
set_option linter.unusedSimpArgs false
set_option linter.unusedVariables false
set_option linter.unusedSimpArgs false
set_option linter.unusedVariables false
set_option maxRecDepth 100000
namespace Go.Proofs.Ytmmjghdobdendaa
open Go.RowKit Go.Mem Go.Reg Bit Go.LawLift
theorem fulls_snoc (l : List (Int × Int)) (k : Nat) (h : k < l.length) : fulls (l.take (k + 1)) = if emp l[k] then fulls (l.take k) else fulls (l.take k) ++ [l[k]] := by
  unfold fulls
  rw [List.take_add_one, List.getElem?_eq_getElem h, Option.toList_some, List.filter_append]
  cases h : emp l[k] <;> simp [h]
/-- How the row lies when k of them have been looked at and i of these are full. -/
structure Del (l L : List (Int × Int)) (i k : Nat) : Prop where
  len : L.length = l.length
  lt : i < k
  le : k ≤ l.length
  num : i = (fulls (l.take k)).length
  ahead : L.take i = fulls (l.take k)
  rest : L.drop k = l.drop k
theorem Del.at {l L : List (Int × Int)} {i k : Nat} (h : Del l L i k) (hk : k < l.length) : ∃ h : k < L.length, L[k] = l[k] := by
  refine ⟨by rw [h.len]; exact hk, ?_⟩
  have := congrArg (·[0]?) h.rest
  simp only [List.getElem?_drop, Nat.add_zero] at this
  rw [List.getElem?_eq_getElem (by rw [h.len]; exact hk), List.getElem?_eq_getElem hk] at this
  exact Option.some.inj this
theorem Del.skip {l L : List (Int × Int)} {i k : Nat} (h : Del l L i k) (hk : k < l.length) (he : emp l[k] = true) : Del l L i (k + 1) := by
  have hs := fulls_snoc l k hk
  rw [if_pos he] at hs
  refine ⟨h.len, by have := h.lt; omega, hk, by rw [hs]; exact h.num, by rw [hs]; exact h.ahead, ?_⟩
  have := congrArg (List.drop 1) h.rest
  simpa [List.drop_drop, Nat.add_comm] using this
theorem Del.keep {l L : List (Int × Int)} {i k : Nat} (h : Del l L i k) (hk : k < l.length) (he : emp l[k] = false) : Del l (L.set i l[k]) (i + 1) (k + 1) := by
  have hs := fulls_snoc l k hk
  rw [if_neg (by simp [he])] at hs
  refine ⟨by simp [h.len], by have := h.lt; omega, hk, by rw [hs]; simp [← h.num], ?_, ?_⟩
  · rw [hs, ← h.ahead, List.take_set, List.take_add_one, List.getElem?_eq_getElem (by rw [h.len]; have := h.lt; omega), Option.toList_some]
    have hl : (L.take i).length = i := by rw [List.length_take, h.len]; have := h.lt; omega
    rw [List.set_append_right _ _ (by omega), hl, Nat.sub_self]
    rfl
  · rw [List.drop_set_of_lt (by have := h.lt; omega)]
    have := congrArg (List.drop 1) h.rest
    simpa [List.drop_drop, Nat.add_comm] using this
theorem Del.first {l : List (Int × Int)} (he : l.any emp = true) : Del l l (l.findIdx emp) (l.findIdx emp + 1) ∧ l.findIdx emp < l.length := by
  have hlt : l.findIdx emp < l.length := List.findIdx_lt_length.2 (List.any_eq_true.1 he)
  have hs := fulls_snoc l _ hlt
  rw [if_pos (List.findIdx_getElem (w := hlt))] at hs
  have hf : fulls (l.take (l.findIdx emp)) = l.take (l.findIdx emp) := by
    unfold fulls
    rw [List.filter_eq_self]
    intro a ha
    obtain ⟨j, hj, rfl⟩ := List.getElem_of_mem ha
    have hj' : j < l.findIdx emp := by simp at hj; omega
    rw [List.getElem_take]
    simpa using List.not_of_lt_findIdx hj'
  rw [hf] at hs
  refine ⟨⟨rfl, by omega, by omega, by rw [hs, List.length_take]; omega, hs.symm, rfl⟩, hlt⟩
theorem fulls_none {l : List (Int × Int)} (he : l.any emp = false) : fulls l = l := by
  unfold fulls
  rw [List.filter_eq_self]
  intro a ha
  cases h : emp a with
  | false => rfl
  | true => rw [List.any_eq_true.2 ⟨a, ha, h⟩] at he; cases he
theorem zcells : ∀ u ∈ (Value.agg #[.int .i64 0, .int .i64 0]).cells, u.oneCell' = true := by
  intro u hu
  simp [Value.cells] at hu
  subst hu
  rfl
def DelP (w0 : World) (M : List Ent) (l : List (Int × Int)) (e : Ending) (w' : World) : Prop := ∃ v', e = .returned v' ∧ Hp w0 (.row 29 2 v' (fulls l).length (pv (fulls l)) :: M) w'
set_option maxHeartbeats 1600000 in
theorem delete_no (w0 : World) (M : List Ent) (l : List (Int × Int)) (v : Value) (he : l.any emp = false) (hl : l.length ≤ 1000000) (w : World) (H : Hp w0 (.row 29 2 v l.length (pv l) :: M) w) :
    Calls Try.prog 43 #[v, .func (.func 28) #[] #[]] w (DelP w0 M l) := by
  have hI := index_any l v hl w (H.prs 0 rfl).1
  rw [show fstE l = -1 by unfold fstE; rw [he]; rfl] at hI
  have hP := fun w' (H : Hp w0 (.row 29 2 v l.length (pv l) :: M) w') => (show DelP w0 M l (.returned v) w' from ⟨v, rfl, by rw [fulls_none he]; exact H⟩)
  generalize DelP w0 M l = Z at *
  obtain ⟨A, c, rfl⟩ := own_form (ownsOf H 0 rfl)
  have C := Hp.facts H
  simp only [Facts, factsL, and_true, true_and, List.set_cons_zero, List.set_cons_succ, List.setIfInBounds_toArray] at C
  go_enter Try.func43, Try.ntmps43
  (repeat' ((fail_if_success (with_reducible show bodyPost _ _ _ _ _ _)); first | ((with_reducible refine Hp.abs_alloc H ?_); intro b' w' H' hb'; (try simp only [hb']); clear hb'; ((try simp only [List.set_cons_zero, List.set_cons_succ, List.setIfInBounds_toArray] at H'); clear C H; have H := H'; clear H'; have C := Hp.facts H; simp only [Facts, factsL, and_true, true_and, List.set_cons_zero, List.set_cons_succ, List.setIfInBounds_toArray] at C)) | ((with_reducible show wpList _ _ _ _ _ (World.setCell _ _ _)); (with_reducible apply Hp.abs_gen H); (first | ((repeat (with_reducible apply Hp.set' 0)); (with_reducible exact H); (repeat rfl); intro w' H') | ((repeat (with_reducible apply Hp.set' 1)); (with_reducible exact H); (repeat rfl); intro w' H') | ((repeat (with_reducible apply Hp.set' 2)); (with_reducible exact H); (repeat rfl); intro w' H') | ((repeat (with_reducible apply Hp.set' 3)); (with_reducible exact H); (repeat rfl); intro w' H') | ((repeat (with_reducible apply Hp.set' 4)); (with_reducible exact H); (repeat rfl); intro w' H') | ((repeat (with_reducible apply Hp.set' 5)); (with_reducible exact H); (repeat rfl); intro w' H') | ((repeat (with_reducible apply Hp.set' 6)); (with_reducible exact H); (repeat rfl); intro w' H') | ((repeat (with_reducible apply Hp.set' 7)); (with_reducible exact H); (repeat rfl); intro w' H')); ((try simp only [List.set_cons_zero, List.set_cons_succ, List.setIfInBounds_toArray] at H'); clear C H; have H := H'; clear H'; have C := Hp.facts H; simp only [Facts, factsL, and_true, true_and, List.set_cons_zero, List.set_cons_succ, List.setIfInBounds_toArray] at C)) | go_values | go_skip | go_guarded | go_step | go_upon | go_back | (simp only [Int.not_lt, Int.not_le] at *; go_simp) | (go_values <;> (try go_simp)) | (go_ite <;> go_prune <;> (try go_simp)) | (split <;> (first | (rename_i hx; exact (hx _ rfl).elim) | go_prune))))
  refine hI.mono ?_
  (rintro e' w' ⟨rfl, hb'⟩; (have H' := Hp.step H hb'; clear hb'; ((try simp only [List.set_cons_zero, List.set_cons_succ, List.setIfInBounds_toArray] at H'); clear C H; have H := H'; clear H'; have C := Hp.facts H; simp only [Facts, factsL, and_true, true_and, List.set_cons_zero, List.set_cons_succ, List.setIfInBounds_toArray] at C)))
  (repeat' ((fail_if_success (with_reducible show bodyPost _ _ _ _ _ _)); first | ((with_reducible refine Hp.abs_alloc H ?_); intro b' w' H' hb'; (try simp only [hb']); clear hb'; ((try simp only [List.set_cons_zero, List.set_cons_succ, List.setIfInBounds_toArray] at H'); clear C H; have H := H'; clear H'; have C := Hp.facts H; simp only [Facts, factsL, and_true, true_and, List.set_cons_zero, List.set_cons_succ, List.setIfInBounds_toArray] at C)) | ((with_reducible show wpList _ _ _ _ _ (World.setCell _ _ _)); (with_reducible apply Hp.abs_gen H); (first | ((repeat (with_reducible apply Hp.set' 0)); (with_reducible exact H); (repeat rfl); intro w' H') | ((repeat (with_reducible apply Hp.set' 1)); (with_reducible exact H); (repeat rfl); intro w' H') | ((repeat (with_reducible apply Hp.set' 2)); (with_reducible exact H); (repeat rfl); intro w' H') | ((repeat (with_reducible apply Hp.set' 3)); (with_reducible exact H); (repeat rfl); intro w' H') | ((repeat (with_reducible apply Hp.set' 4)); (with_reducible exact H); (repeat rfl); intro w' H') | ((repeat (with_reducible apply Hp.set' 5)); (with_reducible exact H); (repeat rfl); intro w' H') | ((repeat (with_reducible apply Hp.set' 6)); (with_reducible exact H); (repeat rfl); intro w' H') | ((repeat (with_reducible apply Hp.set' 7)); (with_reducible exact H); (repeat rfl); intro w' H')); ((try simp only [List.set_cons_zero, List.set_cons_succ, List.setIfInBounds_toArray] at H'); clear C H; have H := H'; clear H'; have C := Hp.facts H; simp only [Facts, factsL, and_true, true_and, List.set_cons_zero, List.set_cons_succ, List.setIfInBounds_toArray] at C)) | go_values | go_skip | go_guarded | go_step | go_upon | go_back | (simp only [Int.not_lt, Int.not_le] at *; go_simp) | (go_values <;> (try go_simp)) | (go_ite <;> go_prune <;> (try go_simp)) | (split <;> (first | (rename_i hx; exact (hx _ rfl).elim) | go_prune))))
  go_ret
  exact hP _ H
set_option maxHeartbeats 3200000 in
theorem delete_yes (w0 : World) (M : List Ent) (l : List (Int × Int)) (v : Value) (he : l.any emp = true) (hl : l.length ≤ 1000000) (w : World) (H : Hp w0 (.row 29 2 v l.length (pv l) :: M) w) :
    Calls Try.prog 43 #[v, .func (.func 28) #[] #[]] w (DelP w0 M l) := by
  have hI := index_any l v hl w (H.prs 0 rfl).1
  obtain ⟨hD, hlt⟩ := Del.first he
  have hF : fstE l = ((l.findIdx emp : Nat) : Int) := by unfold fstE; rw [if_pos he]
  rw [hF] at hI
  clear hF
  have hP := fun w' (v' : Value) (L : List (Int × Int)) (i : Nat) (hD : Del l L i l.length) (H : Hp w0 (.row 29 2 v' i (pv (L.take i)) :: M) w') => (show DelP w0 M l (.returned v') w' from ⟨v', rfl, by
    have h1 := hD.num
    have h2 := hD.ahead
    rw [List.take_length] at h1 h2
    rw [h2] at H
    rwa [h1] at H⟩)
  generalize DelP w0 M l = Z at *
  generalize l.findIdx emp = i0 at *
  obtain ⟨hx, hr⟩ := (ownsOf H 0 rfl : w.ownsRow w0.heap.size 29 2 v l.length (pv l))
  rcases hr with ⟨_, h0⟩ | ⟨g, c, cur, rfl, _, _, hnc, hcm, _, _⟩
  · omega
  clear hx he
  have hcm : c ≤ 9223372036854775807 := hcm
  have C := Hp.facts H
  simp only [Facts, factsL, and_true, true_and, List.set_cons_zero, List.set_cons_succ, List.setIfInBounds_toArray] at C
  go_enter Try.func43, Try.ntmps43
  (repeat' ((fail_if_success (with_reducible show bodyPost _ _ _ _ _ _)); first | ((with_reducible refine Hp.abs_alloc H ?_); intro b' w' H' hb'; (try simp only [hb']); clear hb'; ((try simp only [List.set_cons_zero, List.set_cons_succ, List.setIfInBounds_toArray] at H'); clear C H; have H := H'; clear H'; have C := Hp.facts H; simp only [Facts, factsL, and_true, true_and, List.set_cons_zero, List.set_cons_succ, List.setIfInBounds_toArray] at C)) | ((with_reducible show wpList _ _ _ _ _ (World.setCell _ _ _)); (with_reducible apply Hp.abs_gen H); (first | ((repeat (with_reducible apply Hp.set' 0)); (with_reducible exact H); (repeat rfl); intro w' H') | ((repeat (with_reducible apply Hp.set' 1)); (with_reducible exact H); (repeat rfl); intro w' H') | ((repeat (with_reducible apply Hp.set' 2)); (with_reducible exact H); (repeat rfl); intro w' H') | ((repeat (with_reducible apply Hp.set' 3)); (with_reducible exact H); (repeat rfl); intro w' H') | ((repeat (with_reducible apply Hp.set' 4)); (with_reducible exact H); (repeat rfl); intro w' H') | ((repeat (with_reducible apply Hp.set' 5)); (with_reducible exact H); (repeat rfl); intro w' H') | ((repeat (with_reducible apply Hp.set' 6)); (with_reducible exact H); (repeat rfl); intro w' H') | ((repeat (with_reducible apply Hp.set' 7)); (with_reducible exact H); (repeat rfl); intro w' H')); ((try simp only [List.set_cons_zero, List.set_cons_succ, List.setIfInBounds_toArray] at H'); clear C H; have H := H'; clear H'; have C := Hp.facts H; simp only [Facts, factsL, and_true, true_and, List.set_cons_zero, List.set_cons_succ, List.setIfInBounds_toArray] at C)) | go_values | go_skip | go_guarded | go_step | go_upon | go_back | (simp only [Int.not_lt, Int.not_le] at *; go_simp) | (go_values <;> (try go_simp)) | (go_ite <;> go_prune <;> (try go_simp)) | (split <;> (first | (rename_i hx; exact (hx _ rfl).elim) | go_prune))))
  refine hI.mono ?_
  (rintro e' w' ⟨rfl, hb'⟩; (have H' := Hp.step H hb'; clear hb'; ((try simp only [List.set_cons_zero, List.set_cons_succ, List.setIfInBounds_toArray] at H'); clear C H; have H := H'; clear H'; have C := Hp.facts H; simp only [Facts, factsL, and_true, true_and, List.set_cons_zero, List.set_cons_succ, List.setIfInBounds_toArray] at C)))
  have gD := Kp.mk (⟨i0, i0 + 1, l, rfl, rfl, hD, H⟩ : ∃ (i k : Nat) (L : List (Int × Int)), i = i0 ∧ k = i0 + 1 ∧ Del l L i k ∧ Hp w0 (.row 29 2 (.slice (some ⟨g, 0, none⟩) l.length c) l.length (pv L) :: M) w')
  clear hD
  (repeat' ((fail_if_success (with_reducible show bodyPost _ _ _ _ _ _)); first | ((with_reducible refine Hp.abs_alloc H ?_); intro b' w' H' hb'; (try simp only [hb']); clear hb'; ((try simp only [List.set_cons_zero, List.set_cons_succ, List.setIfInBounds_toArray] at H'); clear C H; have H := H'; clear H'; have C := Hp.facts H; simp only [Facts, factsL, and_true, true_and, List.set_cons_zero, List.set_cons_succ, List.setIfInBounds_toArray] at C)) | ((with_reducible show wpList _ _ _ _ _ (World.setCell _ _ _)); (with_reducible apply Hp.abs_gen H); (first | ((repeat (with_reducible apply Hp.set' 0)); (with_reducible exact H); (repeat rfl); intro w' H') | ((repeat (with_reducible apply Hp.set' 1)); (with_reducible exact H); (repeat rfl); intro w' H') | ((repeat (with_reducible apply Hp.set' 2)); (with_reducible exact H); (repeat rfl); intro w' H') | ((repeat (with_reducible apply Hp.set' 3)); (with_reducible exact H); (repeat rfl); intro w' H') | ((repeat (with_reducible apply Hp.set' 4)); (with_reducible exact H); (repeat rfl); intro w' H') | ((repeat (with_reducible apply Hp.set' 5)); (with_reducible exact H); (repeat rfl); intro w' H') | ((repeat (with_reducible apply Hp.set' 6)); (with_reducible exact H); (repeat rfl); intro w' H') | ((repeat (with_reducible apply Hp.set' 7)); (with_reducible exact H); (repeat rfl); intro w' H')); ((try simp only [List.set_cons_zero, List.set_cons_succ, List.setIfInBounds_toArray] at H'); clear C H; have H := H'; clear H'; have C := Hp.facts H; simp only [Facts, factsL, and_true, true_and, List.set_cons_zero, List.set_cons_succ, List.setIfInBounds_toArray] at C)) | go_values | go_skip | go_guarded | go_step | go_upon | go_back | (simp only [Int.not_lt, Int.not_le] at *; go_simp) | (go_values <;> (try go_simp)) | (go_ite <;> go_prune <;> (try go_simp)) | (split <;> (first | (rename_i hx; exact (hx _ rfl).elim) | go_prune))))
  go_loopw [5, 6] (fun ix kx wr => ∃ (i k : Nat) (L : List (Int × Int)), ix = .int .i64 i ∧ kx = .int .i64 k ∧ Del l L i k ∧ Hp w0 (.row 29 2 (.slice (some ⟨g, 0, none⟩) l.length c) l.length (pv L) :: M) wr) (fun _ kx _ => l.length - (intOf kx).toNat)
  case atStart =>
    obtain ⟨i, k, L, rfl, rfl, hD, H⟩ := gD.out
    exact ⟨_, _, L, rfl, by go_num, hD, H⟩
  case round =>
    clear H C hlt gD
    obtain ⟨i, k, L, rfl, rfl, hD, H⟩ := hrel
    have C := Hp.facts H
    simp only [Facts, factsL, and_true, true_and, List.set_cons_zero, List.set_cons_succ, List.setIfInBounds_toArray] at C
    by_cases hlt : k < l.length
    · obtain ⟨h1, h2⟩ := hD.at hlt
      obtain ⟨hg, hlen, hfz, hcl⟩ := H.rowCellN 0 rfl
      have hv := pv_get L k h1
      have hc1 := hcl _ _ hv.1
      have hc2 := hcl _ _ hv.2
      rw [h2, Nat.mul_comm] at hc1 hc2
      have hik := hD.lt
      have gS := Kp.mk (hD.skip hlt)
      have gK := Kp.mk (hD.keep hlt)
      have hLn := hD.len
      have gL := Kp.mk (show i < L.length by omega)
      have gE := Kp.mk (show emp l[k] = decide (l[k].2 < l[k].1) from rfl)
      have gP : Kp (l[k] = (l[k].1, l[k].2)) := Kp.mk rfl
      generalize l[k].1 = x at *
      generalize l[k].2 = y at *
      generalize l[k] = z at *
      clear hcl hv hD hlen hLn h2 h1 hI
      cases hd : decide (y < x) with
      | true =>
        rw [hd] at gE
        (repeat' ((fail_if_success (with_reducible show bodyPost _ _ _ _ _ _)); first | ((with_reducible refine Hp.abs_alloc H ?_); intro b' w' H' hb'; (try simp only [hb']); clear hb'; ((try simp only [List.set_cons_zero, List.set_cons_succ, List.setIfInBounds_toArray] at H'); clear C H; have H := H'; clear H'; have C := Hp.facts H; simp only [Facts, factsL, and_true, true_and, List.set_cons_zero, List.set_cons_succ, List.setIfInBounds_toArray] at C)) | ((with_reducible show wpList _ _ _ _ _ (World.setCell _ _ _)); (with_reducible apply Hp.abs_gen H); (first | ((repeat (with_reducible apply Hp.set' 0)); (with_reducible exact H); (repeat rfl); intro w' H') | ((repeat (with_reducible apply Hp.set' 1)); (with_reducible exact H); (repeat rfl); intro w' H') | ((repeat (with_reducible apply Hp.set' 2)); (with_reducible exact H); (repeat rfl); intro w' H') | ((repeat (with_reducible apply Hp.set' 3)); (with_reducible exact H); (repeat rfl); intro w' H') | ((repeat (with_reducible apply Hp.set' 4)); (with_reducible exact H); (repeat rfl); intro w' H') | ((repeat (with_reducible apply Hp.set' 5)); (with_reducible exact H); (repeat rfl); intro w' H') | ((repeat (with_reducible apply Hp.set' 6)); (with_reducible exact H); (repeat rfl); intro w' H') | ((repeat (with_reducible apply Hp.set' 7)); (with_reducible exact H); (repeat rfl); intro w' H')); ((try simp only [List.set_cons_zero, List.set_cons_succ, List.setIfInBounds_toArray] at H'); clear C H; have H := H'; clear H'; have C := Hp.facts H; simp only [Facts, factsL, and_true, true_and, List.set_cons_zero, List.set_cons_succ, List.setIfInBounds_toArray] at C)) | go_values | go_skip | go_guarded | go_step | go_upon | go_back | (simp only [Int.not_lt, Int.not_le] at *; go_simp) | (go_values <;> (try go_simp)) | (go_ite <;> go_prune <;> (try go_simp)) | (split <;> (first | (rename_i hx; exact (hx _ rfl).elim) | go_prune))))
        refine (empty_any _ _ _).mono ?_
        rw [hd]
        (rintro e' w' ⟨rfl, hb'⟩; (have H' := Hp.step H hb'; clear hb'; ((try simp only [List.set_cons_zero, List.set_cons_succ, List.setIfInBounds_toArray] at H'); clear C H; have H := H'; clear H'; have C := Hp.facts H; simp only [Facts, factsL, and_true, true_and, List.set_cons_zero, List.set_cons_succ, List.setIfInBounds_toArray] at C)))
        (repeat' ((fail_if_success (with_reducible show bodyPost _ _ _ _ _ _)); first | ((with_reducible refine Hp.abs_alloc H ?_); intro b' w' H' hb'; (try simp only [hb']); clear hb'; ((try simp only [List.set_cons_zero, List.set_cons_succ, List.setIfInBounds_toArray] at H'); clear C H; have H := H'; clear H'; have C := Hp.facts H; simp only [Facts, factsL, and_true, true_and, List.set_cons_zero, List.set_cons_succ, List.setIfInBounds_toArray] at C)) | ((with_reducible show wpList _ _ _ _ _ (World.setCell _ _ _)); (with_reducible apply Hp.abs_gen H); (first | ((repeat (with_reducible apply Hp.set' 0)); (with_reducible exact H); (repeat rfl); intro w' H') | ((repeat (with_reducible apply Hp.set' 1)); (with_reducible exact H); (repeat rfl); intro w' H') | ((repeat (with_reducible apply Hp.set' 2)); (with_reducible exact H); (repeat rfl); intro w' H') | ((repeat (with_reducible apply Hp.set' 3)); (with_reducible exact H); (repeat rfl); intro w' H') | ((repeat (with_reducible apply Hp.set' 4)); (with_reducible exact H); (repeat rfl); intro w' H') | ((repeat (with_reducible apply Hp.set' 5)); (with_reducible exact H); (repeat rfl); intro w' H') | ((repeat (with_reducible apply Hp.set' 6)); (with_reducible exact H); (repeat rfl); intro w' H') | ((repeat (with_reducible apply Hp.set' 7)); (with_reducible exact H); (repeat rfl); intro w' H')); ((try simp only [List.set_cons_zero, List.set_cons_succ, List.setIfInBounds_toArray] at H'); clear C H; have H := H'; clear H'; have C := Hp.facts H; simp only [Facts, factsL, and_true, true_and, List.set_cons_zero, List.set_cons_succ, List.setIfInBounds_toArray] at C)) | go_values | go_skip | go_guarded | go_step | go_upon | go_back | (simp only [Int.not_lt, Int.not_le] at *; go_simp) | (go_values <;> (try go_simp)) | (go_ite <;> go_prune <;> (try go_simp)) | (split <;> (first | (rename_i hx; exact (hx _ rfl).elim) | go_prune))))
        exact ⟨⟨_, _, _, _, _, _, _, _, _, _, _, _, _, _, _, _, _, _, _, _, _, _, _, ⟨i, k + 1, L, rfl, by go_num, gS.out gE.out, H.tail⟩, rfl⟩, by simp [intOf]; omega⟩
      | false =>
        rw [hd] at gE
        (repeat' ((fail_if_success (with_reducible show bodyPost _ _ _ _ _ _)); first | ((with_reducible refine Hp.abs_alloc H ?_); intro b' w' H' hb'; (try simp only [hb']); clear hb'; ((try simp only [List.set_cons_zero, List.set_cons_succ, List.setIfInBounds_toArray] at H'); clear C H; have H := H'; clear H'; have C := Hp.facts H; simp only [Facts, factsL, and_true, true_and, List.set_cons_zero, List.set_cons_succ, List.setIfInBounds_toArray] at C)) | ((with_reducible show wpList _ _ _ _ _ (World.setCell _ _ _)); (with_reducible apply Hp.abs_gen H); (first | ((repeat (with_reducible apply Hp.set' 0)); (with_reducible exact H); (repeat rfl); intro w' H') | ((repeat (with_reducible apply Hp.set' 1)); (with_reducible exact H); (repeat rfl); intro w' H') | ((repeat (with_reducible apply Hp.set' 2)); (with_reducible exact H); (repeat rfl); intro w' H') | ((repeat (with_reducible apply Hp.set' 3)); (with_reducible exact H); (repeat rfl); intro w' H') | ((repeat (with_reducible apply Hp.set' 4)); (with_reducible exact H); (repeat rfl); intro w' H') | ((repeat (with_reducible apply Hp.set' 5)); (with_reducible exact H); (repeat rfl); intro w' H') | ((repeat (with_reducible apply Hp.set' 6)); (with_reducible exact H); (repeat rfl); intro w' H') | ((repeat (with_reducible apply Hp.set' 7)); (with_reducible exact H); (repeat rfl); intro w' H')); ((try simp only [List.set_cons_zero, List.set_cons_succ, List.setIfInBounds_toArray] at H'); clear C H; have H := H'; clear H'; have C := Hp.facts H; simp only [Facts, factsL, and_true, true_and, List.set_cons_zero, List.set_cons_succ, List.setIfInBounds_toArray] at C)) | go_values | go_skip | go_guarded | go_step | go_upon | go_back | (simp only [Int.not_lt, Int.not_le] at *; go_simp) | (go_values <;> (try go_simp)) | (go_ite <;> go_prune <;> (try go_simp)) | (split <;> (first | (rename_i hx; exact (hx _ rfl).elim) | go_prune))))
        refine (empty_any _ _ _).mono ?_
        rw [hd]
        (rintro e' w' ⟨rfl, hb'⟩; (have H' := Hp.step H hb'; clear hb'; ((try simp only [List.set_cons_zero, List.set_cons_succ, List.setIfInBounds_toArray] at H'); clear C H; have H := H'; clear H'; have C := Hp.facts H; simp only [Facts, factsL, and_true, true_and, List.set_cons_zero, List.set_cons_succ, List.setIfInBounds_toArray] at C)))
        clear hfz hc1 hc2
        have hfz := (H.rowCellN 1 rfl).2.2.1
        have hcz := (H.rowCellN 1 rfl).2.2.2
        have hv := pv_get L i gL.out
        have hd1 := hcz _ _ hv.1
        have hd2 := hcz _ _ hv.2
        rw [Nat.mul_comm] at hd1 hd2
        clear hcz hv
        generalize (L[i]'gL.out).1 = x0 at *
        generalize (L[i]'gL.out).2 = y0 at *
        (repeat' ((fail_if_success (with_reducible show bodyPost _ _ _ _ _ _)); first | ((with_reducible refine Hp.abs_alloc H ?_); intro b' w' H' hb'; (try simp only [hb']); clear hb'; ((try simp only [List.set_cons_zero, List.set_cons_succ, List.setIfInBounds_toArray] at H'); clear C H; have H := H'; clear H'; have C := Hp.facts H; simp only [Facts, factsL, and_true, true_and, List.set_cons_zero, List.set_cons_succ, List.setIfInBounds_toArray] at C)) | ((with_reducible show wpList _ _ _ _ _ (World.setCell _ _ _)); (with_reducible apply Hp.abs_gen H); (first | ((repeat (with_reducible apply Hp.set' 0)); (with_reducible exact H); (repeat rfl); intro w' H') | ((repeat (with_reducible apply Hp.set' 1)); (with_reducible exact H); (repeat rfl); intro w' H') | ((repeat (with_reducible apply Hp.set' 2)); (with_reducible exact H); (repeat rfl); intro w' H') | ((repeat (with_reducible apply Hp.set' 3)); (with_reducible exact H); (repeat rfl); intro w' H') | ((repeat (with_reducible apply Hp.set' 4)); (with_reducible exact H); (repeat rfl); intro w' H') | ((repeat (with_reducible apply Hp.set' 5)); (with_reducible exact H); (repeat rfl); intro w' H') | ((repeat (with_reducible apply Hp.set' 6)); (with_reducible exact H); (repeat rfl); intro w' H') | ((repeat (with_reducible apply Hp.set' 7)); (with_reducible exact H); (repeat rfl); intro w' H')); ((try simp only [List.set_cons_zero, List.set_cons_succ, List.setIfInBounds_toArray] at H'); clear C H; have H := H'; clear H'; have C := Hp.facts H; simp only [Facts, factsL, and_true, true_and, List.set_cons_zero, List.set_cons_succ, List.setIfInBounds_toArray] at C)) | ((with_reducible show wpList _ _ _ _ _ (World.setCell _ _ _)); (with_reducible apply Hp.abs_gen H); (exact (Hp.pairSet H 1 rfl i gL.out x y)); intro w' H'; clear hfz hd1 hd2; (try simp only [List.set_cons_succ] at H'); ((try simp only [List.set_cons_zero, List.set_cons_succ, List.setIfInBounds_toArray] at H'); clear C H; have H := H'; clear H'; have C := Hp.facts H; simp only [Facts, factsL, and_true, true_and, List.set_cons_zero, List.set_cons_succ, List.setIfInBounds_toArray] at C)) | go_values | go_skip | go_guarded | go_step | go_upon | go_back | (simp only [Int.not_lt, Int.not_le] at *; go_simp) | (go_values <;> (try go_simp)) | (go_ite <;> go_prune <;> (try go_simp)) | (split <;> (first | (rename_i hx; exact (hx _ rfl).elim) | go_prune))))
        have gK := gK.out gE.out
        rw [gP.out] at gK
        exact ⟨⟨_, _, _, _, _, _, _, _, _, _, _, _, _, _, _, _, _, _, _, _, _, _, _, ⟨i + 1, k + 1, L.set i (x, y), by go_num, by go_num, gK, H.tail⟩, rfl⟩, by simp [intOf]; omega⟩
    · obtain rfl : k = l.length := by have := hD.le; omega
      have hik := hD.lt
      have gD := Kp.mk hD
      clear hD
      (repeat' ((fail_if_success (with_reducible show bodyPost _ _ _ _ _ _)); first | ((with_reducible refine Hp.abs_alloc H ?_); intro b' w' H' hb'; (try simp only [hb']); clear hb'; ((try simp only [List.set_cons_zero, List.set_cons_succ, List.setIfInBounds_toArray] at H'); clear C H; have H := H'; clear H'; have C := Hp.facts H; simp only [Facts, factsL, and_true, true_and, List.set_cons_zero, List.set_cons_succ, List.setIfInBounds_toArray] at C)) | ((with_reducible show wpList _ _ _ _ _ (World.setCell _ _ _)); (with_reducible apply Hp.abs_gen H); (first | ((repeat (with_reducible apply Hp.set' 0)); (with_reducible exact H); (repeat rfl); intro w' H') | ((repeat (with_reducible apply Hp.set' 1)); (with_reducible exact H); (repeat rfl); intro w' H') | ((repeat (with_reducible apply Hp.set' 2)); (with_reducible exact H); (repeat rfl); intro w' H') | ((repeat (with_reducible apply Hp.set' 3)); (with_reducible exact H); (repeat rfl); intro w' H') | ((repeat (with_reducible apply Hp.set' 4)); (with_reducible exact H); (repeat rfl); intro w' H') | ((repeat (with_reducible apply Hp.set' 5)); (with_reducible exact H); (repeat rfl); intro w' H') | ((repeat (with_reducible apply Hp.set' 6)); (with_reducible exact H); (repeat rfl); intro w' H') | ((repeat (with_reducible apply Hp.set' 7)); (with_reducible exact H); (repeat rfl); intro w' H')); ((try simp only [List.set_cons_zero, List.set_cons_succ, List.setIfInBounds_toArray] at H'); clear C H; have H := H'; clear H'; have C := Hp.facts H; simp only [Facts, factsL, and_true, true_and, List.set_cons_zero, List.set_cons_succ, List.setIfInBounds_toArray] at C)) | ((with_reducible show wpList _ _ _ (_ :: _) _ _); (refine wpList_clear_hp (sz := 2) H 0 rfl _ _ rfl Try.underlying25 Try.zeroValue29 zcells rfl (k := i) rfl rfl (by omega) (by omega) ?_); intro w' H'; ((try simp only [List.set_cons_zero, List.set_cons_succ, List.setIfInBounds_toArray] at H'); clear C H; have H := H'; clear H'; have C := Hp.facts H; simp only [Facts, factsL, and_true, true_and, List.set_cons_zero, List.set_cons_succ, List.setIfInBounds_toArray] at C)) | go_values | go_skip | go_guarded | go_step | go_upon | go_back | (simp only [Int.not_lt, Int.not_le] at *; go_simp) | (go_values <;> (try go_simp)) | (go_ite <;> go_prune <;> (try go_simp)) | (split <;> (first | (rename_i hx; exact (hx _ rfl).elim) | go_prune))))
      go_ret
      rw [pv_take] at H
      exact hP _ _ _ _ gD.out H
theorem delete_any (w0 : World) (M : List Ent) (l : List (Int × Int)) (v : Value) (hl : l.length ≤ 1000000) (w : World) (H : Hp w0 (.row 29 2 v l.length (pv l) :: M) w) :
    Calls Try.prog 43 #[v, .func (.func 28) #[] #[]] w (DelP w0 M l) := by
  cases he : l.any emp with
  | true => exact delete_yes w0 M l v he hl w H
  | false => exact delete_no w0 M l v he hl w H
end Go.Proofs.Ytmmjghdobdendaa

