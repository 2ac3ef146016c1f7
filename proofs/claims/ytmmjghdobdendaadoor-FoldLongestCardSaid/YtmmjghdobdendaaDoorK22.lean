/- Lemmas and walks on the way to the seat's laws; each theorem says its own conditions. -/
import Derived.Test.YtmmjghdobdendaaDoorO14
import Derived.Test.YtmmjghdobdendaaDoorO15
import Derived.Test.YtmmjghdobdendaaDoorT19
set_option linter.unusedSimpArgs false
set_option linter.unusedVariables false
set_option linter.unusedSimpArgs false
set_option linter.unusedVariables false
set_option maxRecDepth 100000
namespace Go.Proofs.YtmmjghdobdendaaDoor
open Go.RowKit Go.Mem Go.Reg Oct Bit Go.Txt Go.Shelf Go.LawLift Go.Fold
theorem info_sl8 : (Tryd.prog.info? 23).map (fun i => (i.zero, i.size, i.bytes)) = some (some (.slice none 0 0), 1, 24) := by kernel_rfl
/-- A marked block that holds bytes, and the slice over it. -/
def ObjBs (E : Ent) (v : Value) (l : List UInt8) : Prop :=
  ∃ (b c : Nat) (cs : Array Value) (fz : Nat × Nat), E = .obj b (.cells cs 5 fz) ∧ v = .slice (some ⟨b, 0, none⟩) l.length c ∧ l.length ≤ c ∧ c ≤ maxLen ∧ ∀ j, (hj : j < l.length) → cs[j]? = some (u8c l[j])
theorem ObjBs.bs {w0 w : World} {L : List Ent} {E : Ent} {v : Value} {l : List UInt8} (H : Hp w0 L w) (hE : E ∈ L) (h : ObjBs E v l) : Bs w v l := by
  obtain ⟨i, hi⟩ := List.mem_iff_getElem?.1 hE
  obtain ⟨b, c, cs, fz, rfl, rfl, h1, h2, h3⟩ := h
  exact Bs.ofObj H i hi h1 h2 h3
def AllObj (Os : List Ent) (xs : List Value) (ls : List (List UInt8)) : Prop := ∀ j, (h1 : j < xs.length) → (h2 : j < ls.length) → ∃ E ∈ Os, ObjBs E xs[j] ls[j]
theorem all2_of {α β : Type} {R : α → β → Prop} : ∀ (xs : List α) (ls : List β), xs.length = ls.length → (∀ j, (h1 : j < xs.length) → (h2 : j < ls.length) → R xs[j] ls[j]) → All2 R xs ls
  | [], [], _, _ => .nil
  | [], _ :: _, h, _ => by simp at h
  | _ :: _, [], h, _ => by simp at h
  | x :: xs, l :: ls, h, hr => .cons (hr 0 (by simp) (by simp)) (all2_of xs ls (by simpa using h) fun j h1 h2 => hr (j + 1) (by simpa using h1) (by simpa using h2))
theorem bss_of {w0 w : World} {Os : List Ent} {rv : Value} {xs : List Value} {ls : List (List UInt8)} {n : Nat} (H : Hp w0 (.row 23 1 rv n xs :: Os) w) (hl : xs.length = ls.length) (h : AllObj Os xs ls) : Bss w rv ls :=
  ⟨xs, Hp.row H 0 rfl, all2_of xs ls hl fun j h1 h2 => by
    obtain ⟨E, hE, hO⟩ := h j h1 h2
    exact hO.bs H (List.mem_cons_of_mem _ hE)⟩
def LRel (w : World) (ls : List (List UInt8)) (rv ix : Value) (wr : World) : Prop :=
  ∃ (i : Nat) (Os : List Ent) (xs : List Value), i ≤ ls.length ∧ ix = .int .i64 i ∧ xs.length = i ∧ Hp w (.row 23 1 rv i xs :: Os) wr ∧ Kp (AllObj Os xs ls)
theorem LRel.mk {w wr : World} {ls : List (List UInt8)} {rv ix : Value} (i : Nat) (Os : List Ent) (xs : List Value) (h1 : i ≤ ls.length) (h2 : ix = .int .i64 i) (h3 : xs.length = i) (h4 : Hp w (.row 23 1 rv i xs :: Os) wr) (h5 : AllObj Os xs ls) : LRel w ls rv ix wr := ⟨i, Os, xs, h1, h2, h3, h4, ⟨h5⟩⟩
/-- What texts begin with, in small letters. -/
def longL (ms : List (List UInt8)) : List UInt8 := ((ms.map lowL).headD []).take (comms (ms.map lowL))
set_option maxHeartbeats 3200000 in
theorem flongest_any (ms : List (List UInt8)) (v : Value) (hn : ms.length ≤ 50) (hl : ∀ m ∈ ms, m.length ≤ 1000) (w : World) (hb : Sl w v (tvs ms)) :
    Calls Tryd.prog 29 #[v] w fun e w' => e = .returned (.string ⟨(longL ms).toArray⟩) ∧ Below w.heap.size w w' := by
  obtain ⟨i0, hi, hz0, hz1, hz2⟩ := info_parts info_sl8
  obtain ⟨A, c, rfl, hlc, hcm, hA, hcell⟩ := (show Sl w v (ms.map fun l => Value.string ⟨l.toArray⟩) from hb).openK
  have hLo := fun (m : List UInt8) (h : m ∈ ms) w => flower_any m (by have := hl m h; omega) w
  have hlen : (ms.map lowL).length = ms.length := by simp
  have hat : ∀ i, (h : i < ms.length) → (ms.map lowL)[i]'(by rw [hlen]; exact h) = lowL ms[i] := fun i h => by simp
  have hll : ∀ l ∈ ms.map lowL, l.length ≤ 1000 := by
    intro l h
    obtain ⟨m, hm, rfl⟩ := List.mem_map.1 h
    rw [lowL_len]
    exact hl m hm
  have hlong : longL ms = ((ms.map lowL).headD []).take (comms (ms.map lowL)) := rfl
  have hC := fun v w hb => common_any (ms.map lowL) v w hb (by rw [hlen]; omega) (fun l h => by have := hll l h; omega)
  generalize ms.map lowL = ls at *
  have H := Hp.start w
  have C : True := trivial
  go_enter Tryd.func29, Tryd.ntmps29
  (repeat' ((fail_if_success (with_reducible show bodyPost _ _ _ _ _ _)); first | ((with_reducible refine Hp.abs_alloc H ?_); intro b' w' H' hb'; (try simp only [hb']); clear hb'; ((try simp only [List.set_cons_zero, List.set_cons_succ, List.setIfInBounds_toArray] at H'); clear C H; have H := H'; clear H'; have C := Hp.facts H; simp only [Facts, factsL, and_true, true_and, List.set_cons_zero, List.set_cons_succ, List.setIfInBounds_toArray] at C)) | ((with_reducible show wpList _ _ _ _ _ (World.setCell _ _ _)); (with_reducible apply Hp.abs_gen H); (first | ((repeat (with_reducible apply Hp.set' 0)); (with_reducible exact H); (repeat rfl); intro w' H') | ((repeat (with_reducible apply Hp.set' 1)); (with_reducible exact H); (repeat rfl); intro w' H') | ((repeat (with_reducible apply Hp.set' 2)); (with_reducible exact H); (repeat rfl); intro w' H') | ((repeat (with_reducible apply Hp.set' 3)); (with_reducible exact H); (repeat rfl); intro w' H') | ((repeat (with_reducible apply Hp.set' 4)); (with_reducible exact H); (repeat rfl); intro w' H') | ((repeat (with_reducible apply Hp.set' 5)); (with_reducible exact H); (repeat rfl); intro w' H') | ((repeat (with_reducible apply Hp.set' 6)); (with_reducible exact H); (repeat rfl); intro w' H') | ((repeat (with_reducible apply Hp.set' 7)); (with_reducible exact H); (repeat rfl); intro w' H')); ((try simp only [List.set_cons_zero, List.set_cons_succ, List.setIfInBounds_toArray] at H'); clear C H; have H := H'; clear H'; have C := Hp.facts H; simp only [Facts, factsL, and_true, true_and, List.set_cons_zero, List.set_cons_succ, List.setIfInBounds_toArray] at C)) | go_values | go_skip | go_guarded | go_step | go_upon | go_back | (simp only [Int.not_lt, Int.not_le] at *; go_simp) | (go_values <;> (try go_simp)) | (go_ite <;> go_prune <;> (try go_simp)) | (split <;> (first | (rename_i hx; exact (hx _ rfl).elim) | go_prune))))
  go_loopw [3, 5, 8] (fun rv _ ix wr => LRel w ls rv ix wr) (fun _ _ ix _ => ms.length - (intOf ix).toNat)
  case atStart => exact LRel.mk 0 [] [] (Nat.zero_le _) rfl rfl (Hp.nilRow H _ _) (fun j h => by simp at h)
  case round =>
    clear H C
    obtain ⟨i, Os, xs, hi1, rfl, hxl, H, hall⟩ := hrel
    obtain ⟨A2, c2, rfl⟩ := Go.LawLift.own_form (ownsOf H 0 rfl)
    have C := Hp.facts H
    simp only [Facts, factsL, and_true, true_and, List.set_cons_zero, List.set_cons_succ, List.setIfInBounds_toArray] at C
    have gxl := Kp.mk hxl
    clear hxl
    by_cases hlt : i < ms.length
    · obtain ⟨b, o, rfl, hgl, hcl⟩ := hcell i hlt
      have hb0 := hcl i hlt
      have hLx := hLo ms[i] (List.getElem_mem hlt)
      have hyl := lowL_len ms[i]
      have hml := hl ms[i] (List.getElem_mem hlt)
      have gy := Kp.mk (hat i hlt)
      obtain ⟨y, hy⟩ : ∃ y, lowL ms[i] = y := ⟨_, rfl⟩
      rw [hy] at hyl hLx gy
      have hyl2 : y.length ≤ 1000 := by omega
      clear hcl hcell hLo hy hyl hml hC hat hll
      generalize (ByteArray.mk ms[i].toArray) = sm at *
      (repeat' ((fail_if_success (with_reducible show bodyPost _ _ _ _ _ _)); first | ((with_reducible refine Hp.abs_alloc H ?_); intro b' w' H' hb'; (try simp only [hb']); clear hb'; ((try simp only [List.set_cons_zero, List.set_cons_succ, List.setIfInBounds_toArray] at H'); clear C H; have H := H'; clear H'; have C := Hp.facts H; simp only [Facts, factsL, and_true, true_and, List.set_cons_zero, List.set_cons_succ, List.setIfInBounds_toArray] at C)) | ((with_reducible show wpList _ _ _ _ _ (World.setCell _ _ _)); (with_reducible apply Hp.abs_gen H); (first | ((repeat (with_reducible apply Hp.set' 0)); (with_reducible exact H); (repeat rfl); intro w' H') | ((repeat (with_reducible apply Hp.set' 1)); (with_reducible exact H); (repeat rfl); intro w' H') | ((repeat (with_reducible apply Hp.set' 2)); (with_reducible exact H); (repeat rfl); intro w' H') | ((repeat (with_reducible apply Hp.set' 3)); (with_reducible exact H); (repeat rfl); intro w' H') | ((repeat (with_reducible apply Hp.set' 4)); (with_reducible exact H); (repeat rfl); intro w' H') | ((repeat (with_reducible apply Hp.set' 5)); (with_reducible exact H); (repeat rfl); intro w' H') | ((repeat (with_reducible apply Hp.set' 6)); (with_reducible exact H); (repeat rfl); intro w' H') | ((repeat (with_reducible apply Hp.set' 7)); (with_reducible exact H); (repeat rfl); intro w' H')); ((try simp only [List.set_cons_zero, List.set_cons_succ, List.setIfInBounds_toArray] at H'); clear C H; have H := H'; clear H'; have C := Hp.facts H; simp only [Facts, factsL, and_true, true_and, List.set_cons_zero, List.set_cons_succ, List.setIfInBounds_toArray] at C)) | go_values | go_skip | go_guarded | go_step | go_upon | go_back | (simp only [Int.not_lt, Int.not_le] at *; go_simp) | (go_values <;> (try go_simp)) | (go_ite <;> go_prune <;> (try go_simp)) | (split <;> (first | (rename_i hx; exact (hx _ rfl).elim) | go_prune))))
      refine (hLx _).mono ?_
      (rintro e' w' ⟨rfl, hb'⟩; (have H' := Hp.step H hb'; clear hb'; ((try simp only [List.set_cons_zero, List.set_cons_succ, List.setIfInBounds_toArray] at H'); clear C H; have H := H'; clear H'; have C := Hp.facts H; simp only [Facts, factsL, and_true, true_and, List.set_cons_zero, List.set_cons_succ, List.setIfInBounds_toArray] at C)))
      (repeat' ((fail_if_success (with_reducible show bodyPost _ _ _ _ _ _)); first | ((with_reducible refine Hp.abs_alloc H ?_); intro b' w' H' hb'; (try simp only [hb']); clear hb'; ((try simp only [List.set_cons_zero, List.set_cons_succ, List.setIfInBounds_toArray] at H'); clear C H; have H := H'; clear H'; have C := Hp.facts H; simp only [Facts, factsL, and_true, true_and, List.set_cons_zero, List.set_cons_succ, List.setIfInBounds_toArray] at C)) | ((with_reducible show wpList _ _ _ _ _ (World.setCell _ _ _)); (with_reducible apply Hp.abs_gen H); (first | ((repeat (with_reducible apply Hp.set' 0)); (with_reducible exact H); (repeat rfl); intro w' H') | ((repeat (with_reducible apply Hp.set' 1)); (with_reducible exact H); (repeat rfl); intro w' H') | ((repeat (with_reducible apply Hp.set' 2)); (with_reducible exact H); (repeat rfl); intro w' H') | ((repeat (with_reducible apply Hp.set' 3)); (with_reducible exact H); (repeat rfl); intro w' H') | ((repeat (with_reducible apply Hp.set' 4)); (with_reducible exact H); (repeat rfl); intro w' H') | ((repeat (with_reducible apply Hp.set' 5)); (with_reducible exact H); (repeat rfl); intro w' H') | ((repeat (with_reducible apply Hp.set' 6)); (with_reducible exact H); (repeat rfl); intro w' H') | ((repeat (with_reducible apply Hp.set' 7)); (with_reducible exact H); (repeat rfl); intro w' H')); ((try simp only [List.set_cons_zero, List.set_cons_succ, List.setIfInBounds_toArray] at H'); clear C H; have H := H'; clear H'; have C := Hp.facts H; simp only [Facts, factsL, and_true, true_and, List.set_cons_zero, List.set_cons_succ, List.setIfInBounds_toArray] at C)) | (refine wpList_bytes_hp H rfl _ _ _ rfl Tryd.underlying9 Tryd.underlying23 Tryd.underlying5 y rfl (by unfold maxLen; omega) ?_; intro bs cb cs fz w' H' hcb1 hcb2 hcs; ((try simp only [List.set_cons_zero, List.set_cons_succ, List.setIfInBounds_toArray] at H'); clear C H; have H := H'; clear H'; have C := Hp.facts H; simp only [Facts, factsL, and_true, true_and, List.set_cons_zero, List.set_cons_succ, List.setIfInBounds_toArray] at C)) | (at_builtin; (refine wpList_append_hp H 2 rfl _ _ _ rfl Tryd.underlying74 hi hz0 hz1 hz2 rfl (by decide) rfl rfl rfl (news := [_]) rfl (fun h => by cases h) (fun _ => ⟨_, rfl, blk_news (H.get 0 rfl)⟩) (by simp [Value.oneCell']) (by unfold maxLen; omega) (by omega) ?_); intro v' w' H'; ((try simp only [List.set_cons_zero, List.set_cons_succ, List.setIfInBounds_toArray] at H'); clear C H; have H := H'; clear H'; have C := Hp.facts H; simp only [Facts, factsL, and_true, true_and, List.set_cons_zero, List.set_cons_succ, List.setIfInBounds_toArray] at C)) | go_values | go_skip | go_guarded | go_step | go_upon | go_back | (simp only [Int.not_lt, Int.not_le] at *; go_simp) | (go_values <;> (try go_simp)) | (go_ite <;> go_prune <;> (try go_simp)) | (split <;> (first | (rename_i hx; exact (hx _ rfl).elim) | go_prune))))
      have H3 := H.tail.perm (List.Perm.swap _ _ _)
      have hi2 : i < ls.length := by omega
      refine ⟨LRel.mk (i + 1) _ _ (by omega) (by go_num) (by rw [List.length_append, gxl.out]; rfl) H3 (fun j h1 h2 => ?_), by simp [intOf]; omega⟩
      rw [List.length_append, List.length_singleton] at h1
      have hxi := gxl.out
      by_cases hj : j < xs.length
      · obtain ⟨E, hE, hO⟩ := hall.out j hj h2
        rw [List.getElem_append_left hj]
        exact ⟨E, List.mem_cons_of_mem _ hE, hO⟩
      · obtain rfl : j = xs.length := by omega
        rw [List.getElem_append_right (Nat.le_refl _)]
        simp only [Nat.sub_self, List.getElem_cons_zero]
        refine ⟨_, List.mem_cons_self .., bs, cb, cs, fz, rfl, ?_, ?_, hcb2, ?_⟩
        · subst hxi; rw [gy.out]
        · subst hxi; rw [gy.out]; exact hcb1
        · subst hxi; intro j hj; simp only [gy.out] at hj ⊢; exact hcs j hj
    · obtain rfl : i = ms.length := by omega
      have hlo := H.low
      by_cases h0 : ms.length = 0
      · have e1 : ((ms.length : Int) == 0) = true := by rw [beq_iff_eq]; omega
        have gl := Kp.mk (show longL ms = [] by rw [hlong, show ls = [] from List.eq_nil_of_length_eq_zero (by omega)]; rfl)
        clear h0 hC hat hll hLo hcell hlong
        (repeat' ((fail_if_success (with_reducible show bodyPost _ _ _ _ _ _)); first | ((with_reducible refine Hp.abs_alloc H ?_); intro b' w' H' hb'; (try simp only [hb']); clear hb'; ((try simp only [List.set_cons_zero, List.set_cons_succ, List.setIfInBounds_toArray] at H'); clear C H; have H := H'; clear H'; have C := Hp.facts H; simp only [Facts, factsL, and_true, true_and, List.set_cons_zero, List.set_cons_succ, List.setIfInBounds_toArray] at C)) | ((with_reducible show wpList _ _ _ _ _ (World.setCell _ _ _)); (with_reducible apply Hp.abs_gen H); (first | ((repeat (with_reducible apply Hp.set' 0)); (with_reducible exact H); (repeat rfl); intro w' H') | ((repeat (with_reducible apply Hp.set' 1)); (with_reducible exact H); (repeat rfl); intro w' H') | ((repeat (with_reducible apply Hp.set' 2)); (with_reducible exact H); (repeat rfl); intro w' H') | ((repeat (with_reducible apply Hp.set' 3)); (with_reducible exact H); (repeat rfl); intro w' H') | ((repeat (with_reducible apply Hp.set' 4)); (with_reducible exact H); (repeat rfl); intro w' H') | ((repeat (with_reducible apply Hp.set' 5)); (with_reducible exact H); (repeat rfl); intro w' H') | ((repeat (with_reducible apply Hp.set' 6)); (with_reducible exact H); (repeat rfl); intro w' H') | ((repeat (with_reducible apply Hp.set' 7)); (with_reducible exact H); (repeat rfl); intro w' H')); ((try simp only [List.set_cons_zero, List.set_cons_succ, List.setIfInBounds_toArray] at H'); clear C H; have H := H'; clear H'; have C := Hp.facts H; simp only [Facts, factsL, and_true, true_and, List.set_cons_zero, List.set_cons_succ, List.setIfInBounds_toArray] at C)) | go_values | go_skip | go_guarded | go_step | go_upon | go_back | (simp only [Int.not_lt, Int.not_le] at *; go_simp) | (go_values <;> (try go_simp)) | (go_ite <;> go_prune <;> (try go_simp)) | (split <;> (first | (rename_i hx; exact (hx _ rfl).elim) | go_prune))))
        go_ret
        rw [gl.out]
        exact ⟨rfl, hlo⟩
      · have e1 : ((ms.length : Int) == 0) = false := by rw [beq_eq_false_iff_ne]; omega
        have hp : 0 < ls.length := by omega
        obtain ⟨E, hE, b0, c0, cs0, fz0, hEe, hx0, hc1, hc2, hcs⟩ := hall.out 0 (by rw [gxl.out]; omega) hp
        have hv0 := Kp.mk (show xs[0]? = some (.slice (some ⟨b0, 0, none⟩) ls[0].length c0) by rw [List.getElem?_eq_getElem (by rw [gxl.out]; omega), hx0])
        have hO : ObjBs E (.slice (some ⟨b0, 0, none⟩) ls[0].length c0) ls[0] := ⟨b0, c0, cs0, fz0, hEe, rfl, hc1, hc2, hcs⟩
        have hcl0 := commsN_le0 ls (ls.length - 1) hp
        have hcm : comms ls ≤ ls[0].length := hcl0
        have gl := Kp.mk (show longL ms = ls[0].take (comms ls) by rw [hlong, head_at ls [] hp])
        have hlx : xs.length = ls.length := by rw [gxl.out, hlen]
        have gall := Kp.mk (fun (w1 : World) (h : Hp w (.row 23 1 (.slice A2 ms.length c2) ms.length xs :: Os) w1) => bss_of h hlx hall.out)
        have gbs := Kp.mk (fun (w1 : World) (h : Hp w (.row 23 1 (.slice A2 ms.length c2) ms.length xs :: Os) w1) => hO.bs h (List.mem_cons_of_mem _ hE))
        clear hcl0 hO hx0 hcs hEe hall hlx hat hll hLo hcell hlong
        generalize comms ls = n at *
        obtain ⟨f, hf⟩ : ∃ f, ls[0] = f := ⟨_, rfl⟩
        rw [hf] at hv0 gbs hcm gl hc1
        clear hf
        obtain ⟨b1, rfl⟩ := row_base (ownsOf H 0 rfl) (by omega)
        have hgl1 := (Hp.rowCell H 0 rfl).1
        have hnp : (0 : Int) < (ms.length : Int) := by omega
        have hnn : (0 : Int) ≤ (n : Int) ∧ (n : Int) ≤ (c0 : Int) := by omega
        clear h0
        (repeat' ((fail_if_success (with_reducible show bodyPost _ _ _ _ _ _)); first | ((with_reducible refine Hp.abs_alloc H ?_); intro b' w' H' hb'; (try simp only [hb']); clear hb'; ((try simp only [List.set_cons_zero, List.set_cons_succ, List.setIfInBounds_toArray] at H'); clear C H; have H := H'; clear H'; have C := Hp.facts H; simp only [Facts, factsL, and_true, true_and, List.set_cons_zero, List.set_cons_succ, List.setIfInBounds_toArray] at C)) | ((with_reducible show wpList _ _ _ _ _ (World.setCell _ _ _)); (with_reducible apply Hp.abs_gen H); (first | ((repeat (with_reducible apply Hp.set' 0)); (with_reducible exact H); (repeat rfl); intro w' H') | ((repeat (with_reducible apply Hp.set' 1)); (with_reducible exact H); (repeat rfl); intro w' H') | ((repeat (with_reducible apply Hp.set' 2)); (with_reducible exact H); (repeat rfl); intro w' H') | ((repeat (with_reducible apply Hp.set' 3)); (with_reducible exact H); (repeat rfl); intro w' H') | ((repeat (with_reducible apply Hp.set' 4)); (with_reducible exact H); (repeat rfl); intro w' H') | ((repeat (with_reducible apply Hp.set' 5)); (with_reducible exact H); (repeat rfl); intro w' H') | ((repeat (with_reducible apply Hp.set' 6)); (with_reducible exact H); (repeat rfl); intro w' H') | ((repeat (with_reducible apply Hp.set' 7)); (with_reducible exact H); (repeat rfl); intro w' H')); ((try simp only [List.set_cons_zero, List.set_cons_succ, List.setIfInBounds_toArray] at H'); clear C H; have H := H'; clear H'; have C := Hp.facts H; simp only [Facts, factsL, and_true, true_and, List.set_cons_zero, List.set_cons_succ, List.setIfInBounds_toArray] at C)) | go_values | go_skip | go_guarded | go_step | go_upon | go_back | (simp only [Int.not_lt, Int.not_le] at *; go_simp) | (go_values <;> (try go_simp)) | (go_ite <;> go_prune <;> (try go_simp)) | (split <;> (first | (rename_i hx; exact (hx _ rfl).elim) | go_prune))))
        try simp (disch := omega) only [decide_eq_true, decide_eq_false]
        obtain ⟨wR9, rfl⟩ := Hp.nameW H
        apply region_n (frm wR9.heap.size (fun _ => Hp _ _)) (frm_ok ?hfs_1) frm_sz [] [.light 0 0, .light 0 0, .light 0 0, .light 0 0, .light 0 0, .light 0 0, .light 0 0, .light 0 0] [false, false, false, false, false, false, false, false] 8 29 [] [some 22, some 23, some 24, some 25, some 26, some 27, some 28, some 2] [[], [0], [1], [], [3], [2, 4], [5], [6]] [Eq1 _, Eq1 _, Eq1 _, Eq1 _, Eq1 _, Eq1 _, Eq1 _, Eq1 _] ?hq1_1 ?hq2_1 ?hq3_1 ?hq4_1 ?hq5_1 ?hq6_1 _ ?hA_1 ?hst_1 ?h0_1 ?hsteps_1 ?hend_1
        case hq1_1 => kernel_rfl
        case hq2_1 => kernel_rfl
        case hq3_1 => kernel_rfl
        case hq5_1 => kernel_rfl
        case hq4_1 => rfl
        case hq6_1 => rfl
        case hA_1 => intro vs; simp only [fillD, Nat.reduceAdd, Act.put, List.setIfInBounds_toArray, List.set_cons_zero, List.set_cons_succ]; rfl
        case h0_1 => exact H.drew
        case hfs_1 => exact fun _ _ _ hb h => Hp.step h hb
        case hsteps_1 =>
          refine ⟨?_, ?_, ?_, ?_, ?_, ?_, ?_, ?_, trivial⟩
          · intro p vs w' K hJ hp1 hp2 hS hR hK
            rw [if_pos (by rfl)]
            go_step
            exact hK.out _ _ (Below.refl _ _) Eq1.mk Fresh.no
          · intro p vs w' K hJ hp1 hp2 hS hR hK
            simp only [DepJ, List.getD_cons_zero, List.getD_cons_succ] at hJ
            obtain ⟨j0, -⟩ := hJ
            have j0 := Eq1.out j0
            simp only [j0] at hK ⊢
            rw [if_pos (by rfl)]
            go_step
            exact hK.out _ _ (Below.refl _ _) Eq1.mk Fresh.no
          · intro p vs w' K hJ hp1 hp2 hS hR hK
            simp only [DepJ, List.getD_cons_zero, List.getD_cons_succ] at hJ
            obtain ⟨j1, -⟩ := hJ
            have j1 := Eq1.out j1
            simp only [j1] at hK ⊢
            rw [if_pos (by rfl)]
            have C := Hp.facts hS
            simp only [Facts, factsL, and_true, true_and, List.set_cons_zero, List.set_cons_succ, List.setIfInBounds_toArray] at C
            have hsz := hR.1
            replace hS : Hp _ _ _ := hS
            have hq1 := (Hp.rowCell hS 0 rfl).2.2.2 _ _ hv0.out
            go_step
            exact hK.out _ _ (Below.refl _ _) Eq1.mk Fresh.no
          · intro p vs w' K hJ hp1 hp2 hS hR hK
            rw [if_pos (by rfl)]
            go_step
            exact hK.out _ _ (Below.refl _ _) Eq1.mk Fresh.no
          · intro p vs w' K hJ hp1 hp2 hS hR hK
            simp only [DepJ, List.getD_cons_zero, List.getD_cons_succ] at hJ
            obtain ⟨j3, -⟩ := hJ
            have j3 := Eq1.out j3
            simp only [j3] at hK ⊢
            rw [if_pos (by rfl)]
            have C := Hp.facts hS
            simp only [Facts, factsL, and_true, true_and, List.set_cons_zero, List.set_cons_succ, List.setIfInBounds_toArray] at C
            have hsz := hR.1
            go_step
            refine (hC _ _ (gall.out _ (show Hp _ _ _ from hS))).mono ?_
            rintro e' w'' ⟨rfl, hb⟩
            exact hK.out _ _ hb Eq1.mk Fresh.no
          · intro p vs w' K hJ hp1 hp2 hS hR hK
            simp only [DepJ, List.getD_cons_zero, List.getD_cons_succ] at hJ
            obtain ⟨j2, j4, -⟩ := hJ
            have j2 := Eq1.out j2
            have j4 := Eq1.out j4
            simp only [j2, j4] at hK ⊢
            rw [if_pos (by rfl)]
            go_step
            exact hK.out _ _ (Below.refl _ _) Eq1.mk Fresh.no
          · intro p vs w' K hJ hp1 hp2 hS hR hK
            simp only [DepJ, List.getD_cons_zero, List.getD_cons_succ] at hJ
            obtain ⟨j5, -⟩ := hJ
            have j5 := Eq1.out j5
            simp only [j5] at hK ⊢
            rw [if_pos (by rfl)]
            refine wp_string _ _ _ rfl Tryd.underlying23 Tryd.underlying5 Tryd.underlying9 rfl ((gbs.out _ (show Hp _ _ _ from hS)).front (k := n) hcm) ?_
            exact hK.out _ _ (Below.refl _ _) Eq1.mk Fresh.no
          · intro p vs w' K hJ hp1 hp2 hS hR hK
            simp only [DepJ, List.getD_cons_zero, List.getD_cons_succ] at hJ
            obtain ⟨j6, -⟩ := hJ
            have j6 := Eq1.out j6
            simp only [j6] at hK ⊢
            rw [if_pos (by rfl)]
            go_step
            exact hK.out _ _ (Below.refl _ _) Eq1.mk Fresh.no
        case hst_1 => refine ⟨fun _ _ _ _ h => h, fun _ _ _ _ h => h, fun _ _ _ _ h => h, fun _ _ _ _ h => h, fun _ _ _ _ h => h, fun _ _ _ _ h => h, fun _ _ _ _ h => h, fun _ _ _ _ h => h, trivial⟩
        intro vs w' hJ hD hS hR
        simp only [AllJ, Nat.reduceAdd] at hJ
        obtain ⟨v0, v1, v2, v3, v4, v5, v6, v7, -⟩ := hJ
        clear C
        replace v0 := Eq1.out v0
        replace v1 := Eq1.out v1
        replace v2 := Eq1.out v2
        replace v3 := Eq1.out v3
        replace v4 := Eq1.out v4
        replace v5 := Eq1.out v5
        replace v6 := Eq1.out v6
        replace v7 := Eq1.out v7
        simp only [v0, v1, v2, v3, v4, v5, v6, v7, List.drop_succ_cons, List.drop_zero]
        refine wpList_nil' ?_
        have H' : Hp _ _ _ := hS
        clear hD hR hS v0 v1 v2 v3 v4 v5 v6 v7
        clear vs H
        have H := H'; clear H'; have C := Hp.facts H; simp only [Facts, factsL, and_true, true_and, List.set_cons_zero, List.set_cons_succ, List.setIfInBounds_toArray] at C
        (repeat' ((fail_if_success (with_reducible show bodyPost _ _ _ _ _ _)); first | ((with_reducible refine Hp.abs_alloc H ?_); intro b' w' H' hb'; (try simp only [hb']); clear hb'; ((try simp only [List.set_cons_zero, List.set_cons_succ, List.setIfInBounds_toArray] at H'); clear C H; have H := H'; clear H'; have C := Hp.facts H; simp only [Facts, factsL, and_true, true_and, List.set_cons_zero, List.set_cons_succ, List.setIfInBounds_toArray] at C)) | ((with_reducible show wpList _ _ _ _ _ (World.setCell _ _ _)); (with_reducible apply Hp.abs_gen H); (first | ((repeat (with_reducible apply Hp.set' 0)); (with_reducible exact H); (repeat rfl); intro w' H') | ((repeat (with_reducible apply Hp.set' 1)); (with_reducible exact H); (repeat rfl); intro w' H') | ((repeat (with_reducible apply Hp.set' 2)); (with_reducible exact H); (repeat rfl); intro w' H') | ((repeat (with_reducible apply Hp.set' 3)); (with_reducible exact H); (repeat rfl); intro w' H') | ((repeat (with_reducible apply Hp.set' 4)); (with_reducible exact H); (repeat rfl); intro w' H') | ((repeat (with_reducible apply Hp.set' 5)); (with_reducible exact H); (repeat rfl); intro w' H') | ((repeat (with_reducible apply Hp.set' 6)); (with_reducible exact H); (repeat rfl); intro w' H') | ((repeat (with_reducible apply Hp.set' 7)); (with_reducible exact H); (repeat rfl); intro w' H')); ((try simp only [List.set_cons_zero, List.set_cons_succ, List.setIfInBounds_toArray] at H'); clear C H; have H := H'; clear H'; have C := Hp.facts H; simp only [Facts, factsL, and_true, true_and, List.set_cons_zero, List.set_cons_succ, List.setIfInBounds_toArray] at C)) | go_values | go_skip | go_guarded | go_step | go_upon | go_back | (simp only [Int.not_lt, Int.not_le] at *; go_simp) | (go_values <;> (try go_simp)) | (go_ite <;> go_prune <;> (try go_simp)) | (split <;> (first | (rename_i hx; exact (hx _ rfl).elim) | go_prune))))
        go_ret
        rw [gl.out]
        exact ⟨rfl, H.low⟩
end Go.Proofs.YtmmjghdobdendaaDoor

