/- Lemmas and walks on the way to the seat's laws; each theorem says its own conditions. -/
import Derived.Test.YtmmjghdobdendaaDoorK2
import Derived.Test.YtmmjghdobdendaaDoorT19
set_option linter.unusedSimpArgs false
set_option linter.unusedVariables false
set_option linter.unusedSimpArgs false
set_option linter.unusedVariables false
set_option maxRecDepth 100000
namespace Go.Proofs.YtmmjghdobdendaaDoor
open Go.RowKit Go.Mem Go.Reg Oct Bit Go.Txt Go.Shelf Go.LawLift Go.Fold
end Go.Proofs.YtmmjghdobdendaaDoor

/- A block of marked bytes ([]byte(s)) that is written into. No condition on a program. -/
namespace Go.Mem
open Go.RowKit
theorem frozen_of_obj {w : World} {b j : Nat} {cs : Array Value} {e : TypeId} {fz : Nat × Nat} (h : w.heap[b]? = some (.cells cs e fz)) (hj : ¬(fz.1 ≤ j ∧ j < fz.2)) : w.frozen? ⟨b, j, none⟩ = false := by
  simp only [World.frozen?, h]
  simp
  omega
theorem Hp.setObj {w0 w : World} {L : List Ent} (h : Hp w0 L w) (i : Nat) {b : Nat} {c : Array Value} {T : TypeId} {fz : Nat × Nat} (hi : L[i]? = some (.obj b (.cells c T fz))) (j : Nat) (v : Value) : Hp w0 (L.set i (.obj b (.cells (c.setIfInBounds j v) T fz))) (w.setCell ⟨b, j, none⟩ v) :=
  have hx := h.ok _ (List.mem_of_getElem? hi)
  h.turn i hi (Only.setCell w b j v) ⟨heap_same hx.1 v, hx.2⟩ fun _ hk => .inl hk
section
variable {P : Program} {ops : Array Oper} {Q : Exit → Act → World → Prop} {rest : List Oper} {o : Oper} {a : Act} {w0 w : World} {L : List Ent}
/-- []byte(s), whose bytes may be written. -/
theorem wpList_bytes2_hp (H : Hp w0 L w) (hgd : o.guard = none) (x : Operand) (src dst : TypeId) (ho : o.op = .convert src dst x) {e : TypeId} {u : TypeDesc} (hs : P.underlying src = some u) (hd : P.underlying dst = some (.slice e)) (he : P.underlying e = some (.int .u8))
    (l : List UInt8) (hx : a.eval x = .string ⟨l.toArray⟩) (hl : l.length ≤ maxLen)
    (h : ∀ b c cs fz w', Hp w0 (.obj b (.cells cs e fz) :: L) w' → l.length ≤ c → c ≤ maxLen → (∀ j, (hj : j < l.length) → cs[j]? = some (u8c l[j])) → (∀ j, j < l.length → ¬(fz.1 ≤ j ∧ j < fz.2)) → wpList P ops Q rest (a.put o.dst (.slice (some ⟨b, 0, none⟩) l.length c)) w') : wpList P ops Q (o :: rest) a w := by
  have hr := Lib.run_convert_string_bytes (P := P) w src dst e ⟨l.toArray⟩ hs hd he
  have hsz : (ByteArray.mk l.toArray).size = l.length := by simp [ByteArray.size]
  refine wpList_plain hgd fun K hK => ?_
  unfold Oper.wp
  simp [execOp, ho, hx, hr, Result.andThen]
  rw [hsz]
  have hn := Lib.bytesWorld_at_new w e ⟨l.toArray⟩
  refine hK _ _ (h _ _ _ _ _ (H.adopt (bytesWorld_below w e _) (.obj _ _) ⟨hn, Nat.le_refl _⟩) (grownCap_ge _ _ _ _) (grownCap_le_maxLen _ _ _ _ hl) (fun j hj => ?_) (fun j hj => ?_))
  · simp [Lib.bytesCells, Array.getElem?_append, hj, u8c]
  · simp [Lib.bytesCells]
    omega
end
end Go.Mem

set_option linter.unusedSimpArgs false
set_option linter.unusedVariables false
set_option maxRecDepth 100000
namespace Go.Proofs.YtmmjghdobdendaaDoor
open Go.RowKit Go.Mem Go.Reg Oct Bit Go.Txt Go.Shelf Go.LawLift Go.Fold
def lowB (b : UInt8) : UInt8 := if 65 ≤ b.toNat ∧ b.toNat ≤ 90 then UInt8.ofNat (b.toNat + 32) else b
def lowL (l : List UInt8) : List UInt8 := l.map lowB
theorem lowB_nat (b : UInt8) : ((lowB b).toNat : Int) = smallI (b.toNat : Int) := by
  have := b.toNat_lt
  unfold lowB smallI
  by_cases h : 65 ≤ b.toNat ∧ b.toNat ≤ 90
  · rw [if_pos h, if_pos (by omega), UInt8.toNat_ofNat']
    omega
  · rw [if_neg h, if_neg (by omega)]
theorem lowL_len (l : List UInt8) : (lowL l).length = l.length := by simp [lowL]
theorem low_mid (l : List UInt8) (i : Nat) (h : i < l.length) : (lowL (l.take i) ++ l.drop i).set i (lowB l[i]) = lowL (l.take (i + 1)) ++ l.drop (i + 1) := by
  unfold lowL
  rw [List.take_succ_eq_append_getElem h, List.map_append, List.append_assoc]
  rw [List.set_append_right _ _ (by simp; omega), show i - (List.map lowB (l.take i)).length = 0 by simp; omega, List.drop_eq_getElem_cons h, List.set_cons_zero]
  rfl
set_option maxHeartbeats 1600000 in
theorem flower_any (l : List UInt8) (hl : l.length ≤ 100000) (w : World) :
    Calls Tryd.prog 22 #[.string ⟨l.toArray⟩] w fun e w' => e = .returned (.string ⟨(lowL l).toArray⟩) ∧ Below w.heap.size w w' := by
  have H := Hp.start w
  have C : True := trivial
  go_enter Tryd.func22, Tryd.ntmps22
  (repeat' ((fail_if_success (with_reducible show bodyPost _ _ _ _ _ _)); first | ((with_reducible refine Hp.abs_alloc H ?_); intro b' w' H' hb'; (try simp only [hb']); clear hb'; ((try simp only [List.set_cons_zero, List.set_cons_succ, List.setIfInBounds_toArray] at H'); clear C H; have H := H'; clear H'; have C := Hp.facts H; simp only [Facts, factsL, and_true, true_and, List.set_cons_zero, List.set_cons_succ, List.setIfInBounds_toArray] at C)) | ((with_reducible show wpList _ _ _ _ _ (World.setCell _ _ _)); (with_reducible apply Hp.abs_gen H); (first | ((repeat (with_reducible apply Hp.set' 0)); (with_reducible exact H); (repeat rfl); intro w' H') | ((repeat (with_reducible apply Hp.set' 1)); (with_reducible exact H); (repeat rfl); intro w' H') | ((repeat (with_reducible apply Hp.set' 2)); (with_reducible exact H); (repeat rfl); intro w' H') | ((repeat (with_reducible apply Hp.set' 3)); (with_reducible exact H); (repeat rfl); intro w' H') | ((repeat (with_reducible apply Hp.set' 4)); (with_reducible exact H); (repeat rfl); intro w' H') | ((repeat (with_reducible apply Hp.set' 5)); (with_reducible exact H); (repeat rfl); intro w' H') | ((repeat (with_reducible apply Hp.set' 6)); (with_reducible exact H); (repeat rfl); intro w' H') | ((repeat (with_reducible apply Hp.set' 7)); (with_reducible exact H); (repeat rfl); intro w' H')); ((try simp only [List.set_cons_zero, List.set_cons_succ, List.setIfInBounds_toArray] at H'); clear C H; have H := H'; clear H'; have C := Hp.facts H; simp only [Facts, factsL, and_true, true_and, List.set_cons_zero, List.set_cons_succ, List.setIfInBounds_toArray] at C)) | (refine wpList_bytes2_hp H rfl _ _ _ rfl Tryd.underlying9 Tryd.underlying23 Tryd.underlying5 l rfl (by unfold maxLen; omega) ?_; intro bs cb cs fz w' H' hcb1 hcb2 hcs hfz; ((try simp only [List.set_cons_zero, List.set_cons_succ, List.setIfInBounds_toArray] at H'); clear C H; have H := H'; clear H'; have C := Hp.facts H; simp only [Facts, factsL, and_true, true_and, List.set_cons_zero, List.set_cons_succ, List.setIfInBounds_toArray] at C)) | go_values | go_skip | go_guarded | go_step | go_upon | go_back | (simp only [Int.not_lt, Int.not_le] at *; go_simp) | (go_values <;> (try go_simp)) | (go_ite <;> go_prune <;> (try go_simp)) | (split <;> (first | (rename_i hx; exact (hx _ rfl).elim) | go_prune))))
  go_loopw [4, 5, 10] (fun _ _ ix wr => ∃ i : Nat, ∃ cs : Array Value, i ≤ l.length ∧ ix = .int .i64 i ∧ Kp (∀ j, (hj : j < (lowL (l.take i) ++ l.drop i).length) → cs[j]? = some (u8c (lowL (l.take i) ++ l.drop i)[j])) ∧ Hp w [.obj bs (.cells cs 5 fz)] wr) (fun _ _ ix _ => l.length - (intOf ix).toNat)
  case atStart => exact ⟨0, cs, Nat.zero_le _, rfl, ⟨by simpa [lowL] using hcs⟩, H⟩
  case round =>
    clear H C hcs
    obtain ⟨i, cs, hi1, rfl, hcs, H⟩ := hrel
    have C := Hp.facts H
    simp only [Facts, factsL, and_true, true_and, List.set_cons_zero, List.set_cons_succ, List.setIfInBounds_toArray] at C
    by_cases hlt : i < l.length
    · have hx := H.obj 0 rfl
      have hci := hcs.out i (by simp [lowL]; omega)
      have hget : (lowL (l.take i) ++ l.drop i)[i]'(by simp [lowL]; omega) = l[i] := by
        rw [List.getElem_append_right (by simp [lowL]; omega)]
        simp [lowL, Nat.min_eq_left (Nat.le_of_lt hlt)]
      rw [hget] at hci
      have hc1 := (cell_of_marked hx i).trans hci
      have hbl : bs < wr.heap.size := (Array.getElem?_eq_some_iff.1 hx).1
      have hf := hfz i hlt
      have gm := Kp.mk (low_mid l i hlt)
      have hsm := ksmall_any (l[i].toNat : Int)
      rw [← lowB_nat] at hsm
      have u0 := l[i].toNat_lt
      have u1 := (lowB l[i]).toNat_lt
      clear hget
      unfold u8c at hc1 hci
      have hci2 := Kp.mk hci
      clear hci
      generalize (lowB l[i]) = y at *
      generalize l[i].toNat = x at *
      (repeat' ((fail_if_success (with_reducible show bodyPost _ _ _ _ _ _)); first | ((with_reducible refine Hp.abs_alloc H ?_); intro b' w' H' hb'; (try simp only [hb']); clear hb'; ((try simp only [List.set_cons_zero, List.set_cons_succ, List.setIfInBounds_toArray] at H'); clear C H; have H := H'; clear H'; have C := Hp.facts H; simp only [Facts, factsL, and_true, true_and, List.set_cons_zero, List.set_cons_succ, List.setIfInBounds_toArray] at C)) | ((with_reducible show wpList _ _ _ _ _ (World.setCell _ _ _)); (with_reducible apply Hp.abs_gen H); (first | ((repeat (with_reducible apply Hp.set' 0)); (with_reducible exact H); (repeat rfl); intro w' H') | ((repeat (with_reducible apply Hp.set' 1)); (with_reducible exact H); (repeat rfl); intro w' H') | ((repeat (with_reducible apply Hp.set' 2)); (with_reducible exact H); (repeat rfl); intro w' H') | ((repeat (with_reducible apply Hp.set' 3)); (with_reducible exact H); (repeat rfl); intro w' H') | ((repeat (with_reducible apply Hp.set' 4)); (with_reducible exact H); (repeat rfl); intro w' H') | ((repeat (with_reducible apply Hp.set' 5)); (with_reducible exact H); (repeat rfl); intro w' H') | ((repeat (with_reducible apply Hp.set' 6)); (with_reducible exact H); (repeat rfl); intro w' H') | ((repeat (with_reducible apply Hp.set' 7)); (with_reducible exact H); (repeat rfl); intro w' H')); ((try simp only [List.set_cons_zero, List.set_cons_succ, List.setIfInBounds_toArray] at H'); clear C H; have H := H'; clear H'; have C := Hp.facts H; simp only [Facts, factsL, and_true, true_and, List.set_cons_zero, List.set_cons_succ, List.setIfInBounds_toArray] at C)) | go_values | go_skip | go_guarded | go_step | go_upon | go_back | (simp only [Int.not_lt, Int.not_le] at *; go_simp) | (go_values <;> (try go_simp)) | (go_ite <;> go_prune <;> (try go_simp)) | (split <;> (first | (rename_i hx; exact (hx _ rfl).elim) | go_prune))))
      refine (hsm _).mono ?_
      (rintro e' w' ⟨rfl, hb'⟩; (have H' := Hp.step H hb'; clear hb'; ((try simp only [List.set_cons_zero, List.set_cons_succ, List.setIfInBounds_toArray] at H'); clear C H; have H := H'; clear H'; have C := Hp.facts H; simp only [Facts, factsL, and_true, true_and, List.set_cons_zero, List.set_cons_succ, List.setIfInBounds_toArray] at C)))
      have hx := H.obj 0 rfl
      have hc2 := (cell_of_marked hx i).trans hci2.out
      have hf2 := frozen_of_obj hx hf
      (repeat' ((fail_if_success (with_reducible show bodyPost _ _ _ _ _ _)); first | ((with_reducible refine Hp.abs_alloc H ?_); intro b' w' H' hb'; (try simp only [hb']); clear hb'; ((try simp only [List.set_cons_zero, List.set_cons_succ, List.setIfInBounds_toArray] at H'); clear C H; have H := H'; clear H'; have C := Hp.facts H; simp only [Facts, factsL, and_true, true_and, List.set_cons_zero, List.set_cons_succ, List.setIfInBounds_toArray] at C)) | ((with_reducible show wpList _ _ _ _ _ (World.setCell _ _ _)); (with_reducible apply Hp.abs_gen H); (first | ((repeat (with_reducible apply Hp.set' 0)); (with_reducible exact H); (repeat rfl); intro w' H') | ((repeat (with_reducible apply Hp.set' 1)); (with_reducible exact H); (repeat rfl); intro w' H') | ((repeat (with_reducible apply Hp.set' 2)); (with_reducible exact H); (repeat rfl); intro w' H') | ((repeat (with_reducible apply Hp.set' 3)); (with_reducible exact H); (repeat rfl); intro w' H') | ((repeat (with_reducible apply Hp.set' 4)); (with_reducible exact H); (repeat rfl); intro w' H') | ((repeat (with_reducible apply Hp.set' 5)); (with_reducible exact H); (repeat rfl); intro w' H') | ((repeat (with_reducible apply Hp.set' 6)); (with_reducible exact H); (repeat rfl); intro w' H') | ((repeat (with_reducible apply Hp.set' 7)); (with_reducible exact H); (repeat rfl); intro w' H')); ((try simp only [List.set_cons_zero, List.set_cons_succ, List.setIfInBounds_toArray] at H'); clear C H; have H := H'; clear H'; have C := Hp.facts H; simp only [Facts, factsL, and_true, true_and, List.set_cons_zero, List.set_cons_succ, List.setIfInBounds_toArray] at C)) | ((with_reducible show wpList _ _ _ _ _ (World.setCell _ _ _)); (with_reducible refine Hp.abs_gen H (Hp.setObj H 0 rfl _ _) ?_); intro w' H'; ((try simp only [List.set_cons_zero, List.set_cons_succ, List.setIfInBounds_toArray] at H'); clear C H; have H := H'; clear H'; have C := Hp.facts H; simp only [Facts, factsL, and_true, true_and, List.set_cons_zero, List.set_cons_succ, List.setIfInBounds_toArray] at C)) | go_values | go_skip | go_guarded | go_step | go_upon | go_back | (simp only [Int.not_lt, Int.not_le] at *; go_simp) | (go_values <;> (try go_simp)) | (go_ite <;> go_prune <;> (try go_simp)) | (split <;> (first | (rename_i hx; exact (hx _ rfl).elim) | go_prune))))
      refine ⟨⟨i + 1, cs.setIfInBounds i (.int .u8 (y.toNat : Int)), by omega, by go_num, ⟨fun j hj => ?_⟩, H⟩, by simp [intOf]; omega⟩
      have hq := hcs.out j (by rw [← gm.out] at hj; simpa using hj)
      have e1 : (lowL (l.take (i + 1)) ++ l.drop (i + 1))[j] = ((lowL (l.take i) ++ l.drop i).set i y)[j]'(by rw [gm.out]; exact hj) := by congr 1; exact gm.out.symm
      rw [e1, List.getElem_set]
      by_cases hji : i = j
      · subst hji
        rw [if_pos rfl, Array.getElem?_setIfInBounds_self_of_lt (Array.getElem?_eq_some_iff.1 hq).1]
        rfl
      · rw [if_neg hji, Array.getElem?_setIfInBounds_ne hji]
        exact hq
    · obtain rfl : i = l.length := by omega
      have hcs := hcs.out
      rw [List.take_length, List.drop_length, List.append_nil] at hcs
      have hbs := Bs.ofObj H 0 rfl (by rw [lowL_len]; exact hcb1) hcb2 hcs
      rw [lowL_len] at hbs
      obtain ⟨M, hM⟩ : ∃ M, lowL l = M := ⟨_, rfl⟩
      rw [hM] at hbs
      have gM := Kp.mk hM
      clear hM hcs
      (repeat' ((fail_if_success (with_reducible show bodyPost _ _ _ _ _ _)); first | ((with_reducible refine Hp.abs_alloc H ?_); intro b' w' H' hb'; (try simp only [hb']); clear hb'; ((try simp only [List.set_cons_zero, List.set_cons_succ, List.setIfInBounds_toArray] at H'); clear C H; have H := H'; clear H'; have C := Hp.facts H; simp only [Facts, factsL, and_true, true_and, List.set_cons_zero, List.set_cons_succ, List.setIfInBounds_toArray] at C)) | ((with_reducible show wpList _ _ _ _ _ (World.setCell _ _ _)); (with_reducible apply Hp.abs_gen H); (first | ((repeat (with_reducible apply Hp.set' 0)); (with_reducible exact H); (repeat rfl); intro w' H') | ((repeat (with_reducible apply Hp.set' 1)); (with_reducible exact H); (repeat rfl); intro w' H') | ((repeat (with_reducible apply Hp.set' 2)); (with_reducible exact H); (repeat rfl); intro w' H') | ((repeat (with_reducible apply Hp.set' 3)); (with_reducible exact H); (repeat rfl); intro w' H') | ((repeat (with_reducible apply Hp.set' 4)); (with_reducible exact H); (repeat rfl); intro w' H') | ((repeat (with_reducible apply Hp.set' 5)); (with_reducible exact H); (repeat rfl); intro w' H') | ((repeat (with_reducible apply Hp.set' 6)); (with_reducible exact H); (repeat rfl); intro w' H') | ((repeat (with_reducible apply Hp.set' 7)); (with_reducible exact H); (repeat rfl); intro w' H')); ((try simp only [List.set_cons_zero, List.set_cons_succ, List.setIfInBounds_toArray] at H'); clear C H; have H := H'; clear H'; have C := Hp.facts H; simp only [Facts, factsL, and_true, true_and, List.set_cons_zero, List.set_cons_succ, List.setIfInBounds_toArray] at C)) | ((rw [run_str hbs _ _ _ Tryd.underlying23 Tryd.underlying5 Tryd.underlying9]); (simp only [Result.andThen])) | go_values | go_skip | go_guarded | go_step | go_upon | go_back | (simp only [Int.not_lt, Int.not_le] at *; go_simp) | (go_values <;> (try go_simp)) | (go_ite <;> go_prune <;> (try go_simp)) | (split <;> (first | (rename_i hx; exact (hx _ rfl).elim) | go_prune))))
      go_ret
      rw [gM.out]
      exact ⟨rfl, H.low⟩
end Go.Proofs.YtmmjghdobdendaaDoor

