/- Texts and bytes turned into one another within a walk. No condition on a program. -/
import Derived.Test.YtogliinfdfkobaaDoorFrame
import Derived.Test.YtogliinfdfkobaaDoorOPlain
import Derived.Lib.ConvBytes
import Derived.Test.YtogliinfdfkobaaDoorT12
set_option linter.unusedSimpArgs false
set_option linter.unusedVariables false
namespace Go.Mem
open Go.RowKit
theorem bytesWorld_below (w : World) (e : TypeId) (s : ByteArray) : Below w.heap.size w (Lib.bytesWorld w e s) := by
  refine ⟨rfl, ?_, rfl, by rw [Lib.bytesWorld_size]; omega, fun k hk => Lib.bytesWorld_at_old w e s k hk⟩
  simp [Lib.bytesWorld, World.freeze, World.alloc, World.drew, -World.alloc_eq, -World.drew_eq]
theorem Bs.ofObj {w0 w : World} {L : List Ent} (H : Hp w0 L w) (i : Nat) {b c : Nat} {cs : Array Value} {e : TypeId} {fz : Nat × Nat} {l : List UInt8} (hi : L[i]? = some (.obj b (.cells cs e fz))) (h1 : l.length ≤ c) (h2 : c ≤ maxLen) (h : ∀ j, (hj : j < l.length) → cs[j]? = some (u8c l[j])) :
    Bs w (.slice (some ⟨b, 0, none⟩) l.length c) l := by
  have hx := H.obj i hi
  refine Bs.mk rfl h1 h2 (fun h => by cases h) fun _ => ⟨b, 0, rfl, (Array.getElem?_eq_some_iff.1 hx).1, fun j hj => ?_⟩
  rw [cell_of_marked hx, Nat.zero_add]
  exact h j hj
theorem Hp.bytes {w0 w : World} {L : List Ent} (H : Hp w0 L w) (e : TypeId) (l : List UInt8) : Hp w0 (.obj w.heap.size (.cells (Lib.bytesCells w e ⟨l.toArray⟩) e ((Lib.bytesCells w e ⟨l.toArray⟩).size, (Lib.bytesCells w e ⟨l.toArray⟩).size + 1)) :: L) (Lib.bytesWorld w e ⟨l.toArray⟩) :=
  H.adopt (bytesWorld_below w e _) (.obj _ _) ⟨Lib.bytesWorld_at_new w e ⟨l.toArray⟩, Nat.le_refl _⟩
section
variable {P : Program} {ops : Array Oper} {Q : Exit → Act → World → Prop} {rest : List Oper} {o : Oper} {a : Act} {w0 w : World} {L : List Ent}
/-- []byte(s). -/
theorem wpList_bytes_hp (H : Hp w0 L w) (hgd : o.guard = none) (x : Operand) (src dst : TypeId) (ho : o.op = .convert src dst x) {e : TypeId} {u : TypeDesc} (hs : P.underlying src = some u) (hd : P.underlying dst = some (.slice e)) (he : P.underlying e = some (.int .u8))
    (l : List UInt8) (hx : a.eval x = .string ⟨l.toArray⟩) (hl : l.length ≤ maxLen)
    (h : ∀ b c cs fz w', Hp w0 (.obj b (.cells cs e fz) :: L) w' → l.length ≤ c → c ≤ maxLen → (∀ j, (hj : j < l.length) → cs[j]? = some (u8c l[j])) → wpList P ops Q rest (a.put o.dst (.slice (some ⟨b, 0, none⟩) l.length c)) w') : wpList P ops Q (o :: rest) a w := by
  have hr := Lib.run_convert_string_bytes (P := P) w src dst e ⟨l.toArray⟩ hs hd he
  have hsz : (ByteArray.mk l.toArray).size = l.length := by simp [ByteArray.size]
  refine wpList_plain hgd fun K hK => ?_
  unfold Oper.wp
  simp [execOp, ho, hx, hr, Result.andThen]
  rw [hsz]
  have hn := Lib.bytesWorld_at_new w e ⟨l.toArray⟩
  refine hK _ _ (h _ _ _ _ _ (H.adopt (bytesWorld_below w e _) (.obj _ _) ⟨hn, Nat.le_refl _⟩) (grownCap_ge _ _ _ _) (grownCap_le_maxLen _ _ _ _ hl) fun j hj => ?_)
  simp [Lib.bytesCells, Array.getElem?_append, hj, u8c]
/-- string(b). -/
theorem wpList_string_hp (hgd : o.guard = none) (x : Operand) (src dst : TypeId) (ho : o.op = .convert src dst x) {e : TypeId} (hs : P.underlying src = some (.slice e)) (he : P.underlying e = some (.int .u8)) (hd : P.underlying dst = some .string)
    {v : Value} {l : List UInt8} (hx : a.eval x = v) (hb : Bs w v l)
    (h : wpList P ops Q rest (a.put o.dst (.string ⟨l.toArray⟩)) w) : wpList P ops Q (o :: rest) a w := by
  have hr := run_str (P := P) hb src dst e hs he hd
  refine wpList_plain hgd fun K hK => ?_
  unfold Oper.wp
  simp [execOp, ho, hx, hr, Result.andThen]
  exact hK _ _ h
end
end Go.Mem

set_option linter.unusedSimpArgs false
set_option linter.unusedVariables false
set_option maxRecDepth 100000
namespace Go.Proofs.YtogliinfdfkobaaDoor
open Go.RowKit Go.Mem Go.Reg Oct Bit Go.Txt Go.Shelf Go.LawLift
def u8S (k : Int) (l : List UInt8) : List UInt8 := if rightT k l then enc (sg k l) else []
theorem sgOf_no {k : Int} {l : List UInt8} (h : rightT k l = false) : sgOf k l = [] ∧ erOf k l = 6 ∧ u8S k l = [] := by
  unfold sgOf erOf u8S
  rw [h]
  exact ⟨rfl, rfl, rfl⟩
theorem sgOf_yes {k : Int} {l : List UInt8} (h : rightT k l = true) : sgOf k l = sg k l ∧ erOf k l = 0 ∧ u8S k l = enc (sg k l) := by
  unfold sgOf erOf u8S
  rw [h]
  exact ⟨rfl, rfl, rfl⟩
set_option maxHeartbeats 2000000 in
theorem tutf8_any (k : Int) (l : List UInt8) (v : Value) (hl : l.length ≤ 1000000) (w : World) (hT : Tabs w) (hb : Bs w v l) :
    Calls Tryd.prog 12 #[.agg #[.int .i64 k, v]] w fun e w' => e = .returned (.tuple #[.string ⟨(u8S k l).toArray⟩, .int .i64 (erOf k l)]) ∧ Below w.heap.size w w' := by
  have hS := fun w => tsigns_any k l v hl w
  have hlen := sg_len k l
  have H := Hp.start w
  have C : True := trivial
  obtain ⟨A, c, rfl, hlc, hcm, hA, -⟩ := id hb.open
  cases hr : rightT k l with
  | false =>
    have h := sgOf_no hr
    rw [h.1, h.2.1] at hS
    rw [h.2.1, h.2.2]
    clear hr h
    go_enter Tryd.func12, Tryd.ntmps12
    (repeat' ((fail_if_success (with_reducible show bodyPost _ _ _ _ _ _)); first | ((with_reducible refine Hp.abs_alloc H ?_); intro b' w' H' hb'; (try simp only [hb']); clear hb'; ((try simp only [List.set_cons_zero, List.set_cons_succ, List.setIfInBounds_toArray] at H'); clear C H; have H := H'; clear H'; have C := Hp.facts H; simp only [Facts, factsL, and_true, true_and, List.set_cons_zero, List.set_cons_succ, List.setIfInBounds_toArray] at C)) | ((with_reducible show wpList _ _ _ _ _ (World.setCell _ _ _)); (with_reducible apply Hp.abs_gen H); (first | ((repeat (with_reducible apply Hp.set' 0)); (with_reducible exact H); (repeat rfl); intro w' H') | ((repeat (with_reducible apply Hp.set' 1)); (with_reducible exact H); (repeat rfl); intro w' H') | ((repeat (with_reducible apply Hp.set' 2)); (with_reducible exact H); (repeat rfl); intro w' H') | ((repeat (with_reducible apply Hp.set' 3)); (with_reducible exact H); (repeat rfl); intro w' H') | ((repeat (with_reducible apply Hp.set' 4)); (with_reducible exact H); (repeat rfl); intro w' H') | ((repeat (with_reducible apply Hp.set' 5)); (with_reducible exact H); (repeat rfl); intro w' H') | ((repeat (with_reducible apply Hp.set' 6)); (with_reducible exact H); (repeat rfl); intro w' H') | ((repeat (with_reducible apply Hp.set' 7)); (with_reducible exact H); (repeat rfl); intro w' H')); ((try simp only [List.set_cons_zero, List.set_cons_succ, List.setIfInBounds_toArray] at H'); clear C H; have H := H'; clear H'; have C := Hp.facts H; simp only [Facts, factsL, and_true, true_and, List.set_cons_zero, List.set_cons_succ, List.setIfInBounds_toArray] at C)) | go_values | go_skip | go_guarded | go_step | go_upon | go_back | (simp only [Int.not_lt, Int.not_le] at *; go_simp) | (go_values <;> (try go_simp)) | (go_ite <;> go_prune <;> (try go_simp)) | (split <;> (first | (rename_i hx; exact (hx _ rfl).elim) | go_prune))))
    refine (hS _ (hT.below H.low) (H.bs hb)).mono ?_
    (rintro e' w' ⟨⟨v', rfl, ho⟩, hb'⟩; have H' := Hp.rowOf H hb' ho; obtain ⟨A4, c4, rfl⟩ := Go.LawLift.own_form ho; clear ho hb'; ((try simp only [List.set_cons_zero, List.set_cons_succ, List.setIfInBounds_toArray] at H'); clear C H; have H := H'; clear H'; have C := Hp.facts H; simp only [Facts, factsL, and_true, true_and, List.set_cons_zero, List.set_cons_succ, List.setIfInBounds_toArray] at C))
    (repeat' ((fail_if_success (with_reducible show bodyPost _ _ _ _ _ _)); first | ((with_reducible refine Hp.abs_alloc H ?_); intro b' w' H' hb'; (try simp only [hb']); clear hb'; ((try simp only [List.set_cons_zero, List.set_cons_succ, List.setIfInBounds_toArray] at H'); clear C H; have H := H'; clear H'; have C := Hp.facts H; simp only [Facts, factsL, and_true, true_and, List.set_cons_zero, List.set_cons_succ, List.setIfInBounds_toArray] at C)) | ((with_reducible show wpList _ _ _ _ _ (World.setCell _ _ _)); (with_reducible apply Hp.abs_gen H); (first | ((repeat (with_reducible apply Hp.set' 0)); (with_reducible exact H); (repeat rfl); intro w' H') | ((repeat (with_reducible apply Hp.set' 1)); (with_reducible exact H); (repeat rfl); intro w' H') | ((repeat (with_reducible apply Hp.set' 2)); (with_reducible exact H); (repeat rfl); intro w' H') | ((repeat (with_reducible apply Hp.set' 3)); (with_reducible exact H); (repeat rfl); intro w' H') | ((repeat (with_reducible apply Hp.set' 4)); (with_reducible exact H); (repeat rfl); intro w' H') | ((repeat (with_reducible apply Hp.set' 5)); (with_reducible exact H); (repeat rfl); intro w' H') | ((repeat (with_reducible apply Hp.set' 6)); (with_reducible exact H); (repeat rfl); intro w' H') | ((repeat (with_reducible apply Hp.set' 7)); (with_reducible exact H); (repeat rfl); intro w' H')); ((try simp only [List.set_cons_zero, List.set_cons_succ, List.setIfInBounds_toArray] at H'); clear C H; have H := H'; clear H'; have C := Hp.facts H; simp only [Facts, factsL, and_true, true_and, List.set_cons_zero, List.set_cons_succ, List.setIfInBounds_toArray] at C)) | go_values | go_skip | go_guarded | go_step | go_upon | go_back | (simp only [Int.not_lt, Int.not_le] at *; go_simp) | (go_values <;> (try go_simp)) | (go_ite <;> go_prune <;> (try go_simp)) | (split <;> (first | (rename_i hx; exact (hx _ rfl).elim) | go_prune))))
    go_ret2
    exact ⟨rfl, H.low⟩
  | true =>
    have h := sgOf_yes hr
    have hO := fun w v hb => tof_any 12 (sg k l) v (by omega) w hb
    have h2 := okT_yes (k := 12) (ns := sg k l) rfl (sg_12 hr)
    rw [h.1, h.2.1] at hS
    rw [h.2.1, h.2.2]
    rw [h2.1, h2.2.1, h2.2.2] at hO
    rw [← putT_12]
    clear hr h h2
    generalize sg k l = ns at *
    generalize putT 12 ns = P at *
    go_enter Tryd.func12, Tryd.ntmps12
    (repeat' ((fail_if_success (with_reducible show bodyPost _ _ _ _ _ _)); first | ((with_reducible refine Hp.abs_alloc H ?_); intro b' w' H' hb'; (try simp only [hb']); clear hb'; ((try simp only [List.set_cons_zero, List.set_cons_succ, List.setIfInBounds_toArray] at H'); clear C H; have H := H'; clear H'; have C := Hp.facts H; simp only [Facts, factsL, and_true, true_and, List.set_cons_zero, List.set_cons_succ, List.setIfInBounds_toArray] at C)) | ((with_reducible show wpList _ _ _ _ _ (World.setCell _ _ _)); (with_reducible apply Hp.abs_gen H); (first | ((repeat (with_reducible apply Hp.set' 0)); (with_reducible exact H); (repeat rfl); intro w' H') | ((repeat (with_reducible apply Hp.set' 1)); (with_reducible exact H); (repeat rfl); intro w' H') | ((repeat (with_reducible apply Hp.set' 2)); (with_reducible exact H); (repeat rfl); intro w' H') | ((repeat (with_reducible apply Hp.set' 3)); (with_reducible exact H); (repeat rfl); intro w' H') | ((repeat (with_reducible apply Hp.set' 4)); (with_reducible exact H); (repeat rfl); intro w' H') | ((repeat (with_reducible apply Hp.set' 5)); (with_reducible exact H); (repeat rfl); intro w' H') | ((repeat (with_reducible apply Hp.set' 6)); (with_reducible exact H); (repeat rfl); intro w' H') | ((repeat (with_reducible apply Hp.set' 7)); (with_reducible exact H); (repeat rfl); intro w' H')); ((try simp only [List.set_cons_zero, List.set_cons_succ, List.setIfInBounds_toArray] at H'); clear C H; have H := H'; clear H'; have C := Hp.facts H; simp only [Facts, factsL, and_true, true_and, List.set_cons_zero, List.set_cons_succ, List.setIfInBounds_toArray] at C)) | go_values | go_skip | go_guarded | go_step | go_upon | go_back | (simp only [Int.not_lt, Int.not_le] at *; go_simp) | (go_values <;> (try go_simp)) | (go_ite <;> go_prune <;> (try go_simp)) | (split <;> (first | (rename_i hx; exact (hx _ rfl).elim) | go_prune))))
    refine (hS _ (hT.below H.low) (H.bs hb)).mono ?_
    (rintro e' w' ⟨⟨v', rfl, ho⟩, hb'⟩; have H' := Hp.rowOf H hb' ho; obtain ⟨A4, c4, rfl⟩ := Go.LawLift.own_form ho; clear ho hb'; ((try simp only [List.set_cons_zero, List.set_cons_succ, List.setIfInBounds_toArray] at H'); clear C H; have H := H'; clear H'; have C := Hp.facts H; simp only [Facts, factsL, and_true, true_and, List.set_cons_zero, List.set_cons_succ, List.setIfInBounds_toArray] at C))
    (repeat' ((fail_if_success (with_reducible show bodyPost _ _ _ _ _ _)); first | ((with_reducible refine Hp.abs_alloc H ?_); intro b' w' H' hb'; (try simp only [hb']); clear hb'; ((try simp only [List.set_cons_zero, List.set_cons_succ, List.setIfInBounds_toArray] at H'); clear C H; have H := H'; clear H'; have C := Hp.facts H; simp only [Facts, factsL, and_true, true_and, List.set_cons_zero, List.set_cons_succ, List.setIfInBounds_toArray] at C)) | ((with_reducible show wpList _ _ _ _ _ (World.setCell _ _ _)); (with_reducible apply Hp.abs_gen H); (first | ((repeat (with_reducible apply Hp.set' 0)); (with_reducible exact H); (repeat rfl); intro w' H') | ((repeat (with_reducible apply Hp.set' 1)); (with_reducible exact H); (repeat rfl); intro w' H') | ((repeat (with_reducible apply Hp.set' 2)); (with_reducible exact H); (repeat rfl); intro w' H') | ((repeat (with_reducible apply Hp.set' 3)); (with_reducible exact H); (repeat rfl); intro w' H') | ((repeat (with_reducible apply Hp.set' 4)); (with_reducible exact H); (repeat rfl); intro w' H') | ((repeat (with_reducible apply Hp.set' 5)); (with_reducible exact H); (repeat rfl); intro w' H') | ((repeat (with_reducible apply Hp.set' 6)); (with_reducible exact H); (repeat rfl); intro w' H') | ((repeat (with_reducible apply Hp.set' 7)); (with_reducible exact H); (repeat rfl); intro w' H')); ((try simp only [List.set_cons_zero, List.set_cons_succ, List.setIfInBounds_toArray] at H'); clear C H; have H := H'; clear H'; have C := Hp.facts H; simp only [Facts, factsL, and_true, true_and, List.set_cons_zero, List.set_cons_succ, List.setIfInBounds_toArray] at C)) | go_values | go_skip | go_guarded | go_step | go_upon | go_back | (simp only [Int.not_lt, Int.not_le] at *; go_simp) | (go_values <;> (try go_simp)) | (go_ite <;> go_prune <;> (try go_simp)) | (split <;> (first | (rename_i hx; exact (hx _ rfl).elim) | go_prune))))
    refine (hO _ _ (Hp.row H 0 rfl)).mono ?_
    (rintro e' w' ⟨⟨v', rfl, ho⟩, hb'⟩; have H' := Hp.rowOf H hb' ho; obtain ⟨A5, c5, rfl⟩ := Go.LawLift.own_form ho; clear ho hb'; ((try simp only [List.set_cons_zero, List.set_cons_succ, List.setIfInBounds_toArray] at H'); clear C H; have H := H'; clear H'; have C := Hp.facts H; simp only [Facts, factsL, and_true, true_and, List.set_cons_zero, List.set_cons_succ, List.setIfInBounds_toArray] at C))
    (repeat' ((fail_if_success (with_reducible show bodyPost _ _ _ _ _ _)); first | ((with_reducible refine Hp.abs_alloc H ?_); intro b' w' H' hb'; (try simp only [hb']); clear hb'; ((try simp only [List.set_cons_zero, List.set_cons_succ, List.setIfInBounds_toArray] at H'); clear C H; have H := H'; clear H'; have C := Hp.facts H; simp only [Facts, factsL, and_true, true_and, List.set_cons_zero, List.set_cons_succ, List.setIfInBounds_toArray] at C)) | ((with_reducible show wpList _ _ _ _ _ (World.setCell _ _ _)); (with_reducible apply Hp.abs_gen H); (first | ((repeat (with_reducible apply Hp.set' 0)); (with_reducible exact H); (repeat rfl); intro w' H') | ((repeat (with_reducible apply Hp.set' 1)); (with_reducible exact H); (repeat rfl); intro w' H') | ((repeat (with_reducible apply Hp.set' 2)); (with_reducible exact H); (repeat rfl); intro w' H') | ((repeat (with_reducible apply Hp.set' 3)); (with_reducible exact H); (repeat rfl); intro w' H') | ((repeat (with_reducible apply Hp.set' 4)); (with_reducible exact H); (repeat rfl); intro w' H') | ((repeat (with_reducible apply Hp.set' 5)); (with_reducible exact H); (repeat rfl); intro w' H') | ((repeat (with_reducible apply Hp.set' 6)); (with_reducible exact H); (repeat rfl); intro w' H') | ((repeat (with_reducible apply Hp.set' 7)); (with_reducible exact H); (repeat rfl); intro w' H')); ((try simp only [List.set_cons_zero, List.set_cons_succ, List.setIfInBounds_toArray] at H'); clear C H; have H := H'; clear H'; have C := Hp.facts H; simp only [Facts, factsL, and_true, true_and, List.set_cons_zero, List.set_cons_succ, List.setIfInBounds_toArray] at C)) | (refine wpList_string_hp rfl _ _ _ rfl Tryd.underlying22 Tryd.underlying5 Tryd.underlying9 rfl (Hp.row H 1 rfl : Bs _ _ P) ?_) | go_values | go_skip | go_guarded | go_step | go_upon | go_back | (simp only [Int.not_lt, Int.not_le] at *; go_simp) | (go_values <;> (try go_simp)) | (go_ite <;> go_prune <;> (try go_simp)) | (split <;> (first | (rename_i hx; exact (hx _ rfl).elim) | go_prune))))
    trace_state
    go_ret2
    exact ⟨rfl, H.low⟩
end Go.Proofs.YtogliinfdfkobaaDoor

