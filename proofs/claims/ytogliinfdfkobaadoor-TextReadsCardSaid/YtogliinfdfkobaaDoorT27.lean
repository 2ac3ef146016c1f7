/- Lemmas and walks on the way to the seat's laws; each theorem says its own conditions. -/
import Derived.Test.YtogliinfdfkobaaDoorT26
import Derived.Test.YtogliinfdfkobaaDoorH20
set_option linter.unusedSimpArgs false
set_option linter.unusedVariables false
set_option linter.unusedSimpArgs false
set_option linter.unusedVariables false
set_option maxRecDepth 100000
namespace Go.Proofs.YtogliinfdfkobaaDoor
open Go.RowKit Go.Mem Go.Reg Oct Bit Hd Go.Txt Go.Shelf Go.LawLift
def okAt (ks : List Int) (n : Int) (i : Nat) : Bool := if ks = [] then knownK n else (ks.take i).contains n
theorem okAt_step {ks : List Int} {n : Int} {i : Nat} (h : i < ks.length) : okAt ks n (i + 1) = (okAt ks n i || (ks[i] == n)) := by
  have h0 : ks ≠ [] := List.length_pos_iff.1 (by omega)
  have e1 : okAt ks n (i + 1) = (ks.take (i + 1)).contains n := if_neg h0
  have e2 : okAt ks n i = (ks.take i).contains n := if_neg h0
  rw [e1, e2, List.take_succ_eq_append_getElem h, List.contains_eq_any_beq, List.any_append, List.contains_eq_any_beq]
  simp only [List.any_cons, List.any_nil, Bool.or_false]
  rw [Bool.beq_comm]
theorem okAt_end (ks : List Int) (n : Int) : okAt ks n ks.length = (ksOf ks).contains n := by
  unfold okAt ksOf
  split
  · rw [known_eq]
  · rw [List.take_length]
def okV (ok : Bool) (x n : Int) : Bool := ok || (x == n)
/-- The document's reader of a text: the text stands in memory. -/
def RRd (w0 w : World) (R : Int × List UInt8 × Int × Nat) (e : Ending) (w' : World) : Prop :=
  (∃ x, e = .returned (.tuple #[.agg #[.int .i64 R.1, x], .int .i64 (R.2.2.2 : Int), .int .i64 R.2.2.1]) ∧ Bs w0 x R.2.1) ∧ Below w.heap.size w w'
set_option maxHeartbeats 16000000 in
theorem rread_none (l : List UInt8) (v : Value) (ks : List Int) (kv : Value) (hks0 : ks = []) (hl : l.length ≤ 100000) (hks : ks.length ≤ 1000000) (w0 : World) (hb0 : Bs w0 v l) (w : World) (hb : Bs w v l) (hZ : Zs w kv ks) :
    Calls Tryd.prog 31 #[v, .int .i64 0, kv] w (RRd w0 w (rdT l 0 ks)) := by
  have hR : rdT l 0 ks = rdTo (rdHead l 0) l 0 (ksOf ks) := rfl
  have hle := @rdHead_le l 0 (Nat.zero_le _)
  have hE := Kp.mk (@rdHead_err l 0)
  have hRd := fun w h => rHead_any l v 0 (Nat.zero_le _) (by omega) w h
  have hend := fun n => okAt_end ks n
  generalize rdT l 0 ks = R at *
  generalize rdHead l 0 = D at *
  generalize ksOf ks = KS at *
  obtain ⟨⟨c, n, m⟩, z, er, p⟩ := D
  simp only at hle
  have hp2 : p ≤ l.length := by omega
  clear hle
  have hK := rkind_any n
  obtain ⟨A, ca, rfl, hlc, hcm, hA, -⟩ := id hb.open
  have hcut := fun (h : p + z ≤ l.length) => hb.cut p z h
  have hcut0 := fun (h : p + z ≤ l.length) => hb0.cut p z h
  obtain ⟨A0, c0, rfl, hz1, hz2, hz3, hcell⟩ := id hZ.openK
  have H := Hp.start w
  have C : True := trivial
  go_enter Tryd.func31, Tryd.ntmps31
  (repeat' ((fail_if_success (with_reducible show bodyPost _ _ _ _ _ _)); first | ((with_reducible refine Hp.abs_alloc H ?_); intro b' w' H' hb'; (try simp only [hb']); clear hb'; ((try simp only [z0, z1, z2] at H'); clear C H; have H := H'; clear H'; have C := Hp.facts H; simp only [Facts, factsL, and_true, true_and, z0, z1, z2] at C)) | ((with_reducible show wpList _ _ _ _ _ (World.setCell _ _ _)); (with_reducible apply Hp.abs_gen H); (first | ((repeat (with_reducible apply Hp.set' 0)); (with_reducible exact H); (repeat rfl); intro w' H') | ((repeat (with_reducible apply Hp.set' 1)); (with_reducible exact H); (repeat rfl); intro w' H') | ((repeat (with_reducible apply Hp.set' 2)); (with_reducible exact H); (repeat rfl); intro w' H') | ((repeat (with_reducible apply Hp.set' 3)); (with_reducible exact H); (repeat rfl); intro w' H') | ((repeat (with_reducible apply Hp.set' 4)); (with_reducible exact H); (repeat rfl); intro w' H') | ((repeat (with_reducible apply Hp.set' 5)); (with_reducible exact H); (repeat rfl); intro w' H') | ((repeat (with_reducible apply Hp.set' 6)); (with_reducible exact H); (repeat rfl); intro w' H') | ((repeat (with_reducible apply Hp.set' 7)); (with_reducible exact H); (repeat rfl); intro w' H')); ((try simp only [z0, z1, z2] at H'); clear C H; have H := H'; clear H'; have C := Hp.facts H; simp only [Facts, factsL, and_true, true_and, z0, z1, z2] at C)) | go_values | go_skip | go_guarded | go_step | go_upon | go_back | (simp only [Int.not_lt, Int.not_le] at *; go_simp) | (go_values <;> (try go_simp)) | (go_ite <;> go_prune <;> (try go_simp)) | (split <;> (first | (rename_i hx; exact (hx _ rfl).elim) | go_prune))))
  refine (hRd _ (H.bs hb)).mono ?_
  rintro e' w' ⟨rfl, hb'⟩
  simp only
  (have H' := Hp.step H hb'; clear hb'; ((try simp only [z0, z1, z2] at H'); clear C H; have H := H'; clear H'; have C := Hp.facts H; simp only [Facts, factsL, and_true, true_and, z0, z1, z2] at C))
  clear hRd
  by_cases h0 : er = 0
  · subst h0
    have gk := Kp.mk (show okAt ks n 0 = knownK n by unfold okAt; rw [if_pos hks0])
    have hl0 := Kp.mk (show ks.length = 0 by rw [hks0]; rfl)
    have hl1 : ((ks.length : Int) == 0) = true := by have := hl0.out; simp; omega
    clear hks0
    (repeat' ((fail_if_success (with_reducible show bodyPost _ _ _ _ _ _)); first | ((with_reducible refine Hp.abs_alloc H ?_); intro b' w' H' hb'; (try simp only [hb']); clear hb'; ((try simp only [z0, z1, z2] at H'); clear C H; have H := H'; clear H'; have C := Hp.facts H; simp only [Facts, factsL, and_true, true_and, z0, z1, z2] at C)) | ((with_reducible show wpList _ _ _ _ _ (World.setCell _ _ _)); (with_reducible apply Hp.abs_gen H); (first | ((repeat (with_reducible apply Hp.set' 0)); (with_reducible exact H); (repeat rfl); intro w' H') | ((repeat (with_reducible apply Hp.set' 1)); (with_reducible exact H); (repeat rfl); intro w' H') | ((repeat (with_reducible apply Hp.set' 2)); (with_reducible exact H); (repeat rfl); intro w' H') | ((repeat (with_reducible apply Hp.set' 3)); (with_reducible exact H); (repeat rfl); intro w' H') | ((repeat (with_reducible apply Hp.set' 4)); (with_reducible exact H); (repeat rfl); intro w' H') | ((repeat (with_reducible apply Hp.set' 5)); (with_reducible exact H); (repeat rfl); intro w' H') | ((repeat (with_reducible apply Hp.set' 6)); (with_reducible exact H); (repeat rfl); intro w' H') | ((repeat (with_reducible apply Hp.set' 7)); (with_reducible exact H); (repeat rfl); intro w' H')); ((try simp only [z0, z1, z2] at H'); clear C H; have H := H'; clear H'; have C := Hp.facts H; simp only [Facts, factsL, and_true, true_and, z0, z1, z2] at C)) | (go_at_call 34; refine (hK _).mono ?_; rintro e' w' ⟨rfl, hb'⟩; (have H' := Hp.step H hb'; clear hb'; ((try simp only [z0, z1, z2] at H'); clear C H; have H := H'; clear H'; have C := Hp.facts H; simp only [Facts, factsL, and_true, true_and, z0, z1, z2] at C))) | go_values | go_skip | go_guarded | go_step | go_upon | go_back | (simp only [Int.not_lt, Int.not_le] at *; go_simp) | (go_values <;> (try go_simp)) | (go_ite <;> go_prune <;> (try go_simp)) | (split <;> (first | (rename_i hx; exact (hx _ rfl).elim) | go_prune))))
    (obtain ⟨t, rfl⟩ := Hp.name H 0 rfl; obtain ⟨r, rfl⟩ := Hp.name H 1 rfl)
    go_loopw [13, 14] (fun ok ix wr => ∃ i : Nat, i ≤ ks.length ∧ ix = .int .i64 i ∧ ok = .bool (okAt ks n i) ∧ Hp w [.blk t #[.int .i64 c, .int .i64 n, .bool m] 56, .blk r #[.int .i64 0, .slice none 0 0] 24] wr) (fun _ ix _ => ks.length - (intOf ix).toNat)
    case atStart => exact ⟨0, Nat.zero_le _, rfl, by rw [gk.out], H⟩
    case round =>
      clear H C
      obtain ⟨i, hi1, rfl, rfl, H⟩ := hrel
      have C := Hp.facts H
      simp only [Facts, factsL, and_true, true_and, z0, z1, z2] at C
      clear gk hl1
      by_cases hlt : i < ks.length
      · exact absurd hlt (by have := hl0.out; omega)
      · obtain rfl : i = ks.length := by omega
        rw [hend n]
        clear hcell hend hK hE hZ
        cases hct : List.contains KS n with
        | false =>
          have hR := hR.trans (rdTo_tag (.inr (.inr hct)))
          subst hR
          clear hct
          (repeat' ((fail_if_success (with_reducible show bodyPost _ _ _ _ _ _)); first | ((with_reducible refine Hp.abs_alloc H ?_); intro b' w' H' hb'; (try simp only [hb']); clear hb'; ((try simp only [z0, z1, z2] at H'); clear C H; have H := H'; clear H'; have C := Hp.facts H; simp only [Facts, factsL, and_true, true_and, z0, z1, z2] at C)) | ((with_reducible show wpList _ _ _ _ _ (World.setCell _ _ _)); (with_reducible apply Hp.abs_gen H); (first | ((repeat (with_reducible apply Hp.set' 0)); (with_reducible exact H); (repeat rfl); intro w' H') | ((repeat (with_reducible apply Hp.set' 1)); (with_reducible exact H); (repeat rfl); intro w' H') | ((repeat (with_reducible apply Hp.set' 2)); (with_reducible exact H); (repeat rfl); intro w' H') | ((repeat (with_reducible apply Hp.set' 3)); (with_reducible exact H); (repeat rfl); intro w' H') | ((repeat (with_reducible apply Hp.set' 4)); (with_reducible exact H); (repeat rfl); intro w' H') | ((repeat (with_reducible apply Hp.set' 5)); (with_reducible exact H); (repeat rfl); intro w' H') | ((repeat (with_reducible apply Hp.set' 6)); (with_reducible exact H); (repeat rfl); intro w' H') | ((repeat (with_reducible apply Hp.set' 7)); (with_reducible exact H); (repeat rfl); intro w' H')); ((try simp only [z0, z1, z2] at H'); clear C H; have H := H'; clear H'; have C := Hp.facts H; simp only [Facts, factsL, and_true, true_and, z0, z1, z2] at C)) | go_values | go_skip | go_guarded | go_step | go_upon | go_back | (simp only [Int.not_lt, Int.not_le] at *; go_simp) | (go_values <;> (try go_simp)) | (go_ite <;> go_prune <;> (try go_simp)) | (split <;> (first | (rename_i hx; exact (hx _ rfl).elim) | go_prune))))
          refine bodyPost_ret (v := .tuple #[.agg #[.int .i64 0, .slice none 0 0], .int .i64 ((0 : Nat) : Int), .int .i64 4]) (by simp [results, go_sem, C]) rfl ?_
          exact ⟨⟨_, rfl, Bs.nil _⟩, H.low⟩
        | true =>
          by_cases h1 : c = 0
          · subst h1
            cases m with
            | true =>
              have hR := hR.trans (rdTo_tag (.inr (.inl rfl)))
              subst hR
              clear hct
              (repeat' ((fail_if_success (with_reducible show bodyPost _ _ _ _ _ _)); first | ((with_reducible refine Hp.abs_alloc H ?_); intro b' w' H' hb'; (try simp only [hb']); clear hb'; ((try simp only [z0, z1, z2] at H'); clear C H; have H := H'; clear H'; have C := Hp.facts H; simp only [Facts, factsL, and_true, true_and, z0, z1, z2] at C)) | ((with_reducible show wpList _ _ _ _ _ (World.setCell _ _ _)); (with_reducible apply Hp.abs_gen H); (first | ((repeat (with_reducible apply Hp.set' 0)); (with_reducible exact H); (repeat rfl); intro w' H') | ((repeat (with_reducible apply Hp.set' 1)); (with_reducible exact H); (repeat rfl); intro w' H') | ((repeat (with_reducible apply Hp.set' 2)); (with_reducible exact H); (repeat rfl); intro w' H') | ((repeat (with_reducible apply Hp.set' 3)); (with_reducible exact H); (repeat rfl); intro w' H') | ((repeat (with_reducible apply Hp.set' 4)); (with_reducible exact H); (repeat rfl); intro w' H') | ((repeat (with_reducible apply Hp.set' 5)); (with_reducible exact H); (repeat rfl); intro w' H') | ((repeat (with_reducible apply Hp.set' 6)); (with_reducible exact H); (repeat rfl); intro w' H') | ((repeat (with_reducible apply Hp.set' 7)); (with_reducible exact H); (repeat rfl); intro w' H')); ((try simp only [z0, z1, z2] at H'); clear C H; have H := H'; clear H'; have C := Hp.facts H; simp only [Facts, factsL, and_true, true_and, z0, z1, z2] at C)) | go_values | go_skip | go_guarded | go_step | go_upon | go_back | (simp only [Int.not_lt, Int.not_le] at *; go_simp) | (go_values <;> (try go_simp)) | (go_ite <;> go_prune <;> (try go_simp)) | (split <;> (first | (rename_i hx; exact (hx _ rfl).elim) | go_prune))))
              refine bodyPost_ret (v := .tuple #[.agg #[.int .i64 0, .slice none 0 0], .int .i64 ((0 : Nat) : Int), .int .i64 4]) (by simp [results, go_sem, C]) rfl ?_
              exact ⟨⟨_, rfl, Bs.nil _⟩, H.low⟩
            | false =>
              by_cases h3 : l.length < p + z
              · have hR := hR.trans (rdTo_end hct h3)
                subst hR
                have hz' : decide ((l.length : Int) - (p : Int) < (z : Int)) = true := by simp; omega
                clear hct h3
                (repeat' ((fail_if_success (with_reducible show bodyPost _ _ _ _ _ _)); first | ((with_reducible refine Hp.abs_alloc H ?_); intro b' w' H' hb'; (try simp only [hb']); clear hb'; ((try simp only [z0, z1, z2] at H'); clear C H; have H := H'; clear H'; have C := Hp.facts H; simp only [Facts, factsL, and_true, true_and, z0, z1, z2] at C)) | ((with_reducible show wpList _ _ _ _ _ (World.setCell _ _ _)); (with_reducible apply Hp.abs_gen H); (first | ((repeat (with_reducible apply Hp.set' 0)); (with_reducible exact H); (repeat rfl); intro w' H') | ((repeat (with_reducible apply Hp.set' 1)); (with_reducible exact H); (repeat rfl); intro w' H') | ((repeat (with_reducible apply Hp.set' 2)); (with_reducible exact H); (repeat rfl); intro w' H') | ((repeat (with_reducible apply Hp.set' 3)); (with_reducible exact H); (repeat rfl); intro w' H') | ((repeat (with_reducible apply Hp.set' 4)); (with_reducible exact H); (repeat rfl); intro w' H') | ((repeat (with_reducible apply Hp.set' 5)); (with_reducible exact H); (repeat rfl); intro w' H') | ((repeat (with_reducible apply Hp.set' 6)); (with_reducible exact H); (repeat rfl); intro w' H') | ((repeat (with_reducible apply Hp.set' 7)); (with_reducible exact H); (repeat rfl); intro w' H')); ((try simp only [z0, z1, z2] at H'); clear C H; have H := H'; clear H'; have C := Hp.facts H; simp only [Facts, factsL, and_true, true_and, z0, z1, z2] at C)) | go_values | go_skip | go_guarded | go_step | go_upon | go_back | (simp only [Int.not_lt, Int.not_le] at *; go_simp) | (go_values <;> (try go_simp)) | (go_ite <;> go_prune <;> (try go_simp)) | (split <;> (first | (rename_i hx; exact (hx _ rfl).elim) | go_prune))))
                refine bodyPost_ret (v := .tuple #[.agg #[.int .i64 0, .slice none 0 0], .int .i64 ((0 : Nat) : Int), .int .i64 3]) (by simp [results, go_sem, C]) rfl ?_
                exact ⟨⟨_, rfl, Bs.nil _⟩, H.low⟩
              · have hcut := hcut (by omega)
                have hcut0 := hcut0 (by omega)
                have hX : ((l.drop p).take z).length = z := by rw [List.length_take, List.length_drop]; omega
                have hSg := fun w hb => rsigns_any n ((l.drop p).take z) (.slice (if ca = p then A else Option.map (fun x => x.add p) A) z (ca - p)) (by rw [hX]; omega) w hb
                have hz' : decide ((l.length : Int) - (p : Int) < (z : Int)) = false := by simp; omega
                have hpz : p + z ≤ l.length := by omega
                cases h4 : rightT n ((l.drop p).take z) with
                | false =>
                  have hR := hR.trans (rdTo_form hct h3 h4)
                  subst hR
                  rw [h4] at hSg
                  clear hct h3 h4
                  clear hX
                  obtain ⟨A5, hA5⟩ : ∃ A5, (if ca = p then A else Option.map (fun x => x.add p) A) = A5 := ⟨_, rfl⟩
                  rw [hA5] at hcut hcut0 hSg
                  have gA5 := Kp.mk hA5
                  clear hA5
                  (repeat' ((fail_if_success (with_reducible show bodyPost _ _ _ _ _ _)); first | ((with_reducible refine Hp.abs_alloc H ?_); intro b' w' H' hb'; (try simp only [hb']); clear hb'; ((try simp only [z0, z1, z2] at H'); clear C H; have H := H'; clear H'; have C := Hp.facts H; simp only [Facts, factsL, and_true, true_and, z0, z1, z2] at C)) | ((with_reducible show wpList _ _ _ _ _ (World.setCell _ _ _)); (with_reducible apply Hp.abs_gen H); (first | ((repeat (with_reducible apply Hp.set' 0)); (with_reducible exact H); (repeat rfl); intro w' H') | ((repeat (with_reducible apply Hp.set' 1)); (with_reducible exact H); (repeat rfl); intro w' H') | ((repeat (with_reducible apply Hp.set' 2)); (with_reducible exact H); (repeat rfl); intro w' H') | ((repeat (with_reducible apply Hp.set' 3)); (with_reducible exact H); (repeat rfl); intro w' H') | ((repeat (with_reducible apply Hp.set' 4)); (with_reducible exact H); (repeat rfl); intro w' H') | ((repeat (with_reducible apply Hp.set' 5)); (with_reducible exact H); (repeat rfl); intro w' H') | ((repeat (with_reducible apply Hp.set' 6)); (with_reducible exact H); (repeat rfl); intro w' H') | ((repeat (with_reducible apply Hp.set' 7)); (with_reducible exact H); (repeat rfl); intro w' H')); ((try simp only [z0, z1, z2] at H'); clear C H; have H := H'; clear H'; have C := Hp.facts H; simp only [Facts, factsL, and_true, true_and, z0, z1, z2] at C)) | go_values | go_skip | go_guarded | go_step | go_upon | go_back | (simp only [Int.not_lt, Int.not_le] at *; go_simp) | (go_values <;> (try go_simp)) | (go_ite <;> go_prune <;> (try go_simp)) | (split <;> (first | (rename_i hx; exact (hx _ rfl).elim) | go_prune))))
                  try simp (disch := omega) only [decide_eq_true, decide_eq_false]
                  obtain ⟨wR13xc, rfl⟩ := Hp.nameW H
                  apply region_n (frm wR13xc.heap.size (fun _ => Hp _ _)) (frm_ok ?hfs_1) frm_sz [] [.light 0 0, .light 0 0, .light 0 0, .light 0 0, .light 0 0, .light 0 0, .light 0 0, .light 0 0, .light 0 0, .light 0 0] [false, false, false, false, false, false, false, false, false, true] 10 98 [10, 10, 10, 10, 10, 10, 10, 10, 10, 10] [some 76, some 77, some 78, some 79, some 80, some 81, some 82, some 83, some 84, some 15] [[], [0], [], [], [], [], [4, 5], [2, 3, 6], [1, 7], []] [Eq1 _, Eq1 _, Eq1 _, Eq1 _, Eq1 _, Eq1 _, Eq1 (.int .i64 (((p + z : Nat)) : Int)), Eq1 (.slice A5 z (ca - p)), Eq1 _, NewPt wR13xc.heap.size _ _] ?hq1_1 ?hq2_1 ?hq3_1 ?hq4_1 ?hq5_1 ?hq6_1 _ ?hA_1 ?hst_1 ?h0_1 ?hsteps_1 ?hend_1
                  case hq1_1 => kernel_rfl
                  case hq2_1 => kernel_rfl
                  case hq3_1 => kernel_rfl
                  case hq5_1 => kernel_rfl
                  case hq4_1 => rfl
                  case hq6_1 => rfl
                  case hA_1 => intro vs; simp only [fillD, Nat.reduceAdd, Act.put, List.setIfInBounds_toArray, List.set_cons_zero, List.set_cons_succ]; rfl
                  case h0_1 => exact H.drew
                  case hfs_1 => exact fun _ _ _ hb h => Hp.step h hb
                  case hsteps_1 =>
                    refine ⟨?_, ?_, ?_, ?_, ?_, ?_, ?_, ?_, ?_, ?_, trivial⟩
                    · intro p vs w' K hJ hp1 hp2 hS hR hK
                      rw [if_pos (by rfl)]
                      go_step
                      exact hK.out _ _ (Below.refl _ _) Eq1.mk Fresh.no
                    · intro p vs w' K hJ hp1 hp2 hS hR hK
                      simp only [DepJ, List.getD_cons_zero, List.getD_cons_succ] at hJ
                      obtain ⟨j0, -⟩ := hJ
                      have j0 := Eq1.out j0
                      simp only [j0] at hK ⊢
                      rw [if_pos (by rfl)]
                      have C := Hp.facts hS
                      simp only [Facts, factsL, and_true, true_and, z0, z1, z2] at C
                      have hsz := hR.1
                      go_step
                      exact hK.out _ _ (Below.refl _ _) Eq1.mk Fresh.no
                    · intro p vs w' K hJ hp1 hp2 hS hR hK
                      rw [if_pos (by rfl)]
                      go_step
                      exact hK.out _ _ (Below.refl _ _) Eq1.mk Fresh.no
                    · intro p vs w' K hJ hp1 hp2 hS hR hK
                      rw [if_pos (by rfl)]
                      go_step
                      exact hK.out _ _ (Below.refl _ _) Eq1.mk Fresh.no
                    · intro p vs w' K hJ hp1 hp2 hS hR hK
                      rw [if_pos (by rfl)]
                      go_step
                      exact hK.out _ _ (Below.refl _ _) Eq1.mk Fresh.no
                    · intro p vs w' K hJ hp1 hp2 hS hR hK
                      rw [if_pos (by rfl)]
                      go_step
                      exact hK.out _ _ (Below.refl _ _) Eq1.mk Fresh.no
                    · intro p vs w' K hJ hp1 hp2 hS hR hK
                      simp only [DepJ, List.getD_cons_zero, List.getD_cons_succ] at hJ
                      obtain ⟨j4, j5, -⟩ := hJ
                      have j4 := Eq1.out j4
                      have j5 := Eq1.out j5
                      simp only [j4, j5] at hK ⊢
                      rw [if_pos (by rfl)]
                      go_step
                      exact hK.out _ _ (Below.refl _ _) (Eq1.of (by first | rfl | (simp; done) | (simp; omega))) Fresh.no
                    · intro p vs w' K hJ hp1 hp2 hS hR hK
                      simp only [DepJ, List.getD_cons_zero, List.getD_cons_succ] at hJ
                      obtain ⟨j2, j3, j6, -⟩ := hJ
                      have j2 := Eq1.out j2
                      have j3 := Eq1.out j3
                      have j6 := Eq1.out j6
                      simp only [j2, j3, j6] at hK ⊢
                      rw [if_pos (by rfl)]
                      go_step
                      exact hK.out _ _ (Below.refl _ _) (Eq1.of (by rw [Nat.add_sub_cancel_left, gA5.out])) Fresh.no
                    · intro p vs w' K hJ hp1 hp2 hS hR hK
                      simp only [DepJ, List.getD_cons_zero, List.getD_cons_succ] at hJ
                      obtain ⟨j1, j7, -⟩ := hJ
                      have j1 := Eq1.out j1
                      have j7 := Eq1.out j7
                      simp only [j1, j7] at hK ⊢
                      rw [if_pos (by rfl)]
                      go_step
                      exact hK.out _ _ (Below.refl _ _) Eq1.mk Fresh.no
                    · intro p vs w' K hJ hp1 hp2 hS hR hK
                      rw [if_pos (by rfl)]
                      go_step
                      exact hK.out _ _ ((Below.refl _ _).alloc (Nat.le_refl _) _) (NewPt.mk _ _ _ _ hR.1) Fresh.pt
                  case hst_1 => refine ⟨fun _ _ _ _ h => h, fun _ _ _ _ h => h, fun _ _ _ _ h => h, fun _ _ _ _ h => h, fun _ _ _ _ h => h, fun _ _ _ _ h => h, fun _ _ _ _ h => h, fun _ _ _ _ h => h, fun _ _ _ _ h => h, fun _ _ _ hs h => NewPt.stayR hs h, trivial⟩
                  intro vs w' hJ hD hS hR
                  simp only [AllJ, Nat.reduceAdd] at hJ
                  obtain ⟨v0, v1, v2, v3, v4, v5, v6, v7, v8, v9, -⟩ := hJ
                  clear C
                  replace v0 := Eq1.out v0
                  replace v1 := Eq1.out v1
                  replace v2 := Eq1.out v2
                  replace v3 := Eq1.out v3
                  replace v4 := Eq1.out v4
                  replace v5 := Eq1.out v5
                  replace v6 := Eq1.out v6
                  replace v7 := Eq1.out v7
                  replace v8 := Eq1.out v8
                  obtain ⟨k9, e9, hB9, hh9⟩ := v9
                  simp only [v0, v1, v2, v3, v4, v5, v6, v7, v8, e9, List.drop_succ_cons, List.drop_zero]
                  replace hS : Hp _ _ _ := hS
                  have H' := Hp.adopts hS H.low.size (fun k hk => Hp.lows H k hk) [.blk k9 _ _] (by intro x hx; simp only [List.mem_cons, List.not_mem_nil, or_false] at hx; subst hx; exact ⟨hh9, hB9⟩) (nodup1 _)
                  simp only [List.cons_append, List.nil_append] at H'
                  clear hD hR hS v0 v1 v2 v3 v4 v5 v6 v7 v8
                  clear e9 hB9 hh9
                  clear vs H
                  have H := H'; clear H'; have C := Hp.facts H; simp only [Facts, factsL, and_true, true_and, z0, z1, z2] at C
                  (repeat' ((fail_if_success (with_reducible show bodyPost _ _ _ _ _ _)); first | ((with_reducible refine Hp.abs_alloc H ?_); intro b' w' H' hb'; (try simp only [hb']); clear hb'; ((try simp only [z0, z1, z2] at H'); clear C H; have H := H'; clear H'; have C := Hp.facts H; simp only [Facts, factsL, and_true, true_and, z0, z1, z2] at C)) | ((with_reducible show wpList _ _ _ _ _ (World.setCell _ _ _)); (with_reducible apply Hp.abs_gen H); (first | ((repeat (with_reducible apply Hp.set' 0)); (with_reducible exact H); (repeat rfl); intro w' H') | ((repeat (with_reducible apply Hp.set' 1)); (with_reducible exact H); (repeat rfl); intro w' H') | ((repeat (with_reducible apply Hp.set' 2)); (with_reducible exact H); (repeat rfl); intro w' H') | ((repeat (with_reducible apply Hp.set' 3)); (with_reducible exact H); (repeat rfl); intro w' H') | ((repeat (with_reducible apply Hp.set' 4)); (with_reducible exact H); (repeat rfl); intro w' H') | ((repeat (with_reducible apply Hp.set' 5)); (with_reducible exact H); (repeat rfl); intro w' H') | ((repeat (with_reducible apply Hp.set' 6)); (with_reducible exact H); (repeat rfl); intro w' H') | ((repeat (with_reducible apply Hp.set' 7)); (with_reducible exact H); (repeat rfl); intro w' H')); ((try simp only [z0, z1, z2] at H'); clear C H; have H := H'; clear H'; have C := Hp.facts H; simp only [Facts, factsL, and_true, true_and, z0, z1, z2] at C)) | go_values | go_skip | go_guarded | go_step | go_upon | go_back | (simp only [Int.not_lt, Int.not_le] at *; go_simp) | (go_values <;> (try go_simp)) | (go_ite <;> go_prune <;> (try go_simp)) | (split <;> (first | (rename_i hx; exact (hx _ rfl).elim) | go_prune))))
                  refine (hSg _ (H.bs hcut)).mono ?_
                  (rintro e' w' ⟨⟨v', rfl, ho⟩, hb'⟩; have H' := Hp.rowOf H hb' ho; obtain ⟨A3, c3, rfl⟩ := Go.LawLift.own_form ho; clear ho hb'; ((try simp only [z0, z1, z2] at H'); clear C H; have H := H'; clear H'; have C := Hp.facts H; simp only [Facts, factsL, and_true, true_and, z0, z1, z2] at C))
                  (repeat' ((fail_if_success (with_reducible show bodyPost _ _ _ _ _ _)); first | ((with_reducible refine Hp.abs_alloc H ?_); intro b' w' H' hb'; (try simp only [hb']); clear hb'; ((try simp only [z0, z1, z2] at H'); clear C H; have H := H'; clear H'; have C := Hp.facts H; simp only [Facts, factsL, and_true, true_and, z0, z1, z2] at C)) | ((with_reducible show wpList _ _ _ _ _ (World.setCell _ _ _)); (with_reducible apply Hp.abs_gen H); (first | ((repeat (with_reducible apply Hp.set' 0)); (with_reducible exact H); (repeat rfl); intro w' H') | ((repeat (with_reducible apply Hp.set' 1)); (with_reducible exact H); (repeat rfl); intro w' H') | ((repeat (with_reducible apply Hp.set' 2)); (with_reducible exact H); (repeat rfl); intro w' H') | ((repeat (with_reducible apply Hp.set' 3)); (with_reducible exact H); (repeat rfl); intro w' H') | ((repeat (with_reducible apply Hp.set' 4)); (with_reducible exact H); (repeat rfl); intro w' H') | ((repeat (with_reducible apply Hp.set' 5)); (with_reducible exact H); (repeat rfl); intro w' H') | ((repeat (with_reducible apply Hp.set' 6)); (with_reducible exact H); (repeat rfl); intro w' H') | ((repeat (with_reducible apply Hp.set' 7)); (with_reducible exact H); (repeat rfl); intro w' H')); ((try simp only [z0, z1, z2] at H'); clear C H; have H := H'; clear H'; have C := Hp.facts H; simp only [Facts, factsL, and_true, true_and, z0, z1, z2] at C)) | go_values | go_skip | go_guarded | go_step | go_upon | go_back | (simp only [Int.not_lt, Int.not_le] at *; go_simp) | (go_values <;> (try go_simp)) | (go_ite <;> go_prune <;> (try go_simp)) | (split <;> (first | (rename_i hx; exact (hx _ rfl).elim) | go_prune))))
                  refine bodyPost_ret (v := .tuple #[.agg #[.int .i64 0, .slice none 0 0], .int .i64 ((0 : Nat) : Int), .int .i64 6]) (by simp [results, go_sem, C]) rfl ?_
                  exact ⟨⟨_, rfl, Bs.nil _⟩, H.low⟩
                | true =>
                  have hR := hR.trans (rdTo_yes hct h3 h4)
                  subst hR
                  rw [h4] at hSg
                  clear hct h3 h4
                  clear hX
                  obtain ⟨A5, hA5⟩ : ∃ A5, (if ca = p then A else Option.map (fun x => x.add p) A) = A5 := ⟨_, rfl⟩
                  rw [hA5] at hcut hcut0 hSg
                  have gA5 := Kp.mk hA5
                  clear hA5
                  (repeat' ((fail_if_success (with_reducible show bodyPost _ _ _ _ _ _)); first | ((with_reducible refine Hp.abs_alloc H ?_); intro b' w' H' hb'; (try simp only [hb']); clear hb'; ((try simp only [z0, z1, z2] at H'); clear C H; have H := H'; clear H'; have C := Hp.facts H; simp only [Facts, factsL, and_true, true_and, z0, z1, z2] at C)) | ((with_reducible show wpList _ _ _ _ _ (World.setCell _ _ _)); (with_reducible apply Hp.abs_gen H); (first | ((repeat (with_reducible apply Hp.set' 0)); (with_reducible exact H); (repeat rfl); intro w' H') | ((repeat (with_reducible apply Hp.set' 1)); (with_reducible exact H); (repeat rfl); intro w' H') | ((repeat (with_reducible apply Hp.set' 2)); (with_reducible exact H); (repeat rfl); intro w' H') | ((repeat (with_reducible apply Hp.set' 3)); (with_reducible exact H); (repeat rfl); intro w' H') | ((repeat (with_reducible apply Hp.set' 4)); (with_reducible exact H); (repeat rfl); intro w' H') | ((repeat (with_reducible apply Hp.set' 5)); (with_reducible exact H); (repeat rfl); intro w' H') | ((repeat (with_reducible apply Hp.set' 6)); (with_reducible exact H); (repeat rfl); intro w' H') | ((repeat (with_reducible apply Hp.set' 7)); (with_reducible exact H); (repeat rfl); intro w' H')); ((try simp only [z0, z1, z2] at H'); clear C H; have H := H'; clear H'; have C := Hp.facts H; simp only [Facts, factsL, and_true, true_and, z0, z1, z2] at C)) | go_values | go_skip | go_guarded | go_step | go_upon | go_back | (simp only [Int.not_lt, Int.not_le] at *; go_simp) | (go_values <;> (try go_simp)) | (go_ite <;> go_prune <;> (try go_simp)) | (split <;> (first | (rename_i hx; exact (hx _ rfl).elim) | go_prune))))
                  try simp (disch := omega) only [decide_eq_true, decide_eq_false]
                  obtain ⟨wR13xd, rfl⟩ := Hp.nameW H
                  apply region_n (frm wR13xd.heap.size (fun _ => Hp _ _)) (frm_ok ?hfs_2) frm_sz [] [.light 0 0, .light 0 0, .light 0 0, .light 0 0, .light 0 0, .light 0 0, .light 0 0, .light 0 0, .light 0 0, .light 0 0] [false, false, false, false, false, false, false, false, false, true] 10 98 [10, 10, 10, 10, 10, 10, 10, 10, 10, 10] [some 76, some 77, some 78, some 79, some 80, some 81, some 82, some 83, some 84, some 15] [[], [0], [], [], [], [], [4, 5], [2, 3, 6], [1, 7], []] [Eq1 _, Eq1 _, Eq1 _, Eq1 _, Eq1 _, Eq1 _, Eq1 (.int .i64 (((p + z : Nat)) : Int)), Eq1 (.slice A5 z (ca - p)), Eq1 _, NewPt wR13xd.heap.size _ _] ?hq1_2 ?hq2_2 ?hq3_2 ?hq4_2 ?hq5_2 ?hq6_2 _ ?hA_2 ?hst_2 ?h0_2 ?hsteps_2 ?hend_2
                  case hq1_2 => kernel_rfl
                  case hq2_2 => kernel_rfl
                  case hq3_2 => kernel_rfl
                  case hq5_2 => kernel_rfl
                  case hq4_2 => rfl
                  case hq6_2 => rfl
                  case hA_2 => intro vs; simp only [fillD, Nat.reduceAdd, Act.put, List.setIfInBounds_toArray, List.set_cons_zero, List.set_cons_succ]; rfl
                  case h0_2 => exact H.drew
                  case hfs_2 => exact fun _ _ _ hb h => Hp.step h hb
                  case hsteps_2 =>
                    refine ⟨?_, ?_, ?_, ?_, ?_, ?_, ?_, ?_, ?_, ?_, trivial⟩
                    · intro p vs w' K hJ hp1 hp2 hS hR hK
                      rw [if_pos (by rfl)]
                      go_step
                      exact hK.out _ _ (Below.refl _ _) Eq1.mk Fresh.no
                    · intro p vs w' K hJ hp1 hp2 hS hR hK
                      simp only [DepJ, List.getD_cons_zero, List.getD_cons_succ] at hJ
                      obtain ⟨j0, -⟩ := hJ
                      have j0 := Eq1.out j0
                      simp only [j0] at hK ⊢
                      rw [if_pos (by rfl)]
                      have C := Hp.facts hS
                      simp only [Facts, factsL, and_true, true_and, z0, z1, z2] at C
                      have hsz := hR.1
                      go_step
                      exact hK.out _ _ (Below.refl _ _) Eq1.mk Fresh.no
                    · intro p vs w' K hJ hp1 hp2 hS hR hK
                      rw [if_pos (by rfl)]
                      go_step
                      exact hK.out _ _ (Below.refl _ _) Eq1.mk Fresh.no
                    · intro p vs w' K hJ hp1 hp2 hS hR hK
                      rw [if_pos (by rfl)]
                      go_step
                      exact hK.out _ _ (Below.refl _ _) Eq1.mk Fresh.no
                    · intro p vs w' K hJ hp1 hp2 hS hR hK
                      rw [if_pos (by rfl)]
                      go_step
                      exact hK.out _ _ (Below.refl _ _) Eq1.mk Fresh.no
                    · intro p vs w' K hJ hp1 hp2 hS hR hK
                      rw [if_pos (by rfl)]
                      go_step
                      exact hK.out _ _ (Below.refl _ _) Eq1.mk Fresh.no
                    · intro p vs w' K hJ hp1 hp2 hS hR hK
                      simp only [DepJ, List.getD_cons_zero, List.getD_cons_succ] at hJ
                      obtain ⟨j4, j5, -⟩ := hJ
                      have j4 := Eq1.out j4
                      have j5 := Eq1.out j5
                      simp only [j4, j5] at hK ⊢
                      rw [if_pos (by rfl)]
                      go_step
                      exact hK.out _ _ (Below.refl _ _) (Eq1.of (by first | rfl | (simp; done) | (simp; omega))) Fresh.no
                    · intro p vs w' K hJ hp1 hp2 hS hR hK
                      simp only [DepJ, List.getD_cons_zero, List.getD_cons_succ] at hJ
                      obtain ⟨j2, j3, j6, -⟩ := hJ
                      have j2 := Eq1.out j2
                      have j3 := Eq1.out j3
                      have j6 := Eq1.out j6
                      simp only [j2, j3, j6] at hK ⊢
                      rw [if_pos (by rfl)]
                      go_step
                      exact hK.out _ _ (Below.refl _ _) (Eq1.of (by rw [Nat.add_sub_cancel_left, gA5.out])) Fresh.no
                    · intro p vs w' K hJ hp1 hp2 hS hR hK
                      simp only [DepJ, List.getD_cons_zero, List.getD_cons_succ] at hJ
                      obtain ⟨j1, j7, -⟩ := hJ
                      have j1 := Eq1.out j1
                      have j7 := Eq1.out j7
                      simp only [j1, j7] at hK ⊢
                      rw [if_pos (by rfl)]
                      go_step
                      exact hK.out _ _ (Below.refl _ _) Eq1.mk Fresh.no
                    · intro p vs w' K hJ hp1 hp2 hS hR hK
                      rw [if_pos (by rfl)]
                      go_step
                      exact hK.out _ _ ((Below.refl _ _).alloc (Nat.le_refl _) _) (NewPt.mk _ _ _ _ hR.1) Fresh.pt
                  case hst_2 => refine ⟨fun _ _ _ _ h => h, fun _ _ _ _ h => h, fun _ _ _ _ h => h, fun _ _ _ _ h => h, fun _ _ _ _ h => h, fun _ _ _ _ h => h, fun _ _ _ _ h => h, fun _ _ _ _ h => h, fun _ _ _ _ h => h, fun _ _ _ hs h => NewPt.stayR hs h, trivial⟩
                  intro vs w' hJ hD hS hR
                  simp only [AllJ, Nat.reduceAdd] at hJ
                  obtain ⟨v0, v1, v2, v3, v4, v5, v6, v7, v8, v9, -⟩ := hJ
                  clear C
                  replace v0 := Eq1.out v0
                  replace v1 := Eq1.out v1
                  replace v2 := Eq1.out v2
                  replace v3 := Eq1.out v3
                  replace v4 := Eq1.out v4
                  replace v5 := Eq1.out v5
                  replace v6 := Eq1.out v6
                  replace v7 := Eq1.out v7
                  replace v8 := Eq1.out v8
                  obtain ⟨k9, e9, hB9, hh9⟩ := v9
                  simp only [v0, v1, v2, v3, v4, v5, v6, v7, v8, e9, List.drop_succ_cons, List.drop_zero]
                  replace hS : Hp _ _ _ := hS
                  have H' := Hp.adopts hS H.low.size (fun k hk => Hp.lows H k hk) [.blk k9 _ _] (by intro x hx; simp only [List.mem_cons, List.not_mem_nil, or_false] at hx; subst hx; exact ⟨hh9, hB9⟩) (nodup1 _)
                  simp only [List.cons_append, List.nil_append] at H'
                  clear hD hR hS v0 v1 v2 v3 v4 v5 v6 v7 v8
                  clear e9 hB9 hh9
                  clear vs H
                  have H := H'; clear H'; have C := Hp.facts H; simp only [Facts, factsL, and_true, true_and, z0, z1, z2] at C
                  (repeat' ((fail_if_success (with_reducible show bodyPost _ _ _ _ _ _)); first | ((with_reducible refine Hp.abs_alloc H ?_); intro b' w' H' hb'; (try simp only [hb']); clear hb'; ((try simp only [z0, z1, z2] at H'); clear C H; have H := H'; clear H'; have C := Hp.facts H; simp only [Facts, factsL, and_true, true_and, z0, z1, z2] at C)) | ((with_reducible show wpList _ _ _ _ _ (World.setCell _ _ _)); (with_reducible apply Hp.abs_gen H); (first | ((repeat (with_reducible apply Hp.set' 0)); (with_reducible exact H); (repeat rfl); intro w' H') | ((repeat (with_reducible apply Hp.set' 1)); (with_reducible exact H); (repeat rfl); intro w' H') | ((repeat (with_reducible apply Hp.set' 2)); (with_reducible exact H); (repeat rfl); intro w' H') | ((repeat (with_reducible apply Hp.set' 3)); (with_reducible exact H); (repeat rfl); intro w' H') | ((repeat (with_reducible apply Hp.set' 4)); (with_reducible exact H); (repeat rfl); intro w' H') | ((repeat (with_reducible apply Hp.set' 5)); (with_reducible exact H); (repeat rfl); intro w' H') | ((repeat (with_reducible apply Hp.set' 6)); (with_reducible exact H); (repeat rfl); intro w' H') | ((repeat (with_reducible apply Hp.set' 7)); (with_reducible exact H); (repeat rfl); intro w' H')); ((try simp only [z0, z1, z2] at H'); clear C H; have H := H'; clear H'; have C := Hp.facts H; simp only [Facts, factsL, and_true, true_and, z0, z1, z2] at C)) | go_values | go_skip | go_guarded | go_step | go_upon | go_back | (simp only [Int.not_lt, Int.not_le] at *; go_simp) | (go_values <;> (try go_simp)) | (go_ite <;> go_prune <;> (try go_simp)) | (split <;> (first | (rename_i hx; exact (hx _ rfl).elim) | go_prune))))
                  refine (hSg _ (H.bs hcut)).mono ?_
                  (rintro e' w' ⟨⟨v', rfl, ho⟩, hb'⟩; have H' := Hp.rowOf H hb' ho; obtain ⟨A3, c3, rfl⟩ := Go.LawLift.own_form ho; clear ho hb'; ((try simp only [z0, z1, z2] at H'); clear C H; have H := H'; clear H'; have C := Hp.facts H; simp only [Facts, factsL, and_true, true_and, z0, z1, z2] at C))
                  (repeat' ((fail_if_success (with_reducible show bodyPost _ _ _ _ _ _)); first | ((with_reducible refine Hp.abs_alloc H ?_); intro b' w' H' hb'; (try simp only [hb']); clear hb'; ((try simp only [z0, z1, z2] at H'); clear C H; have H := H'; clear H'; have C := Hp.facts H; simp only [Facts, factsL, and_true, true_and, z0, z1, z2] at C)) | ((with_reducible show wpList _ _ _ _ _ (World.setCell _ _ _)); (with_reducible apply Hp.abs_gen H); (first | ((repeat (with_reducible apply Hp.set' 0)); (with_reducible exact H); (repeat rfl); intro w' H') | ((repeat (with_reducible apply Hp.set' 1)); (with_reducible exact H); (repeat rfl); intro w' H') | ((repeat (with_reducible apply Hp.set' 2)); (with_reducible exact H); (repeat rfl); intro w' H') | ((repeat (with_reducible apply Hp.set' 3)); (with_reducible exact H); (repeat rfl); intro w' H') | ((repeat (with_reducible apply Hp.set' 4)); (with_reducible exact H); (repeat rfl); intro w' H') | ((repeat (with_reducible apply Hp.set' 5)); (with_reducible exact H); (repeat rfl); intro w' H') | ((repeat (with_reducible apply Hp.set' 6)); (with_reducible exact H); (repeat rfl); intro w' H') | ((repeat (with_reducible apply Hp.set' 7)); (with_reducible exact H); (repeat rfl); intro w' H')); ((try simp only [z0, z1, z2] at H'); clear C H; have H := H'; clear H'; have C := Hp.facts H; simp only [Facts, factsL, and_true, true_and, z0, z1, z2] at C)) | go_values | go_skip | go_guarded | go_step | go_upon | go_back | (simp only [Int.not_lt, Int.not_le] at *; go_simp) | (go_values <;> (try go_simp)) | (go_ite <;> go_prune <;> (try go_simp)) | (split <;> (first | (rename_i hx; exact (hx _ rfl).elim) | go_prune))))
                  refine bodyPost_ret (v := .tuple #[.agg #[.int .i64 n, .slice A5 z (ca - p)], .int .i64 ((p + z : Nat) : Int), .int .i64 0]) (by simp [results, go_sem, C]) rfl ?_
                  exact ⟨⟨_, rfl, hcut0⟩, H.low⟩
          · have hR := hR.trans (rdTo_tag (.inl h1))
            subst hR
            have e0 : ((c : Int) != 0) = true := by simp; exact h1
            clear h1 hct
            (repeat' ((fail_if_success (with_reducible show bodyPost _ _ _ _ _ _)); first | ((with_reducible refine Hp.abs_alloc H ?_); intro b' w' H' hb'; (try simp only [hb']); clear hb'; ((try simp only [z0, z1, z2] at H'); clear C H; have H := H'; clear H'; have C := Hp.facts H; simp only [Facts, factsL, and_true, true_and, z0, z1, z2] at C)) | ((with_reducible show wpList _ _ _ _ _ (World.setCell _ _ _)); (with_reducible apply Hp.abs_gen H); (first | ((repeat (with_reducible apply Hp.set' 0)); (with_reducible exact H); (repeat rfl); intro w' H') | ((repeat (with_reducible apply Hp.set' 1)); (with_reducible exact H); (repeat rfl); intro w' H') | ((repeat (with_reducible apply Hp.set' 2)); (with_reducible exact H); (repeat rfl); intro w' H') | ((repeat (with_reducible apply Hp.set' 3)); (with_reducible exact H); (repeat rfl); intro w' H') | ((repeat (with_reducible apply Hp.set' 4)); (with_reducible exact H); (repeat rfl); intro w' H') | ((repeat (with_reducible apply Hp.set' 5)); (with_reducible exact H); (repeat rfl); intro w' H') | ((repeat (with_reducible apply Hp.set' 6)); (with_reducible exact H); (repeat rfl); intro w' H') | ((repeat (with_reducible apply Hp.set' 7)); (with_reducible exact H); (repeat rfl); intro w' H')); ((try simp only [z0, z1, z2] at H'); clear C H; have H := H'; clear H'; have C := Hp.facts H; simp only [Facts, factsL, and_true, true_and, z0, z1, z2] at C)) | go_values | go_skip | go_guarded | go_step | go_upon | go_back | (simp only [Int.not_lt, Int.not_le] at *; go_simp) | (go_values <;> (try go_simp)) | (go_ite <;> go_prune <;> (try go_simp)) | (split <;> (first | (rename_i hx; exact (hx _ rfl).elim) | go_prune))))
            refine bodyPost_ret (v := .tuple #[.agg #[.int .i64 0, .slice none 0 0], .int .i64 ((0 : Nat) : Int), .int .i64 4]) (by simp [results, go_sem, C]) rfl ?_
            exact ⟨⟨_, rfl, Bs.nil _⟩, H.low⟩
  · have hR := hR.trans (rdTo_er h0)
    subst hR
    have e0 : ((er : Int) != 0) = true := by simp; omega
    (repeat' ((fail_if_success (with_reducible show bodyPost _ _ _ _ _ _)); first | ((with_reducible refine Hp.abs_alloc H ?_); intro b' w' H' hb'; (try simp only [hb']); clear hb'; ((try simp only [z0, z1, z2] at H'); clear C H; have H := H'; clear H'; have C := Hp.facts H; simp only [Facts, factsL, and_true, true_and, z0, z1, z2] at C)) | ((with_reducible show wpList _ _ _ _ _ (World.setCell _ _ _)); (with_reducible apply Hp.abs_gen H); (first | ((repeat (with_reducible apply Hp.set' 0)); (with_reducible exact H); (repeat rfl); intro w' H') | ((repeat (with_reducible apply Hp.set' 1)); (with_reducible exact H); (repeat rfl); intro w' H') | ((repeat (with_reducible apply Hp.set' 2)); (with_reducible exact H); (repeat rfl); intro w' H') | ((repeat (with_reducible apply Hp.set' 3)); (with_reducible exact H); (repeat rfl); intro w' H') | ((repeat (with_reducible apply Hp.set' 4)); (with_reducible exact H); (repeat rfl); intro w' H') | ((repeat (with_reducible apply Hp.set' 5)); (with_reducible exact H); (repeat rfl); intro w' H') | ((repeat (with_reducible apply Hp.set' 6)); (with_reducible exact H); (repeat rfl); intro w' H') | ((repeat (with_reducible apply Hp.set' 7)); (with_reducible exact H); (repeat rfl); intro w' H')); ((try simp only [z0, z1, z2] at H'); clear C H; have H := H'; clear H'; have C := Hp.facts H; simp only [Facts, factsL, and_true, true_and, z0, z1, z2] at C)) | go_values | go_skip | go_guarded | go_step | go_upon | go_back | (simp only [Int.not_lt, Int.not_le] at *; go_simp) | (go_values <;> (try go_simp)) | (go_ite <;> go_prune <;> (try go_simp)) | (split <;> (first | (rename_i hx; exact (hx _ rfl).elim) | go_prune))))
    refine bodyPost_ret (v := .tuple #[.agg #[.int .i64 0, .slice none 0 0], .int .i64 ((0 : Nat) : Int), .int .i64 er]) (by simp [results, go_sem, C]) rfl ?_
    exact ⟨⟨_, rfl, Bs.nil _⟩, H.low⟩
set_option maxHeartbeats 16000000 in
theorem rread_some (l : List UInt8) (v : Value) (ks : List Int) (kv : Value) (hks0 : ks ≠ []) (hl : l.length ≤ 100000) (hks : ks.length ≤ 1000000) (w0 : World) (hb0 : Bs w0 v l) (w : World) (hb : Bs w v l) (hZ : Zs w kv ks) :
    Calls Tryd.prog 31 #[v, .int .i64 0, kv] w (RRd w0 w (rdT l 0 ks)) := by
  have hR : rdT l 0 ks = rdTo (rdHead l 0) l 0 (ksOf ks) := rfl
  have hle := @rdHead_le l 0 (Nat.zero_le _)
  have hE := Kp.mk (@rdHead_err l 0)
  have hRd := fun w h => rHead_any l v 0 (Nat.zero_le _) (by omega) w h
  have hend := fun n => okAt_end ks n
  generalize rdT l 0 ks = R at *
  generalize rdHead l 0 = D at *
  generalize ksOf ks = KS at *
  obtain ⟨⟨c, n, m⟩, z, er, p⟩ := D
  simp only at hle
  have hp2 : p ≤ l.length := by omega
  clear hle
  have hK := rkind_any n
  obtain ⟨A, ca, rfl, hlc, hcm, hA, -⟩ := id hb.open
  have hcut := fun (h : p + z ≤ l.length) => hb.cut p z h
  have hcut0 := fun (h : p + z ≤ l.length) => hb0.cut p z h
  obtain ⟨A0, c0, rfl, hz1, hz2, hz3, hcell⟩ := id hZ.openK
  have H := Hp.start w
  have C : True := trivial
  go_enter Tryd.func31, Tryd.ntmps31
  (repeat' ((fail_if_success (with_reducible show bodyPost _ _ _ _ _ _)); first | ((with_reducible refine Hp.abs_alloc H ?_); intro b' w' H' hb'; (try simp only [hb']); clear hb'; ((try simp only [z0, z1, z2] at H'); clear C H; have H := H'; clear H'; have C := Hp.facts H; simp only [Facts, factsL, and_true, true_and, z0, z1, z2] at C)) | ((with_reducible show wpList _ _ _ _ _ (World.setCell _ _ _)); (with_reducible apply Hp.abs_gen H); (first | ((repeat (with_reducible apply Hp.set' 0)); (with_reducible exact H); (repeat rfl); intro w' H') | ((repeat (with_reducible apply Hp.set' 1)); (with_reducible exact H); (repeat rfl); intro w' H') | ((repeat (with_reducible apply Hp.set' 2)); (with_reducible exact H); (repeat rfl); intro w' H') | ((repeat (with_reducible apply Hp.set' 3)); (with_reducible exact H); (repeat rfl); intro w' H') | ((repeat (with_reducible apply Hp.set' 4)); (with_reducible exact H); (repeat rfl); intro w' H') | ((repeat (with_reducible apply Hp.set' 5)); (with_reducible exact H); (repeat rfl); intro w' H') | ((repeat (with_reducible apply Hp.set' 6)); (with_reducible exact H); (repeat rfl); intro w' H') | ((repeat (with_reducible apply Hp.set' 7)); (with_reducible exact H); (repeat rfl); intro w' H')); ((try simp only [z0, z1, z2] at H'); clear C H; have H := H'; clear H'; have C := Hp.facts H; simp only [Facts, factsL, and_true, true_and, z0, z1, z2] at C)) | go_values | go_skip | go_guarded | go_step | go_upon | go_back | (simp only [Int.not_lt, Int.not_le] at *; go_simp) | (go_values <;> (try go_simp)) | (go_ite <;> go_prune <;> (try go_simp)) | (split <;> (first | (rename_i hx; exact (hx _ rfl).elim) | go_prune))))
  refine (hRd _ (H.bs hb)).mono ?_
  rintro e' w' ⟨rfl, hb'⟩
  simp only
  (have H' := Hp.step H hb'; clear hb'; ((try simp only [z0, z1, z2] at H'); clear C H; have H := H'; clear H'; have C := Hp.facts H; simp only [Facts, factsL, and_true, true_and, z0, z1, z2] at C))
  clear hRd
  by_cases h0 : er = 0
  · subst h0
    have gk := Kp.mk (show okAt ks n 0 = false by unfold okAt; rw [if_neg hks0]; rfl)
    have hl0 : 0 < ks.length := List.length_pos_iff.2 hks0
    have hl1 : ((ks.length : Int) == 0) = false := by simp; omega
    clear hks0
    (repeat' ((fail_if_success (with_reducible show bodyPost _ _ _ _ _ _)); first | ((with_reducible refine Hp.abs_alloc H ?_); intro b' w' H' hb'; (try simp only [hb']); clear hb'; ((try simp only [z0, z1, z2] at H'); clear C H; have H := H'; clear H'; have C := Hp.facts H; simp only [Facts, factsL, and_true, true_and, z0, z1, z2] at C)) | ((with_reducible show wpList _ _ _ _ _ (World.setCell _ _ _)); (with_reducible apply Hp.abs_gen H); (first | ((repeat (with_reducible apply Hp.set' 0)); (with_reducible exact H); (repeat rfl); intro w' H') | ((repeat (with_reducible apply Hp.set' 1)); (with_reducible exact H); (repeat rfl); intro w' H') | ((repeat (with_reducible apply Hp.set' 2)); (with_reducible exact H); (repeat rfl); intro w' H') | ((repeat (with_reducible apply Hp.set' 3)); (with_reducible exact H); (repeat rfl); intro w' H') | ((repeat (with_reducible apply Hp.set' 4)); (with_reducible exact H); (repeat rfl); intro w' H') | ((repeat (with_reducible apply Hp.set' 5)); (with_reducible exact H); (repeat rfl); intro w' H') | ((repeat (with_reducible apply Hp.set' 6)); (with_reducible exact H); (repeat rfl); intro w' H') | ((repeat (with_reducible apply Hp.set' 7)); (with_reducible exact H); (repeat rfl); intro w' H')); ((try simp only [z0, z1, z2] at H'); clear C H; have H := H'; clear H'; have C := Hp.facts H; simp only [Facts, factsL, and_true, true_and, z0, z1, z2] at C)) | go_values | go_skip | go_guarded | go_step | go_upon | go_back | (simp only [Int.not_lt, Int.not_le] at *; go_simp) | (go_values <;> (try go_simp)) | (go_ite <;> go_prune <;> (try go_simp)) | (split <;> (first | (rename_i hx; exact (hx _ rfl).elim) | go_prune))))
    (obtain ⟨t, rfl⟩ := Hp.name H 0 rfl; obtain ⟨r, rfl⟩ := Hp.name H 1 rfl)
    go_loopw [13, 14] (fun ok ix wr => ∃ i : Nat, i ≤ ks.length ∧ ix = .int .i64 i ∧ ok = .bool (okAt ks n i) ∧ Hp w [.blk t #[.int .i64 c, .int .i64 n, .bool m] 56, .blk r #[.int .i64 0, .slice none 0 0] 24] wr) (fun _ ix _ => ks.length - (intOf ix).toNat)
    case atStart => exact ⟨0, Nat.zero_le _, rfl, by rw [gk.out], H⟩
    case round =>
      clear H C
      obtain ⟨i, hi1, rfl, rfl, H⟩ := hrel
      have C := Hp.facts H
      simp only [Facts, factsL, and_true, true_and, z0, z1, z2] at C
      clear gk hl1
      by_cases hlt : i < ks.length
      · obtain ⟨b, o, rfl, hgl, hcl⟩ := hcell i hlt
        have hb0 := hcl i hlt
        have hn := Kp.mk (@okAt_step ks n i hlt)
        clear hcl hcell hend hK hcut hcut0 hE hl0 hR hZ
        obtain ⟨ok2, h2⟩ : ∃ ok2, okAt ks n (i + 1) = ok2 := ⟨_, rfl⟩
        rw [h2] at hn
        have g2 := Kp.mk h2
        clear h2
        generalize okAt ks n i = ok1 at *
        generalize ks[i] = x at *
        (repeat' ((fail_if_success (with_reducible show bodyPost _ _ _ _ _ _)); first | ((with_reducible refine Hp.abs_alloc H ?_); intro b' w' H' hb'; (try simp only [hb']); clear hb'; ((try simp only [z0, z1, z2] at H'); clear C H; have H := H'; clear H'; have C := Hp.facts H; simp only [Facts, factsL, and_true, true_and, z0, z1, z2] at C)) | ((with_reducible show wpList _ _ _ _ _ (World.setCell _ _ _)); (with_reducible apply Hp.abs_gen H); (first | ((repeat (with_reducible apply Hp.set' 0)); (with_reducible exact H); (repeat rfl); intro w' H') | ((repeat (with_reducible apply Hp.set' 1)); (with_reducible exact H); (repeat rfl); intro w' H') | ((repeat (with_reducible apply Hp.set' 2)); (with_reducible exact H); (repeat rfl); intro w' H') | ((repeat (with_reducible apply Hp.set' 3)); (with_reducible exact H); (repeat rfl); intro w' H') | ((repeat (with_reducible apply Hp.set' 4)); (with_reducible exact H); (repeat rfl); intro w' H') | ((repeat (with_reducible apply Hp.set' 5)); (with_reducible exact H); (repeat rfl); intro w' H') | ((repeat (with_reducible apply Hp.set' 6)); (with_reducible exact H); (repeat rfl); intro w' H') | ((repeat (with_reducible apply Hp.set' 7)); (with_reducible exact H); (repeat rfl); intro w' H')); ((try simp only [z0, z1, z2] at H'); clear C H; have H := H'; clear H'; have C := Hp.facts H; simp only [Facts, factsL, and_true, true_and, z0, z1, z2] at C)) | go_values | go_skip | go_guarded | go_step | go_upon | go_back | (simp only [Int.not_lt, Int.not_le] at *; go_simp) | (go_values <;> (try go_simp)) | (go_ite <;> go_prune <;> (try go_simp)) | (split <;> (first | (rename_i hx; exact (hx _ rfl).elim) | go_prune))))
        have hv : ok2 = okV ok1 x n := hn.out
        clear hn
        cases ok1
        · replace hv : ok2 = (x == n) := hv
          subst hv
          try simp (disch := omega) only [decide_eq_true, decide_eq_false]
          obtain ⟨wR8ya, rfl⟩ := Hp.nameW H
          apply region_n (frm wR8ya.heap.size (fun _ => Hp _ _)) (frm_ok ?hfs_3) frm_sz [] [.light 0 0, .light 0 0, .light 0 0, .light 0 0, .light 0 0, .light 0 0, .light 0 0, .light 0 0, .light 0 0, .light 0 0] [false, false, false, false, false, false, false, false, false, false] 10 98 [10, 10, 10, 10, 10, 10, 10, 10, 10, 10] [some 45, some 46, some 47, some 48, some 49, some 50, some 51, some 52, some 53, some 54] [[], [0], [1], [1], [1, 2, 3], [1, 4], [1], [1, 6], [1, 5, 7], [1, 8]] [Eq1 _, Eq1 (.bool false), Eq1 _, Eq1 _, Eq1 _, Eq1 _, Eq1 _, Eq1 _, Eq1 _, Eq1 _] ?hq1_3 ?hq2_3 ?hq3_3 ?hq4_3 ?hq5_3 ?hq6_3 _ ?hA_3 ?hst_3 ?h0_3 ?hsteps_3 ?hend_3
          case hq1_3 => kernel_rfl
          case hq2_3 => kernel_rfl
          case hq3_3 => kernel_rfl
          case hq5_3 => kernel_rfl
          case hq4_3 => rfl
          case hq6_3 => rfl
          case hA_3 => intro vs; simp only [fillD, Nat.reduceAdd, Act.put, List.setIfInBounds_toArray, List.set_cons_zero, List.set_cons_succ]; rfl
          case h0_3 => exact H.drew
          case hfs_3 => exact fun _ _ _ hb h => Hp.step h hb
          case hsteps_3 =>
            refine ⟨?_, ?_, ?_, ?_, ?_, ?_, ?_, ?_, ?_, ?_, trivial⟩
            · intro p vs w' K hJ hp1 hp2 hS hR hK
              rw [if_pos (by rfl)]
              go_step
              exact hK.out _ _ (Below.refl _ _) Eq1.mk Fresh.no
            · intro p vs w' K hJ hp1 hp2 hS hR hK
              simp only [DepJ, List.getD_cons_zero, List.getD_cons_succ] at hJ
              obtain ⟨j0, -⟩ := hJ
              have j0 := Eq1.out j0
              simp only [j0] at hK ⊢
              rw [if_pos (by rfl)]
              go_step
              exact hK.out _ _ (Below.refl _ _) (Eq1.of (by first | rfl | (simp; done) | (simp; omega))) Fresh.no
            · intro p vs w' K hJ hp1 hp2 hS hR hK
              simp only [DepJ, List.getD_cons_zero, List.getD_cons_succ] at hJ
              obtain ⟨j1, -⟩ := hJ
              have j1 := Eq1.out j1
              simp only [j1] at hK ⊢
              rw [if_pos (by rfl)]
              go_step
              exact hK.out _ _ (Below.refl _ _) Eq1.mk Fresh.no
            · intro p vs w' K hJ hp1 hp2 hS hR hK
              simp only [DepJ, List.getD_cons_zero, List.getD_cons_succ] at hJ
              obtain ⟨j1, -⟩ := hJ
              have j1 := Eq1.out j1
              simp only [j1] at hK ⊢
              rw [if_pos (by rfl)]
              go_step
              exact hK.out _ _ (Below.refl _ _) Eq1.mk Fresh.no
            · intro p vs w' K hJ hp1 hp2 hS hR hK
              simp only [DepJ, List.getD_cons_zero, List.getD_cons_succ] at hJ
              obtain ⟨j1, j2, j3, -⟩ := hJ
              have j1 := Eq1.out j1
              have j2 := Eq1.out j2
              have j3 := Eq1.out j3
              simp only [j1, j2, j3] at hK ⊢
              rw [if_pos (by rfl)]
              go_step
              exact hK.out _ _ (Below.refl _ _) Eq1.mk Fresh.no
            · intro p vs w' K hJ hp1 hp2 hS hR hK
              simp only [DepJ, List.getD_cons_zero, List.getD_cons_succ] at hJ
              obtain ⟨j1, j4, -⟩ := hJ
              have j1 := Eq1.out j1
              have j4 := Eq1.out j4
              simp only [j1, j4] at hK ⊢
              rw [if_pos (by rfl)]
              have C := Hp.facts hS
              simp only [Facts, factsL, and_true, true_and, z0, z1, z2] at C
              have hsz := hR.1
              go_step
              exact hK.out _ _ (Below.refl _ _) Eq1.mk Fresh.no
            · intro p vs w' K hJ hp1 hp2 hS hR hK
              simp only [DepJ, List.getD_cons_zero, List.getD_cons_succ] at hJ
              obtain ⟨j1, -⟩ := hJ
              have j1 := Eq1.out j1
              simp only [j1] at hK ⊢
              rw [if_pos (by rfl)]
              go_step
              exact hK.out _ _ (Below.refl _ _) Eq1.mk Fresh.no
            · intro p vs w' K hJ hp1 hp2 hS hR hK
              simp only [DepJ, List.getD_cons_zero, List.getD_cons_succ] at hJ
              obtain ⟨j1, j6, -⟩ := hJ
              have j1 := Eq1.out j1
              have j6 := Eq1.out j6
              simp only [j1, j6] at hK ⊢
              rw [if_pos (by rfl)]
              have C := Hp.facts hS
              simp only [Facts, factsL, and_true, true_and, z0, z1, z2] at C
              have hsz := hR.1
              go_step
              exact hK.out _ _ (Below.refl _ _) Eq1.mk Fresh.no
            · intro p vs w' K hJ hp1 hp2 hS hR hK
              simp only [DepJ, List.getD_cons_zero, List.getD_cons_succ] at hJ
              obtain ⟨j1, j5, j7, -⟩ := hJ
              have j1 := Eq1.out j1
              have j5 := Eq1.out j5
              have j7 := Eq1.out j7
              simp only [j1, j5, j7] at hK ⊢
              rw [if_pos (by rfl)]
              go_step
              exact hK.out _ _ (Below.refl _ _) Eq1.mk Fresh.no
            · intro p vs w' K hJ hp1 hp2 hS hR hK
              simp only [DepJ, List.getD_cons_zero, List.getD_cons_succ] at hJ
              obtain ⟨j1, j8, -⟩ := hJ
              have j1 := Eq1.out j1
              have j8 := Eq1.out j8
              simp only [j1, j8] at hK ⊢
              rw [if_pos (by rfl)]
              go_step
              exact hK.out _ _ (Below.refl _ _) Eq1.mk Fresh.no
          case hst_3 => refine ⟨fun _ _ _ _ h => h, fun _ _ _ _ h => h, fun _ _ _ _ h => h, fun _ _ _ _ h => h, fun _ _ _ _ h => h, fun _ _ _ _ h => h, fun _ _ _ _ h => h, fun _ _ _ _ h => h, fun _ _ _ _ h => h, fun _ _ _ _ h => h, trivial⟩
          intro vs w' hJ hD hS hR
          simp only [AllJ, Nat.reduceAdd] at hJ
          obtain ⟨v0, v1, v2, v3, v4, v5, v6, v7, v8, v9, -⟩ := hJ
          clear C
          replace v0 := Eq1.out v0
          replace v1 := Eq1.out v1
          replace v2 := Eq1.out v2
          replace v3 := Eq1.out v3
          replace v4 := Eq1.out v4
          replace v5 := Eq1.out v5
          replace v6 := Eq1.out v6
          replace v7 := Eq1.out v7
          replace v8 := Eq1.out v8
          replace v9 := Eq1.out v9
          simp only [v0, v1, v2, v3, v4, v5, v6, v7, v8, v9, List.drop_succ_cons, List.drop_zero]
          have H' : Hp _ _ _ := hS
          clear hD hR hS v0 v1 v2 v3 v4 v5 v6 v7 v8 v9
          clear vs H
          have H := H'; clear H'; have C := Hp.facts H; simp only [Facts, factsL, and_true, true_and, z0, z1, z2] at C
          (repeat' ((fail_if_success (with_reducible show bodyPost _ _ _ _ _ _)); first | ((with_reducible refine Hp.abs_alloc H ?_); intro b' w' H' hb'; (try simp only [hb']); clear hb'; ((try simp only [z0, z1, z2] at H'); clear C H; have H := H'; clear H'; have C := Hp.facts H; simp only [Facts, factsL, and_true, true_and, z0, z1, z2] at C)) | ((with_reducible show wpList _ _ _ _ _ (World.setCell _ _ _)); (with_reducible apply Hp.abs_gen H); (first | ((repeat (with_reducible apply Hp.set' 0)); (with_reducible exact H); (repeat rfl); intro w' H') | ((repeat (with_reducible apply Hp.set' 1)); (with_reducible exact H); (repeat rfl); intro w' H') | ((repeat (with_reducible apply Hp.set' 2)); (with_reducible exact H); (repeat rfl); intro w' H') | ((repeat (with_reducible apply Hp.set' 3)); (with_reducible exact H); (repeat rfl); intro w' H') | ((repeat (with_reducible apply Hp.set' 4)); (with_reducible exact H); (repeat rfl); intro w' H') | ((repeat (with_reducible apply Hp.set' 5)); (with_reducible exact H); (repeat rfl); intro w' H') | ((repeat (with_reducible apply Hp.set' 6)); (with_reducible exact H); (repeat rfl); intro w' H') | ((repeat (with_reducible apply Hp.set' 7)); (with_reducible exact H); (repeat rfl); intro w' H')); ((try simp only [z0, z1, z2] at H'); clear C H; have H := H'; clear H'; have C := Hp.facts H; simp only [Facts, factsL, and_true, true_and, z0, z1, z2] at C)) | go_values | go_skip | go_guarded | go_step | go_upon | go_back | (simp only [Int.not_lt, Int.not_le] at *; go_simp) | (go_values <;> (try go_simp)) | (go_ite <;> go_prune <;> (try go_simp)) | (split <;> (first | (rename_i hx; exact (hx _ rfl).elim) | go_prune))))
          exact ⟨⟨i + 1, by omega, by go_num, by rw [g2.out], H⟩, by simp [intOf]; omega⟩
        · replace hv : ok2 = true := hv
          subst hv
          try simp (disch := omega) only [decide_eq_true, decide_eq_false]
          obtain ⟨wR8yb, rfl⟩ := Hp.nameW H
          apply region_n (frm wR8yb.heap.size (fun _ => Hp _ _)) (frm_ok ?hfs_4) frm_sz [] [.light 0 0, .light 0 0, .light 0 0, .light 0 0, .light 0 0, .light 0 0, .light 0 0, .light 0 0, .light 0 0, .light 0 0] [false, false, false, false, false, false, false, false, false, false] 10 98 [10, 10, 10, 10, 10, 10, 10, 10, 10, 10] [some 45, some 46, some 47, some 48, some 49, some 50, some 51, some 52, some 53, some 54] [[], [0], [1], [1], [1, 2, 3], [1, 4], [1], [1, 6], [1, 5, 7], [1, 8]] [Eq1 _, Eq1 (.bool true), Eq1 _, Eq1 _, Eq1 _, Eq1 _, Eq1 _, Eq1 _, Eq1 _, Eq1 _] ?hq1_4 ?hq2_4 ?hq3_4 ?hq4_4 ?hq5_4 ?hq6_4 _ ?hA_4 ?hst_4 ?h0_4 ?hsteps_4 ?hend_4
          case hq1_4 => kernel_rfl
          case hq2_4 => kernel_rfl
          case hq3_4 => kernel_rfl
          case hq5_4 => kernel_rfl
          case hq4_4 => rfl
          case hq6_4 => rfl
          case hA_4 => intro vs; simp only [fillD, Nat.reduceAdd, Act.put, List.setIfInBounds_toArray, List.set_cons_zero, List.set_cons_succ]; rfl
          case h0_4 => exact H.drew
          case hfs_4 => exact fun _ _ _ hb h => Hp.step h hb
          case hsteps_4 =>
            refine ⟨?_, ?_, ?_, ?_, ?_, ?_, ?_, ?_, ?_, ?_, trivial⟩
            · intro p vs w' K hJ hp1 hp2 hS hR hK
              rw [if_pos (by rfl)]
              go_step
              exact hK.out _ _ (Below.refl _ _) Eq1.mk Fresh.no
            · intro p vs w' K hJ hp1 hp2 hS hR hK
              simp only [DepJ, List.getD_cons_zero, List.getD_cons_succ] at hJ
              obtain ⟨j0, -⟩ := hJ
              have j0 := Eq1.out j0
              simp only [j0] at hK ⊢
              rw [if_pos (by rfl)]
              go_step
              exact hK.out _ _ (Below.refl _ _) (Eq1.of (by first | rfl | (simp; done) | (simp; omega))) Fresh.no
            · intro p vs w' K hJ hp1 hp2 hS hR hK
              simp only [DepJ, List.getD_cons_zero, List.getD_cons_succ] at hJ
              obtain ⟨j1, -⟩ := hJ
              have j1 := Eq1.out j1
              simp only [j1] at hK ⊢
              rw [if_neg (by simp [Region.wanted, yielded, undef])]
              exact hK.out _ _ (Below.refl _ _) Eq1.mk Fresh.no
            · intro p vs w' K hJ hp1 hp2 hS hR hK
              simp only [DepJ, List.getD_cons_zero, List.getD_cons_succ] at hJ
              obtain ⟨j1, -⟩ := hJ
              have j1 := Eq1.out j1
              simp only [j1] at hK ⊢
              rw [if_neg (by simp [Region.wanted, yielded, undef])]
              exact hK.out _ _ (Below.refl _ _) Eq1.mk Fresh.no
            · intro p vs w' K hJ hp1 hp2 hS hR hK
              simp only [DepJ, List.getD_cons_zero, List.getD_cons_succ] at hJ
              obtain ⟨j1, j2, j3, -⟩ := hJ
              have j1 := Eq1.out j1
              have j2 := Eq1.out j2
              have j3 := Eq1.out j3
              simp only [j1, j2, j3] at hK ⊢
              rw [if_neg (by simp [Region.wanted, yielded, undef])]
              exact hK.out _ _ (Below.refl _ _) Eq1.mk Fresh.no
            · intro p vs w' K hJ hp1 hp2 hS hR hK
              simp only [DepJ, List.getD_cons_zero, List.getD_cons_succ] at hJ
              obtain ⟨j1, j4, -⟩ := hJ
              have j1 := Eq1.out j1
              have j4 := Eq1.out j4
              simp only [j1, j4] at hK ⊢
              rw [if_neg (by simp [Region.wanted, yielded, undef])]
              exact hK.out _ _ (Below.refl _ _) Eq1.mk Fresh.no
            · intro p vs w' K hJ hp1 hp2 hS hR hK
              simp only [DepJ, List.getD_cons_zero, List.getD_cons_succ] at hJ
              obtain ⟨j1, -⟩ := hJ
              have j1 := Eq1.out j1
              simp only [j1] at hK ⊢
              rw [if_neg (by simp [Region.wanted, yielded, undef])]
              exact hK.out _ _ (Below.refl _ _) Eq1.mk Fresh.no
            · intro p vs w' K hJ hp1 hp2 hS hR hK
              simp only [DepJ, List.getD_cons_zero, List.getD_cons_succ] at hJ
              obtain ⟨j1, j6, -⟩ := hJ
              have j1 := Eq1.out j1
              have j6 := Eq1.out j6
              simp only [j1, j6] at hK ⊢
              rw [if_neg (by simp [Region.wanted, yielded, undef])]
              exact hK.out _ _ (Below.refl _ _) Eq1.mk Fresh.no
            · intro p vs w' K hJ hp1 hp2 hS hR hK
              simp only [DepJ, List.getD_cons_zero, List.getD_cons_succ] at hJ
              obtain ⟨j1, j5, j7, -⟩ := hJ
              have j1 := Eq1.out j1
              have j5 := Eq1.out j5
              have j7 := Eq1.out j7
              simp only [j1, j5, j7] at hK ⊢
              rw [if_neg (by simp [Region.wanted, yielded, undef])]
              exact hK.out _ _ (Below.refl _ _) Eq1.mk Fresh.no
            · intro p vs w' K hJ hp1 hp2 hS hR hK
              simp only [DepJ, List.getD_cons_zero, List.getD_cons_succ] at hJ
              obtain ⟨j1, j8, -⟩ := hJ
              have j1 := Eq1.out j1
              have j8 := Eq1.out j8
              simp only [j1, j8] at hK ⊢
              rw [if_pos (by rfl)]
              go_step
              exact hK.out _ _ (Below.refl _ _) Eq1.mk Fresh.no
          case hst_4 => refine ⟨fun _ _ _ _ h => h, fun _ _ _ _ h => h, fun _ _ _ _ h => h, fun _ _ _ _ h => h, fun _ _ _ _ h => h, fun _ _ _ _ h => h, fun _ _ _ _ h => h, fun _ _ _ _ h => h, fun _ _ _ _ h => h, fun _ _ _ _ h => h, trivial⟩
          intro vs w' hJ hD hS hR
          simp only [AllJ, Nat.reduceAdd] at hJ
          obtain ⟨v0, v1, v2, v3, v4, v5, v6, v7, v8, v9, -⟩ := hJ
          clear C
          replace v0 := Eq1.out v0
          replace v1 := Eq1.out v1
          replace v2 := Eq1.out v2
          replace v3 := Eq1.out v3
          replace v4 := Eq1.out v4
          replace v5 := Eq1.out v5
          replace v6 := Eq1.out v6
          replace v7 := Eq1.out v7
          replace v8 := Eq1.out v8
          replace v9 := Eq1.out v9
          simp only [v0, v1, v2, v3, v4, v5, v6, v7, v8, v9, List.drop_succ_cons, List.drop_zero]
          have H' : Hp _ _ _ := hS
          clear hD hR hS v0 v1 v2 v3 v4 v5 v6 v7 v8 v9
          clear vs H
          have H := H'; clear H'; have C := Hp.facts H; simp only [Facts, factsL, and_true, true_and, z0, z1, z2] at C
          (repeat' ((fail_if_success (with_reducible show bodyPost _ _ _ _ _ _)); first | ((with_reducible refine Hp.abs_alloc H ?_); intro b' w' H' hb'; (try simp only [hb']); clear hb'; ((try simp only [z0, z1, z2] at H'); clear C H; have H := H'; clear H'; have C := Hp.facts H; simp only [Facts, factsL, and_true, true_and, z0, z1, z2] at C)) | ((with_reducible show wpList _ _ _ _ _ (World.setCell _ _ _)); (with_reducible apply Hp.abs_gen H); (first | ((repeat (with_reducible apply Hp.set' 0)); (with_reducible exact H); (repeat rfl); intro w' H') | ((repeat (with_reducible apply Hp.set' 1)); (with_reducible exact H); (repeat rfl); intro w' H') | ((repeat (with_reducible apply Hp.set' 2)); (with_reducible exact H); (repeat rfl); intro w' H') | ((repeat (with_reducible apply Hp.set' 3)); (with_reducible exact H); (repeat rfl); intro w' H') | ((repeat (with_reducible apply Hp.set' 4)); (with_reducible exact H); (repeat rfl); intro w' H') | ((repeat (with_reducible apply Hp.set' 5)); (with_reducible exact H); (repeat rfl); intro w' H') | ((repeat (with_reducible apply Hp.set' 6)); (with_reducible exact H); (repeat rfl); intro w' H') | ((repeat (with_reducible apply Hp.set' 7)); (with_reducible exact H); (repeat rfl); intro w' H')); ((try simp only [z0, z1, z2] at H'); clear C H; have H := H'; clear H'; have C := Hp.facts H; simp only [Facts, factsL, and_true, true_and, z0, z1, z2] at C)) | go_values | go_skip | go_guarded | go_step | go_upon | go_back | (simp only [Int.not_lt, Int.not_le] at *; go_simp) | (go_values <;> (try go_simp)) | (go_ite <;> go_prune <;> (try go_simp)) | (split <;> (first | (rename_i hx; exact (hx _ rfl).elim) | go_prune))))
          exact ⟨⟨i + 1, by omega, by go_num, by rw [g2.out], H⟩, by simp [intOf]; omega⟩
      · obtain rfl : i = ks.length := by omega
        rw [hend n]
        clear hcell hend hK hE hZ
        cases hct : List.contains KS n with
        | false =>
          have hR := hR.trans (rdTo_tag (.inr (.inr hct)))
          subst hR
          clear hct
          (repeat' ((fail_if_success (with_reducible show bodyPost _ _ _ _ _ _)); first | ((with_reducible refine Hp.abs_alloc H ?_); intro b' w' H' hb'; (try simp only [hb']); clear hb'; ((try simp only [z0, z1, z2] at H'); clear C H; have H := H'; clear H'; have C := Hp.facts H; simp only [Facts, factsL, and_true, true_and, z0, z1, z2] at C)) | ((with_reducible show wpList _ _ _ _ _ (World.setCell _ _ _)); (with_reducible apply Hp.abs_gen H); (first | ((repeat (with_reducible apply Hp.set' 0)); (with_reducible exact H); (repeat rfl); intro w' H') | ((repeat (with_reducible apply Hp.set' 1)); (with_reducible exact H); (repeat rfl); intro w' H') | ((repeat (with_reducible apply Hp.set' 2)); (with_reducible exact H); (repeat rfl); intro w' H') | ((repeat (with_reducible apply Hp.set' 3)); (with_reducible exact H); (repeat rfl); intro w' H') | ((repeat (with_reducible apply Hp.set' 4)); (with_reducible exact H); (repeat rfl); intro w' H') | ((repeat (with_reducible apply Hp.set' 5)); (with_reducible exact H); (repeat rfl); intro w' H') | ((repeat (with_reducible apply Hp.set' 6)); (with_reducible exact H); (repeat rfl); intro w' H') | ((repeat (with_reducible apply Hp.set' 7)); (with_reducible exact H); (repeat rfl); intro w' H')); ((try simp only [z0, z1, z2] at H'); clear C H; have H := H'; clear H'; have C := Hp.facts H; simp only [Facts, factsL, and_true, true_and, z0, z1, z2] at C)) | go_values | go_skip | go_guarded | go_step | go_upon | go_back | (simp only [Int.not_lt, Int.not_le] at *; go_simp) | (go_values <;> (try go_simp)) | (go_ite <;> go_prune <;> (try go_simp)) | (split <;> (first | (rename_i hx; exact (hx _ rfl).elim) | go_prune))))
          refine bodyPost_ret (v := .tuple #[.agg #[.int .i64 0, .slice none 0 0], .int .i64 ((0 : Nat) : Int), .int .i64 4]) (by simp [results, go_sem, C]) rfl ?_
          exact ⟨⟨_, rfl, Bs.nil _⟩, H.low⟩
        | true =>
          by_cases h1 : c = 0
          · subst h1
            cases m with
            | true =>
              have hR := hR.trans (rdTo_tag (.inr (.inl rfl)))
              subst hR
              clear hct
              (repeat' ((fail_if_success (with_reducible show bodyPost _ _ _ _ _ _)); first | ((with_reducible refine Hp.abs_alloc H ?_); intro b' w' H' hb'; (try simp only [hb']); clear hb'; ((try simp only [z0, z1, z2] at H'); clear C H; have H := H'; clear H'; have C := Hp.facts H; simp only [Facts, factsL, and_true, true_and, z0, z1, z2] at C)) | ((with_reducible show wpList _ _ _ _ _ (World.setCell _ _ _)); (with_reducible apply Hp.abs_gen H); (first | ((repeat (with_reducible apply Hp.set' 0)); (with_reducible exact H); (repeat rfl); intro w' H') | ((repeat (with_reducible apply Hp.set' 1)); (with_reducible exact H); (repeat rfl); intro w' H') | ((repeat (with_reducible apply Hp.set' 2)); (with_reducible exact H); (repeat rfl); intro w' H') | ((repeat (with_reducible apply Hp.set' 3)); (with_reducible exact H); (repeat rfl); intro w' H') | ((repeat (with_reducible apply Hp.set' 4)); (with_reducible exact H); (repeat rfl); intro w' H') | ((repeat (with_reducible apply Hp.set' 5)); (with_reducible exact H); (repeat rfl); intro w' H') | ((repeat (with_reducible apply Hp.set' 6)); (with_reducible exact H); (repeat rfl); intro w' H') | ((repeat (with_reducible apply Hp.set' 7)); (with_reducible exact H); (repeat rfl); intro w' H')); ((try simp only [z0, z1, z2] at H'); clear C H; have H := H'; clear H'; have C := Hp.facts H; simp only [Facts, factsL, and_true, true_and, z0, z1, z2] at C)) | go_values | go_skip | go_guarded | go_step | go_upon | go_back | (simp only [Int.not_lt, Int.not_le] at *; go_simp) | (go_values <;> (try go_simp)) | (go_ite <;> go_prune <;> (try go_simp)) | (split <;> (first | (rename_i hx; exact (hx _ rfl).elim) | go_prune))))
              refine bodyPost_ret (v := .tuple #[.agg #[.int .i64 0, .slice none 0 0], .int .i64 ((0 : Nat) : Int), .int .i64 4]) (by simp [results, go_sem, C]) rfl ?_
              exact ⟨⟨_, rfl, Bs.nil _⟩, H.low⟩
            | false =>
              by_cases h3 : l.length < p + z
              · have hR := hR.trans (rdTo_end hct h3)
                subst hR
                have hz' : decide ((l.length : Int) - (p : Int) < (z : Int)) = true := by simp; omega
                clear hct h3
                (repeat' ((fail_if_success (with_reducible show bodyPost _ _ _ _ _ _)); first | ((with_reducible refine Hp.abs_alloc H ?_); intro b' w' H' hb'; (try simp only [hb']); clear hb'; ((try simp only [z0, z1, z2] at H'); clear C H; have H := H'; clear H'; have C := Hp.facts H; simp only [Facts, factsL, and_true, true_and, z0, z1, z2] at C)) | ((with_reducible show wpList _ _ _ _ _ (World.setCell _ _ _)); (with_reducible apply Hp.abs_gen H); (first | ((repeat (with_reducible apply Hp.set' 0)); (with_reducible exact H); (repeat rfl); intro w' H') | ((repeat (with_reducible apply Hp.set' 1)); (with_reducible exact H); (repeat rfl); intro w' H') | ((repeat (with_reducible apply Hp.set' 2)); (with_reducible exact H); (repeat rfl); intro w' H') | ((repeat (with_reducible apply Hp.set' 3)); (with_reducible exact H); (repeat rfl); intro w' H') | ((repeat (with_reducible apply Hp.set' 4)); (with_reducible exact H); (repeat rfl); intro w' H') | ((repeat (with_reducible apply Hp.set' 5)); (with_reducible exact H); (repeat rfl); intro w' H') | ((repeat (with_reducible apply Hp.set' 6)); (with_reducible exact H); (repeat rfl); intro w' H') | ((repeat (with_reducible apply Hp.set' 7)); (with_reducible exact H); (repeat rfl); intro w' H')); ((try simp only [z0, z1, z2] at H'); clear C H; have H := H'; clear H'; have C := Hp.facts H; simp only [Facts, factsL, and_true, true_and, z0, z1, z2] at C)) | go_values | go_skip | go_guarded | go_step | go_upon | go_back | (simp only [Int.not_lt, Int.not_le] at *; go_simp) | (go_values <;> (try go_simp)) | (go_ite <;> go_prune <;> (try go_simp)) | (split <;> (first | (rename_i hx; exact (hx _ rfl).elim) | go_prune))))
                refine bodyPost_ret (v := .tuple #[.agg #[.int .i64 0, .slice none 0 0], .int .i64 ((0 : Nat) : Int), .int .i64 3]) (by simp [results, go_sem, C]) rfl ?_
                exact ⟨⟨_, rfl, Bs.nil _⟩, H.low⟩
              · have hcut := hcut (by omega)
                have hcut0 := hcut0 (by omega)
                have hX : ((l.drop p).take z).length = z := by rw [List.length_take, List.length_drop]; omega
                have hSg := fun w hb => rsigns_any n ((l.drop p).take z) (.slice (if ca = p then A else Option.map (fun x => x.add p) A) z (ca - p)) (by rw [hX]; omega) w hb
                have hz' : decide ((l.length : Int) - (p : Int) < (z : Int)) = false := by simp; omega
                have hpz : p + z ≤ l.length := by omega
                cases h4 : rightT n ((l.drop p).take z) with
                | false =>
                  have hR := hR.trans (rdTo_form hct h3 h4)
                  subst hR
                  rw [h4] at hSg
                  clear hct h3 h4
                  clear hX
                  obtain ⟨A5, hA5⟩ : ∃ A5, (if ca = p then A else Option.map (fun x => x.add p) A) = A5 := ⟨_, rfl⟩
                  rw [hA5] at hcut hcut0 hSg
                  have gA5 := Kp.mk hA5
                  clear hA5
                  (repeat' ((fail_if_success (with_reducible show bodyPost _ _ _ _ _ _)); first | ((with_reducible refine Hp.abs_alloc H ?_); intro b' w' H' hb'; (try simp only [hb']); clear hb'; ((try simp only [z0, z1, z2] at H'); clear C H; have H := H'; clear H'; have C := Hp.facts H; simp only [Facts, factsL, and_true, true_and, z0, z1, z2] at C)) | ((with_reducible show wpList _ _ _ _ _ (World.setCell _ _ _)); (with_reducible apply Hp.abs_gen H); (first | ((repeat (with_reducible apply Hp.set' 0)); (with_reducible exact H); (repeat rfl); intro w' H') | ((repeat (with_reducible apply Hp.set' 1)); (with_reducible exact H); (repeat rfl); intro w' H') | ((repeat (with_reducible apply Hp.set' 2)); (with_reducible exact H); (repeat rfl); intro w' H') | ((repeat (with_reducible apply Hp.set' 3)); (with_reducible exact H); (repeat rfl); intro w' H') | ((repeat (with_reducible apply Hp.set' 4)); (with_reducible exact H); (repeat rfl); intro w' H') | ((repeat (with_reducible apply Hp.set' 5)); (with_reducible exact H); (repeat rfl); intro w' H') | ((repeat (with_reducible apply Hp.set' 6)); (with_reducible exact H); (repeat rfl); intro w' H') | ((repeat (with_reducible apply Hp.set' 7)); (with_reducible exact H); (repeat rfl); intro w' H')); ((try simp only [z0, z1, z2] at H'); clear C H; have H := H'; clear H'; have C := Hp.facts H; simp only [Facts, factsL, and_true, true_and, z0, z1, z2] at C)) | go_values | go_skip | go_guarded | go_step | go_upon | go_back | (simp only [Int.not_lt, Int.not_le] at *; go_simp) | (go_values <;> (try go_simp)) | (go_ite <;> go_prune <;> (try go_simp)) | (split <;> (first | (rename_i hx; exact (hx _ rfl).elim) | go_prune))))
                  try simp (disch := omega) only [decide_eq_true, decide_eq_false]
                  obtain ⟨wR13yc, rfl⟩ := Hp.nameW H
                  apply region_n (frm wR13yc.heap.size (fun _ => Hp _ _)) (frm_ok ?hfs_5) frm_sz [] [.light 0 0, .light 0 0, .light 0 0, .light 0 0, .light 0 0, .light 0 0, .light 0 0, .light 0 0, .light 0 0, .light 0 0] [false, false, false, false, false, false, false, false, false, true] 10 98 [10, 10, 10, 10, 10, 10, 10, 10, 10, 10] [some 76, some 77, some 78, some 79, some 80, some 81, some 82, some 83, some 84, some 15] [[], [0], [], [], [], [], [4, 5], [2, 3, 6], [1, 7], []] [Eq1 _, Eq1 _, Eq1 _, Eq1 _, Eq1 _, Eq1 _, Eq1 (.int .i64 (((p + z : Nat)) : Int)), Eq1 (.slice A5 z (ca - p)), Eq1 _, NewPt wR13yc.heap.size _ _] ?hq1_5 ?hq2_5 ?hq3_5 ?hq4_5 ?hq5_5 ?hq6_5 _ ?hA_5 ?hst_5 ?h0_5 ?hsteps_5 ?hend_5
                  case hq1_5 => kernel_rfl
                  case hq2_5 => kernel_rfl
                  case hq3_5 => kernel_rfl
                  case hq5_5 => kernel_rfl
                  case hq4_5 => rfl
                  case hq6_5 => rfl
                  case hA_5 => intro vs; simp only [fillD, Nat.reduceAdd, Act.put, List.setIfInBounds_toArray, List.set_cons_zero, List.set_cons_succ]; rfl
                  case h0_5 => exact H.drew
                  case hfs_5 => exact fun _ _ _ hb h => Hp.step h hb
                  case hsteps_5 =>
                    refine ⟨?_, ?_, ?_, ?_, ?_, ?_, ?_, ?_, ?_, ?_, trivial⟩
                    · intro p vs w' K hJ hp1 hp2 hS hR hK
                      rw [if_pos (by rfl)]
                      go_step
                      exact hK.out _ _ (Below.refl _ _) Eq1.mk Fresh.no
                    · intro p vs w' K hJ hp1 hp2 hS hR hK
                      simp only [DepJ, List.getD_cons_zero, List.getD_cons_succ] at hJ
                      obtain ⟨j0, -⟩ := hJ
                      have j0 := Eq1.out j0
                      simp only [j0] at hK ⊢
                      rw [if_pos (by rfl)]
                      have C := Hp.facts hS
                      simp only [Facts, factsL, and_true, true_and, z0, z1, z2] at C
                      have hsz := hR.1
                      go_step
                      exact hK.out _ _ (Below.refl _ _) Eq1.mk Fresh.no
                    · intro p vs w' K hJ hp1 hp2 hS hR hK
                      rw [if_pos (by rfl)]
                      go_step
                      exact hK.out _ _ (Below.refl _ _) Eq1.mk Fresh.no
                    · intro p vs w' K hJ hp1 hp2 hS hR hK
                      rw [if_pos (by rfl)]
                      go_step
                      exact hK.out _ _ (Below.refl _ _) Eq1.mk Fresh.no
                    · intro p vs w' K hJ hp1 hp2 hS hR hK
                      rw [if_pos (by rfl)]
                      go_step
                      exact hK.out _ _ (Below.refl _ _) Eq1.mk Fresh.no
                    · intro p vs w' K hJ hp1 hp2 hS hR hK
                      rw [if_pos (by rfl)]
                      go_step
                      exact hK.out _ _ (Below.refl _ _) Eq1.mk Fresh.no
                    · intro p vs w' K hJ hp1 hp2 hS hR hK
                      simp only [DepJ, List.getD_cons_zero, List.getD_cons_succ] at hJ
                      obtain ⟨j4, j5, -⟩ := hJ
                      have j4 := Eq1.out j4
                      have j5 := Eq1.out j5
                      simp only [j4, j5] at hK ⊢
                      rw [if_pos (by rfl)]
                      go_step
                      exact hK.out _ _ (Below.refl _ _) (Eq1.of (by first | rfl | (simp; done) | (simp; omega))) Fresh.no
                    · intro p vs w' K hJ hp1 hp2 hS hR hK
                      simp only [DepJ, List.getD_cons_zero, List.getD_cons_succ] at hJ
                      obtain ⟨j2, j3, j6, -⟩ := hJ
                      have j2 := Eq1.out j2
                      have j3 := Eq1.out j3
                      have j6 := Eq1.out j6
                      simp only [j2, j3, j6] at hK ⊢
                      rw [if_pos (by rfl)]
                      go_step
                      exact hK.out _ _ (Below.refl _ _) (Eq1.of (by rw [Nat.add_sub_cancel_left, gA5.out])) Fresh.no
                    · intro p vs w' K hJ hp1 hp2 hS hR hK
                      simp only [DepJ, List.getD_cons_zero, List.getD_cons_succ] at hJ
                      obtain ⟨j1, j7, -⟩ := hJ
                      have j1 := Eq1.out j1
                      have j7 := Eq1.out j7
                      simp only [j1, j7] at hK ⊢
                      rw [if_pos (by rfl)]
                      go_step
                      exact hK.out _ _ (Below.refl _ _) Eq1.mk Fresh.no
                    · intro p vs w' K hJ hp1 hp2 hS hR hK
                      rw [if_pos (by rfl)]
                      go_step
                      exact hK.out _ _ ((Below.refl _ _).alloc (Nat.le_refl _) _) (NewPt.mk _ _ _ _ hR.1) Fresh.pt
                  case hst_5 => refine ⟨fun _ _ _ _ h => h, fun _ _ _ _ h => h, fun _ _ _ _ h => h, fun _ _ _ _ h => h, fun _ _ _ _ h => h, fun _ _ _ _ h => h, fun _ _ _ _ h => h, fun _ _ _ _ h => h, fun _ _ _ _ h => h, fun _ _ _ hs h => NewPt.stayR hs h, trivial⟩
                  intro vs w' hJ hD hS hR
                  simp only [AllJ, Nat.reduceAdd] at hJ
                  obtain ⟨v0, v1, v2, v3, v4, v5, v6, v7, v8, v9, -⟩ := hJ
                  clear C
                  replace v0 := Eq1.out v0
                  replace v1 := Eq1.out v1
                  replace v2 := Eq1.out v2
                  replace v3 := Eq1.out v3
                  replace v4 := Eq1.out v4
                  replace v5 := Eq1.out v5
                  replace v6 := Eq1.out v6
                  replace v7 := Eq1.out v7
                  replace v8 := Eq1.out v8
                  obtain ⟨k9, e9, hB9, hh9⟩ := v9
                  simp only [v0, v1, v2, v3, v4, v5, v6, v7, v8, e9, List.drop_succ_cons, List.drop_zero]
                  replace hS : Hp _ _ _ := hS
                  have H' := Hp.adopts hS H.low.size (fun k hk => Hp.lows H k hk) [.blk k9 _ _] (by intro x hx; simp only [List.mem_cons, List.not_mem_nil, or_false] at hx; subst hx; exact ⟨hh9, hB9⟩) (nodup1 _)
                  simp only [List.cons_append, List.nil_append] at H'
                  clear hD hR hS v0 v1 v2 v3 v4 v5 v6 v7 v8
                  clear e9 hB9 hh9
                  clear vs H
                  have H := H'; clear H'; have C := Hp.facts H; simp only [Facts, factsL, and_true, true_and, z0, z1, z2] at C
                  (repeat' ((fail_if_success (with_reducible show bodyPost _ _ _ _ _ _)); first | ((with_reducible refine Hp.abs_alloc H ?_); intro b' w' H' hb'; (try simp only [hb']); clear hb'; ((try simp only [z0, z1, z2] at H'); clear C H; have H := H'; clear H'; have C := Hp.facts H; simp only [Facts, factsL, and_true, true_and, z0, z1, z2] at C)) | ((with_reducible show wpList _ _ _ _ _ (World.setCell _ _ _)); (with_reducible apply Hp.abs_gen H); (first | ((repeat (with_reducible apply Hp.set' 0)); (with_reducible exact H); (repeat rfl); intro w' H') | ((repeat (with_reducible apply Hp.set' 1)); (with_reducible exact H); (repeat rfl); intro w' H') | ((repeat (with_reducible apply Hp.set' 2)); (with_reducible exact H); (repeat rfl); intro w' H') | ((repeat (with_reducible apply Hp.set' 3)); (with_reducible exact H); (repeat rfl); intro w' H') | ((repeat (with_reducible apply Hp.set' 4)); (with_reducible exact H); (repeat rfl); intro w' H') | ((repeat (with_reducible apply Hp.set' 5)); (with_reducible exact H); (repeat rfl); intro w' H') | ((repeat (with_reducible apply Hp.set' 6)); (with_reducible exact H); (repeat rfl); intro w' H') | ((repeat (with_reducible apply Hp.set' 7)); (with_reducible exact H); (repeat rfl); intro w' H')); ((try simp only [z0, z1, z2] at H'); clear C H; have H := H'; clear H'; have C := Hp.facts H; simp only [Facts, factsL, and_true, true_and, z0, z1, z2] at C)) | go_values | go_skip | go_guarded | go_step | go_upon | go_back | (simp only [Int.not_lt, Int.not_le] at *; go_simp) | (go_values <;> (try go_simp)) | (go_ite <;> go_prune <;> (try go_simp)) | (split <;> (first | (rename_i hx; exact (hx _ rfl).elim) | go_prune))))
                  refine (hSg _ (H.bs hcut)).mono ?_
                  (rintro e' w' ⟨⟨v', rfl, ho⟩, hb'⟩; have H' := Hp.rowOf H hb' ho; obtain ⟨A3, c3, rfl⟩ := Go.LawLift.own_form ho; clear ho hb'; ((try simp only [z0, z1, z2] at H'); clear C H; have H := H'; clear H'; have C := Hp.facts H; simp only [Facts, factsL, and_true, true_and, z0, z1, z2] at C))
                  (repeat' ((fail_if_success (with_reducible show bodyPost _ _ _ _ _ _)); first | ((with_reducible refine Hp.abs_alloc H ?_); intro b' w' H' hb'; (try simp only [hb']); clear hb'; ((try simp only [z0, z1, z2] at H'); clear C H; have H := H'; clear H'; have C := Hp.facts H; simp only [Facts, factsL, and_true, true_and, z0, z1, z2] at C)) | ((with_reducible show wpList _ _ _ _ _ (World.setCell _ _ _)); (with_reducible apply Hp.abs_gen H); (first | ((repeat (with_reducible apply Hp.set' 0)); (with_reducible exact H); (repeat rfl); intro w' H') | ((repeat (with_reducible apply Hp.set' 1)); (with_reducible exact H); (repeat rfl); intro w' H') | ((repeat (with_reducible apply Hp.set' 2)); (with_reducible exact H); (repeat rfl); intro w' H') | ((repeat (with_reducible apply Hp.set' 3)); (with_reducible exact H); (repeat rfl); intro w' H') | ((repeat (with_reducible apply Hp.set' 4)); (with_reducible exact H); (repeat rfl); intro w' H') | ((repeat (with_reducible apply Hp.set' 5)); (with_reducible exact H); (repeat rfl); intro w' H') | ((repeat (with_reducible apply Hp.set' 6)); (with_reducible exact H); (repeat rfl); intro w' H') | ((repeat (with_reducible apply Hp.set' 7)); (with_reducible exact H); (repeat rfl); intro w' H')); ((try simp only [z0, z1, z2] at H'); clear C H; have H := H'; clear H'; have C := Hp.facts H; simp only [Facts, factsL, and_true, true_and, z0, z1, z2] at C)) | go_values | go_skip | go_guarded | go_step | go_upon | go_back | (simp only [Int.not_lt, Int.not_le] at *; go_simp) | (go_values <;> (try go_simp)) | (go_ite <;> go_prune <;> (try go_simp)) | (split <;> (first | (rename_i hx; exact (hx _ rfl).elim) | go_prune))))
                  refine bodyPost_ret (v := .tuple #[.agg #[.int .i64 0, .slice none 0 0], .int .i64 ((0 : Nat) : Int), .int .i64 6]) (by simp [results, go_sem, C]) rfl ?_
                  exact ⟨⟨_, rfl, Bs.nil _⟩, H.low⟩
                | true =>
                  have hR := hR.trans (rdTo_yes hct h3 h4)
                  subst hR
                  rw [h4] at hSg
                  clear hct h3 h4
                  clear hX
                  obtain ⟨A5, hA5⟩ : ∃ A5, (if ca = p then A else Option.map (fun x => x.add p) A) = A5 := ⟨_, rfl⟩
                  rw [hA5] at hcut hcut0 hSg
                  have gA5 := Kp.mk hA5
                  clear hA5
                  (repeat' ((fail_if_success (with_reducible show bodyPost _ _ _ _ _ _)); first | ((with_reducible refine Hp.abs_alloc H ?_); intro b' w' H' hb'; (try simp only [hb']); clear hb'; ((try simp only [z0, z1, z2] at H'); clear C H; have H := H'; clear H'; have C := Hp.facts H; simp only [Facts, factsL, and_true, true_and, z0, z1, z2] at C)) | ((with_reducible show wpList _ _ _ _ _ (World.setCell _ _ _)); (with_reducible apply Hp.abs_gen H); (first | ((repeat (with_reducible apply Hp.set' 0)); (with_reducible exact H); (repeat rfl); intro w' H') | ((repeat (with_reducible apply Hp.set' 1)); (with_reducible exact H); (repeat rfl); intro w' H') | ((repeat (with_reducible apply Hp.set' 2)); (with_reducible exact H); (repeat rfl); intro w' H') | ((repeat (with_reducible apply Hp.set' 3)); (with_reducible exact H); (repeat rfl); intro w' H') | ((repeat (with_reducible apply Hp.set' 4)); (with_reducible exact H); (repeat rfl); intro w' H') | ((repeat (with_reducible apply Hp.set' 5)); (with_reducible exact H); (repeat rfl); intro w' H') | ((repeat (with_reducible apply Hp.set' 6)); (with_reducible exact H); (repeat rfl); intro w' H') | ((repeat (with_reducible apply Hp.set' 7)); (with_reducible exact H); (repeat rfl); intro w' H')); ((try simp only [z0, z1, z2] at H'); clear C H; have H := H'; clear H'; have C := Hp.facts H; simp only [Facts, factsL, and_true, true_and, z0, z1, z2] at C)) | go_values | go_skip | go_guarded | go_step | go_upon | go_back | (simp only [Int.not_lt, Int.not_le] at *; go_simp) | (go_values <;> (try go_simp)) | (go_ite <;> go_prune <;> (try go_simp)) | (split <;> (first | (rename_i hx; exact (hx _ rfl).elim) | go_prune))))
                  try simp (disch := omega) only [decide_eq_true, decide_eq_false]
                  obtain ⟨wR13yd, rfl⟩ := Hp.nameW H
                  apply region_n (frm wR13yd.heap.size (fun _ => Hp _ _)) (frm_ok ?hfs_6) frm_sz [] [.light 0 0, .light 0 0, .light 0 0, .light 0 0, .light 0 0, .light 0 0, .light 0 0, .light 0 0, .light 0 0, .light 0 0] [false, false, false, false, false, false, false, false, false, true] 10 98 [10, 10, 10, 10, 10, 10, 10, 10, 10, 10] [some 76, some 77, some 78, some 79, some 80, some 81, some 82, some 83, some 84, some 15] [[], [0], [], [], [], [], [4, 5], [2, 3, 6], [1, 7], []] [Eq1 _, Eq1 _, Eq1 _, Eq1 _, Eq1 _, Eq1 _, Eq1 (.int .i64 (((p + z : Nat)) : Int)), Eq1 (.slice A5 z (ca - p)), Eq1 _, NewPt wR13yd.heap.size _ _] ?hq1_6 ?hq2_6 ?hq3_6 ?hq4_6 ?hq5_6 ?hq6_6 _ ?hA_6 ?hst_6 ?h0_6 ?hsteps_6 ?hend_6
                  case hq1_6 => kernel_rfl
                  case hq2_6 => kernel_rfl
                  case hq3_6 => kernel_rfl
                  case hq5_6 => kernel_rfl
                  case hq4_6 => rfl
                  case hq6_6 => rfl
                  case hA_6 => intro vs; simp only [fillD, Nat.reduceAdd, Act.put, List.setIfInBounds_toArray, List.set_cons_zero, List.set_cons_succ]; rfl
                  case h0_6 => exact H.drew
                  case hfs_6 => exact fun _ _ _ hb h => Hp.step h hb
                  case hsteps_6 =>
                    refine ⟨?_, ?_, ?_, ?_, ?_, ?_, ?_, ?_, ?_, ?_, trivial⟩
                    · intro p vs w' K hJ hp1 hp2 hS hR hK
                      rw [if_pos (by rfl)]
                      go_step
                      exact hK.out _ _ (Below.refl _ _) Eq1.mk Fresh.no
                    · intro p vs w' K hJ hp1 hp2 hS hR hK
                      simp only [DepJ, List.getD_cons_zero, List.getD_cons_succ] at hJ
                      obtain ⟨j0, -⟩ := hJ
                      have j0 := Eq1.out j0
                      simp only [j0] at hK ⊢
                      rw [if_pos (by rfl)]
                      have C := Hp.facts hS
                      simp only [Facts, factsL, and_true, true_and, z0, z1, z2] at C
                      have hsz := hR.1
                      go_step
                      exact hK.out _ _ (Below.refl _ _) Eq1.mk Fresh.no
                    · intro p vs w' K hJ hp1 hp2 hS hR hK
                      rw [if_pos (by rfl)]
                      go_step
                      exact hK.out _ _ (Below.refl _ _) Eq1.mk Fresh.no
                    · intro p vs w' K hJ hp1 hp2 hS hR hK
                      rw [if_pos (by rfl)]
                      go_step
                      exact hK.out _ _ (Below.refl _ _) Eq1.mk Fresh.no
                    · intro p vs w' K hJ hp1 hp2 hS hR hK
                      rw [if_pos (by rfl)]
                      go_step
                      exact hK.out _ _ (Below.refl _ _) Eq1.mk Fresh.no
                    · intro p vs w' K hJ hp1 hp2 hS hR hK
                      rw [if_pos (by rfl)]
                      go_step
                      exact hK.out _ _ (Below.refl _ _) Eq1.mk Fresh.no
                    · intro p vs w' K hJ hp1 hp2 hS hR hK
                      simp only [DepJ, List.getD_cons_zero, List.getD_cons_succ] at hJ
                      obtain ⟨j4, j5, -⟩ := hJ
                      have j4 := Eq1.out j4
                      have j5 := Eq1.out j5
                      simp only [j4, j5] at hK ⊢
                      rw [if_pos (by rfl)]
                      go_step
                      exact hK.out _ _ (Below.refl _ _) (Eq1.of (by first | rfl | (simp; done) | (simp; omega))) Fresh.no
                    · intro p vs w' K hJ hp1 hp2 hS hR hK
                      simp only [DepJ, List.getD_cons_zero, List.getD_cons_succ] at hJ
                      obtain ⟨j2, j3, j6, -⟩ := hJ
                      have j2 := Eq1.out j2
                      have j3 := Eq1.out j3
                      have j6 := Eq1.out j6
                      simp only [j2, j3, j6] at hK ⊢
                      rw [if_pos (by rfl)]
                      go_step
                      exact hK.out _ _ (Below.refl _ _) (Eq1.of (by rw [Nat.add_sub_cancel_left, gA5.out])) Fresh.no
                    · intro p vs w' K hJ hp1 hp2 hS hR hK
                      simp only [DepJ, List.getD_cons_zero, List.getD_cons_succ] at hJ
                      obtain ⟨j1, j7, -⟩ := hJ
                      have j1 := Eq1.out j1
                      have j7 := Eq1.out j7
                      simp only [j1, j7] at hK ⊢
                      rw [if_pos (by rfl)]
                      go_step
                      exact hK.out _ _ (Below.refl _ _) Eq1.mk Fresh.no
                    · intro p vs w' K hJ hp1 hp2 hS hR hK
                      rw [if_pos (by rfl)]
                      go_step
                      exact hK.out _ _ ((Below.refl _ _).alloc (Nat.le_refl _) _) (NewPt.mk _ _ _ _ hR.1) Fresh.pt
                  case hst_6 => refine ⟨fun _ _ _ _ h => h, fun _ _ _ _ h => h, fun _ _ _ _ h => h, fun _ _ _ _ h => h, fun _ _ _ _ h => h, fun _ _ _ _ h => h, fun _ _ _ _ h => h, fun _ _ _ _ h => h, fun _ _ _ _ h => h, fun _ _ _ hs h => NewPt.stayR hs h, trivial⟩
                  intro vs w' hJ hD hS hR
                  simp only [AllJ, Nat.reduceAdd] at hJ
                  obtain ⟨v0, v1, v2, v3, v4, v5, v6, v7, v8, v9, -⟩ := hJ
                  clear C
                  replace v0 := Eq1.out v0
                  replace v1 := Eq1.out v1
                  replace v2 := Eq1.out v2
                  replace v3 := Eq1.out v3
                  replace v4 := Eq1.out v4
                  replace v5 := Eq1.out v5
                  replace v6 := Eq1.out v6
                  replace v7 := Eq1.out v7
                  replace v8 := Eq1.out v8
                  obtain ⟨k9, e9, hB9, hh9⟩ := v9
                  simp only [v0, v1, v2, v3, v4, v5, v6, v7, v8, e9, List.drop_succ_cons, List.drop_zero]
                  replace hS : Hp _ _ _ := hS
                  have H' := Hp.adopts hS H.low.size (fun k hk => Hp.lows H k hk) [.blk k9 _ _] (by intro x hx; simp only [List.mem_cons, List.not_mem_nil, or_false] at hx; subst hx; exact ⟨hh9, hB9⟩) (nodup1 _)
                  simp only [List.cons_append, List.nil_append] at H'
                  clear hD hR hS v0 v1 v2 v3 v4 v5 v6 v7 v8
                  clear e9 hB9 hh9
                  clear vs H
                  have H := H'; clear H'; have C := Hp.facts H; simp only [Facts, factsL, and_true, true_and, z0, z1, z2] at C
                  (repeat' ((fail_if_success (with_reducible show bodyPost _ _ _ _ _ _)); first | ((with_reducible refine Hp.abs_alloc H ?_); intro b' w' H' hb'; (try simp only [hb']); clear hb'; ((try simp only [z0, z1, z2] at H'); clear C H; have H := H'; clear H'; have C := Hp.facts H; simp only [Facts, factsL, and_true, true_and, z0, z1, z2] at C)) | ((with_reducible show wpList _ _ _ _ _ (World.setCell _ _ _)); (with_reducible apply Hp.abs_gen H); (first | ((repeat (with_reducible apply Hp.set' 0)); (with_reducible exact H); (repeat rfl); intro w' H') | ((repeat (with_reducible apply Hp.set' 1)); (with_reducible exact H); (repeat rfl); intro w' H') | ((repeat (with_reducible apply Hp.set' 2)); (with_reducible exact H); (repeat rfl); intro w' H') | ((repeat (with_reducible apply Hp.set' 3)); (with_reducible exact H); (repeat rfl); intro w' H') | ((repeat (with_reducible apply Hp.set' 4)); (with_reducible exact H); (repeat rfl); intro w' H') | ((repeat (with_reducible apply Hp.set' 5)); (with_reducible exact H); (repeat rfl); intro w' H') | ((repeat (with_reducible apply Hp.set' 6)); (with_reducible exact H); (repeat rfl); intro w' H') | ((repeat (with_reducible apply Hp.set' 7)); (with_reducible exact H); (repeat rfl); intro w' H')); ((try simp only [z0, z1, z2] at H'); clear C H; have H := H'; clear H'; have C := Hp.facts H; simp only [Facts, factsL, and_true, true_and, z0, z1, z2] at C)) | go_values | go_skip | go_guarded | go_step | go_upon | go_back | (simp only [Int.not_lt, Int.not_le] at *; go_simp) | (go_values <;> (try go_simp)) | (go_ite <;> go_prune <;> (try go_simp)) | (split <;> (first | (rename_i hx; exact (hx _ rfl).elim) | go_prune))))
                  refine (hSg _ (H.bs hcut)).mono ?_
                  (rintro e' w' ⟨⟨v', rfl, ho⟩, hb'⟩; have H' := Hp.rowOf H hb' ho; obtain ⟨A3, c3, rfl⟩ := Go.LawLift.own_form ho; clear ho hb'; ((try simp only [z0, z1, z2] at H'); clear C H; have H := H'; clear H'; have C := Hp.facts H; simp only [Facts, factsL, and_true, true_and, z0, z1, z2] at C))
                  (repeat' ((fail_if_success (with_reducible show bodyPost _ _ _ _ _ _)); first | ((with_reducible refine Hp.abs_alloc H ?_); intro b' w' H' hb'; (try simp only [hb']); clear hb'; ((try simp only [z0, z1, z2] at H'); clear C H; have H := H'; clear H'; have C := Hp.facts H; simp only [Facts, factsL, and_true, true_and, z0, z1, z2] at C)) | ((with_reducible show wpList _ _ _ _ _ (World.setCell _ _ _)); (with_reducible apply Hp.abs_gen H); (first | ((repeat (with_reducible apply Hp.set' 0)); (with_reducible exact H); (repeat rfl); intro w' H') | ((repeat (with_reducible apply Hp.set' 1)); (with_reducible exact H); (repeat rfl); intro w' H') | ((repeat (with_reducible apply Hp.set' 2)); (with_reducible exact H); (repeat rfl); intro w' H') | ((repeat (with_reducible apply Hp.set' 3)); (with_reducible exact H); (repeat rfl); intro w' H') | ((repeat (with_reducible apply Hp.set' 4)); (with_reducible exact H); (repeat rfl); intro w' H') | ((repeat (with_reducible apply Hp.set' 5)); (with_reducible exact H); (repeat rfl); intro w' H') | ((repeat (with_reducible apply Hp.set' 6)); (with_reducible exact H); (repeat rfl); intro w' H') | ((repeat (with_reducible apply Hp.set' 7)); (with_reducible exact H); (repeat rfl); intro w' H')); ((try simp only [z0, z1, z2] at H'); clear C H; have H := H'; clear H'; have C := Hp.facts H; simp only [Facts, factsL, and_true, true_and, z0, z1, z2] at C)) | go_values | go_skip | go_guarded | go_step | go_upon | go_back | (simp only [Int.not_lt, Int.not_le] at *; go_simp) | (go_values <;> (try go_simp)) | (go_ite <;> go_prune <;> (try go_simp)) | (split <;> (first | (rename_i hx; exact (hx _ rfl).elim) | go_prune))))
                  refine bodyPost_ret (v := .tuple #[.agg #[.int .i64 n, .slice A5 z (ca - p)], .int .i64 ((p + z : Nat) : Int), .int .i64 0]) (by simp [results, go_sem, C]) rfl ?_
                  exact ⟨⟨_, rfl, hcut0⟩, H.low⟩
          · have hR := hR.trans (rdTo_tag (.inl h1))
            subst hR
            have e0 : ((c : Int) != 0) = true := by simp; exact h1
            clear h1 hct
            (repeat' ((fail_if_success (with_reducible show bodyPost _ _ _ _ _ _)); first | ((with_reducible refine Hp.abs_alloc H ?_); intro b' w' H' hb'; (try simp only [hb']); clear hb'; ((try simp only [z0, z1, z2] at H'); clear C H; have H := H'; clear H'; have C := Hp.facts H; simp only [Facts, factsL, and_true, true_and, z0, z1, z2] at C)) | ((with_reducible show wpList _ _ _ _ _ (World.setCell _ _ _)); (with_reducible apply Hp.abs_gen H); (first | ((repeat (with_reducible apply Hp.set' 0)); (with_reducible exact H); (repeat rfl); intro w' H') | ((repeat (with_reducible apply Hp.set' 1)); (with_reducible exact H); (repeat rfl); intro w' H') | ((repeat (with_reducible apply Hp.set' 2)); (with_reducible exact H); (repeat rfl); intro w' H') | ((repeat (with_reducible apply Hp.set' 3)); (with_reducible exact H); (repeat rfl); intro w' H') | ((repeat (with_reducible apply Hp.set' 4)); (with_reducible exact H); (repeat rfl); intro w' H') | ((repeat (with_reducible apply Hp.set' 5)); (with_reducible exact H); (repeat rfl); intro w' H') | ((repeat (with_reducible apply Hp.set' 6)); (with_reducible exact H); (repeat rfl); intro w' H') | ((repeat (with_reducible apply Hp.set' 7)); (with_reducible exact H); (repeat rfl); intro w' H')); ((try simp only [z0, z1, z2] at H'); clear C H; have H := H'; clear H'; have C := Hp.facts H; simp only [Facts, factsL, and_true, true_and, z0, z1, z2] at C)) | go_values | go_skip | go_guarded | go_step | go_upon | go_back | (simp only [Int.not_lt, Int.not_le] at *; go_simp) | (go_values <;> (try go_simp)) | (go_ite <;> go_prune <;> (try go_simp)) | (split <;> (first | (rename_i hx; exact (hx _ rfl).elim) | go_prune))))
            refine bodyPost_ret (v := .tuple #[.agg #[.int .i64 0, .slice none 0 0], .int .i64 ((0 : Nat) : Int), .int .i64 4]) (by simp [results, go_sem, C]) rfl ?_
            exact ⟨⟨_, rfl, Bs.nil _⟩, H.low⟩
  · have hR := hR.trans (rdTo_er h0)
    subst hR
    have e0 : ((er : Int) != 0) = true := by simp; omega
    (repeat' ((fail_if_success (with_reducible show bodyPost _ _ _ _ _ _)); first | ((with_reducible refine Hp.abs_alloc H ?_); intro b' w' H' hb'; (try simp only [hb']); clear hb'; ((try simp only [z0, z1, z2] at H'); clear C H; have H := H'; clear H'; have C := Hp.facts H; simp only [Facts, factsL, and_true, true_and, z0, z1, z2] at C)) | ((with_reducible show wpList _ _ _ _ _ (World.setCell _ _ _)); (with_reducible apply Hp.abs_gen H); (first | ((repeat (with_reducible apply Hp.set' 0)); (with_reducible exact H); (repeat rfl); intro w' H') | ((repeat (with_reducible apply Hp.set' 1)); (with_reducible exact H); (repeat rfl); intro w' H') | ((repeat (with_reducible apply Hp.set' 2)); (with_reducible exact H); (repeat rfl); intro w' H') | ((repeat (with_reducible apply Hp.set' 3)); (with_reducible exact H); (repeat rfl); intro w' H') | ((repeat (with_reducible apply Hp.set' 4)); (with_reducible exact H); (repeat rfl); intro w' H') | ((repeat (with_reducible apply Hp.set' 5)); (with_reducible exact H); (repeat rfl); intro w' H') | ((repeat (with_reducible apply Hp.set' 6)); (with_reducible exact H); (repeat rfl); intro w' H') | ((repeat (with_reducible apply Hp.set' 7)); (with_reducible exact H); (repeat rfl); intro w' H')); ((try simp only [z0, z1, z2] at H'); clear C H; have H := H'; clear H'; have C := Hp.facts H; simp only [Facts, factsL, and_true, true_and, z0, z1, z2] at C)) | go_values | go_skip | go_guarded | go_step | go_upon | go_back | (simp only [Int.not_lt, Int.not_le] at *; go_simp) | (go_values <;> (try go_simp)) | (go_ite <;> go_prune <;> (try go_simp)) | (split <;> (first | (rename_i hx; exact (hx _ rfl).elim) | go_prune))))
    refine bodyPost_ret (v := .tuple #[.agg #[.int .i64 0, .slice none 0 0], .int .i64 ((0 : Nat) : Int), .int .i64 er]) (by simp [results, go_sem, C]) rfl ?_
    exact ⟨⟨_, rfl, Bs.nil _⟩, H.low⟩
theorem rread_any (l : List UInt8) (v : Value) (ks : List Int) (kv : Value) (hl : l.length ≤ 100000) (hks : ks.length ≤ 1000000) (w0 : World) (hb0 : Bs w0 v l) (w : World) (hb : Bs w v l) (hZ : Zs w kv ks) :
    Calls Tryd.prog 31 #[v, .int .i64 0, kv] w (RRd w0 w (rdT l 0 ks)) := by
  by_cases h : ks = []
  · exact rread_none l v ks kv h hl hks w0 hb0 w hb hZ
  · exact rread_some l v ks kv h hl hks w0 hb0 w hb hZ
end Go.Proofs.YtogliinfdfkobaaDoor

