/- Lemmas and walks on the way to the seat's laws; each theorem says its own conditions. -/
import Derived.Test.YtogliinfdfkobaaH18
set_option linter.unusedSimpArgs false
set_option linter.unusedVariables false
set_option linter.unusedSimpArgs false
set_option linter.unusedVariables false
set_option maxRecDepth 100000
namespace Go.Proofs.Ytogliinfdfkobaa
open Go.RowKit Go.Mem Go.Reg Hd Go.LawLift Oct
set_option maxHeartbeats 1600000 in
theorem rLen_any (l : List UInt8) (v : Value) (k : Nat) (hk : k ≤ l.length) (hl : l.length ≤ 1000000) (w : World) (hb : Bs w v l) :
    Calls Try.prog 66 #[v, .int .i64 (k : Int)] w (RLenOut w (rdLen l k)) := by
  obtain ⟨A, c, rfl, hlc, hcm, hA, hcell⟩ := hb.open
  have H := Hp.start w
  have C : True := trivial
  by_cases hlt : k < l.length
  · obtain ⟨b, o, rfl, hbl, hc⟩ := hcell k hlt
    have hck := hc k hlt
    have hu := l[k].toNat_lt
    by_cases h1 : l[k].toNat < 128
    · have hR := Lib.hid (rdLen_low hlt h1)
      go_enter Try.func66, Try.ntmps66
      (repeat' ((fail_if_success (with_reducible show bodyPost _ _ _ _ _ _)); first | ((with_reducible refine Hp.abs_alloc H ?_); intro b' w' H' hb'; (try simp only [hb']); clear hb'; ((try simp only [List.set_cons_zero, List.set_cons_succ, List.setIfInBounds_toArray] at H'); clear C H; have H := H'; clear H'; have C := Hp.facts H; simp only [Facts, factsL, and_true, true_and, List.set_cons_zero, List.set_cons_succ, List.setIfInBounds_toArray] at C)) | ((with_reducible show wpList _ _ _ _ _ (World.setCell _ _ _)); (with_reducible apply Hp.abs_gen H); (first | ((repeat (with_reducible apply Hp.set' 0)); (with_reducible exact H); (repeat rfl); intro w' H') | ((repeat (with_reducible apply Hp.set' 1)); (with_reducible exact H); (repeat rfl); intro w' H') | ((repeat (with_reducible apply Hp.set' 2)); (with_reducible exact H); (repeat rfl); intro w' H') | ((repeat (with_reducible apply Hp.set' 3)); (with_reducible exact H); (repeat rfl); intro w' H') | ((repeat (with_reducible apply Hp.set' 4)); (with_reducible exact H); (repeat rfl); intro w' H') | ((repeat (with_reducible apply Hp.set' 5)); (with_reducible exact H); (repeat rfl); intro w' H') | ((repeat (with_reducible apply Hp.set' 6)); (with_reducible exact H); (repeat rfl); intro w' H') | ((repeat (with_reducible apply Hp.set' 7)); (with_reducible exact H); (repeat rfl); intro w' H')); ((try simp only [List.set_cons_zero, List.set_cons_succ, List.setIfInBounds_toArray] at H'); clear C H; have H := H'; clear H'; have C := Hp.facts H; simp only [Facts, factsL, and_true, true_and, List.set_cons_zero, List.set_cons_succ, List.setIfInBounds_toArray] at C)) | go_values | go_skip | go_guarded | go_step | go_upon | go_back | (simp only [Int.not_lt, Int.not_le] at *; go_simp) | (go_values <;> (try go_simp)) | (go_ite <;> go_prune <;> (try go_simp)) | (split <;> (first | (rename_i hx; exact (hx _ rfl).elim) | go_prune))))
      refine bodyPost_ret (v := .tuple #[.int .i64 (l[k].toNat : Int), .int .i64 ((k : Int) + 1), .int .i64 0]) (by simp [results, go_sem]) rfl ?_
      rw [hR.out]
      exact ⟨rfl, H.low⟩
    · by_cases h2 : l[k].toNat = 128 ∨ 132 < l[k].toNat
      · have hR := Lib.hid (rdLen_bad hlt h1 h2)
        rcases h2 with h2 | h2
        · have e2 : ((l[k].toNat : Int) == 128) = true := by simp; omega
          go_enter Try.func66, Try.ntmps66
          (repeat' ((fail_if_success (with_reducible show bodyPost _ _ _ _ _ _)); first | ((with_reducible refine Hp.abs_alloc H ?_); intro b' w' H' hb'; (try simp only [hb']); clear hb'; ((try simp only [List.set_cons_zero, List.set_cons_succ, List.setIfInBounds_toArray] at H'); clear C H; have H := H'; clear H'; have C := Hp.facts H; simp only [Facts, factsL, and_true, true_and, List.set_cons_zero, List.set_cons_succ, List.setIfInBounds_toArray] at C)) | ((with_reducible show wpList _ _ _ _ _ (World.setCell _ _ _)); (with_reducible apply Hp.abs_gen H); (first | ((repeat (with_reducible apply Hp.set' 0)); (with_reducible exact H); (repeat rfl); intro w' H') | ((repeat (with_reducible apply Hp.set' 1)); (with_reducible exact H); (repeat rfl); intro w' H') | ((repeat (with_reducible apply Hp.set' 2)); (with_reducible exact H); (repeat rfl); intro w' H') | ((repeat (with_reducible apply Hp.set' 3)); (with_reducible exact H); (repeat rfl); intro w' H') | ((repeat (with_reducible apply Hp.set' 4)); (with_reducible exact H); (repeat rfl); intro w' H') | ((repeat (with_reducible apply Hp.set' 5)); (with_reducible exact H); (repeat rfl); intro w' H') | ((repeat (with_reducible apply Hp.set' 6)); (with_reducible exact H); (repeat rfl); intro w' H') | ((repeat (with_reducible apply Hp.set' 7)); (with_reducible exact H); (repeat rfl); intro w' H')); ((try simp only [List.set_cons_zero, List.set_cons_succ, List.setIfInBounds_toArray] at H'); clear C H; have H := H'; clear H'; have C := Hp.facts H; simp only [Facts, factsL, and_true, true_and, List.set_cons_zero, List.set_cons_succ, List.setIfInBounds_toArray] at C)) | go_values | go_skip | go_guarded | go_step | go_upon | go_back | (simp only [Int.not_lt, Int.not_le] at *; go_simp) | (go_values <;> (try go_simp)) | (go_ite <;> go_prune <;> (try go_simp)) | (split <;> (first | (rename_i hx; exact (hx _ rfl).elim) | go_prune))))
          refine bodyPost_ret (v := .tuple #[.int .i64 0, .int .i64 (k : Int), .int .i64 5]) (by simp [results, go_sem]) rfl ?_
          rw [hR.out]
          exact ⟨rfl, H.low⟩
        · have e2 : ((l[k].toNat : Int) == 128) = false := by simp; omega
          go_enter Try.func66, Try.ntmps66
          (repeat' ((fail_if_success (with_reducible show bodyPost _ _ _ _ _ _)); first | ((with_reducible refine Hp.abs_alloc H ?_); intro b' w' H' hb'; (try simp only [hb']); clear hb'; ((try simp only [List.set_cons_zero, List.set_cons_succ, List.setIfInBounds_toArray] at H'); clear C H; have H := H'; clear H'; have C := Hp.facts H; simp only [Facts, factsL, and_true, true_and, List.set_cons_zero, List.set_cons_succ, List.setIfInBounds_toArray] at C)) | ((with_reducible show wpList _ _ _ _ _ (World.setCell _ _ _)); (with_reducible apply Hp.abs_gen H); (first | ((repeat (with_reducible apply Hp.set' 0)); (with_reducible exact H); (repeat rfl); intro w' H') | ((repeat (with_reducible apply Hp.set' 1)); (with_reducible exact H); (repeat rfl); intro w' H') | ((repeat (with_reducible apply Hp.set' 2)); (with_reducible exact H); (repeat rfl); intro w' H') | ((repeat (with_reducible apply Hp.set' 3)); (with_reducible exact H); (repeat rfl); intro w' H') | ((repeat (with_reducible apply Hp.set' 4)); (with_reducible exact H); (repeat rfl); intro w' H') | ((repeat (with_reducible apply Hp.set' 5)); (with_reducible exact H); (repeat rfl); intro w' H') | ((repeat (with_reducible apply Hp.set' 6)); (with_reducible exact H); (repeat rfl); intro w' H') | ((repeat (with_reducible apply Hp.set' 7)); (with_reducible exact H); (repeat rfl); intro w' H')); ((try simp only [List.set_cons_zero, List.set_cons_succ, List.setIfInBounds_toArray] at H'); clear C H; have H := H'; clear H'; have C := Hp.facts H; simp only [Facts, factsL, and_true, true_and, List.set_cons_zero, List.set_cons_succ, List.setIfInBounds_toArray] at C)) | go_values | go_skip | go_guarded | go_step | go_upon | go_back | (simp only [Int.not_lt, Int.not_le] at *; go_simp) | (go_values <;> (try go_simp)) | (go_ite <;> go_prune <;> (try go_simp)) | (split <;> (first | (rename_i hx; exact (hx _ rfl).elim) | go_prune))))
          refine bodyPost_ret (v := .tuple #[.int .i64 0, .int .i64 (k : Int), .int .i64 5]) (by simp [results, go_sem]) rfl ?_
          rw [hR.out]
          exact ⟨rfl, H.low⟩
      · have hR := rdLen_long hlt h1 h2
        have e2 : ((l[k].toNat : Int) == 128) = false := by simp; omega
        have en : ((l[k].toNat : Int) - 128) = ((l[k].toNat - 128 : Nat) : Int) := by omega
        have h132 : decide ((132 : Int) < (l[k].toNat : Int)) = false := by simp; omega
        have gn : 1 ≤ l[k].toNat - 128 ∧ l[k].toNat - 128 ≤ 4 := by omega
        generalize hn : l[k].toNat - 128 = n at *
        clear hn
        by_cases hbig : l.length - (k + 1) < n
        · have gR := Lib.hid (show rdLen l k = (0, 3, k) by rw [hR]; unfold longR; rw [if_pos hbig]; rfl)
          clear hR
          go_enter Try.func66, Try.ntmps66
          (repeat' ((fail_if_success (with_reducible show bodyPost _ _ _ _ _ _)); first | ((with_reducible refine Hp.abs_alloc H ?_); intro b' w' H' hb'; (try simp only [hb']); clear hb'; ((try simp only [List.set_cons_zero, List.set_cons_succ, List.setIfInBounds_toArray] at H'); clear C H; have H := H'; clear H'; have C := Hp.facts H; simp only [Facts, factsL, and_true, true_and, List.set_cons_zero, List.set_cons_succ, List.setIfInBounds_toArray] at C)) | ((with_reducible show wpList _ _ _ _ _ (World.setCell _ _ _)); (with_reducible apply Hp.abs_gen H); (first | ((repeat (with_reducible apply Hp.set' 0)); (with_reducible exact H); (repeat rfl); intro w' H') | ((repeat (with_reducible apply Hp.set' 1)); (with_reducible exact H); (repeat rfl); intro w' H') | ((repeat (with_reducible apply Hp.set' 2)); (with_reducible exact H); (repeat rfl); intro w' H') | ((repeat (with_reducible apply Hp.set' 3)); (with_reducible exact H); (repeat rfl); intro w' H') | ((repeat (with_reducible apply Hp.set' 4)); (with_reducible exact H); (repeat rfl); intro w' H') | ((repeat (with_reducible apply Hp.set' 5)); (with_reducible exact H); (repeat rfl); intro w' H') | ((repeat (with_reducible apply Hp.set' 6)); (with_reducible exact H); (repeat rfl); intro w' H') | ((repeat (with_reducible apply Hp.set' 7)); (with_reducible exact H); (repeat rfl); intro w' H')); ((try simp only [List.set_cons_zero, List.set_cons_succ, List.setIfInBounds_toArray] at H'); clear C H; have H := H'; clear H'; have C := Hp.facts H; simp only [Facts, factsL, and_true, true_and, List.set_cons_zero, List.set_cons_succ, List.setIfInBounds_toArray] at C)) | go_values | go_skip | go_guarded | go_step | go_upon | go_back | (simp only [Int.not_lt, Int.not_le] at *; go_simp) | (go_values <;> (try go_simp)) | (go_ite <;> go_prune <;> (try go_simp)) | (split <;> (first | (rename_i hx; exact (hx _ rfl).elim) | go_prune))))
          refine bodyPost_ret (v := .tuple #[.int .i64 0, .int .i64 (k : Int), .int .i64 3]) (by simp [results, go_sem]) rfl ?_
          rw [gR.out]
          exact ⟨rfl, H.low⟩
        · have hkn : k + 1 + n ≤ l.length := by omega
          obtain ⟨bs, hbs⟩ : ∃ bs, (l.drop (k + 1)).take n = bs := ⟨_, rfl⟩
          have hbl2 : bs.length = n := by rw [← hbs]; simp; omega
          have hat : ∀ j (hj : j < bs.length), l[k + 1 + j]? = some bs[j] := by
            intro j hj
            have : bs[j]? = l[k + 1 + j]? := by rw [← hbs, List.getElem?_take, if_pos (by omega), List.getElem?_drop]
            rw [← this, List.getElem?_eq_getElem hj]
          have hlt2 := foldR_lt bs
          have hlR : longR l (k + 1) n = if (bs[0]?.getD 0).toNat = 0 ∨ foldR 0 bs < 128 then (0, 5, k + 1) else if 16777216 < foldR 0 bs then (0, 2, k + 1) else (foldR 0 bs, 0, k + 1 + n) := by
            unfold longR
            rw [if_neg hbig, hbs]
            have := hat 0 (by omega)
            rw [Nat.add_zero] at this
            rw [this, List.getElem?_eq_getElem (by omega)]
          have d39 : decide ((l.length : Int) - (k : Int) - 1 < (l[k].toNat : Int) - 128) = false := by simp; omega
          have gen := Lib.hid en
          clear en hbs
          subst hbl2
          have glR := Lib.hid hlR
          have gR := Lib.hid hR
          clear hlR hR h2 hbig
          go_enter Try.func66, Try.ntmps66
          (repeat' ((fail_if_success (with_reducible show bodyPost _ _ _ _ _ _)); first | ((with_reducible refine Hp.abs_alloc H ?_); intro b' w' H' hb'; (try simp only [hb']); clear hb'; ((try simp only [List.set_cons_zero, List.set_cons_succ, List.setIfInBounds_toArray] at H'); clear C H; have H := H'; clear H'; have C := Hp.facts H; simp only [Facts, factsL, and_true, true_and, List.set_cons_zero, List.set_cons_succ, List.setIfInBounds_toArray] at C)) | ((with_reducible show wpList _ _ _ _ _ (World.setCell _ _ _)); (with_reducible apply Hp.abs_gen H); (first | ((repeat (with_reducible apply Hp.set' 0)); (with_reducible exact H); (repeat rfl); intro w' H') | ((repeat (with_reducible apply Hp.set' 1)); (with_reducible exact H); (repeat rfl); intro w' H') | ((repeat (with_reducible apply Hp.set' 2)); (with_reducible exact H); (repeat rfl); intro w' H') | ((repeat (with_reducible apply Hp.set' 3)); (with_reducible exact H); (repeat rfl); intro w' H') | ((repeat (with_reducible apply Hp.set' 4)); (with_reducible exact H); (repeat rfl); intro w' H') | ((repeat (with_reducible apply Hp.set' 5)); (with_reducible exact H); (repeat rfl); intro w' H') | ((repeat (with_reducible apply Hp.set' 6)); (with_reducible exact H); (repeat rfl); intro w' H') | ((repeat (with_reducible apply Hp.set' 7)); (with_reducible exact H); (repeat rfl); intro w' H')); ((try simp only [List.set_cons_zero, List.set_cons_succ, List.setIfInBounds_toArray] at H'); clear C H; have H := H'; clear H'; have C := Hp.facts H; simp only [Facts, factsL, and_true, true_and, List.set_cons_zero, List.set_cons_succ, List.setIfInBounds_toArray] at C)) | go_values | go_skip | go_guarded | go_step | go_upon | go_back | (simp only [Int.not_lt, Int.not_le] at *; go_simp) | (go_values <;> (try go_simp)) | (go_ite <;> go_prune <;> (try go_simp)) | (split <;> (first | (rename_i hx; exact (hx _ rfl).elim) | go_prune))))
          rw [gen.out]
          (repeat' ((fail_if_success (with_reducible show bodyPost _ _ _ _ _ _)); first | ((with_reducible refine Hp.abs_alloc H ?_); intro b' w' H' hb'; (try simp only [hb']); clear hb'; ((try simp only [List.set_cons_zero, List.set_cons_succ, List.setIfInBounds_toArray] at H'); clear C H; have H := H'; clear H'; have C := Hp.facts H; simp only [Facts, factsL, and_true, true_and, List.set_cons_zero, List.set_cons_succ, List.setIfInBounds_toArray] at C)) | ((with_reducible show wpList _ _ _ _ _ (World.setCell _ _ _)); (with_reducible apply Hp.abs_gen H); (first | ((repeat (with_reducible apply Hp.set' 0)); (with_reducible exact H); (repeat rfl); intro w' H') | ((repeat (with_reducible apply Hp.set' 1)); (with_reducible exact H); (repeat rfl); intro w' H') | ((repeat (with_reducible apply Hp.set' 2)); (with_reducible exact H); (repeat rfl); intro w' H') | ((repeat (with_reducible apply Hp.set' 3)); (with_reducible exact H); (repeat rfl); intro w' H') | ((repeat (with_reducible apply Hp.set' 4)); (with_reducible exact H); (repeat rfl); intro w' H') | ((repeat (with_reducible apply Hp.set' 5)); (with_reducible exact H); (repeat rfl); intro w' H') | ((repeat (with_reducible apply Hp.set' 6)); (with_reducible exact H); (repeat rfl); intro w' H') | ((repeat (with_reducible apply Hp.set' 7)); (with_reducible exact H); (repeat rfl); intro w' H')); ((try simp only [List.set_cons_zero, List.set_cons_succ, List.setIfInBounds_toArray] at H'); clear C H; have H := H'; clear H'; have C := Hp.facts H; simp only [Facts, factsL, and_true, true_and, List.set_cons_zero, List.set_cons_succ, List.setIfInBounds_toArray] at C)) | go_values | go_skip | go_guarded | go_step | go_upon | go_back | (simp only [Int.not_lt, Int.not_le] at *; go_simp) | (go_values <;> (try go_simp)) | (go_ite <;> go_prune <;> (try go_simp)) | (split <;> (first | (rename_i hx; exact (hx _ rfl).elim) | go_prune))))
          go_loopw [9, 10] (fun ax ix wr => ∃ i : Nat, i ≤ bs.length ∧ ix = .int .i64 ((i : Int) + 1) ∧ ax = .int .i64 (foldR 0 (bs.take i) : Nat) ∧ Hp w [] wr) (fun _ ix _ => bs.length + 1 - (intOf ix).toNat)
          case atStart => exact ⟨0, Nat.zero_le _, rfl, rfl, H⟩
          case round =>
            clear H C
            obtain ⟨i, hi, rfl, rfl, H⟩ := hrel
            have C := Hp.facts H
            simp only [Facts, factsL, and_true, true_and, List.set_cons_zero, List.set_cons_succ, List.setIfInBounds_toArray] at C
            by_cases hil : i < bs.length
            · have hx := bs[i].toNat_lt
              have hq : w.cell? ⟨b, o + (k + (i + 1)), none⟩ = some (.int .u8 (bs[i].toNat : Int)) := by
                rw [show k + (i + 1) = k + 1 + i by omega, hc (k + 1 + i) (by omega)]
                have := hat i hil
                rw [List.getElem?_eq_getElem (by omega)] at this
                rw [Option.some.inj this]
              have hS := Lib.hid (show foldR 0 (bs.take (i + 1)) = 256 * foldR 0 (bs.take i) + bs[i].toNat by rw [List.take_succ_eq_append_getElem hil, foldR_snoc])
              have hF := foldR_lt (bs.take i)
              rw [List.length_take, Nat.min_eq_left (by omega)] at hF
              have hF2 : foldR 0 (bs.take i) < 16777216 := Nat.lt_of_lt_of_le hF (by
                rcases (by omega : i = 0 ∨ i = 1 ∨ i = 2 ∨ i = 3) with rfl | rfl | rfl | rfl <;> decide)
              have q1 : ((foldR 0 (bs.take i) : Nat) : Int) / 65536 ≤ 255 := by omega
              clear hF hF2
              generalize foldR 0 (bs.take i) = F at *
              generalize bs[i] = x at *
              clear hlt2 hat
              (repeat' ((fail_if_success (with_reducible show bodyPost _ _ _ _ _ _)); first | ((with_reducible refine Hp.abs_alloc H ?_); intro b' w' H' hb'; (try simp only [hb']); clear hb'; ((try simp only [List.set_cons_zero, List.set_cons_succ, List.setIfInBounds_toArray] at H'); clear C H; have H := H'; clear H'; have C := Hp.facts H; simp only [Facts, factsL, and_true, true_and, List.set_cons_zero, List.set_cons_succ, List.setIfInBounds_toArray] at C)) | ((with_reducible show wpList _ _ _ _ _ (World.setCell _ _ _)); (with_reducible apply Hp.abs_gen H); (first | ((repeat (with_reducible apply Hp.set' 0)); (with_reducible exact H); (repeat rfl); intro w' H') | ((repeat (with_reducible apply Hp.set' 1)); (with_reducible exact H); (repeat rfl); intro w' H') | ((repeat (with_reducible apply Hp.set' 2)); (with_reducible exact H); (repeat rfl); intro w' H') | ((repeat (with_reducible apply Hp.set' 3)); (with_reducible exact H); (repeat rfl); intro w' H') | ((repeat (with_reducible apply Hp.set' 4)); (with_reducible exact H); (repeat rfl); intro w' H') | ((repeat (with_reducible apply Hp.set' 5)); (with_reducible exact H); (repeat rfl); intro w' H') | ((repeat (with_reducible apply Hp.set' 6)); (with_reducible exact H); (repeat rfl); intro w' H') | ((repeat (with_reducible apply Hp.set' 7)); (with_reducible exact H); (repeat rfl); intro w' H')); ((try simp only [List.set_cons_zero, List.set_cons_succ, List.setIfInBounds_toArray] at H'); clear C H; have H := H'; clear H'; have C := Hp.facts H; simp only [Facts, factsL, and_true, true_and, List.set_cons_zero, List.set_cons_succ, List.setIfInBounds_toArray] at C)) | go_values | go_skip | go_guarded | go_step | go_upon | go_back | (simp only [Int.not_lt, Int.not_le] at *; go_simp) | (go_values <;> (try go_simp)) | (go_ite <;> go_prune <;> (try go_simp)) | (split <;> (first | (rename_i hx; exact (hx _ rfl).elim) | go_prune))))
              refine ⟨⟨i + 1, by omega, by go_num, ?_, H⟩, by simp [intOf]; omega⟩
              rw [hS.out]
              go_num
            · obtain rfl : i = bs.length := by omega
              rw [List.take_length]
              have h0 : 0 < bs.length := by omega
              have hx := bs[0].toNat_lt
              have hq : w.cell? ⟨b, o + (k + 1), none⟩ = some (.int .u8 (bs[0].toNat : Int)) := by
                rw [hc (k + 1) (by omega)]
                have := hat 0 h0
                rw [Nat.add_zero, List.getElem?_eq_getElem (by omega)] at this
                rw [Option.some.inj this]
              have hlt4 : foldR 0 bs < 4294967296 := Nat.lt_of_lt_of_le hlt2 (by
                rcases (by omega : bs.length = 1 ∨ bs.length = 2 ∨ bs.length = 3 ∨ bs.length = 4) with h | h | h | h <;> rw [h] <;> decide)
              have gl2 := glR.out
              have gR2 := gR.out
              rw [List.getElem?_eq_getElem h0] at gl2
              simp only [Option.getD_some] at gl2
              clear hat hlt2
              generalize foldR 0 bs = F at *
              generalize bs[0] = x at *
              by_cases hz : x.toNat = 0
              · have ez : ((x.toNat : Int) == 0) = true := by simp; omega
                rw [if_pos (.inl hz)] at gl2
                rw [gl2] at gR2
                have gR3 := Lib.hid gR2
                skip
                clear gR gR2 gl2 glR hlt4
                (repeat' ((fail_if_success (with_reducible show bodyPost _ _ _ _ _ _)); first | ((with_reducible refine Hp.abs_alloc H ?_); intro b' w' H' hb'; (try simp only [hb']); clear hb'; ((try simp only [List.set_cons_zero, List.set_cons_succ, List.setIfInBounds_toArray] at H'); clear C H; have H := H'; clear H'; have C := Hp.facts H; simp only [Facts, factsL, and_true, true_and, List.set_cons_zero, List.set_cons_succ, List.setIfInBounds_toArray] at C)) | ((with_reducible show wpList _ _ _ _ _ (World.setCell _ _ _)); (with_reducible apply Hp.abs_gen H); (first | ((repeat (with_reducible apply Hp.set' 0)); (with_reducible exact H); (repeat rfl); intro w' H') | ((repeat (with_reducible apply Hp.set' 1)); (with_reducible exact H); (repeat rfl); intro w' H') | ((repeat (with_reducible apply Hp.set' 2)); (with_reducible exact H); (repeat rfl); intro w' H') | ((repeat (with_reducible apply Hp.set' 3)); (with_reducible exact H); (repeat rfl); intro w' H') | ((repeat (with_reducible apply Hp.set' 4)); (with_reducible exact H); (repeat rfl); intro w' H') | ((repeat (with_reducible apply Hp.set' 5)); (with_reducible exact H); (repeat rfl); intro w' H') | ((repeat (with_reducible apply Hp.set' 6)); (with_reducible exact H); (repeat rfl); intro w' H') | ((repeat (with_reducible apply Hp.set' 7)); (with_reducible exact H); (repeat rfl); intro w' H')); ((try simp only [List.set_cons_zero, List.set_cons_succ, List.setIfInBounds_toArray] at H'); clear C H; have H := H'; clear H'; have C := Hp.facts H; simp only [Facts, factsL, and_true, true_and, List.set_cons_zero, List.set_cons_succ, List.setIfInBounds_toArray] at C)) | go_values | go_skip | go_guarded | go_step | go_upon | go_back | (simp only [Int.not_lt, Int.not_le] at *; go_simp) | (go_values <;> (try go_simp)) | (go_ite <;> go_prune <;> (try go_simp)) | (split <;> (first | (rename_i hx; exact (hx _ rfl).elim) | go_prune))))
                refine bodyPost_ret (v := .tuple #[.int .i64 0, .int .i64 (k : Int), .int .i64 5]) (by simp [results, go_sem]) rfl ?_
                rw [gR3.out]
                exact ⟨rfl, H.low⟩
              · have ez : ((x.toNat : Int) == 0) = false := by simp; omega
                by_cases hs : F < 128
                · rw [if_pos (.inr hs)] at gl2
                  rw [gl2] at gR2
                  have gR3 := Lib.hid gR2
                  have d1 : decide ((F : Int) < 128) = true := by simp; omega
                  clear gR gR2 gl2 glR hlt4
                  (repeat' ((fail_if_success (with_reducible show bodyPost _ _ _ _ _ _)); first | ((with_reducible refine Hp.abs_alloc H ?_); intro b' w' H' hb'; (try simp only [hb']); clear hb'; ((try simp only [List.set_cons_zero, List.set_cons_succ, List.setIfInBounds_toArray] at H'); clear C H; have H := H'; clear H'; have C := Hp.facts H; simp only [Facts, factsL, and_true, true_and, List.set_cons_zero, List.set_cons_succ, List.setIfInBounds_toArray] at C)) | ((with_reducible show wpList _ _ _ _ _ (World.setCell _ _ _)); (with_reducible apply Hp.abs_gen H); (first | ((repeat (with_reducible apply Hp.set' 0)); (with_reducible exact H); (repeat rfl); intro w' H') | ((repeat (with_reducible apply Hp.set' 1)); (with_reducible exact H); (repeat rfl); intro w' H') | ((repeat (with_reducible apply Hp.set' 2)); (with_reducible exact H); (repeat rfl); intro w' H') | ((repeat (with_reducible apply Hp.set' 3)); (with_reducible exact H); (repeat rfl); intro w' H') | ((repeat (with_reducible apply Hp.set' 4)); (with_reducible exact H); (repeat rfl); intro w' H') | ((repeat (with_reducible apply Hp.set' 5)); (with_reducible exact H); (repeat rfl); intro w' H') | ((repeat (with_reducible apply Hp.set' 6)); (with_reducible exact H); (repeat rfl); intro w' H') | ((repeat (with_reducible apply Hp.set' 7)); (with_reducible exact H); (repeat rfl); intro w' H')); ((try simp only [List.set_cons_zero, List.set_cons_succ, List.setIfInBounds_toArray] at H'); clear C H; have H := H'; clear H'; have C := Hp.facts H; simp only [Facts, factsL, and_true, true_and, List.set_cons_zero, List.set_cons_succ, List.setIfInBounds_toArray] at C)) | go_values | go_skip | go_guarded | go_step | go_upon | go_back | (simp only [Int.not_lt, Int.not_le] at *; go_simp) | (go_values <;> (try go_simp)) | (go_ite <;> go_prune <;> (try go_simp)) | (split <;> (first | (rename_i hx; exact (hx _ rfl).elim) | go_prune))))
                  refine bodyPost_ret (v := .tuple #[.int .i64 0, .int .i64 (k : Int), .int .i64 5]) (by simp [results, go_sem]) rfl ?_
                  rw [gR3.out]
                  exact ⟨rfl, H.low⟩
                · rw [if_neg (by omega)] at gl2
                  by_cases hbg : 16777216 < F
                  · rw [if_pos hbg] at gl2
                    rw [gl2] at gR2
                    have gR3 := Lib.hid gR2
                    have d1 : decide ((F : Int) < 128) = false := by simp; omega
                    have d2 : decide ((16777216 : Int) < (F : Int)) = true := by simp; omega
                    clear hbg hs
                    clear gR gR2 gl2 glR hlt4
                    (repeat' ((fail_if_success (with_reducible show bodyPost _ _ _ _ _ _)); first | ((with_reducible refine Hp.abs_alloc H ?_); intro b' w' H' hb'; (try simp only [hb']); clear hb'; ((try simp only [List.set_cons_zero, List.set_cons_succ, List.setIfInBounds_toArray] at H'); clear C H; have H := H'; clear H'; have C := Hp.facts H; simp only [Facts, factsL, and_true, true_and, List.set_cons_zero, List.set_cons_succ, List.setIfInBounds_toArray] at C)) | ((with_reducible show wpList _ _ _ _ _ (World.setCell _ _ _)); (with_reducible apply Hp.abs_gen H); (first | ((repeat (with_reducible apply Hp.set' 0)); (with_reducible exact H); (repeat rfl); intro w' H') | ((repeat (with_reducible apply Hp.set' 1)); (with_reducible exact H); (repeat rfl); intro w' H') | ((repeat (with_reducible apply Hp.set' 2)); (with_reducible exact H); (repeat rfl); intro w' H') | ((repeat (with_reducible apply Hp.set' 3)); (with_reducible exact H); (repeat rfl); intro w' H') | ((repeat (with_reducible apply Hp.set' 4)); (with_reducible exact H); (repeat rfl); intro w' H') | ((repeat (with_reducible apply Hp.set' 5)); (with_reducible exact H); (repeat rfl); intro w' H') | ((repeat (with_reducible apply Hp.set' 6)); (with_reducible exact H); (repeat rfl); intro w' H') | ((repeat (with_reducible apply Hp.set' 7)); (with_reducible exact H); (repeat rfl); intro w' H')); ((try simp only [List.set_cons_zero, List.set_cons_succ, List.setIfInBounds_toArray] at H'); clear C H; have H := H'; clear H'; have C := Hp.facts H; simp only [Facts, factsL, and_true, true_and, List.set_cons_zero, List.set_cons_succ, List.setIfInBounds_toArray] at C)) | go_values | go_skip | go_guarded | go_step | go_upon | go_back | (simp only [Int.not_lt, Int.not_le] at *; go_simp) | (go_values <;> (try go_simp)) | (go_ite <;> go_prune <;> (try go_simp)) | (split <;> (first | (rename_i hx; exact (hx _ rfl).elim) | go_prune))))
                    refine bodyPost_ret (v := .tuple #[.int .i64 0, .int .i64 (k : Int), .int .i64 2]) (by simp [results, go_sem]) rfl ?_
                    rw [gR3.out]
                    exact ⟨rfl, H.low⟩
                  · rw [if_neg hbg] at gl2
                    rw [gl2] at gR2
                    have gR3 := Lib.hid gR2
                    have d1 : decide ((F : Int) < 128) = false := by simp; omega
                    have d2 : decide ((16777216 : Int) < (F : Int)) = false := by simp; omega
                    clear hbg hs
                    clear gR gR2 gl2 glR hlt4
                    (repeat' ((fail_if_success (with_reducible show bodyPost _ _ _ _ _ _)); first | ((with_reducible refine Hp.abs_alloc H ?_); intro b' w' H' hb'; (try simp only [hb']); clear hb'; ((try simp only [List.set_cons_zero, List.set_cons_succ, List.setIfInBounds_toArray] at H'); clear C H; have H := H'; clear H'; have C := Hp.facts H; simp only [Facts, factsL, and_true, true_and, List.set_cons_zero, List.set_cons_succ, List.setIfInBounds_toArray] at C)) | ((with_reducible show wpList _ _ _ _ _ (World.setCell _ _ _)); (with_reducible apply Hp.abs_gen H); (first | ((repeat (with_reducible apply Hp.set' 0)); (with_reducible exact H); (repeat rfl); intro w' H') | ((repeat (with_reducible apply Hp.set' 1)); (with_reducible exact H); (repeat rfl); intro w' H') | ((repeat (with_reducible apply Hp.set' 2)); (with_reducible exact H); (repeat rfl); intro w' H') | ((repeat (with_reducible apply Hp.set' 3)); (with_reducible exact H); (repeat rfl); intro w' H') | ((repeat (with_reducible apply Hp.set' 4)); (with_reducible exact H); (repeat rfl); intro w' H') | ((repeat (with_reducible apply Hp.set' 5)); (with_reducible exact H); (repeat rfl); intro w' H') | ((repeat (with_reducible apply Hp.set' 6)); (with_reducible exact H); (repeat rfl); intro w' H') | ((repeat (with_reducible apply Hp.set' 7)); (with_reducible exact H); (repeat rfl); intro w' H')); ((try simp only [List.set_cons_zero, List.set_cons_succ, List.setIfInBounds_toArray] at H'); clear C H; have H := H'; clear H'; have C := Hp.facts H; simp only [Facts, factsL, and_true, true_and, List.set_cons_zero, List.set_cons_succ, List.setIfInBounds_toArray] at C)) | go_values | go_skip | go_guarded | go_step | go_upon | go_back | (simp only [Int.not_lt, Int.not_le] at *; go_simp) | (go_values <;> (try go_simp)) | (go_ite <;> go_prune <;> (try go_simp)) | (split <;> (first | (rename_i hx; exact (hx _ rfl).elim) | go_prune))))
                    refine bodyPost_ret (v := .tuple #[.int .i64 (F : Int), .int .i64 ((k : Int) + (bs.length : Int) + 1), .int .i64 0]) (by simp [results, go_sem]) rfl ?_
                    rw [gR3.out]
                    exact ⟨by simp only [Ending.returned.injEq, if_true]; congr <;> omega, H.low⟩
  · have hR := Lib.hid (rdLen_none (show l.length ≤ k by omega))
    go_enter Try.func66, Try.ntmps66
    (repeat' ((fail_if_success (with_reducible show bodyPost _ _ _ _ _ _)); first | ((with_reducible refine Hp.abs_alloc H ?_); intro b' w' H' hb'; (try simp only [hb']); clear hb'; ((try simp only [List.set_cons_zero, List.set_cons_succ, List.setIfInBounds_toArray] at H'); clear C H; have H := H'; clear H'; have C := Hp.facts H; simp only [Facts, factsL, and_true, true_and, List.set_cons_zero, List.set_cons_succ, List.setIfInBounds_toArray] at C)) | ((with_reducible show wpList _ _ _ _ _ (World.setCell _ _ _)); (with_reducible apply Hp.abs_gen H); (first | ((repeat (with_reducible apply Hp.set' 0)); (with_reducible exact H); (repeat rfl); intro w' H') | ((repeat (with_reducible apply Hp.set' 1)); (with_reducible exact H); (repeat rfl); intro w' H') | ((repeat (with_reducible apply Hp.set' 2)); (with_reducible exact H); (repeat rfl); intro w' H') | ((repeat (with_reducible apply Hp.set' 3)); (with_reducible exact H); (repeat rfl); intro w' H') | ((repeat (with_reducible apply Hp.set' 4)); (with_reducible exact H); (repeat rfl); intro w' H') | ((repeat (with_reducible apply Hp.set' 5)); (with_reducible exact H); (repeat rfl); intro w' H') | ((repeat (with_reducible apply Hp.set' 6)); (with_reducible exact H); (repeat rfl); intro w' H') | ((repeat (with_reducible apply Hp.set' 7)); (with_reducible exact H); (repeat rfl); intro w' H')); ((try simp only [List.set_cons_zero, List.set_cons_succ, List.setIfInBounds_toArray] at H'); clear C H; have H := H'; clear H'; have C := Hp.facts H; simp only [Facts, factsL, and_true, true_and, List.set_cons_zero, List.set_cons_succ, List.setIfInBounds_toArray] at C)) | go_values | go_skip | go_guarded | go_step | go_upon | go_back | (simp only [Int.not_lt, Int.not_le] at *; go_simp) | (go_values <;> (try go_simp)) | (go_ite <;> go_prune <;> (try go_simp)) | (split <;> (first | (rename_i hx; exact (hx _ rfl).elim) | go_prune))))
    refine bodyPost_ret (v := .tuple #[.int .i64 0, .int .i64 (k : Int), .int .i64 3]) (by simp [results, go_sem]) rfl ?_
    rw [hR.out]
    exact ⟨rfl, H.low⟩
end Go.Proofs.Ytogliinfdfkobaa

