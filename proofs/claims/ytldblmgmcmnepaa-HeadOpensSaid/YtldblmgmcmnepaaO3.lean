/- Lemmas and walks on the way to the seat's laws; each theorem says its own conditions. -/
import Derived.Test.YtldblmgmcmnepaaO2
set_option linter.unusedSimpArgs false
set_option linter.unusedVariables false
set_option maxRecDepth 100000
namespace Go.Proofs.Ytldblmgmcmnepaa
open Go.RowKit Go.Mem Go.Reg Oct
theorem value_any (c : Int) (h0 : 0 ≤ c) (h1 : c ≤ 255) (w : World) :
    Calls Try.prog 122 #[.int .u8 c] w fun e w' => e = .returned (.int .u8 (valI c)) ∧ w = w' := by
  go_enter Try.func122, Try.ntmps122
  go_wp2
  all_goals
    go_ret
    exact ⟨ret_u8 (by unfold valI; omega), rfl⟩
theorem or_hex : ∀ p, p < 16 → ∀ r, r < 16 → bits BinOp.or IntKind.u8 ((p : Nat) * 16 : Int) ((r : Nat) : Int) = 16 * (p : Int) + r := by decide
theorem or_hexI {P R : Int} (h1 : 0 ≤ P ∧ P ≤ 15) (h2 : 0 ≤ R ∧ R ≤ 15) : bits BinOp.or IntKind.u8 (P * 16) R = 16 * P + R := by
  have := or_hex P.toNat (by omega) R.toNat (by omega)
  rwa [Int.toNat_of_nonneg h1.1, Int.toNat_of_nonneg h2.1] at this
theorem strAt (s : ByteArray) (j : Nat) (h : j < s.size) (h' : j < s.data.toList.length) : s.data.toList[j] = s[j] := rfl
/-- What a parser of hex tells. -/
def UnhPost (w : World) (bad : Value) (l : List UInt8) (ok : Value) (e : Ending) (w' : World) : Prop :=
  (match unh l with
    | some xs => ∃ v, e = .returned (.tuple #[v, ok]) ∧ w'.ownsRow w.heap.size 5 1 v xs.length (xs.map u8c)
    | none => e = .returned (.tuple #[.slice none 0 0, bad])) ∧ Below w.heap.size w w'
theorem ownsOf {w0 w : World} {L : List Ent} (H : Hp w0 L w) (i : Nat) {e : TypeId} {size : Nat} {v : Value} {n : Nat} {xs : List Value} (hi : L[i]? = some (.row e size v n xs)) : w.ownsRow w0.heap.size e size v n xs := H.ok _ (List.mem_of_getElem? hi)
set_option maxHeartbeats 2000000 in
theorem unhex_any (s : ByteArray) (w : World) (hl : s.size ≤ 100000) :
    Calls Try.prog 114 #[.string s] w (UnhPost w (.int .i64 6) s.data.toList (.int .i64 0)) := by
  obtain ⟨i0, hi, hz0, hz1, hz2⟩ := info_parts info_u8
  have H := Hp.start w
  have C : True := trivial
  have hsz : s.data.toList.length = s.size := Array.length_toList
  have gsz := Lib.hid hsz
  clear hsz
  go_enter Try.func114, Try.ntmps114
  (repeat' ((fail_if_success (with_reducible show bodyPost _ _ _ _ _ _)); first | ((with_reducible refine Hp.abs_alloc H ?_); intro b' w' H' hb'; (try simp only [hb']); clear hb'; ((try simp only [List.set_cons_zero, List.set_cons_succ, List.setIfInBounds_toArray] at H'); clear C H; have H := H'; clear H'; have C := Hp.facts H; simp only [Facts, factsL, and_true, true_and, List.set_cons_zero, List.set_cons_succ, List.setIfInBounds_toArray] at C)) | ((with_reducible show wpList _ _ _ _ _ (World.setCell _ _ _)); (with_reducible apply Hp.abs_gen H); (first | ((repeat (with_reducible apply Hp.set' 0)); (with_reducible exact H); (repeat rfl); intro w' H') | ((repeat (with_reducible apply Hp.set' 1)); (with_reducible exact H); (repeat rfl); intro w' H') | ((repeat (with_reducible apply Hp.set' 2)); (with_reducible exact H); (repeat rfl); intro w' H') | ((repeat (with_reducible apply Hp.set' 3)); (with_reducible exact H); (repeat rfl); intro w' H') | ((repeat (with_reducible apply Hp.set' 4)); (with_reducible exact H); (repeat rfl); intro w' H') | ((repeat (with_reducible apply Hp.set' 5)); (with_reducible exact H); (repeat rfl); intro w' H') | ((repeat (with_reducible apply Hp.set' 6)); (with_reducible exact H); (repeat rfl); intro w' H') | ((repeat (with_reducible apply Hp.set' 7)); (with_reducible exact H); (repeat rfl); intro w' H')); ((try simp only [List.set_cons_zero, List.set_cons_succ, List.setIfInBounds_toArray] at H'); clear C H; have H := H'; clear H'; have C := Hp.facts H; simp only [Facts, factsL, and_true, true_and, List.set_cons_zero, List.set_cons_succ, List.setIfInBounds_toArray] at C)) | (at_make; refine wpList_make_hp H rfl _ _ _ rfl Try.underlying23 hi hz0 hz1 (s.size / 2) rfl rfl (by omega) (by rw [hz2]; omega) (by unfold maxLen; omega) ?_; intro v' w' H'; ((try simp only [List.set_cons_zero, List.set_cons_succ, List.setIfInBounds_toArray] at H'); clear C H; have H := H'; clear H'; have C := Hp.facts H; simp only [Facts, factsL, and_true, true_and, List.set_cons_zero, List.set_cons_succ, List.setIfInBounds_toArray] at C)) | go_values | go_skip | go_guarded | go_step | go_upon | go_back | (simp only [Int.not_lt, Int.not_le] at *; go_simp) | (go_values <;> (try go_simp)) | (go_ite <;> go_prune <;> (try go_simp)) | (split <;> (first | (rename_i hx; exact (hx _ rfl).elim) | go_prune))))
  · have hn : unh s.data.toList = none := unh_odd _ (by have := gsz.out; have h : ((s.size : Int) % 2 != 0) = true := (by assumption); simp at h; omega)
    refine bodyPost_ret (v := .tuple #[.slice none 0 0, .int .i64 6]) (by simp [results, go_sem]) rfl ⟨?_, H.low⟩
    rw [hn]
  · have hev := Lib.hid (show s.size % 2 = 0 by have h : ((s.size : Int) % 2 != 0) = false := (by assumption); simp at h; omega)
    rename_i hh KK aa
    clear hh
    go_loopw [4, 5] (fun out ix wr => ∃ (j : Nat) (xs : List UInt8), j ≤ s.size ∧ ix = .int .i64 j ∧ Hid (j % 2 = 0 ∧ 2 * xs.length = j ∧ unh (s.data.toList.take j) = some xs) ∧ Hp w [.row 5 1 out xs.length (xs.map u8c)] wr) (fun _ ix _ => s.size - (intOf ix).toNat)
    case atStart => exact ⟨0, [], Nat.zero_le _, rfl, ⟨rfl, rfl, rfl⟩, H⟩
    case round =>
      clear H C
      obtain ⟨j, xs, hj, rfl, HJ, H⟩ := hrel
      have C := Hp.facts H
      simp only [Facts, factsL, and_true, true_and, List.set_cons_zero, List.set_cons_succ, List.setIfInBounds_toArray] at C
      by_cases hlt : j + 1 < s.size
      · have hj1 : j < s.size := by omega
        have u1 := s[j].toNat_lt
        have b1 : (0 : Int) ≤ (j : Int) + 1 := by omega
        have b2 : (j : Int) + 1 < (s.size : Int) := by omega
        have u2 := s[j + 1].toNat_lt
        obtain ⟨P, hP⟩ : ∃ P, valI (s[j].toNat : Int) = P := ⟨_, rfl⟩
        obtain ⟨R, hR⟩ : ∃ R, valI (s[j + 1].toNat : Int) = R := ⟨_, rfl⟩
        have gP := valI_bd s[j]
        have gR := valI_bd s[j + 1]
        rw [hP] at gP
        rw [hR] at gR
        have eP := Lib.hid hP
        have eR := Lib.hid hR
        clear hP hR
        (repeat' ((fail_if_success (with_reducible show bodyPost _ _ _ _ _ _)); first | ((with_reducible refine Hp.abs_alloc H ?_); intro b' w' H' hb'; (try simp only [hb']); clear hb'; ((try simp only [List.set_cons_zero, List.set_cons_succ, List.setIfInBounds_toArray] at H'); clear C H; have H := H'; clear H'; have C := Hp.facts H; simp only [Facts, factsL, and_true, true_and, List.set_cons_zero, List.set_cons_succ, List.setIfInBounds_toArray] at C)) | ((with_reducible show wpList _ _ _ _ _ (World.setCell _ _ _)); (with_reducible apply Hp.abs_gen H); (first | ((repeat (with_reducible apply Hp.set' 0)); (with_reducible exact H); (repeat rfl); intro w' H') | ((repeat (with_reducible apply Hp.set' 1)); (with_reducible exact H); (repeat rfl); intro w' H') | ((repeat (with_reducible apply Hp.set' 2)); (with_reducible exact H); (repeat rfl); intro w' H') | ((repeat (with_reducible apply Hp.set' 3)); (with_reducible exact H); (repeat rfl); intro w' H') | ((repeat (with_reducible apply Hp.set' 4)); (with_reducible exact H); (repeat rfl); intro w' H') | ((repeat (with_reducible apply Hp.set' 5)); (with_reducible exact H); (repeat rfl); intro w' H') | ((repeat (with_reducible apply Hp.set' 6)); (with_reducible exact H); (repeat rfl); intro w' H') | ((repeat (with_reducible apply Hp.set' 7)); (with_reducible exact H); (repeat rfl); intro w' H')); ((try simp only [List.set_cons_zero, List.set_cons_succ, List.setIfInBounds_toArray] at H'); clear C H; have H := H'; clear H'; have C := Hp.facts H; simp only [Facts, factsL, and_true, true_and, List.set_cons_zero, List.set_cons_succ, List.setIfInBounds_toArray] at C)) | go_values | go_skip | go_guarded | go_step | go_upon | go_back | (simp only [Int.not_lt, Int.not_le] at *; go_simp) | (go_values <;> (try go_simp)) | (go_ite <;> go_prune <;> (try go_simp)) | (split <;> (first | (rename_i hx; exact (hx _ rfl).elim) | go_prune))))
        refine region_bt 9 45 [9, 9, 9, 9, 7, 6, 7, 8, 9] [some 22, some 23, some 24, some 25, some 26, some 27, some 28, some 29, some 30] [[], [], [0, 1], [2], [], [], [5], [4, 6], [7]] [fun v _ => v = .string s, fun v _ => v = .int .i64 (j : Int), fun v _ => v = .int .u8 (s[j].toNat : Int), fun v _ => v = .int .u8 P, fun v _ => v = .string s, fun v _ => v = .int .i64 (j : Int), fun v _ => v = .int .i64 ((j : Int) + 1), fun v _ => v = .int .u8 (s[j + 1].toNat : Int), fun v _ => v = .int .u8 R] (by kernel_rfl) (by kernel_rfl) (by kernel_rfl) rfl (by kernel_rfl) rfl _ (fun vs => (by simp only [fillD, Nat.reduceAdd, Act.put, List.setIfInBounds_toArray, List.set_cons_zero, List.set_cons_succ]; rfl)) ?_ ?_ ?_
        · refine ⟨fun _ _ _ _ h => h, fun _ _ _ _ h => h, fun _ _ _ _ h => h, fun _ _ _ _ h => h, fun _ _ _ _ h => h, fun _ _ _ _ h => h, fun _ _ _ _ h => h, fun _ _ _ _ h => h, fun _ _ _ _ h => h, trivial⟩
        · refine ⟨?_, ?_, ?_, ?_, ?_, ?_, ?_, ?_, ?_, trivial⟩
          · intro vs w' K hJ hR hK
            rw [if_pos (by rfl)]
            go_step
            exact hK.out _ _ (Below.refl _ _) (rfl)
          · intro vs w' K hJ hR hK
            rw [if_pos (by rfl)]
            go_step
            exact hK.out _ _ (Below.refl _ _) (rfl)
          · intro vs w' K hJ hR hK
            simp only [DepJ, List.getD_cons_zero, List.getD_cons_succ] at hJ
            obtain ⟨j0, j1, -⟩ := hJ
            simp only [j0, j1] at hK ⊢
            rw [if_pos (by rfl)]
            go_step
            exact hK.out _ _ (Below.refl _ _) (rfl)
          · intro vs w' K hJ hR hK
            simp only [DepJ, List.getD_cons_zero, List.getD_cons_succ] at hJ
            obtain ⟨j2, -⟩ := hJ
            simp only [j2] at hK ⊢
            rw [if_pos (by rfl)]
            go_step
            refine (value_any _ (by omega) (by omega) _).mono ?_
            rintro e' w' ⟨rfl, rfl⟩
            exact hK.out _ _ (BelowR.refl _) (by rw [eP.out])
          · intro vs w' K hJ hR hK
            rw [if_pos (by rfl)]
            go_step
            exact hK.out _ _ (Below.refl _ _) (rfl)
          · intro vs w' K hJ hR hK
            rw [if_pos (by rfl)]
            go_step
            exact hK.out _ _ (Below.refl _ _) (rfl)
          · intro vs w' K hJ hR hK
            simp only [DepJ, List.getD_cons_zero, List.getD_cons_succ] at hJ
            obtain ⟨j5, -⟩ := hJ
            simp only [j5] at hK ⊢
            rw [if_pos (by rfl)]
            go_step
            exact hK.out _ _ (Below.refl _ _) (rfl)
          · intro vs w' K hJ hR hK
            simp only [DepJ, List.getD_cons_zero, List.getD_cons_succ] at hJ
            obtain ⟨j4, j6, -⟩ := hJ
            simp only [j4, j6] at hK ⊢
            rw [if_pos (by rfl)]
            go_step
            exact hK.out _ _ (Below.refl _ _) (rfl)
          · intro vs w' K hJ hR hK
            simp only [DepJ, List.getD_cons_zero, List.getD_cons_succ] at hJ
            obtain ⟨j7, -⟩ := hJ
            simp only [j7] at hK ⊢
            rw [if_pos (by rfl)]
            go_step
            refine (value_any _ (by omega) (by omega) _).mono ?_
            rintro e' w' ⟨rfl, rfl⟩
            exact hK.out _ _ (BelowR.refl _) (by rw [eR.out])
        intro vs w' hJ hR
        simp only [AllJ, Nat.reduceAdd] at hJ
        obtain ⟨v0, v1, v2, v3, v4, v5, v6, v7, v8, -⟩ := hJ
        simp only [List.drop_succ_cons, List.drop_zero]
        simp only [v3, v8]
        have H' := Hp.step H.drew hR
        ((try simp only [List.set_cons_zero, List.set_cons_succ, List.setIfInBounds_toArray] at H'); clear C H; have H := H'; clear H'; have C := Hp.facts H; simp only [Facts, factsL, and_true, true_and, List.set_cons_zero, List.set_cons_succ, List.setIfInBounds_toArray] at C)
        clear v0 v1 v2 v3 v4 v5 v6 v7 v8
        by_cases hok : P ≤ 15 ∧ R ≤ 15
        · obtain ⟨hp15, hr15⟩ := hok
          (repeat' ((fail_if_success (with_reducible show bodyPost _ _ _ _ _ _)); first | ((with_reducible refine Hp.abs_alloc H ?_); intro b' w' H' hb'; (try simp only [hb']); clear hb'; ((try simp only [List.set_cons_zero, List.set_cons_succ, List.setIfInBounds_toArray] at H'); clear C H; have H := H'; clear H'; have C := Hp.facts H; simp only [Facts, factsL, and_true, true_and, List.set_cons_zero, List.set_cons_succ, List.setIfInBounds_toArray] at C)) | ((with_reducible show wpList _ _ _ _ _ (World.setCell _ _ _)); (with_reducible apply Hp.abs_gen H); (first | ((repeat (with_reducible apply Hp.set' 0)); (with_reducible exact H); (repeat rfl); intro w' H') | ((repeat (with_reducible apply Hp.set' 1)); (with_reducible exact H); (repeat rfl); intro w' H') | ((repeat (with_reducible apply Hp.set' 2)); (with_reducible exact H); (repeat rfl); intro w' H') | ((repeat (with_reducible apply Hp.set' 3)); (with_reducible exact H); (repeat rfl); intro w' H') | ((repeat (with_reducible apply Hp.set' 4)); (with_reducible exact H); (repeat rfl); intro w' H') | ((repeat (with_reducible apply Hp.set' 5)); (with_reducible exact H); (repeat rfl); intro w' H') | ((repeat (with_reducible apply Hp.set' 6)); (with_reducible exact H); (repeat rfl); intro w' H') | ((repeat (with_reducible apply Hp.set' 7)); (with_reducible exact H); (repeat rfl); intro w' H')); ((try simp only [List.set_cons_zero, List.set_cons_succ, List.setIfInBounds_toArray] at H'); clear C H; have H := H'; clear H'; have C := Hp.facts H; simp only [Facts, factsL, and_true, true_and, List.set_cons_zero, List.set_cons_succ, List.setIfInBounds_toArray] at C)) | (at_builtin; refine wpList_append_hp H 1 rfl _ _ _ rfl Try.underlying23 hi hz0 hz1 hz2 rfl (by decide) rfl rfl rfl (news := [_]) rfl (fun h => by cases h) (fun _ => ⟨_, rfl, blk_news (H.get 0 rfl)⟩) (by simp [Value.oneCell']) (by unfold maxLen; have := HJ.out; omega) (by have := HJ.out; omega) ?_; intro v' w' H'; ((try simp only [List.set_cons_zero, List.set_cons_succ, List.setIfInBounds_toArray] at H'); clear C H; have H := H'; clear H'; have C := Hp.facts H; simp only [Facts, factsL, and_true, true_and, List.set_cons_zero, List.set_cons_succ, List.setIfInBounds_toArray] at C)) | go_values | go_skip | go_guarded | go_step | go_upon | go_back | (simp only [Int.not_lt, Int.not_le] at *; go_simp) | (go_values <;> (try go_simp)) | (go_ite <;> go_prune <;> (try go_simp)) | (split <;> (first | (rename_i hx; exact (hx _ rfl).elim) | go_prune))))
          obtain ⟨h1, h2, h3⟩ := HJ.out
          have hlen := gsz.out
          have hA : okB s.data.toList[j] = true := by rw [strAt s j hj1]; simp [okB, eP.out]; omega
          have hB : okB s.data.toList[j + 1] = true := by rw [strAt s (j + 1) hlt]; simp [okB, eR.out]; omega
          have hst := unh_step (by omega) h1 h3 hA hB
          refine ⟨⟨j + 2, xs ++ [two s.data.toList[j] s.data.toList[j + 1]], by omega, by go_num, ⟨by omega, by simp; omega, hst⟩, ?_⟩, by simp [intOf]; omega⟩
          have H2 := H.tail
          rw [or_hexI ⟨by omega, by omega⟩ ⟨by omega, by omega⟩] at H2
          rw [List.map_append, List.map_singleton, u8c_two _ _ hA hB, strAt s j hj1, strAt s (j + 1) hlt, eP.out, eR.out, List.length_append]
          exact H2
        · obtain ⟨h1, h2, h3⟩ := HJ.out
          have hlen := gsz.out
          have hn : unh s.data.toList = none := by
            refine unh_bad (j := j) (xs := xs) (by omega) h1 h3 ?_
            rw [strAt s j hj1, strAt s (j + 1) hlt]
            simp only [okB, eP.out, eR.out, ← Bool.decide_and, decide_eq_false_iff_not]
            exact hok
          have gn := Lib.hid hn
          clear hn h1 h2 h3 hlen
          rcases Int.lt_or_le 15 P with hp | hp
          · (repeat' ((fail_if_success (with_reducible show bodyPost _ _ _ _ _ _)); first | ((with_reducible refine Hp.abs_alloc H ?_); intro b' w' H' hb'; (try simp only [hb']); clear hb'; ((try simp only [List.set_cons_zero, List.set_cons_succ, List.setIfInBounds_toArray] at H'); clear C H; have H := H'; clear H'; have C := Hp.facts H; simp only [Facts, factsL, and_true, true_and, List.set_cons_zero, List.set_cons_succ, List.setIfInBounds_toArray] at C)) | ((with_reducible show wpList _ _ _ _ _ (World.setCell _ _ _)); (with_reducible apply Hp.abs_gen H); (first | ((repeat (with_reducible apply Hp.set' 0)); (with_reducible exact H); (repeat rfl); intro w' H') | ((repeat (with_reducible apply Hp.set' 1)); (with_reducible exact H); (repeat rfl); intro w' H') | ((repeat (with_reducible apply Hp.set' 2)); (with_reducible exact H); (repeat rfl); intro w' H') | ((repeat (with_reducible apply Hp.set' 3)); (with_reducible exact H); (repeat rfl); intro w' H') | ((repeat (with_reducible apply Hp.set' 4)); (with_reducible exact H); (repeat rfl); intro w' H') | ((repeat (with_reducible apply Hp.set' 5)); (with_reducible exact H); (repeat rfl); intro w' H') | ((repeat (with_reducible apply Hp.set' 6)); (with_reducible exact H); (repeat rfl); intro w' H') | ((repeat (with_reducible apply Hp.set' 7)); (with_reducible exact H); (repeat rfl); intro w' H')); ((try simp only [List.set_cons_zero, List.set_cons_succ, List.setIfInBounds_toArray] at H'); clear C H; have H := H'; clear H'; have C := Hp.facts H; simp only [Facts, factsL, and_true, true_and, List.set_cons_zero, List.set_cons_succ, List.setIfInBounds_toArray] at C)) | go_values | go_skip | go_guarded | go_step | go_upon | go_back | (simp only [Int.not_lt, Int.not_le] at *; go_simp) | (go_values <;> (try go_simp)) | (go_ite <;> go_prune <;> (try go_simp)) | (split <;> (first | (rename_i hx; exact (hx _ rfl).elim) | go_prune))))
            all_goals
              refine bodyPost_ret (v := .tuple #[.slice none 0 0, .int .i64 6]) (by simp [results, go_sem]) rfl ⟨?_, H.low⟩
              rw [gn.out]
          · have hr : 15 < R := by omega
            (repeat' ((fail_if_success (with_reducible show bodyPost _ _ _ _ _ _)); first | ((with_reducible refine Hp.abs_alloc H ?_); intro b' w' H' hb'; (try simp only [hb']); clear hb'; ((try simp only [List.set_cons_zero, List.set_cons_succ, List.setIfInBounds_toArray] at H'); clear C H; have H := H'; clear H'; have C := Hp.facts H; simp only [Facts, factsL, and_true, true_and, List.set_cons_zero, List.set_cons_succ, List.setIfInBounds_toArray] at C)) | ((with_reducible show wpList _ _ _ _ _ (World.setCell _ _ _)); (with_reducible apply Hp.abs_gen H); (first | ((repeat (with_reducible apply Hp.set' 0)); (with_reducible exact H); (repeat rfl); intro w' H') | ((repeat (with_reducible apply Hp.set' 1)); (with_reducible exact H); (repeat rfl); intro w' H') | ((repeat (with_reducible apply Hp.set' 2)); (with_reducible exact H); (repeat rfl); intro w' H') | ((repeat (with_reducible apply Hp.set' 3)); (with_reducible exact H); (repeat rfl); intro w' H') | ((repeat (with_reducible apply Hp.set' 4)); (with_reducible exact H); (repeat rfl); intro w' H') | ((repeat (with_reducible apply Hp.set' 5)); (with_reducible exact H); (repeat rfl); intro w' H') | ((repeat (with_reducible apply Hp.set' 6)); (with_reducible exact H); (repeat rfl); intro w' H') | ((repeat (with_reducible apply Hp.set' 7)); (with_reducible exact H); (repeat rfl); intro w' H')); ((try simp only [List.set_cons_zero, List.set_cons_succ, List.setIfInBounds_toArray] at H'); clear C H; have H := H'; clear H'; have C := Hp.facts H; simp only [Facts, factsL, and_true, true_and, List.set_cons_zero, List.set_cons_succ, List.setIfInBounds_toArray] at C)) | go_values | go_skip | go_guarded | go_step | go_upon | go_back | (simp only [Int.not_lt, Int.not_le] at *; go_simp) | (go_values <;> (try go_simp)) | (go_ite <;> go_prune <;> (try go_simp)) | (split <;> (first | (rename_i hx; exact (hx _ rfl).elim) | go_prune))))
            all_goals
              refine bodyPost_ret (v := .tuple #[.slice none 0 0, .int .i64 6]) (by simp [results, go_sem]) rfl ⟨?_, H.low⟩
              rw [gn.out]
      · obtain ⟨h1, h2, h3⟩ := HJ.out
        obtain rfl : j = s.size := by have := hev.out; omega
        have hlen := gsz.out
        rw [← hlen, List.take_length] at h3
        have g3 := Lib.hid h3
        clear h1 h2 h3 hlen
        (repeat' ((fail_if_success (with_reducible show bodyPost _ _ _ _ _ _)); first | ((with_reducible refine Hp.abs_alloc H ?_); intro b' w' H' hb'; (try simp only [hb']); clear hb'; ((try simp only [List.set_cons_zero, List.set_cons_succ, List.setIfInBounds_toArray] at H'); clear C H; have H := H'; clear H'; have C := Hp.facts H; simp only [Facts, factsL, and_true, true_and, List.set_cons_zero, List.set_cons_succ, List.setIfInBounds_toArray] at C)) | ((with_reducible show wpList _ _ _ _ _ (World.setCell _ _ _)); (with_reducible apply Hp.abs_gen H); (first | ((repeat (with_reducible apply Hp.set' 0)); (with_reducible exact H); (repeat rfl); intro w' H') | ((repeat (with_reducible apply Hp.set' 1)); (with_reducible exact H); (repeat rfl); intro w' H') | ((repeat (with_reducible apply Hp.set' 2)); (with_reducible exact H); (repeat rfl); intro w' H') | ((repeat (with_reducible apply Hp.set' 3)); (with_reducible exact H); (repeat rfl); intro w' H') | ((repeat (with_reducible apply Hp.set' 4)); (with_reducible exact H); (repeat rfl); intro w' H') | ((repeat (with_reducible apply Hp.set' 5)); (with_reducible exact H); (repeat rfl); intro w' H') | ((repeat (with_reducible apply Hp.set' 6)); (with_reducible exact H); (repeat rfl); intro w' H') | ((repeat (with_reducible apply Hp.set' 7)); (with_reducible exact H); (repeat rfl); intro w' H')); ((try simp only [List.set_cons_zero, List.set_cons_succ, List.setIfInBounds_toArray] at H'); clear C H; have H := H'; clear H'; have C := Hp.facts H; simp only [Facts, factsL, and_true, true_and, List.set_cons_zero, List.set_cons_succ, List.setIfInBounds_toArray] at C)) | go_values | go_skip | go_guarded | go_step | go_upon | go_back | (simp only [Int.not_lt, Int.not_le] at *; go_simp) | (go_values <;> (try go_simp)) | (go_ite <;> go_prune <;> (try go_simp)) | (split <;> (first | (rename_i hx; exact (hx _ rfl).elim) | go_prune))))
        refine bodyPost_ret (v := .tuple #[_, .int .i64 0]) (by simp [results, go_sem]; rfl) rfl ⟨?_, H.low⟩
        rw [g3.out]
        exact ⟨_, rfl, ownsOf H 0 rfl⟩
end Go.Proofs.Ytldblmgmcmnepaa
