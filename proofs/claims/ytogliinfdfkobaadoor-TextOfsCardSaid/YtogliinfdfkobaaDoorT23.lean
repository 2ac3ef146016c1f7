/- Lemmas and walks on the way to the seat's laws; each theorem says its own conditions. -/
import Derived.Test.YtogliinfdfkobaaDoorT22
set_option linter.unusedSimpArgs false
set_option linter.unusedVariables false
set_option linter.unusedSimpArgs false
set_option linter.unusedVariables false
set_option maxRecDepth 100000
namespace Go.Proofs.YtogliinfdfkobaaDoor
open Go.RowKit Go.Mem Go.Reg Oct Bit Go.Txt Go.Shelf Go.LawLift
theorem rof6_any (k : Int) (ns : List Int) (v : Value) (hl : ns.length ≤ 1000000) (w : World) (hb : Zs w v ns) :
    Calls Tryd.prog 22 #[.int .i64 k, v] w (StrB w (ofK k ns) (ofL k ns) (.int .i64 (erT k ns))) := by
  cases hk : knownK k with
  | false => exact rof6_un k hk ns v hl w hb
  | true =>
    by_cases h1 : k = 12
    · subst h1; exact rof6_wide ns v hl w hb
    · by_cases h2 : k = 30
      · subst h2; exact rof6_two ns v hl w hb
      · exact rof6_one k hk (by simpa using h1) (by simpa using h2) ns v hl w hb
theorem rsame6_same (u : Int) (l : List UInt8) (v x : Value) (w : World) (hb : Bs w v l) (hd : Bs w x l) :
    Calls Tryd.prog 24 #[.agg #[.int .i64 u, v], .agg #[.int .i64 u, x]] w fun e w' => e = .returned (.bool true) ∧ Below w.heap.size w w' := by
  have := rsame6_any u u l l v x w hb hd
  rwa [decide_eq_true rfl, decide_eq_true rfl] at this
theorem erT_kn {k : Int} {ns : List Int} (h : knownK k = true) : erT k ns = 0 ∨ erT k ns = 6 := by
  cases h1 : ns.all (may k) with
  | false => exact .inr (okT_no h h1).1
  | true => exact .inl (okT_yes h h1).1
theorem str_take (s : ByteArray) (n : Nat) : s.extract 0 n = ⟨(s.data.toList.take n).toArray⟩ := by
  apply ByteArray.ext
  apply Array.ext'
  rw [ByteArray.data_extract]
  simp
theorem take_min (s : ByteArray) (n : Nat) : s.data.toList.take (min s.size n) = s.data.toList.take n := by
  rw [Nat.min_comm, ← List.take_take, List.take_of_length_le (l := s.data.toList) (i := s.size) (by rw [Array.length_toList]; exact Nat.le_refl _)]
set_option maxHeartbeats 8000000 in
theorem textOfs_any (k : Int) (l : List Int) (v : Value) (s : ByteArray) (w : World) (hT : Tabs w) (hz : Zs w v l) (hs : s.size ≤ 9223372036854775807) :
    Calls Tryd.prog 5 #[.int .i64 k, v, .string s] w fun e w' => e = .returned (.bool true) ∧ Below w.heap.size w w' := by
  obtain ⟨A, c, rfl, h1, h2, h3, -⟩ := id hz.open
  obtain ⟨ns, hns⟩ : ∃ ns, ns = l.take 200 := ⟨_, rfl⟩
  have hnl : ns.length = min l.length 200 := by rw [hns]; simp; omega
  have hZ : Zs w (.slice A ns.length c) ns := by
    rw [hnl, hns]
    have := hz.front (k := min l.length 200) (by omega)
    rwa [show l.take (min l.length 200) = l.take 200 by rw [Nat.min_comm, ← List.take_take, List.take_length]] at this
  obtain ⟨L, hL⟩ : ∃ L, L = s.data.toList.take 500 := ⟨_, rfl⟩
  have hLl : L.length = min s.size 500 := by
    rw [hL, List.length_take, Array.length_toList]
    exact Nat.min_comm _ _
  have hnl2 : ns.length ≤ 200 := by omega
  have hLl2 : L.length ≤ 500 := by omega
  have H := Hp.start w
  have C : True := trivial
  go_enter Tryd.func5, Tryd.ntmps5
  go_upto_region 1 with fail
  go_cut [1] (fun s1 wx => s1 = .slice A ns.length c ∧ wx = w)
  case first =>
    clear hZ hz hT hns hL
    by_cases h5 : l.length ≤ 200
    all_goals (
      go_wp2_with fail
      go_meet
      refine ⟨?_, rfl⟩
      rw [show (min ((l.length : Nat) : Int) 200).toNat = ns.length by omega])
  case rest =>
    obtain ⟨rfl, rfl⟩ := hcut
    go_upto_region 2 with fail
    go_cut [2] (fun s2 wx => s2 = .string ⟨L.toArray⟩ ∧ wx = wc)
    case first =>
      clear hZ hz hT hns
      by_cases h5 : s.size ≤ 500
      all_goals (
        go_wp2_with fail
        go_meet
        refine ⟨?_, rfl⟩
        rw [str_take, hL, show (min ((s.size : Nat) : Int) 500).toNat = min s.size 500 by omega, take_min])
    case rest =>
      obtain ⟨rfl, rfl⟩ := hcut
      clear H C hL hns hLl hnl h1 h2 h3
      have hTc := hT
      have H := Hp.start wc
      have C : True := trivial
      have hlen2 := sgOf_len 12 L
      have hO := fun w v hb => tof_any k ns v (by omega) w hb
      have hR := fun w v hb => rof6_any k ns v (by omega) w hb
      have hF := fun w hT => tfrom_any k L (by omega) w hT
      have hQ := fun v w hb => rsigns_any 12 L v (by omega) w hb
      have hW := fun w v hb => rof6_any k (sgOf 12 L) v (by omega) w hb
      generalize ofK k ns = K1 at *
      generalize ofL k ns = B1 at *
      generalize erT k ns = E1 at *
      have hcs4 : (knownK k = false ∧ frK k L = 0 ∧ frL k L = [] ∧ frE k L = 1 ∧ ofK k (sgOf 12 L) = 0 ∧ ofL k (sgOf 12 L) = [] ∧ erT k (sgOf 12 L) = 1) ∨
          (rightT 12 L = true ∧ frK k L = ofK k (sgOf 12 L) ∧ frL k L = ofL k (sgOf 12 L) ∧ frE k L = erT k (sgOf 12 L) ∧ (erT k (sgOf 12 L) = 0 ∨ erT k (sgOf 12 L) = 6)) ∨
          (rightT 12 L = false ∧ frK k L = 0 ∧ frL k L = [] ∧ frE k L = 6 ∧ erT k (sgOf 12 L) = 0) := by
        cases hk : knownK k with
        | false =>
          have x1 := fr_un (l := L) hk
          have x2 := okT_un (ns := sgOf 12 L) hk
          exact .inl ⟨rfl, x1.1, x1.2.1, x1.2.2, x2.2.1, x2.2.2, x2.1⟩
        | true =>
          cases hr : rightT 12 L with
          | true =>
            have x1 := fr_yes hk hr
            have x3 := (sgOf_yes hr).1
            rw [x3]
            exact .inr (.inl ⟨rfl, x1.1, x1.2.1, x1.2.2, erT_kn hk⟩)
          | false =>
            have x1 := fr_no hk hr
            have x3 := (sgOf_no hr).1
            rw [x3]
            exact .inr (.inr ⟨rfl, x1.1, x1.2.1, x1.2.2, (okT_yes hk rfl).1⟩)
      generalize sgOf 12 L = m at *
      generalize rightT 12 L = rr at *
      generalize frK k L = K3 at *
      generalize frL k L = B3 at *
      generalize frE k L = E3 at *
      generalize ofK k m = K5 at *
      generalize ofL k m = B5 at *
      generalize erT k m = E5 at *
      rcases hcs4 with ⟨-, rfl, rfl, rfl, rfl, rfl, rfl⟩ | ⟨rfl, rfl, rfl, rfl, he⟩ | ⟨rfl, rfl, rfl, rfl, rfl⟩
      · cases rr
        · skip
          (repeat' ((fail_if_success (with_reducible show bodyPost _ _ _ _ _ _)); first | ((with_reducible refine Hp.abs_alloc H ?_); intro b' w' H' hb'; (try simp only [hb']); clear hb'; ((try simp only [List.set_cons_zero, List.set_cons_succ, List.setIfInBounds_toArray] at H'); clear C H; have H := H'; clear H'; have C := Hp.facts H; simp only [Facts, factsL, and_true, true_and, List.set_cons_zero, List.set_cons_succ, List.setIfInBounds_toArray] at C)) | ((with_reducible show wpList _ _ _ _ _ (World.setCell _ _ _)); (with_reducible apply Hp.abs_gen H); (first | ((repeat (with_reducible apply Hp.set' 0)); (with_reducible exact H); (repeat rfl); intro w' H') | ((repeat (with_reducible apply Hp.set' 1)); (with_reducible exact H); (repeat rfl); intro w' H') | ((repeat (with_reducible apply Hp.set' 2)); (with_reducible exact H); (repeat rfl); intro w' H') | ((repeat (with_reducible apply Hp.set' 3)); (with_reducible exact H); (repeat rfl); intro w' H') | ((repeat (with_reducible apply Hp.set' 4)); (with_reducible exact H); (repeat rfl); intro w' H') | ((repeat (with_reducible apply Hp.set' 5)); (with_reducible exact H); (repeat rfl); intro w' H') | ((repeat (with_reducible apply Hp.set' 6)); (with_reducible exact H); (repeat rfl); intro w' H') | ((repeat (with_reducible apply Hp.set' 7)); (with_reducible exact H); (repeat rfl); intro w' H')); ((try simp only [List.set_cons_zero, List.set_cons_succ, List.setIfInBounds_toArray] at H'); clear C H; have H := H'; clear H'; have C := Hp.facts H; simp only [Facts, factsL, and_true, true_and, List.set_cons_zero, List.set_cons_succ, List.setIfInBounds_toArray] at C)) | go_values | go_skip | go_guarded | go_step | go_upon | go_back | (simp only [Int.not_lt, Int.not_le] at *; go_simp) | (go_values <;> (try go_simp)) | (go_ite <;> go_prune <;> (try go_simp)) | (split <;> (first | (rename_i hx; exact (hx _ rfl).elim) | go_prune))))
          refine (hO _ _ (H.zs hZ)).mono ?_
          (rintro e' w' ⟨⟨v', rfl, ho⟩, hb'⟩; have H' := Hp.rowOf H hb' ho; obtain ⟨A1, c1, rfl⟩ := Go.LawLift.own_form ho; clear ho hb'; ((try simp only [List.set_cons_zero, List.set_cons_succ, List.setIfInBounds_toArray] at H'); clear C H; have H := H'; clear H'; have C := Hp.facts H; simp only [Facts, factsL, and_true, true_and, List.set_cons_zero, List.set_cons_succ, List.setIfInBounds_toArray] at C))
          (repeat' ((fail_if_success (with_reducible show bodyPost _ _ _ _ _ _)); first | ((with_reducible refine Hp.abs_alloc H ?_); intro b' w' H' hb'; (try simp only [hb']); clear hb'; ((try simp only [List.set_cons_zero, List.set_cons_succ, List.setIfInBounds_toArray] at H'); clear C H; have H := H'; clear H'; have C := Hp.facts H; simp only [Facts, factsL, and_true, true_and, List.set_cons_zero, List.set_cons_succ, List.setIfInBounds_toArray] at C)) | ((with_reducible show wpList _ _ _ _ _ (World.setCell _ _ _)); (with_reducible apply Hp.abs_gen H); (first | ((repeat (with_reducible apply Hp.set' 0)); (with_reducible exact H); (repeat rfl); intro w' H') | ((repeat (with_reducible apply Hp.set' 1)); (with_reducible exact H); (repeat rfl); intro w' H') | ((repeat (with_reducible apply Hp.set' 2)); (with_reducible exact H); (repeat rfl); intro w' H') | ((repeat (with_reducible apply Hp.set' 3)); (with_reducible exact H); (repeat rfl); intro w' H') | ((repeat (with_reducible apply Hp.set' 4)); (with_reducible exact H); (repeat rfl); intro w' H') | ((repeat (with_reducible apply Hp.set' 5)); (with_reducible exact H); (repeat rfl); intro w' H') | ((repeat (with_reducible apply Hp.set' 6)); (with_reducible exact H); (repeat rfl); intro w' H') | ((repeat (with_reducible apply Hp.set' 7)); (with_reducible exact H); (repeat rfl); intro w' H')); ((try simp only [List.set_cons_zero, List.set_cons_succ, List.setIfInBounds_toArray] at H'); clear C H; have H := H'; clear H'; have C := Hp.facts H; simp only [Facts, factsL, and_true, true_and, List.set_cons_zero, List.set_cons_succ, List.setIfInBounds_toArray] at C)) | go_values | go_skip | go_guarded | go_step | go_upon | go_back | (simp only [Int.not_lt, Int.not_le] at *; go_simp) | (go_values <;> (try go_simp)) | (go_ite <;> go_prune <;> (try go_simp)) | (split <;> (first | (rename_i hx; exact (hx _ rfl).elim) | go_prune))))
          refine (hR _ _ (H.zs hZ)).mono ?_
          (rintro e' w' ⟨⟨v', rfl, ho⟩, hb'⟩; have H' := Hp.rowOf H hb' ho; obtain ⟨A2, c2, rfl⟩ := Go.LawLift.own_form ho; clear ho hb'; ((try simp only [List.set_cons_zero, List.set_cons_succ, List.setIfInBounds_toArray] at H'); clear C H; have H := H'; clear H'; have C := Hp.facts H; simp only [Facts, factsL, and_true, true_and, List.set_cons_zero, List.set_cons_succ, List.setIfInBounds_toArray] at C))
          (repeat' ((fail_if_success (with_reducible show bodyPost _ _ _ _ _ _)); first | ((with_reducible refine Hp.abs_alloc H ?_); intro b' w' H' hb'; (try simp only [hb']); clear hb'; ((try simp only [List.set_cons_zero, List.set_cons_succ, List.setIfInBounds_toArray] at H'); clear C H; have H := H'; clear H'; have C := Hp.facts H; simp only [Facts, factsL, and_true, true_and, List.set_cons_zero, List.set_cons_succ, List.setIfInBounds_toArray] at C)) | ((with_reducible show wpList _ _ _ _ _ (World.setCell _ _ _)); (with_reducible apply Hp.abs_gen H); (first | ((repeat (with_reducible apply Hp.set' 0)); (with_reducible exact H); (repeat rfl); intro w' H') | ((repeat (with_reducible apply Hp.set' 1)); (with_reducible exact H); (repeat rfl); intro w' H') | ((repeat (with_reducible apply Hp.set' 2)); (with_reducible exact H); (repeat rfl); intro w' H') | ((repeat (with_reducible apply Hp.set' 3)); (with_reducible exact H); (repeat rfl); intro w' H') | ((repeat (with_reducible apply Hp.set' 4)); (with_reducible exact H); (repeat rfl); intro w' H') | ((repeat (with_reducible apply Hp.set' 5)); (with_reducible exact H); (repeat rfl); intro w' H') | ((repeat (with_reducible apply Hp.set' 6)); (with_reducible exact H); (repeat rfl); intro w' H') | ((repeat (with_reducible apply Hp.set' 7)); (with_reducible exact H); (repeat rfl); intro w' H')); ((try simp only [List.set_cons_zero, List.set_cons_succ, List.setIfInBounds_toArray] at H'); clear C H; have H := H'; clear H'; have C := Hp.facts H; simp only [Facts, factsL, and_true, true_and, List.set_cons_zero, List.set_cons_succ, List.setIfInBounds_toArray] at C)) | go_values | go_skip | go_guarded | go_step | go_upon | go_back | (simp only [Int.not_lt, Int.not_le] at *; go_simp) | (go_values <;> (try go_simp)) | (go_ite <;> go_prune <;> (try go_simp)) | (split <;> (first | (rename_i hx; exact (hx _ rfl).elim) | go_prune))))
          refine (hF _ (hTc.below H.low)).mono ?_
          (rintro e' w' ⟨⟨v', rfl, ho⟩, hb'⟩; have H' := Hp.rowOf H hb' ho; obtain ⟨A3, c3, rfl⟩ := Go.LawLift.own_form ho; clear ho hb'; ((try simp only [List.set_cons_zero, List.set_cons_succ, List.setIfInBounds_toArray] at H'); clear C H; have H := H'; clear H'; have C := Hp.facts H; simp only [Facts, factsL, and_true, true_and, List.set_cons_zero, List.set_cons_succ, List.setIfInBounds_toArray] at C))
          (repeat' ((fail_if_success (with_reducible show bodyPost _ _ _ _ _ _)); first | ((with_reducible refine Hp.abs_alloc H ?_); intro b' w' H' hb'; (try simp only [hb']); clear hb'; ((try simp only [List.set_cons_zero, List.set_cons_succ, List.setIfInBounds_toArray] at H'); clear C H; have H := H'; clear H'; have C := Hp.facts H; simp only [Facts, factsL, and_true, true_and, List.set_cons_zero, List.set_cons_succ, List.setIfInBounds_toArray] at C)) | ((with_reducible show wpList _ _ _ _ _ (World.setCell _ _ _)); (with_reducible apply Hp.abs_gen H); (first | ((repeat (with_reducible apply Hp.set' 0)); (with_reducible exact H); (repeat rfl); intro w' H') | ((repeat (with_reducible apply Hp.set' 1)); (with_reducible exact H); (repeat rfl); intro w' H') | ((repeat (with_reducible apply Hp.set' 2)); (with_reducible exact H); (repeat rfl); intro w' H') | ((repeat (with_reducible apply Hp.set' 3)); (with_reducible exact H); (repeat rfl); intro w' H') | ((repeat (with_reducible apply Hp.set' 4)); (with_reducible exact H); (repeat rfl); intro w' H') | ((repeat (with_reducible apply Hp.set' 5)); (with_reducible exact H); (repeat rfl); intro w' H') | ((repeat (with_reducible apply Hp.set' 6)); (with_reducible exact H); (repeat rfl); intro w' H') | ((repeat (with_reducible apply Hp.set' 7)); (with_reducible exact H); (repeat rfl); intro w' H')); ((try simp only [List.set_cons_zero, List.set_cons_succ, List.setIfInBounds_toArray] at H'); clear C H; have H := H'; clear H'; have C := Hp.facts H; simp only [Facts, factsL, and_true, true_and, List.set_cons_zero, List.set_cons_succ, List.setIfInBounds_toArray] at C)) | (refine wpList_bytes_hp H rfl _ _ _ rfl Tryd.underlying9 Tryd.underlying22 Tryd.underlying5 L rfl (by unfold maxLen; omega) ?_; intro bs cb cs fz w' H' hcb1 hcb2 hcs; ((try simp only [List.set_cons_zero, List.set_cons_succ, List.setIfInBounds_toArray] at H'); clear C H; have H := H'; clear H'; have C := Hp.facts H; simp only [Facts, factsL, and_true, true_and, List.set_cons_zero, List.set_cons_succ, List.setIfInBounds_toArray] at C)) | go_values | go_skip | go_guarded | go_step | go_upon | go_back | (simp only [Int.not_lt, Int.not_le] at *; go_simp) | (go_values <;> (try go_simp)) | (go_ite <;> go_prune <;> (try go_simp)) | (split <;> (first | (rename_i hx; exact (hx _ rfl).elim) | go_prune))))
          refine (hQ _ _ (Bs.ofObj H 0 rfl hcb1 hcb2 hcs)).mono ?_
          (rintro e' w' ⟨⟨v', rfl, ho⟩, hb'⟩; have H' := Hp.rowOf H hb' ho; obtain ⟨A4, c4, rfl⟩ := Go.LawLift.own_form ho; clear ho hb'; ((try simp only [List.set_cons_zero, List.set_cons_succ, List.setIfInBounds_toArray] at H'); clear C H; have H := H'; clear H'; have C := Hp.facts H; simp only [Facts, factsL, and_true, true_and, List.set_cons_zero, List.set_cons_succ, List.setIfInBounds_toArray] at C))
          (repeat' ((fail_if_success (with_reducible show bodyPost _ _ _ _ _ _)); first | ((with_reducible refine Hp.abs_alloc H ?_); intro b' w' H' hb'; (try simp only [hb']); clear hb'; ((try simp only [List.set_cons_zero, List.set_cons_succ, List.setIfInBounds_toArray] at H'); clear C H; have H := H'; clear H'; have C := Hp.facts H; simp only [Facts, factsL, and_true, true_and, List.set_cons_zero, List.set_cons_succ, List.setIfInBounds_toArray] at C)) | ((with_reducible show wpList _ _ _ _ _ (World.setCell _ _ _)); (with_reducible apply Hp.abs_gen H); (first | ((repeat (with_reducible apply Hp.set' 0)); (with_reducible exact H); (repeat rfl); intro w' H') | ((repeat (with_reducible apply Hp.set' 1)); (with_reducible exact H); (repeat rfl); intro w' H') | ((repeat (with_reducible apply Hp.set' 2)); (with_reducible exact H); (repeat rfl); intro w' H') | ((repeat (with_reducible apply Hp.set' 3)); (with_reducible exact H); (repeat rfl); intro w' H') | ((repeat (with_reducible apply Hp.set' 4)); (with_reducible exact H); (repeat rfl); intro w' H') | ((repeat (with_reducible apply Hp.set' 5)); (with_reducible exact H); (repeat rfl); intro w' H') | ((repeat (with_reducible apply Hp.set' 6)); (with_reducible exact H); (repeat rfl); intro w' H') | ((repeat (with_reducible apply Hp.set' 7)); (with_reducible exact H); (repeat rfl); intro w' H')); ((try simp only [List.set_cons_zero, List.set_cons_succ, List.setIfInBounds_toArray] at H'); clear C H; have H := H'; clear H'; have C := Hp.facts H; simp only [Facts, factsL, and_true, true_and, List.set_cons_zero, List.set_cons_succ, List.setIfInBounds_toArray] at C)) | go_values | go_skip | go_guarded | go_step | go_upon | go_back | (simp only [Int.not_lt, Int.not_le] at *; go_simp) | (go_values <;> (try go_simp)) | (go_ite <;> go_prune <;> (try go_simp)) | (split <;> (first | (rename_i hx; exact (hx _ rfl).elim) | go_prune))))
          refine (hW _ _ (Hp.row H 0 rfl)).mono ?_
          (rintro e' w' ⟨⟨v', rfl, ho⟩, hb'⟩; have H' := Hp.rowOf H hb' ho; obtain ⟨A5, c5, rfl⟩ := Go.LawLift.own_form ho; clear ho hb'; ((try simp only [List.set_cons_zero, List.set_cons_succ, List.setIfInBounds_toArray] at H'); clear C H; have H := H'; clear H'; have C := Hp.facts H; simp only [Facts, factsL, and_true, true_and, List.set_cons_zero, List.set_cons_succ, List.setIfInBounds_toArray] at C))
          (repeat' ((fail_if_success (with_reducible show bodyPost _ _ _ _ _ _)); first | ((with_reducible refine Hp.abs_alloc H ?_); intro b' w' H' hb'; (try simp only [hb']); clear hb'; ((try simp only [List.set_cons_zero, List.set_cons_succ, List.setIfInBounds_toArray] at H'); clear C H; have H := H'; clear H'; have C := Hp.facts H; simp only [Facts, factsL, and_true, true_and, List.set_cons_zero, List.set_cons_succ, List.setIfInBounds_toArray] at C)) | ((with_reducible show wpList _ _ _ _ _ (World.setCell _ _ _)); (with_reducible apply Hp.abs_gen H); (first | ((repeat (with_reducible apply Hp.set' 0)); (with_reducible exact H); (repeat rfl); intro w' H') | ((repeat (with_reducible apply Hp.set' 1)); (with_reducible exact H); (repeat rfl); intro w' H') | ((repeat (with_reducible apply Hp.set' 2)); (with_reducible exact H); (repeat rfl); intro w' H') | ((repeat (with_reducible apply Hp.set' 3)); (with_reducible exact H); (repeat rfl); intro w' H') | ((repeat (with_reducible apply Hp.set' 4)); (with_reducible exact H); (repeat rfl); intro w' H') | ((repeat (with_reducible apply Hp.set' 5)); (with_reducible exact H); (repeat rfl); intro w' H') | ((repeat (with_reducible apply Hp.set' 6)); (with_reducible exact H); (repeat rfl); intro w' H') | ((repeat (with_reducible apply Hp.set' 7)); (with_reducible exact H); (repeat rfl); intro w' H')); ((try simp only [List.set_cons_zero, List.set_cons_succ, List.setIfInBounds_toArray] at H'); clear C H; have H := H'; clear H'; have C := Hp.facts H; simp only [Facts, factsL, and_true, true_and, List.set_cons_zero, List.set_cons_succ, List.setIfInBounds_toArray] at C)) | go_values | go_skip | go_guarded | go_step | go_upon | go_back | (simp only [Int.not_lt, Int.not_le] at *; go_simp) | (go_values <;> (try go_simp)) | (go_ite <;> go_prune <;> (try go_simp)) | (split <;> (first | (rename_i hx; exact (hx _ rfl).elim) | go_prune))))
          try simp (disch := omega) only [decide_eq_true, decide_eq_false]
          obtain ⟨wR10, rfl⟩ := Hp.nameW H
          apply region_n (frm wR10.heap.size (fun _ => Hp _ _)) (frm_ok ?hfs_1) frm_sz [] [.light 0 0, .light 0 0, .light 0 0, .light 0 0, .light 0 0, .light 0 0, .light 0 0, .light 0 0, .light 0 0, .light 0 0, .light 0 0, .light 0 0, .light 0 0, .light 0 0, .light 0 0, .light 0 0, .light 0 0, .light 0 0, .light 0 0, .light 0 0, .light 0 0, .light 0 0, .light 0 0, .light 0 0] [false, false, false, false, false, false, false, false, false, false, false, false, false, false, false, false, false, false, false, false, false, false, false, false] 24 96 [] [some 73, some 74, some 75, some 76, some 77, some 78, some 79, some 80, some 81, some 82, some 83, some 84, some 85, some 86, some 87, some 88, some 89, some 90, some 91, some 92, some 93, some 94, some 95, some 6] [[], [0], [1], [1], [1, 2, 3], [1, 4], [5], [6], [6, 7], [6], [6, 8, 9], [6, 10], [11], [12], [12], [12, 13, 14], [12, 15], [16], [17], [17, 18], [17], [17, 19, 20], [17, 21], [22]] [Eq1 (.bool true), Eq1 _, Eq1 _, Eq1 _, Eq1 (.bool true), Eq1 _, Eq1 _, Eq1 _, Eq1 _, Eq1 _, Eq1 (.bool true), Eq1 _, Eq1 _, Eq1 _, Eq1 _, Eq1 (.bool true), Eq1 _, Eq1 _, Eq1 _, Eq1 _, Eq1 _, Eq1 (.bool true), Eq1 _, Eq1 _] ?hq1_1 ?hq2_1 ?hq3_1 ?hq4_1 ?hq5_1 ?hq6_1 _ ?hA_1 ?hst_1 ?h0_1 ?hsteps_1 ?hend_1
          case hq1_1 => kernel_rfl
          case hq2_1 => kernel_rfl
          case hq3_1 => kernel_rfl
          case hq5_1 => kernel_rfl
          case hq4_1 => rfl
          case hq6_1 => rfl
          case hA_1 => intro vs; simp only [fillD, Nat.reduceAdd, Act.put, List.setIfInBounds_toArray, List.set_cons_zero, List.set_cons_succ]; rfl
          case h0_1 => exact H.drew
          case hfs_1 => exact fun _ _ _ hb h => Hp.step h hb
          case hsteps_1 =>
            refine ⟨?_, ?_, ?_, ?_, ?_, ?_, ?_, ?_, ?_, ?_, ?_, ?_, ?_, ?_, ?_, ?_, ?_, ?_, ?_, ?_, ?_, ?_, ?_, ?_, trivial⟩
            · intro p vs w' K hJ hp1 hp2 hS hR hK
              rw [if_pos (by rfl)]
              have C := Hp.facts hS
              simp only [Facts, factsL, and_true, true_and, List.set_cons_zero, List.set_cons_succ, List.setIfInBounds_toArray] at C
              have hsz := hR.1
              go_step
              refine (known6_any _ (hTc.below (Hp.low hS))).mono ?_
              rintro e' w'' ⟨rfl, hb⟩
              exact hK.out _ _ hb (Eq1.of (rfl)) Fresh.no
            · intro p vs w' K hJ hp1 hp2 hS hR hK
              simp only [DepJ, List.getD_cons_zero, List.getD_cons_succ] at hJ
              obtain ⟨j0, -⟩ := hJ
              have j0 := Eq1.out j0
              simp only [j0] at hK ⊢
              rw [if_pos (by rfl)]
              go_step
              exact hK.out _ _ (Below.refl _ _) Eq1.mk Fresh.no
            · intro p vs w' K hJ hp1 hp2 hS hR hK
              simp only [DepJ, List.getD_cons_zero, List.getD_cons_succ] at hJ
              obtain ⟨j1, -⟩ := hJ
              have j1 := Eq1.out j1
              simp only [j1] at hK ⊢
              rw [if_pos (by rfl)]
              go_step
              exact hK.out _ _ (Below.refl _ _) Eq1.mk Fresh.no
            · intro p vs w' K hJ hp1 hp2 hS hR hK
              simp only [DepJ, List.getD_cons_zero, List.getD_cons_succ] at hJ
              obtain ⟨j1, -⟩ := hJ
              have j1 := Eq1.out j1
              simp only [j1] at hK ⊢
              rw [if_pos (by rfl)]
              go_step
              exact hK.out _ _ (Below.refl _ _) Eq1.mk Fresh.no
            · intro p vs w' K hJ hp1 hp2 hS hR hK
              simp only [DepJ, List.getD_cons_zero, List.getD_cons_succ] at hJ
              obtain ⟨j1, j2, j3, -⟩ := hJ
              have j1 := Eq1.out j1
              have j2 := Eq1.out j2
              have j3 := Eq1.out j3
              simp only [j1, j2, j3] at hK ⊢
              rw [if_pos (by rfl)]
              go_step
              exact hK.out _ _ (Below.refl _ _) (Eq1.of (by first | rfl | (simp; done) | (simp; omega))) Fresh.no
            · intro p vs w' K hJ hp1 hp2 hS hR hK
              simp only [DepJ, List.getD_cons_zero, List.getD_cons_succ] at hJ
              obtain ⟨j1, j4, -⟩ := hJ
              have j1 := Eq1.out j1
              have j4 := Eq1.out j4
              simp only [j1, j4] at hK ⊢
              rw [if_pos (by rfl)]
              go_step
              exact hK.out _ _ (Below.refl _ _) Eq1.mk Fresh.no
            · intro p vs w' K hJ hp1 hp2 hS hR hK
              simp only [DepJ, List.getD_cons_zero, List.getD_cons_succ] at hJ
              obtain ⟨j5, -⟩ := hJ
              have j5 := Eq1.out j5
              simp only [j5] at hK ⊢
              rw [if_pos (by rfl)]
              go_step
              exact hK.out _ _ (Below.refl _ _) Eq1.mk Fresh.no
            · intro p vs w' K hJ hp1 hp2 hS hR hK
              simp only [DepJ, List.getD_cons_zero, List.getD_cons_succ] at hJ
              obtain ⟨j6, -⟩ := hJ
              have j6 := Eq1.out j6
              simp only [j6] at hK ⊢
              rw [if_pos (by rfl)]
              have C := Hp.facts hS
              simp only [Facts, factsL, and_true, true_and, List.set_cons_zero, List.set_cons_succ, List.setIfInBounds_toArray] at C
              have hsz := hR.1
              go_step
              exact hK.out _ _ (Below.refl _ _) Eq1.mk Fresh.no
            · intro p vs w' K hJ hp1 hp2 hS hR hK
              simp only [DepJ, List.getD_cons_zero, List.getD_cons_succ] at hJ
              obtain ⟨j6, j7, -⟩ := hJ
              have j6 := Eq1.out j6
              have j7 := Eq1.out j7
              simp only [j6, j7] at hK ⊢
              rw [if_pos (by rfl)]
              have C := Hp.facts hS
              simp only [Facts, factsL, and_true, true_and, List.set_cons_zero, List.set_cons_succ, List.setIfInBounds_toArray] at C
              have hsz := hR.1
              go_step
              refine (lof6_any _ _ _ _ _).mono ?_
              rintro e' w'' ⟨rfl, hb⟩
              exact hK.out _ _ hb Eq1.mk Fresh.no
            · intro p vs w' K hJ hp1 hp2 hS hR hK
              simp only [DepJ, List.getD_cons_zero, List.getD_cons_succ] at hJ
              obtain ⟨j6, -⟩ := hJ
              have j6 := Eq1.out j6
              simp only [j6] at hK ⊢
              rw [if_pos (by rfl)]
              have C := Hp.facts hS
              simp only [Facts, factsL, and_true, true_and, List.set_cons_zero, List.set_cons_succ, List.setIfInBounds_toArray] at C
              have hsz := hR.1
              go_step
              exact hK.out _ _ (Below.refl _ _) Eq1.mk Fresh.no
            · intro p vs w' K hJ hp1 hp2 hS hR hK
              simp only [DepJ, List.getD_cons_zero, List.getD_cons_succ] at hJ
              obtain ⟨j6, j8, j9, -⟩ := hJ
              have j6 := Eq1.out j6
              have j8 := Eq1.out j8
              have j9 := Eq1.out j9
              simp only [j6, j8, j9] at hK ⊢
              rw [if_pos (by rfl)]
              replace hS : Hp _ _ _ := hS
              go_step
              refine (rsame6_same K1 B1 _ _ _ (Hp.row hS 9 rfl) (Hp.row hS 7 rfl)).mono ?_
              rintro e' w'' ⟨rfl, hb⟩
              exact hK.out _ _ hb Eq1.mk Fresh.no
            · intro p vs w' K hJ hp1 hp2 hS hR hK
              simp only [DepJ, List.getD_cons_zero, List.getD_cons_succ] at hJ
              obtain ⟨j6, j10, -⟩ := hJ
              have j6 := Eq1.out j6
              have j10 := Eq1.out j10
              simp only [j6, j10] at hK ⊢
              rw [if_pos (by rfl)]
              go_step
              exact hK.out _ _ (Below.refl _ _) Eq1.mk Fresh.no
            · intro p vs w' K hJ hp1 hp2 hS hR hK
              simp only [DepJ, List.getD_cons_zero, List.getD_cons_succ] at hJ
              obtain ⟨j11, -⟩ := hJ
              have j11 := Eq1.out j11
              simp only [j11] at hK ⊢
              rw [if_pos (by rfl)]
              go_step
              exact hK.out _ _ (Below.refl _ _) Eq1.mk Fresh.no
            · intro p vs w' K hJ hp1 hp2 hS hR hK
              simp only [DepJ, List.getD_cons_zero, List.getD_cons_succ] at hJ
              obtain ⟨j12, -⟩ := hJ
              have j12 := Eq1.out j12
              simp only [j12] at hK ⊢
              rw [if_pos (by rfl)]
              go_step
              exact hK.out _ _ (Below.refl _ _) Eq1.mk Fresh.no
            · intro p vs w' K hJ hp1 hp2 hS hR hK
              simp only [DepJ, List.getD_cons_zero, List.getD_cons_succ] at hJ
              obtain ⟨j12, -⟩ := hJ
              have j12 := Eq1.out j12
              simp only [j12] at hK ⊢
              rw [if_pos (by rfl)]
              go_step
              exact hK.out _ _ (Below.refl _ _) Eq1.mk Fresh.no
            · intro p vs w' K hJ hp1 hp2 hS hR hK
              simp only [DepJ, List.getD_cons_zero, List.getD_cons_succ] at hJ
              obtain ⟨j12, j13, j14, -⟩ := hJ
              have j12 := Eq1.out j12
              have j13 := Eq1.out j13
              have j14 := Eq1.out j14
              simp only [j12, j13, j14] at hK ⊢
              rw [if_pos (by rfl)]
              go_step
              exact hK.out _ _ (Below.refl _ _) (Eq1.of (by first | rfl | (simp; done) | (simp; omega))) Fresh.no
            · intro p vs w' K hJ hp1 hp2 hS hR hK
              simp only [DepJ, List.getD_cons_zero, List.getD_cons_succ] at hJ
              obtain ⟨j12, j15, -⟩ := hJ
              have j12 := Eq1.out j12
              have j15 := Eq1.out j15
              simp only [j12, j15] at hK ⊢
              rw [if_pos (by rfl)]
              go_step
              exact hK.out _ _ (Below.refl _ _) Eq1.mk Fresh.no
            · intro p vs w' K hJ hp1 hp2 hS hR hK
              simp only [DepJ, List.getD_cons_zero, List.getD_cons_succ] at hJ
              obtain ⟨j16, -⟩ := hJ
              have j16 := Eq1.out j16
              simp only [j16] at hK ⊢
              rw [if_pos (by rfl)]
              go_step
              exact hK.out _ _ (Below.refl _ _) Eq1.mk Fresh.no
            · intro p vs w' K hJ hp1 hp2 hS hR hK
              simp only [DepJ, List.getD_cons_zero, List.getD_cons_succ] at hJ
              obtain ⟨j17, -⟩ := hJ
              have j17 := Eq1.out j17
              simp only [j17] at hK ⊢
              rw [if_pos (by rfl)]
              have C := Hp.facts hS
              simp only [Facts, factsL, and_true, true_and, List.set_cons_zero, List.set_cons_succ, List.setIfInBounds_toArray] at C
              have hsz := hR.1
              go_step
              exact hK.out _ _ (Below.refl _ _) Eq1.mk Fresh.no
            · intro p vs w' K hJ hp1 hp2 hS hR hK
              simp only [DepJ, List.getD_cons_zero, List.getD_cons_succ] at hJ
              obtain ⟨j17, j18, -⟩ := hJ
              have j17 := Eq1.out j17
              have j18 := Eq1.out j18
              simp only [j17, j18] at hK ⊢
              rw [if_pos (by rfl)]
              have C := Hp.facts hS
              simp only [Facts, factsL, and_true, true_and, List.set_cons_zero, List.set_cons_succ, List.setIfInBounds_toArray] at C
              have hsz := hR.1
              go_step
              refine (lof6_any _ _ _ _ _).mono ?_
              rintro e' w'' ⟨rfl, hb⟩
              exact hK.out _ _ hb Eq1.mk Fresh.no
            · intro p vs w' K hJ hp1 hp2 hS hR hK
              simp only [DepJ, List.getD_cons_zero, List.getD_cons_succ] at hJ
              obtain ⟨j17, -⟩ := hJ
              have j17 := Eq1.out j17
              simp only [j17] at hK ⊢
              rw [if_pos (by rfl)]
              have C := Hp.facts hS
              simp only [Facts, factsL, and_true, true_and, List.set_cons_zero, List.set_cons_succ, List.setIfInBounds_toArray] at C
              have hsz := hR.1
              go_step
              exact hK.out _ _ (Below.refl _ _) Eq1.mk Fresh.no
            · intro p vs w' K hJ hp1 hp2 hS hR hK
              simp only [DepJ, List.getD_cons_zero, List.getD_cons_succ] at hJ
              obtain ⟨j17, j19, j20, -⟩ := hJ
              have j17 := Eq1.out j17
              have j19 := Eq1.out j19
              have j20 := Eq1.out j20
              simp only [j17, j19, j20] at hK ⊢
              rw [if_pos (by rfl)]
              replace hS : Hp _ _ _ := hS
              go_step
              refine (rsame6_same 0 [] _ _ _ (Hp.row hS 5 rfl) (Hp.row hS 1 rfl)).mono ?_
              rintro e' w'' ⟨rfl, hb⟩
              exact hK.out _ _ hb Eq1.mk Fresh.no
            · intro p vs w' K hJ hp1 hp2 hS hR hK
              simp only [DepJ, List.getD_cons_zero, List.getD_cons_succ] at hJ
              obtain ⟨j17, j21, -⟩ := hJ
              have j17 := Eq1.out j17
              have j21 := Eq1.out j21
              simp only [j17, j21] at hK ⊢
              rw [if_pos (by rfl)]
              go_step
              exact hK.out _ _ (Below.refl _ _) Eq1.mk Fresh.no
            · intro p vs w' K hJ hp1 hp2 hS hR hK
              simp only [DepJ, List.getD_cons_zero, List.getD_cons_succ] at hJ
              obtain ⟨j22, -⟩ := hJ
              have j22 := Eq1.out j22
              simp only [j22] at hK ⊢
              rw [if_pos (by rfl)]
              go_step
              exact hK.out _ _ (Below.refl _ _) Eq1.mk Fresh.no
          case hst_1 => refine ⟨fun _ _ _ _ h => h, fun _ _ _ _ h => h, fun _ _ _ _ h => h, fun _ _ _ _ h => h, fun _ _ _ _ h => h, fun _ _ _ _ h => h, fun _ _ _ _ h => h, fun _ _ _ _ h => h, fun _ _ _ _ h => h, fun _ _ _ _ h => h, fun _ _ _ _ h => h, fun _ _ _ _ h => h, fun _ _ _ _ h => h, fun _ _ _ _ h => h, fun _ _ _ _ h => h, fun _ _ _ _ h => h, fun _ _ _ _ h => h, fun _ _ _ _ h => h, fun _ _ _ _ h => h, fun _ _ _ _ h => h, fun _ _ _ _ h => h, fun _ _ _ _ h => h, fun _ _ _ _ h => h, fun _ _ _ _ h => h, trivial⟩
          intro vs w' hJ hD hS hR
          simp only [AllJ, Nat.reduceAdd] at hJ
          obtain ⟨v0, v1, v2, v3, v4, v5, v6, v7, v8, v9, v10, v11, v12, v13, v14, v15, v16, v17, v18, v19, v20, v21, v22, v23, -⟩ := hJ
          clear C
          replace v0 := Eq1.out v0
          replace v1 := Eq1.out v1
          replace v2 := Eq1.out v2
          replace v3 := Eq1.out v3
          replace v4 := Eq1.out v4
          replace v5 := Eq1.out v5
          replace v6 := Eq1.out v6
          replace v7 := Eq1.out v7
          replace v8 := Eq1.out v8
          replace v9 := Eq1.out v9
          replace v10 := Eq1.out v10
          replace v11 := Eq1.out v11
          replace v12 := Eq1.out v12
          replace v13 := Eq1.out v13
          replace v14 := Eq1.out v14
          replace v15 := Eq1.out v15
          replace v16 := Eq1.out v16
          replace v17 := Eq1.out v17
          replace v18 := Eq1.out v18
          replace v19 := Eq1.out v19
          replace v20 := Eq1.out v20
          replace v21 := Eq1.out v21
          replace v22 := Eq1.out v22
          replace v23 := Eq1.out v23
          simp only [v0, v1, v2, v3, v4, v5, v6, v7, v8, v9, v10, v11, v12, v13, v14, v15, v16, v17, v18, v19, v20, v21, v22, v23, List.drop_succ_cons, List.drop_zero]
          refine wpList_nil' ?_
          have H' : Hp _ _ _ := hS
          clear hD hR hS v0 v1 v2 v3 v4 v5 v6 v7 v8 v9 v10 v11 v12 v13 v14 v15 v16 v17 v18 v19 v20 v21 v22 v23
          clear vs H
          have H := H'; clear H'; have C := Hp.facts H; simp only [Facts, factsL, and_true, true_and, List.set_cons_zero, List.set_cons_succ, List.setIfInBounds_toArray] at C
          (repeat' ((fail_if_success (with_reducible show bodyPost _ _ _ _ _ _)); first | ((with_reducible refine Hp.abs_alloc H ?_); intro b' w' H' hb'; (try simp only [hb']); clear hb'; ((try simp only [List.set_cons_zero, List.set_cons_succ, List.setIfInBounds_toArray] at H'); clear C H; have H := H'; clear H'; have C := Hp.facts H; simp only [Facts, factsL, and_true, true_and, List.set_cons_zero, List.set_cons_succ, List.setIfInBounds_toArray] at C)) | ((with_reducible show wpList _ _ _ _ _ (World.setCell _ _ _)); (with_reducible apply Hp.abs_gen H); (first | ((repeat (with_reducible apply Hp.set' 0)); (with_reducible exact H); (repeat rfl); intro w' H') | ((repeat (with_reducible apply Hp.set' 1)); (with_reducible exact H); (repeat rfl); intro w' H') | ((repeat (with_reducible apply Hp.set' 2)); (with_reducible exact H); (repeat rfl); intro w' H') | ((repeat (with_reducible apply Hp.set' 3)); (with_reducible exact H); (repeat rfl); intro w' H') | ((repeat (with_reducible apply Hp.set' 4)); (with_reducible exact H); (repeat rfl); intro w' H') | ((repeat (with_reducible apply Hp.set' 5)); (with_reducible exact H); (repeat rfl); intro w' H') | ((repeat (with_reducible apply Hp.set' 6)); (with_reducible exact H); (repeat rfl); intro w' H') | ((repeat (with_reducible apply Hp.set' 7)); (with_reducible exact H); (repeat rfl); intro w' H')); ((try simp only [List.set_cons_zero, List.set_cons_succ, List.setIfInBounds_toArray] at H'); clear C H; have H := H'; clear H'; have C := Hp.facts H; simp only [Facts, factsL, and_true, true_and, List.set_cons_zero, List.set_cons_succ, List.setIfInBounds_toArray] at C)) | go_values | go_skip | go_guarded | go_step | go_upon | go_back | (simp only [Int.not_lt, Int.not_le] at *; go_simp) | (go_values <;> (try go_simp)) | (go_ite <;> go_prune <;> (try go_simp)) | (split <;> (first | (rename_i hx; exact (hx _ rfl).elim) | go_prune))))
          go_ret
          exact ⟨rfl, H.low⟩
        · skip
          (repeat' ((fail_if_success (with_reducible show bodyPost _ _ _ _ _ _)); first | ((with_reducible refine Hp.abs_alloc H ?_); intro b' w' H' hb'; (try simp only [hb']); clear hb'; ((try simp only [List.set_cons_zero, List.set_cons_succ, List.setIfInBounds_toArray] at H'); clear C H; have H := H'; clear H'; have C := Hp.facts H; simp only [Facts, factsL, and_true, true_and, List.set_cons_zero, List.set_cons_succ, List.setIfInBounds_toArray] at C)) | ((with_reducible show wpList _ _ _ _ _ (World.setCell _ _ _)); (with_reducible apply Hp.abs_gen H); (first | ((repeat (with_reducible apply Hp.set' 0)); (with_reducible exact H); (repeat rfl); intro w' H') | ((repeat (with_reducible apply Hp.set' 1)); (with_reducible exact H); (repeat rfl); intro w' H') | ((repeat (with_reducible apply Hp.set' 2)); (with_reducible exact H); (repeat rfl); intro w' H') | ((repeat (with_reducible apply Hp.set' 3)); (with_reducible exact H); (repeat rfl); intro w' H') | ((repeat (with_reducible apply Hp.set' 4)); (with_reducible exact H); (repeat rfl); intro w' H') | ((repeat (with_reducible apply Hp.set' 5)); (with_reducible exact H); (repeat rfl); intro w' H') | ((repeat (with_reducible apply Hp.set' 6)); (with_reducible exact H); (repeat rfl); intro w' H') | ((repeat (with_reducible apply Hp.set' 7)); (with_reducible exact H); (repeat rfl); intro w' H')); ((try simp only [List.set_cons_zero, List.set_cons_succ, List.setIfInBounds_toArray] at H'); clear C H; have H := H'; clear H'; have C := Hp.facts H; simp only [Facts, factsL, and_true, true_and, List.set_cons_zero, List.set_cons_succ, List.setIfInBounds_toArray] at C)) | go_values | go_skip | go_guarded | go_step | go_upon | go_back | (simp only [Int.not_lt, Int.not_le] at *; go_simp) | (go_values <;> (try go_simp)) | (go_ite <;> go_prune <;> (try go_simp)) | (split <;> (first | (rename_i hx; exact (hx _ rfl).elim) | go_prune))))
          refine (hO _ _ (H.zs hZ)).mono ?_
          (rintro e' w' ⟨⟨v', rfl, ho⟩, hb'⟩; have H' := Hp.rowOf H hb' ho; obtain ⟨A1, c1, rfl⟩ := Go.LawLift.own_form ho; clear ho hb'; ((try simp only [List.set_cons_zero, List.set_cons_succ, List.setIfInBounds_toArray] at H'); clear C H; have H := H'; clear H'; have C := Hp.facts H; simp only [Facts, factsL, and_true, true_and, List.set_cons_zero, List.set_cons_succ, List.setIfInBounds_toArray] at C))
          (repeat' ((fail_if_success (with_reducible show bodyPost _ _ _ _ _ _)); first | ((with_reducible refine Hp.abs_alloc H ?_); intro b' w' H' hb'; (try simp only [hb']); clear hb'; ((try simp only [List.set_cons_zero, List.set_cons_succ, List.setIfInBounds_toArray] at H'); clear C H; have H := H'; clear H'; have C := Hp.facts H; simp only [Facts, factsL, and_true, true_and, List.set_cons_zero, List.set_cons_succ, List.setIfInBounds_toArray] at C)) | ((with_reducible show wpList _ _ _ _ _ (World.setCell _ _ _)); (with_reducible apply Hp.abs_gen H); (first | ((repeat (with_reducible apply Hp.set' 0)); (with_reducible exact H); (repeat rfl); intro w' H') | ((repeat (with_reducible apply Hp.set' 1)); (with_reducible exact H); (repeat rfl); intro w' H') | ((repeat (with_reducible apply Hp.set' 2)); (with_reducible exact H); (repeat rfl); intro w' H') | ((repeat (with_reducible apply Hp.set' 3)); (with_reducible exact H); (repeat rfl); intro w' H') | ((repeat (with_reducible apply Hp.set' 4)); (with_reducible exact H); (repeat rfl); intro w' H') | ((repeat (with_reducible apply Hp.set' 5)); (with_reducible exact H); (repeat rfl); intro w' H') | ((repeat (with_reducible apply Hp.set' 6)); (with_reducible exact H); (repeat rfl); intro w' H') | ((repeat (with_reducible apply Hp.set' 7)); (with_reducible exact H); (repeat rfl); intro w' H')); ((try simp only [List.set_cons_zero, List.set_cons_succ, List.setIfInBounds_toArray] at H'); clear C H; have H := H'; clear H'; have C := Hp.facts H; simp only [Facts, factsL, and_true, true_and, List.set_cons_zero, List.set_cons_succ, List.setIfInBounds_toArray] at C)) | go_values | go_skip | go_guarded | go_step | go_upon | go_back | (simp only [Int.not_lt, Int.not_le] at *; go_simp) | (go_values <;> (try go_simp)) | (go_ite <;> go_prune <;> (try go_simp)) | (split <;> (first | (rename_i hx; exact (hx _ rfl).elim) | go_prune))))
          refine (hR _ _ (H.zs hZ)).mono ?_
          (rintro e' w' ⟨⟨v', rfl, ho⟩, hb'⟩; have H' := Hp.rowOf H hb' ho; obtain ⟨A2, c2, rfl⟩ := Go.LawLift.own_form ho; clear ho hb'; ((try simp only [List.set_cons_zero, List.set_cons_succ, List.setIfInBounds_toArray] at H'); clear C H; have H := H'; clear H'; have C := Hp.facts H; simp only [Facts, factsL, and_true, true_and, List.set_cons_zero, List.set_cons_succ, List.setIfInBounds_toArray] at C))
          (repeat' ((fail_if_success (with_reducible show bodyPost _ _ _ _ _ _)); first | ((with_reducible refine Hp.abs_alloc H ?_); intro b' w' H' hb'; (try simp only [hb']); clear hb'; ((try simp only [List.set_cons_zero, List.set_cons_succ, List.setIfInBounds_toArray] at H'); clear C H; have H := H'; clear H'; have C := Hp.facts H; simp only [Facts, factsL, and_true, true_and, List.set_cons_zero, List.set_cons_succ, List.setIfInBounds_toArray] at C)) | ((with_reducible show wpList _ _ _ _ _ (World.setCell _ _ _)); (with_reducible apply Hp.abs_gen H); (first | ((repeat (with_reducible apply Hp.set' 0)); (with_reducible exact H); (repeat rfl); intro w' H') | ((repeat (with_reducible apply Hp.set' 1)); (with_reducible exact H); (repeat rfl); intro w' H') | ((repeat (with_reducible apply Hp.set' 2)); (with_reducible exact H); (repeat rfl); intro w' H') | ((repeat (with_reducible apply Hp.set' 3)); (with_reducible exact H); (repeat rfl); intro w' H') | ((repeat (with_reducible apply Hp.set' 4)); (with_reducible exact H); (repeat rfl); intro w' H') | ((repeat (with_reducible apply Hp.set' 5)); (with_reducible exact H); (repeat rfl); intro w' H') | ((repeat (with_reducible apply Hp.set' 6)); (with_reducible exact H); (repeat rfl); intro w' H') | ((repeat (with_reducible apply Hp.set' 7)); (with_reducible exact H); (repeat rfl); intro w' H')); ((try simp only [List.set_cons_zero, List.set_cons_succ, List.setIfInBounds_toArray] at H'); clear C H; have H := H'; clear H'; have C := Hp.facts H; simp only [Facts, factsL, and_true, true_and, List.set_cons_zero, List.set_cons_succ, List.setIfInBounds_toArray] at C)) | go_values | go_skip | go_guarded | go_step | go_upon | go_back | (simp only [Int.not_lt, Int.not_le] at *; go_simp) | (go_values <;> (try go_simp)) | (go_ite <;> go_prune <;> (try go_simp)) | (split <;> (first | (rename_i hx; exact (hx _ rfl).elim) | go_prune))))
          refine (hF _ (hTc.below H.low)).mono ?_
          (rintro e' w' ⟨⟨v', rfl, ho⟩, hb'⟩; have H' := Hp.rowOf H hb' ho; obtain ⟨A3, c3, rfl⟩ := Go.LawLift.own_form ho; clear ho hb'; ((try simp only [List.set_cons_zero, List.set_cons_succ, List.setIfInBounds_toArray] at H'); clear C H; have H := H'; clear H'; have C := Hp.facts H; simp only [Facts, factsL, and_true, true_and, List.set_cons_zero, List.set_cons_succ, List.setIfInBounds_toArray] at C))
          (repeat' ((fail_if_success (with_reducible show bodyPost _ _ _ _ _ _)); first | ((with_reducible refine Hp.abs_alloc H ?_); intro b' w' H' hb'; (try simp only [hb']); clear hb'; ((try simp only [List.set_cons_zero, List.set_cons_succ, List.setIfInBounds_toArray] at H'); clear C H; have H := H'; clear H'; have C := Hp.facts H; simp only [Facts, factsL, and_true, true_and, List.set_cons_zero, List.set_cons_succ, List.setIfInBounds_toArray] at C)) | ((with_reducible show wpList _ _ _ _ _ (World.setCell _ _ _)); (with_reducible apply Hp.abs_gen H); (first | ((repeat (with_reducible apply Hp.set' 0)); (with_reducible exact H); (repeat rfl); intro w' H') | ((repeat (with_reducible apply Hp.set' 1)); (with_reducible exact H); (repeat rfl); intro w' H') | ((repeat (with_reducible apply Hp.set' 2)); (with_reducible exact H); (repeat rfl); intro w' H') | ((repeat (with_reducible apply Hp.set' 3)); (with_reducible exact H); (repeat rfl); intro w' H') | ((repeat (with_reducible apply Hp.set' 4)); (with_reducible exact H); (repeat rfl); intro w' H') | ((repeat (with_reducible apply Hp.set' 5)); (with_reducible exact H); (repeat rfl); intro w' H') | ((repeat (with_reducible apply Hp.set' 6)); (with_reducible exact H); (repeat rfl); intro w' H') | ((repeat (with_reducible apply Hp.set' 7)); (with_reducible exact H); (repeat rfl); intro w' H')); ((try simp only [List.set_cons_zero, List.set_cons_succ, List.setIfInBounds_toArray] at H'); clear C H; have H := H'; clear H'; have C := Hp.facts H; simp only [Facts, factsL, and_true, true_and, List.set_cons_zero, List.set_cons_succ, List.setIfInBounds_toArray] at C)) | (refine wpList_bytes_hp H rfl _ _ _ rfl Tryd.underlying9 Tryd.underlying22 Tryd.underlying5 L rfl (by unfold maxLen; omega) ?_; intro bs cb cs fz w' H' hcb1 hcb2 hcs; ((try simp only [List.set_cons_zero, List.set_cons_succ, List.setIfInBounds_toArray] at H'); clear C H; have H := H'; clear H'; have C := Hp.facts H; simp only [Facts, factsL, and_true, true_and, List.set_cons_zero, List.set_cons_succ, List.setIfInBounds_toArray] at C)) | go_values | go_skip | go_guarded | go_step | go_upon | go_back | (simp only [Int.not_lt, Int.not_le] at *; go_simp) | (go_values <;> (try go_simp)) | (go_ite <;> go_prune <;> (try go_simp)) | (split <;> (first | (rename_i hx; exact (hx _ rfl).elim) | go_prune))))
          refine (hQ _ _ (Bs.ofObj H 0 rfl hcb1 hcb2 hcs)).mono ?_
          (rintro e' w' ⟨⟨v', rfl, ho⟩, hb'⟩; have H' := Hp.rowOf H hb' ho; obtain ⟨A4, c4, rfl⟩ := Go.LawLift.own_form ho; clear ho hb'; ((try simp only [List.set_cons_zero, List.set_cons_succ, List.setIfInBounds_toArray] at H'); clear C H; have H := H'; clear H'; have C := Hp.facts H; simp only [Facts, factsL, and_true, true_and, List.set_cons_zero, List.set_cons_succ, List.setIfInBounds_toArray] at C))
          (repeat' ((fail_if_success (with_reducible show bodyPost _ _ _ _ _ _)); first | ((with_reducible refine Hp.abs_alloc H ?_); intro b' w' H' hb'; (try simp only [hb']); clear hb'; ((try simp only [List.set_cons_zero, List.set_cons_succ, List.setIfInBounds_toArray] at H'); clear C H; have H := H'; clear H'; have C := Hp.facts H; simp only [Facts, factsL, and_true, true_and, List.set_cons_zero, List.set_cons_succ, List.setIfInBounds_toArray] at C)) | ((with_reducible show wpList _ _ _ _ _ (World.setCell _ _ _)); (with_reducible apply Hp.abs_gen H); (first | ((repeat (with_reducible apply Hp.set' 0)); (with_reducible exact H); (repeat rfl); intro w' H') | ((repeat (with_reducible apply Hp.set' 1)); (with_reducible exact H); (repeat rfl); intro w' H') | ((repeat (with_reducible apply Hp.set' 2)); (with_reducible exact H); (repeat rfl); intro w' H') | ((repeat (with_reducible apply Hp.set' 3)); (with_reducible exact H); (repeat rfl); intro w' H') | ((repeat (with_reducible apply Hp.set' 4)); (with_reducible exact H); (repeat rfl); intro w' H') | ((repeat (with_reducible apply Hp.set' 5)); (with_reducible exact H); (repeat rfl); intro w' H') | ((repeat (with_reducible apply Hp.set' 6)); (with_reducible exact H); (repeat rfl); intro w' H') | ((repeat (with_reducible apply Hp.set' 7)); (with_reducible exact H); (repeat rfl); intro w' H')); ((try simp only [List.set_cons_zero, List.set_cons_succ, List.setIfInBounds_toArray] at H'); clear C H; have H := H'; clear H'; have C := Hp.facts H; simp only [Facts, factsL, and_true, true_and, List.set_cons_zero, List.set_cons_succ, List.setIfInBounds_toArray] at C)) | go_values | go_skip | go_guarded | go_step | go_upon | go_back | (simp only [Int.not_lt, Int.not_le] at *; go_simp) | (go_values <;> (try go_simp)) | (go_ite <;> go_prune <;> (try go_simp)) | (split <;> (first | (rename_i hx; exact (hx _ rfl).elim) | go_prune))))
          refine (hW _ _ (Hp.row H 0 rfl)).mono ?_
          (rintro e' w' ⟨⟨v', rfl, ho⟩, hb'⟩; have H' := Hp.rowOf H hb' ho; obtain ⟨A5, c5, rfl⟩ := Go.LawLift.own_form ho; clear ho hb'; ((try simp only [List.set_cons_zero, List.set_cons_succ, List.setIfInBounds_toArray] at H'); clear C H; have H := H'; clear H'; have C := Hp.facts H; simp only [Facts, factsL, and_true, true_and, List.set_cons_zero, List.set_cons_succ, List.setIfInBounds_toArray] at C))
          (repeat' ((fail_if_success (with_reducible show bodyPost _ _ _ _ _ _)); first | ((with_reducible refine Hp.abs_alloc H ?_); intro b' w' H' hb'; (try simp only [hb']); clear hb'; ((try simp only [List.set_cons_zero, List.set_cons_succ, List.setIfInBounds_toArray] at H'); clear C H; have H := H'; clear H'; have C := Hp.facts H; simp only [Facts, factsL, and_true, true_and, List.set_cons_zero, List.set_cons_succ, List.setIfInBounds_toArray] at C)) | ((with_reducible show wpList _ _ _ _ _ (World.setCell _ _ _)); (with_reducible apply Hp.abs_gen H); (first | ((repeat (with_reducible apply Hp.set' 0)); (with_reducible exact H); (repeat rfl); intro w' H') | ((repeat (with_reducible apply Hp.set' 1)); (with_reducible exact H); (repeat rfl); intro w' H') | ((repeat (with_reducible apply Hp.set' 2)); (with_reducible exact H); (repeat rfl); intro w' H') | ((repeat (with_reducible apply Hp.set' 3)); (with_reducible exact H); (repeat rfl); intro w' H') | ((repeat (with_reducible apply Hp.set' 4)); (with_reducible exact H); (repeat rfl); intro w' H') | ((repeat (with_reducible apply Hp.set' 5)); (with_reducible exact H); (repeat rfl); intro w' H') | ((repeat (with_reducible apply Hp.set' 6)); (with_reducible exact H); (repeat rfl); intro w' H') | ((repeat (with_reducible apply Hp.set' 7)); (with_reducible exact H); (repeat rfl); intro w' H')); ((try simp only [List.set_cons_zero, List.set_cons_succ, List.setIfInBounds_toArray] at H'); clear C H; have H := H'; clear H'; have C := Hp.facts H; simp only [Facts, factsL, and_true, true_and, List.set_cons_zero, List.set_cons_succ, List.setIfInBounds_toArray] at C)) | go_values | go_skip | go_guarded | go_step | go_upon | go_back | (simp only [Int.not_lt, Int.not_le] at *; go_simp) | (go_values <;> (try go_simp)) | (go_ite <;> go_prune <;> (try go_simp)) | (split <;> (first | (rename_i hx; exact (hx _ rfl).elim) | go_prune))))
          try simp (disch := omega) only [decide_eq_true, decide_eq_false]
          obtain ⟨wR10, rfl⟩ := Hp.nameW H
          apply region_n (frm wR10.heap.size (fun _ => Hp _ _)) (frm_ok ?hfs_2) frm_sz [] [.light 0 0, .light 0 0, .light 0 0, .light 0 0, .light 0 0, .light 0 0, .light 0 0, .light 0 0, .light 0 0, .light 0 0, .light 0 0, .light 0 0, .light 0 0, .light 0 0, .light 0 0, .light 0 0, .light 0 0, .light 0 0, .light 0 0, .light 0 0, .light 0 0, .light 0 0, .light 0 0, .light 0 0] [false, false, false, false, false, false, false, false, false, false, false, false, false, false, false, false, false, false, false, false, false, false, false, false] 24 96 [] [some 73, some 74, some 75, some 76, some 77, some 78, some 79, some 80, some 81, some 82, some 83, some 84, some 85, some 86, some 87, some 88, some 89, some 90, some 91, some 92, some 93, some 94, some 95, some 6] [[], [0], [1], [1], [1, 2, 3], [1, 4], [5], [6], [6, 7], [6], [6, 8, 9], [6, 10], [11], [12], [12], [12, 13, 14], [12, 15], [16], [17], [17, 18], [17], [17, 19, 20], [17, 21], [22]] [Eq1 (.bool true), Eq1 _, Eq1 _, Eq1 _, Eq1 (.bool true), Eq1 _, Eq1 _, Eq1 _, Eq1 _, Eq1 _, Eq1 (.bool true), Eq1 _, Eq1 _, Eq1 _, Eq1 _, Eq1 (.bool true), Eq1 _, Eq1 _, Eq1 _, Eq1 _, Eq1 _, Eq1 (.bool true), Eq1 _, Eq1 _] ?hq1_2 ?hq2_2 ?hq3_2 ?hq4_2 ?hq5_2 ?hq6_2 _ ?hA_2 ?hst_2 ?h0_2 ?hsteps_2 ?hend_2
          case hq1_2 => kernel_rfl
          case hq2_2 => kernel_rfl
          case hq3_2 => kernel_rfl
          case hq5_2 => kernel_rfl
          case hq4_2 => rfl
          case hq6_2 => rfl
          case hA_2 => intro vs; simp only [fillD, Nat.reduceAdd, Act.put, List.setIfInBounds_toArray, List.set_cons_zero, List.set_cons_succ]; rfl
          case h0_2 => exact H.drew
          case hfs_2 => exact fun _ _ _ hb h => Hp.step h hb
          case hsteps_2 =>
            refine ⟨?_, ?_, ?_, ?_, ?_, ?_, ?_, ?_, ?_, ?_, ?_, ?_, ?_, ?_, ?_, ?_, ?_, ?_, ?_, ?_, ?_, ?_, ?_, ?_, trivial⟩
            · intro p vs w' K hJ hp1 hp2 hS hR hK
              rw [if_pos (by rfl)]
              have C := Hp.facts hS
              simp only [Facts, factsL, and_true, true_and, List.set_cons_zero, List.set_cons_succ, List.setIfInBounds_toArray] at C
              have hsz := hR.1
              go_step
              refine (known6_any _ (hTc.below (Hp.low hS))).mono ?_
              rintro e' w'' ⟨rfl, hb⟩
              exact hK.out _ _ hb (Eq1.of (rfl)) Fresh.no
            · intro p vs w' K hJ hp1 hp2 hS hR hK
              simp only [DepJ, List.getD_cons_zero, List.getD_cons_succ] at hJ
              obtain ⟨j0, -⟩ := hJ
              have j0 := Eq1.out j0
              simp only [j0] at hK ⊢
              rw [if_pos (by rfl)]
              go_step
              exact hK.out _ _ (Below.refl _ _) Eq1.mk Fresh.no
            · intro p vs w' K hJ hp1 hp2 hS hR hK
              simp only [DepJ, List.getD_cons_zero, List.getD_cons_succ] at hJ
              obtain ⟨j1, -⟩ := hJ
              have j1 := Eq1.out j1
              simp only [j1] at hK ⊢
              rw [if_pos (by rfl)]
              go_step
              exact hK.out _ _ (Below.refl _ _) Eq1.mk Fresh.no
            · intro p vs w' K hJ hp1 hp2 hS hR hK
              simp only [DepJ, List.getD_cons_zero, List.getD_cons_succ] at hJ
              obtain ⟨j1, -⟩ := hJ
              have j1 := Eq1.out j1
              simp only [j1] at hK ⊢
              rw [if_pos (by rfl)]
              go_step
              exact hK.out _ _ (Below.refl _ _) Eq1.mk Fresh.no
            · intro p vs w' K hJ hp1 hp2 hS hR hK
              simp only [DepJ, List.getD_cons_zero, List.getD_cons_succ] at hJ
              obtain ⟨j1, j2, j3, -⟩ := hJ
              have j1 := Eq1.out j1
              have j2 := Eq1.out j2
              have j3 := Eq1.out j3
              simp only [j1, j2, j3] at hK ⊢
              rw [if_pos (by rfl)]
              go_step
              exact hK.out _ _ (Below.refl _ _) (Eq1.of (by first | rfl | (simp; done) | (simp; omega))) Fresh.no
            · intro p vs w' K hJ hp1 hp2 hS hR hK
              simp only [DepJ, List.getD_cons_zero, List.getD_cons_succ] at hJ
              obtain ⟨j1, j4, -⟩ := hJ
              have j1 := Eq1.out j1
              have j4 := Eq1.out j4
              simp only [j1, j4] at hK ⊢
              rw [if_pos (by rfl)]
              go_step
              exact hK.out _ _ (Below.refl _ _) Eq1.mk Fresh.no
            · intro p vs w' K hJ hp1 hp2 hS hR hK
              simp only [DepJ, List.getD_cons_zero, List.getD_cons_succ] at hJ
              obtain ⟨j5, -⟩ := hJ
              have j5 := Eq1.out j5
              simp only [j5] at hK ⊢
              rw [if_pos (by rfl)]
              go_step
              exact hK.out _ _ (Below.refl _ _) Eq1.mk Fresh.no
            · intro p vs w' K hJ hp1 hp2 hS hR hK
              simp only [DepJ, List.getD_cons_zero, List.getD_cons_succ] at hJ
              obtain ⟨j6, -⟩ := hJ
              have j6 := Eq1.out j6
              simp only [j6] at hK ⊢
              rw [if_pos (by rfl)]
              have C := Hp.facts hS
              simp only [Facts, factsL, and_true, true_and, List.set_cons_zero, List.set_cons_succ, List.setIfInBounds_toArray] at C
              have hsz := hR.1
              go_step
              exact hK.out _ _ (Below.refl _ _) Eq1.mk Fresh.no
            · intro p vs w' K hJ hp1 hp2 hS hR hK
              simp only [DepJ, List.getD_cons_zero, List.getD_cons_succ] at hJ
              obtain ⟨j6, j7, -⟩ := hJ
              have j6 := Eq1.out j6
              have j7 := Eq1.out j7
              simp only [j6, j7] at hK ⊢
              rw [if_pos (by rfl)]
              have C := Hp.facts hS
              simp only [Facts, factsL, and_true, true_and, List.set_cons_zero, List.set_cons_succ, List.setIfInBounds_toArray] at C
              have hsz := hR.1
              go_step
              refine (lof6_any _ _ _ _ _).mono ?_
              rintro e' w'' ⟨rfl, hb⟩
              exact hK.out _ _ hb Eq1.mk Fresh.no
            · intro p vs w' K hJ hp1 hp2 hS hR hK
              simp only [DepJ, List.getD_cons_zero, List.getD_cons_succ] at hJ
              obtain ⟨j6, -⟩ := hJ
              have j6 := Eq1.out j6
              simp only [j6] at hK ⊢
              rw [if_pos (by rfl)]
              have C := Hp.facts hS
              simp only [Facts, factsL, and_true, true_and, List.set_cons_zero, List.set_cons_succ, List.setIfInBounds_toArray] at C
              have hsz := hR.1
              go_step
              exact hK.out _ _ (Below.refl _ _) Eq1.mk Fresh.no
            · intro p vs w' K hJ hp1 hp2 hS hR hK
              simp only [DepJ, List.getD_cons_zero, List.getD_cons_succ] at hJ
              obtain ⟨j6, j8, j9, -⟩ := hJ
              have j6 := Eq1.out j6
              have j8 := Eq1.out j8
              have j9 := Eq1.out j9
              simp only [j6, j8, j9] at hK ⊢
              rw [if_pos (by rfl)]
              replace hS : Hp _ _ _ := hS
              go_step
              refine (rsame6_same K1 B1 _ _ _ (Hp.row hS 9 rfl) (Hp.row hS 7 rfl)).mono ?_
              rintro e' w'' ⟨rfl, hb⟩
              exact hK.out _ _ hb Eq1.mk Fresh.no
            · intro p vs w' K hJ hp1 hp2 hS hR hK
              simp only [DepJ, List.getD_cons_zero, List.getD_cons_succ] at hJ
              obtain ⟨j6, j10, -⟩ := hJ
              have j6 := Eq1.out j6
              have j10 := Eq1.out j10
              simp only [j6, j10] at hK ⊢
              rw [if_pos (by rfl)]
              go_step
              exact hK.out _ _ (Below.refl _ _) Eq1.mk Fresh.no
            · intro p vs w' K hJ hp1 hp2 hS hR hK
              simp only [DepJ, List.getD_cons_zero, List.getD_cons_succ] at hJ
              obtain ⟨j11, -⟩ := hJ
              have j11 := Eq1.out j11
              simp only [j11] at hK ⊢
              rw [if_pos (by rfl)]
              go_step
              exact hK.out _ _ (Below.refl _ _) Eq1.mk Fresh.no
            · intro p vs w' K hJ hp1 hp2 hS hR hK
              simp only [DepJ, List.getD_cons_zero, List.getD_cons_succ] at hJ
              obtain ⟨j12, -⟩ := hJ
              have j12 := Eq1.out j12
              simp only [j12] at hK ⊢
              rw [if_pos (by rfl)]
              go_step
              exact hK.out _ _ (Below.refl _ _) Eq1.mk Fresh.no
            · intro p vs w' K hJ hp1 hp2 hS hR hK
              simp only [DepJ, List.getD_cons_zero, List.getD_cons_succ] at hJ
              obtain ⟨j12, -⟩ := hJ
              have j12 := Eq1.out j12
              simp only [j12] at hK ⊢
              rw [if_pos (by rfl)]
              go_step
              exact hK.out _ _ (Below.refl _ _) Eq1.mk Fresh.no
            · intro p vs w' K hJ hp1 hp2 hS hR hK
              simp only [DepJ, List.getD_cons_zero, List.getD_cons_succ] at hJ
              obtain ⟨j12, j13, j14, -⟩ := hJ
              have j12 := Eq1.out j12
              have j13 := Eq1.out j13
              have j14 := Eq1.out j14
              simp only [j12, j13, j14] at hK ⊢
              rw [if_pos (by rfl)]
              go_step
              exact hK.out _ _ (Below.refl _ _) (Eq1.of (by first | rfl | (simp; done) | (simp; omega))) Fresh.no
            · intro p vs w' K hJ hp1 hp2 hS hR hK
              simp only [DepJ, List.getD_cons_zero, List.getD_cons_succ] at hJ
              obtain ⟨j12, j15, -⟩ := hJ
              have j12 := Eq1.out j12
              have j15 := Eq1.out j15
              simp only [j12, j15] at hK ⊢
              rw [if_pos (by rfl)]
              go_step
              exact hK.out _ _ (Below.refl _ _) Eq1.mk Fresh.no
            · intro p vs w' K hJ hp1 hp2 hS hR hK
              simp only [DepJ, List.getD_cons_zero, List.getD_cons_succ] at hJ
              obtain ⟨j16, -⟩ := hJ
              have j16 := Eq1.out j16
              simp only [j16] at hK ⊢
              rw [if_pos (by rfl)]
              go_step
              exact hK.out _ _ (Below.refl _ _) Eq1.mk Fresh.no
            · intro p vs w' K hJ hp1 hp2 hS hR hK
              simp only [DepJ, List.getD_cons_zero, List.getD_cons_succ] at hJ
              obtain ⟨j17, -⟩ := hJ
              have j17 := Eq1.out j17
              simp only [j17] at hK ⊢
              rw [if_pos (by rfl)]
              have C := Hp.facts hS
              simp only [Facts, factsL, and_true, true_and, List.set_cons_zero, List.set_cons_succ, List.setIfInBounds_toArray] at C
              have hsz := hR.1
              go_step
              exact hK.out _ _ (Below.refl _ _) Eq1.mk Fresh.no
            · intro p vs w' K hJ hp1 hp2 hS hR hK
              simp only [DepJ, List.getD_cons_zero, List.getD_cons_succ] at hJ
              obtain ⟨j17, j18, -⟩ := hJ
              have j17 := Eq1.out j17
              have j18 := Eq1.out j18
              simp only [j17, j18] at hK ⊢
              rw [if_pos (by rfl)]
              have C := Hp.facts hS
              simp only [Facts, factsL, and_true, true_and, List.set_cons_zero, List.set_cons_succ, List.setIfInBounds_toArray] at C
              have hsz := hR.1
              go_step
              refine (lof6_any _ _ _ _ _).mono ?_
              rintro e' w'' ⟨rfl, hb⟩
              exact hK.out _ _ hb Eq1.mk Fresh.no
            · intro p vs w' K hJ hp1 hp2 hS hR hK
              simp only [DepJ, List.getD_cons_zero, List.getD_cons_succ] at hJ
              obtain ⟨j17, -⟩ := hJ
              have j17 := Eq1.out j17
              simp only [j17] at hK ⊢
              rw [if_pos (by rfl)]
              have C := Hp.facts hS
              simp only [Facts, factsL, and_true, true_and, List.set_cons_zero, List.set_cons_succ, List.setIfInBounds_toArray] at C
              have hsz := hR.1
              go_step
              exact hK.out _ _ (Below.refl _ _) Eq1.mk Fresh.no
            · intro p vs w' K hJ hp1 hp2 hS hR hK
              simp only [DepJ, List.getD_cons_zero, List.getD_cons_succ] at hJ
              obtain ⟨j17, j19, j20, -⟩ := hJ
              have j17 := Eq1.out j17
              have j19 := Eq1.out j19
              have j20 := Eq1.out j20
              simp only [j17, j19, j20] at hK ⊢
              rw [if_pos (by rfl)]
              replace hS : Hp _ _ _ := hS
              go_step
              refine (rsame6_same 0 [] _ _ _ (Hp.row hS 5 rfl) (Hp.row hS 1 rfl)).mono ?_
              rintro e' w'' ⟨rfl, hb⟩
              exact hK.out _ _ hb Eq1.mk Fresh.no
            · intro p vs w' K hJ hp1 hp2 hS hR hK
              simp only [DepJ, List.getD_cons_zero, List.getD_cons_succ] at hJ
              obtain ⟨j17, j21, -⟩ := hJ
              have j17 := Eq1.out j17
              have j21 := Eq1.out j21
              simp only [j17, j21] at hK ⊢
              rw [if_pos (by rfl)]
              go_step
              exact hK.out _ _ (Below.refl _ _) Eq1.mk Fresh.no
            · intro p vs w' K hJ hp1 hp2 hS hR hK
              simp only [DepJ, List.getD_cons_zero, List.getD_cons_succ] at hJ
              obtain ⟨j22, -⟩ := hJ
              have j22 := Eq1.out j22
              simp only [j22] at hK ⊢
              rw [if_pos (by rfl)]
              go_step
              exact hK.out _ _ (Below.refl _ _) Eq1.mk Fresh.no
          case hst_2 => refine ⟨fun _ _ _ _ h => h, fun _ _ _ _ h => h, fun _ _ _ _ h => h, fun _ _ _ _ h => h, fun _ _ _ _ h => h, fun _ _ _ _ h => h, fun _ _ _ _ h => h, fun _ _ _ _ h => h, fun _ _ _ _ h => h, fun _ _ _ _ h => h, fun _ _ _ _ h => h, fun _ _ _ _ h => h, fun _ _ _ _ h => h, fun _ _ _ _ h => h, fun _ _ _ _ h => h, fun _ _ _ _ h => h, fun _ _ _ _ h => h, fun _ _ _ _ h => h, fun _ _ _ _ h => h, fun _ _ _ _ h => h, fun _ _ _ _ h => h, fun _ _ _ _ h => h, fun _ _ _ _ h => h, fun _ _ _ _ h => h, trivial⟩
          intro vs w' hJ hD hS hR
          simp only [AllJ, Nat.reduceAdd] at hJ
          obtain ⟨v0, v1, v2, v3, v4, v5, v6, v7, v8, v9, v10, v11, v12, v13, v14, v15, v16, v17, v18, v19, v20, v21, v22, v23, -⟩ := hJ
          clear C
          replace v0 := Eq1.out v0
          replace v1 := Eq1.out v1
          replace v2 := Eq1.out v2
          replace v3 := Eq1.out v3
          replace v4 := Eq1.out v4
          replace v5 := Eq1.out v5
          replace v6 := Eq1.out v6
          replace v7 := Eq1.out v7
          replace v8 := Eq1.out v8
          replace v9 := Eq1.out v9
          replace v10 := Eq1.out v10
          replace v11 := Eq1.out v11
          replace v12 := Eq1.out v12
          replace v13 := Eq1.out v13
          replace v14 := Eq1.out v14
          replace v15 := Eq1.out v15
          replace v16 := Eq1.out v16
          replace v17 := Eq1.out v17
          replace v18 := Eq1.out v18
          replace v19 := Eq1.out v19
          replace v20 := Eq1.out v20
          replace v21 := Eq1.out v21
          replace v22 := Eq1.out v22
          replace v23 := Eq1.out v23
          simp only [v0, v1, v2, v3, v4, v5, v6, v7, v8, v9, v10, v11, v12, v13, v14, v15, v16, v17, v18, v19, v20, v21, v22, v23, List.drop_succ_cons, List.drop_zero]
          refine wpList_nil' ?_
          have H' : Hp _ _ _ := hS
          clear hD hR hS v0 v1 v2 v3 v4 v5 v6 v7 v8 v9 v10 v11 v12 v13 v14 v15 v16 v17 v18 v19 v20 v21 v22 v23
          clear vs H
          have H := H'; clear H'; have C := Hp.facts H; simp only [Facts, factsL, and_true, true_and, List.set_cons_zero, List.set_cons_succ, List.setIfInBounds_toArray] at C
          (repeat' ((fail_if_success (with_reducible show bodyPost _ _ _ _ _ _)); first | ((with_reducible refine Hp.abs_alloc H ?_); intro b' w' H' hb'; (try simp only [hb']); clear hb'; ((try simp only [List.set_cons_zero, List.set_cons_succ, List.setIfInBounds_toArray] at H'); clear C H; have H := H'; clear H'; have C := Hp.facts H; simp only [Facts, factsL, and_true, true_and, List.set_cons_zero, List.set_cons_succ, List.setIfInBounds_toArray] at C)) | ((with_reducible show wpList _ _ _ _ _ (World.setCell _ _ _)); (with_reducible apply Hp.abs_gen H); (first | ((repeat (with_reducible apply Hp.set' 0)); (with_reducible exact H); (repeat rfl); intro w' H') | ((repeat (with_reducible apply Hp.set' 1)); (with_reducible exact H); (repeat rfl); intro w' H') | ((repeat (with_reducible apply Hp.set' 2)); (with_reducible exact H); (repeat rfl); intro w' H') | ((repeat (with_reducible apply Hp.set' 3)); (with_reducible exact H); (repeat rfl); intro w' H') | ((repeat (with_reducible apply Hp.set' 4)); (with_reducible exact H); (repeat rfl); intro w' H') | ((repeat (with_reducible apply Hp.set' 5)); (with_reducible exact H); (repeat rfl); intro w' H') | ((repeat (with_reducible apply Hp.set' 6)); (with_reducible exact H); (repeat rfl); intro w' H') | ((repeat (with_reducible apply Hp.set' 7)); (with_reducible exact H); (repeat rfl); intro w' H')); ((try simp only [List.set_cons_zero, List.set_cons_succ, List.setIfInBounds_toArray] at H'); clear C H; have H := H'; clear H'; have C := Hp.facts H; simp only [Facts, factsL, and_true, true_and, List.set_cons_zero, List.set_cons_succ, List.setIfInBounds_toArray] at C)) | go_values | go_skip | go_guarded | go_step | go_upon | go_back | (simp only [Int.not_lt, Int.not_le] at *; go_simp) | (go_values <;> (try go_simp)) | (go_ite <;> go_prune <;> (try go_simp)) | (split <;> (first | (rename_i hx; exact (hx _ rfl).elim) | go_prune))))
          go_ret
          exact ⟨rfl, H.low⟩
      · rcases he with rfl | rfl
        · skip
          (repeat' ((fail_if_success (with_reducible show bodyPost _ _ _ _ _ _)); first | ((with_reducible refine Hp.abs_alloc H ?_); intro b' w' H' hb'; (try simp only [hb']); clear hb'; ((try simp only [List.set_cons_zero, List.set_cons_succ, List.setIfInBounds_toArray] at H'); clear C H; have H := H'; clear H'; have C := Hp.facts H; simp only [Facts, factsL, and_true, true_and, List.set_cons_zero, List.set_cons_succ, List.setIfInBounds_toArray] at C)) | ((with_reducible show wpList _ _ _ _ _ (World.setCell _ _ _)); (with_reducible apply Hp.abs_gen H); (first | ((repeat (with_reducible apply Hp.set' 0)); (with_reducible exact H); (repeat rfl); intro w' H') | ((repeat (with_reducible apply Hp.set' 1)); (with_reducible exact H); (repeat rfl); intro w' H') | ((repeat (with_reducible apply Hp.set' 2)); (with_reducible exact H); (repeat rfl); intro w' H') | ((repeat (with_reducible apply Hp.set' 3)); (with_reducible exact H); (repeat rfl); intro w' H') | ((repeat (with_reducible apply Hp.set' 4)); (with_reducible exact H); (repeat rfl); intro w' H') | ((repeat (with_reducible apply Hp.set' 5)); (with_reducible exact H); (repeat rfl); intro w' H') | ((repeat (with_reducible apply Hp.set' 6)); (with_reducible exact H); (repeat rfl); intro w' H') | ((repeat (with_reducible apply Hp.set' 7)); (with_reducible exact H); (repeat rfl); intro w' H')); ((try simp only [List.set_cons_zero, List.set_cons_succ, List.setIfInBounds_toArray] at H'); clear C H; have H := H'; clear H'; have C := Hp.facts H; simp only [Facts, factsL, and_true, true_and, List.set_cons_zero, List.set_cons_succ, List.setIfInBounds_toArray] at C)) | go_values | go_skip | go_guarded | go_step | go_upon | go_back | (simp only [Int.not_lt, Int.not_le] at *; go_simp) | (go_values <;> (try go_simp)) | (go_ite <;> go_prune <;> (try go_simp)) | (split <;> (first | (rename_i hx; exact (hx _ rfl).elim) | go_prune))))
          refine (hO _ _ (H.zs hZ)).mono ?_
          (rintro e' w' ⟨⟨v', rfl, ho⟩, hb'⟩; have H' := Hp.rowOf H hb' ho; obtain ⟨A1, c1, rfl⟩ := Go.LawLift.own_form ho; clear ho hb'; ((try simp only [List.set_cons_zero, List.set_cons_succ, List.setIfInBounds_toArray] at H'); clear C H; have H := H'; clear H'; have C := Hp.facts H; simp only [Facts, factsL, and_true, true_and, List.set_cons_zero, List.set_cons_succ, List.setIfInBounds_toArray] at C))
          (repeat' ((fail_if_success (with_reducible show bodyPost _ _ _ _ _ _)); first | ((with_reducible refine Hp.abs_alloc H ?_); intro b' w' H' hb'; (try simp only [hb']); clear hb'; ((try simp only [List.set_cons_zero, List.set_cons_succ, List.setIfInBounds_toArray] at H'); clear C H; have H := H'; clear H'; have C := Hp.facts H; simp only [Facts, factsL, and_true, true_and, List.set_cons_zero, List.set_cons_succ, List.setIfInBounds_toArray] at C)) | ((with_reducible show wpList _ _ _ _ _ (World.setCell _ _ _)); (with_reducible apply Hp.abs_gen H); (first | ((repeat (with_reducible apply Hp.set' 0)); (with_reducible exact H); (repeat rfl); intro w' H') | ((repeat (with_reducible apply Hp.set' 1)); (with_reducible exact H); (repeat rfl); intro w' H') | ((repeat (with_reducible apply Hp.set' 2)); (with_reducible exact H); (repeat rfl); intro w' H') | ((repeat (with_reducible apply Hp.set' 3)); (with_reducible exact H); (repeat rfl); intro w' H') | ((repeat (with_reducible apply Hp.set' 4)); (with_reducible exact H); (repeat rfl); intro w' H') | ((repeat (with_reducible apply Hp.set' 5)); (with_reducible exact H); (repeat rfl); intro w' H') | ((repeat (with_reducible apply Hp.set' 6)); (with_reducible exact H); (repeat rfl); intro w' H') | ((repeat (with_reducible apply Hp.set' 7)); (with_reducible exact H); (repeat rfl); intro w' H')); ((try simp only [List.set_cons_zero, List.set_cons_succ, List.setIfInBounds_toArray] at H'); clear C H; have H := H'; clear H'; have C := Hp.facts H; simp only [Facts, factsL, and_true, true_and, List.set_cons_zero, List.set_cons_succ, List.setIfInBounds_toArray] at C)) | go_values | go_skip | go_guarded | go_step | go_upon | go_back | (simp only [Int.not_lt, Int.not_le] at *; go_simp) | (go_values <;> (try go_simp)) | (go_ite <;> go_prune <;> (try go_simp)) | (split <;> (first | (rename_i hx; exact (hx _ rfl).elim) | go_prune))))
          refine (hR _ _ (H.zs hZ)).mono ?_
          (rintro e' w' ⟨⟨v', rfl, ho⟩, hb'⟩; have H' := Hp.rowOf H hb' ho; obtain ⟨A2, c2, rfl⟩ := Go.LawLift.own_form ho; clear ho hb'; ((try simp only [List.set_cons_zero, List.set_cons_succ, List.setIfInBounds_toArray] at H'); clear C H; have H := H'; clear H'; have C := Hp.facts H; simp only [Facts, factsL, and_true, true_and, List.set_cons_zero, List.set_cons_succ, List.setIfInBounds_toArray] at C))
          (repeat' ((fail_if_success (with_reducible show bodyPost _ _ _ _ _ _)); first | ((with_reducible refine Hp.abs_alloc H ?_); intro b' w' H' hb'; (try simp only [hb']); clear hb'; ((try simp only [List.set_cons_zero, List.set_cons_succ, List.setIfInBounds_toArray] at H'); clear C H; have H := H'; clear H'; have C := Hp.facts H; simp only [Facts, factsL, and_true, true_and, List.set_cons_zero, List.set_cons_succ, List.setIfInBounds_toArray] at C)) | ((with_reducible show wpList _ _ _ _ _ (World.setCell _ _ _)); (with_reducible apply Hp.abs_gen H); (first | ((repeat (with_reducible apply Hp.set' 0)); (with_reducible exact H); (repeat rfl); intro w' H') | ((repeat (with_reducible apply Hp.set' 1)); (with_reducible exact H); (repeat rfl); intro w' H') | ((repeat (with_reducible apply Hp.set' 2)); (with_reducible exact H); (repeat rfl); intro w' H') | ((repeat (with_reducible apply Hp.set' 3)); (with_reducible exact H); (repeat rfl); intro w' H') | ((repeat (with_reducible apply Hp.set' 4)); (with_reducible exact H); (repeat rfl); intro w' H') | ((repeat (with_reducible apply Hp.set' 5)); (with_reducible exact H); (repeat rfl); intro w' H') | ((repeat (with_reducible apply Hp.set' 6)); (with_reducible exact H); (repeat rfl); intro w' H') | ((repeat (with_reducible apply Hp.set' 7)); (with_reducible exact H); (repeat rfl); intro w' H')); ((try simp only [List.set_cons_zero, List.set_cons_succ, List.setIfInBounds_toArray] at H'); clear C H; have H := H'; clear H'; have C := Hp.facts H; simp only [Facts, factsL, and_true, true_and, List.set_cons_zero, List.set_cons_succ, List.setIfInBounds_toArray] at C)) | go_values | go_skip | go_guarded | go_step | go_upon | go_back | (simp only [Int.not_lt, Int.not_le] at *; go_simp) | (go_values <;> (try go_simp)) | (go_ite <;> go_prune <;> (try go_simp)) | (split <;> (first | (rename_i hx; exact (hx _ rfl).elim) | go_prune))))
          refine (hF _ (hTc.below H.low)).mono ?_
          (rintro e' w' ⟨⟨v', rfl, ho⟩, hb'⟩; have H' := Hp.rowOf H hb' ho; obtain ⟨A3, c3, rfl⟩ := Go.LawLift.own_form ho; clear ho hb'; ((try simp only [List.set_cons_zero, List.set_cons_succ, List.setIfInBounds_toArray] at H'); clear C H; have H := H'; clear H'; have C := Hp.facts H; simp only [Facts, factsL, and_true, true_and, List.set_cons_zero, List.set_cons_succ, List.setIfInBounds_toArray] at C))
          (repeat' ((fail_if_success (with_reducible show bodyPost _ _ _ _ _ _)); first | ((with_reducible refine Hp.abs_alloc H ?_); intro b' w' H' hb'; (try simp only [hb']); clear hb'; ((try simp only [List.set_cons_zero, List.set_cons_succ, List.setIfInBounds_toArray] at H'); clear C H; have H := H'; clear H'; have C := Hp.facts H; simp only [Facts, factsL, and_true, true_and, List.set_cons_zero, List.set_cons_succ, List.setIfInBounds_toArray] at C)) | ((with_reducible show wpList _ _ _ _ _ (World.setCell _ _ _)); (with_reducible apply Hp.abs_gen H); (first | ((repeat (with_reducible apply Hp.set' 0)); (with_reducible exact H); (repeat rfl); intro w' H') | ((repeat (with_reducible apply Hp.set' 1)); (with_reducible exact H); (repeat rfl); intro w' H') | ((repeat (with_reducible apply Hp.set' 2)); (with_reducible exact H); (repeat rfl); intro w' H') | ((repeat (with_reducible apply Hp.set' 3)); (with_reducible exact H); (repeat rfl); intro w' H') | ((repeat (with_reducible apply Hp.set' 4)); (with_reducible exact H); (repeat rfl); intro w' H') | ((repeat (with_reducible apply Hp.set' 5)); (with_reducible exact H); (repeat rfl); intro w' H') | ((repeat (with_reducible apply Hp.set' 6)); (with_reducible exact H); (repeat rfl); intro w' H') | ((repeat (with_reducible apply Hp.set' 7)); (with_reducible exact H); (repeat rfl); intro w' H')); ((try simp only [List.set_cons_zero, List.set_cons_succ, List.setIfInBounds_toArray] at H'); clear C H; have H := H'; clear H'; have C := Hp.facts H; simp only [Facts, factsL, and_true, true_and, List.set_cons_zero, List.set_cons_succ, List.setIfInBounds_toArray] at C)) | (refine wpList_bytes_hp H rfl _ _ _ rfl Tryd.underlying9 Tryd.underlying22 Tryd.underlying5 L rfl (by unfold maxLen; omega) ?_; intro bs cb cs fz w' H' hcb1 hcb2 hcs; ((try simp only [List.set_cons_zero, List.set_cons_succ, List.setIfInBounds_toArray] at H'); clear C H; have H := H'; clear H'; have C := Hp.facts H; simp only [Facts, factsL, and_true, true_and, List.set_cons_zero, List.set_cons_succ, List.setIfInBounds_toArray] at C)) | go_values | go_skip | go_guarded | go_step | go_upon | go_back | (simp only [Int.not_lt, Int.not_le] at *; go_simp) | (go_values <;> (try go_simp)) | (go_ite <;> go_prune <;> (try go_simp)) | (split <;> (first | (rename_i hx; exact (hx _ rfl).elim) | go_prune))))
          refine (hQ _ _ (Bs.ofObj H 0 rfl hcb1 hcb2 hcs)).mono ?_
          (rintro e' w' ⟨⟨v', rfl, ho⟩, hb'⟩; have H' := Hp.rowOf H hb' ho; obtain ⟨A4, c4, rfl⟩ := Go.LawLift.own_form ho; clear ho hb'; ((try simp only [List.set_cons_zero, List.set_cons_succ, List.setIfInBounds_toArray] at H'); clear C H; have H := H'; clear H'; have C := Hp.facts H; simp only [Facts, factsL, and_true, true_and, List.set_cons_zero, List.set_cons_succ, List.setIfInBounds_toArray] at C))
          (repeat' ((fail_if_success (with_reducible show bodyPost _ _ _ _ _ _)); first | ((with_reducible refine Hp.abs_alloc H ?_); intro b' w' H' hb'; (try simp only [hb']); clear hb'; ((try simp only [List.set_cons_zero, List.set_cons_succ, List.setIfInBounds_toArray] at H'); clear C H; have H := H'; clear H'; have C := Hp.facts H; simp only [Facts, factsL, and_true, true_and, List.set_cons_zero, List.set_cons_succ, List.setIfInBounds_toArray] at C)) | ((with_reducible show wpList _ _ _ _ _ (World.setCell _ _ _)); (with_reducible apply Hp.abs_gen H); (first | ((repeat (with_reducible apply Hp.set' 0)); (with_reducible exact H); (repeat rfl); intro w' H') | ((repeat (with_reducible apply Hp.set' 1)); (with_reducible exact H); (repeat rfl); intro w' H') | ((repeat (with_reducible apply Hp.set' 2)); (with_reducible exact H); (repeat rfl); intro w' H') | ((repeat (with_reducible apply Hp.set' 3)); (with_reducible exact H); (repeat rfl); intro w' H') | ((repeat (with_reducible apply Hp.set' 4)); (with_reducible exact H); (repeat rfl); intro w' H') | ((repeat (with_reducible apply Hp.set' 5)); (with_reducible exact H); (repeat rfl); intro w' H') | ((repeat (with_reducible apply Hp.set' 6)); (with_reducible exact H); (repeat rfl); intro w' H') | ((repeat (with_reducible apply Hp.set' 7)); (with_reducible exact H); (repeat rfl); intro w' H')); ((try simp only [List.set_cons_zero, List.set_cons_succ, List.setIfInBounds_toArray] at H'); clear C H; have H := H'; clear H'; have C := Hp.facts H; simp only [Facts, factsL, and_true, true_and, List.set_cons_zero, List.set_cons_succ, List.setIfInBounds_toArray] at C)) | go_values | go_skip | go_guarded | go_step | go_upon | go_back | (simp only [Int.not_lt, Int.not_le] at *; go_simp) | (go_values <;> (try go_simp)) | (go_ite <;> go_prune <;> (try go_simp)) | (split <;> (first | (rename_i hx; exact (hx _ rfl).elim) | go_prune))))
          refine (hW _ _ (Hp.row H 0 rfl)).mono ?_
          (rintro e' w' ⟨⟨v', rfl, ho⟩, hb'⟩; have H' := Hp.rowOf H hb' ho; obtain ⟨A5, c5, rfl⟩ := Go.LawLift.own_form ho; clear ho hb'; ((try simp only [List.set_cons_zero, List.set_cons_succ, List.setIfInBounds_toArray] at H'); clear C H; have H := H'; clear H'; have C := Hp.facts H; simp only [Facts, factsL, and_true, true_and, List.set_cons_zero, List.set_cons_succ, List.setIfInBounds_toArray] at C))
          (repeat' ((fail_if_success (with_reducible show bodyPost _ _ _ _ _ _)); first | ((with_reducible refine Hp.abs_alloc H ?_); intro b' w' H' hb'; (try simp only [hb']); clear hb'; ((try simp only [List.set_cons_zero, List.set_cons_succ, List.setIfInBounds_toArray] at H'); clear C H; have H := H'; clear H'; have C := Hp.facts H; simp only [Facts, factsL, and_true, true_and, List.set_cons_zero, List.set_cons_succ, List.setIfInBounds_toArray] at C)) | ((with_reducible show wpList _ _ _ _ _ (World.setCell _ _ _)); (with_reducible apply Hp.abs_gen H); (first | ((repeat (with_reducible apply Hp.set' 0)); (with_reducible exact H); (repeat rfl); intro w' H') | ((repeat (with_reducible apply Hp.set' 1)); (with_reducible exact H); (repeat rfl); intro w' H') | ((repeat (with_reducible apply Hp.set' 2)); (with_reducible exact H); (repeat rfl); intro w' H') | ((repeat (with_reducible apply Hp.set' 3)); (with_reducible exact H); (repeat rfl); intro w' H') | ((repeat (with_reducible apply Hp.set' 4)); (with_reducible exact H); (repeat rfl); intro w' H') | ((repeat (with_reducible apply Hp.set' 5)); (with_reducible exact H); (repeat rfl); intro w' H') | ((repeat (with_reducible apply Hp.set' 6)); (with_reducible exact H); (repeat rfl); intro w' H') | ((repeat (with_reducible apply Hp.set' 7)); (with_reducible exact H); (repeat rfl); intro w' H')); ((try simp only [List.set_cons_zero, List.set_cons_succ, List.setIfInBounds_toArray] at H'); clear C H; have H := H'; clear H'; have C := Hp.facts H; simp only [Facts, factsL, and_true, true_and, List.set_cons_zero, List.set_cons_succ, List.setIfInBounds_toArray] at C)) | go_values | go_skip | go_guarded | go_step | go_upon | go_back | (simp only [Int.not_lt, Int.not_le] at *; go_simp) | (go_values <;> (try go_simp)) | (go_ite <;> go_prune <;> (try go_simp)) | (split <;> (first | (rename_i hx; exact (hx _ rfl).elim) | go_prune))))
          try simp (disch := omega) only [decide_eq_true, decide_eq_false]
          obtain ⟨wR10, rfl⟩ := Hp.nameW H
          apply region_n (frm wR10.heap.size (fun _ => Hp _ _)) (frm_ok ?hfs_3) frm_sz [] [.light 0 0, .light 0 0, .light 0 0, .light 0 0, .light 0 0, .light 0 0, .light 0 0, .light 0 0, .light 0 0, .light 0 0, .light 0 0, .light 0 0, .light 0 0, .light 0 0, .light 0 0, .light 0 0, .light 0 0, .light 0 0, .light 0 0, .light 0 0, .light 0 0, .light 0 0, .light 0 0, .light 0 0] [false, false, false, false, false, false, false, false, false, false, false, false, false, false, false, false, false, false, false, false, false, false, false, false] 24 96 [] [some 73, some 74, some 75, some 76, some 77, some 78, some 79, some 80, some 81, some 82, some 83, some 84, some 85, some 86, some 87, some 88, some 89, some 90, some 91, some 92, some 93, some 94, some 95, some 6] [[], [0], [1], [1], [1, 2, 3], [1, 4], [5], [6], [6, 7], [6], [6, 8, 9], [6, 10], [11], [12], [12], [12, 13, 14], [12, 15], [16], [17], [17, 18], [17], [17, 19, 20], [17, 21], [22]] [Eq1 (.bool true), Eq1 _, Eq1 _, Eq1 _, Eq1 (.bool true), Eq1 _, Eq1 _, Eq1 _, Eq1 _, Eq1 _, Eq1 (.bool true), Eq1 _, Eq1 _, Eq1 _, Eq1 _, Eq1 (.bool true), Eq1 _, Eq1 _, Eq1 _, Eq1 _, Eq1 _, Eq1 (.bool true), Eq1 _, Eq1 _] ?hq1_3 ?hq2_3 ?hq3_3 ?hq4_3 ?hq5_3 ?hq6_3 _ ?hA_3 ?hst_3 ?h0_3 ?hsteps_3 ?hend_3
          case hq1_3 => kernel_rfl
          case hq2_3 => kernel_rfl
          case hq3_3 => kernel_rfl
          case hq5_3 => kernel_rfl
          case hq4_3 => rfl
          case hq6_3 => rfl
          case hA_3 => intro vs; simp only [fillD, Nat.reduceAdd, Act.put, List.setIfInBounds_toArray, List.set_cons_zero, List.set_cons_succ]; rfl
          case h0_3 => exact H.drew
          case hfs_3 => exact fun _ _ _ hb h => Hp.step h hb
          case hsteps_3 =>
            refine ⟨?_, ?_, ?_, ?_, ?_, ?_, ?_, ?_, ?_, ?_, ?_, ?_, ?_, ?_, ?_, ?_, ?_, ?_, ?_, ?_, ?_, ?_, ?_, ?_, trivial⟩
            · intro p vs w' K hJ hp1 hp2 hS hR hK
              rw [if_pos (by rfl)]
              have C := Hp.facts hS
              simp only [Facts, factsL, and_true, true_and, List.set_cons_zero, List.set_cons_succ, List.setIfInBounds_toArray] at C
              have hsz := hR.1
              go_step
              refine (known6_any _ (hTc.below (Hp.low hS))).mono ?_
              rintro e' w'' ⟨rfl, hb⟩
              exact hK.out _ _ hb (Eq1.of (rfl)) Fresh.no
            · intro p vs w' K hJ hp1 hp2 hS hR hK
              simp only [DepJ, List.getD_cons_zero, List.getD_cons_succ] at hJ
              obtain ⟨j0, -⟩ := hJ
              have j0 := Eq1.out j0
              simp only [j0] at hK ⊢
              rw [if_pos (by rfl)]
              go_step
              exact hK.out _ _ (Below.refl _ _) Eq1.mk Fresh.no
            · intro p vs w' K hJ hp1 hp2 hS hR hK
              simp only [DepJ, List.getD_cons_zero, List.getD_cons_succ] at hJ
              obtain ⟨j1, -⟩ := hJ
              have j1 := Eq1.out j1
              simp only [j1] at hK ⊢
              rw [if_pos (by rfl)]
              go_step
              exact hK.out _ _ (Below.refl _ _) Eq1.mk Fresh.no
            · intro p vs w' K hJ hp1 hp2 hS hR hK
              simp only [DepJ, List.getD_cons_zero, List.getD_cons_succ] at hJ
              obtain ⟨j1, -⟩ := hJ
              have j1 := Eq1.out j1
              simp only [j1] at hK ⊢
              rw [if_pos (by rfl)]
              go_step
              exact hK.out _ _ (Below.refl _ _) Eq1.mk Fresh.no
            · intro p vs w' K hJ hp1 hp2 hS hR hK
              simp only [DepJ, List.getD_cons_zero, List.getD_cons_succ] at hJ
              obtain ⟨j1, j2, j3, -⟩ := hJ
              have j1 := Eq1.out j1
              have j2 := Eq1.out j2
              have j3 := Eq1.out j3
              simp only [j1, j2, j3] at hK ⊢
              rw [if_pos (by rfl)]
              go_step
              exact hK.out _ _ (Below.refl _ _) (Eq1.of (by first | rfl | (simp; done) | (simp; omega))) Fresh.no
            · intro p vs w' K hJ hp1 hp2 hS hR hK
              simp only [DepJ, List.getD_cons_zero, List.getD_cons_succ] at hJ
              obtain ⟨j1, j4, -⟩ := hJ
              have j1 := Eq1.out j1
              have j4 := Eq1.out j4
              simp only [j1, j4] at hK ⊢
              rw [if_pos (by rfl)]
              go_step
              exact hK.out _ _ (Below.refl _ _) Eq1.mk Fresh.no
            · intro p vs w' K hJ hp1 hp2 hS hR hK
              simp only [DepJ, List.getD_cons_zero, List.getD_cons_succ] at hJ
              obtain ⟨j5, -⟩ := hJ
              have j5 := Eq1.out j5
              simp only [j5] at hK ⊢
              rw [if_pos (by rfl)]
              go_step
              exact hK.out _ _ (Below.refl _ _) Eq1.mk Fresh.no
            · intro p vs w' K hJ hp1 hp2 hS hR hK
              simp only [DepJ, List.getD_cons_zero, List.getD_cons_succ] at hJ
              obtain ⟨j6, -⟩ := hJ
              have j6 := Eq1.out j6
              simp only [j6] at hK ⊢
              rw [if_pos (by rfl)]
              have C := Hp.facts hS
              simp only [Facts, factsL, and_true, true_and, List.set_cons_zero, List.set_cons_succ, List.setIfInBounds_toArray] at C
              have hsz := hR.1
              go_step
              exact hK.out _ _ (Below.refl _ _) Eq1.mk Fresh.no
            · intro p vs w' K hJ hp1 hp2 hS hR hK
              simp only [DepJ, List.getD_cons_zero, List.getD_cons_succ] at hJ
              obtain ⟨j6, j7, -⟩ := hJ
              have j6 := Eq1.out j6
              have j7 := Eq1.out j7
              simp only [j6, j7] at hK ⊢
              rw [if_pos (by rfl)]
              have C := Hp.facts hS
              simp only [Facts, factsL, and_true, true_and, List.set_cons_zero, List.set_cons_succ, List.setIfInBounds_toArray] at C
              have hsz := hR.1
              go_step
              refine (lof6_any _ _ _ _ _).mono ?_
              rintro e' w'' ⟨rfl, hb⟩
              exact hK.out _ _ hb Eq1.mk Fresh.no
            · intro p vs w' K hJ hp1 hp2 hS hR hK
              simp only [DepJ, List.getD_cons_zero, List.getD_cons_succ] at hJ
              obtain ⟨j6, -⟩ := hJ
              have j6 := Eq1.out j6
              simp only [j6] at hK ⊢
              rw [if_pos (by rfl)]
              have C := Hp.facts hS
              simp only [Facts, factsL, and_true, true_and, List.set_cons_zero, List.set_cons_succ, List.setIfInBounds_toArray] at C
              have hsz := hR.1
              go_step
              exact hK.out _ _ (Below.refl _ _) Eq1.mk Fresh.no
            · intro p vs w' K hJ hp1 hp2 hS hR hK
              simp only [DepJ, List.getD_cons_zero, List.getD_cons_succ] at hJ
              obtain ⟨j6, j8, j9, -⟩ := hJ
              have j6 := Eq1.out j6
              have j8 := Eq1.out j8
              have j9 := Eq1.out j9
              simp only [j6, j8, j9] at hK ⊢
              rw [if_pos (by rfl)]
              replace hS : Hp _ _ _ := hS
              go_step
              refine (rsame6_same K1 B1 _ _ _ (Hp.row hS 9 rfl) (Hp.row hS 7 rfl)).mono ?_
              rintro e' w'' ⟨rfl, hb⟩
              exact hK.out _ _ hb Eq1.mk Fresh.no
            · intro p vs w' K hJ hp1 hp2 hS hR hK
              simp only [DepJ, List.getD_cons_zero, List.getD_cons_succ] at hJ
              obtain ⟨j6, j10, -⟩ := hJ
              have j6 := Eq1.out j6
              have j10 := Eq1.out j10
              simp only [j6, j10] at hK ⊢
              rw [if_pos (by rfl)]
              go_step
              exact hK.out _ _ (Below.refl _ _) Eq1.mk Fresh.no
            · intro p vs w' K hJ hp1 hp2 hS hR hK
              simp only [DepJ, List.getD_cons_zero, List.getD_cons_succ] at hJ
              obtain ⟨j11, -⟩ := hJ
              have j11 := Eq1.out j11
              simp only [j11] at hK ⊢
              rw [if_pos (by rfl)]
              go_step
              exact hK.out _ _ (Below.refl _ _) Eq1.mk Fresh.no
            · intro p vs w' K hJ hp1 hp2 hS hR hK
              simp only [DepJ, List.getD_cons_zero, List.getD_cons_succ] at hJ
              obtain ⟨j12, -⟩ := hJ
              have j12 := Eq1.out j12
              simp only [j12] at hK ⊢
              rw [if_pos (by rfl)]
              go_step
              exact hK.out _ _ (Below.refl _ _) Eq1.mk Fresh.no
            · intro p vs w' K hJ hp1 hp2 hS hR hK
              simp only [DepJ, List.getD_cons_zero, List.getD_cons_succ] at hJ
              obtain ⟨j12, -⟩ := hJ
              have j12 := Eq1.out j12
              simp only [j12] at hK ⊢
              rw [if_pos (by rfl)]
              go_step
              exact hK.out _ _ (Below.refl _ _) Eq1.mk Fresh.no
            · intro p vs w' K hJ hp1 hp2 hS hR hK
              simp only [DepJ, List.getD_cons_zero, List.getD_cons_succ] at hJ
              obtain ⟨j12, j13, j14, -⟩ := hJ
              have j12 := Eq1.out j12
              have j13 := Eq1.out j13
              have j14 := Eq1.out j14
              simp only [j12, j13, j14] at hK ⊢
              rw [if_pos (by rfl)]
              go_step
              exact hK.out _ _ (Below.refl _ _) (Eq1.of (by first | rfl | (simp; done) | (simp; omega))) Fresh.no
            · intro p vs w' K hJ hp1 hp2 hS hR hK
              simp only [DepJ, List.getD_cons_zero, List.getD_cons_succ] at hJ
              obtain ⟨j12, j15, -⟩ := hJ
              have j12 := Eq1.out j12
              have j15 := Eq1.out j15
              simp only [j12, j15] at hK ⊢
              rw [if_pos (by rfl)]
              go_step
              exact hK.out _ _ (Below.refl _ _) Eq1.mk Fresh.no
            · intro p vs w' K hJ hp1 hp2 hS hR hK
              simp only [DepJ, List.getD_cons_zero, List.getD_cons_succ] at hJ
              obtain ⟨j16, -⟩ := hJ
              have j16 := Eq1.out j16
              simp only [j16] at hK ⊢
              rw [if_pos (by rfl)]
              go_step
              exact hK.out _ _ (Below.refl _ _) Eq1.mk Fresh.no
            · intro p vs w' K hJ hp1 hp2 hS hR hK
              simp only [DepJ, List.getD_cons_zero, List.getD_cons_succ] at hJ
              obtain ⟨j17, -⟩ := hJ
              have j17 := Eq1.out j17
              simp only [j17] at hK ⊢
              rw [if_pos (by rfl)]
              have C := Hp.facts hS
              simp only [Facts, factsL, and_true, true_and, List.set_cons_zero, List.set_cons_succ, List.setIfInBounds_toArray] at C
              have hsz := hR.1
              go_step
              exact hK.out _ _ (Below.refl _ _) Eq1.mk Fresh.no
            · intro p vs w' K hJ hp1 hp2 hS hR hK
              simp only [DepJ, List.getD_cons_zero, List.getD_cons_succ] at hJ
              obtain ⟨j17, j18, -⟩ := hJ
              have j17 := Eq1.out j17
              have j18 := Eq1.out j18
              simp only [j17, j18] at hK ⊢
              rw [if_pos (by rfl)]
              have C := Hp.facts hS
              simp only [Facts, factsL, and_true, true_and, List.set_cons_zero, List.set_cons_succ, List.setIfInBounds_toArray] at C
              have hsz := hR.1
              go_step
              refine (lof6_any _ _ _ _ _).mono ?_
              rintro e' w'' ⟨rfl, hb⟩
              exact hK.out _ _ hb Eq1.mk Fresh.no
            · intro p vs w' K hJ hp1 hp2 hS hR hK
              simp only [DepJ, List.getD_cons_zero, List.getD_cons_succ] at hJ
              obtain ⟨j17, -⟩ := hJ
              have j17 := Eq1.out j17
              simp only [j17] at hK ⊢
              rw [if_pos (by rfl)]
              have C := Hp.facts hS
              simp only [Facts, factsL, and_true, true_and, List.set_cons_zero, List.set_cons_succ, List.setIfInBounds_toArray] at C
              have hsz := hR.1
              go_step
              exact hK.out _ _ (Below.refl _ _) Eq1.mk Fresh.no
            · intro p vs w' K hJ hp1 hp2 hS hR hK
              simp only [DepJ, List.getD_cons_zero, List.getD_cons_succ] at hJ
              obtain ⟨j17, j19, j20, -⟩ := hJ
              have j17 := Eq1.out j17
              have j19 := Eq1.out j19
              have j20 := Eq1.out j20
              simp only [j17, j19, j20] at hK ⊢
              rw [if_pos (by rfl)]
              replace hS : Hp _ _ _ := hS
              go_step
              refine (rsame6_same K3 B3 _ _ _ (Hp.row hS 5 rfl) (Hp.row hS 1 rfl)).mono ?_
              rintro e' w'' ⟨rfl, hb⟩
              exact hK.out _ _ hb Eq1.mk Fresh.no
            · intro p vs w' K hJ hp1 hp2 hS hR hK
              simp only [DepJ, List.getD_cons_zero, List.getD_cons_succ] at hJ
              obtain ⟨j17, j21, -⟩ := hJ
              have j17 := Eq1.out j17
              have j21 := Eq1.out j21
              simp only [j17, j21] at hK ⊢
              rw [if_pos (by rfl)]
              go_step
              exact hK.out _ _ (Below.refl _ _) Eq1.mk Fresh.no
            · intro p vs w' K hJ hp1 hp2 hS hR hK
              simp only [DepJ, List.getD_cons_zero, List.getD_cons_succ] at hJ
              obtain ⟨j22, -⟩ := hJ
              have j22 := Eq1.out j22
              simp only [j22] at hK ⊢
              rw [if_pos (by rfl)]
              go_step
              exact hK.out _ _ (Below.refl _ _) Eq1.mk Fresh.no
          case hst_3 => refine ⟨fun _ _ _ _ h => h, fun _ _ _ _ h => h, fun _ _ _ _ h => h, fun _ _ _ _ h => h, fun _ _ _ _ h => h, fun _ _ _ _ h => h, fun _ _ _ _ h => h, fun _ _ _ _ h => h, fun _ _ _ _ h => h, fun _ _ _ _ h => h, fun _ _ _ _ h => h, fun _ _ _ _ h => h, fun _ _ _ _ h => h, fun _ _ _ _ h => h, fun _ _ _ _ h => h, fun _ _ _ _ h => h, fun _ _ _ _ h => h, fun _ _ _ _ h => h, fun _ _ _ _ h => h, fun _ _ _ _ h => h, fun _ _ _ _ h => h, fun _ _ _ _ h => h, fun _ _ _ _ h => h, fun _ _ _ _ h => h, trivial⟩
          intro vs w' hJ hD hS hR
          simp only [AllJ, Nat.reduceAdd] at hJ
          obtain ⟨v0, v1, v2, v3, v4, v5, v6, v7, v8, v9, v10, v11, v12, v13, v14, v15, v16, v17, v18, v19, v20, v21, v22, v23, -⟩ := hJ
          clear C
          replace v0 := Eq1.out v0
          replace v1 := Eq1.out v1
          replace v2 := Eq1.out v2
          replace v3 := Eq1.out v3
          replace v4 := Eq1.out v4
          replace v5 := Eq1.out v5
          replace v6 := Eq1.out v6
          replace v7 := Eq1.out v7
          replace v8 := Eq1.out v8
          replace v9 := Eq1.out v9
          replace v10 := Eq1.out v10
          replace v11 := Eq1.out v11
          replace v12 := Eq1.out v12
          replace v13 := Eq1.out v13
          replace v14 := Eq1.out v14
          replace v15 := Eq1.out v15
          replace v16 := Eq1.out v16
          replace v17 := Eq1.out v17
          replace v18 := Eq1.out v18
          replace v19 := Eq1.out v19
          replace v20 := Eq1.out v20
          replace v21 := Eq1.out v21
          replace v22 := Eq1.out v22
          replace v23 := Eq1.out v23
          simp only [v0, v1, v2, v3, v4, v5, v6, v7, v8, v9, v10, v11, v12, v13, v14, v15, v16, v17, v18, v19, v20, v21, v22, v23, List.drop_succ_cons, List.drop_zero]
          refine wpList_nil' ?_
          have H' : Hp _ _ _ := hS
          clear hD hR hS v0 v1 v2 v3 v4 v5 v6 v7 v8 v9 v10 v11 v12 v13 v14 v15 v16 v17 v18 v19 v20 v21 v22 v23
          clear vs H
          have H := H'; clear H'; have C := Hp.facts H; simp only [Facts, factsL, and_true, true_and, List.set_cons_zero, List.set_cons_succ, List.setIfInBounds_toArray] at C
          (repeat' ((fail_if_success (with_reducible show bodyPost _ _ _ _ _ _)); first | ((with_reducible refine Hp.abs_alloc H ?_); intro b' w' H' hb'; (try simp only [hb']); clear hb'; ((try simp only [List.set_cons_zero, List.set_cons_succ, List.setIfInBounds_toArray] at H'); clear C H; have H := H'; clear H'; have C := Hp.facts H; simp only [Facts, factsL, and_true, true_and, List.set_cons_zero, List.set_cons_succ, List.setIfInBounds_toArray] at C)) | ((with_reducible show wpList _ _ _ _ _ (World.setCell _ _ _)); (with_reducible apply Hp.abs_gen H); (first | ((repeat (with_reducible apply Hp.set' 0)); (with_reducible exact H); (repeat rfl); intro w' H') | ((repeat (with_reducible apply Hp.set' 1)); (with_reducible exact H); (repeat rfl); intro w' H') | ((repeat (with_reducible apply Hp.set' 2)); (with_reducible exact H); (repeat rfl); intro w' H') | ((repeat (with_reducible apply Hp.set' 3)); (with_reducible exact H); (repeat rfl); intro w' H') | ((repeat (with_reducible apply Hp.set' 4)); (with_reducible exact H); (repeat rfl); intro w' H') | ((repeat (with_reducible apply Hp.set' 5)); (with_reducible exact H); (repeat rfl); intro w' H') | ((repeat (with_reducible apply Hp.set' 6)); (with_reducible exact H); (repeat rfl); intro w' H') | ((repeat (with_reducible apply Hp.set' 7)); (with_reducible exact H); (repeat rfl); intro w' H')); ((try simp only [List.set_cons_zero, List.set_cons_succ, List.setIfInBounds_toArray] at H'); clear C H; have H := H'; clear H'; have C := Hp.facts H; simp only [Facts, factsL, and_true, true_and, List.set_cons_zero, List.set_cons_succ, List.setIfInBounds_toArray] at C)) | go_values | go_skip | go_guarded | go_step | go_upon | go_back | (simp only [Int.not_lt, Int.not_le] at *; go_simp) | (go_values <;> (try go_simp)) | (go_ite <;> go_prune <;> (try go_simp)) | (split <;> (first | (rename_i hx; exact (hx _ rfl).elim) | go_prune))))
          go_ret
          exact ⟨rfl, H.low⟩
        · skip
          (repeat' ((fail_if_success (with_reducible show bodyPost _ _ _ _ _ _)); first | ((with_reducible refine Hp.abs_alloc H ?_); intro b' w' H' hb'; (try simp only [hb']); clear hb'; ((try simp only [List.set_cons_zero, List.set_cons_succ, List.setIfInBounds_toArray] at H'); clear C H; have H := H'; clear H'; have C := Hp.facts H; simp only [Facts, factsL, and_true, true_and, List.set_cons_zero, List.set_cons_succ, List.setIfInBounds_toArray] at C)) | ((with_reducible show wpList _ _ _ _ _ (World.setCell _ _ _)); (with_reducible apply Hp.abs_gen H); (first | ((repeat (with_reducible apply Hp.set' 0)); (with_reducible exact H); (repeat rfl); intro w' H') | ((repeat (with_reducible apply Hp.set' 1)); (with_reducible exact H); (repeat rfl); intro w' H') | ((repeat (with_reducible apply Hp.set' 2)); (with_reducible exact H); (repeat rfl); intro w' H') | ((repeat (with_reducible apply Hp.set' 3)); (with_reducible exact H); (repeat rfl); intro w' H') | ((repeat (with_reducible apply Hp.set' 4)); (with_reducible exact H); (repeat rfl); intro w' H') | ((repeat (with_reducible apply Hp.set' 5)); (with_reducible exact H); (repeat rfl); intro w' H') | ((repeat (with_reducible apply Hp.set' 6)); (with_reducible exact H); (repeat rfl); intro w' H') | ((repeat (with_reducible apply Hp.set' 7)); (with_reducible exact H); (repeat rfl); intro w' H')); ((try simp only [List.set_cons_zero, List.set_cons_succ, List.setIfInBounds_toArray] at H'); clear C H; have H := H'; clear H'; have C := Hp.facts H; simp only [Facts, factsL, and_true, true_and, List.set_cons_zero, List.set_cons_succ, List.setIfInBounds_toArray] at C)) | go_values | go_skip | go_guarded | go_step | go_upon | go_back | (simp only [Int.not_lt, Int.not_le] at *; go_simp) | (go_values <;> (try go_simp)) | (go_ite <;> go_prune <;> (try go_simp)) | (split <;> (first | (rename_i hx; exact (hx _ rfl).elim) | go_prune))))
          refine (hO _ _ (H.zs hZ)).mono ?_
          (rintro e' w' ⟨⟨v', rfl, ho⟩, hb'⟩; have H' := Hp.rowOf H hb' ho; obtain ⟨A1, c1, rfl⟩ := Go.LawLift.own_form ho; clear ho hb'; ((try simp only [List.set_cons_zero, List.set_cons_succ, List.setIfInBounds_toArray] at H'); clear C H; have H := H'; clear H'; have C := Hp.facts H; simp only [Facts, factsL, and_true, true_and, List.set_cons_zero, List.set_cons_succ, List.setIfInBounds_toArray] at C))
          (repeat' ((fail_if_success (with_reducible show bodyPost _ _ _ _ _ _)); first | ((with_reducible refine Hp.abs_alloc H ?_); intro b' w' H' hb'; (try simp only [hb']); clear hb'; ((try simp only [List.set_cons_zero, List.set_cons_succ, List.setIfInBounds_toArray] at H'); clear C H; have H := H'; clear H'; have C := Hp.facts H; simp only [Facts, factsL, and_true, true_and, List.set_cons_zero, List.set_cons_succ, List.setIfInBounds_toArray] at C)) | ((with_reducible show wpList _ _ _ _ _ (World.setCell _ _ _)); (with_reducible apply Hp.abs_gen H); (first | ((repeat (with_reducible apply Hp.set' 0)); (with_reducible exact H); (repeat rfl); intro w' H') | ((repeat (with_reducible apply Hp.set' 1)); (with_reducible exact H); (repeat rfl); intro w' H') | ((repeat (with_reducible apply Hp.set' 2)); (with_reducible exact H); (repeat rfl); intro w' H') | ((repeat (with_reducible apply Hp.set' 3)); (with_reducible exact H); (repeat rfl); intro w' H') | ((repeat (with_reducible apply Hp.set' 4)); (with_reducible exact H); (repeat rfl); intro w' H') | ((repeat (with_reducible apply Hp.set' 5)); (with_reducible exact H); (repeat rfl); intro w' H') | ((repeat (with_reducible apply Hp.set' 6)); (with_reducible exact H); (repeat rfl); intro w' H') | ((repeat (with_reducible apply Hp.set' 7)); (with_reducible exact H); (repeat rfl); intro w' H')); ((try simp only [List.set_cons_zero, List.set_cons_succ, List.setIfInBounds_toArray] at H'); clear C H; have H := H'; clear H'; have C := Hp.facts H; simp only [Facts, factsL, and_true, true_and, List.set_cons_zero, List.set_cons_succ, List.setIfInBounds_toArray] at C)) | go_values | go_skip | go_guarded | go_step | go_upon | go_back | (simp only [Int.not_lt, Int.not_le] at *; go_simp) | (go_values <;> (try go_simp)) | (go_ite <;> go_prune <;> (try go_simp)) | (split <;> (first | (rename_i hx; exact (hx _ rfl).elim) | go_prune))))
          refine (hR _ _ (H.zs hZ)).mono ?_
          (rintro e' w' ⟨⟨v', rfl, ho⟩, hb'⟩; have H' := Hp.rowOf H hb' ho; obtain ⟨A2, c2, rfl⟩ := Go.LawLift.own_form ho; clear ho hb'; ((try simp only [List.set_cons_zero, List.set_cons_succ, List.setIfInBounds_toArray] at H'); clear C H; have H := H'; clear H'; have C := Hp.facts H; simp only [Facts, factsL, and_true, true_and, List.set_cons_zero, List.set_cons_succ, List.setIfInBounds_toArray] at C))
          (repeat' ((fail_if_success (with_reducible show bodyPost _ _ _ _ _ _)); first | ((with_reducible refine Hp.abs_alloc H ?_); intro b' w' H' hb'; (try simp only [hb']); clear hb'; ((try simp only [List.set_cons_zero, List.set_cons_succ, List.setIfInBounds_toArray] at H'); clear C H; have H := H'; clear H'; have C := Hp.facts H; simp only [Facts, factsL, and_true, true_and, List.set_cons_zero, List.set_cons_succ, List.setIfInBounds_toArray] at C)) | ((with_reducible show wpList _ _ _ _ _ (World.setCell _ _ _)); (with_reducible apply Hp.abs_gen H); (first | ((repeat (with_reducible apply Hp.set' 0)); (with_reducible exact H); (repeat rfl); intro w' H') | ((repeat (with_reducible apply Hp.set' 1)); (with_reducible exact H); (repeat rfl); intro w' H') | ((repeat (with_reducible apply Hp.set' 2)); (with_reducible exact H); (repeat rfl); intro w' H') | ((repeat (with_reducible apply Hp.set' 3)); (with_reducible exact H); (repeat rfl); intro w' H') | ((repeat (with_reducible apply Hp.set' 4)); (with_reducible exact H); (repeat rfl); intro w' H') | ((repeat (with_reducible apply Hp.set' 5)); (with_reducible exact H); (repeat rfl); intro w' H') | ((repeat (with_reducible apply Hp.set' 6)); (with_reducible exact H); (repeat rfl); intro w' H') | ((repeat (with_reducible apply Hp.set' 7)); (with_reducible exact H); (repeat rfl); intro w' H')); ((try simp only [List.set_cons_zero, List.set_cons_succ, List.setIfInBounds_toArray] at H'); clear C H; have H := H'; clear H'; have C := Hp.facts H; simp only [Facts, factsL, and_true, true_and, List.set_cons_zero, List.set_cons_succ, List.setIfInBounds_toArray] at C)) | go_values | go_skip | go_guarded | go_step | go_upon | go_back | (simp only [Int.not_lt, Int.not_le] at *; go_simp) | (go_values <;> (try go_simp)) | (go_ite <;> go_prune <;> (try go_simp)) | (split <;> (first | (rename_i hx; exact (hx _ rfl).elim) | go_prune))))
          refine (hF _ (hTc.below H.low)).mono ?_
          (rintro e' w' ⟨⟨v', rfl, ho⟩, hb'⟩; have H' := Hp.rowOf H hb' ho; obtain ⟨A3, c3, rfl⟩ := Go.LawLift.own_form ho; clear ho hb'; ((try simp only [List.set_cons_zero, List.set_cons_succ, List.setIfInBounds_toArray] at H'); clear C H; have H := H'; clear H'; have C := Hp.facts H; simp only [Facts, factsL, and_true, true_and, List.set_cons_zero, List.set_cons_succ, List.setIfInBounds_toArray] at C))
          (repeat' ((fail_if_success (with_reducible show bodyPost _ _ _ _ _ _)); first | ((with_reducible refine Hp.abs_alloc H ?_); intro b' w' H' hb'; (try simp only [hb']); clear hb'; ((try simp only [List.set_cons_zero, List.set_cons_succ, List.setIfInBounds_toArray] at H'); clear C H; have H := H'; clear H'; have C := Hp.facts H; simp only [Facts, factsL, and_true, true_and, List.set_cons_zero, List.set_cons_succ, List.setIfInBounds_toArray] at C)) | ((with_reducible show wpList _ _ _ _ _ (World.setCell _ _ _)); (with_reducible apply Hp.abs_gen H); (first | ((repeat (with_reducible apply Hp.set' 0)); (with_reducible exact H); (repeat rfl); intro w' H') | ((repeat (with_reducible apply Hp.set' 1)); (with_reducible exact H); (repeat rfl); intro w' H') | ((repeat (with_reducible apply Hp.set' 2)); (with_reducible exact H); (repeat rfl); intro w' H') | ((repeat (with_reducible apply Hp.set' 3)); (with_reducible exact H); (repeat rfl); intro w' H') | ((repeat (with_reducible apply Hp.set' 4)); (with_reducible exact H); (repeat rfl); intro w' H') | ((repeat (with_reducible apply Hp.set' 5)); (with_reducible exact H); (repeat rfl); intro w' H') | ((repeat (with_reducible apply Hp.set' 6)); (with_reducible exact H); (repeat rfl); intro w' H') | ((repeat (with_reducible apply Hp.set' 7)); (with_reducible exact H); (repeat rfl); intro w' H')); ((try simp only [List.set_cons_zero, List.set_cons_succ, List.setIfInBounds_toArray] at H'); clear C H; have H := H'; clear H'; have C := Hp.facts H; simp only [Facts, factsL, and_true, true_and, List.set_cons_zero, List.set_cons_succ, List.setIfInBounds_toArray] at C)) | (refine wpList_bytes_hp H rfl _ _ _ rfl Tryd.underlying9 Tryd.underlying22 Tryd.underlying5 L rfl (by unfold maxLen; omega) ?_; intro bs cb cs fz w' H' hcb1 hcb2 hcs; ((try simp only [List.set_cons_zero, List.set_cons_succ, List.setIfInBounds_toArray] at H'); clear C H; have H := H'; clear H'; have C := Hp.facts H; simp only [Facts, factsL, and_true, true_and, List.set_cons_zero, List.set_cons_succ, List.setIfInBounds_toArray] at C)) | go_values | go_skip | go_guarded | go_step | go_upon | go_back | (simp only [Int.not_lt, Int.not_le] at *; go_simp) | (go_values <;> (try go_simp)) | (go_ite <;> go_prune <;> (try go_simp)) | (split <;> (first | (rename_i hx; exact (hx _ rfl).elim) | go_prune))))
          refine (hQ _ _ (Bs.ofObj H 0 rfl hcb1 hcb2 hcs)).mono ?_
          (rintro e' w' ⟨⟨v', rfl, ho⟩, hb'⟩; have H' := Hp.rowOf H hb' ho; obtain ⟨A4, c4, rfl⟩ := Go.LawLift.own_form ho; clear ho hb'; ((try simp only [List.set_cons_zero, List.set_cons_succ, List.setIfInBounds_toArray] at H'); clear C H; have H := H'; clear H'; have C := Hp.facts H; simp only [Facts, factsL, and_true, true_and, List.set_cons_zero, List.set_cons_succ, List.setIfInBounds_toArray] at C))
          (repeat' ((fail_if_success (with_reducible show bodyPost _ _ _ _ _ _)); first | ((with_reducible refine Hp.abs_alloc H ?_); intro b' w' H' hb'; (try simp only [hb']); clear hb'; ((try simp only [List.set_cons_zero, List.set_cons_succ, List.setIfInBounds_toArray] at H'); clear C H; have H := H'; clear H'; have C := Hp.facts H; simp only [Facts, factsL, and_true, true_and, List.set_cons_zero, List.set_cons_succ, List.setIfInBounds_toArray] at C)) | ((with_reducible show wpList _ _ _ _ _ (World.setCell _ _ _)); (with_reducible apply Hp.abs_gen H); (first | ((repeat (with_reducible apply Hp.set' 0)); (with_reducible exact H); (repeat rfl); intro w' H') | ((repeat (with_reducible apply Hp.set' 1)); (with_reducible exact H); (repeat rfl); intro w' H') | ((repeat (with_reducible apply Hp.set' 2)); (with_reducible exact H); (repeat rfl); intro w' H') | ((repeat (with_reducible apply Hp.set' 3)); (with_reducible exact H); (repeat rfl); intro w' H') | ((repeat (with_reducible apply Hp.set' 4)); (with_reducible exact H); (repeat rfl); intro w' H') | ((repeat (with_reducible apply Hp.set' 5)); (with_reducible exact H); (repeat rfl); intro w' H') | ((repeat (with_reducible apply Hp.set' 6)); (with_reducible exact H); (repeat rfl); intro w' H') | ((repeat (with_reducible apply Hp.set' 7)); (with_reducible exact H); (repeat rfl); intro w' H')); ((try simp only [List.set_cons_zero, List.set_cons_succ, List.setIfInBounds_toArray] at H'); clear C H; have H := H'; clear H'; have C := Hp.facts H; simp only [Facts, factsL, and_true, true_and, List.set_cons_zero, List.set_cons_succ, List.setIfInBounds_toArray] at C)) | go_values | go_skip | go_guarded | go_step | go_upon | go_back | (simp only [Int.not_lt, Int.not_le] at *; go_simp) | (go_values <;> (try go_simp)) | (go_ite <;> go_prune <;> (try go_simp)) | (split <;> (first | (rename_i hx; exact (hx _ rfl).elim) | go_prune))))
          refine (hW _ _ (Hp.row H 0 rfl)).mono ?_
          (rintro e' w' ⟨⟨v', rfl, ho⟩, hb'⟩; have H' := Hp.rowOf H hb' ho; obtain ⟨A5, c5, rfl⟩ := Go.LawLift.own_form ho; clear ho hb'; ((try simp only [List.set_cons_zero, List.set_cons_succ, List.setIfInBounds_toArray] at H'); clear C H; have H := H'; clear H'; have C := Hp.facts H; simp only [Facts, factsL, and_true, true_and, List.set_cons_zero, List.set_cons_succ, List.setIfInBounds_toArray] at C))
          (repeat' ((fail_if_success (with_reducible show bodyPost _ _ _ _ _ _)); first | ((with_reducible refine Hp.abs_alloc H ?_); intro b' w' H' hb'; (try simp only [hb']); clear hb'; ((try simp only [List.set_cons_zero, List.set_cons_succ, List.setIfInBounds_toArray] at H'); clear C H; have H := H'; clear H'; have C := Hp.facts H; simp only [Facts, factsL, and_true, true_and, List.set_cons_zero, List.set_cons_succ, List.setIfInBounds_toArray] at C)) | ((with_reducible show wpList _ _ _ _ _ (World.setCell _ _ _)); (with_reducible apply Hp.abs_gen H); (first | ((repeat (with_reducible apply Hp.set' 0)); (with_reducible exact H); (repeat rfl); intro w' H') | ((repeat (with_reducible apply Hp.set' 1)); (with_reducible exact H); (repeat rfl); intro w' H') | ((repeat (with_reducible apply Hp.set' 2)); (with_reducible exact H); (repeat rfl); intro w' H') | ((repeat (with_reducible apply Hp.set' 3)); (with_reducible exact H); (repeat rfl); intro w' H') | ((repeat (with_reducible apply Hp.set' 4)); (with_reducible exact H); (repeat rfl); intro w' H') | ((repeat (with_reducible apply Hp.set' 5)); (with_reducible exact H); (repeat rfl); intro w' H') | ((repeat (with_reducible apply Hp.set' 6)); (with_reducible exact H); (repeat rfl); intro w' H') | ((repeat (with_reducible apply Hp.set' 7)); (with_reducible exact H); (repeat rfl); intro w' H')); ((try simp only [List.set_cons_zero, List.set_cons_succ, List.setIfInBounds_toArray] at H'); clear C H; have H := H'; clear H'; have C := Hp.facts H; simp only [Facts, factsL, and_true, true_and, List.set_cons_zero, List.set_cons_succ, List.setIfInBounds_toArray] at C)) | go_values | go_skip | go_guarded | go_step | go_upon | go_back | (simp only [Int.not_lt, Int.not_le] at *; go_simp) | (go_values <;> (try go_simp)) | (go_ite <;> go_prune <;> (try go_simp)) | (split <;> (first | (rename_i hx; exact (hx _ rfl).elim) | go_prune))))
          try simp (disch := omega) only [decide_eq_true, decide_eq_false]
          obtain ⟨wR10, rfl⟩ := Hp.nameW H
          apply region_n (frm wR10.heap.size (fun _ => Hp _ _)) (frm_ok ?hfs_4) frm_sz [] [.light 0 0, .light 0 0, .light 0 0, .light 0 0, .light 0 0, .light 0 0, .light 0 0, .light 0 0, .light 0 0, .light 0 0, .light 0 0, .light 0 0, .light 0 0, .light 0 0, .light 0 0, .light 0 0, .light 0 0, .light 0 0, .light 0 0, .light 0 0, .light 0 0, .light 0 0, .light 0 0, .light 0 0] [false, false, false, false, false, false, false, false, false, false, false, false, false, false, false, false, false, false, false, false, false, false, false, false] 24 96 [] [some 73, some 74, some 75, some 76, some 77, some 78, some 79, some 80, some 81, some 82, some 83, some 84, some 85, some 86, some 87, some 88, some 89, some 90, some 91, some 92, some 93, some 94, some 95, some 6] [[], [0], [1], [1], [1, 2, 3], [1, 4], [5], [6], [6, 7], [6], [6, 8, 9], [6, 10], [11], [12], [12], [12, 13, 14], [12, 15], [16], [17], [17, 18], [17], [17, 19, 20], [17, 21], [22]] [Eq1 (.bool true), Eq1 _, Eq1 _, Eq1 _, Eq1 (.bool true), Eq1 _, Eq1 _, Eq1 _, Eq1 _, Eq1 _, Eq1 (.bool true), Eq1 _, Eq1 _, Eq1 _, Eq1 _, Eq1 (.bool true), Eq1 _, Eq1 _, Eq1 _, Eq1 _, Eq1 _, Eq1 (.bool true), Eq1 _, Eq1 _] ?hq1_4 ?hq2_4 ?hq3_4 ?hq4_4 ?hq5_4 ?hq6_4 _ ?hA_4 ?hst_4 ?h0_4 ?hsteps_4 ?hend_4
          case hq1_4 => kernel_rfl
          case hq2_4 => kernel_rfl
          case hq3_4 => kernel_rfl
          case hq5_4 => kernel_rfl
          case hq4_4 => rfl
          case hq6_4 => rfl
          case hA_4 => intro vs; simp only [fillD, Nat.reduceAdd, Act.put, List.setIfInBounds_toArray, List.set_cons_zero, List.set_cons_succ]; rfl
          case h0_4 => exact H.drew
          case hfs_4 => exact fun _ _ _ hb h => Hp.step h hb
          case hsteps_4 =>
            refine ⟨?_, ?_, ?_, ?_, ?_, ?_, ?_, ?_, ?_, ?_, ?_, ?_, ?_, ?_, ?_, ?_, ?_, ?_, ?_, ?_, ?_, ?_, ?_, ?_, trivial⟩
            · intro p vs w' K hJ hp1 hp2 hS hR hK
              rw [if_pos (by rfl)]
              have C := Hp.facts hS
              simp only [Facts, factsL, and_true, true_and, List.set_cons_zero, List.set_cons_succ, List.setIfInBounds_toArray] at C
              have hsz := hR.1
              go_step
              refine (known6_any _ (hTc.below (Hp.low hS))).mono ?_
              rintro e' w'' ⟨rfl, hb⟩
              exact hK.out _ _ hb (Eq1.of (rfl)) Fresh.no
            · intro p vs w' K hJ hp1 hp2 hS hR hK
              simp only [DepJ, List.getD_cons_zero, List.getD_cons_succ] at hJ
              obtain ⟨j0, -⟩ := hJ
              have j0 := Eq1.out j0
              simp only [j0] at hK ⊢
              rw [if_pos (by rfl)]
              go_step
              exact hK.out _ _ (Below.refl _ _) Eq1.mk Fresh.no
            · intro p vs w' K hJ hp1 hp2 hS hR hK
              simp only [DepJ, List.getD_cons_zero, List.getD_cons_succ] at hJ
              obtain ⟨j1, -⟩ := hJ
              have j1 := Eq1.out j1
              simp only [j1] at hK ⊢
              rw [if_pos (by rfl)]
              go_step
              exact hK.out _ _ (Below.refl _ _) Eq1.mk Fresh.no
            · intro p vs w' K hJ hp1 hp2 hS hR hK
              simp only [DepJ, List.getD_cons_zero, List.getD_cons_succ] at hJ
              obtain ⟨j1, -⟩ := hJ
              have j1 := Eq1.out j1
              simp only [j1] at hK ⊢
              rw [if_pos (by rfl)]
              go_step
              exact hK.out _ _ (Below.refl _ _) Eq1.mk Fresh.no
            · intro p vs w' K hJ hp1 hp2 hS hR hK
              simp only [DepJ, List.getD_cons_zero, List.getD_cons_succ] at hJ
              obtain ⟨j1, j2, j3, -⟩ := hJ
              have j1 := Eq1.out j1
              have j2 := Eq1.out j2
              have j3 := Eq1.out j3
              simp only [j1, j2, j3] at hK ⊢
              rw [if_pos (by rfl)]
              go_step
              exact hK.out _ _ (Below.refl _ _) (Eq1.of (by first | rfl | (simp; done) | (simp; omega))) Fresh.no
            · intro p vs w' K hJ hp1 hp2 hS hR hK
              simp only [DepJ, List.getD_cons_zero, List.getD_cons_succ] at hJ
              obtain ⟨j1, j4, -⟩ := hJ
              have j1 := Eq1.out j1
              have j4 := Eq1.out j4
              simp only [j1, j4] at hK ⊢
              rw [if_pos (by rfl)]
              go_step
              exact hK.out _ _ (Below.refl _ _) Eq1.mk Fresh.no
            · intro p vs w' K hJ hp1 hp2 hS hR hK
              simp only [DepJ, List.getD_cons_zero, List.getD_cons_succ] at hJ
              obtain ⟨j5, -⟩ := hJ
              have j5 := Eq1.out j5
              simp only [j5] at hK ⊢
              rw [if_pos (by rfl)]
              go_step
              exact hK.out _ _ (Below.refl _ _) Eq1.mk Fresh.no
            · intro p vs w' K hJ hp1 hp2 hS hR hK
              simp only [DepJ, List.getD_cons_zero, List.getD_cons_succ] at hJ
              obtain ⟨j6, -⟩ := hJ
              have j6 := Eq1.out j6
              simp only [j6] at hK ⊢
              rw [if_pos (by rfl)]
              have C := Hp.facts hS
              simp only [Facts, factsL, and_true, true_and, List.set_cons_zero, List.set_cons_succ, List.setIfInBounds_toArray] at C
              have hsz := hR.1
              go_step
              exact hK.out _ _ (Below.refl _ _) Eq1.mk Fresh.no
            · intro p vs w' K hJ hp1 hp2 hS hR hK
              simp only [DepJ, List.getD_cons_zero, List.getD_cons_succ] at hJ
              obtain ⟨j6, j7, -⟩ := hJ
              have j6 := Eq1.out j6
              have j7 := Eq1.out j7
              simp only [j6, j7] at hK ⊢
              rw [if_pos (by rfl)]
              have C := Hp.facts hS
              simp only [Facts, factsL, and_true, true_and, List.set_cons_zero, List.set_cons_succ, List.setIfInBounds_toArray] at C
              have hsz := hR.1
              go_step
              refine (lof6_any _ _ _ _ _).mono ?_
              rintro e' w'' ⟨rfl, hb⟩
              exact hK.out _ _ hb Eq1.mk Fresh.no
            · intro p vs w' K hJ hp1 hp2 hS hR hK
              simp only [DepJ, List.getD_cons_zero, List.getD_cons_succ] at hJ
              obtain ⟨j6, -⟩ := hJ
              have j6 := Eq1.out j6
              simp only [j6] at hK ⊢
              rw [if_pos (by rfl)]
              have C := Hp.facts hS
              simp only [Facts, factsL, and_true, true_and, List.set_cons_zero, List.set_cons_succ, List.setIfInBounds_toArray] at C
              have hsz := hR.1
              go_step
              exact hK.out _ _ (Below.refl _ _) Eq1.mk Fresh.no
            · intro p vs w' K hJ hp1 hp2 hS hR hK
              simp only [DepJ, List.getD_cons_zero, List.getD_cons_succ] at hJ
              obtain ⟨j6, j8, j9, -⟩ := hJ
              have j6 := Eq1.out j6
              have j8 := Eq1.out j8
              have j9 := Eq1.out j9
              simp only [j6, j8, j9] at hK ⊢
              rw [if_pos (by rfl)]
              replace hS : Hp _ _ _ := hS
              go_step
              refine (rsame6_same K1 B1 _ _ _ (Hp.row hS 9 rfl) (Hp.row hS 7 rfl)).mono ?_
              rintro e' w'' ⟨rfl, hb⟩
              exact hK.out _ _ hb Eq1.mk Fresh.no
            · intro p vs w' K hJ hp1 hp2 hS hR hK
              simp only [DepJ, List.getD_cons_zero, List.getD_cons_succ] at hJ
              obtain ⟨j6, j10, -⟩ := hJ
              have j6 := Eq1.out j6
              have j10 := Eq1.out j10
              simp only [j6, j10] at hK ⊢
              rw [if_pos (by rfl)]
              go_step
              exact hK.out _ _ (Below.refl _ _) Eq1.mk Fresh.no
            · intro p vs w' K hJ hp1 hp2 hS hR hK
              simp only [DepJ, List.getD_cons_zero, List.getD_cons_succ] at hJ
              obtain ⟨j11, -⟩ := hJ
              have j11 := Eq1.out j11
              simp only [j11] at hK ⊢
              rw [if_pos (by rfl)]
              go_step
              exact hK.out _ _ (Below.refl _ _) Eq1.mk Fresh.no
            · intro p vs w' K hJ hp1 hp2 hS hR hK
              simp only [DepJ, List.getD_cons_zero, List.getD_cons_succ] at hJ
              obtain ⟨j12, -⟩ := hJ
              have j12 := Eq1.out j12
              simp only [j12] at hK ⊢
              rw [if_pos (by rfl)]
              go_step
              exact hK.out _ _ (Below.refl _ _) Eq1.mk Fresh.no
            · intro p vs w' K hJ hp1 hp2 hS hR hK
              simp only [DepJ, List.getD_cons_zero, List.getD_cons_succ] at hJ
              obtain ⟨j12, -⟩ := hJ
              have j12 := Eq1.out j12
              simp only [j12] at hK ⊢
              rw [if_pos (by rfl)]
              go_step
              exact hK.out _ _ (Below.refl _ _) Eq1.mk Fresh.no
            · intro p vs w' K hJ hp1 hp2 hS hR hK
              simp only [DepJ, List.getD_cons_zero, List.getD_cons_succ] at hJ
              obtain ⟨j12, j13, j14, -⟩ := hJ
              have j12 := Eq1.out j12
              have j13 := Eq1.out j13
              have j14 := Eq1.out j14
              simp only [j12, j13, j14] at hK ⊢
              rw [if_pos (by rfl)]
              go_step
              exact hK.out _ _ (Below.refl _ _) (Eq1.of (by first | rfl | (simp; done) | (simp; omega))) Fresh.no
            · intro p vs w' K hJ hp1 hp2 hS hR hK
              simp only [DepJ, List.getD_cons_zero, List.getD_cons_succ] at hJ
              obtain ⟨j12, j15, -⟩ := hJ
              have j12 := Eq1.out j12
              have j15 := Eq1.out j15
              simp only [j12, j15] at hK ⊢
              rw [if_pos (by rfl)]
              go_step
              exact hK.out _ _ (Below.refl _ _) Eq1.mk Fresh.no
            · intro p vs w' K hJ hp1 hp2 hS hR hK
              simp only [DepJ, List.getD_cons_zero, List.getD_cons_succ] at hJ
              obtain ⟨j16, -⟩ := hJ
              have j16 := Eq1.out j16
              simp only [j16] at hK ⊢
              rw [if_pos (by rfl)]
              go_step
              exact hK.out _ _ (Below.refl _ _) Eq1.mk Fresh.no
            · intro p vs w' K hJ hp1 hp2 hS hR hK
              simp only [DepJ, List.getD_cons_zero, List.getD_cons_succ] at hJ
              obtain ⟨j17, -⟩ := hJ
              have j17 := Eq1.out j17
              simp only [j17] at hK ⊢
              rw [if_pos (by rfl)]
              have C := Hp.facts hS
              simp only [Facts, factsL, and_true, true_and, List.set_cons_zero, List.set_cons_succ, List.setIfInBounds_toArray] at C
              have hsz := hR.1
              go_step
              exact hK.out _ _ (Below.refl _ _) Eq1.mk Fresh.no
            · intro p vs w' K hJ hp1 hp2 hS hR hK
              simp only [DepJ, List.getD_cons_zero, List.getD_cons_succ] at hJ
              obtain ⟨j17, j18, -⟩ := hJ
              have j17 := Eq1.out j17
              have j18 := Eq1.out j18
              simp only [j17, j18] at hK ⊢
              rw [if_pos (by rfl)]
              have C := Hp.facts hS
              simp only [Facts, factsL, and_true, true_and, List.set_cons_zero, List.set_cons_succ, List.setIfInBounds_toArray] at C
              have hsz := hR.1
              go_step
              refine (lof6_any _ _ _ _ _).mono ?_
              rintro e' w'' ⟨rfl, hb⟩
              exact hK.out _ _ hb Eq1.mk Fresh.no
            · intro p vs w' K hJ hp1 hp2 hS hR hK
              simp only [DepJ, List.getD_cons_zero, List.getD_cons_succ] at hJ
              obtain ⟨j17, -⟩ := hJ
              have j17 := Eq1.out j17
              simp only [j17] at hK ⊢
              rw [if_pos (by rfl)]
              have C := Hp.facts hS
              simp only [Facts, factsL, and_true, true_and, List.set_cons_zero, List.set_cons_succ, List.setIfInBounds_toArray] at C
              have hsz := hR.1
              go_step
              exact hK.out _ _ (Below.refl _ _) Eq1.mk Fresh.no
            · intro p vs w' K hJ hp1 hp2 hS hR hK
              simp only [DepJ, List.getD_cons_zero, List.getD_cons_succ] at hJ
              obtain ⟨j17, j19, j20, -⟩ := hJ
              have j17 := Eq1.out j17
              have j19 := Eq1.out j19
              have j20 := Eq1.out j20
              simp only [j17, j19, j20] at hK ⊢
              rw [if_pos (by rfl)]
              replace hS : Hp _ _ _ := hS
              go_step
              refine (rsame6_same K3 B3 _ _ _ (Hp.row hS 5 rfl) (Hp.row hS 1 rfl)).mono ?_
              rintro e' w'' ⟨rfl, hb⟩
              exact hK.out _ _ hb Eq1.mk Fresh.no
            · intro p vs w' K hJ hp1 hp2 hS hR hK
              simp only [DepJ, List.getD_cons_zero, List.getD_cons_succ] at hJ
              obtain ⟨j17, j21, -⟩ := hJ
              have j17 := Eq1.out j17
              have j21 := Eq1.out j21
              simp only [j17, j21] at hK ⊢
              rw [if_pos (by rfl)]
              go_step
              exact hK.out _ _ (Below.refl _ _) Eq1.mk Fresh.no
            · intro p vs w' K hJ hp1 hp2 hS hR hK
              simp only [DepJ, List.getD_cons_zero, List.getD_cons_succ] at hJ
              obtain ⟨j22, -⟩ := hJ
              have j22 := Eq1.out j22
              simp only [j22] at hK ⊢
              rw [if_pos (by rfl)]
              go_step
              exact hK.out _ _ (Below.refl _ _) Eq1.mk Fresh.no
          case hst_4 => refine ⟨fun _ _ _ _ h => h, fun _ _ _ _ h => h, fun _ _ _ _ h => h, fun _ _ _ _ h => h, fun _ _ _ _ h => h, fun _ _ _ _ h => h, fun _ _ _ _ h => h, fun _ _ _ _ h => h, fun _ _ _ _ h => h, fun _ _ _ _ h => h, fun _ _ _ _ h => h, fun _ _ _ _ h => h, fun _ _ _ _ h => h, fun _ _ _ _ h => h, fun _ _ _ _ h => h, fun _ _ _ _ h => h, fun _ _ _ _ h => h, fun _ _ _ _ h => h, fun _ _ _ _ h => h, fun _ _ _ _ h => h, fun _ _ _ _ h => h, fun _ _ _ _ h => h, fun _ _ _ _ h => h, fun _ _ _ _ h => h, trivial⟩
          intro vs w' hJ hD hS hR
          simp only [AllJ, Nat.reduceAdd] at hJ
          obtain ⟨v0, v1, v2, v3, v4, v5, v6, v7, v8, v9, v10, v11, v12, v13, v14, v15, v16, v17, v18, v19, v20, v21, v22, v23, -⟩ := hJ
          clear C
          replace v0 := Eq1.out v0
          replace v1 := Eq1.out v1
          replace v2 := Eq1.out v2
          replace v3 := Eq1.out v3
          replace v4 := Eq1.out v4
          replace v5 := Eq1.out v5
          replace v6 := Eq1.out v6
          replace v7 := Eq1.out v7
          replace v8 := Eq1.out v8
          replace v9 := Eq1.out v9
          replace v10 := Eq1.out v10
          replace v11 := Eq1.out v11
          replace v12 := Eq1.out v12
          replace v13 := Eq1.out v13
          replace v14 := Eq1.out v14
          replace v15 := Eq1.out v15
          replace v16 := Eq1.out v16
          replace v17 := Eq1.out v17
          replace v18 := Eq1.out v18
          replace v19 := Eq1.out v19
          replace v20 := Eq1.out v20
          replace v21 := Eq1.out v21
          replace v22 := Eq1.out v22
          replace v23 := Eq1.out v23
          simp only [v0, v1, v2, v3, v4, v5, v6, v7, v8, v9, v10, v11, v12, v13, v14, v15, v16, v17, v18, v19, v20, v21, v22, v23, List.drop_succ_cons, List.drop_zero]
          refine wpList_nil' ?_
          have H' : Hp _ _ _ := hS
          clear hD hR hS v0 v1 v2 v3 v4 v5 v6 v7 v8 v9 v10 v11 v12 v13 v14 v15 v16 v17 v18 v19 v20 v21 v22 v23
          clear vs H
          have H := H'; clear H'; have C := Hp.facts H; simp only [Facts, factsL, and_true, true_and, List.set_cons_zero, List.set_cons_succ, List.setIfInBounds_toArray] at C
          (repeat' ((fail_if_success (with_reducible show bodyPost _ _ _ _ _ _)); first | ((with_reducible refine Hp.abs_alloc H ?_); intro b' w' H' hb'; (try simp only [hb']); clear hb'; ((try simp only [List.set_cons_zero, List.set_cons_succ, List.setIfInBounds_toArray] at H'); clear C H; have H := H'; clear H'; have C := Hp.facts H; simp only [Facts, factsL, and_true, true_and, List.set_cons_zero, List.set_cons_succ, List.setIfInBounds_toArray] at C)) | ((with_reducible show wpList _ _ _ _ _ (World.setCell _ _ _)); (with_reducible apply Hp.abs_gen H); (first | ((repeat (with_reducible apply Hp.set' 0)); (with_reducible exact H); (repeat rfl); intro w' H') | ((repeat (with_reducible apply Hp.set' 1)); (with_reducible exact H); (repeat rfl); intro w' H') | ((repeat (with_reducible apply Hp.set' 2)); (with_reducible exact H); (repeat rfl); intro w' H') | ((repeat (with_reducible apply Hp.set' 3)); (with_reducible exact H); (repeat rfl); intro w' H') | ((repeat (with_reducible apply Hp.set' 4)); (with_reducible exact H); (repeat rfl); intro w' H') | ((repeat (with_reducible apply Hp.set' 5)); (with_reducible exact H); (repeat rfl); intro w' H') | ((repeat (with_reducible apply Hp.set' 6)); (with_reducible exact H); (repeat rfl); intro w' H') | ((repeat (with_reducible apply Hp.set' 7)); (with_reducible exact H); (repeat rfl); intro w' H')); ((try simp only [List.set_cons_zero, List.set_cons_succ, List.setIfInBounds_toArray] at H'); clear C H; have H := H'; clear H'; have C := Hp.facts H; simp only [Facts, factsL, and_true, true_and, List.set_cons_zero, List.set_cons_succ, List.setIfInBounds_toArray] at C)) | go_values | go_skip | go_guarded | go_step | go_upon | go_back | (simp only [Int.not_lt, Int.not_le] at *; go_simp) | (go_values <;> (try go_simp)) | (go_ite <;> go_prune <;> (try go_simp)) | (split <;> (first | (rename_i hx; exact (hx _ rfl).elim) | go_prune))))
          go_ret
          exact ⟨rfl, H.low⟩
      · skip
        (repeat' ((fail_if_success (with_reducible show bodyPost _ _ _ _ _ _)); first | ((with_reducible refine Hp.abs_alloc H ?_); intro b' w' H' hb'; (try simp only [hb']); clear hb'; ((try simp only [List.set_cons_zero, List.set_cons_succ, List.setIfInBounds_toArray] at H'); clear C H; have H := H'; clear H'; have C := Hp.facts H; simp only [Facts, factsL, and_true, true_and, List.set_cons_zero, List.set_cons_succ, List.setIfInBounds_toArray] at C)) | ((with_reducible show wpList _ _ _ _ _ (World.setCell _ _ _)); (with_reducible apply Hp.abs_gen H); (first | ((repeat (with_reducible apply Hp.set' 0)); (with_reducible exact H); (repeat rfl); intro w' H') | ((repeat (with_reducible apply Hp.set' 1)); (with_reducible exact H); (repeat rfl); intro w' H') | ((repeat (with_reducible apply Hp.set' 2)); (with_reducible exact H); (repeat rfl); intro w' H') | ((repeat (with_reducible apply Hp.set' 3)); (with_reducible exact H); (repeat rfl); intro w' H') | ((repeat (with_reducible apply Hp.set' 4)); (with_reducible exact H); (repeat rfl); intro w' H') | ((repeat (with_reducible apply Hp.set' 5)); (with_reducible exact H); (repeat rfl); intro w' H') | ((repeat (with_reducible apply Hp.set' 6)); (with_reducible exact H); (repeat rfl); intro w' H') | ((repeat (with_reducible apply Hp.set' 7)); (with_reducible exact H); (repeat rfl); intro w' H')); ((try simp only [List.set_cons_zero, List.set_cons_succ, List.setIfInBounds_toArray] at H'); clear C H; have H := H'; clear H'; have C := Hp.facts H; simp only [Facts, factsL, and_true, true_and, List.set_cons_zero, List.set_cons_succ, List.setIfInBounds_toArray] at C)) | go_values | go_skip | go_guarded | go_step | go_upon | go_back | (simp only [Int.not_lt, Int.not_le] at *; go_simp) | (go_values <;> (try go_simp)) | (go_ite <;> go_prune <;> (try go_simp)) | (split <;> (first | (rename_i hx; exact (hx _ rfl).elim) | go_prune))))
        refine (hO _ _ (H.zs hZ)).mono ?_
        (rintro e' w' ⟨⟨v', rfl, ho⟩, hb'⟩; have H' := Hp.rowOf H hb' ho; obtain ⟨A1, c1, rfl⟩ := Go.LawLift.own_form ho; clear ho hb'; ((try simp only [List.set_cons_zero, List.set_cons_succ, List.setIfInBounds_toArray] at H'); clear C H; have H := H'; clear H'; have C := Hp.facts H; simp only [Facts, factsL, and_true, true_and, List.set_cons_zero, List.set_cons_succ, List.setIfInBounds_toArray] at C))
        (repeat' ((fail_if_success (with_reducible show bodyPost _ _ _ _ _ _)); first | ((with_reducible refine Hp.abs_alloc H ?_); intro b' w' H' hb'; (try simp only [hb']); clear hb'; ((try simp only [List.set_cons_zero, List.set_cons_succ, List.setIfInBounds_toArray] at H'); clear C H; have H := H'; clear H'; have C := Hp.facts H; simp only [Facts, factsL, and_true, true_and, List.set_cons_zero, List.set_cons_succ, List.setIfInBounds_toArray] at C)) | ((with_reducible show wpList _ _ _ _ _ (World.setCell _ _ _)); (with_reducible apply Hp.abs_gen H); (first | ((repeat (with_reducible apply Hp.set' 0)); (with_reducible exact H); (repeat rfl); intro w' H') | ((repeat (with_reducible apply Hp.set' 1)); (with_reducible exact H); (repeat rfl); intro w' H') | ((repeat (with_reducible apply Hp.set' 2)); (with_reducible exact H); (repeat rfl); intro w' H') | ((repeat (with_reducible apply Hp.set' 3)); (with_reducible exact H); (repeat rfl); intro w' H') | ((repeat (with_reducible apply Hp.set' 4)); (with_reducible exact H); (repeat rfl); intro w' H') | ((repeat (with_reducible apply Hp.set' 5)); (with_reducible exact H); (repeat rfl); intro w' H') | ((repeat (with_reducible apply Hp.set' 6)); (with_reducible exact H); (repeat rfl); intro w' H') | ((repeat (with_reducible apply Hp.set' 7)); (with_reducible exact H); (repeat rfl); intro w' H')); ((try simp only [List.set_cons_zero, List.set_cons_succ, List.setIfInBounds_toArray] at H'); clear C H; have H := H'; clear H'; have C := Hp.facts H; simp only [Facts, factsL, and_true, true_and, List.set_cons_zero, List.set_cons_succ, List.setIfInBounds_toArray] at C)) | go_values | go_skip | go_guarded | go_step | go_upon | go_back | (simp only [Int.not_lt, Int.not_le] at *; go_simp) | (go_values <;> (try go_simp)) | (go_ite <;> go_prune <;> (try go_simp)) | (split <;> (first | (rename_i hx; exact (hx _ rfl).elim) | go_prune))))
        refine (hR _ _ (H.zs hZ)).mono ?_
        (rintro e' w' ⟨⟨v', rfl, ho⟩, hb'⟩; have H' := Hp.rowOf H hb' ho; obtain ⟨A2, c2, rfl⟩ := Go.LawLift.own_form ho; clear ho hb'; ((try simp only [List.set_cons_zero, List.set_cons_succ, List.setIfInBounds_toArray] at H'); clear C H; have H := H'; clear H'; have C := Hp.facts H; simp only [Facts, factsL, and_true, true_and, List.set_cons_zero, List.set_cons_succ, List.setIfInBounds_toArray] at C))
        (repeat' ((fail_if_success (with_reducible show bodyPost _ _ _ _ _ _)); first | ((with_reducible refine Hp.abs_alloc H ?_); intro b' w' H' hb'; (try simp only [hb']); clear hb'; ((try simp only [List.set_cons_zero, List.set_cons_succ, List.setIfInBounds_toArray] at H'); clear C H; have H := H'; clear H'; have C := Hp.facts H; simp only [Facts, factsL, and_true, true_and, List.set_cons_zero, List.set_cons_succ, List.setIfInBounds_toArray] at C)) | ((with_reducible show wpList _ _ _ _ _ (World.setCell _ _ _)); (with_reducible apply Hp.abs_gen H); (first | ((repeat (with_reducible apply Hp.set' 0)); (with_reducible exact H); (repeat rfl); intro w' H') | ((repeat (with_reducible apply Hp.set' 1)); (with_reducible exact H); (repeat rfl); intro w' H') | ((repeat (with_reducible apply Hp.set' 2)); (with_reducible exact H); (repeat rfl); intro w' H') | ((repeat (with_reducible apply Hp.set' 3)); (with_reducible exact H); (repeat rfl); intro w' H') | ((repeat (with_reducible apply Hp.set' 4)); (with_reducible exact H); (repeat rfl); intro w' H') | ((repeat (with_reducible apply Hp.set' 5)); (with_reducible exact H); (repeat rfl); intro w' H') | ((repeat (with_reducible apply Hp.set' 6)); (with_reducible exact H); (repeat rfl); intro w' H') | ((repeat (with_reducible apply Hp.set' 7)); (with_reducible exact H); (repeat rfl); intro w' H')); ((try simp only [List.set_cons_zero, List.set_cons_succ, List.setIfInBounds_toArray] at H'); clear C H; have H := H'; clear H'; have C := Hp.facts H; simp only [Facts, factsL, and_true, true_and, List.set_cons_zero, List.set_cons_succ, List.setIfInBounds_toArray] at C)) | go_values | go_skip | go_guarded | go_step | go_upon | go_back | (simp only [Int.not_lt, Int.not_le] at *; go_simp) | (go_values <;> (try go_simp)) | (go_ite <;> go_prune <;> (try go_simp)) | (split <;> (first | (rename_i hx; exact (hx _ rfl).elim) | go_prune))))
        refine (hF _ (hTc.below H.low)).mono ?_
        (rintro e' w' ⟨⟨v', rfl, ho⟩, hb'⟩; have H' := Hp.rowOf H hb' ho; obtain ⟨A3, c3, rfl⟩ := Go.LawLift.own_form ho; clear ho hb'; ((try simp only [List.set_cons_zero, List.set_cons_succ, List.setIfInBounds_toArray] at H'); clear C H; have H := H'; clear H'; have C := Hp.facts H; simp only [Facts, factsL, and_true, true_and, List.set_cons_zero, List.set_cons_succ, List.setIfInBounds_toArray] at C))
        (repeat' ((fail_if_success (with_reducible show bodyPost _ _ _ _ _ _)); first | ((with_reducible refine Hp.abs_alloc H ?_); intro b' w' H' hb'; (try simp only [hb']); clear hb'; ((try simp only [List.set_cons_zero, List.set_cons_succ, List.setIfInBounds_toArray] at H'); clear C H; have H := H'; clear H'; have C := Hp.facts H; simp only [Facts, factsL, and_true, true_and, List.set_cons_zero, List.set_cons_succ, List.setIfInBounds_toArray] at C)) | ((with_reducible show wpList _ _ _ _ _ (World.setCell _ _ _)); (with_reducible apply Hp.abs_gen H); (first | ((repeat (with_reducible apply Hp.set' 0)); (with_reducible exact H); (repeat rfl); intro w' H') | ((repeat (with_reducible apply Hp.set' 1)); (with_reducible exact H); (repeat rfl); intro w' H') | ((repeat (with_reducible apply Hp.set' 2)); (with_reducible exact H); (repeat rfl); intro w' H') | ((repeat (with_reducible apply Hp.set' 3)); (with_reducible exact H); (repeat rfl); intro w' H') | ((repeat (with_reducible apply Hp.set' 4)); (with_reducible exact H); (repeat rfl); intro w' H') | ((repeat (with_reducible apply Hp.set' 5)); (with_reducible exact H); (repeat rfl); intro w' H') | ((repeat (with_reducible apply Hp.set' 6)); (with_reducible exact H); (repeat rfl); intro w' H') | ((repeat (with_reducible apply Hp.set' 7)); (with_reducible exact H); (repeat rfl); intro w' H')); ((try simp only [List.set_cons_zero, List.set_cons_succ, List.setIfInBounds_toArray] at H'); clear C H; have H := H'; clear H'; have C := Hp.facts H; simp only [Facts, factsL, and_true, true_and, List.set_cons_zero, List.set_cons_succ, List.setIfInBounds_toArray] at C)) | (refine wpList_bytes_hp H rfl _ _ _ rfl Tryd.underlying9 Tryd.underlying22 Tryd.underlying5 L rfl (by unfold maxLen; omega) ?_; intro bs cb cs fz w' H' hcb1 hcb2 hcs; ((try simp only [List.set_cons_zero, List.set_cons_succ, List.setIfInBounds_toArray] at H'); clear C H; have H := H'; clear H'; have C := Hp.facts H; simp only [Facts, factsL, and_true, true_and, List.set_cons_zero, List.set_cons_succ, List.setIfInBounds_toArray] at C)) | go_values | go_skip | go_guarded | go_step | go_upon | go_back | (simp only [Int.not_lt, Int.not_le] at *; go_simp) | (go_values <;> (try go_simp)) | (go_ite <;> go_prune <;> (try go_simp)) | (split <;> (first | (rename_i hx; exact (hx _ rfl).elim) | go_prune))))
        refine (hQ _ _ (Bs.ofObj H 0 rfl hcb1 hcb2 hcs)).mono ?_
        (rintro e' w' ⟨⟨v', rfl, ho⟩, hb'⟩; have H' := Hp.rowOf H hb' ho; obtain ⟨A4, c4, rfl⟩ := Go.LawLift.own_form ho; clear ho hb'; ((try simp only [List.set_cons_zero, List.set_cons_succ, List.setIfInBounds_toArray] at H'); clear C H; have H := H'; clear H'; have C := Hp.facts H; simp only [Facts, factsL, and_true, true_and, List.set_cons_zero, List.set_cons_succ, List.setIfInBounds_toArray] at C))
        (repeat' ((fail_if_success (with_reducible show bodyPost _ _ _ _ _ _)); first | ((with_reducible refine Hp.abs_alloc H ?_); intro b' w' H' hb'; (try simp only [hb']); clear hb'; ((try simp only [List.set_cons_zero, List.set_cons_succ, List.setIfInBounds_toArray] at H'); clear C H; have H := H'; clear H'; have C := Hp.facts H; simp only [Facts, factsL, and_true, true_and, List.set_cons_zero, List.set_cons_succ, List.setIfInBounds_toArray] at C)) | ((with_reducible show wpList _ _ _ _ _ (World.setCell _ _ _)); (with_reducible apply Hp.abs_gen H); (first | ((repeat (with_reducible apply Hp.set' 0)); (with_reducible exact H); (repeat rfl); intro w' H') | ((repeat (with_reducible apply Hp.set' 1)); (with_reducible exact H); (repeat rfl); intro w' H') | ((repeat (with_reducible apply Hp.set' 2)); (with_reducible exact H); (repeat rfl); intro w' H') | ((repeat (with_reducible apply Hp.set' 3)); (with_reducible exact H); (repeat rfl); intro w' H') | ((repeat (with_reducible apply Hp.set' 4)); (with_reducible exact H); (repeat rfl); intro w' H') | ((repeat (with_reducible apply Hp.set' 5)); (with_reducible exact H); (repeat rfl); intro w' H') | ((repeat (with_reducible apply Hp.set' 6)); (with_reducible exact H); (repeat rfl); intro w' H') | ((repeat (with_reducible apply Hp.set' 7)); (with_reducible exact H); (repeat rfl); intro w' H')); ((try simp only [List.set_cons_zero, List.set_cons_succ, List.setIfInBounds_toArray] at H'); clear C H; have H := H'; clear H'; have C := Hp.facts H; simp only [Facts, factsL, and_true, true_and, List.set_cons_zero, List.set_cons_succ, List.setIfInBounds_toArray] at C)) | go_values | go_skip | go_guarded | go_step | go_upon | go_back | (simp only [Int.not_lt, Int.not_le] at *; go_simp) | (go_values <;> (try go_simp)) | (go_ite <;> go_prune <;> (try go_simp)) | (split <;> (first | (rename_i hx; exact (hx _ rfl).elim) | go_prune))))
        refine (hW _ _ (Hp.row H 0 rfl)).mono ?_
        (rintro e' w' ⟨⟨v', rfl, ho⟩, hb'⟩; have H' := Hp.rowOf H hb' ho; obtain ⟨A5, c5, rfl⟩ := Go.LawLift.own_form ho; clear ho hb'; ((try simp only [List.set_cons_zero, List.set_cons_succ, List.setIfInBounds_toArray] at H'); clear C H; have H := H'; clear H'; have C := Hp.facts H; simp only [Facts, factsL, and_true, true_and, List.set_cons_zero, List.set_cons_succ, List.setIfInBounds_toArray] at C))
        (repeat' ((fail_if_success (with_reducible show bodyPost _ _ _ _ _ _)); first | ((with_reducible refine Hp.abs_alloc H ?_); intro b' w' H' hb'; (try simp only [hb']); clear hb'; ((try simp only [List.set_cons_zero, List.set_cons_succ, List.setIfInBounds_toArray] at H'); clear C H; have H := H'; clear H'; have C := Hp.facts H; simp only [Facts, factsL, and_true, true_and, List.set_cons_zero, List.set_cons_succ, List.setIfInBounds_toArray] at C)) | ((with_reducible show wpList _ _ _ _ _ (World.setCell _ _ _)); (with_reducible apply Hp.abs_gen H); (first | ((repeat (with_reducible apply Hp.set' 0)); (with_reducible exact H); (repeat rfl); intro w' H') | ((repeat (with_reducible apply Hp.set' 1)); (with_reducible exact H); (repeat rfl); intro w' H') | ((repeat (with_reducible apply Hp.set' 2)); (with_reducible exact H); (repeat rfl); intro w' H') | ((repeat (with_reducible apply Hp.set' 3)); (with_reducible exact H); (repeat rfl); intro w' H') | ((repeat (with_reducible apply Hp.set' 4)); (with_reducible exact H); (repeat rfl); intro w' H') | ((repeat (with_reducible apply Hp.set' 5)); (with_reducible exact H); (repeat rfl); intro w' H') | ((repeat (with_reducible apply Hp.set' 6)); (with_reducible exact H); (repeat rfl); intro w' H') | ((repeat (with_reducible apply Hp.set' 7)); (with_reducible exact H); (repeat rfl); intro w' H')); ((try simp only [List.set_cons_zero, List.set_cons_succ, List.setIfInBounds_toArray] at H'); clear C H; have H := H'; clear H'; have C := Hp.facts H; simp only [Facts, factsL, and_true, true_and, List.set_cons_zero, List.set_cons_succ, List.setIfInBounds_toArray] at C)) | go_values | go_skip | go_guarded | go_step | go_upon | go_back | (simp only [Int.not_lt, Int.not_le] at *; go_simp) | (go_values <;> (try go_simp)) | (go_ite <;> go_prune <;> (try go_simp)) | (split <;> (first | (rename_i hx; exact (hx _ rfl).elim) | go_prune))))
        try simp (disch := omega) only [decide_eq_true, decide_eq_false]
        obtain ⟨wR10, rfl⟩ := Hp.nameW H
        apply region_n (frm wR10.heap.size (fun _ => Hp _ _)) (frm_ok ?hfs_5) frm_sz [] [.light 0 0, .light 0 0, .light 0 0, .light 0 0, .light 0 0, .light 0 0, .light 0 0, .light 0 0, .light 0 0, .light 0 0, .light 0 0, .light 0 0, .light 0 0, .light 0 0, .light 0 0, .light 0 0, .light 0 0, .light 0 0, .light 0 0, .light 0 0, .light 0 0, .light 0 0, .light 0 0, .light 0 0] [false, false, false, false, false, false, false, false, false, false, false, false, false, false, false, false, false, false, false, false, false, false, false, false] 24 96 [] [some 73, some 74, some 75, some 76, some 77, some 78, some 79, some 80, some 81, some 82, some 83, some 84, some 85, some 86, some 87, some 88, some 89, some 90, some 91, some 92, some 93, some 94, some 95, some 6] [[], [0], [1], [1], [1, 2, 3], [1, 4], [5], [6], [6, 7], [6], [6, 8, 9], [6, 10], [11], [12], [12], [12, 13, 14], [12, 15], [16], [17], [17, 18], [17], [17, 19, 20], [17, 21], [22]] [Eq1 (.bool true), Eq1 _, Eq1 _, Eq1 _, Eq1 (.bool true), Eq1 _, Eq1 _, Eq1 _, Eq1 _, Eq1 _, Eq1 (.bool true), Eq1 _, Eq1 _, Eq1 _, Eq1 _, Eq1 (.bool true), Eq1 _, Eq1 _, Eq1 _, Eq1 _, Eq1 _, Eq1 (.bool true), Eq1 _, Eq1 _] ?hq1_5 ?hq2_5 ?hq3_5 ?hq4_5 ?hq5_5 ?hq6_5 _ ?hA_5 ?hst_5 ?h0_5 ?hsteps_5 ?hend_5
        case hq1_5 => kernel_rfl
        case hq2_5 => kernel_rfl
        case hq3_5 => kernel_rfl
        case hq5_5 => kernel_rfl
        case hq4_5 => rfl
        case hq6_5 => rfl
        case hA_5 => intro vs; simp only [fillD, Nat.reduceAdd, Act.put, List.setIfInBounds_toArray, List.set_cons_zero, List.set_cons_succ]; rfl
        case h0_5 => exact H.drew
        case hfs_5 => exact fun _ _ _ hb h => Hp.step h hb
        case hsteps_5 =>
          refine ⟨?_, ?_, ?_, ?_, ?_, ?_, ?_, ?_, ?_, ?_, ?_, ?_, ?_, ?_, ?_, ?_, ?_, ?_, ?_, ?_, ?_, ?_, ?_, ?_, trivial⟩
          · intro p vs w' K hJ hp1 hp2 hS hR hK
            rw [if_pos (by rfl)]
            have C := Hp.facts hS
            simp only [Facts, factsL, and_true, true_and, List.set_cons_zero, List.set_cons_succ, List.setIfInBounds_toArray] at C
            have hsz := hR.1
            go_step
            refine (known6_any _ (hTc.below (Hp.low hS))).mono ?_
            rintro e' w'' ⟨rfl, hb⟩
            exact hK.out _ _ hb (Eq1.of (rfl)) Fresh.no
          · intro p vs w' K hJ hp1 hp2 hS hR hK
            simp only [DepJ, List.getD_cons_zero, List.getD_cons_succ] at hJ
            obtain ⟨j0, -⟩ := hJ
            have j0 := Eq1.out j0
            simp only [j0] at hK ⊢
            rw [if_pos (by rfl)]
            go_step
            exact hK.out _ _ (Below.refl _ _) Eq1.mk Fresh.no
          · intro p vs w' K hJ hp1 hp2 hS hR hK
            simp only [DepJ, List.getD_cons_zero, List.getD_cons_succ] at hJ
            obtain ⟨j1, -⟩ := hJ
            have j1 := Eq1.out j1
            simp only [j1] at hK ⊢
            rw [if_pos (by rfl)]
            go_step
            exact hK.out _ _ (Below.refl _ _) Eq1.mk Fresh.no
          · intro p vs w' K hJ hp1 hp2 hS hR hK
            simp only [DepJ, List.getD_cons_zero, List.getD_cons_succ] at hJ
            obtain ⟨j1, -⟩ := hJ
            have j1 := Eq1.out j1
            simp only [j1] at hK ⊢
            rw [if_pos (by rfl)]
            go_step
            exact hK.out _ _ (Below.refl _ _) Eq1.mk Fresh.no
          · intro p vs w' K hJ hp1 hp2 hS hR hK
            simp only [DepJ, List.getD_cons_zero, List.getD_cons_succ] at hJ
            obtain ⟨j1, j2, j3, -⟩ := hJ
            have j1 := Eq1.out j1
            have j2 := Eq1.out j2
            have j3 := Eq1.out j3
            simp only [j1, j2, j3] at hK ⊢
            rw [if_pos (by rfl)]
            go_step
            exact hK.out _ _ (Below.refl _ _) (Eq1.of (by first | rfl | (simp; done) | (simp; omega))) Fresh.no
          · intro p vs w' K hJ hp1 hp2 hS hR hK
            simp only [DepJ, List.getD_cons_zero, List.getD_cons_succ] at hJ
            obtain ⟨j1, j4, -⟩ := hJ
            have j1 := Eq1.out j1
            have j4 := Eq1.out j4
            simp only [j1, j4] at hK ⊢
            rw [if_pos (by rfl)]
            go_step
            exact hK.out _ _ (Below.refl _ _) Eq1.mk Fresh.no
          · intro p vs w' K hJ hp1 hp2 hS hR hK
            simp only [DepJ, List.getD_cons_zero, List.getD_cons_succ] at hJ
            obtain ⟨j5, -⟩ := hJ
            have j5 := Eq1.out j5
            simp only [j5] at hK ⊢
            rw [if_pos (by rfl)]
            go_step
            exact hK.out _ _ (Below.refl _ _) Eq1.mk Fresh.no
          · intro p vs w' K hJ hp1 hp2 hS hR hK
            simp only [DepJ, List.getD_cons_zero, List.getD_cons_succ] at hJ
            obtain ⟨j6, -⟩ := hJ
            have j6 := Eq1.out j6
            simp only [j6] at hK ⊢
            rw [if_pos (by rfl)]
            have C := Hp.facts hS
            simp only [Facts, factsL, and_true, true_and, List.set_cons_zero, List.set_cons_succ, List.setIfInBounds_toArray] at C
            have hsz := hR.1
            go_step
            exact hK.out _ _ (Below.refl _ _) Eq1.mk Fresh.no
          · intro p vs w' K hJ hp1 hp2 hS hR hK
            simp only [DepJ, List.getD_cons_zero, List.getD_cons_succ] at hJ
            obtain ⟨j6, j7, -⟩ := hJ
            have j6 := Eq1.out j6
            have j7 := Eq1.out j7
            simp only [j6, j7] at hK ⊢
            rw [if_pos (by rfl)]
            have C := Hp.facts hS
            simp only [Facts, factsL, and_true, true_and, List.set_cons_zero, List.set_cons_succ, List.setIfInBounds_toArray] at C
            have hsz := hR.1
            go_step
            refine (lof6_any _ _ _ _ _).mono ?_
            rintro e' w'' ⟨rfl, hb⟩
            exact hK.out _ _ hb Eq1.mk Fresh.no
          · intro p vs w' K hJ hp1 hp2 hS hR hK
            simp only [DepJ, List.getD_cons_zero, List.getD_cons_succ] at hJ
            obtain ⟨j6, -⟩ := hJ
            have j6 := Eq1.out j6
            simp only [j6] at hK ⊢
            rw [if_pos (by rfl)]
            have C := Hp.facts hS
            simp only [Facts, factsL, and_true, true_and, List.set_cons_zero, List.set_cons_succ, List.setIfInBounds_toArray] at C
            have hsz := hR.1
            go_step
            exact hK.out _ _ (Below.refl _ _) Eq1.mk Fresh.no
          · intro p vs w' K hJ hp1 hp2 hS hR hK
            simp only [DepJ, List.getD_cons_zero, List.getD_cons_succ] at hJ
            obtain ⟨j6, j8, j9, -⟩ := hJ
            have j6 := Eq1.out j6
            have j8 := Eq1.out j8
            have j9 := Eq1.out j9
            simp only [j6, j8, j9] at hK ⊢
            rw [if_pos (by rfl)]
            replace hS : Hp _ _ _ := hS
            go_step
            refine (rsame6_same K1 B1 _ _ _ (Hp.row hS 9 rfl) (Hp.row hS 7 rfl)).mono ?_
            rintro e' w'' ⟨rfl, hb⟩
            exact hK.out _ _ hb Eq1.mk Fresh.no
          · intro p vs w' K hJ hp1 hp2 hS hR hK
            simp only [DepJ, List.getD_cons_zero, List.getD_cons_succ] at hJ
            obtain ⟨j6, j10, -⟩ := hJ
            have j6 := Eq1.out j6
            have j10 := Eq1.out j10
            simp only [j6, j10] at hK ⊢
            rw [if_pos (by rfl)]
            go_step
            exact hK.out _ _ (Below.refl _ _) Eq1.mk Fresh.no
          · intro p vs w' K hJ hp1 hp2 hS hR hK
            simp only [DepJ, List.getD_cons_zero, List.getD_cons_succ] at hJ
            obtain ⟨j11, -⟩ := hJ
            have j11 := Eq1.out j11
            simp only [j11] at hK ⊢
            rw [if_pos (by rfl)]
            go_step
            exact hK.out _ _ (Below.refl _ _) Eq1.mk Fresh.no
          · intro p vs w' K hJ hp1 hp2 hS hR hK
            simp only [DepJ, List.getD_cons_zero, List.getD_cons_succ] at hJ
            obtain ⟨j12, -⟩ := hJ
            have j12 := Eq1.out j12
            simp only [j12] at hK ⊢
            rw [if_pos (by rfl)]
            go_step
            exact hK.out _ _ (Below.refl _ _) Eq1.mk Fresh.no
          · intro p vs w' K hJ hp1 hp2 hS hR hK
            simp only [DepJ, List.getD_cons_zero, List.getD_cons_succ] at hJ
            obtain ⟨j12, -⟩ := hJ
            have j12 := Eq1.out j12
            simp only [j12] at hK ⊢
            rw [if_pos (by rfl)]
            go_step
            exact hK.out _ _ (Below.refl _ _) Eq1.mk Fresh.no
          · intro p vs w' K hJ hp1 hp2 hS hR hK
            simp only [DepJ, List.getD_cons_zero, List.getD_cons_succ] at hJ
            obtain ⟨j12, j13, j14, -⟩ := hJ
            have j12 := Eq1.out j12
            have j13 := Eq1.out j13
            have j14 := Eq1.out j14
            simp only [j12, j13, j14] at hK ⊢
            rw [if_pos (by rfl)]
            go_step
            exact hK.out _ _ (Below.refl _ _) (Eq1.of (by first | rfl | (simp; done) | (simp; omega))) Fresh.no
          · intro p vs w' K hJ hp1 hp2 hS hR hK
            simp only [DepJ, List.getD_cons_zero, List.getD_cons_succ] at hJ
            obtain ⟨j12, j15, -⟩ := hJ
            have j12 := Eq1.out j12
            have j15 := Eq1.out j15
            simp only [j12, j15] at hK ⊢
            rw [if_pos (by rfl)]
            go_step
            exact hK.out _ _ (Below.refl _ _) Eq1.mk Fresh.no
          · intro p vs w' K hJ hp1 hp2 hS hR hK
            simp only [DepJ, List.getD_cons_zero, List.getD_cons_succ] at hJ
            obtain ⟨j16, -⟩ := hJ
            have j16 := Eq1.out j16
            simp only [j16] at hK ⊢
            rw [if_pos (by rfl)]
            go_step
            exact hK.out _ _ (Below.refl _ _) Eq1.mk Fresh.no
          · intro p vs w' K hJ hp1 hp2 hS hR hK
            simp only [DepJ, List.getD_cons_zero, List.getD_cons_succ] at hJ
            obtain ⟨j17, -⟩ := hJ
            have j17 := Eq1.out j17
            simp only [j17] at hK ⊢
            rw [if_pos (by rfl)]
            have C := Hp.facts hS
            simp only [Facts, factsL, and_true, true_and, List.set_cons_zero, List.set_cons_succ, List.setIfInBounds_toArray] at C
            have hsz := hR.1
            go_step
            exact hK.out _ _ (Below.refl _ _) Eq1.mk Fresh.no
          · intro p vs w' K hJ hp1 hp2 hS hR hK
            simp only [DepJ, List.getD_cons_zero, List.getD_cons_succ] at hJ
            obtain ⟨j17, j18, -⟩ := hJ
            have j17 := Eq1.out j17
            have j18 := Eq1.out j18
            simp only [j17, j18] at hK ⊢
            rw [if_pos (by rfl)]
            have C := Hp.facts hS
            simp only [Facts, factsL, and_true, true_and, List.set_cons_zero, List.set_cons_succ, List.setIfInBounds_toArray] at C
            have hsz := hR.1
            go_step
            refine (lof6_any _ _ _ _ _).mono ?_
            rintro e' w'' ⟨rfl, hb⟩
            exact hK.out _ _ hb Eq1.mk Fresh.no
          · intro p vs w' K hJ hp1 hp2 hS hR hK
            simp only [DepJ, List.getD_cons_zero, List.getD_cons_succ] at hJ
            obtain ⟨j17, -⟩ := hJ
            have j17 := Eq1.out j17
            simp only [j17] at hK ⊢
            rw [if_pos (by rfl)]
            have C := Hp.facts hS
            simp only [Facts, factsL, and_true, true_and, List.set_cons_zero, List.set_cons_succ, List.setIfInBounds_toArray] at C
            have hsz := hR.1
            go_step
            exact hK.out _ _ (Below.refl _ _) Eq1.mk Fresh.no
          · intro p vs w' K hJ hp1 hp2 hS hR hK
            simp only [DepJ, List.getD_cons_zero, List.getD_cons_succ] at hJ
            obtain ⟨j17, j19, j20, -⟩ := hJ
            have j17 := Eq1.out j17
            have j19 := Eq1.out j19
            have j20 := Eq1.out j20
            simp only [j17, j19, j20] at hK ⊢
            rw [if_pos (by rfl)]
            replace hS : Hp _ _ _ := hS
            go_step
            refine (rsame6_same 0 [] _ _ _ (Hp.row hS 5 rfl) (Bs.nil _)).mono ?_
            rintro e' w'' ⟨rfl, hb⟩
            exact hK.out _ _ hb Eq1.mk Fresh.no
          · intro p vs w' K hJ hp1 hp2 hS hR hK
            simp only [DepJ, List.getD_cons_zero, List.getD_cons_succ] at hJ
            obtain ⟨j17, j21, -⟩ := hJ
            have j17 := Eq1.out j17
            have j21 := Eq1.out j21
            simp only [j17, j21] at hK ⊢
            rw [if_pos (by rfl)]
            go_step
            exact hK.out _ _ (Below.refl _ _) Eq1.mk Fresh.no
          · intro p vs w' K hJ hp1 hp2 hS hR hK
            simp only [DepJ, List.getD_cons_zero, List.getD_cons_succ] at hJ
            obtain ⟨j22, -⟩ := hJ
            have j22 := Eq1.out j22
            simp only [j22] at hK ⊢
            rw [if_pos (by rfl)]
            go_step
            exact hK.out _ _ (Below.refl _ _) Eq1.mk Fresh.no
        case hst_5 => refine ⟨fun _ _ _ _ h => h, fun _ _ _ _ h => h, fun _ _ _ _ h => h, fun _ _ _ _ h => h, fun _ _ _ _ h => h, fun _ _ _ _ h => h, fun _ _ _ _ h => h, fun _ _ _ _ h => h, fun _ _ _ _ h => h, fun _ _ _ _ h => h, fun _ _ _ _ h => h, fun _ _ _ _ h => h, fun _ _ _ _ h => h, fun _ _ _ _ h => h, fun _ _ _ _ h => h, fun _ _ _ _ h => h, fun _ _ _ _ h => h, fun _ _ _ _ h => h, fun _ _ _ _ h => h, fun _ _ _ _ h => h, fun _ _ _ _ h => h, fun _ _ _ _ h => h, fun _ _ _ _ h => h, fun _ _ _ _ h => h, trivial⟩
        intro vs w' hJ hD hS hR
        simp only [AllJ, Nat.reduceAdd] at hJ
        obtain ⟨v0, v1, v2, v3, v4, v5, v6, v7, v8, v9, v10, v11, v12, v13, v14, v15, v16, v17, v18, v19, v20, v21, v22, v23, -⟩ := hJ
        clear C
        replace v0 := Eq1.out v0
        replace v1 := Eq1.out v1
        replace v2 := Eq1.out v2
        replace v3 := Eq1.out v3
        replace v4 := Eq1.out v4
        replace v5 := Eq1.out v5
        replace v6 := Eq1.out v6
        replace v7 := Eq1.out v7
        replace v8 := Eq1.out v8
        replace v9 := Eq1.out v9
        replace v10 := Eq1.out v10
        replace v11 := Eq1.out v11
        replace v12 := Eq1.out v12
        replace v13 := Eq1.out v13
        replace v14 := Eq1.out v14
        replace v15 := Eq1.out v15
        replace v16 := Eq1.out v16
        replace v17 := Eq1.out v17
        replace v18 := Eq1.out v18
        replace v19 := Eq1.out v19
        replace v20 := Eq1.out v20
        replace v21 := Eq1.out v21
        replace v22 := Eq1.out v22
        replace v23 := Eq1.out v23
        simp only [v0, v1, v2, v3, v4, v5, v6, v7, v8, v9, v10, v11, v12, v13, v14, v15, v16, v17, v18, v19, v20, v21, v22, v23, List.drop_succ_cons, List.drop_zero]
        refine wpList_nil' ?_
        have H' : Hp _ _ _ := hS
        clear hD hR hS v0 v1 v2 v3 v4 v5 v6 v7 v8 v9 v10 v11 v12 v13 v14 v15 v16 v17 v18 v19 v20 v21 v22 v23
        clear vs H
        have H := H'; clear H'; have C := Hp.facts H; simp only [Facts, factsL, and_true, true_and, List.set_cons_zero, List.set_cons_succ, List.setIfInBounds_toArray] at C
        (repeat' ((fail_if_success (with_reducible show bodyPost _ _ _ _ _ _)); first | ((with_reducible refine Hp.abs_alloc H ?_); intro b' w' H' hb'; (try simp only [hb']); clear hb'; ((try simp only [List.set_cons_zero, List.set_cons_succ, List.setIfInBounds_toArray] at H'); clear C H; have H := H'; clear H'; have C := Hp.facts H; simp only [Facts, factsL, and_true, true_and, List.set_cons_zero, List.set_cons_succ, List.setIfInBounds_toArray] at C)) | ((with_reducible show wpList _ _ _ _ _ (World.setCell _ _ _)); (with_reducible apply Hp.abs_gen H); (first | ((repeat (with_reducible apply Hp.set' 0)); (with_reducible exact H); (repeat rfl); intro w' H') | ((repeat (with_reducible apply Hp.set' 1)); (with_reducible exact H); (repeat rfl); intro w' H') | ((repeat (with_reducible apply Hp.set' 2)); (with_reducible exact H); (repeat rfl); intro w' H') | ((repeat (with_reducible apply Hp.set' 3)); (with_reducible exact H); (repeat rfl); intro w' H') | ((repeat (with_reducible apply Hp.set' 4)); (with_reducible exact H); (repeat rfl); intro w' H') | ((repeat (with_reducible apply Hp.set' 5)); (with_reducible exact H); (repeat rfl); intro w' H') | ((repeat (with_reducible apply Hp.set' 6)); (with_reducible exact H); (repeat rfl); intro w' H') | ((repeat (with_reducible apply Hp.set' 7)); (with_reducible exact H); (repeat rfl); intro w' H')); ((try simp only [List.set_cons_zero, List.set_cons_succ, List.setIfInBounds_toArray] at H'); clear C H; have H := H'; clear H'; have C := Hp.facts H; simp only [Facts, factsL, and_true, true_and, List.set_cons_zero, List.set_cons_succ, List.setIfInBounds_toArray] at C)) | go_values | go_skip | go_guarded | go_step | go_upon | go_back | (simp only [Int.not_lt, Int.not_le] at *; go_simp) | (go_values <;> (try go_simp)) | (go_ite <;> go_prune <;> (try go_simp)) | (split <;> (first | (rename_i hx; exact (hx _ rfl).elim) | go_prune))))
        go_ret
        exact ⟨rfl, H.low⟩
end Go.Proofs.YtogliinfdfkobaaDoor

