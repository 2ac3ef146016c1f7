/- Lemmas and walks on the way to the seat's laws; each theorem says its own conditions. -/
import Derived.Test.YtogliinfdfkobaaHPlain
import Derived.Test.YtogliinfdfkobaaPairs
set_option linter.unusedSimpArgs false
set_option linter.unusedVariables false
set_option linter.unusedSimpArgs false
set_option linter.unusedVariables false
set_option maxRecDepth 100000
namespace Go.Proofs.Ytogliinfdfkobaa
open Go.RowKit Go.Mem Go.Reg Oct Hd Go.LawLift
/-- A loop over a tree's kids: the number so far. -/
def NRel (f : Nat → Nat) (n : Nat) (M : List Ent) (w : World) (x ix : Value) (wr : World) : Prop := ∃ i : Nat, i ≤ n ∧ ix = .int .i64 i ∧ x = .int .i64 (f i : Int) ∧ Hp w M wr
theorem NRel.mk {f : Nat → Nat} {n : Nat} {M : List Ent} {w wr : World} {x ix : Value} (i : Nat) (h1 : i ≤ n) (h2 : ix = .int .i64 i) (h3 : x = .int .i64 (f i : Int)) (h4 : Hp w M wr) : NRel f n M w x ix wr := ⟨i, h1, h2, h3, h4⟩
set_option maxHeartbeats 1600000 in
theorem rdeep_any : ∀ (n : Nat) (t : Tree) (cs : List Value) (w : World), ItN w n t cs → t.count ≤ 1000000 → Calls Try.prog 28 #[.agg cs.toArray] w fun e w' => e = .returned (.int .i64 (t.deep : Int)) ∧ Below w.heap.size w w' := by
  intro n
  induction n with
  | zero => intro t cs w h; exact h.elim
  | succ n ih =>
    intro t cs w ht hcn
    obtain ⟨vb, A, c, rfl, hb, hlc, hcm, hA, hk⟩ := ht.open
    have H := Hp.start w
    have C : True := trivial
    rw [Tree.deep_is]
    have hcn2 := t.count_is
    have hdl := Tree.deeps_le t.kids
    have hkl := Tree.len_counts t.kids
    have hat := Tree.counts_at t.kids
    have htk := Tree.deeps_take t.kids
    have hfn : Tree.deeps (t.kids.take t.kids.length) = Tree.deeps t.kids := by rw [List.take_length]
    have hcap : c ≤ 9223372036854775807 := hcm
    obtain ⟨tg, bs, ks⟩ := t
    simp only [Tree.kids, Tree.tag, Tree.bytes] at *
    obtain ⟨f, hf⟩ : ∃ f : Nat → Nat, f = fun i => Tree.deeps (ks.take i) := ⟨_, rfl⟩
    have gf := Kp.mk (show ∀ i, (h : i < ks.length) → f (i + 1) = max (f i) ks[i].deep from fun i h => by rw [hf]; have := htk i h; simp only; omega)
    have gend := Kp.mk (show f ks.length = Tree.deeps ks by rw [hf]; show _ = _; rw [← hfn])
    have gz : f 0 = 0 := by rw [hf]; rfl
    have gle : Kp (∀ i, i ≤ ks.length → f i ≤ 1000000) := by
      refine ⟨fun i hi => ?_⟩
      have h1 : Tree.counts ks = Tree.counts (ks.take i) + Tree.counts (ks.drop i) := by rw [← Tree.counts_app, List.take_append_drop]
      have h2 := Tree.deeps_le (ks.take i)
      rw [hf]
      show Tree.deeps (ks.take i) ≤ _
      omega
    have ghat := Kp.mk (fun j (hj : j < ks.length) => show ks[j].count ≤ 1000000 by have := hat j hj; omega)
    have gcn := Kp.mk (show Tree.counts ks ≤ 999999 by omega)
    clear hf htk hfn hat hcn2 hdl hkl hcn ht hcm hb
    go_enter Try.func28, Try.ntmps28
    (repeat' ((fail_if_success (with_reducible show bodyPost _ _ _ _ _ _)); first | ((with_reducible refine Hp.abs_alloc H ?_); intro b' w' H' hb'; (try simp only [hb']); clear hb'; ((try simp only [Zp, Zq, Zr] at H'); clear C H; have H := H'; clear H'; have C := Hp.facts H; simp only [Facts, factsL, and_true, true_and, Zp, Zq, Zr] at C)) | ((with_reducible show wpList _ _ _ _ _ (World.setCell _ _ _)); (with_reducible apply Hp.abs_gen H); (first | (with_reducible (repeat apply Zt 0); exact H); (repeat rfl); intro w' H' | (with_reducible (repeat apply Zt 1); exact H); (repeat rfl); intro w' H' | (with_reducible (repeat apply Zt 2); exact H); (repeat rfl); intro w' H' | (with_reducible (repeat apply Zt 3); exact H); (repeat rfl); intro w' H' | (with_reducible (repeat apply Zt 4); exact H); (repeat rfl); intro w' H' | (with_reducible (repeat apply Zt 5); exact H); (repeat rfl); intro w' H' | (with_reducible (repeat apply Zt 6); exact H); (repeat rfl); intro w' H' | (with_reducible (repeat apply Zt 7); exact H); (repeat rfl); intro w' H'); ((try simp only [Zp, Zq, Zr] at H'); clear C H; have H := H'; clear H'; have C := Hp.facts H; simp only [Facts, factsL, and_true, true_and, Zp, Zq, Zr] at C)) | go_values | go_skip | go_guarded | go_step | go_upon | go_back | (simp only [Int.not_lt, Int.not_le] at *; go_simp) | (go_values <;> (try go_simp)) | (go_ite <;> go_prune <;> (try go_simp)) | (split <;> (first | (rename_i hx; exact (hx _ rfl).elim) | go_prune))))
    (obtain ⟨bt, rfl⟩ := Hp.name H 0 rfl)
    go_loopw [3, 4, 5] (fun x ix _ wr => NRel f ks.length [.blk bt #[.int .i64 tg.c, .int .i64 tg.n, .bool tg.m, vb, .slice A ks.length c] 27] w x ix wr) (fun _ ix _ _ => ks.length - (intOf ix).toNat)
    case atStart => exact NRel.mk 0 (Nat.zero_le _) rfl (by rw [gz]; rfl) H
    case round =>
      clear H C gz
      obtain ⟨i, hi1, rfl, rfl, H⟩ := hrel
      have C := Hp.facts H
      simp only [Facts, factsL, and_true, true_and, Zp, Zq, Zr] at C
      have gfl := gle.out i hi1
      by_cases hlt : i < ks.length
      · obtain ⟨b, o, rfl, hgl, d0, d1, d2, d3, d4, q0, q1, q2, q3, q4, hkid⟩ := hk i hlt
        have hih := fun w1 (h : Below w.heap.size w w1) => ih ks[i] [d0, d1, d2, d3, d4] w1 (hkid.step h) (ghat.out i hlt)
        have gst := Kp.mk (gf.out i hlt)
        have gsl := gle.out (i + 1) hlt
        clear hk hkid ih
        obtain ⟨v, hv⟩ : ∃ v, ks[i].deep = v := ⟨_, rfl⟩
        rw [hv] at gst hih
        clear hv
        (repeat' ((fail_if_success (with_reducible show bodyPost _ _ _ _ _ _)); first | ((with_reducible refine Hp.abs_alloc H ?_); intro b' w' H' hb'; (try simp only [hb']); clear hb'; ((try simp only [Zp, Zq, Zr] at H'); clear C H; have H := H'; clear H'; have C := Hp.facts H; simp only [Facts, factsL, and_true, true_and, Zp, Zq, Zr] at C)) | ((with_reducible show wpList _ _ _ _ _ (World.setCell _ _ _)); (with_reducible apply Hp.abs_gen H); (first | (with_reducible (repeat apply Zt 0); exact H); (repeat rfl); intro w' H' | (with_reducible (repeat apply Zt 1); exact H); (repeat rfl); intro w' H' | (with_reducible (repeat apply Zt 2); exact H); (repeat rfl); intro w' H' | (with_reducible (repeat apply Zt 3); exact H); (repeat rfl); intro w' H' | (with_reducible (repeat apply Zt 4); exact H); (repeat rfl); intro w' H' | (with_reducible (repeat apply Zt 5); exact H); (repeat rfl); intro w' H' | (with_reducible (repeat apply Zt 6); exact H); (repeat rfl); intro w' H' | (with_reducible (repeat apply Zt 7); exact H); (repeat rfl); intro w' H'); ((try simp only [Zp, Zq, Zr] at H'); clear C H; have H := H'; clear H'; have C := Hp.facts H; simp only [Facts, factsL, and_true, true_and, Zp, Zq, Zr] at C)) | go_values | go_skip | go_guarded | go_step | go_upon | go_back | (simp only [Int.not_lt, Int.not_le] at *; go_simp) | (go_values <;> (try go_simp)) | (go_ite <;> go_prune <;> (try go_simp)) | (split <;> (first | (rename_i hx; exact (hx _ rfl).elim) | go_prune))))
        refine (hih _ H.low).mono ?_
        (rintro e' w' ⟨rfl, hb'⟩; (have H' := Hp.step H hb'; clear hb'; ((try simp only [Zp, Zq, Zr] at H'); clear C H; have H := H'; clear H'; have C := Hp.facts H; simp only [Facts, factsL, and_true, true_and, Zp, Zq, Zr] at C)))
        by_cases hgt : f i < v
        · have hgt2 : (f i : Int) < (v : Int) := by omega
          have gm := Kp.mk (show f (i + 1) = v by rw [gst.out]; omega)
          clear hgt
          (repeat' ((fail_if_success (with_reducible show bodyPost _ _ _ _ _ _)); first | ((with_reducible refine Hp.abs_alloc H ?_); intro b' w' H' hb'; (try simp only [hb']); clear hb'; ((try simp only [Zp, Zq, Zr] at H'); clear C H; have H := H'; clear H'; have C := Hp.facts H; simp only [Facts, factsL, and_true, true_and, Zp, Zq, Zr] at C)) | ((with_reducible show wpList _ _ _ _ _ (World.setCell _ _ _)); (with_reducible apply Hp.abs_gen H); (first | (with_reducible (repeat apply Zt 0); exact H); (repeat rfl); intro w' H' | (with_reducible (repeat apply Zt 1); exact H); (repeat rfl); intro w' H' | (with_reducible (repeat apply Zt 2); exact H); (repeat rfl); intro w' H' | (with_reducible (repeat apply Zt 3); exact H); (repeat rfl); intro w' H' | (with_reducible (repeat apply Zt 4); exact H); (repeat rfl); intro w' H' | (with_reducible (repeat apply Zt 5); exact H); (repeat rfl); intro w' H' | (with_reducible (repeat apply Zt 6); exact H); (repeat rfl); intro w' H' | (with_reducible (repeat apply Zt 7); exact H); (repeat rfl); intro w' H'); ((try simp only [Zp, Zq, Zr] at H'); clear C H; have H := H'; clear H'; have C := Hp.facts H; simp only [Facts, factsL, and_true, true_and, Zp, Zq, Zr] at C)) | go_values | go_skip | go_guarded | go_step | go_upon | go_back | (simp only [Int.not_lt, Int.not_le] at *; go_simp) | (go_values <;> (try go_simp)) | (go_ite <;> go_prune <;> (try go_simp)) | (split <;> (first | (rename_i hx; exact (hx _ rfl).elim) | go_prune))))
          exact ⟨NRel.mk (i + 1) (by omega) (by go_num) (by rw [gm.out]) H, by simp [intOf]; omega⟩
        · have hgt2 : ¬ (f i : Int) < (v : Int) := by omega
          have gm := Kp.mk (show f (i + 1) = f i by rw [gst.out]; omega)
          clear hgt
          (repeat' ((fail_if_success (with_reducible show bodyPost _ _ _ _ _ _)); first | ((with_reducible refine Hp.abs_alloc H ?_); intro b' w' H' hb'; (try simp only [hb']); clear hb'; ((try simp only [Zp, Zq, Zr] at H'); clear C H; have H := H'; clear H'; have C := Hp.facts H; simp only [Facts, factsL, and_true, true_and, Zp, Zq, Zr] at C)) | ((with_reducible show wpList _ _ _ _ _ (World.setCell _ _ _)); (with_reducible apply Hp.abs_gen H); (first | (with_reducible (repeat apply Zt 0); exact H); (repeat rfl); intro w' H' | (with_reducible (repeat apply Zt 1); exact H); (repeat rfl); intro w' H' | (with_reducible (repeat apply Zt 2); exact H); (repeat rfl); intro w' H' | (with_reducible (repeat apply Zt 3); exact H); (repeat rfl); intro w' H' | (with_reducible (repeat apply Zt 4); exact H); (repeat rfl); intro w' H' | (with_reducible (repeat apply Zt 5); exact H); (repeat rfl); intro w' H' | (with_reducible (repeat apply Zt 6); exact H); (repeat rfl); intro w' H' | (with_reducible (repeat apply Zt 7); exact H); (repeat rfl); intro w' H'); ((try simp only [Zp, Zq, Zr] at H'); clear C H; have H := H'; clear H'; have C := Hp.facts H; simp only [Facts, factsL, and_true, true_and, Zp, Zq, Zr] at C)) | go_values | go_skip | go_guarded | go_step | go_upon | go_back | (simp only [Int.not_lt, Int.not_le] at *; go_simp) | (go_values <;> (try go_simp)) | (go_ite <;> go_prune <;> (try go_simp)) | (split <;> (first | (rename_i hx; exact (hx _ rfl).elim) | go_prune))))
          exact ⟨NRel.mk (i + 1) (by omega) (by go_num) (by rw [gm.out]) H, by simp [intOf]; omega⟩
      · obtain rfl : i = ks.length := by omega
        clear hk ih
        (repeat' ((fail_if_success (with_reducible show bodyPost _ _ _ _ _ _)); first | ((with_reducible refine Hp.abs_alloc H ?_); intro b' w' H' hb'; (try simp only [hb']); clear hb'; ((try simp only [Zp, Zq, Zr] at H'); clear C H; have H := H'; clear H'; have C := Hp.facts H; simp only [Facts, factsL, and_true, true_and, Zp, Zq, Zr] at C)) | ((with_reducible show wpList _ _ _ _ _ (World.setCell _ _ _)); (with_reducible apply Hp.abs_gen H); (first | (with_reducible (repeat apply Zt 0); exact H); (repeat rfl); intro w' H' | (with_reducible (repeat apply Zt 1); exact H); (repeat rfl); intro w' H' | (with_reducible (repeat apply Zt 2); exact H); (repeat rfl); intro w' H' | (with_reducible (repeat apply Zt 3); exact H); (repeat rfl); intro w' H' | (with_reducible (repeat apply Zt 4); exact H); (repeat rfl); intro w' H' | (with_reducible (repeat apply Zt 5); exact H); (repeat rfl); intro w' H' | (with_reducible (repeat apply Zt 6); exact H); (repeat rfl); intro w' H' | (with_reducible (repeat apply Zt 7); exact H); (repeat rfl); intro w' H'); ((try simp only [Zp, Zq, Zr] at H'); clear C H; have H := H'; clear H'; have C := Hp.facts H; simp only [Facts, factsL, and_true, true_and, Zp, Zq, Zr] at C)) | go_values | go_skip | go_guarded | go_step | go_upon | go_back | (simp only [Int.not_lt, Int.not_le] at *; go_simp) | (go_values <;> (try go_simp)) | (go_ite <;> go_prune <;> (try go_simp)) | (split <;> (first | (rename_i hx; exact (hx _ rfl).elim) | go_prune))))
        go_ret
        rw [← gend.out]
        exact ⟨rfl, H.low⟩
set_option maxHeartbeats 1600000 in
theorem rsize_any : ∀ (n : Nat) (t : Tree) (cs : List Value) (w : World), ItN w n t cs → t.count ≤ 1000000 → Calls Try.prog 30 #[.agg cs.toArray] w fun e w' => e = .returned (.int .i64 (t.count : Int)) ∧ Below w.heap.size w w' := by
  intro n
  induction n with
  | zero => intro t cs w h; exact h.elim
  | succ n ih =>
    intro t cs w ht hcn
    obtain ⟨vb, A, c, rfl, hb, hlc, hcm, hA, hk⟩ := ht.open
    have H := Hp.start w
    have C : True := trivial
    rw [Tree.count_is]
    have hcn2 := t.count_is
    have hdl := Tree.deeps_le t.kids
    have hkl := Tree.len_counts t.kids
    have hat := Tree.counts_at t.kids
    have htk := Tree.counts_take t.kids
    have hfn : Tree.counts (t.kids.take t.kids.length) = Tree.counts t.kids := by rw [List.take_length]
    have hcap : c ≤ 9223372036854775807 := hcm
    obtain ⟨tg, bs, ks⟩ := t
    simp only [Tree.kids, Tree.tag, Tree.bytes] at *
    obtain ⟨f, hf⟩ : ∃ f : Nat → Nat, f = fun i => Tree.counts (ks.take i) + 1 := ⟨_, rfl⟩
    have gf := Kp.mk (show ∀ i, (h : i < ks.length) → f (i + 1) = f i + ks[i].count from fun i h => by rw [hf]; have := htk i h; simp only; omega)
    have gend := Kp.mk (show f ks.length = Tree.counts ks + 1 by rw [hf]; show _ = _; rw [← hfn])
    have gz : f 0 = 0 + 1 := by rw [hf]; rfl
    have gle : Kp (∀ i, i ≤ ks.length → f i ≤ 1000000) := by
      refine ⟨fun i hi => ?_⟩
      have h1 : Tree.counts ks = Tree.counts (ks.take i) + Tree.counts (ks.drop i) := by rw [← Tree.counts_app, List.take_append_drop]
      have h2 := Tree.deeps_le (ks.take i)
      rw [hf]
      show Tree.counts (ks.take i) + 1 ≤ _
      omega
    have ghat := Kp.mk (fun j (hj : j < ks.length) => show ks[j].count ≤ 1000000 by have := hat j hj; omega)
    have gcn := Kp.mk (show Tree.counts ks ≤ 999999 by omega)
    clear hf htk hfn hat hcn2 hdl hkl hcn ht hcm hb
    go_enter Try.func30, Try.ntmps30
    (repeat' ((fail_if_success (with_reducible show bodyPost _ _ _ _ _ _)); first | ((with_reducible refine Hp.abs_alloc H ?_); intro b' w' H' hb'; (try simp only [hb']); clear hb'; ((try simp only [Zp, Zq, Zr] at H'); clear C H; have H := H'; clear H'; have C := Hp.facts H; simp only [Facts, factsL, and_true, true_and, Zp, Zq, Zr] at C)) | ((with_reducible show wpList _ _ _ _ _ (World.setCell _ _ _)); (with_reducible apply Hp.abs_gen H); (first | (with_reducible (repeat apply Zt 0); exact H); (repeat rfl); intro w' H' | (with_reducible (repeat apply Zt 1); exact H); (repeat rfl); intro w' H' | (with_reducible (repeat apply Zt 2); exact H); (repeat rfl); intro w' H' | (with_reducible (repeat apply Zt 3); exact H); (repeat rfl); intro w' H' | (with_reducible (repeat apply Zt 4); exact H); (repeat rfl); intro w' H' | (with_reducible (repeat apply Zt 5); exact H); (repeat rfl); intro w' H' | (with_reducible (repeat apply Zt 6); exact H); (repeat rfl); intro w' H' | (with_reducible (repeat apply Zt 7); exact H); (repeat rfl); intro w' H'); ((try simp only [Zp, Zq, Zr] at H'); clear C H; have H := H'; clear H'; have C := Hp.facts H; simp only [Facts, factsL, and_true, true_and, Zp, Zq, Zr] at C)) | go_values | go_skip | go_guarded | go_step | go_upon | go_back | (simp only [Int.not_lt, Int.not_le] at *; go_simp) | (go_values <;> (try go_simp)) | (go_ite <;> go_prune <;> (try go_simp)) | (split <;> (first | (rename_i hx; exact (hx _ rfl).elim) | go_prune))))
    (obtain ⟨bt, rfl⟩ := Hp.name H 0 rfl)
    go_loopw [3, 4] (fun x ix  wr => NRel f ks.length [.blk bt #[.int .i64 tg.c, .int .i64 tg.n, .bool tg.m, vb, .slice A ks.length c] 27] w x ix wr) (fun _ ix  _ => ks.length - (intOf ix).toNat)
    case atStart => exact NRel.mk 0 (Nat.zero_le _) rfl (by rw [gz]; rfl) H
    case round =>
      clear H C gz
      obtain ⟨i, hi1, rfl, rfl, H⟩ := hrel
      have C := Hp.facts H
      simp only [Facts, factsL, and_true, true_and, Zp, Zq, Zr] at C
      have gfl := gle.out i hi1
      by_cases hlt : i < ks.length
      · obtain ⟨b, o, rfl, hgl, d0, d1, d2, d3, d4, q0, q1, q2, q3, q4, hkid⟩ := hk i hlt
        have hih := fun w1 (h : Below w.heap.size w w1) => ih ks[i] [d0, d1, d2, d3, d4] w1 (hkid.step h) (ghat.out i hlt)
        have gst := Kp.mk (gf.out i hlt)
        have gsl := gle.out (i + 1) hlt
        clear hk hkid ih
        obtain ⟨v, hv⟩ : ∃ v, ks[i].count = v := ⟨_, rfl⟩
        rw [hv] at gst hih
        clear hv
        (repeat' ((fail_if_success (with_reducible show bodyPost _ _ _ _ _ _)); first | ((with_reducible refine Hp.abs_alloc H ?_); intro b' w' H' hb'; (try simp only [hb']); clear hb'; ((try simp only [Zp, Zq, Zr] at H'); clear C H; have H := H'; clear H'; have C := Hp.facts H; simp only [Facts, factsL, and_true, true_and, Zp, Zq, Zr] at C)) | ((with_reducible show wpList _ _ _ _ _ (World.setCell _ _ _)); (with_reducible apply Hp.abs_gen H); (first | (with_reducible (repeat apply Zt 0); exact H); (repeat rfl); intro w' H' | (with_reducible (repeat apply Zt 1); exact H); (repeat rfl); intro w' H' | (with_reducible (repeat apply Zt 2); exact H); (repeat rfl); intro w' H' | (with_reducible (repeat apply Zt 3); exact H); (repeat rfl); intro w' H' | (with_reducible (repeat apply Zt 4); exact H); (repeat rfl); intro w' H' | (with_reducible (repeat apply Zt 5); exact H); (repeat rfl); intro w' H' | (with_reducible (repeat apply Zt 6); exact H); (repeat rfl); intro w' H' | (with_reducible (repeat apply Zt 7); exact H); (repeat rfl); intro w' H'); ((try simp only [Zp, Zq, Zr] at H'); clear C H; have H := H'; clear H'; have C := Hp.facts H; simp only [Facts, factsL, and_true, true_and, Zp, Zq, Zr] at C)) | go_values | go_skip | go_guarded | go_step | go_upon | go_back | (simp only [Int.not_lt, Int.not_le] at *; go_simp) | (go_values <;> (try go_simp)) | (go_ite <;> go_prune <;> (try go_simp)) | (split <;> (first | (rename_i hx; exact (hx _ rfl).elim) | go_prune))))
        refine (hih _ H.low).mono ?_
        (rintro e' w' ⟨rfl, hb'⟩; (have H' := Hp.step H hb'; clear hb'; ((try simp only [Zp, Zq, Zr] at H'); clear C H; have H := H'; clear H'; have C := Hp.facts H; simp only [Facts, factsL, and_true, true_and, Zp, Zq, Zr] at C)))
        rw [gst.out] at gsl
        (repeat' ((fail_if_success (with_reducible show bodyPost _ _ _ _ _ _)); first | ((with_reducible refine Hp.abs_alloc H ?_); intro b' w' H' hb'; (try simp only [hb']); clear hb'; ((try simp only [Zp, Zq, Zr] at H'); clear C H; have H := H'; clear H'; have C := Hp.facts H; simp only [Facts, factsL, and_true, true_and, Zp, Zq, Zr] at C)) | ((with_reducible show wpList _ _ _ _ _ (World.setCell _ _ _)); (with_reducible apply Hp.abs_gen H); (first | (with_reducible (repeat apply Zt 0); exact H); (repeat rfl); intro w' H' | (with_reducible (repeat apply Zt 1); exact H); (repeat rfl); intro w' H' | (with_reducible (repeat apply Zt 2); exact H); (repeat rfl); intro w' H' | (with_reducible (repeat apply Zt 3); exact H); (repeat rfl); intro w' H' | (with_reducible (repeat apply Zt 4); exact H); (repeat rfl); intro w' H' | (with_reducible (repeat apply Zt 5); exact H); (repeat rfl); intro w' H' | (with_reducible (repeat apply Zt 6); exact H); (repeat rfl); intro w' H' | (with_reducible (repeat apply Zt 7); exact H); (repeat rfl); intro w' H'); ((try simp only [Zp, Zq, Zr] at H'); clear C H; have H := H'; clear H'; have C := Hp.facts H; simp only [Facts, factsL, and_true, true_and, Zp, Zq, Zr] at C)) | go_values | go_skip | go_guarded | go_step | go_upon | go_back | (simp only [Int.not_lt, Int.not_le] at *; go_simp) | (go_values <;> (try go_simp)) | (go_ite <;> go_prune <;> (try go_simp)) | (split <;> (first | (rename_i hx; exact (hx _ rfl).elim) | go_prune))))
        exact ⟨NRel.mk (i + 1) (by omega) (by go_num) (by rw [gst.out]; go_num) H, by simp [intOf]; omega⟩
      · obtain rfl : i = ks.length := by omega
        clear hk ih
        (repeat' ((fail_if_success (with_reducible show bodyPost _ _ _ _ _ _)); first | ((with_reducible refine Hp.abs_alloc H ?_); intro b' w' H' hb'; (try simp only [hb']); clear hb'; ((try simp only [Zp, Zq, Zr] at H'); clear C H; have H := H'; clear H'; have C := Hp.facts H; simp only [Facts, factsL, and_true, true_and, Zp, Zq, Zr] at C)) | ((with_reducible show wpList _ _ _ _ _ (World.setCell _ _ _)); (with_reducible apply Hp.abs_gen H); (first | (with_reducible (repeat apply Zt 0); exact H); (repeat rfl); intro w' H' | (with_reducible (repeat apply Zt 1); exact H); (repeat rfl); intro w' H' | (with_reducible (repeat apply Zt 2); exact H); (repeat rfl); intro w' H' | (with_reducible (repeat apply Zt 3); exact H); (repeat rfl); intro w' H' | (with_reducible (repeat apply Zt 4); exact H); (repeat rfl); intro w' H' | (with_reducible (repeat apply Zt 5); exact H); (repeat rfl); intro w' H' | (with_reducible (repeat apply Zt 6); exact H); (repeat rfl); intro w' H' | (with_reducible (repeat apply Zt 7); exact H); (repeat rfl); intro w' H'); ((try simp only [Zp, Zq, Zr] at H'); clear C H; have H := H'; clear H'; have C := Hp.facts H; simp only [Facts, factsL, and_true, true_and, Zp, Zq, Zr] at C)) | go_values | go_skip | go_guarded | go_step | go_upon | go_back | (simp only [Int.not_lt, Int.not_le] at *; go_simp) | (go_values <;> (try go_simp)) | (go_ite <;> go_prune <;> (try go_simp)) | (split <;> (first | (rename_i hx; exact (hx _ rfl).elim) | go_prune))))
        go_ret
        rw [← gend.out]
        exact ⟨rfl, H.low⟩
end Go.Proofs.Ytogliinfdfkobaa

