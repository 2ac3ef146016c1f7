/- Lemmas and walks on the way to the seat's laws; each theorem says its own conditions. -/
import Derived.Test.YtogliinfdfkobaaH12
set_option linter.unusedSimpArgs false
set_option linter.unusedVariables false
set_option linter.unusedSimpArgs false
set_option linter.unusedVariables false
set_option maxRecDepth 100000
namespace Go.Proofs.Ytogliinfdfkobaa
open Go.RowKit Go.Mem Go.Reg Hd Oct
def LenRaw (w0 : World) (M : List Ent) (b : Nat) (v : Value) (l : List UInt8) (k : Nat) (R : Nat × Nat × Nat) (e : Ending) (w' : World) : Prop :=
  ∃ (n : Int) (p : Nat), e = .returned (.tuple #[.int .i64 n, .int .i64 (R.2.1 : Int)]) ∧ k ≤ p ∧ p ≤ l.length ∧ (R.2.1 = 0 → n = R.1 ∧ p = R.2.2) ∧
    Hp w0 (.blk b #[v, .int .i64 (p : Int)] 112 :: M) w'
theorem rdLen_none {l : List UInt8} {k : Nat} (h : l.length ≤ k) : rdLen l k = (0, 3, k) := by
  unfold rdLen
  rw [List.getElem?_eq_none h]
theorem rdLen_low {l : List UInt8} {k : Nat} (h : k < l.length) (h1 : l[k].toNat < 128) : rdLen l k = (l[k].toNat, 0, k + 1) := by
  unfold rdLen
  rw [List.getElem?_eq_getElem h]
  simp only
  rw [if_pos h1]
theorem rdLen_bad {l : List UInt8} {k : Nat} (h : k < l.length) (h1 : ¬ l[k].toNat < 128) (h2 : l[k].toNat = 128 ∨ 132 < l[k].toNat) : rdLen l k = (0, 5, k) := by
  unfold rdLen
  rw [List.getElem?_eq_getElem h]
  simp only
  rw [if_neg h1, if_pos h2]
set_option maxHeartbeats 4000000 in
theorem len1_any (w0 : World) (M : List Ent) (b q : Nat) (l : List UInt8) (k : Nat) (v : Value) (hk : k ≤ l.length) (hl : l.length ≤ 1000000) (hB : CurB w0 (.blk q #[.pointer (some ⟨b, 0, none⟩)] 92 :: M) b v l) (w : World) (H : Hp w0 (.blk b #[v, .int .i64 (k : Int)] 112 :: .blk q #[.pointer (some ⟨b, 0, none⟩)] 92 :: M) w) :
    Calls Try.prog 86 #[.pointer (some ⟨q, 0, none⟩)] w (LenRaw w0 (.blk q #[.pointer (some ⟨b, 0, none⟩)] 92 :: M) b v l k (rdLen l k)) := by
  have C := Hp.facts H
  simp only [Facts, factsL, and_true, true_and, Zp, Zq, Zr] at C
  by_cases hlt : k < l.length
  · have hp := Lib.hid (peekV_some hlt)
    have hu := l[k].toNat_lt
    have hkl : k + 1 ≤ l.length := hlt
    go_enter Try.func86, Try.ntmps86
    (repeat' ((fail_if_success (with_reducible show bodyPost _ _ _ _ _ _)); first | ((with_reducible refine Hp.abs_alloc H ?_); intro b' w' H' hb'; (try simp only [hb']); clear hb'; ((try simp only [Zp, Zq, Zr] at H'); clear C H; have H := H'; clear H'; have C := Hp.facts H; simp only [Facts, factsL, and_true, true_and, Zp, Zq, Zr] at C)) | ((with_reducible show wpList _ _ _ _ _ (World.setCell _ _ _)); (with_reducible apply Hp.abs_gen H); (first | (with_reducible (repeat apply Zt 0); exact H); (repeat rfl); intro w' H' | (with_reducible (repeat apply Zt 1); exact H); (repeat rfl); intro w' H' | (with_reducible (repeat apply Zt 2); exact H); (repeat rfl); intro w' H' | (with_reducible (repeat apply Zt 3); exact H); (repeat rfl); intro w' H' | (with_reducible (repeat apply Zt 4); exact H); (repeat rfl); intro w' H' | (with_reducible (repeat apply Zt 5); exact H); (repeat rfl); intro w' H' | (with_reducible (repeat apply Zt 6); exact H); (repeat rfl); intro w' H' | (with_reducible (repeat apply Zt 7); exact H); (repeat rfl); intro w' H'); ((try simp only [Zp, Zq, Zr] at H'); clear C H; have H := H'; clear H'; have C := Hp.facts H; simp only [Facts, factsL, and_true, true_and, Zp, Zq, Zr] at C)) | go_values | go_skip | go_guarded | go_step | go_upon | go_back | (simp only [Int.not_lt, Int.not_le] at *; go_simp) | (go_values <;> (try go_simp)) | (go_ite <;> go_prune <;> (try go_simp)) | (split <;> (first | (rename_i hx; exact (hx _ rfl).elim) | go_prune))))
    refine (byte_any b l k v _ (curF H hB hk hl)).mono ?_
    rintro e' w1 ⟨rfl, m⟩
    rw [hp.out]
    rw [if_pos hlt] at m
    have H' := moved_hp H 0 rfl m
    clear m
    ((try simp only [Zp, Zq, Zr] at H'); clear C H; have H := H'; clear H'; have C := Hp.facts H; simp only [Facts, factsL, and_true, true_and, Zp, Zq, Zr] at C)
    by_cases h1 : l[k].toNat < 128
    · have hR := Lib.hid (rdLen_low hlt h1)
      (repeat' ((fail_if_success (with_reducible show bodyPost _ _ _ _ _ _)); first | ((with_reducible refine Hp.abs_alloc H ?_); intro b' w' H' hb'; (try simp only [hb']); clear hb'; ((try simp only [Zp, Zq, Zr] at H'); clear C H; have H := H'; clear H'; have C := Hp.facts H; simp only [Facts, factsL, and_true, true_and, Zp, Zq, Zr] at C)) | ((with_reducible show wpList _ _ _ _ _ (World.setCell _ _ _)); (with_reducible apply Hp.abs_gen H); (first | (with_reducible (repeat apply Zt 0); exact H); (repeat rfl); intro w' H' | (with_reducible (repeat apply Zt 1); exact H); (repeat rfl); intro w' H' | (with_reducible (repeat apply Zt 2); exact H); (repeat rfl); intro w' H' | (with_reducible (repeat apply Zt 3); exact H); (repeat rfl); intro w' H' | (with_reducible (repeat apply Zt 4); exact H); (repeat rfl); intro w' H' | (with_reducible (repeat apply Zt 5); exact H); (repeat rfl); intro w' H' | (with_reducible (repeat apply Zt 6); exact H); (repeat rfl); intro w' H' | (with_reducible (repeat apply Zt 7); exact H); (repeat rfl); intro w' H'); ((try simp only [Zp, Zq, Zr] at H'); clear C H; have H := H'; clear H'; have C := Hp.facts H; simp only [Facts, factsL, and_true, true_and, Zp, Zq, Zr] at C)) | go_values | go_skip | go_guarded | go_step | go_upon | go_back | (simp only [Int.not_lt, Int.not_le] at *; go_simp) | (go_values <;> (try go_simp)) | (go_ite <;> go_prune <;> (try go_simp)) | (split <;> (first | (rename_i hx; exact (hx _ rfl).elim) | go_prune))))
      go_ret2
      rw [hR.out]
      exact ⟨_, k + 1, rfl, by omega, hkl, fun _ => ⟨rfl, rfl⟩, H⟩
    · by_cases h2 : l[k].toNat = 128 ∨ 132 < l[k].toNat
      · have hR := Lib.hid (rdLen_bad hlt h1 h2)
        rcases h2 with h2 | h2
        · have e2 : ((l[k].toNat : Int) == 128) = true := by simp; omega
          (repeat' ((fail_if_success (with_reducible show bodyPost _ _ _ _ _ _)); first | ((with_reducible refine Hp.abs_alloc H ?_); intro b' w' H' hb'; (try simp only [hb']); clear hb'; ((try simp only [Zp, Zq, Zr] at H'); clear C H; have H := H'; clear H'; have C := Hp.facts H; simp only [Facts, factsL, and_true, true_and, Zp, Zq, Zr] at C)) | ((with_reducible show wpList _ _ _ _ _ (World.setCell _ _ _)); (with_reducible apply Hp.abs_gen H); (first | (with_reducible (repeat apply Zt 0); exact H); (repeat rfl); intro w' H' | (with_reducible (repeat apply Zt 1); exact H); (repeat rfl); intro w' H' | (with_reducible (repeat apply Zt 2); exact H); (repeat rfl); intro w' H' | (with_reducible (repeat apply Zt 3); exact H); (repeat rfl); intro w' H' | (with_reducible (repeat apply Zt 4); exact H); (repeat rfl); intro w' H' | (with_reducible (repeat apply Zt 5); exact H); (repeat rfl); intro w' H' | (with_reducible (repeat apply Zt 6); exact H); (repeat rfl); intro w' H' | (with_reducible (repeat apply Zt 7); exact H); (repeat rfl); intro w' H'); ((try simp only [Zp, Zq, Zr] at H'); clear C H; have H := H'; clear H'; have C := Hp.facts H; simp only [Facts, factsL, and_true, true_and, Zp, Zq, Zr] at C)) | go_values | go_skip | go_guarded | go_step | go_upon | go_back | (simp only [Int.not_lt, Int.not_le] at *; go_simp) | (go_values <;> (try go_simp)) | (go_ite <;> go_prune <;> (try go_simp)) | (split <;> (first | (rename_i hx; exact (hx _ rfl).elim) | go_prune))))
          go_ret2
          rw [hR.out]
          exact ⟨_, k + 1, rfl, by omega, hkl, (fun h => by cases h), H⟩
        · have e2 : ((l[k].toNat : Int) == 128) = false := by simp; omega
          (repeat' ((fail_if_success (with_reducible show bodyPost _ _ _ _ _ _)); first | ((with_reducible refine Hp.abs_alloc H ?_); intro b' w' H' hb'; (try simp only [hb']); clear hb'; ((try simp only [Zp, Zq, Zr] at H'); clear C H; have H := H'; clear H'; have C := Hp.facts H; simp only [Facts, factsL, and_true, true_and, Zp, Zq, Zr] at C)) | ((with_reducible show wpList _ _ _ _ _ (World.setCell _ _ _)); (with_reducible apply Hp.abs_gen H); (first | (with_reducible (repeat apply Zt 0); exact H); (repeat rfl); intro w' H' | (with_reducible (repeat apply Zt 1); exact H); (repeat rfl); intro w' H' | (with_reducible (repeat apply Zt 2); exact H); (repeat rfl); intro w' H' | (with_reducible (repeat apply Zt 3); exact H); (repeat rfl); intro w' H' | (with_reducible (repeat apply Zt 4); exact H); (repeat rfl); intro w' H' | (with_reducible (repeat apply Zt 5); exact H); (repeat rfl); intro w' H' | (with_reducible (repeat apply Zt 6); exact H); (repeat rfl); intro w' H' | (with_reducible (repeat apply Zt 7); exact H); (repeat rfl); intro w' H'); ((try simp only [Zp, Zq, Zr] at H'); clear C H; have H := H'; clear H'; have C := Hp.facts H; simp only [Facts, factsL, and_true, true_and, Zp, Zq, Zr] at C)) | go_values | go_skip | go_guarded | go_step | go_upon | go_back | (simp only [Int.not_lt, Int.not_le] at *; go_simp) | (go_values <;> (try go_simp)) | (go_ite <;> go_prune <;> (try go_simp)) | (split <;> (first | (rename_i hx; exact (hx _ rfl).elim) | go_prune))))
          go_ret2
          rw [hR.out]
          exact ⟨_, k + 1, rfl, by omega, hkl, (fun h => by cases h), H⟩
      · have hR := Lib.hid (rdLen_long hlt h1 h2)
        have e2 : ((l[k].toNat : Int) == 128) = false := by simp; omega
        have eA := u8_and127 (l[k].toNat : Int) (by omega) (by omega)
        have en : ((l[k].toNat : Int) % 128) = ((l[k].toNat - 128 : Nat) : Int) := by omega
        have gn : 1 ≤ l[k].toNat - 128 ∧ l[k].toNat - 128 ≤ 4 := by omega
        generalize hn : l[k].toNat - 128 = n at *
        have hn := Lib.hid hn
        have gen := Lib.hid en
        clear en h2
        (repeat' ((fail_if_success (with_reducible show bodyPost _ _ _ _ _ _)); first | ((with_reducible refine Hp.abs_alloc H ?_); intro b' w' H' hb'; (try simp only [hb']); clear hb'; ((try simp only [Zp, Zq, Zr] at H'); clear C H; have H := H'; clear H'; have C := Hp.facts H; simp only [Facts, factsL, and_true, true_and, Zp, Zq, Zr] at C)) | ((with_reducible show wpList _ _ _ _ _ (World.setCell _ _ _)); (with_reducible apply Hp.abs_gen H); (first | (with_reducible (repeat apply Zt 0); exact H); (repeat rfl); intro w' H' | (with_reducible (repeat apply Zt 1); exact H); (repeat rfl); intro w' H' | (with_reducible (repeat apply Zt 2); exact H); (repeat rfl); intro w' H' | (with_reducible (repeat apply Zt 3); exact H); (repeat rfl); intro w' H' | (with_reducible (repeat apply Zt 4); exact H); (repeat rfl); intro w' H' | (with_reducible (repeat apply Zt 5); exact H); (repeat rfl); intro w' H' | (with_reducible (repeat apply Zt 6); exact H); (repeat rfl); intro w' H' | (with_reducible (repeat apply Zt 7); exact H); (repeat rfl); intro w' H'); ((try simp only [Zp, Zq, Zr] at H'); clear C H; have H := H'; clear H'; have C := Hp.facts H; simp only [Facts, factsL, and_true, true_and, Zp, Zq, Zr] at C)) | go_values | go_skip | go_guarded | go_step | go_upon | go_back | (simp only [Int.not_lt, Int.not_le] at *; go_simp) | (go_values <;> (try go_simp)) | (go_ite <;> go_prune <;> (try go_simp)) | (split <;> (first | (rename_i hx; exact (hx _ rfl).elim) | go_prune))))
        rw [gen.out]
        refine (long_any b l (k + 1) n v gn _ (curF H hB hkl hl)).mono ?_
        rintro e' w2 ⟨rfl, p, hkp, hpl, hz, m⟩
        have H' := moved_hp H 0 rfl m
        clear m
        ((try simp only [Zp, Zq, Zr] at H'); clear C H; have H := H'; clear H'; have C := Hp.facts H; simp only [Facts, factsL, and_true, true_and, Zp, Zq, Zr] at C)
        (repeat' ((fail_if_success (with_reducible show bodyPost _ _ _ _ _ _)); first | ((with_reducible refine Hp.abs_alloc H ?_); intro b' w' H' hb'; (try simp only [hb']); clear hb'; ((try simp only [Zp, Zq, Zr] at H'); clear C H; have H := H'; clear H'; have C := Hp.facts H; simp only [Facts, factsL, and_true, true_and, Zp, Zq, Zr] at C)) | ((with_reducible show wpList _ _ _ _ _ (World.setCell _ _ _)); (with_reducible apply Hp.abs_gen H); (first | (with_reducible (repeat apply Zt 0); exact H); (repeat rfl); intro w' H' | (with_reducible (repeat apply Zt 1); exact H); (repeat rfl); intro w' H' | (with_reducible (repeat apply Zt 2); exact H); (repeat rfl); intro w' H' | (with_reducible (repeat apply Zt 3); exact H); (repeat rfl); intro w' H' | (with_reducible (repeat apply Zt 4); exact H); (repeat rfl); intro w' H' | (with_reducible (repeat apply Zt 5); exact H); (repeat rfl); intro w' H' | (with_reducible (repeat apply Zt 6); exact H); (repeat rfl); intro w' H' | (with_reducible (repeat apply Zt 7); exact H); (repeat rfl); intro w' H'); ((try simp only [Zp, Zq, Zr] at H'); clear C H; have H := H'; clear H'; have C := Hp.facts H; simp only [Facts, factsL, and_true, true_and, Zp, Zq, Zr] at C)) | go_values | go_skip | go_guarded | go_step | go_upon | go_back | (simp only [Int.not_lt, Int.not_le] at *; go_simp) | (go_values <;> (try go_simp)) | (go_ite <;> go_prune <;> (try go_simp)) | (split <;> (first | (rename_i hx; exact (hx _ rfl).elim) | go_prune))))
        go_ret2
        rw [hR.out]
        by_cases h0 : (longR l (k + 1) n).2.1 = 0
        · rw [if_pos h0]
          exact ⟨_, p, rfl, by omega, hpl, fun _ => ⟨rfl, hz h0⟩, H⟩
        · rw [if_neg h0]
          exact ⟨_, p, rfl, by omega, hpl, (fun h => absurd h h0), H⟩
  · have hp := Lib.hid (peekV_none (show l.length ≤ k by omega))
    have hR := Lib.hid (rdLen_none (show l.length ≤ k by omega))
    go_enter Try.func86, Try.ntmps86
    (repeat' ((fail_if_success (with_reducible show bodyPost _ _ _ _ _ _)); first | ((with_reducible refine Hp.abs_alloc H ?_); intro b' w' H' hb'; (try simp only [hb']); clear hb'; ((try simp only [Zp, Zq, Zr] at H'); clear C H; have H := H'; clear H'; have C := Hp.facts H; simp only [Facts, factsL, and_true, true_and, Zp, Zq, Zr] at C)) | ((with_reducible show wpList _ _ _ _ _ (World.setCell _ _ _)); (with_reducible apply Hp.abs_gen H); (first | (with_reducible (repeat apply Zt 0); exact H); (repeat rfl); intro w' H' | (with_reducible (repeat apply Zt 1); exact H); (repeat rfl); intro w' H' | (with_reducible (repeat apply Zt 2); exact H); (repeat rfl); intro w' H' | (with_reducible (repeat apply Zt 3); exact H); (repeat rfl); intro w' H' | (with_reducible (repeat apply Zt 4); exact H); (repeat rfl); intro w' H' | (with_reducible (repeat apply Zt 5); exact H); (repeat rfl); intro w' H' | (with_reducible (repeat apply Zt 6); exact H); (repeat rfl); intro w' H' | (with_reducible (repeat apply Zt 7); exact H); (repeat rfl); intro w' H'); ((try simp only [Zp, Zq, Zr] at H'); clear C H; have H := H'; clear H'; have C := Hp.facts H; simp only [Facts, factsL, and_true, true_and, Zp, Zq, Zr] at C)) | go_values | go_skip | go_guarded | go_step | go_upon | go_back | (simp only [Int.not_lt, Int.not_le] at *; go_simp) | (go_values <;> (try go_simp)) | (go_ite <;> go_prune <;> (try go_simp)) | (split <;> (first | (rename_i hx; exact (hx _ rfl).elim) | go_prune))))
    refine (byte_any b l k v _ (curF H hB hk hl)).mono ?_
    rintro e' w1 ⟨rfl, m⟩
    rw [hp.out]
    rw [if_neg hlt] at m
    have H' := moved_hp H 0 rfl m
    clear m
    ((try simp only [Zp, Zq, Zr] at H'); clear C H; have H := H'; clear H'; have C := Hp.facts H; simp only [Facts, factsL, and_true, true_and, Zp, Zq, Zr] at C)
    (repeat' ((fail_if_success (with_reducible show bodyPost _ _ _ _ _ _)); first | ((with_reducible refine Hp.abs_alloc H ?_); intro b' w' H' hb'; (try simp only [hb']); clear hb'; ((try simp only [Zp, Zq, Zr] at H'); clear C H; have H := H'; clear H'; have C := Hp.facts H; simp only [Facts, factsL, and_true, true_and, Zp, Zq, Zr] at C)) | ((with_reducible show wpList _ _ _ _ _ (World.setCell _ _ _)); (with_reducible apply Hp.abs_gen H); (first | (with_reducible (repeat apply Zt 0); exact H); (repeat rfl); intro w' H' | (with_reducible (repeat apply Zt 1); exact H); (repeat rfl); intro w' H' | (with_reducible (repeat apply Zt 2); exact H); (repeat rfl); intro w' H' | (with_reducible (repeat apply Zt 3); exact H); (repeat rfl); intro w' H' | (with_reducible (repeat apply Zt 4); exact H); (repeat rfl); intro w' H' | (with_reducible (repeat apply Zt 5); exact H); (repeat rfl); intro w' H' | (with_reducible (repeat apply Zt 6); exact H); (repeat rfl); intro w' H' | (with_reducible (repeat apply Zt 7); exact H); (repeat rfl); intro w' H'); ((try simp only [Zp, Zq, Zr] at H'); clear C H; have H := H'; clear H'; have C := Hp.facts H; simp only [Facts, factsL, and_true, true_and, Zp, Zq, Zr] at C)) | go_values | go_skip | go_guarded | go_step | go_upon | go_back | (simp only [Int.not_lt, Int.not_le] at *; go_simp) | (go_values <;> (try go_simp)) | (go_ite <;> go_prune <;> (try go_simp)) | (split <;> (first | (rename_i hx; exact (hx _ rfl).elim) | go_prune))))
    go_ret2
    rw [hR.out]
    exact ⟨_, k, rfl, Nat.le_refl _, hk, (fun h => by cases h), H⟩
def LenRes (w0 : World) (M : List Ent) (b : Nat) (v : Value) (R : Nat × Nat × Nat) (e : Ending) (w' : World) : Prop :=
  e = .returned (.tuple #[.int .i64 (R.1 : Int), .int .i64 (R.2.1 : Int)]) ∧ Hp w0 (.blk b #[v, .int .i64 (R.2.2 : Int)] 112 :: M) w'
set_option maxHeartbeats 4000000 in
theorem kept_len (w0 : World) (M : List Ent) (b q : Nat) (l : List UInt8) (k : Nat) (v : Value) (hk : k ≤ l.length) (hl : l.length ≤ 1000000) (hB : CurB w0 (.blk q #[.pointer (some ⟨b, 0, none⟩)] 92 :: M) b v l) (w : World) (H : Hp w0 (.blk b #[v, .int .i64 (k : Int)] 112 :: .blk q #[.pointer (some ⟨b, 0, none⟩)] 92 :: M) w) :
    Calls Try.prog 85 #[.pointer (some ⟨b, 0, none⟩), .func (.func 86) #[] #[.pointer (some ⟨q, 0, none⟩)]] w (LenRes w0 (.blk q #[.pointer (some ⟨b, 0, none⟩)] 92 :: M) b v (rdLen l k)) := by
  have C := Hp.facts H
  simp only [Facts, factsL, and_true, true_and, Zp, Zq, Zr] at C
  go_enter Try.func85, Try.ntmps85
  (repeat' ((fail_if_success (with_reducible show bodyPost _ _ _ _ _ _)); first | ((with_reducible refine Hp.abs_alloc H ?_); intro b' w' H' hb'; (try simp only [hb']); clear hb'; ((try simp only [Zp, Zq, Zr] at H'); clear C H; have H := H'; clear H'; have C := Hp.facts H; simp only [Facts, factsL, and_true, true_and, Zp, Zq, Zr] at C)) | ((with_reducible show wpList _ _ _ _ _ (World.setCell _ _ _)); (with_reducible apply Hp.abs_gen H); (first | (with_reducible (repeat apply Zt 0); exact H); (repeat rfl); intro w' H' | (with_reducible (repeat apply Zt 1); exact H); (repeat rfl); intro w' H' | (with_reducible (repeat apply Zt 2); exact H); (repeat rfl); intro w' H' | (with_reducible (repeat apply Zt 3); exact H); (repeat rfl); intro w' H' | (with_reducible (repeat apply Zt 4); exact H); (repeat rfl); intro w' H' | (with_reducible (repeat apply Zt 5); exact H); (repeat rfl); intro w' H' | (with_reducible (repeat apply Zt 6); exact H); (repeat rfl); intro w' H' | (with_reducible (repeat apply Zt 7); exact H); (repeat rfl); intro w' H'); ((try simp only [Zp, Zq, Zr] at H'); clear C H; have H := H'; clear H'; have C := Hp.facts H; simp only [Facts, factsL, and_true, true_and, Zp, Zq, Zr] at C)) | (go_at_call 61; refine (at_any b l k v _ (curF H hB hk hl)).mono ?_; rintro e' w' ⟨rfl, hb'⟩; (have H' := Hp.step H hb'; clear hb'; ((try simp only [Zp, Zq, Zr] at H'); clear C H; have H := H'; clear H'; have C := Hp.facts H; simp only [Facts, factsL, and_true, true_and, Zp, Zq, Zr] at C))) | go_values | go_skip | go_guarded | go_step | go_upon | go_back | (simp only [Int.not_lt, Int.not_le] at *; go_simp) | (go_values <;> (try go_simp)) | (go_ite <;> go_prune <;> (try go_simp)) | (split <;> (first | (rename_i hx; exact (hx _ rfl).elim) | go_prune))))
  refine (len1_any w0 _ b q l k v hk hl hB _ H).mono ?_
  rintro e' w1 ⟨n, p, rfl, hkp, hpl, hz, H'⟩
  clear H C
  have H := H'
  clear H'
  have C := Hp.facts H
  simp only [Facts, factsL, and_true, true_and, Zp, Zq, Zr] at C
  have hE := @rdLen_err l k
  generalize rdLen l k = R at *
  obtain ⟨t, er, p2⟩ := R
  simp only at hz hE ⊢
  by_cases h0 : er = 0
  · obtain ⟨rfl, rfl⟩ := hz h0
    subst h0
    clear hz hE
    (repeat' ((fail_if_success (with_reducible show bodyPost _ _ _ _ _ _)); first | ((with_reducible refine Hp.abs_alloc H ?_); intro b' w' H' hb'; (try simp only [hb']); clear hb'; ((try simp only [Zp, Zq, Zr] at H'); clear C H; have H := H'; clear H'; have C := Hp.facts H; simp only [Facts, factsL, and_true, true_and, Zp, Zq, Zr] at C)) | ((with_reducible show wpList _ _ _ _ _ (World.setCell _ _ _)); (with_reducible apply Hp.abs_gen H); (first | (with_reducible (repeat apply Zt 0); exact H); (repeat rfl); intro w' H' | (with_reducible (repeat apply Zt 1); exact H); (repeat rfl); intro w' H' | (with_reducible (repeat apply Zt 2); exact H); (repeat rfl); intro w' H' | (with_reducible (repeat apply Zt 3); exact H); (repeat rfl); intro w' H' | (with_reducible (repeat apply Zt 4); exact H); (repeat rfl); intro w' H' | (with_reducible (repeat apply Zt 5); exact H); (repeat rfl); intro w' H' | (with_reducible (repeat apply Zt 6); exact H); (repeat rfl); intro w' H' | (with_reducible (repeat apply Zt 7); exact H); (repeat rfl); intro w' H'); ((try simp only [Zp, Zq, Zr] at H'); clear C H; have H := H'; clear H'; have C := Hp.facts H; simp only [Facts, factsL, and_true, true_and, Zp, Zq, Zr] at C)) | go_values | go_skip | go_guarded | go_step | go_upon | go_back | (simp only [Int.not_lt, Int.not_le] at *; go_simp) | (go_values <;> (try go_simp)) | (go_ite <;> go_prune <;> (try go_simp)) | (split <;> (first | (rename_i hx; exact (hx _ rfl).elim) | go_prune))))
    go_ret2
    exact ⟨rfl, H⟩
  · have hE := hE h0
    injection hE with a1 a2
    injection a2 with a5 a6
    subst a1 a6
    have e0 : ((er : Int) != 0) = true := by simp; omega
    clear hz a5
    (repeat' ((fail_if_success (with_reducible show bodyPost _ _ _ _ _ _)); first | ((with_reducible refine Hp.abs_alloc H ?_); intro b' w' H' hb'; (try simp only [hb']); clear hb'; ((try simp only [Zp, Zq, Zr] at H'); clear C H; have H := H'; clear H'; have C := Hp.facts H; simp only [Facts, factsL, and_true, true_and, Zp, Zq, Zr] at C)) | ((with_reducible show wpList _ _ _ _ _ (World.setCell _ _ _)); (with_reducible apply Hp.abs_gen H); (first | (with_reducible (repeat apply Zt 0); exact H); (repeat rfl); intro w' H' | (with_reducible (repeat apply Zt 1); exact H); (repeat rfl); intro w' H' | (with_reducible (repeat apply Zt 2); exact H); (repeat rfl); intro w' H' | (with_reducible (repeat apply Zt 3); exact H); (repeat rfl); intro w' H' | (with_reducible (repeat apply Zt 4); exact H); (repeat rfl); intro w' H' | (with_reducible (repeat apply Zt 5); exact H); (repeat rfl); intro w' H' | (with_reducible (repeat apply Zt 6); exact H); (repeat rfl); intro w' H' | (with_reducible (repeat apply Zt 7); exact H); (repeat rfl); intro w' H'); ((try simp only [Zp, Zq, Zr] at H'); clear C H; have H := H'; clear H'; have C := Hp.facts H; simp only [Facts, factsL, and_true, true_and, Zp, Zq, Zr] at C)) | go_values | go_skip | go_guarded | go_step | go_upon | go_back | (simp only [Int.not_lt, Int.not_le] at *; go_simp) | (go_values <;> (try go_simp)) | (go_ite <;> go_prune <;> (try go_simp)) | (split <;> (first | (rename_i hx; exact (hx _ rfl).elim) | go_prune))))
    refine (back_yes b l p v p2 hkp _ (curF H hB hpl hl)).mono ?_
    rintro e' w2 ⟨rfl, mm⟩
    have H' := moved_hp H 0 rfl mm
    clear mm
    ((try simp only [Zp, Zq, Zr] at H'); clear C H; have H := H'; clear H'; have C := Hp.facts H; simp only [Facts, factsL, and_true, true_and, Zp, Zq, Zr] at C)
    (repeat' ((fail_if_success (with_reducible show bodyPost _ _ _ _ _ _)); first | ((with_reducible refine Hp.abs_alloc H ?_); intro b' w' H' hb'; (try simp only [hb']); clear hb'; ((try simp only [Zp, Zq, Zr] at H'); clear C H; have H := H'; clear H'; have C := Hp.facts H; simp only [Facts, factsL, and_true, true_and, Zp, Zq, Zr] at C)) | ((with_reducible show wpList _ _ _ _ _ (World.setCell _ _ _)); (with_reducible apply Hp.abs_gen H); (first | (with_reducible (repeat apply Zt 0); exact H); (repeat rfl); intro w' H' | (with_reducible (repeat apply Zt 1); exact H); (repeat rfl); intro w' H' | (with_reducible (repeat apply Zt 2); exact H); (repeat rfl); intro w' H' | (with_reducible (repeat apply Zt 3); exact H); (repeat rfl); intro w' H' | (with_reducible (repeat apply Zt 4); exact H); (repeat rfl); intro w' H' | (with_reducible (repeat apply Zt 5); exact H); (repeat rfl); intro w' H' | (with_reducible (repeat apply Zt 6); exact H); (repeat rfl); intro w' H' | (with_reducible (repeat apply Zt 7); exact H); (repeat rfl); intro w' H'); ((try simp only [Zp, Zq, Zr] at H'); clear C H; have H := H'; clear H'; have C := Hp.facts H; simp only [Facts, factsL, and_true, true_and, Zp, Zq, Zr] at C)) | go_values | go_skip | go_guarded | go_step | go_upon | go_back | (simp only [Int.not_lt, Int.not_le] at *; go_simp) | (go_values <;> (try go_simp)) | (go_ite <;> go_prune <;> (try go_simp)) | (split <;> (first | (rename_i hx; exact (hx _ rfl).elim) | go_prune))))
    go_ret2
    exact ⟨rfl, H⟩
set_option maxHeartbeats 4000000 in
theorem readLen_any (b : Nat) (l : List UInt8) (k : Nat) (v : Value) (w : World) (h : Cur w b l k v) :
    Calls Try.prog 77 #[.pointer (some ⟨b, 0, none⟩)] w (LenOut w b v (rdLen l k)) := by
  have H := Hp.whole h.blk
  have hB := h.curB
  have hk := h.le
  have hl := h.len
  have C := Hp.facts H
  simp only [Facts, factsL, and_true, true_and, Zp, Zq, Zr] at C
  go_enter Try.func77, Try.ntmps77
  (repeat' ((fail_if_success (with_reducible show bodyPost _ _ _ _ _ _)); first | ((with_reducible refine Hp.abs_alloc H ?_); intro b' w' H' hb'; (try simp only [hb']); clear hb'; ((try simp only [Zp, Zq, Zr] at H'); clear C H; have H := H'; clear H'; have C := Hp.facts H; simp only [Facts, factsL, and_true, true_and, Zp, Zq, Zr] at C)) | ((with_reducible show wpList _ _ _ _ _ (World.setCell _ _ _)); (with_reducible apply Hp.abs_gen H); (first | (with_reducible (repeat apply Zt 0); exact H); (repeat rfl); intro w' H' | (with_reducible (repeat apply Zt 1); exact H); (repeat rfl); intro w' H' | (with_reducible (repeat apply Zt 2); exact H); (repeat rfl); intro w' H' | (with_reducible (repeat apply Zt 3); exact H); (repeat rfl); intro w' H' | (with_reducible (repeat apply Zt 4); exact H); (repeat rfl); intro w' H' | (with_reducible (repeat apply Zt 5); exact H); (repeat rfl); intro w' H' | (with_reducible (repeat apply Zt 6); exact H); (repeat rfl); intro w' H' | (with_reducible (repeat apply Zt 7); exact H); (repeat rfl); intro w' H'); ((try simp only [Zp, Zq, Zr] at H'); clear C H; have H := H'; clear H'; have C := Hp.facts H; simp only [Facts, factsL, and_true, true_and, Zp, Zq, Zr] at C)) | go_values | go_skip | go_guarded | go_step | go_upon | go_back | (simp only [Int.not_lt, Int.not_le] at *; go_simp) | (go_values <;> (try go_simp)) | (go_ite <;> go_prune <;> (try go_simp)) | (split <;> (first | (rename_i hx; exact (hx _ rfl).elim) | go_prune))))
  (obtain ⟨q, rfl⟩ := Hp.name H 0 rfl)
  (have H' := Hp.front H 1 rfl; simp only [List.eraseIdx_cons_zero, List.eraseIdx_cons_succ] at H'; ((try simp only [Zp, Zq, Zr] at H'); clear C H; have H := H'; clear H'; have C := Hp.facts H; simp only [Facts, factsL, and_true, true_and, Zp, Zq, Zr] at C))
  refine (kept_len _ _ b q l k v hk hl hB.push _ H).mono ?_
  rintro e' w1 ⟨rfl, H'⟩
  clear H C
  have H := H'
  clear H'
  have C := Hp.facts H
  simp only [Facts, factsL, and_true, true_and, Zp, Zq, Zr] at C
  generalize rdLen l k = R at *
  obtain ⟨t1, er, p⟩ := R
  (repeat' ((fail_if_success (with_reducible show bodyPost _ _ _ _ _ _)); first | ((with_reducible refine Hp.abs_alloc H ?_); intro b' w' H' hb'; (try simp only [hb']); clear hb'; ((try simp only [Zp, Zq, Zr] at H'); clear C H; have H := H'; clear H'; have C := Hp.facts H; simp only [Facts, factsL, and_true, true_and, Zp, Zq, Zr] at C)) | ((with_reducible show wpList _ _ _ _ _ (World.setCell _ _ _)); (with_reducible apply Hp.abs_gen H); (first | (with_reducible (repeat apply Zt 0); exact H); (repeat rfl); intro w' H' | (with_reducible (repeat apply Zt 1); exact H); (repeat rfl); intro w' H' | (with_reducible (repeat apply Zt 2); exact H); (repeat rfl); intro w' H' | (with_reducible (repeat apply Zt 3); exact H); (repeat rfl); intro w' H' | (with_reducible (repeat apply Zt 4); exact H); (repeat rfl); intro w' H' | (with_reducible (repeat apply Zt 5); exact H); (repeat rfl); intro w' H' | (with_reducible (repeat apply Zt 6); exact H); (repeat rfl); intro w' H' | (with_reducible (repeat apply Zt 7); exact H); (repeat rfl); intro w' H'); ((try simp only [Zp, Zq, Zr] at H'); clear C H; have H := H'; clear H'; have C := Hp.facts H; simp only [Facts, factsL, and_true, true_and, Zp, Zq, Zr] at C)) | go_values | go_skip | go_guarded | go_step | go_upon | go_back | (simp only [Int.not_lt, Int.not_le] at *; go_simp) | (go_values <;> (try go_simp)) | (go_ite <;> go_prune <;> (try go_simp)) | (split <;> (first | (rename_i hx; exact (hx _ rfl).elim) | go_prune))))
  go_ret2
  exact ⟨rfl, h.over H.second⟩
end Go.Proofs.Ytogliinfdfkobaa

