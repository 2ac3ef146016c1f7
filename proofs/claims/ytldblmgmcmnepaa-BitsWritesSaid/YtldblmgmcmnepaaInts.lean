/- Lemmas and walks on the way to the seat's laws; each theorem says its own conditions. -/
import Derived.Test.YtldblmgmcmnepaaB3
import Derived.Test.YtldblmgmcmnepaaLiftB
import Derived.Test.YtldblmgmcmnepaaOPlain
import Derived.Test.YtldblmgmcmnepaaBPlain
set_option linter.unusedSimpArgs false
set_option linter.unusedVariables false
set_option linter.unusedSimpArgs false
set_option linter.unusedVariables false
set_option maxRecDepth 100000
namespace Go.Proofs.Ytldblmgmcmnepaa
open Go.RowKit Go.Mem Go.Reg Oct Bit
theorem info_i64 : (Try.prog.info? 3).map (fun i => (i.zero, i.size, i.bytes)) = some (some (.int .i64 0), 1, 8) := by kernel_rfl
/-- A result that is a row of numbers of the call's own. -/
def OneI (w : World) (xs : List Nat) (e : Ending) (w' : World) : Prop :=
  (∃ v, e = .returned v ∧ w'.ownsRow w.heap.size 3 1 v xs.length (ivs xs)) ∧ Below w.heap.size w w'
theorem OneI.of {w w' : World} {L : List Ent} (H : Hp w L w') (i : Nat) {v : Value} {n : Nat} {ns : List Nat} {xs : List Value} (hi : L[i]? = some (.row 3 1 v n xs)) (hn : n = ns.length) (hx : xs = ivs ns) {e : Ending} (he : e = .returned v) : OneI w ns e w' := by
  subst hn hx
  exact ⟨⟨v, he, ownsOf H i hi⟩, H.low⟩
/-- The running power of two. -/
theorem pow_step : ∀ j, j < 8 → (128 / 2 ^ j) / 2 = 128 / 2 ^ (j + 1) := by decide
theorem pow_pos8 : ∀ j, j ≤ 8 → (0 < 128 / 2 ^ j ↔ j < 8) := by decide
theorem pow_is : ∀ j, j < 8 → 128 / 2 ^ j = 2 ^ (7 - j) := by decide
theorem quot_bit {n K : Nat} (hn : n < 2 ^ 8) (hK : 0 < K) : (wrap64 ((wrap64 (n : Int)).tdiv (K : Int))).tmod 2 = ((n / K % 2 : Nat) : Int) := by
  have h : n / K ≤ n := Nat.div_le_self _ _
  rw [show wrap64 (n : Int) = (n : Int) by unfold wrap64; omega, show ((n : Int).tdiv (K : Int)) = ((n / K : Nat) : Int) from rfl]
  generalize n / K = q at *
  rw [show wrap64 (q : Int) = (q : Int) by unfold wrap64; omega]
  rfl
set_option maxHeartbeats 1600000 in
theorem rall_any (l : List UInt8) (v : Value) (w : World) (hb : Bs w v l) (hl : l.length ≤ 100000) :
    Calls Try.prog 87 #[v] w (OneI w (bitsL l (8 * l.length))) := by
  obtain ⟨i0, hi, hz0, hz1, hz2⟩ := info_parts info_i64
  obtain ⟨A, c, rfl, hlc, hcm, hA, hcell⟩ := hb.open
  have H := Hp.start w
  have C : True := trivial
  go_enter Try.func87, Try.ntmps87
  (repeat' ((fail_if_success (with_reducible show bodyPost _ _ _ _ _ _)); first | ((with_reducible refine Hp.abs_alloc H ?_); intro b' w' H' hb'; (try simp only [hb']); clear hb'; ((try simp only [z0, z1, z2] at H'); clear C H; have H := H'; clear H'; have C := Hp.facts H; simp only [Facts, factsL, and_true, true_and, z0, z1, z2] at C)) | ((with_reducible show wpList _ _ _ _ _ (World.setCell _ _ _)); (with_reducible apply Hp.abs_gen H); (first | ((repeat (with_reducible apply Hp.set' 0)); (with_reducible exact H); (repeat rfl); intro w' H') | ((repeat (with_reducible apply Hp.set' 1)); (with_reducible exact H); (repeat rfl); intro w' H') | ((repeat (with_reducible apply Hp.set' 2)); (with_reducible exact H); (repeat rfl); intro w' H') | ((repeat (with_reducible apply Hp.set' 3)); (with_reducible exact H); (repeat rfl); intro w' H') | ((repeat (with_reducible apply Hp.set' 4)); (with_reducible exact H); (repeat rfl); intro w' H') | ((repeat (with_reducible apply Hp.set' 5)); (with_reducible exact H); (repeat rfl); intro w' H') | ((repeat (with_reducible apply Hp.set' 6)); (with_reducible exact H); (repeat rfl); intro w' H') | ((repeat (with_reducible apply Hp.set' 7)); (with_reducible exact H); (repeat rfl); intro w' H')); ((try simp only [z0, z1, z2] at H'); clear C H; have H := H'; clear H'; have C := Hp.facts H; simp only [Facts, factsL, and_true, true_and, z0, z1, z2] at C)) | go_values | go_skip | go_guarded | go_step | go_upon | go_back | (simp only [Int.not_lt, Int.not_le] at *; go_simp) | (go_values <;> (try go_simp)) | (go_ite <;> go_prune <;> (try go_simp)) | (split <;> (first | (rename_i hx; exact (hx _ rfl).elim) | go_prune))))
  go_loopw [3, 4] (fun out ix wr => ∃ i : Nat, i ≤ l.length ∧ ix = .int .i64 i ∧ Hp w [.row 3 1 out (8 * i) (ivs (bitsL l (8 * i)))] wr) (fun _ ix _ => l.length - (intOf ix).toNat)
  case atStart => exact ⟨0, Nat.zero_le _, rfl, H.nilRow 3 1⟩
  case round =>
    clear H C
    obtain ⟨i, hil, rfl, H⟩ := hrel
    have C := Hp.facts H
    simp only [Facts, factsL, and_true, true_and, z0, z1, z2] at C
    by_cases hlt : i < l.length
    · obtain ⟨b, o, rfl, hgl, hc⟩ := hcell i hlt
      have hc := hc i hlt
      clear hcell hA
      (repeat' ((fail_if_success (with_reducible show bodyPost _ _ _ _ _ _)); first | ((with_reducible refine Hp.abs_alloc H ?_); intro b' w' H' hb'; (try simp only [hb']); clear hb'; ((try simp only [z0, z1, z2] at H'); clear C H; have H := H'; clear H'; have C := Hp.facts H; simp only [Facts, factsL, and_true, true_and, z0, z1, z2] at C)) | ((with_reducible show wpList _ _ _ _ _ (World.setCell _ _ _)); (with_reducible apply Hp.abs_gen H); (first | ((repeat (with_reducible apply Hp.set' 0)); (with_reducible exact H); (repeat rfl); intro w' H') | ((repeat (with_reducible apply Hp.set' 1)); (with_reducible exact H); (repeat rfl); intro w' H') | ((repeat (with_reducible apply Hp.set' 2)); (with_reducible exact H); (repeat rfl); intro w' H') | ((repeat (with_reducible apply Hp.set' 3)); (with_reducible exact H); (repeat rfl); intro w' H') | ((repeat (with_reducible apply Hp.set' 4)); (with_reducible exact H); (repeat rfl); intro w' H') | ((repeat (with_reducible apply Hp.set' 5)); (with_reducible exact H); (repeat rfl); intro w' H') | ((repeat (with_reducible apply Hp.set' 6)); (with_reducible exact H); (repeat rfl); intro w' H') | ((repeat (with_reducible apply Hp.set' 7)); (with_reducible exact H); (repeat rfl); intro w' H')); ((try simp only [z0, z1, z2] at H'); clear C H; have H := H'; clear H'; have C := Hp.facts H; simp only [Facts, factsL, and_true, true_and, z0, z1, z2] at C)) | go_values | go_skip | go_guarded | go_step | go_upon | go_back | (simp only [Int.not_lt, Int.not_le] at *; go_simp) | (go_values <;> (try go_simp)) | (go_ite <;> go_prune <;> (try go_simp)) | (split <;> (first | (rename_i hx; exact (hx _ rfl).elim) | go_prune))))
      clear C
      go_loopw [3, 6] (fun out kx wr => ∃ j : Nat, j ≤ 8 ∧ kx = .int .i64 ((128 / 2 ^ j : Nat) : Int) ∧ Hp w [.row 3 1 out (8 * i + j) (ivs (bitsL l (8 * i + j)))] wr) (fun _ kx _ => (intOf kx).toNat)
      case atStart => exact ⟨0, by omega, rfl, H⟩
      case round =>
        clear H
        obtain ⟨j, hj8, rfl, H⟩ := hrel
        have C := Hp.facts H
        simp only [Facts, factsL, and_true, true_and, z0, z1, z2] at C
        by_cases hj : j < 8
        · obtain ⟨K, hK⟩ : ∃ K, 128 / 2 ^ j = K := ⟨_, rfl⟩
          have h1 := pow_step j hj
          have h2 := (pow_pos8 j hj8).2 hj
          have h3 : bitI l (8 * i + j) = l[i].toNat / K % 2 := by
            rw [bitI_at (by omega), ← hK, pow_is j hj]
            simp only [show (8 * i + j) / 8 = i by omega, show (8 * i + j) % 8 = j by omega]
          have hn := l[i].toNat_lt
          rw [hK] at h1 h2 ⊢
          have g1 := Lib.hid h1
          have g3 := Lib.hid h3
          have gK := Lib.hid hK
          clear hK h1 h3
          have hK0 : ((K : Int) == 0) = false := by simp; omega
          (repeat' ((fail_if_success (with_reducible show bodyPost _ _ _ _ _ _)); first | ((with_reducible refine Hp.abs_alloc H ?_); intro b' w' H' hb'; (try simp only [hb']); clear hb'; ((try simp only [z0, z1, z2] at H'); clear C H; have H := H'; clear H'; have C := Hp.facts H; simp only [Facts, factsL, and_true, true_and, z0, z1, z2] at C)) | ((with_reducible show wpList _ _ _ _ _ (World.setCell _ _ _)); (with_reducible apply Hp.abs_gen H); (first | ((repeat (with_reducible apply Hp.set' 0)); (with_reducible exact H); (repeat rfl); intro w' H') | ((repeat (with_reducible apply Hp.set' 1)); (with_reducible exact H); (repeat rfl); intro w' H') | ((repeat (with_reducible apply Hp.set' 2)); (with_reducible exact H); (repeat rfl); intro w' H') | ((repeat (with_reducible apply Hp.set' 3)); (with_reducible exact H); (repeat rfl); intro w' H') | ((repeat (with_reducible apply Hp.set' 4)); (with_reducible exact H); (repeat rfl); intro w' H') | ((repeat (with_reducible apply Hp.set' 5)); (with_reducible exact H); (repeat rfl); intro w' H') | ((repeat (with_reducible apply Hp.set' 6)); (with_reducible exact H); (repeat rfl); intro w' H') | ((repeat (with_reducible apply Hp.set' 7)); (with_reducible exact H); (repeat rfl); intro w' H')); ((try simp only [z0, z1, z2] at H'); clear C H; have H := H'; clear H'; have C := Hp.facts H; simp only [Facts, factsL, and_true, true_and, z0, z1, z2] at C)) | (at_builtin; (refine wpList_append_hp H 1 rfl _ _ _ rfl Try.underlying22 hi hz0 hz1 hz2 rfl (by decide) rfl rfl rfl (news := [_]) rfl (fun h => by cases h) (fun _ => ⟨_, rfl, blk_news (H.get 0 rfl)⟩) (by simp [Value.oneCell']) (by unfold maxLen; omega) (by omega) ?_); intro v' w' H'; ((try simp only [z0, z1, z2] at H'); clear C H; have H := H'; clear H'; have C := Hp.facts H; simp only [Facts, factsL, and_true, true_and, z0, z1, z2] at C)) | go_values | go_skip | go_guarded | go_step | go_upon | go_back | (simp only [Int.not_lt, Int.not_le] at *; go_simp) | (go_values <;> (try go_simp)) | (go_ite <;> go_prune <;> (try go_simp)) | (split <;> (first | (rename_i hx; exact (hx _ rfl).elim) | go_prune))))
          have e := quot_bit hn h2
          rw [← g3.out] at e
          rw [e, ivs_snoc, ← bitsL_succ] at H
          have hK2 : K ≤ 128 := by rw [← gK.out]; exact Nat.div_le_self _ _
          rw [show wrap64 ((K : Int) / 2) = ((K / 2 : Nat) : Int) by unfold wrap64; omega]
          exact ⟨⟨j + 1, by omega, by rw [← g1.out], H.tail⟩, show K / 2 < K by omega⟩
        · obtain rfl : j = 8 := by omega
          (repeat' ((fail_if_success (with_reducible show bodyPost _ _ _ _ _ _)); first | ((with_reducible refine Hp.abs_alloc H ?_); intro b' w' H' hb'; (try simp only [hb']); clear hb'; ((try simp only [z0, z1, z2] at H'); clear C H; have H := H'; clear H'; have C := Hp.facts H; simp only [Facts, factsL, and_true, true_and, z0, z1, z2] at C)) | ((with_reducible show wpList _ _ _ _ _ (World.setCell _ _ _)); (with_reducible apply Hp.abs_gen H); (first | ((repeat (with_reducible apply Hp.set' 0)); (with_reducible exact H); (repeat rfl); intro w' H') | ((repeat (with_reducible apply Hp.set' 1)); (with_reducible exact H); (repeat rfl); intro w' H') | ((repeat (with_reducible apply Hp.set' 2)); (with_reducible exact H); (repeat rfl); intro w' H') | ((repeat (with_reducible apply Hp.set' 3)); (with_reducible exact H); (repeat rfl); intro w' H') | ((repeat (with_reducible apply Hp.set' 4)); (with_reducible exact H); (repeat rfl); intro w' H') | ((repeat (with_reducible apply Hp.set' 5)); (with_reducible exact H); (repeat rfl); intro w' H') | ((repeat (with_reducible apply Hp.set' 6)); (with_reducible exact H); (repeat rfl); intro w' H') | ((repeat (with_reducible apply Hp.set' 7)); (with_reducible exact H); (repeat rfl); intro w' H')); ((try simp only [z0, z1, z2] at H'); clear C H; have H := H'; clear H'; have C := Hp.facts H; simp only [Facts, factsL, and_true, true_and, z0, z1, z2] at C)) | go_values | go_skip | go_guarded | go_step | go_upon | go_back | (simp only [Int.not_lt, Int.not_le] at *; go_simp) | (go_values <;> (try go_simp)) | (go_ite <;> go_prune <;> (try go_simp)) | (split <;> (first | (rename_i hx; exact (hx _ rfl).elim) | go_prune))))
          exact ⟨⟨i + 1, by omega, by go_num, H⟩, by simp [intOf]; omega⟩
    · obtain rfl : i = l.length := by omega
      clear hcell hA
      (repeat' ((fail_if_success (with_reducible show bodyPost _ _ _ _ _ _)); first | ((with_reducible refine Hp.abs_alloc H ?_); intro b' w' H' hb'; (try simp only [hb']); clear hb'; ((try simp only [z0, z1, z2] at H'); clear C H; have H := H'; clear H'; have C := Hp.facts H; simp only [Facts, factsL, and_true, true_and, z0, z1, z2] at C)) | ((with_reducible show wpList _ _ _ _ _ (World.setCell _ _ _)); (with_reducible apply Hp.abs_gen H); (first | ((repeat (with_reducible apply Hp.set' 0)); (with_reducible exact H); (repeat rfl); intro w' H') | ((repeat (with_reducible apply Hp.set' 1)); (with_reducible exact H); (repeat rfl); intro w' H') | ((repeat (with_reducible apply Hp.set' 2)); (with_reducible exact H); (repeat rfl); intro w' H') | ((repeat (with_reducible apply Hp.set' 3)); (with_reducible exact H); (repeat rfl); intro w' H') | ((repeat (with_reducible apply Hp.set' 4)); (with_reducible exact H); (repeat rfl); intro w' H') | ((repeat (with_reducible apply Hp.set' 5)); (with_reducible exact H); (repeat rfl); intro w' H') | ((repeat (with_reducible apply Hp.set' 6)); (with_reducible exact H); (repeat rfl); intro w' H') | ((repeat (with_reducible apply Hp.set' 7)); (with_reducible exact H); (repeat rfl); intro w' H')); ((try simp only [z0, z1, z2] at H'); clear C H; have H := H'; clear H'; have C := Hp.facts H; simp only [Facts, factsL, and_true, true_and, z0, z1, z2] at C)) | go_values | go_skip | go_guarded | go_step | go_upon | go_back | (simp only [Int.not_lt, Int.not_le] at *; go_simp) | (go_values <;> (try go_simp)) | (go_ite <;> go_prune <;> (try go_simp)) | (split <;> (first | (rename_i hx; exact (hx _ rfl).elim) | go_prune))))
      go_ret
      exact OneI.of H 0 rfl (bitsL_length _ _).symm rfl rfl
end Go.Proofs.Ytldblmgmcmnepaa

/- Slices of whole numbers. No condition on a program. -/
namespace Go.Mem
open Go.RowKit
/-- What a walk begins with: the value written out; an element of each place. -/
theorem Sl.openK {α : Type} {f : α → Value} {w : World} {v : Value} {xs : List α} (h : Sl w v (xs.map f)) : ∃ (A : Option Addr) (c : Nat), v = .slice A xs.length c ∧ xs.length ≤ c ∧ c ≤ 9223372036854775807 ∧ (A = none → c = 0) ∧
    ∀ k, (hk : k < xs.length) → ∃ b o, A = some ⟨b, o, none⟩ ∧ b < w.heap.size ∧ ∀ j, (hj : j < xs.length) → w.cell? ⟨b, o + j, none⟩ = some (f xs[j]) := by
  obtain ⟨A, c, rfl, h1, h2, h3, h4⟩ := h
  simp only [List.length_map] at *
  refine ⟨A, c, rfl, h1, h2, h3, fun k hk => ?_⟩
  obtain ⟨b, o, e, hl, hc⟩ := h4 (by omega)
  exact ⟨b, o, e, hl, fun j hj => hc j _ (by simp [hj])⟩
theorem Sl.at {α : Type} {f : α → Value} {w : World} {A : Option Addr} {n c : Nat} {xs : List α} (h : Sl w (.slice A n c) (xs.map f)) (k : Nat) (hk : k < xs.length) : ∃ b o, A = some ⟨b, o, none⟩ ∧ b < w.heap.size ∧ w.cell? ⟨b, o + k, none⟩ = some (f xs[k]) := by
  obtain ⟨A', c', e, -, -, -, hc⟩ := h.openK
  injection e with e1 e2 e3
  subst e1
  obtain ⟨b, o, e, hl, hj⟩ := hc k hk
  exact ⟨b, o, e, hl, hj k hk⟩
/-- The first ones. -/
theorem Sl.frontK {w : World} {A : Option Addr} {n c : Nat} {xs : List Value} (h : Sl w (.slice A n c) xs) {k : Nat} (hk : k ≤ n) : Sl w (.slice A k c) (xs.take k) := by
  obtain ⟨A', c', e, h1, h2, h3, h4⟩ := h
  injection e with e1 e2 e3
  subst e1 e2 e3
  refine ⟨A, c, by rw [List.length_take, Nat.min_eq_left hk], by rw [List.length_take]; omega, h2, h3, fun hp => ?_⟩
  rw [List.length_take] at hp
  obtain ⟨b, o, e, hl, hc⟩ := h4 (by omega)
  refine ⟨b, o, e, hl, fun j u hu => hc j u ?_⟩
  rw [List.getElem?_take] at hu
  split at hu
  · exact hu
  · cases hu
theorem Sl.size {w : World} {A : Option Addr} {n c : Nat} {xs : List Value} (h : Sl w (.slice A n c) xs) : xs.length = n := by
  obtain ⟨A', c', e, -⟩ := h
  injection e with e1 e2 e3
  exact e2.symm
theorem Sl.cap {w : World} {A : Option Addr} {n c : Nat} {xs : List Value} (h : Sl w (.slice A n c) xs) : n ≤ c ∧ c ≤ 9223372036854775807 := by
  obtain ⟨A', c', e, h1, h2, -⟩ := h
  injection e with e1 e2 e3
  subst e1 e2 e3
  exact ⟨h1, h2⟩
/-- A slice of whole numbers. -/
def Zs (w : World) (v : Value) (xs : List Int) : Prop := Sl w v (Bit.zvs xs)
def Ns (w : World) (v : Value) (xs : List Nat) : Prop := Sl w v (Bit.ivs xs)
theorem Ns.zs {w : World} {v : Value} {xs : List Nat} (h : Ns w v xs) : Zs w v (xs.map fun (n : Nat) => (n : Int)) := by
  unfold Zs
  rw [← Bit.ivs_zvs]
  exact h
theorem Zs.step {w w' : World} {v : Value} {l : List Int} (h : Zs w v l) (hb : Below w.heap.size w w') : Zs w' v l := Sl.step h hb
theorem Ns.step {w w' : World} {v : Value} {l : List Nat} (h : Ns w v l) (hb : Below w.heap.size w w') : Ns w' v l := Sl.step h hb
theorem Hp.zs {w0 w : World} {L : List Ent} (H : Hp w0 L w) {v : Value} {l : List Int} (h : Zs w0 v l) : Zs w v l := h.step H.low
theorem Hp.ns {w0 w : World} {L : List Ent} (H : Hp w0 L w) {v : Value} {l : List Nat} (h : Ns w0 v l) : Ns w v l := h.step H.low
theorem Zs.open {w : World} {v : Value} {xs : List Int} (h : Zs w v xs) : ∃ (A : Option Addr) (c : Nat), v = .slice A xs.length c ∧ xs.length ≤ c ∧ c ≤ 9223372036854775807 ∧ (A = none → c = 0) ∧
    ∀ k, (hk : k < xs.length) → ∃ b o, A = some ⟨b, o, none⟩ ∧ b < w.heap.size ∧ ∀ j, (hj : j < xs.length) → w.cell? ⟨b, o + j, none⟩ = some (.int .i64 xs[j]) := Sl.openK h
theorem Ns.open {w : World} {v : Value} {xs : List Nat} (h : Ns w v xs) : ∃ (A : Option Addr) (c : Nat), v = .slice A xs.length c ∧ xs.length ≤ c ∧ c ≤ 9223372036854775807 ∧ (A = none → c = 0) ∧
    ∀ k, (hk : k < xs.length) → ∃ b o, A = some ⟨b, o, none⟩ ∧ b < w.heap.size ∧ ∀ j, (hj : j < xs.length) → w.cell? ⟨b, o + j, none⟩ = some (.int .i64 (xs[j] : Int)) := Sl.openK h
theorem Zs.at {w : World} {A : Option Addr} {n c : Nat} {xs : List Int} (h : Zs w (.slice A n c) xs) (k : Nat) (hk : k < xs.length) : ∃ b o, A = some ⟨b, o, none⟩ ∧ b < w.heap.size ∧ w.cell? ⟨b, o + k, none⟩ = some (.int .i64 xs[k]) := Sl.at h k hk
theorem Ns.at {w : World} {A : Option Addr} {n c : Nat} {xs : List Nat} (h : Ns w (.slice A n c) xs) (k : Nat) (hk : k < xs.length) : ∃ b o, A = some ⟨b, o, none⟩ ∧ b < w.heap.size ∧ w.cell? ⟨b, o + k, none⟩ = some (.int .i64 (xs[k] : Int)) := Sl.at h k hk
theorem Zs.front {w : World} {A : Option Addr} {n c : Nat} {xs : List Int} (h : Zs w (.slice A n c) xs) {k : Nat} (hk : k ≤ n) : Zs w (.slice A k c) (xs.take k) := by
  have := Sl.frontK h hk
  unfold Zs Bit.zvs at *
  rwa [List.map_take]
theorem Ns.front {w : World} {A : Option Addr} {n c : Nat} {xs : List Nat} (h : Ns w (.slice A n c) xs) {k : Nat} (hk : k ≤ n) : Ns w (.slice A k c) (xs.take k) := by
  have := Sl.frontK h hk
  unfold Ns Bit.ivs at *
  rwa [List.map_take]
end Go.Mem

