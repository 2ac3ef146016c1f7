/- Lemmas and walks on the way to the seat's laws; each theorem says its own conditions. -/
import Derived.Test.YtogliinfdfkobaaI20
import Derived.Test.YtogliinfdfkobaaH17
import Derived.Test.YtogliinfdfkobaaHBack
set_option linter.unusedSimpArgs false
set_option linter.unusedVariables false
set_option linter.unusedSimpArgs false
set_option linter.unusedVariables false
set_option maxRecDepth 100000
namespace Go.Proofs.Ytogliinfdfkobaa
open Go.RowKit Go.Mem Go.Reg Oct Hd Go.LawLift
mutual
/-- A right tree's bytes. -/
def wholeT : Tree → List UInt8
  | .mk t b ks => wholeL t (b ++ wholesT ks)
def wholesT : List Tree → List UInt8
  | [] => []
  | k :: r => wholeT k ++ wholesT r
end
theorem wholesT_map : ∀ ks : List Tree, wholesT ks = (ks.map wholeT).flatten
  | [] => by simp [wholesT]
  | k :: r => by rw [wholesT, wholesT_map r, List.map_cons, List.flatten_cons]
theorem wholeT_is (t : Tree) : wholeT t = wholeL t.tag (t.bytes ++ wholesT t.kids) := by
  obtain ⟨t, b, ks⟩ := t
  rw [wholeT]
  rfl
theorem sizeR_ok {t : Tg} (h : okTag t = true) {l : List UInt8} (hl : l.length ≤ 16777216) : sizeR t (l.length : Int) = ((wholeL t l).length : Int) := by
  unfold sizeR tagR lenR wholeL
  rw [if_pos h, if_neg (show ¬ (l.length : Int) < 0 by omega), if_neg (show ¬ (16777216 : Int) < (l.length : Int) by omega), if_neg (by simp)]
  simp only [List.length_append]
  omega
/-- What length tells of a right tree. -/
def LenOk (t : Tree) : Prop := lenT t = ((wholeT t).length : Int) ∧ (t.bytes ++ wholesT t.kids).length ≤ 16777216 ∧ (wholeT t).length ≤ 16777216
mutual
theorem lenT_len : ∀ (t : Tree), t.sound = true → 0 ≤ lenT t → lenT t = ((wholeT t).length : Int) ∧ (∀ k ∈ t.kids, 0 ≤ lenT k) ∧ (t.bytes ++ wholesT t.kids).length ≤ 16777216
  | .mk t b ks, hs, h => by
    rw [lenT] at h ⊢
    rw [wholeT]
    rw [Tree.sound] at hs
    simp only [Bool.and_eq_true] at hs
    obtain ⟨⟨h1, h2⟩, h3⟩ := hs
    show _ ∧ (∀ k ∈ ks, 0 ≤ lenT k) ∧ (b ++ wholesT ks).length ≤ 16777216
    by_cases hn : lensT b.length ks < 0
    · rw [capL_neg hn] at h
      omega
    · have hk := lensT_len ks b.length h3 (by omega)
      have hl : lensT b.length ks = ((b ++ wholesT ks).length : Int) := by rw [List.length_append]; omega
      by_cases hb : sizeR t (lensT b.length ks) = 0 ∨ 16777216 < sizeR t (lensT b.length ks)
      · rw [capL_bad (by omega) hb] at h
        omega
      · rw [capL_ok (by omega) hb, hl] at *
        have hle : (b ++ wholesT ks).length ≤ 16777216 := by
          by_cases h9 : (b ++ wholesT ks).length ≤ 16777216
          · exact h9
          · exfalso
            apply hb
            left
            unfold sizeR lenR
            rw [if_neg (show ¬ ((b ++ wholesT ks).length : Int) < 0 by omega), if_pos (show (16777216 : Int) < ((b ++ wholesT ks).length : Int) by omega), if_pos (by simp)]
        exact ⟨sizeR_ok h1 hle, hk.2, hle⟩
theorem lensT_len : ∀ (ks : List Tree) (n : Int), Tree.sounds ks = true → 0 ≤ lensT n ks → lensT n ks = n + ((wholesT ks).length : Int) ∧ ∀ k ∈ ks, 0 ≤ lenT k
  | [], n, _, h => by
    rw [lensT, wholesT]
    simp
  | k :: r, n, hs, h => by
    rw [Tree.sounds] at hs
    simp only [Bool.and_eq_true] at hs
    rw [lensT] at h ⊢
    by_cases hb : lenT k < 0 ∨ 16777216 < n + lenT k
    · rw [if_pos hb] at h
      omega
    · rw [if_neg hb] at h ⊢
      have h1 := lensT_len r (n + lenT k) hs.2 h
      have h2 := lenT_len k hs.1 (by omega)
      rw [wholesT, List.length_append]
      refine ⟨by omega, fun u hu => ?_⟩
      rcases List.mem_cons.1 hu with rfl | hu
      · omega
      · exact h1.2 u hu
end
theorem info_b7 : (Try.prog.info? 24).map (fun i => (i.zero, i.size, i.bytes)) = some (some (.slice none 0 0), 1, 24) := by kernel_rfl
theorem wrapR_ok {t : Tg} (h : okTag t = true) {ls : List (List UInt8)} (hl : ls.flatten.length ≤ 16777216) : wrapR t ls = (wholeL t ls.flatten, 0) := by
  unfold wrapR wholeL
  rw [if_pos h, if_neg (by omega)]
/-- Slices of bytes that have come so far. -/
def BsL (w0 : World) (vals : List Value) (ls : List (List UInt8)) (Os : List Ent) : Prop := vals.length = ls.length ∧ ∀ j, (h1 : j < vals.length) → (h2 : j < ls.length) → Firm w0 Os fun w => Bs w vals[j] ls[j]
theorem BsL.next {w0 : World} {vals : List Value} {ls : List (List UInt8)} {Os Os2 : List Ent} {v : Value} {l : List UInt8} (h : BsL w0 vals ls Os) (hv : Firm w0 Os2 fun w => Bs w v l) : BsL w0 (vals ++ [v]) (ls ++ [l]) (Os ++ Os2) := by
  refine ⟨by rw [List.length_append, List.length_append, h.1]; rfl, fun j h1 h2 => ?_⟩
  by_cases hj : j < vals.length
  · rw [List.getElem_append_left hj, List.getElem_append_left (by rw [← h.1]; exact hj)]
    exact (h.2 j hj (by rw [← h.1]; exact hj)).more fun x hx => List.mem_append_left _ hx
  · obtain rfl : j = vals.length := by simp at h1; omega
    have e : (ls ++ [l])[vals.length]'h2 = l := by
      simp only [h.1]
      rw [List.getElem_append_right (Nat.le_refl _)]
      simp
    rw [e, List.getElem_append_right (Nat.le_refl _)]
    simp only [Nat.sub_self, List.getElem_cons_zero]
    exact hv.more fun x hx => List.mem_append_right _ hx
theorem all2_at {α β : Type} {R : α → β → Prop} : ∀ (xs : List α) (ys : List β), xs.length = ys.length → (∀ j, (h1 : j < xs.length) → (h2 : j < ys.length) → R xs[j] ys[j]) → All2 R xs ys
  | [], [], _, _ => .nil
  | x :: xs, y :: ys, hl, h => .cons (h 0 (by simp) (by simp)) (all2_at xs ys (by simpa using hl) fun j h1 h2 => by have := h (j + 1) (by simpa using h1) (by simpa using h2); simpa using this)
theorem BsL.bss {w0 w : World} {L : List Ent} {vals : List Value} {ls : List (List UInt8)} {Os : List Ent} (h : BsL w0 vals ls Os) (H : Hp w0 L w) (hs : ∀ x ∈ Os, x ∈ L) (i : Nat) {T : TypeId} {rv : Value} (hi : L[i]? = some (.row T 1 rv vals.length vals)) : Bss w rv ls :=
  ⟨vals, slice_of_own (ownsOf H i hi), all2_at _ _ h.1 fun j h1 h2 => h.2 j h1 h2 w L H hs⟩
/-- The loop over a tree's kids: their bytes so far. -/
def BtRel (ks : List Tree) (M : List Ent) (w : World) (x ix : Value) (wr : World) : Prop := ∃ (i : Nat) (vals : List Value) (Os : List Ent), i ≤ ks.length ∧ ix = .int .i64 i ∧ BsL w vals ((ks.take i).map wholeT) Os ∧ Hp w (.row 24 1 x i vals :: (M ++ Os)) wr
theorem BtRel.mk {ks : List Tree} {M : List Ent} {w : World} {x ix : Value} {wr : World} (i : Nat) (vals : List Value) (Os : List Ent) (h1 : i ≤ ks.length) (h2 : ix = .int .i64 i) (h3 : BsL w vals ((ks.take i).map wholeT) Os) (h4 : Hp w (.row 24 1 x i vals :: (M ++ Os)) wr) : BtRel ks M w x ix wr := ⟨i, vals, Os, h1, h2, h3, h4⟩
set_option maxHeartbeats 3200000 in
theorem bytesOf_any : ∀ (n : Nat) (t : Tree) (cs : List Value) (w : World), ItN w n t cs → t.sound = true → 0 ≤ lenT t → t.count ≤ 10000 →
    Calls Try.prog 44 #[.agg cs.toArray] w fun e w' => (∃ v', e = .returned v' ∧ w'.ownsRow w.heap.size 5 1 v' (wholeT t).length ((wholeT t).map u8c)) ∧ Below w.heap.size w w' := by
  intro n
  induction n with
  | zero => intro t cs w h; exact h.elim
  | succ n ih =>
    intro t cs w ht hso hle hcn
    obtain ⟨i0, hi, hz0, hz1, hz2⟩ := info_parts info_b7
    obtain ⟨vb, A, c, rfl, hb, hlc, hcm, hA, hk⟩ := ht.open
    have H := Hp.start w
    have C : True := trivial
    obtain ⟨hL1, hL2, hL3⟩ := lenT_len t hso hle
    have hW := wholeT_is t
    have hcn2 := t.count_is
    have hat := Tree.counts_at t.kids
    have hkl := Tree.len_counts t.kids
    have hcap : c ≤ 9223372036854775807 := hcm
    obtain ⟨⟨tc, tn, tm⟩, bs, ks⟩ := t
    rw [Tree.sound] at hso
    simp only [Tree.kids, Tree.tag, Tree.bytes] at *
    simp only [Bool.and_eq_true] at hso
    obtain ⟨⟨hok, hpart⟩, hsd⟩ := hso
    have hsk : ∀ j, (hj : j < ks.length) → ks[j].sound = true := fun j hj => by
      cases h : ks[j].sound with
      | true => rfl
      | false => rw [Tree.sounds_at ks j hj h] at hsd; cases hsd
    have gk := Kp.mk (fun j (hj : j < ks.length) => show ks[j].sound = true ∧ 0 ≤ lenT ks[j] ∧ ks[j].count ≤ 10000 from ⟨hsk j hj, hL2 _ (List.getElem_mem hj), by have := hat j hj; omega⟩)
    have gW := Kp.mk hW
    rw [wholesT_map] at hW hL3
    obtain ⟨res, hres⟩ : ∃ res, wholeT (Tree.mk ⟨tc, tn, tm⟩ bs ks) = res := ⟨_, rfl⟩
    rw [hres] at hW ⊢
    have hkl2 : ks.length ≤ 10000 := by omega
    have hlw := fun k (hk : k ∈ ks) => show (wholeT k).length ≤ 16777216 by
      have h1 := List.mem_map_of_mem (f := wholeT) hk
      have h2 := (List.sublist_flatten_of_mem h1).length_le
      rw [List.length_append] at hL3
      omega
    have glw := Kp.mk hlw
    obtain ⟨Bv, cv, rfl⟩ : ∃ Bv cv, vb = .slice Bv bs.length cv := by
      obtain ⟨Bv, cv, e, -⟩ := hb
      exact ⟨Bv, cv, by simpa using e⟩
    replace hb := Kp.mk hb
    replace hL3 := Kp.mk hL3
    replace hW := Kp.mk hW
    clear hat hkl hcn hcn2 ht hcm hL1 hL2 hle hsd hsk gW hlw hres
    obtain ⟨Q, hQ⟩ : ∃ Q : Ending → World → Prop, Q = fun e w' => (∃ v', e = .returned v' ∧ w'.ownsRow w.heap.size 5 1 v' res.length (res.map u8c)) ∧ Below w.heap.size w w' := ⟨_, rfl⟩
    rw [← hQ]
    replace hQ := Kp.mk hQ
    cases tm with
    | false =>
      have hks : ks = [] := List.eq_nil_of_length_eq_zero (by simpa using hpart)
      subst hks
      have hw2 := Kp.mk (wrapR_ok hok (ls := [bs]) (by have := hL3.out; simpa using this))
      have hres : Kp (res = wholeL ⟨tc, tn, false⟩ ([bs] : List (List UInt8)).flatten) := ⟨by rw [hW.out]; simp⟩
      clear hW ih hk gk glw hpart
      go_enter Try.func44, Try.ntmps44
      (repeat' ((fail_if_success (with_reducible show bodyPost _ _ _ _ _ _)); first | ((with_reducible refine Hp.abs_alloc H ?_); intro b' w' H' hb'; (try simp only [hb']); clear hb'; ((try simp only [List.set_cons_zero, List.set_cons_succ, List.setIfInBounds_toArray] at H'); clear C H; have H := H'; clear H'; have C := Hp.facts H; simp only [Facts, factsL, and_true, true_and, List.set_cons_zero, List.set_cons_succ, List.setIfInBounds_toArray] at C)) | ((with_reducible show wpList _ _ _ _ _ (World.setCell _ _ _)); (with_reducible apply Hp.abs_gen H); (first | ((repeat (with_reducible apply Hp.set' 0)); (with_reducible exact H); (repeat rfl); intro w' H') | ((repeat (with_reducible apply Hp.set' 1)); (with_reducible exact H); (repeat rfl); intro w' H') | ((repeat (with_reducible apply Hp.set' 2)); (with_reducible exact H); (repeat rfl); intro w' H') | ((repeat (with_reducible apply Hp.set' 3)); (with_reducible exact H); (repeat rfl); intro w' H') | ((repeat (with_reducible apply Hp.set' 4)); (with_reducible exact H); (repeat rfl); intro w' H') | ((repeat (with_reducible apply Hp.set' 5)); (with_reducible exact H); (repeat rfl); intro w' H') | ((repeat (with_reducible apply Hp.set' 6)); (with_reducible exact H); (repeat rfl); intro w' H') | ((repeat (with_reducible apply Hp.set' 7)); (with_reducible exact H); (repeat rfl); intro w' H')); ((try simp only [List.set_cons_zero, List.set_cons_succ, List.setIfInBounds_toArray] at H'); clear C H; have H := H'; clear H'; have C := Hp.facts H; simp only [Facts, factsL, and_true, true_and, List.set_cons_zero, List.set_cons_succ, List.setIfInBounds_toArray] at C)) | go_values | go_skip | go_guarded | go_step | go_upon | go_back | (simp only [Int.not_lt, Int.not_le] at *; go_simp) | (go_values <;> (try go_simp)) | (go_ite <;> go_prune <;> (try go_simp)) | (split <;> (first | (rename_i hx; exact (hx _ rfl).elim) | go_prune))))
      have hWr := wrap_any tc tn false [bs] _ _ (bss_blk H 0 rfl (.cons (hb.out.step H.low) .nil) (Nat.le_of_ble_eq_true rfl)) (by simp) (by have := hL3.out; simp at this; simp; omega)
      rw [hw2.out, ← hres.out] at hWr
      replace hWr : Calls _ _ _ _ (OwnOut _ res 0) := hWr
      clear hres hw2
      refine hWr.mono ?_
      clear hWr
      rintro e' w1 ⟨⟨v', rfl, ho⟩, hb'⟩
      have H' := H.adopt hb' (.row 5 1 v' res.length (res.map u8c)) ho
      obtain ⟨A1, c1, rfl⟩ := own_form ho
      clear ho hb'
      ((try simp only [List.set_cons_zero, List.set_cons_succ, List.setIfInBounds_toArray] at H'); clear C H; have H := H'; clear H'; have C := Hp.facts H; simp only [Facts, factsL, and_true, true_and, List.set_cons_zero, List.set_cons_succ, List.setIfInBounds_toArray] at C)
      (repeat' ((fail_if_success (with_reducible show bodyPost _ _ _ _ _ _)); first | ((with_reducible refine Hp.abs_alloc H ?_); intro b' w' H' hb'; (try simp only [hb']); clear hb'; ((try simp only [List.set_cons_zero, List.set_cons_succ, List.setIfInBounds_toArray] at H'); clear C H; have H := H'; clear H'; have C := Hp.facts H; simp only [Facts, factsL, and_true, true_and, List.set_cons_zero, List.set_cons_succ, List.setIfInBounds_toArray] at C)) | ((with_reducible show wpList _ _ _ _ _ (World.setCell _ _ _)); (with_reducible apply Hp.abs_gen H); (first | ((repeat (with_reducible apply Hp.set' 0)); (with_reducible exact H); (repeat rfl); intro w' H') | ((repeat (with_reducible apply Hp.set' 1)); (with_reducible exact H); (repeat rfl); intro w' H') | ((repeat (with_reducible apply Hp.set' 2)); (with_reducible exact H); (repeat rfl); intro w' H') | ((repeat (with_reducible apply Hp.set' 3)); (with_reducible exact H); (repeat rfl); intro w' H') | ((repeat (with_reducible apply Hp.set' 4)); (with_reducible exact H); (repeat rfl); intro w' H') | ((repeat (with_reducible apply Hp.set' 5)); (with_reducible exact H); (repeat rfl); intro w' H') | ((repeat (with_reducible apply Hp.set' 6)); (with_reducible exact H); (repeat rfl); intro w' H') | ((repeat (with_reducible apply Hp.set' 7)); (with_reducible exact H); (repeat rfl); intro w' H')); ((try simp only [List.set_cons_zero, List.set_cons_succ, List.setIfInBounds_toArray] at H'); clear C H; have H := H'; clear H'; have C := Hp.facts H; simp only [Facts, factsL, and_true, true_and, List.set_cons_zero, List.set_cons_succ, List.setIfInBounds_toArray] at C)) | go_values | go_skip | go_guarded | go_step | go_upon | go_back | (simp only [Int.not_lt, Int.not_le] at *; go_simp) | (go_values <;> (try go_simp)) | (go_ite <;> go_prune <;> (try go_simp)) | (split <;> (first | (rename_i hx; exact (hx _ rfl).elim) | go_prune))))
      refine bodyPost_ret (v := .slice A1 res.length c1) (by simp [results, go_sem, C]) rfl ?_
      rw [hQ.out]
      exact ⟨⟨_, rfl, ownsOf H 0 rfl⟩, H.low⟩
    | true =>
      have hbs : bs = [] := List.eq_nil_of_length_eq_zero (by simpa using hpart)
      subst hbs
      have hw2 := Kp.mk (wrapR_ok hok (ls := ks.map wholeT) (by have := hL3.out; simpa using this))
      have hres : Kp (res = wholeL ⟨tc, tn, true⟩ (ks.map wholeT).flatten) := ⟨by rw [hW.out]; simp⟩
      clear hW hpart hL3
      go_enter Try.func44, Try.ntmps44
      (repeat' ((fail_if_success (with_reducible show bodyPost _ _ _ _ _ _)); first | ((with_reducible refine Hp.abs_alloc H ?_); intro b' w' H' hb'; (try simp only [hb']); clear hb'; ((try simp only [List.set_cons_zero, List.set_cons_succ, List.setIfInBounds_toArray] at H'); clear C H; have H := H'; clear H'; have C := Hp.facts H; simp only [Facts, factsL, and_true, true_and, List.set_cons_zero, List.set_cons_succ, List.setIfInBounds_toArray] at C)) | ((with_reducible show wpList _ _ _ _ _ (World.setCell _ _ _)); (with_reducible apply Hp.abs_gen H); (first | ((repeat (with_reducible apply Hp.set' 0)); (with_reducible exact H); (repeat rfl); intro w' H') | ((repeat (with_reducible apply Hp.set' 1)); (with_reducible exact H); (repeat rfl); intro w' H') | ((repeat (with_reducible apply Hp.set' 2)); (with_reducible exact H); (repeat rfl); intro w' H') | ((repeat (with_reducible apply Hp.set' 3)); (with_reducible exact H); (repeat rfl); intro w' H') | ((repeat (with_reducible apply Hp.set' 4)); (with_reducible exact H); (repeat rfl); intro w' H') | ((repeat (with_reducible apply Hp.set' 5)); (with_reducible exact H); (repeat rfl); intro w' H') | ((repeat (with_reducible apply Hp.set' 6)); (with_reducible exact H); (repeat rfl); intro w' H') | ((repeat (with_reducible apply Hp.set' 7)); (with_reducible exact H); (repeat rfl); intro w' H')); ((try simp only [List.set_cons_zero, List.set_cons_succ, List.setIfInBounds_toArray] at H'); clear C H; have H := H'; clear H'; have C := Hp.facts H; simp only [Facts, factsL, and_true, true_and, List.set_cons_zero, List.set_cons_succ, List.setIfInBounds_toArray] at C)) | go_values | go_skip | go_guarded | go_step | go_upon | go_back | (simp only [Int.not_lt, Int.not_le] at *; go_simp) | (go_values <;> (try go_simp)) | (go_ite <;> go_prune <;> (try go_simp)) | (split <;> (first | (rename_i hx; exact (hx _ rfl).elim) | go_prune))))
      (obtain ⟨bt, rfl⟩ := Hp.name H 0 rfl)
      go_loopw [5, 27, 7] (fun x ix _ wr => BtRel ks [.blk bt #[.int .i64 tc, .int .i64 tn, .bool true, .slice Bv 0 cv, .slice A ks.length c] 41] w x ix wr) (fun _ ix _ _ => ks.length - (intOf ix).toNat)
      case atStart => exact BtRel.mk 0 [] [] (Nat.zero_le _) rfl ⟨rfl, fun j h1 => absurd h1 (Nat.not_lt_zero _)⟩ (by simpa using H.nilRow 24 1)
      case round =>
        clear H C
        obtain ⟨i, vals, Os, hi1, rfl, gV, H⟩ := hrel
        simp only [List.cons_append, List.nil_append] at H
        obtain ⟨Ar, cr, rfl⟩ := own_form (ownsOf H 0 rfl)
        have gV := Kp.mk gV
        have C := Hp.facts H
        simp only [Facts, factsL, and_true, true_and, List.set_cons_zero, List.set_cons_succ, List.setIfInBounds_toArray] at C
        by_cases hlt : i < ks.length
        · obtain ⟨b, o, rfl, hgl, d0, d1, d2, d3, d4, q0, q1, q2, q3, q4, hkid⟩ := hk i hlt
          obtain ⟨g1, g2, g3⟩ := gk.out i hlt
          have hih := fun w1 (h : Below w.heap.size w w1) => ih ks[i] [d0, d1, d2, d3, d4] w1 (hkid.step h) g1 g2 g3
          have gtk := Kp.mk (show (ks.take (i + 1)).map wholeT = (ks.take i).map wholeT ++ [wholeT ks[i]] by rw [List.take_succ_eq_append_getElem hlt, List.map_append]; rfl)
          obtain ⟨x0, x1, x2, xA, xA2, xk, xc, xk2, xc2, rfl, rfl, rfl, rfl, rfl⟩ := hkid.forms
          generalize wholeT ks[i] = lk at hih gtk
          clear hk hkid ih gk g1 g2 g3
          (repeat' ((fail_if_success (with_reducible show bodyPost _ _ _ _ _ _)); first | ((with_reducible refine Hp.abs_alloc H ?_); intro b' w' H' hb'; (try simp only [hb']); clear hb'; ((try simp only [List.set_cons_zero, List.set_cons_succ, List.setIfInBounds_toArray] at H'); clear C H; have H := H'; clear H'; have C := Hp.facts H; simp only [Facts, factsL, and_true, true_and, List.set_cons_zero, List.set_cons_succ, List.setIfInBounds_toArray] at C)) | ((with_reducible show wpList _ _ _ _ _ (World.setCell _ _ _)); (with_reducible apply Hp.abs_gen H); (first | ((repeat (with_reducible apply Hp.set' 0)); (with_reducible exact H); (repeat rfl); intro w' H') | ((repeat (with_reducible apply Hp.set' 1)); (with_reducible exact H); (repeat rfl); intro w' H') | ((repeat (with_reducible apply Hp.set' 2)); (with_reducible exact H); (repeat rfl); intro w' H') | ((repeat (with_reducible apply Hp.set' 3)); (with_reducible exact H); (repeat rfl); intro w' H') | ((repeat (with_reducible apply Hp.set' 4)); (with_reducible exact H); (repeat rfl); intro w' H') | ((repeat (with_reducible apply Hp.set' 5)); (with_reducible exact H); (repeat rfl); intro w' H') | ((repeat (with_reducible apply Hp.set' 6)); (with_reducible exact H); (repeat rfl); intro w' H') | ((repeat (with_reducible apply Hp.set' 7)); (with_reducible exact H); (repeat rfl); intro w' H')); ((try simp only [List.set_cons_zero, List.set_cons_succ, List.setIfInBounds_toArray] at H'); clear C H; have H := H'; clear H'; have C := Hp.facts H; simp only [Facts, factsL, and_true, true_and, List.set_cons_zero, List.set_cons_succ, List.setIfInBounds_toArray] at C)) | go_values | go_skip | go_guarded | go_step | go_upon | go_back | (simp only [Int.not_lt, Int.not_le] at *; go_simp) | (go_values <;> (try go_simp)) | (go_ite <;> go_prune <;> (try go_simp)) | (split <;> (first | (rename_i hx; exact (hx _ rfl).elim) | go_prune))))
          refine (hih _ H.low).mono ?_
          rintro e' w1 ⟨⟨v', rfl, ho⟩, hb'⟩
          have H' := H.adopt hb' (.row 5 1 v' lk.length (lk.map u8c)) ho
          obtain ⟨A1, c1, rfl⟩ := own_form ho
          obtain ⟨Os1, H2, hF⟩ := H'.freezeBs 0
          have gV2 := Kp.mk (gV.out.next (Os2 := Os1) fun w3 L3 H3 hs => (hF w3 L3 H3 hs).out)
          rw [← gtk.out] at gV2
          clear ho hb' H' hF gV hih H C
          have H := H2
          clear H2
          simp only [List.cons_append, List.append_assoc] at H
          have C := Hp.facts H
          simp only [Facts, factsL, and_true, true_and, List.set_cons_zero, List.set_cons_succ, List.setIfInBounds_toArray] at C
          (repeat' ((fail_if_success (with_reducible show bodyPost _ _ _ _ _ _)); first | ((with_reducible refine Hp.abs_alloc H ?_); intro b' w' H' hb'; (try simp only [hb']); clear hb'; ((try simp only [List.set_cons_zero, List.set_cons_succ, List.setIfInBounds_toArray] at H'); clear C H; have H := H'; clear H'; have C := Hp.facts H; simp only [Facts, factsL, and_true, true_and, List.set_cons_zero, List.set_cons_succ, List.setIfInBounds_toArray] at C)) | ((with_reducible show wpList _ _ _ _ _ (World.setCell _ _ _)); (with_reducible apply Hp.abs_gen H); (first | ((repeat (with_reducible apply Hp.set' 0)); (with_reducible exact H); (repeat rfl); intro w' H') | ((repeat (with_reducible apply Hp.set' 1)); (with_reducible exact H); (repeat rfl); intro w' H') | ((repeat (with_reducible apply Hp.set' 2)); (with_reducible exact H); (repeat rfl); intro w' H') | ((repeat (with_reducible apply Hp.set' 3)); (with_reducible exact H); (repeat rfl); intro w' H') | ((repeat (with_reducible apply Hp.set' 4)); (with_reducible exact H); (repeat rfl); intro w' H') | ((repeat (with_reducible apply Hp.set' 5)); (with_reducible exact H); (repeat rfl); intro w' H') | ((repeat (with_reducible apply Hp.set' 6)); (with_reducible exact H); (repeat rfl); intro w' H') | ((repeat (with_reducible apply Hp.set' 7)); (with_reducible exact H); (repeat rfl); intro w' H')); ((try simp only [List.set_cons_zero, List.set_cons_succ, List.setIfInBounds_toArray] at H'); clear C H; have H := H'; clear H'; have C := Hp.facts H; simp only [Facts, factsL, and_true, true_and, List.set_cons_zero, List.set_cons_succ, List.setIfInBounds_toArray] at C)) | (at_builtin; (refine wpList_append_hp H 2 rfl _ _ _ rfl Try.underlying103 hi hz0 hz1 hz2 rfl (by decide) rfl rfl rfl (news := [_]) rfl (fun h => by cases h) (fun _ => ⟨_, rfl, blk_news (H.get 0 rfl)⟩) (by simp [Value.oneCell']) (by unfold maxLen; omega) (by omega) ?_); intro v' w' H'; ((try simp only [List.set_cons_zero, List.set_cons_succ, List.setIfInBounds_toArray] at H'); clear C H; have H := H'; clear H'; have C := Hp.facts H; simp only [Facts, factsL, and_true, true_and, List.set_cons_zero, List.set_cons_succ, List.setIfInBounds_toArray] at C)) | go_values | go_skip | go_guarded | go_step | go_upon | go_back | (simp only [Int.not_lt, Int.not_le] at *; go_simp) | (go_values <;> (try go_simp)) | (go_ite <;> go_prune <;> (try go_simp)) | (split <;> (first | (rename_i hx; exact (hx _ rfl).elim) | go_prune))))
          exact ⟨BtRel.mk (i + 1) _ (Os ++ Os1) (by omega) (by go_num) gV2.out H.tail.tail, by simp [intOf]; omega⟩
        · obtain rfl : i = ks.length := by omega
          have hl := gV.out.1
          rw [List.take_length, List.length_map] at hl
          have gV2 : BsL w vals (ks.map wholeT) Os := by have := gV.out; rwa [List.take_length] at this
          replace gV2 := Kp.mk gV2
          clear hk ih gk gV
          have gl2 := Kp.mk hl
          clear hl
          (repeat' ((fail_if_success (with_reducible show bodyPost _ _ _ _ _ _)); first | ((with_reducible refine Hp.abs_alloc H ?_); intro b' w' H' hb'; (try simp only [hb']); clear hb'; ((try simp only [List.set_cons_zero, List.set_cons_succ, List.setIfInBounds_toArray] at H'); clear C H; have H := H'; clear H'; have C := Hp.facts H; simp only [Facts, factsL, and_true, true_and, List.set_cons_zero, List.set_cons_succ, List.setIfInBounds_toArray] at C)) | ((with_reducible show wpList _ _ _ _ _ (World.setCell _ _ _)); (with_reducible apply Hp.abs_gen H); (first | ((repeat (with_reducible apply Hp.set' 0)); (with_reducible exact H); (repeat rfl); intro w' H') | ((repeat (with_reducible apply Hp.set' 1)); (with_reducible exact H); (repeat rfl); intro w' H') | ((repeat (with_reducible apply Hp.set' 2)); (with_reducible exact H); (repeat rfl); intro w' H') | ((repeat (with_reducible apply Hp.set' 3)); (with_reducible exact H); (repeat rfl); intro w' H') | ((repeat (with_reducible apply Hp.set' 4)); (with_reducible exact H); (repeat rfl); intro w' H') | ((repeat (with_reducible apply Hp.set' 5)); (with_reducible exact H); (repeat rfl); intro w' H') | ((repeat (with_reducible apply Hp.set' 6)); (with_reducible exact H); (repeat rfl); intro w' H') | ((repeat (with_reducible apply Hp.set' 7)); (with_reducible exact H); (repeat rfl); intro w' H')); ((try simp only [List.set_cons_zero, List.set_cons_succ, List.setIfInBounds_toArray] at H'); clear C H; have H := H'; clear H'; have C := Hp.facts H; simp only [Facts, factsL, and_true, true_and, List.set_cons_zero, List.set_cons_succ, List.setIfInBounds_toArray] at C)) | go_values | go_skip | go_guarded | go_step | go_upon | go_back | (simp only [Int.not_lt, Int.not_le] at *; go_simp) | (go_values <;> (try go_simp)) | (go_ite <;> go_prune <;> (try go_simp)) | (split <;> (first | (rename_i hx; exact (hx _ rfl).elim) | go_prune))))
          have hbss : Bss _ (.slice Ar ks.length cr) (ks.map wholeT) := gV2.out.bss H (fun x hx => by simp [hx]) 0 (by rw [gl2.out]; rfl)
          have hWr := wrap_any tc tn true (ks.map wholeT) _ _ hbss (by rw [List.length_map]; exact hkl2) (fun l hl => by obtain ⟨k, hk, rfl⟩ := List.mem_map.1 hl; have := glw.out k hk; omega)
          rw [hw2.out, ← hres.out] at hWr
          replace hWr : Calls _ _ _ _ (OwnOut _ res 0) := hWr
          clear hres hw2
          refine hWr.mono ?_
          clear hWr hbss
          rintro e' w1 ⟨⟨v', rfl, ho⟩, hb'⟩
          have H' := H.adopt hb' (.row 5 1 v' res.length (res.map u8c)) ho
          obtain ⟨A1, c1, rfl⟩ := own_form ho
          clear ho hb'
          ((try simp only [List.set_cons_zero, List.set_cons_succ, List.setIfInBounds_toArray] at H'); clear C H; have H := H'; clear H'; have C := Hp.facts H; simp only [Facts, factsL, and_true, true_and, List.set_cons_zero, List.set_cons_succ, List.setIfInBounds_toArray] at C)
          (repeat' ((fail_if_success (with_reducible show bodyPost _ _ _ _ _ _)); first | ((with_reducible refine Hp.abs_alloc H ?_); intro b' w' H' hb'; (try simp only [hb']); clear hb'; ((try simp only [List.set_cons_zero, List.set_cons_succ, List.setIfInBounds_toArray] at H'); clear C H; have H := H'; clear H'; have C := Hp.facts H; simp only [Facts, factsL, and_true, true_and, List.set_cons_zero, List.set_cons_succ, List.setIfInBounds_toArray] at C)) | ((with_reducible show wpList _ _ _ _ _ (World.setCell _ _ _)); (with_reducible apply Hp.abs_gen H); (first | ((repeat (with_reducible apply Hp.set' 0)); (with_reducible exact H); (repeat rfl); intro w' H') | ((repeat (with_reducible apply Hp.set' 1)); (with_reducible exact H); (repeat rfl); intro w' H') | ((repeat (with_reducible apply Hp.set' 2)); (with_reducible exact H); (repeat rfl); intro w' H') | ((repeat (with_reducible apply Hp.set' 3)); (with_reducible exact H); (repeat rfl); intro w' H') | ((repeat (with_reducible apply Hp.set' 4)); (with_reducible exact H); (repeat rfl); intro w' H') | ((repeat (with_reducible apply Hp.set' 5)); (with_reducible exact H); (repeat rfl); intro w' H') | ((repeat (with_reducible apply Hp.set' 6)); (with_reducible exact H); (repeat rfl); intro w' H') | ((repeat (with_reducible apply Hp.set' 7)); (with_reducible exact H); (repeat rfl); intro w' H')); ((try simp only [List.set_cons_zero, List.set_cons_succ, List.setIfInBounds_toArray] at H'); clear C H; have H := H'; clear H'; have C := Hp.facts H; simp only [Facts, factsL, and_true, true_and, List.set_cons_zero, List.set_cons_succ, List.setIfInBounds_toArray] at C)) | go_values | go_skip | go_guarded | go_step | go_upon | go_back | (simp only [Int.not_lt, Int.not_le] at *; go_simp) | (go_values <;> (try go_simp)) | (go_ite <;> go_prune <;> (try go_simp)) | (split <;> (first | (rename_i hx; exact (hx _ rfl).elim) | go_prune))))
          refine bodyPost_ret (v := .slice A1 res.length c1) (by simp [results, go_sem, C]) rfl ?_
          rw [hQ.out]
          exact ⟨⟨_, rfl, ownsOf H 0 rfl⟩, H.low⟩
/-- Print: a right tree's bytes, or an error. -/
def printR (t : Tree) : List UInt8 × Int := if irightT t then (wholeT t, 0) else ([], 1)
set_option maxHeartbeats 1600000 in
theorem print_any (n : Nat) (t : Tree) (cs : List Value) (w : World) (ht : ItP (· < w.heap.size) w n t cs) (hc : t.count ≤ 1000000) (htot : t.total ≤ 100000000) :
    Calls Try.prog 24 #[.agg cs.toArray] w (OwnOut w (printR t).1 (printR t).2) := by
  have hR := fun w1 (h : Below w.heap.size w w1) => iright_any n t cs w1 ((ht.step h).weak fun b hb hl => hl) hc htot
  have hB := fun (h2 : irightT t = true) w1 (h : Below w.heap.size w w1) => bytesOf_any n t cs w1 ((ht.step h).any) (by unfold irightT at h2; simp at h2; exact h2.1.2) (by unfold irightT at h2; simp at h2; exact h2.2) (by unfold irightT at h2; simp at h2; omega)
  obtain ⟨d0, d1, d2, d3, d4, rfl⟩ := five_of ht.len
  obtain ⟨x0, x1, x2, xA, xA2, xk, xc, xk2, xc2, rfl, rfl, rfl, rfl, rfl⟩ := ht.forms
  have H := Hp.start w
  have C : True := trivial
  unfold printR
  cases hr : irightT t with
  | false =>
    rw [hr] at hR
    clear hB hr ht
    go_enter Try.func24, Try.ntmps24
    (repeat' ((fail_if_success (with_reducible show bodyPost _ _ _ _ _ _)); first | ((with_reducible refine Hp.abs_alloc H ?_); intro b' w' H' hb'; (try simp only [hb']); clear hb'; ((try simp only [List.set_cons_zero, List.set_cons_succ, List.setIfInBounds_toArray] at H'); clear C H; have H := H'; clear H'; have C := Hp.facts H; simp only [Facts, factsL, and_true, true_and, List.set_cons_zero, List.set_cons_succ, List.setIfInBounds_toArray] at C)) | ((with_reducible show wpList _ _ _ _ _ (World.setCell _ _ _)); (with_reducible apply Hp.abs_gen H); (first | ((repeat (with_reducible apply Hp.set' 0)); (with_reducible exact H); (repeat rfl); intro w' H') | ((repeat (with_reducible apply Hp.set' 1)); (with_reducible exact H); (repeat rfl); intro w' H') | ((repeat (with_reducible apply Hp.set' 2)); (with_reducible exact H); (repeat rfl); intro w' H') | ((repeat (with_reducible apply Hp.set' 3)); (with_reducible exact H); (repeat rfl); intro w' H') | ((repeat (with_reducible apply Hp.set' 4)); (with_reducible exact H); (repeat rfl); intro w' H') | ((repeat (with_reducible apply Hp.set' 5)); (with_reducible exact H); (repeat rfl); intro w' H') | ((repeat (with_reducible apply Hp.set' 6)); (with_reducible exact H); (repeat rfl); intro w' H') | ((repeat (with_reducible apply Hp.set' 7)); (with_reducible exact H); (repeat rfl); intro w' H')); ((try simp only [List.set_cons_zero, List.set_cons_succ, List.setIfInBounds_toArray] at H'); clear C H; have H := H'; clear H'; have C := Hp.facts H; simp only [Facts, factsL, and_true, true_and, List.set_cons_zero, List.set_cons_succ, List.setIfInBounds_toArray] at C)) | go_values | go_skip | go_guarded | go_step | go_upon | go_back | (simp only [Int.not_lt, Int.not_le] at *; go_simp) | (go_values <;> (try go_simp)) | (go_ite <;> go_prune <;> (try go_simp)) | (split <;> (first | (rename_i hx; exact (hx _ rfl).elim) | go_prune))))
    refine (hR _ H.low).mono ?_
    (rintro e' w' ⟨rfl, hb'⟩; (have H' := Hp.step H hb'; clear hb'; ((try simp only [List.set_cons_zero, List.set_cons_succ, List.setIfInBounds_toArray] at H'); clear C H; have H := H'; clear H'; have C := Hp.facts H; simp only [Facts, factsL, and_true, true_and, List.set_cons_zero, List.set_cons_succ, List.setIfInBounds_toArray] at C)))
    (repeat' ((fail_if_success (with_reducible show bodyPost _ _ _ _ _ _)); first | ((with_reducible refine Hp.abs_alloc H ?_); intro b' w' H' hb'; (try simp only [hb']); clear hb'; ((try simp only [List.set_cons_zero, List.set_cons_succ, List.setIfInBounds_toArray] at H'); clear C H; have H := H'; clear H'; have C := Hp.facts H; simp only [Facts, factsL, and_true, true_and, List.set_cons_zero, List.set_cons_succ, List.setIfInBounds_toArray] at C)) | ((with_reducible show wpList _ _ _ _ _ (World.setCell _ _ _)); (with_reducible apply Hp.abs_gen H); (first | ((repeat (with_reducible apply Hp.set' 0)); (with_reducible exact H); (repeat rfl); intro w' H') | ((repeat (with_reducible apply Hp.set' 1)); (with_reducible exact H); (repeat rfl); intro w' H') | ((repeat (with_reducible apply Hp.set' 2)); (with_reducible exact H); (repeat rfl); intro w' H') | ((repeat (with_reducible apply Hp.set' 3)); (with_reducible exact H); (repeat rfl); intro w' H') | ((repeat (with_reducible apply Hp.set' 4)); (with_reducible exact H); (repeat rfl); intro w' H') | ((repeat (with_reducible apply Hp.set' 5)); (with_reducible exact H); (repeat rfl); intro w' H') | ((repeat (with_reducible apply Hp.set' 6)); (with_reducible exact H); (repeat rfl); intro w' H') | ((repeat (with_reducible apply Hp.set' 7)); (with_reducible exact H); (repeat rfl); intro w' H')); ((try simp only [List.set_cons_zero, List.set_cons_succ, List.setIfInBounds_toArray] at H'); clear C H; have H := H'; clear H'; have C := Hp.facts H; simp only [Facts, factsL, and_true, true_and, List.set_cons_zero, List.set_cons_succ, List.setIfInBounds_toArray] at C)) | go_values | go_skip | go_guarded | go_step | go_upon | go_back | (simp only [Int.not_lt, Int.not_le] at *; go_simp) | (go_values <;> (try go_simp)) | (go_ite <;> go_prune <;> (try go_simp)) | (split <;> (first | (rename_i hx; exact (hx _ rfl).elim) | go_prune))))
    refine bodyPost_ret (v := .tuple #[.slice none 0 0, .int .i64 1]) (by simp [results, go_sem, C]) rfl ?_
    exact OwnOut.none rfl H.low
  | true =>
    have hB := hB hr
    rw [hr] at hR
    clear hr ht
    generalize wholeT t = res at *
    go_enter Try.func24, Try.ntmps24
    (repeat' ((fail_if_success (with_reducible show bodyPost _ _ _ _ _ _)); first | ((with_reducible refine Hp.abs_alloc H ?_); intro b' w' H' hb'; (try simp only [hb']); clear hb'; ((try simp only [List.set_cons_zero, List.set_cons_succ, List.setIfInBounds_toArray] at H'); clear C H; have H := H'; clear H'; have C := Hp.facts H; simp only [Facts, factsL, and_true, true_and, List.set_cons_zero, List.set_cons_succ, List.setIfInBounds_toArray] at C)) | ((with_reducible show wpList _ _ _ _ _ (World.setCell _ _ _)); (with_reducible apply Hp.abs_gen H); (first | ((repeat (with_reducible apply Hp.set' 0)); (with_reducible exact H); (repeat rfl); intro w' H') | ((repeat (with_reducible apply Hp.set' 1)); (with_reducible exact H); (repeat rfl); intro w' H') | ((repeat (with_reducible apply Hp.set' 2)); (with_reducible exact H); (repeat rfl); intro w' H') | ((repeat (with_reducible apply Hp.set' 3)); (with_reducible exact H); (repeat rfl); intro w' H') | ((repeat (with_reducible apply Hp.set' 4)); (with_reducible exact H); (repeat rfl); intro w' H') | ((repeat (with_reducible apply Hp.set' 5)); (with_reducible exact H); (repeat rfl); intro w' H') | ((repeat (with_reducible apply Hp.set' 6)); (with_reducible exact H); (repeat rfl); intro w' H') | ((repeat (with_reducible apply Hp.set' 7)); (with_reducible exact H); (repeat rfl); intro w' H')); ((try simp only [List.set_cons_zero, List.set_cons_succ, List.setIfInBounds_toArray] at H'); clear C H; have H := H'; clear H'; have C := Hp.facts H; simp only [Facts, factsL, and_true, true_and, List.set_cons_zero, List.set_cons_succ, List.setIfInBounds_toArray] at C)) | go_values | go_skip | go_guarded | go_step | go_upon | go_back | (simp only [Int.not_lt, Int.not_le] at *; go_simp) | (go_values <;> (try go_simp)) | (go_ite <;> go_prune <;> (try go_simp)) | (split <;> (first | (rename_i hx; exact (hx _ rfl).elim) | go_prune))))
    refine (hR _ H.low).mono ?_
    (rintro e' w' ⟨rfl, hb'⟩; (have H' := Hp.step H hb'; clear hb'; ((try simp only [List.set_cons_zero, List.set_cons_succ, List.setIfInBounds_toArray] at H'); clear C H; have H := H'; clear H'; have C := Hp.facts H; simp only [Facts, factsL, and_true, true_and, List.set_cons_zero, List.set_cons_succ, List.setIfInBounds_toArray] at C)))
    (repeat' ((fail_if_success (with_reducible show bodyPost _ _ _ _ _ _)); first | ((with_reducible refine Hp.abs_alloc H ?_); intro b' w' H' hb'; (try simp only [hb']); clear hb'; ((try simp only [List.set_cons_zero, List.set_cons_succ, List.setIfInBounds_toArray] at H'); clear C H; have H := H'; clear H'; have C := Hp.facts H; simp only [Facts, factsL, and_true, true_and, List.set_cons_zero, List.set_cons_succ, List.setIfInBounds_toArray] at C)) | ((with_reducible show wpList _ _ _ _ _ (World.setCell _ _ _)); (with_reducible apply Hp.abs_gen H); (first | ((repeat (with_reducible apply Hp.set' 0)); (with_reducible exact H); (repeat rfl); intro w' H') | ((repeat (with_reducible apply Hp.set' 1)); (with_reducible exact H); (repeat rfl); intro w' H') | ((repeat (with_reducible apply Hp.set' 2)); (with_reducible exact H); (repeat rfl); intro w' H') | ((repeat (with_reducible apply Hp.set' 3)); (with_reducible exact H); (repeat rfl); intro w' H') | ((repeat (with_reducible apply Hp.set' 4)); (with_reducible exact H); (repeat rfl); intro w' H') | ((repeat (with_reducible apply Hp.set' 5)); (with_reducible exact H); (repeat rfl); intro w' H') | ((repeat (with_reducible apply Hp.set' 6)); (with_reducible exact H); (repeat rfl); intro w' H') | ((repeat (with_reducible apply Hp.set' 7)); (with_reducible exact H); (repeat rfl); intro w' H')); ((try simp only [List.set_cons_zero, List.set_cons_succ, List.setIfInBounds_toArray] at H'); clear C H; have H := H'; clear H'; have C := Hp.facts H; simp only [Facts, factsL, and_true, true_and, List.set_cons_zero, List.set_cons_succ, List.setIfInBounds_toArray] at C)) | go_values | go_skip | go_guarded | go_step | go_upon | go_back | (simp only [Int.not_lt, Int.not_le] at *; go_simp) | (go_values <;> (try go_simp)) | (go_ite <;> go_prune <;> (try go_simp)) | (split <;> (first | (rename_i hx; exact (hx _ rfl).elim) | go_prune))))
    refine (hB _ H.low).mono ?_
    rintro e' w1 ⟨⟨v', rfl, ho⟩, hb'⟩
    have H' := H.adopt hb' (.row 5 1 v' res.length (res.map u8c)) ho
    obtain ⟨A1, c1, rfl⟩ := own_form ho
    clear ho hb'
    ((try simp only [List.set_cons_zero, List.set_cons_succ, List.setIfInBounds_toArray] at H'); clear C H; have H := H'; clear H'; have C := Hp.facts H; simp only [Facts, factsL, and_true, true_and, List.set_cons_zero, List.set_cons_succ, List.setIfInBounds_toArray] at C)
    (repeat' ((fail_if_success (with_reducible show bodyPost _ _ _ _ _ _)); first | ((with_reducible refine Hp.abs_alloc H ?_); intro b' w' H' hb'; (try simp only [hb']); clear hb'; ((try simp only [List.set_cons_zero, List.set_cons_succ, List.setIfInBounds_toArray] at H'); clear C H; have H := H'; clear H'; have C := Hp.facts H; simp only [Facts, factsL, and_true, true_and, List.set_cons_zero, List.set_cons_succ, List.setIfInBounds_toArray] at C)) | ((with_reducible show wpList _ _ _ _ _ (World.setCell _ _ _)); (with_reducible apply Hp.abs_gen H); (first | ((repeat (with_reducible apply Hp.set' 0)); (with_reducible exact H); (repeat rfl); intro w' H') | ((repeat (with_reducible apply Hp.set' 1)); (with_reducible exact H); (repeat rfl); intro w' H') | ((repeat (with_reducible apply Hp.set' 2)); (with_reducible exact H); (repeat rfl); intro w' H') | ((repeat (with_reducible apply Hp.set' 3)); (with_reducible exact H); (repeat rfl); intro w' H') | ((repeat (with_reducible apply Hp.set' 4)); (with_reducible exact H); (repeat rfl); intro w' H') | ((repeat (with_reducible apply Hp.set' 5)); (with_reducible exact H); (repeat rfl); intro w' H') | ((repeat (with_reducible apply Hp.set' 6)); (with_reducible exact H); (repeat rfl); intro w' H') | ((repeat (with_reducible apply Hp.set' 7)); (with_reducible exact H); (repeat rfl); intro w' H')); ((try simp only [List.set_cons_zero, List.set_cons_succ, List.setIfInBounds_toArray] at H'); clear C H; have H := H'; clear H'; have C := Hp.facts H; simp only [Facts, factsL, and_true, true_and, List.set_cons_zero, List.set_cons_succ, List.setIfInBounds_toArray] at C)) | go_values | go_skip | go_guarded | go_step | go_upon | go_back | (simp only [Int.not_lt, Int.not_le] at *; go_simp) | (go_values <;> (try go_simp)) | (go_ite <;> go_prune <;> (try go_simp)) | (split <;> (first | (rename_i hx; exact (hx _ rfl).elim) | go_prune))))
    refine bodyPost_ret (v := .tuple #[.slice A1 res.length c1, .int .i64 0]) (by simp [results, go_sem, C]) rfl ?_
    exact ⟨⟨_, rfl, ownsOf H 0 rfl⟩, H.low⟩
end Go.Proofs.Ytogliinfdfkobaa

