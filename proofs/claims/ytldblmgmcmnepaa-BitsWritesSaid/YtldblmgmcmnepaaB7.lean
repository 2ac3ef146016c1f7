/- Lemmas and walks on the way to the seat's laws; each theorem says its own conditions. -/
import Derived.Test.YtldblmgmcmnepaaB6
import Derived.Test.YtldblmgmcmnepaaB3
import Derived.Test.YtldblmgmcmnepaaRegV
set_option linter.unusedSimpArgs false
set_option linter.unusedVariables false
set_option linter.unusedSimpArgs false
set_option linter.unusedVariables false
set_option maxRecDepth 100000
namespace Go.Proofs.Ytldblmgmcmnepaa
open Go.RowKit Go.Mem Go.Reg Oct Bit
/-- The string of flags, or an error. -/
def unusedF (l : List Int) : Int := (8 - (lastF l + 1) % 8) % 8
def ofR (l : List Int) : Int × List UInt8 × Bool := if okF l then (unusedF l, packL l, true) else (0, [], false)
def erF (l : List Int) : Int := if okF l then 0 else 1
theorem erF_no {l : List Int} (h : okF l = false) : erF l = 1 := by unfold erF; rw [h]; rfl
theorem erF_ok {l : List Int} (h : okF l = true) : erF l = 0 := by unfold erF; rw [h]; rfl
theorem ofR_no {l : List Int} (h : okF l = false) : ofR l = (0, [], false) := by unfold ofR; rw [h]; rfl
def setL (l : List Int) (m k : Nat) : List UInt8 := (l.take k).foldl (fun B x => orAt B x.toNat) (List.replicate m 0)
theorem setL_zero (l : List Int) (m : Nat) : setL l m 0 = List.replicate m 0 := rfl
theorem setL_length (l : List Int) (m k : Nat) : (setL l m k).length = m := by
  unfold setL
  rw [fold_length, List.length_replicate]
theorem setL_succ {l : List Int} {k : Nat} (h : k < l.length) (m : Nat) : setL l m (k + 1) = orAt (setL l m k) (l[k]).toNat := by
  unfold setL
  rw [List.take_add_one, List.getElem?_eq_getElem h, Option.toList_some, List.foldl_append, List.foldl_cons, List.foldl_nil]
theorem or_val' : ∀ j, j < 8 → ∀ x, x < 256 → bits BinOp.or IntKind.u8 ((x : Nat) : Int) ((128 / 2 ^ j : Nat) : Int) = ((x ||| (128 / 2 ^ j) : Nat) : Int) := by decide +kernel
theorem pow_cast (j : Nat) : (128 : Int) / 2 ^ j = ((128 / 2 ^ j : Nat) : Int) := by
  rw [Int.natCast_ediv, Int.natCast_pow]
  rfl
theorem okF_step {l : List Int} {k : Nat} (h : k < l.length) (hk : okF (l.take k) = true) (h1 : lastF (l.take k) < l[k]) (h2 : l[k] < 32) : okF (l.take (k + 1)) = true ∧ lastF (l.take (k + 1)) = l[k] := by
  rw [List.take_add_one, List.getElem?_eq_getElem h]
  exact ⟨by rw [Option.toList_some, okF_snoc, hk, decide_eq_true ⟨h1, h2⟩]; rfl, by rw [Option.toList_some, lastF_snoc]⟩
theorem okF_stop {l : List Int} {k : Nat} (h : k < l.length) (h1 : ¬ (lastF (l.take k) < l[k] ∧ l[k] < 32)) : okF l = false := by
  cases hf : okF l with
  | false => rfl
  | true =>
    have := okF_take hf (k + 1)
    rw [List.take_add_one, List.getElem?_eq_getElem h, Option.toList_some, okF_snoc, decide_eq_false h1, Bool.and_false] at this
    cases this
set_option maxHeartbeats 1600000 in
theorem bof_any (l : List Int) (v : Value) (w : World) (hb : Zs w v l) (hl : l.length ≤ 1000000) :
    Calls Try.prog 15 #[v] w (StrB w (ofR l).1 (ofR l).2.1 (.int .i64 (erF l))) := by
  obtain ⟨i0, hi, hz0, hz1, hz2⟩ := info_parts info_u8
  obtain ⟨A, c, rfl, hlc, hcm, hA, hcell⟩ := hb.open
  have H := Hp.start w
  have C : True := trivial
  go_enter Try.func15, Try.ntmps15
  (repeat' ((fail_if_success (with_reducible show bodyPost _ _ _ _ _ _)); first | ((with_reducible refine Hp.abs_alloc H ?_); intro b' w' H' hb'; (try simp only [hb']); clear hb'; ((try simp only [z0, z1, z2] at H'); clear C H; have H := H'; clear H'; have C := Hp.facts H; simp only [Facts, factsL, and_true, true_and, z0, z1, z2] at C)) | ((with_reducible show wpList _ _ _ _ _ (World.setCell _ _ _)); (with_reducible apply Hp.abs_gen H); (first | ((repeat (with_reducible apply Hp.set' 0)); (with_reducible exact H); (repeat rfl); intro w' H') | ((repeat (with_reducible apply Hp.set' 1)); (with_reducible exact H); (repeat rfl); intro w' H') | ((repeat (with_reducible apply Hp.set' 2)); (with_reducible exact H); (repeat rfl); intro w' H') | ((repeat (with_reducible apply Hp.set' 3)); (with_reducible exact H); (repeat rfl); intro w' H') | ((repeat (with_reducible apply Hp.set' 4)); (with_reducible exact H); (repeat rfl); intro w' H') | ((repeat (with_reducible apply Hp.set' 5)); (with_reducible exact H); (repeat rfl); intro w' H') | ((repeat (with_reducible apply Hp.set' 6)); (with_reducible exact H); (repeat rfl); intro w' H') | ((repeat (with_reducible apply Hp.set' 7)); (with_reducible exact H); (repeat rfl); intro w' H')); ((try simp only [z0, z1, z2] at H'); clear C H; have H := H'; clear H'; have C := Hp.facts H; simp only [Facts, factsL, and_true, true_and, z0, z1, z2] at C)) | go_values | go_skip | go_guarded | go_step | go_upon | go_back | (simp only [Int.not_lt, Int.not_le] at *; go_simp) | (go_values <;> (try go_simp)) | (go_ite <;> go_prune <;> (try go_simp)) | (split <;> (first | (rename_i hx; exact (hx _ rfl).elim) | go_prune))))
  go_loopw [4, 13] (fun last ix wr => ∃ k : Nat, k ≤ l.length ∧ ix = .int .i64 k ∧ last = .int .i64 (lastF (l.take k)) ∧ Hid (okF (l.take k) = true) ∧ Hp w [.blk b' #[.int .i64 0, .slice none 0 0] 26] wr) (fun _ ix _ => l.length - (intOf ix).toNat)
  case atStart => exact ⟨0, Nat.zero_le _, rfl, rfl, Lib.hid rfl, H⟩
  case round =>
    clear H C
    obtain ⟨k, hk, rfl, rfl, hok, H⟩ := hrel
    have C := Hp.facts H
    simp only [Facts, factsL, and_true, true_and, z0, z1, z2] at C
    by_cases hlt : k < l.length
    · obtain ⟨b, o, rfl, hgl, hc⟩ := hcell k hlt
      replace hc := hc k hlt
      clear hcell hA
      have hs1 := Lib.hid (okF_step hlt hok.out)
      have hs2 := Lib.hid (okF_stop hlt)
      have hl1 := (okF_last hok.out).1
      have hl2 := (okF_last hok.out).2.1
      generalize l[k] = x at *
      generalize lastF (l.take k) = y at *
      by_cases h1 : y < x
      · by_cases h2 : x < 32
        · (repeat' ((fail_if_success (with_reducible show bodyPost _ _ _ _ _ _)); first | ((with_reducible refine Hp.abs_alloc H ?_); intro b' w' H' hb'; (try simp only [hb']); clear hb'; ((try simp only [z0, z1, z2] at H'); clear C H; have H := H'; clear H'; have C := Hp.facts H; simp only [Facts, factsL, and_true, true_and, z0, z1, z2] at C)) | ((with_reducible show wpList _ _ _ _ _ (World.setCell _ _ _)); (with_reducible apply Hp.abs_gen H); (first | ((repeat (with_reducible apply Hp.set' 0)); (with_reducible exact H); (repeat rfl); intro w' H') | ((repeat (with_reducible apply Hp.set' 1)); (with_reducible exact H); (repeat rfl); intro w' H') | ((repeat (with_reducible apply Hp.set' 2)); (with_reducible exact H); (repeat rfl); intro w' H') | ((repeat (with_reducible apply Hp.set' 3)); (with_reducible exact H); (repeat rfl); intro w' H') | ((repeat (with_reducible apply Hp.set' 4)); (with_reducible exact H); (repeat rfl); intro w' H') | ((repeat (with_reducible apply Hp.set' 5)); (with_reducible exact H); (repeat rfl); intro w' H') | ((repeat (with_reducible apply Hp.set' 6)); (with_reducible exact H); (repeat rfl); intro w' H') | ((repeat (with_reducible apply Hp.set' 7)); (with_reducible exact H); (repeat rfl); intro w' H')); ((try simp only [z0, z1, z2] at H'); clear C H; have H := H'; clear H'; have C := Hp.facts H; simp only [Facts, factsL, and_true, true_and, z0, z1, z2] at C)) | go_values | go_skip | go_guarded | go_step | go_upon | go_back | (simp only [Int.not_lt, Int.not_le] at *; go_simp) | (go_values <;> (try go_simp)) | (go_ite <;> go_prune <;> (try go_simp)) | (split <;> (first | (rename_i hx; exact (hx _ rfl).elim) | go_prune))))
          have h := hs1.out h1 h2
          exact ⟨⟨k + 1, by omega, by go_num, by rw [h.2], Lib.hid h.1, H⟩, by simp [intOf]; omega⟩
        · have hf := hs2.out (by omega)
          (repeat' ((fail_if_success (with_reducible show bodyPost _ _ _ _ _ _)); first | ((with_reducible refine Hp.abs_alloc H ?_); intro b' w' H' hb'; (try simp only [hb']); clear hb'; ((try simp only [z0, z1, z2] at H'); clear C H; have H := H'; clear H'; have C := Hp.facts H; simp only [Facts, factsL, and_true, true_and, z0, z1, z2] at C)) | ((with_reducible show wpList _ _ _ _ _ (World.setCell _ _ _)); (with_reducible apply Hp.abs_gen H); (first | ((repeat (with_reducible apply Hp.set' 0)); (with_reducible exact H); (repeat rfl); intro w' H') | ((repeat (with_reducible apply Hp.set' 1)); (with_reducible exact H); (repeat rfl); intro w' H') | ((repeat (with_reducible apply Hp.set' 2)); (with_reducible exact H); (repeat rfl); intro w' H') | ((repeat (with_reducible apply Hp.set' 3)); (with_reducible exact H); (repeat rfl); intro w' H') | ((repeat (with_reducible apply Hp.set' 4)); (with_reducible exact H); (repeat rfl); intro w' H') | ((repeat (with_reducible apply Hp.set' 5)); (with_reducible exact H); (repeat rfl); intro w' H') | ((repeat (with_reducible apply Hp.set' 6)); (with_reducible exact H); (repeat rfl); intro w' H') | ((repeat (with_reducible apply Hp.set' 7)); (with_reducible exact H); (repeat rfl); intro w' H')); ((try simp only [z0, z1, z2] at H'); clear C H; have H := H'; clear H'; have C := Hp.facts H; simp only [Facts, factsL, and_true, true_and, z0, z1, z2] at C)) | go_values | go_skip | go_guarded | go_step | go_upon | go_back | (simp only [Int.not_lt, Int.not_le] at *; go_simp) | (go_values <;> (try go_simp)) | (go_ite <;> go_prune <;> (try go_simp)) | (split <;> (first | (rename_i hx; exact (hx _ rfl).elim) | go_prune))))
          refine bodyPost_ret (v := .tuple #[.agg #[.int .i64 0, .slice none 0 0], .int .i64 1]) (by simp [results, go_sem, C]) rfl ?_
          rw [ofR_no hf, erF_no hf]
          exact StrB.none rfl H.low
      · have hf := hs2.out (by omega)
        (repeat' ((fail_if_success (with_reducible show bodyPost _ _ _ _ _ _)); first | ((with_reducible refine Hp.abs_alloc H ?_); intro b' w' H' hb'; (try simp only [hb']); clear hb'; ((try simp only [z0, z1, z2] at H'); clear C H; have H := H'; clear H'; have C := Hp.facts H; simp only [Facts, factsL, and_true, true_and, z0, z1, z2] at C)) | ((with_reducible show wpList _ _ _ _ _ (World.setCell _ _ _)); (with_reducible apply Hp.abs_gen H); (first | ((repeat (with_reducible apply Hp.set' 0)); (with_reducible exact H); (repeat rfl); intro w' H') | ((repeat (with_reducible apply Hp.set' 1)); (with_reducible exact H); (repeat rfl); intro w' H') | ((repeat (with_reducible apply Hp.set' 2)); (with_reducible exact H); (repeat rfl); intro w' H') | ((repeat (with_reducible apply Hp.set' 3)); (with_reducible exact H); (repeat rfl); intro w' H') | ((repeat (with_reducible apply Hp.set' 4)); (with_reducible exact H); (repeat rfl); intro w' H') | ((repeat (with_reducible apply Hp.set' 5)); (with_reducible exact H); (repeat rfl); intro w' H') | ((repeat (with_reducible apply Hp.set' 6)); (with_reducible exact H); (repeat rfl); intro w' H') | ((repeat (with_reducible apply Hp.set' 7)); (with_reducible exact H); (repeat rfl); intro w' H')); ((try simp only [z0, z1, z2] at H'); clear C H; have H := H'; clear H'; have C := Hp.facts H; simp only [Facts, factsL, and_true, true_and, z0, z1, z2] at C)) | go_values | go_skip | go_guarded | go_step | go_upon | go_back | (simp only [Int.not_lt, Int.not_le] at *; go_simp) | (go_values <;> (try go_simp)) | (go_ite <;> go_prune <;> (try go_simp)) | (split <;> (first | (rename_i hx; exact (hx _ rfl).elim) | go_prune))))
        refine bodyPost_ret (v := .tuple #[.agg #[.int .i64 0, .slice none 0 0], .int .i64 1]) (by simp [results, go_sem, C]) rfl ?_
        rw [ofR_no hf, erF_no hf]
        exact StrB.none rfl H.low
    · obtain rfl : k = l.length := by omega
      rw [List.take_length] at hok ⊢
      have hl1 := (okF_last hok.out).1
      have hl2 := (okF_last hok.out).2.1
      have hx := Lib.hid (fun k (h : k < l.length) => okF_mem hok.out l[k] (List.getElem_mem h))
      have hx2 := Lib.hid (fun k (h : k < l.length) => (okF_last hok.out).2.2 l[k] (List.getElem_mem h))
      have hR : ofR l = (unusedF l, packL l, true) := by unfold ofR; rw [hok.out]; rfl
      have hp : packL l = setL l (((lastF l + 1).toNat + 7) / 8) l.length := by unfold packL setL; rw [List.take_length]
      have hu : unusedF l = (8 - (lastF l + 1) % 8) % 8 := rfl
      obtain ⟨n, hn⟩ := Int.eq_ofNat_of_zero_le (show 0 ≤ lastF l + 1 by omega)
      rw [hn] at hu hp
      have hy : lastF l = (n : Int) - 1 := by omega
      rw [Int.toNat_natCast] at hp
      obtain ⟨m, hm⟩ : ∃ m, (n + 7) / 8 = m := ⟨_, rfl⟩
      rw [hm] at hp
      generalize lastF l = y at *
      generalize unusedF l = U at *
      generalize packL l = P at *
      subst hy
      have hm4 : m ≤ 4 := by omega
      have gp := Lib.hid hp
      have gR := Lib.hid hR
      have ge := Lib.hid (erF_ok hok.out)
      have gm := Lib.hid hm
      clear hp hn hR hm
      (repeat' ((fail_if_success (with_reducible show bodyPost _ _ _ _ _ _)); first | ((with_reducible refine Hp.abs_alloc H ?_); intro b' w' H' hb'; (try simp only [hb']); clear hb'; ((try simp only [z0, z1, z2] at H'); clear C H; have H := H'; clear H'; have C := Hp.facts H; simp only [Facts, factsL, and_true, true_and, z0, z1, z2] at C)) | ((with_reducible show wpList _ _ _ _ _ (World.setCell _ _ _)); (with_reducible apply Hp.abs_gen H); (first | ((repeat (with_reducible apply Hp.set' 0)); (with_reducible exact H); (repeat rfl); intro w' H') | ((repeat (with_reducible apply Hp.set' 1)); (with_reducible exact H); (repeat rfl); intro w' H') | ((repeat (with_reducible apply Hp.set' 2)); (with_reducible exact H); (repeat rfl); intro w' H') | ((repeat (with_reducible apply Hp.set' 3)); (with_reducible exact H); (repeat rfl); intro w' H') | ((repeat (with_reducible apply Hp.set' 4)); (with_reducible exact H); (repeat rfl); intro w' H') | ((repeat (with_reducible apply Hp.set' 5)); (with_reducible exact H); (repeat rfl); intro w' H') | ((repeat (with_reducible apply Hp.set' 6)); (with_reducible exact H); (repeat rfl); intro w' H') | ((repeat (with_reducible apply Hp.set' 7)); (with_reducible exact H); (repeat rfl); intro w' H')); ((try simp only [z0, z1, z2] at H'); clear C H; have H := H'; clear H'; have C := Hp.facts H; simp only [Facts, factsL, and_true, true_and, z0, z1, z2] at C)) | (at_make; refine wpList_full_hp H rfl _ _ _ rfl Try.underlying23 hi hz0 hz1 m rfl rfl (by have := gm.out; omega) (by have := gm.out; omega) (by rw [hz2]; omega) (by unfold maxLen; omega) ?_; intro g' w' H'; rw [made_u8] at H'; ((try simp only [z0, z1, z2] at H'); clear C H; have H := H'; clear H'; have C := Hp.facts H; simp only [Facts, factsL, and_true, true_and, z0, z1, z2] at C)) | go_values | go_skip | go_guarded | go_step | go_upon | go_back | (simp only [Int.not_lt, Int.not_le] at *; go_simp) | (go_values <;> (try go_simp)) | (go_ite <;> go_prune <;> (try go_simp)) | (split <;> (first | (rename_i hx; exact (hx _ rfl).elim) | go_prune))))
      rw [show (-((n : Int) % 8) % 8) = U by omega] at H
      (obtain ⟨q, rfl⟩ := Hp.name H 2 rfl; obtain ⟨s, rfl⟩ := Hp.name H 0 rfl)
      clear C hok hu hl1 hl2 hz0 hz1 hz2 hi
      rw [← setL_zero l m] at H
      go_loopw [40] (fun ix wr => ∃ k : Nat, k ≤ l.length ∧ ix = .int .i64 k ∧ Hp w [.blk s #[.int .i64 U, .slice (some ⟨g', 0, none⟩) m m] 26, .row 5 1 (.slice (some ⟨g', 0, none⟩) m m) m ((setL l m k).map u8c), .blk q #[.int .i64 0, .slice none 0 0] 26] wr) (fun ix _ => l.length - (intOf ix).toNat)
      case atStart => exact ⟨0, Nat.zero_le _, rfl, H⟩
      case round =>
        clear H
        obtain ⟨k, hk, rfl, H⟩ := hrel
        have C := Hp.facts H
        simp only [Facts, factsL, and_true, true_and, z0, z1, z2] at C
        by_cases hlt : k < l.length
        · obtain ⟨b, o, rfl, hgl, hc⟩ := hcell k hlt
          replace hc := hc k hlt
          clear hcell hA
          have h1 := hx.out k hlt
          have h2 := hx2.out k hlt
          obtain ⟨j, hj⟩ := Int.eq_ofNat_of_zero_le h1.1
          have hS := setL_succ hlt m
          have hSl := setL_length l m k
          rw [hj] at hc h1 h2 hS
          rw [Int.toNat_natCast] at hS
          have hjm : j / 8 < m := by have := gm.out; omega
          generalize hBe : setL l m (k + 1) = B2 at *
          have gB := Lib.hid hBe
          clear hBe
          generalize setL l m k = B at *
          have hv : (B.map u8c)[j / 8]? = some (.int .u8 (B[j / 8]'(by omega)).toNat) := by rw [List.getElem?_map, List.getElem?_eq_getElem (by omega)]; rfl
          have hB2 : (B.map u8c).set (j / 8) (.int .u8 ((((B[j / 8]'(by omega)).toNat ||| (128 / 2 ^ (j % 8)) : Nat)) : Int)) = B2.map u8c := by
            rw [hS]
            unfold orAt
            rw [List.getElem?_eq_getElem (by omega), Option.getD_some, List.map_set]
            congr 1
            unfold u8c
            rw [UInt8.toNat_ofNat', Nat.mod_eq_of_lt (or_lt (Nat.mod_lt _ (by decide)) (B[j / 8]'(by omega)).toNat_lt)]
          have hor := or_val' (j % 8) (Nat.mod_lt _ (by decide)) (B[j / 8]'(by omega)).toNat (B[j / 8]'(by omega)).toNat_lt
          have hpc := pow_cast (j % 8)
          generalize (128 / 2 ^ (j % 8) : Nat) = D at *
          generalize (B[j / 8]'(by omega)).toNat = y at *
          have gS := Lib.hid hB2
          have gpc := Lib.hid hpc
          have gor := Lib.hid hor
          clear hS hB2 hj hx hx2 hpc hor
          have hfr := (Hp.rowCell H 1 rfl).2.2.1
          (repeat' ((fail_if_success (with_reducible show bodyPost _ _ _ _ _ _)); first | ((with_reducible refine Hp.abs_alloc H ?_); intro b' w' H' hb'; (try simp only [hb']); clear hb'; ((try simp only [z0, z1, z2] at H'); clear C H; have H := H'; clear H'; have C := Hp.facts H; simp only [Facts, factsL, and_true, true_and, z0, z1, z2] at C)) | ((with_reducible show wpList _ _ _ _ _ (World.setCell _ _ _)); (with_reducible apply Hp.abs_gen H); (first | ((repeat (with_reducible apply Hp.set' 0)); (with_reducible exact H); (repeat rfl); intro w' H') | ((repeat (with_reducible apply Hp.set' 1)); (with_reducible exact H); (repeat rfl); intro w' H') | ((repeat (with_reducible apply Hp.set' 2)); (with_reducible exact H); (repeat rfl); intro w' H') | ((repeat (with_reducible apply Hp.set' 3)); (with_reducible exact H); (repeat rfl); intro w' H') | ((repeat (with_reducible apply Hp.set' 4)); (with_reducible exact H); (repeat rfl); intro w' H') | ((repeat (with_reducible apply Hp.set' 5)); (with_reducible exact H); (repeat rfl); intro w' H') | ((repeat (with_reducible apply Hp.set' 6)); (with_reducible exact H); (repeat rfl); intro w' H') | ((repeat (with_reducible apply Hp.set' 7)); (with_reducible exact H); (repeat rfl); intro w' H')); ((try simp only [z0, z1, z2] at H'); clear C H; have H := H'; clear H'; have C := Hp.facts H; simp only [Facts, factsL, and_true, true_and, z0, z1, z2] at C)) | go_values | go_skip | go_guarded | go_step | go_upon | go_back | (simp only [Int.not_lt, Int.not_le] at *; go_simp) | (go_values <;> (try go_simp)) | (go_ite <;> go_prune <;> (try go_simp)) | (split <;> (first | (rename_i hx; exact (hx _ rfl).elim) | go_prune))))
          try simp (disch := omega) only [decide_eq_true, decide_eq_false]
          obtain ⟨wR14, rfl⟩ := Hp.nameW H
          apply region_n (frm wR14.heap.size (fun _ => Hp _ _)) (frm_ok ?hfs_1) frm_sz [] [.light 0 0, .light 0 0, .light 0 0, .light 0 0, .light 0 0, .light 0 0, .light 0 0, .light 0 0, .light 0 0, .light 0 0, .light 0 0] [false, false, false, false, false, false, false, false, false, false, false] 11 57 [11, 11, 11, 11, 11, 11, 11, 11, 11, 11, 11] [some 44, some 45, some 46, some 47, some 48, some 49, some 50, some 51, some 52, some 53, some 54] [[], [0], [], [2], [1, 3], [4], [], [6], [7], [5, 8], [1, 3]] [Eq1 _, Eq1 _, Eq1 _, Eq1 _, Eq1 _, Eq1 _, Eq1 _, Eq1 _, Eq1 (.int .u8 (D : Int)), Eq1 (.int .u8 ((y ||| D : Nat) : Int)), Eq1 _] ?hq1_1 ?hq2_1 ?hq3_1 ?hq4_1 ?hq5_1 ?hq6_1 _ ?hA_1 ?hst_1 ?h0_1 ?hsteps_1 ?hend_1
          case hq1_1 => kernel_rfl
          case hq2_1 => kernel_rfl
          case hq3_1 => kernel_rfl
          case hq5_1 => kernel_rfl
          case hq4_1 => rfl
          case hq6_1 => rfl
          case hA_1 => intro vs; simp only [fillD, Nat.reduceAdd, Act.put, List.setIfInBounds_toArray, List.set_cons_zero, List.set_cons_succ]; rfl
          case h0_1 => exact H.drew
          case hfs_1 => exact fun _ _ _ hb h => Hp.step h hb
          case hsteps_1 =>
            refine ⟨?_, ?_, ?_, ?_, ?_, ?_, ?_, ?_, ?_, ?_, ?_, trivial⟩
            · intro p vs w' K hJ hp1 hp2 hS hR hK
              rw [if_pos (by rfl)]
              go_step
              exact hK.out _ _ (Below.refl _ _) Eq1.mk Fresh.no
            · intro p vs w' K hJ hp1 hp2 hS hR hK
              simp only [DepJ, List.getD_cons_zero, List.getD_cons_succ] at hJ
              obtain ⟨j0, -⟩ := hJ
              have j0 := Eq1.out j0
              simp only [j0] at hK ⊢
              rw [if_pos (by rfl)]
              have C := Hp.facts hS
              simp only [Facts, factsL, and_true, true_and, z0, z1, z2] at C
              have hsz := hR.1
              go_step
              exact hK.out _ _ (Below.refl _ _) Eq1.mk Fresh.no
            · intro p vs w' K hJ hp1 hp2 hS hR hK
              rw [if_pos (by rfl)]
              go_step
              exact hK.out _ _ (Below.refl _ _) Eq1.mk Fresh.no
            · intro p vs w' K hJ hp1 hp2 hS hR hK
              simp only [DepJ, List.getD_cons_zero, List.getD_cons_succ] at hJ
              obtain ⟨j2, -⟩ := hJ
              have j2 := Eq1.out j2
              simp only [j2] at hK ⊢
              rw [if_pos (by rfl)]
              go_step
              exact hK.out _ _ (Below.refl _ _) Eq1.mk Fresh.no
            · intro p vs w' K hJ hp1 hp2 hS hR hK
              simp only [DepJ, List.getD_cons_zero, List.getD_cons_succ] at hJ
              obtain ⟨j1, j3, -⟩ := hJ
              have j1 := Eq1.out j1
              have j3 := Eq1.out j3
              simp only [j1, j3] at hK ⊢
              rw [if_pos (by rfl)]
              go_step
              exact hK.out _ _ (Below.refl _ _) Eq1.mk Fresh.no
            · intro p vs w' K hJ hp1 hp2 hS hR hK
              simp only [DepJ, List.getD_cons_zero, List.getD_cons_succ] at hJ
              obtain ⟨j4, -⟩ := hJ
              have j4 := Eq1.out j4
              simp only [j4] at hK ⊢
              rw [if_pos (by rfl)]
              have C := Hp.facts hS
              simp only [Facts, factsL, and_true, true_and, z0, z1, z2] at C
              have hsz := hR.1
              have hq := (Hp.rowCell hS 1 rfl).2.2.2 (j / 8) _ hv
              go_step
              exact hK.out _ _ (Below.refl _ _) Eq1.mk Fresh.no
            · intro p vs w' K hJ hp1 hp2 hS hR hK
              rw [if_pos (by rfl)]
              go_step
              exact hK.out _ _ (Below.refl _ _) Eq1.mk Fresh.no
            · intro p vs w' K hJ hp1 hp2 hS hR hK
              simp only [DepJ, List.getD_cons_zero, List.getD_cons_succ] at hJ
              obtain ⟨j6, -⟩ := hJ
              have j6 := Eq1.out j6
              simp only [j6] at hK ⊢
              rw [if_pos (by rfl)]
              go_step
              exact hK.out _ _ (Below.refl _ _) Eq1.mk Fresh.no
            · intro p vs w' K hJ hp1 hp2 hS hR hK
              simp only [DepJ, List.getD_cons_zero, List.getD_cons_succ] at hJ
              obtain ⟨j7, -⟩ := hJ
              have j7 := Eq1.out j7
              simp only [j7] at hK ⊢
              rw [if_pos (by rfl)]
              go_step
              exact hK.out _ _ (Below.refl _ _) (Eq1.of (by rw [gpc.out])) Fresh.no
            · intro p vs w' K hJ hp1 hp2 hS hR hK
              simp only [DepJ, List.getD_cons_zero, List.getD_cons_succ] at hJ
              obtain ⟨j5, j8, -⟩ := hJ
              have j5 := Eq1.out j5
              have j8 := Eq1.out j8
              simp only [j5, j8] at hK ⊢
              rw [if_pos (by rfl)]
              go_step
              exact hK.out _ _ (Below.refl _ _) (Eq1.of (by rw [gor.out])) Fresh.no
            · intro p vs w' K hJ hp1 hp2 hS hR hK
              simp only [DepJ, List.getD_cons_zero, List.getD_cons_succ] at hJ
              obtain ⟨j1, j3, -⟩ := hJ
              have j1 := Eq1.out j1
              have j3 := Eq1.out j3
              simp only [j1, j3] at hK ⊢
              rw [if_pos (by rfl)]
              go_step
              exact hK.out _ _ (Below.refl _ _) Eq1.mk Fresh.no
          case hst_1 => refine ⟨fun _ _ _ _ h => h, fun _ _ _ _ h => h, fun _ _ _ _ h => h, fun _ _ _ _ h => h, fun _ _ _ _ h => h, fun _ _ _ _ h => h, fun _ _ _ _ h => h, fun _ _ _ _ h => h, fun _ _ _ _ h => h, fun _ _ _ _ h => h, fun _ _ _ _ h => h, trivial⟩
          intro vs w' hJ hD hS hR
          simp only [AllJ, Nat.reduceAdd] at hJ
          obtain ⟨v0, v1, v2, v3, v4, v5, v6, v7, v8, v9, v10, -⟩ := hJ
          clear C
          replace v0 := Eq1.out v0
          replace v1 := Eq1.out v1
          replace v2 := Eq1.out v2
          replace v3 := Eq1.out v3
          replace v4 := Eq1.out v4
          replace v5 := Eq1.out v5
          replace v6 := Eq1.out v6
          replace v7 := Eq1.out v7
          replace v8 := Eq1.out v8
          replace v9 := Eq1.out v9
          replace v10 := Eq1.out v10
          simp only [v0, v1, v2, v3, v4, v5, v6, v7, v8, v9, v10, List.drop_succ_cons, List.drop_zero]
          have H' : Hp _ _ _ := hS
          clear hD hR hS v0 v1 v2 v3 v4 v5 v6 v7 v8 v9 v10
          clear vs H
          have H := H'; clear H'; have C := Hp.facts H; simp only [Facts, factsL, and_true, true_and, z0, z1, z2] at C
          have hfr := (Hp.rowCell H 1 rfl).2.2.1
          have hq := (Hp.rowCell H 1 rfl).2.2.2 (j / 8) _ hv
          (repeat' ((fail_if_success (with_reducible show bodyPost _ _ _ _ _ _)); first | ((with_reducible refine Hp.abs_alloc H ?_); intro b' w' H' hb'; (try simp only [hb']); clear hb'; ((try simp only [z0, z1, z2] at H'); clear C H; have H := H'; clear H'; have C := Hp.facts H; simp only [Facts, factsL, and_true, true_and, z0, z1, z2] at C)) | ((with_reducible show wpList _ _ _ _ _ (World.setCell _ _ _)); (with_reducible apply Hp.abs_gen H); (first | ((repeat (with_reducible apply Hp.set' 0)); (with_reducible exact H); (repeat rfl); intro w' H') | ((repeat (with_reducible apply Hp.set' 1)); (with_reducible exact H); (repeat rfl); intro w' H') | ((repeat (with_reducible apply Hp.set' 2)); (with_reducible exact H); (repeat rfl); intro w' H') | ((repeat (with_reducible apply Hp.set' 3)); (with_reducible exact H); (repeat rfl); intro w' H') | ((repeat (with_reducible apply Hp.set' 4)); (with_reducible exact H); (repeat rfl); intro w' H') | ((repeat (with_reducible apply Hp.set' 5)); (with_reducible exact H); (repeat rfl); intro w' H') | ((repeat (with_reducible apply Hp.set' 6)); (with_reducible exact H); (repeat rfl); intro w' H') | ((repeat (with_reducible apply Hp.set' 7)); (with_reducible exact H); (repeat rfl); intro w' H')); ((try simp only [z0, z1, z2] at H'); clear C H; have H := H'; clear H'; have C := Hp.facts H; simp only [Facts, factsL, and_true, true_and, z0, z1, z2] at C)) | ((with_reducible show wpList _ _ _ _ _ (World.setCell _ _ _)); with_reducible refine Hp.abs_gen H (Hp.rowSet H 1 rfl _ _) ?_; intro w' H'; ((try simp only [z0, z1, z2] at H'); clear C H; have H := H'; clear H'; have C := Hp.facts H; simp only [Facts, factsL, and_true, true_and, z0, z1, z2] at C)) | go_values | go_skip | go_guarded | go_step | go_upon | go_back | (simp only [Int.not_lt, Int.not_le] at *; go_simp) | (go_values <;> (try go_simp)) | (go_ite <;> go_prune <;> (try go_simp)) | (split <;> (first | (rename_i hx; exact (hx _ rfl).elim) | go_prune))))
          rw [gS.out] at H
          exact ⟨⟨k + 1, by omega, by go_num, by rw [gB.out]; exact H⟩, by simp [intOf]; omega⟩
        · obtain rfl : k = l.length := by omega
          rw [← gp.out] at H
          have lP : P.length = m := by rw [gp.out, setL_length]
          clear hx hx2 hcell hA
          (repeat' ((fail_if_success (with_reducible show bodyPost _ _ _ _ _ _)); first | ((with_reducible refine Hp.abs_alloc H ?_); intro b' w' H' hb'; (try simp only [hb']); clear hb'; ((try simp only [z0, z1, z2] at H'); clear C H; have H := H'; clear H'; have C := Hp.facts H; simp only [Facts, factsL, and_true, true_and, z0, z1, z2] at C)) | ((with_reducible show wpList _ _ _ _ _ (World.setCell _ _ _)); (with_reducible apply Hp.abs_gen H); (first | ((repeat (with_reducible apply Hp.set' 0)); (with_reducible exact H); (repeat rfl); intro w' H') | ((repeat (with_reducible apply Hp.set' 1)); (with_reducible exact H); (repeat rfl); intro w' H') | ((repeat (with_reducible apply Hp.set' 2)); (with_reducible exact H); (repeat rfl); intro w' H') | ((repeat (with_reducible apply Hp.set' 3)); (with_reducible exact H); (repeat rfl); intro w' H') | ((repeat (with_reducible apply Hp.set' 4)); (with_reducible exact H); (repeat rfl); intro w' H') | ((repeat (with_reducible apply Hp.set' 5)); (with_reducible exact H); (repeat rfl); intro w' H') | ((repeat (with_reducible apply Hp.set' 6)); (with_reducible exact H); (repeat rfl); intro w' H') | ((repeat (with_reducible apply Hp.set' 7)); (with_reducible exact H); (repeat rfl); intro w' H')); ((try simp only [z0, z1, z2] at H'); clear C H; have H := H'; clear H'; have C := Hp.facts H; simp only [Facts, factsL, and_true, true_and, z0, z1, z2] at C)) | go_values | go_skip | go_guarded | go_step | go_upon | go_back | (simp only [Int.not_lt, Int.not_le] at *; go_simp) | (go_values <;> (try go_simp)) | (go_ite <;> go_prune <;> (try go_simp)) | (split <;> (first | (rename_i hx; exact (hx _ rfl).elim) | go_prune))))
          refine bodyPost_ret (v := .tuple #[.agg #[.int .i64 U, .slice (some ⟨g', 0, none⟩) m m], .int .i64 0]) (by simp [results, go_sem, C]) rfl ?_
          rw [gR.out, ge.out]
          exact StrB.of H 1 rfl lP.symm rfl rfl
end Go.Proofs.Ytldblmgmcmnepaa

