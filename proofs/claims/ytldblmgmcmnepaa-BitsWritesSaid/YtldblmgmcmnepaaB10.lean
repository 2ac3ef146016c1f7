/- Lemmas and walks on the way to the seat's laws; each theorem says its own conditions. -/
import Derived.Test.YtldblmgmcmnepaaB9
import Derived.Test.YtldblmgmcmnepaaRegV
import Derived.RangeFuncNested
import Derived.RangeFuncBound
import Derived.RangeFuncCalls
import Derived.RangeFuncLeaves
import Derived.RangeFuncBox
import Derived.Shelf.Abstract
import Derived.Shelf.RegionOpen
import Derived.WalkKit
import Derived.OwnWalkIn
import Derived.TacticsInMore
import Derived.LoopNIn
import Derived.LoopIn
import Derived.Maps.AppendAt
set_option linter.unusedSimpArgs false
set_option linter.unusedVariables false
set_option linter.unusedSimpArgs false
set_option linter.unusedVariables false
set_option maxRecDepth 100000
namespace Go.Proofs.Ytldblmgmcmnepaa
open Go.RowKit Go.Mem Go.Reg Oct Bit Go.Shelf
attribute [local go_sem] Oper.semAt_some
/-- The string's box, and all that lay ahead. -/
def OnesW (w : World) (bx : Nat) (u : Int) (v : Value) (X : World) : Prop := X.heap[bx]? = some (.cells #[.int .i64 u, v] 26 (0, 0)) ∧ Below w.heap.size w X
theorem OnesW.step {w : World} {bx : Nat} {u : Int} {v : Value} {X X' : World} (h : OnesW w bx u v X) (b : Below X.heap.size X X') : OnesW w bx u v X' :=
  ⟨(b.block bx (Array.getElem?_eq_some_iff.1 h.1).1).trans h.1, h.2.trans (b.mono h.2.size)⟩
theorem OnesW.cell {w : World} {bx : Nat} {u : Int} {v : Value} {X : World} (h : OnesW w bx u v X) (j : Nat) : X.cell? ⟨bx, j, none⟩ = #[.int .i64 u, v][j]? := cell_of_row X bx j _ _ (0, 0) h.1
/-- What a round keeps. -/
def KpW (w : World) (bx : Nat) (X X' : World) : Prop := Below w.heap.size X X' ∧ X'.heap[bx]? = X.heap[bx]?
theorem OnesW.kp {w : World} {bx : Nat} {u : Int} {v : Value} {X X' : World} (h : OnesW w bx u v X) (k : KpW w bx X X') : OnesW w bx u v X' := ⟨k.2.trans h.1, h.2.trans k.1⟩
theorem abides_below {β : Type} {B : Nat} {J : β → World → Prop} (h : AbidesFrom B J) {s : β} {X X' : World} (hs : J s X) (b : Below X.heap.size X X') : J s X' :=
  h s X X' none hs ⟨b.os, b.tape, b.output, b.size, fun k hk _ => b.block k hk⟩ (fun r e => by cases e)
set_option maxRecDepth 100000 in
set_option maxHeartbeats 2000000 in
theorem ones_in (n : Nat) (h1 : 1 ≤ n) (w : World) (bx : Nat) (u : Int) (l : List UInt8) (v : Value) (hb : Bs w v l) (hl : l.length ≤ 100000) (N : Nat) (hr : lenI u l = (N : Int)) (hN : N ≤ 32)
    (l0 : Nat) (J Jx : List Nat → World → Prop) (W : World) (hW : OnesW w bx u v W) (hJ : AbidesFrom W.heap.size J)
    (hY : ∀ pre x W1, J pre W1 → pre.length < N → YieldAt Fence.wide (n - 1) Try.prog l0 #[.int .i64 ((x : Nat) : Int)] W1 fun e W' =>
      (e = .returned (.bool true) ∧ J (pre ++ [x]) W' ∧ KpW w bx W1 W') ∨ (e = .returned (.bool false) ∧ Jx (pre ++ [x]) W'))
    (h0 : J [] W) :
    CallsIn Fence.wide n Try.prog 116 #[.func (.yield l0) #[] #[], .pointer (some ⟨bx, 0, none⟩)] W fun e W' => (∃ v, e = .returned v) ∧
      ((∃ ys, ys = onesL l N ∧ J ys W') ∨ (∃ pre, True ∧ Jx pre W')) := by
  have hL := fun X (h : OnesW w bx u v X) => blen_any u l v X (hb.step h.2) (by omega)
  rw [hr] at hL
  have hlen : N ≤ 8 * l.length := by
    have := hr
    unfold lenI at this
    split at this
    · rename_i h; have := right_range h; omega
    · omega
  have hBt := fun i (hi : i < N) X (h : OnesW w bx u v X) => bit_any u l v i X (hb.step h.2) (by omega) (by omega)
  have C := hW.cell
  refine callsIn_of_wp Try.func116 rfl trivial ?_ rfl
  simp only [Try.ntmps116, List.size_toArray, List.length_cons, List.length_nil, Nat.reduceAdd, Nat.reduceSub, Array.replicate_succ, Array.replicate_zero, List.push_toArray, List.append_toArray, List.nil_append, List.cons_append]
  gi_wp2_with (refine ⟨trivial, ?_⟩; gi_at_call 29; refine (callsIn_wide.2 (hL _ hW)).mono ?_; rintro e X ⟨rfl, hX⟩)
  clear C
  have hX1 := hW.step hX
  have hX2 := abides_below hJ h0 hX
  gi_loopw [6] (fun ix wr => ∃ i : Nat, i ≤ N ∧ ix = .int .i64 i ∧ OnesW w bx u v wr ∧ J (onesL l i) wr) (fun ix _ => N - (intOf ix).toNat)
  case atStart => exact ⟨0, Nat.zero_le _, rfl, hX1, hX2⟩
  case round =>
    clear hX1 hX2
    obtain ⟨i, hi, rfl, hO, hJi⟩ := hrel
    by_cases hlt : i < N
    · have C := hO.cell
      have hB := hBt i hlt _ hO
      have hs := onesL_succ l i
      have hll := onesL_length l i
      cases hbn : bitN l i with
      | true =>
        rw [hbn] at hB
        rw [hbn, if_pos rfl] at hs
        have gs := Lib.hid hs
        clear hs hbn
        gi_wp2_with (refine ⟨trivial, ?_⟩; gi_at_call 83; refine (callsIn_wide.2 hB).mono ?_; rintro e X2 ⟨rfl, hX2⟩; have hO2 := hO.step hX2; have hJ2 := abides_below hJ hJi hX2; clear C; have C := hO2.cell; obtain ⟨fn, tmps, assign, body, hy, hR⟩ := hY _ i X2 hJ2 (by omega))
        refine hR.mono ?_
        rintro e X3 (⟨rfl, hJ3, hk3⟩ | ⟨rfl, hJx3⟩)
        · have hO3 := hO2.kp hk3
          clear C
          gi_wp2
          go_roundw
          case rel => exact ⟨i + 1, by omega, by go_num, hO3, by rw [gs.out]; exact hJ3⟩
          case measure => simp [intOf]; omega
        · gi_wp2
          refine bodyPost_ret (results_none rfl _ _ _) rfl ?_
          exact ⟨⟨_, rfl⟩, .inr ⟨_, trivial, hJx3⟩⟩
      | false =>
        rw [hbn] at hB hs
        have gs := Lib.hid (show onesL l (i + 1) = onesL l i by rw [hs]; simp)
        clear hs hbn
        gi_wp2_with (refine ⟨trivial, ?_⟩; gi_at_call 83; refine (callsIn_wide.2 hB).mono ?_; rintro e X2 ⟨rfl, hX2⟩; have hO2 := hO.step hX2; have hJ2 := abides_below hJ hJi hX2; clear C; have C := hO2.cell)
        refine ⟨fun _ h => (by cases h), ?_⟩
        gi_wp2
        go_roundw
        case rel => exact ⟨i + 1, by omega, by go_num, hO2, by rw [gs.out]; exact hJ2⟩
        case measure => simp [intOf]; omega
    · obtain rfl : i = N := by omega
      gi_wp2
      go_end0
      exact ⟨⟨_, rfl⟩, .inl ⟨_, rfl, hJi⟩⟩
theorem ones_stops (n : Nat) (h1 : 1 ≤ n) (w : World) (bx : Nat) (u : Int) (l : List UInt8) (v : Value) (hb : Bs w v l) (hl : l.length ≤ 100000) (N : Nat) (hr : lenI u l = (N : Int)) (hN : N ≤ 32) (W0 : World) (hW0 : OnesW w bx u v W0) :
    SeqStopsK Fence.wide n Try.prog 116 #[.pointer (some ⟨bx, 0, none⟩)] (fun x : Nat => #[Value.int .i64 (x : Int)]) (KpW w bx) (fun ys => ys = onesL l N) (fun _ => True) N W0 := fun l0 J Jx W hW hJ _ hY h0 =>
  ones_in n h1 w bx u l v hb hl N hr hN l0 J Jx W (hW0.step hW) hJ hY h0
theorem ones_any (u : Int) (A : Option Addr) (n c : Nat) (w : World) :
    Calls Try.prog 84 #[.agg #[.int .i64 u, .slice A n c]] w fun e w' => ∃ bx, e = .returned (.func (.func 116) #[] #[.pointer (some ⟨bx, 0, none⟩)]) ∧ ∀ w0 L, Hp w0 L w → Hp w0 (.blk bx #[.int .i64 u, .slice A n c] 26 :: L) w' := by
  go_enter Try.func84, Try.ntmps84
  go_wp2_with (fail)
  go_ret
  exact ⟨_, rfl, fun _ _ H => H.alloc _ _⟩
theorem cells_own {β : Type} (B : Nat) (c : Array Value) (t : TypeId) : Own (fun (_ : β) W => W.heap[B]? = some (.cells c t (0, 0))) := fun s X Y row hs hg hrow =>
  (hg.block B (Array.getElem?_eq_some_iff.1 hs).1 (fun e' => by obtain ⟨o, ho, hc⟩ := hrow B e'.symm; rw [hs] at ho; cases ho; cases hc)).trans hs
theorem kpW_t {w : World} {bx : Nat} {X Y Z : World} (h : KpW w bx X Y) (k : KpW w bx Y Z) : KpW w bx X Z := ⟨h.1.trans k.1, k.2.trans h.2⟩
theorem kpW_b {w w2 : World} {bx : Nat} (hn : w.heap.size ≤ w2.heap.size) (hbx : bx < w2.heap.size) (W : World) (l : Nat) (o o' : Obj) (hl : w2.heap.size ≤ l) (h : W.heap[l]? = some o) (h1 : o.isCells = false) (h2 : o.isWalk = false) : KpW w bx W (W.putObj l o') :=
  ⟨belowK_b (w := w2) hn W l o o' hl h h1 h2, World.putObj_heap_other (by omega)⟩
theorem not_row_cells {W : World} {B : Nat} {c : Array Value} {t e : TypeId} (h : W.heap[B]? = some (.cells c t (0, 0))) (hte : t ≠ e) {base size k : Nat} {v : Value} {xs : List Value} (hr : W.ownsRow base e size v k xs) : some B ≠ v.ownBlock := by
  rcases hr.2 with ⟨rfl, _⟩ | ⟨g, cap, cur, rfl, _, hgb, _⟩
  · simp [Value.ownBlock]
  · intro e'
    obtain rfl : B = g := by simpa [Value.ownBlock] using e'
    rw [h] at hgb
    injection hgb with hgb
    injection hgb with _ e1 _
    exact hte e1
/-- Another block lies as it lay behind an append and a store. -/
theorem other_block {W w1 : World} {bx bl n₀ k : Nat} {c : Array Value} {t t2 : TypeId} {tmp : Obj} {v v' u : Value} {e : TypeId} {xs : List Value} (h : W.heap[bx]? = some (.cells c t (0, 0))) (hte : t ≠ e) (hr : W.ownsRow n₀ e 1 v k xs) (hg : (W.alloc tmp).grownBy w1 v.ownBlock) (hv : Boxed W bl t2 u) (h2 : t ≠ t2) : (w1.setCell ⟨bl, 0, none⟩ v').heap[bx]? = W.heap[bx]? := by
  have hlt := (Array.getElem?_eq_some_iff.1 h).1
  have hne : bl ≠ bx := by
    rintro rfl
    have := (show W.heap[bl]? = _ from hv).symm.trans h
    injection this with this
    injection this with _ e1 _
    exact h2 e1.symm
  have h1 : (W.alloc tmp).heap[bx]? = W.heap[bx]? := ((Below.refl W.heap.size W).alloc (Nat.le_refl _) tmp).block bx hlt
  have h3 := hg.block bx (Nat.lt_of_lt_of_le hlt ((Below.refl W.heap.size W).alloc (Nat.le_refl _) tmp).size) (not_row_cells h hte hr)
  exact (Below.heap_setCell _ _ _ bx (fun e => hne e.symm)).trans (h3.trans h1)
set_option maxRecDepth 100000 in
set_option maxHeartbeats 2000000 in
theorem bflags_ok (u : Int) (l : List UInt8) (v : Value) (w : World) (hb : Bs w v l) (hl : l.length ≤ 100000) (hr : rightB u l = true) (N : Nat) (hN : lenI u l = (N : Int)) (h32 : N ≤ 32) (hlast : 0 < N → bitN l (N - 1) = true) :
    Calls Try.prog 17 #[.agg #[.int .i64 u, v]] w (OutI w (onesL l N) 0) := by
  obtain ⟨i0, hi, hz0, hz1, hz2⟩ := info_parts info_i64
  have hbw := hb
  obtain ⟨A, c, rfl, hlc, hcm, hA, -⟩ := hb.open
  have hR := bright_any u l (.slice A l.length c)
  have hL := fun w hb => blen_any u l (.slice A l.length c) w hb (by omega)
  have h8 : N ≤ 8 * l.length := by
    have := hN
    unfold lenI at this
    rw [if_pos hr] at this
    have := right_range hr
    omega
  rw [hr] at hR
  have gN := Lib.hid hN
  rw [hN] at hL
  clear hr hN
  refine (callsIn_wide (n := 6)).1 (callsIn_of_wp_marks Try.func17 rfl trivial ?_ rfl)
  refine wpIn_wide.2 ?_
  simp only [Try.ntmps17, List.size_toArray, List.length_cons, List.length_nil, Nat.reduceAdd, Nat.reduceSub, Array.replicate_succ, Array.replicate_zero, List.push_toArray, List.append_toArray, List.nil_append, List.cons_append]
  have H := Hp.start w
  have C : True := trivial
  cases N with
  | zero =>
    (repeat' ((fail_if_success (with_reducible show bodyPost _ _ _ _ _ _)); first | ((with_reducible refine Hp.abs_alloc H ?_); intro b' w' H' hb'; (try simp only [hb']); clear hb'; ((try simp only [z0, z1, z2] at H'); clear C H; have H := H'; clear H'; have C := Hp.facts H; simp only [Facts, factsL, and_true, true_and, z0, z1, z2] at C)) | ((with_reducible show wpList _ _ _ _ _ (World.setCell _ _ _)); (with_reducible apply Hp.abs_gen H); (first | ((repeat (with_reducible apply Hp.set' 0)); (with_reducible exact H); (repeat rfl); intro w' H') | ((repeat (with_reducible apply Hp.set' 1)); (with_reducible exact H); (repeat rfl); intro w' H') | ((repeat (with_reducible apply Hp.set' 2)); (with_reducible exact H); (repeat rfl); intro w' H') | ((repeat (with_reducible apply Hp.set' 3)); (with_reducible exact H); (repeat rfl); intro w' H') | ((repeat (with_reducible apply Hp.set' 4)); (with_reducible exact H); (repeat rfl); intro w' H') | ((repeat (with_reducible apply Hp.set' 5)); (with_reducible exact H); (repeat rfl); intro w' H') | ((repeat (with_reducible apply Hp.set' 6)); (with_reducible exact H); (repeat rfl); intro w' H') | ((repeat (with_reducible apply Hp.set' 7)); (with_reducible exact H); (repeat rfl); intro w' H')); ((try simp only [z0, z1, z2] at H'); clear C H; have H := H'; clear H'; have C := Hp.facts H; simp only [Facts, factsL, and_true, true_and, z0, z1, z2] at C)) | (go_at_call 27; refine (hR _ (H.bs hb)).mono ?_; rintro e' w' ⟨rfl, hb'⟩; (have H' := Hp.step H hb'; clear hb'; ((try simp only [z0, z1, z2] at H'); clear C H; have H := H'; clear H'; have C := Hp.facts H; simp only [Facts, factsL, and_true, true_and, z0, z1, z2] at C))) | (go_at_call 29; refine (hL _ (H.bs hb)).mono ?_; rintro e' w' ⟨rfl, hb'⟩; (have H' := Hp.step H hb'; clear hb'; ((try simp only [z0, z1, z2] at H'); clear C H; have H := H'; clear H'; have C := Hp.facts H; simp only [Facts, factsL, and_true, true_and, z0, z1, z2] at C))) | go_values | go_skip | go_guarded | go_step | go_upon | go_back | (simp only [Int.not_lt, Int.not_le] at *; go_simp) | (go_values <;> (try go_simp)) | (go_ite <;> go_prune <;> (try go_simp)) | (split <;> (first | (rename_i hx; exact (hx _ rfl).elim) | go_prune))))
    refine (ones_any u A _ c _).mono ?_
    rintro e' w2 ⟨bx, rfl, hH⟩
    have H' := hH _ _ H
    clear hH
    ((try simp only [z0, z1, z2] at H'); clear C H; have H := H'; clear H'; have C := Hp.facts H; simp only [Facts, factsL, and_true, true_and, z0, z1, z2] at C)
    (repeat' ((fail_if_success (with_reducible show bodyPost _ _ _ _ _ _)); first | ((with_reducible refine Hp.abs_alloc H ?_); intro b' w' H' hb'; (try simp only [hb']); clear hb'; ((try simp only [z0, z1, z2] at H'); clear C H; have H := H'; clear H'; have C := Hp.facts H; simp only [Facts, factsL, and_true, true_and, z0, z1, z2] at C)) | ((with_reducible show wpList _ _ _ _ _ (World.setCell _ _ _)); (with_reducible apply Hp.abs_gen H); (first | ((repeat (with_reducible apply Hp.set' 0)); (with_reducible exact H); (repeat rfl); intro w' H') | ((repeat (with_reducible apply Hp.set' 1)); (with_reducible exact H); (repeat rfl); intro w' H') | ((repeat (with_reducible apply Hp.set' 2)); (with_reducible exact H); (repeat rfl); intro w' H') | ((repeat (with_reducible apply Hp.set' 3)); (with_reducible exact H); (repeat rfl); intro w' H') | ((repeat (with_reducible apply Hp.set' 4)); (with_reducible exact H); (repeat rfl); intro w' H') | ((repeat (with_reducible apply Hp.set' 5)); (with_reducible exact H); (repeat rfl); intro w' H') | ((repeat (with_reducible apply Hp.set' 6)); (with_reducible exact H); (repeat rfl); intro w' H') | ((repeat (with_reducible apply Hp.set' 7)); (with_reducible exact H); (repeat rfl); intro w' H')); ((try simp only [z0, z1, z2] at H'); clear C H; have H := H'; clear H'; have C := Hp.facts H; simp only [Facts, factsL, and_true, true_and, z0, z1, z2] at C)) | go_values | go_skip | go_guarded | go_step | go_upon | go_back | (simp only [Int.not_lt, Int.not_le] at *; go_simp) | (go_values <;> (try go_simp)) | (go_ite <;> go_prune <;> (try go_simp)) | (split <;> (first | (rename_i hx; exact (hx _ rfl).elim) | go_prune))))
    have hbx := H.get 0 rfl
    have hbl := H.get 1 rfl
    have hle : w.heap.size ≤ _ := (H.ok _ (List.mem_of_getElem? (i := 1) rfl)).2
    have hlow := H.low
    refine (wpIn_wide (n := 6)).1 ?_
    refine' wpIn_rangeFunc_ownG (F := Fence.wide) (n := 6) rfl (by omega) (gf := 116) (lb := #[.pointer (some ⟨bx, 0, none⟩)]) rfl trivial (enters_of Try.func116 (by kernel_rfl) rfl)
      (ones_stops 5 (by omega) w bx u l _ hb hl (0) gN.out h32 w2 ⟨hbx, hlow⟩) kpW_t (kpW_b hlow.size (Array.getElem?_eq_some_iff.1 hbx).1) (Below.refl _ _) (fun _ => rfl)
      (fun pre W => (∃ v', Boxed W b' 22 v' ∧ W.ownsRow w.heap.size 3 1 v' pre.length (ivs pre) ∧ True) ∧ (W.heap[bx]? = some (.cells #[.int .i64 u, .slice A l.length c] 26 (0, 0)) ∧ Below w.heap.size w W))
      (fun _ _ _ => False)
      (OwnFrom.and (Own.from (holdsRow_own w.heap.size b' 22 3 1 (fun pre => pre.length) (fun pre => ivs pre) (fun _ _ => True)) _) (OwnFrom.and (Own.from (cells_own bx _ _) _) (ownFrom_below (Nat.le_refl _) hlow.size)))
      (fun _ _ _ _ _ hs _ _ => hs)
      ⟨⟨_, hbl, World.ownsRow_nil _ _ _ _, trivial⟩, hbx, hlow⟩ _ ?assign ?body ?done ?stop
    case assign =>
      intro l0 x W K hK
      gi_wp2
      exact hK
    case body =>
      rintro l0 pre x W ⟨⟨v', hv, hrow, -⟩, hbx2, hB2⟩ hlt
      exact absurd hlt (Nat.not_lt_zero _)
    case done =>
      rintro D ys W hD rfl ⟨⟨v', hv, hrow, -⟩, hbx2, hB2⟩ hK
      have hc := hv.cell
      obtain ⟨A9, c9, rfl⟩ := Go.LawLift.own_form hrow
      clear C H
      have H : Hp w [] W := ⟨fun _ h => (List.not_mem_nil h).elim, List.nodup_nil, hB2⟩
      have C : True := trivial
      (repeat' ((fail_if_success (with_reducible show bodyPost _ _ _ _ _ _)); first | ((with_reducible refine Hp.abs_alloc H ?_); intro b' w' H' hb'; (try simp only [hb']); clear hb'; ((try simp only [z0, z1, z2] at H'); clear C H; have H := H'; clear H'; have C := Hp.facts H; simp only [Facts, factsL, and_true, true_and, z0, z1, z2] at C)) | ((with_reducible show wpList _ _ _ _ _ (World.setCell _ _ _)); (with_reducible apply Hp.abs_gen H); (first | ((repeat (with_reducible apply Hp.set' 0)); (with_reducible exact H); (repeat rfl); intro w' H') | ((repeat (with_reducible apply Hp.set' 1)); (with_reducible exact H); (repeat rfl); intro w' H') | ((repeat (with_reducible apply Hp.set' 2)); (with_reducible exact H); (repeat rfl); intro w' H') | ((repeat (with_reducible apply Hp.set' 3)); (with_reducible exact H); (repeat rfl); intro w' H') | ((repeat (with_reducible apply Hp.set' 4)); (with_reducible exact H); (repeat rfl); intro w' H') | ((repeat (with_reducible apply Hp.set' 5)); (with_reducible exact H); (repeat rfl); intro w' H') | ((repeat (with_reducible apply Hp.set' 6)); (with_reducible exact H); (repeat rfl); intro w' H') | ((repeat (with_reducible apply Hp.set' 7)); (with_reducible exact H); (repeat rfl); intro w' H')); ((try simp only [z0, z1, z2] at H'); clear C H; have H := H'; clear H'; have C := Hp.facts H; simp only [Facts, factsL, and_true, true_and, z0, z1, z2] at C)) | go_values | go_skip | go_guarded | go_step | go_upon | go_back | (simp only [Int.not_lt, Int.not_le] at *; go_simp) | (go_values <;> (try go_simp)) | (go_ite <;> go_prune <;> (try go_simp)) | (split <;> (first | (rename_i hx; exact (hx _ rfl).elim) | go_prune))))
      refine ⟨by simp, .inl ⟨_, _, rfl, run_takeDeferred hK, ?_⟩⟩
      refine ⟨.tuple #[.slice A9 (onesL l 0).length c9, .int .i64 0], by simp [results, go_sem], ?_⟩
      exact ⟨⟨_, rfl, ownsRow_putObj hrow _ hK rfl⟩, hB2.trans (belowK_b (w := w) (Nat.le_refl _) W D _ _ (by have := hlow.size; omega) hK rfl rfl)⟩
    case stop =>
      rintro D cd pre W _ _ h _
      exact h.elim
  | succ k =>
    have hB := fun w hb => bit_any u l (.slice A l.length c) k w hb (by omega) (by omega)
    have hl1 := hlast (by omega)
    rw [Nat.add_sub_cancel] at hl1
    rw [hl1] at hB
    clear hlast hl1
    (repeat' ((fail_if_success (with_reducible show bodyPost _ _ _ _ _ _)); first | ((with_reducible refine Hp.abs_alloc H ?_); intro b' w' H' hb'; (try simp only [hb']); clear hb'; ((try simp only [z0, z1, z2] at H'); clear C H; have H := H'; clear H'; have C := Hp.facts H; simp only [Facts, factsL, and_true, true_and, z0, z1, z2] at C)) | ((with_reducible show wpList _ _ _ _ _ (World.setCell _ _ _)); (with_reducible apply Hp.abs_gen H); (first | ((repeat (with_reducible apply Hp.set' 0)); (with_reducible exact H); (repeat rfl); intro w' H') | ((repeat (with_reducible apply Hp.set' 1)); (with_reducible exact H); (repeat rfl); intro w' H') | ((repeat (with_reducible apply Hp.set' 2)); (with_reducible exact H); (repeat rfl); intro w' H') | ((repeat (with_reducible apply Hp.set' 3)); (with_reducible exact H); (repeat rfl); intro w' H') | ((repeat (with_reducible apply Hp.set' 4)); (with_reducible exact H); (repeat rfl); intro w' H') | ((repeat (with_reducible apply Hp.set' 5)); (with_reducible exact H); (repeat rfl); intro w' H') | ((repeat (with_reducible apply Hp.set' 6)); (with_reducible exact H); (repeat rfl); intro w' H') | ((repeat (with_reducible apply Hp.set' 7)); (with_reducible exact H); (repeat rfl); intro w' H')); ((try simp only [z0, z1, z2] at H'); clear C H; have H := H'; clear H'; have C := Hp.facts H; simp only [Facts, factsL, and_true, true_and, z0, z1, z2] at C)) | (go_at_call 27; refine (hR _ (H.bs hb)).mono ?_; rintro e' w' ⟨rfl, hb'⟩; (have H' := Hp.step H hb'; clear hb'; ((try simp only [z0, z1, z2] at H'); clear C H; have H := H'; clear H'; have C := Hp.facts H; simp only [Facts, factsL, and_true, true_and, z0, z1, z2] at C))) | (go_at_call 29; refine (hL _ (H.bs hb)).mono ?_; rintro e' w' ⟨rfl, hb'⟩; (have H' := Hp.step H hb'; clear hb'; ((try simp only [z0, z1, z2] at H'); clear C H; have H := H'; clear H'; have C := Hp.facts H; simp only [Facts, factsL, and_true, true_and, z0, z1, z2] at C))) | (go_at_call 83; refine (hB _ (H.bs hb)).mono ?_; rintro e' w' ⟨rfl, hb'⟩; (have H' := Hp.step H hb'; clear hb'; ((try simp only [z0, z1, z2] at H'); clear C H; have H := H'; clear H'; have C := Hp.facts H; simp only [Facts, factsL, and_true, true_and, z0, z1, z2] at C))) | go_values | go_skip | go_guarded | go_step | go_upon | go_back | (simp only [Int.not_lt, Int.not_le] at *; go_simp) | (go_values <;> (try go_simp)) | (go_ite <;> go_prune <;> (try go_simp)) | (split <;> (first | (rename_i hx; exact (hx _ rfl).elim) | go_prune))))
    refine (ones_any u A _ c _).mono ?_
    rintro e' w2 ⟨bx, rfl, hH⟩
    have H' := hH _ _ H
    clear hH
    ((try simp only [z0, z1, z2] at H'); clear C H; have H := H'; clear H'; have C := Hp.facts H; simp only [Facts, factsL, and_true, true_and, z0, z1, z2] at C)
    (repeat' ((fail_if_success (with_reducible show bodyPost _ _ _ _ _ _)); first | ((with_reducible refine Hp.abs_alloc H ?_); intro b' w' H' hb'; (try simp only [hb']); clear hb'; ((try simp only [z0, z1, z2] at H'); clear C H; have H := H'; clear H'; have C := Hp.facts H; simp only [Facts, factsL, and_true, true_and, z0, z1, z2] at C)) | ((with_reducible show wpList _ _ _ _ _ (World.setCell _ _ _)); (with_reducible apply Hp.abs_gen H); (first | ((repeat (with_reducible apply Hp.set' 0)); (with_reducible exact H); (repeat rfl); intro w' H') | ((repeat (with_reducible apply Hp.set' 1)); (with_reducible exact H); (repeat rfl); intro w' H') | ((repeat (with_reducible apply Hp.set' 2)); (with_reducible exact H); (repeat rfl); intro w' H') | ((repeat (with_reducible apply Hp.set' 3)); (with_reducible exact H); (repeat rfl); intro w' H') | ((repeat (with_reducible apply Hp.set' 4)); (with_reducible exact H); (repeat rfl); intro w' H') | ((repeat (with_reducible apply Hp.set' 5)); (with_reducible exact H); (repeat rfl); intro w' H') | ((repeat (with_reducible apply Hp.set' 6)); (with_reducible exact H); (repeat rfl); intro w' H') | ((repeat (with_reducible apply Hp.set' 7)); (with_reducible exact H); (repeat rfl); intro w' H')); ((try simp only [z0, z1, z2] at H'); clear C H; have H := H'; clear H'; have C := Hp.facts H; simp only [Facts, factsL, and_true, true_and, z0, z1, z2] at C)) | go_values | go_skip | go_guarded | go_step | go_upon | go_back | (simp only [Int.not_lt, Int.not_le] at *; go_simp) | (go_values <;> (try go_simp)) | (go_ite <;> go_prune <;> (try go_simp)) | (split <;> (first | (rename_i hx; exact (hx _ rfl).elim) | go_prune))))
    have hbx := H.get 0 rfl
    have hbl := H.get 1 rfl
    have hle : w.heap.size ≤ _ := (H.ok _ (List.mem_of_getElem? (i := 1) rfl)).2
    have hlow := H.low
    refine (wpIn_wide (n := 6)).1 ?_
    refine' wpIn_rangeFunc_ownG (F := Fence.wide) (n := 6) rfl (by omega) (gf := 116) (lb := #[.pointer (some ⟨bx, 0, none⟩)]) rfl trivial (enters_of Try.func116 (by kernel_rfl) rfl)
      (ones_stops 5 (by omega) w bx u l _ hb hl (k + 1) gN.out h32 w2 ⟨hbx, hlow⟩) kpW_t (kpW_b hlow.size (Array.getElem?_eq_some_iff.1 hbx).1) (Below.refl _ _) (fun _ => rfl)
      (fun pre W => (∃ v', Boxed W b' 22 v' ∧ W.ownsRow w.heap.size 3 1 v' pre.length (ivs pre) ∧ True) ∧ (W.heap[bx]? = some (.cells #[.int .i64 u, .slice A l.length c] 26 (0, 0)) ∧ Below w.heap.size w W))
      (fun _ _ _ => False)
      (OwnFrom.and (Own.from (holdsRow_own w.heap.size b' 22 3 1 (fun pre => pre.length) (fun pre => ivs pre) (fun _ _ => True)) _) (OwnFrom.and (Own.from (cells_own bx _ _) _) (ownFrom_below (Nat.le_refl _) hlow.size)))
      (fun _ _ _ _ _ hs _ _ => hs)
      ⟨⟨_, hbl, World.ownsRow_nil _ _ _ _, trivial⟩, hbx, hlow⟩ _ ?assign ?body ?done ?stop
    case assign =>
      intro l0 x W K hK
      gi_wp2
      exact hK
    case body =>
      rintro l0 pre x W ⟨⟨v', hv, hrow, -⟩, hbx2, hB2⟩ hlt
      have hc := hv.cell
      gi_wp2_with (gi_at_builtin; refine wpListIn_append_own _ rfl _ _ 22 rfl w.heap.size 3 i0 (.int .i64 0) 1 8 Try.underlying22 hi hz0 hz1 hz2 rfl (by decide) _ _ _ rfl (hrow.alloc _) ⟨W.heap.size, 0, none⟩ 1 1 [.int .i64 (x : Int)] rfl rfl (cell_one_new _ _ _) (by simp [Value.oneCell']) (by unfold maxLen; omega) (by omega) (by have := hB2.size; simp; omega) ?_; intro v2 w1 hown' hgrow _; obtain ⟨g', cap', rfl⟩ := ownsRow_succ hown'; obtain ⟨hv1, hv2, hr2, hk2, hb2⟩ := hv.appended (by decide) hrow hB2.size hle hown' hgrow; have hob := other_block (v' := .slice (some ⟨g', 0, none⟩) (pre.length + 1) cap') hbx2 (by decide) hrow hgrow hv (by decide); have hc1 := hv1.cell; have hf1 := hv1.frozen)
      exact ⟨hk2.from _, ⟨hb2, hob⟩, ⟨_, hv2, by rw [← ivs_snoc, List.length_append]; exact hr2, trivial⟩, hob.trans hbx2, hB2.trans hb2⟩
    case done =>
      rintro D ys W hD rfl ⟨⟨v', hv, hrow, -⟩, hbx2, hB2⟩ hK
      have hc := hv.cell
      obtain ⟨A9, c9, rfl⟩ := Go.LawLift.own_form hrow
      clear C H
      have H : Hp w [] W := ⟨fun _ h => (List.not_mem_nil h).elim, List.nodup_nil, hB2⟩
      have C : True := trivial
      (repeat' ((fail_if_success (with_reducible show bodyPost _ _ _ _ _ _)); first | ((with_reducible refine Hp.abs_alloc H ?_); intro b' w' H' hb'; (try simp only [hb']); clear hb'; ((try simp only [z0, z1, z2] at H'); clear C H; have H := H'; clear H'; have C := Hp.facts H; simp only [Facts, factsL, and_true, true_and, z0, z1, z2] at C)) | ((with_reducible show wpList _ _ _ _ _ (World.setCell _ _ _)); (with_reducible apply Hp.abs_gen H); (first | ((repeat (with_reducible apply Hp.set' 0)); (with_reducible exact H); (repeat rfl); intro w' H') | ((repeat (with_reducible apply Hp.set' 1)); (with_reducible exact H); (repeat rfl); intro w' H') | ((repeat (with_reducible apply Hp.set' 2)); (with_reducible exact H); (repeat rfl); intro w' H') | ((repeat (with_reducible apply Hp.set' 3)); (with_reducible exact H); (repeat rfl); intro w' H') | ((repeat (with_reducible apply Hp.set' 4)); (with_reducible exact H); (repeat rfl); intro w' H') | ((repeat (with_reducible apply Hp.set' 5)); (with_reducible exact H); (repeat rfl); intro w' H') | ((repeat (with_reducible apply Hp.set' 6)); (with_reducible exact H); (repeat rfl); intro w' H') | ((repeat (with_reducible apply Hp.set' 7)); (with_reducible exact H); (repeat rfl); intro w' H')); ((try simp only [z0, z1, z2] at H'); clear C H; have H := H'; clear H'; have C := Hp.facts H; simp only [Facts, factsL, and_true, true_and, z0, z1, z2] at C)) | go_values | go_skip | go_guarded | go_step | go_upon | go_back | (simp only [Int.not_lt, Int.not_le] at *; go_simp) | (go_values <;> (try go_simp)) | (go_ite <;> go_prune <;> (try go_simp)) | (split <;> (first | (rename_i hx; exact (hx _ rfl).elim) | go_prune))))
      refine ⟨by simp, .inl ⟨_, _, rfl, run_takeDeferred hK, ?_⟩⟩
      refine ⟨.tuple #[.slice A9 (onesL l (k + 1)).length c9, .int .i64 0], by simp [results, go_sem], ?_⟩
      exact ⟨⟨_, rfl, ownsRow_putObj hrow _ hK rfl⟩, hB2.trans (belowK_b (w := w) (Nat.le_refl _) W D _ _ (by have := hlow.size; omega) hK rfl rfl)⟩
    case stop =>
      rintro D cd pre W _ _ h _
      exact h.elim
end Go.Proofs.Ytldblmgmcmnepaa

