/- Lemmas and walks on the way to the seat's laws; each theorem says its own conditions. -/
import Derived.Test.YtogliinfdfkobaaI6
import Derived.Test.YtogliinfdfkobaaRangeT
import Derived.Shelf.Abstract
import Derived.Shelf.RegionOpen
import Derived.WalkKit
import Derived.TacticsInMore
import Derived.LoopNIn
import Derived.LoopIn
import Derived.Maps.AppendAt
set_option linter.unusedSimpArgs false
set_option linter.unusedVariables false
set_option linter.unusedSimpArgs false
set_option linter.unusedVariables false
set_option maxRecDepth 100000
namespace Go.Proofs.Ytogliinfdfkobaa
open Go.RowKit Go.Mem Go.Reg Oct Hd Go.LawLift
/-- What the law's find gives. -/
def FindL (P : Nat → Prop) (t : Tree) (ps : List Int) (w : World) (e : Ending) (w' : World) : Prop :=
  (∀ u, findT t ps = some u → ∃ (m : Nat) (cs : List Value), e = .returned (.tuple #[.agg cs.toArray, .bool true]) ∧ ItP P w' m u cs) ∧
  (findT t ps = none → e = .returned (.tuple #[.agg #[.int .i64 0, .int .i64 0, .bool false, .slice none 0 0, .slice none 0 0], .bool false])) ∧ Below w.heap.size w w'
def FlRel (P : Nat → Prop) (t : Tree) (ps : List Int) (b4 bt : Nat) (w : World) (ix : Value) (wr : World) : Prop := ∃ (j m : Nat) (u : Tree) (d0 d1 d2 d3 d4 : Value), j ≤ ps.length ∧ ix = .int .i64 j ∧ Kp (findT t ps = findT u (ps.drop j)) ∧ Kp (ItP P w m u [d0, d1, d2, d3, d4]) ∧ Kp (u.count ≤ 200000) ∧
  Hp w [.blk b4 #[.int .i64 0, .int .i64 0, .bool false, .slice none 0 0, .slice none 0 0] 27, .blk bt #[d0, d1, d2, d3, d4] 27] wr
theorem FlRel.mk {P : Nat → Prop} {t : Tree} {ps : List Int} {b4 bt : Nat} {w wr : World} {ix : Value} (j m : Nat) (u : Tree) (d0 d1 d2 d3 d4 : Value) (h1 : j ≤ ps.length) (h2 : ix = .int .i64 j) (h3 : findT t ps = findT u (ps.drop j)) (h4 : ItP P w m u [d0, d1, d2, d3, d4]) (h5 : u.count ≤ 200000)
  (h7 : Hp w [.blk b4 #[.int .i64 0, .int .i64 0, .bool false, .slice none 0 0, .slice none 0 0] 27, .blk bt #[d0, d1, d2, d3, d4] 27] wr) : FlRel P t ps b4 bt w ix wr := ⟨j, m, u, d0, d1, d2, d3, d4, h1, h2, ⟨h3⟩, ⟨h4⟩, ⟨h5⟩, h7⟩
end Go.Proofs.Ytogliinfdfkobaa

set_option linter.unusedSimpArgs false
set_option linter.unusedVariables false
set_option maxRecDepth 100000
namespace Go.Proofs.Ytogliinfdfkobaa
open Go.RowKit Go.Mem Go.Reg Oct Hd Go.LawLift
/-- One pair of kids after the other. -/
def EfRel (ks ks2 : List Tree) (w : World) (ix : Value) (wr : World) : Prop := ∃ i : Nat, i ≤ ks.length ∧ ix = .int .i64 i ∧ Kp (∀ j (h : j < ks.length) (h' : j < ks2.length), j < i → ks[j].same ks2[j] = true) ∧ Hp w [] wr
theorem EfRel.mk {ks ks2 : List Tree} {w wr : World} {ix : Value} (i : Nat) (h1 : i ≤ ks.length) (h2 : ix = .int .i64 i) (h3 : ∀ j (h : j < ks.length) (h' : j < ks2.length), j < i → ks[j].same ks2[j] = true) (h4 : Hp w [] wr) : EfRel ks ks2 w ix wr := ⟨i, h1, h2, ⟨h3⟩, h4⟩
/-- What item.Same says of trees that are no deeper than n. -/
def SameOk (n : Nat) : Prop := ∀ (t : Tree) (cs : List Value) (m : Nat) (u : Tree) (ds : List Value) (w : World), ItN w n t cs → ItN w m u ds → t.count ≤ 200000 → u.count ≤ 200000 →
    Calls Try.prog 23 #[.agg cs.toArray, .agg ds.toArray] w fun e w' => e = .returned (.bool (t.same u)) ∧ Below w.heap.size w w'
end Go.Proofs.Ytogliinfdfkobaa

set_option linter.unusedSimpArgs false
set_option linter.unusedVariables false
set_option maxRecDepth 100000
namespace Go.Proofs.Ytogliinfdfkobaa
open Go.RowKit Go.Mem Go.Reg Oct Hd Go.LawLift
end Go.Proofs.Ytogliinfdfkobaa

set_option linter.unusedSimpArgs false
set_option linter.unusedVariables false
set_option maxRecDepth 100000
namespace Go.Proofs.Ytogliinfdfkobaa
open Go.RowKit Go.Mem Go.Reg Oct Hd Go.LawLift
/-- The kids that have been looked at are sound. -/
def SdRel (ks : List Tree) (M : List Ent) (w : World) (ix : Value) (wr : World) : Prop := ∃ i : Nat, i ≤ ks.length ∧ ix = .int .i64 i ∧ Kp (∀ j (h : j < ks.length), j < i → ks[j].sound = true) ∧ Hp w M wr
theorem SdRel.mk {ks : List Tree} {M : List Ent} {w wr : World} {ix : Value} (i : Nat) (h1 : i ≤ ks.length) (h2 : ix = .int .i64 i) (h3 : ∀ j (h : j < ks.length), j < i → ks[j].sound = true) (h4 : Hp w M wr) : SdRel ks M w ix wr := ⟨i, h1, h2, ⟨h3⟩, h4⟩
end Go.Proofs.Ytogliinfdfkobaa

set_option linter.unusedSimpArgs false
set_option linter.unusedVariables false
set_option maxRecDepth 100000
namespace Go.Proofs.Ytogliinfdfkobaa
open Go.RowKit Go.Mem Go.Reg Oct Hd Go.LawLift
end Go.Proofs.Ytogliinfdfkobaa

set_option linter.unusedSimpArgs false
set_option linter.unusedVariables false
set_option maxRecDepth 100000
namespace Go.Proofs.Ytogliinfdfkobaa
open Go.RowKit Go.Mem Go.Reg Oct Hd Go.LawLift
/-- A tree's own part is sound. -/
def Tree.flat (t : Tree) : Bool := okTag t.tag && (if t.tag.m then decide (t.bytes.length = 0) else decide (t.kids.length = 0))
end Go.Proofs.Ytogliinfdfkobaa

set_option linter.unusedSimpArgs false
set_option linter.unusedVariables false
set_option maxRecDepth 100000
namespace Go.Proofs.Ytogliinfdfkobaa
open Go.RowKit Go.Mem Go.Reg Oct Hd Go.LawLift
attribute [local go_sem] Oper.semAt_some
/-- What telling a tree leaves. -/
def DownOut {w0 : World} (d : Nat) (t : Tree) (Good : List TI → Prop) (Lp Lx : List TI → List Ent → Prop) (pre : List TI) (M : List Ent) (e : Ending) (w' : World) : Prop :=
  ∃ xs L', Hp w0 (M ++ L') w' ∧ ((e = .returned (.bool true) ∧ xs.map TI.is = t.told d ∧ Lp (pre ++ xs) L') ∨ (e = .returned (.bool false) ∧ Good (pre ++ xs) ∧ Lx (pre ++ xs) L'))
def DnRel (w0 : World) (d : Nat) (t : Tree) (Lp : List TI → List Ent → Prop) (pre : List TI) (M : List Ent) (ix : Value) (wr : World) : Prop :=
  ∃ (i : Nat) (xs : List TI) (L : List Ent), i ≤ t.kids.length ∧ ix = .int .i64 i ∧ xs.map TI.is = (d, t) :: Tree.tolds (t.kids.take i) (d + 1) ∧ Lp (pre ++ xs) L ∧ Hp w0 (M ++ L) wr
theorem DnRel.mk {w0 : World} {d : Nat} {t : Tree} {Lp : List TI → List Ent → Prop} {pre : List TI} {M : List Ent} {ix : Value} {wr : World} (i : Nat) (xs : List TI) (L : List Ent) (h1 : i ≤ t.kids.length) (h2 : ix = .int .i64 i) (h3 : xs.map TI.is = (d, t) :: Tree.tolds (t.kids.take i) (d + 1)) (h4 : Lp (pre ++ xs) L) (h5 : Hp w0 (M ++ L) wr) : DnRel w0 d t Lp pre M ix wr := ⟨i, xs, L, h1, h2, h3, h4, h5⟩
set_option maxHeartbeats 3200000 in
theorem down_any (w0 : World) (B : Nat) (hB : B ≤ w0.heap.size) (Os : List Ent) (l : Nat) (Lp Lx : List TI → List Ent → Prop) (Good : List TI → Prop) (hK : ∀ pre L, Lp pre L → ∀ x ∈ Os, x ∈ L)
    (hY : YieldF Try.prog l w0 encT (TOk B Os) Good Lp Lx) : ∀ (n : Nat) (t : Tree) (cs : List Value) (d : Nat) (pre : List TI) (M L : List Ent) (w : World), ItP (Kept B Os) w n t cs → Lp pre L → Hp w0 (M ++ L) w →
      (∀ xs, xs.map TI.is <+: t.told d → Good (pre ++ xs)) → d + t.count ≤ 2000000 →
      Calls Try.prog 35 #[.agg cs.toArray, .int .i64 (d : Int), .func (.yield l) #[] #[]] w (@DownOut w0 d t Good Lp Lx pre M) := by
  intro n
  induction n with
  | zero => intro t cs d pre M L w h; exact h.elim
  | succ n ih =>
  intro t cs d pre M L w ht hL H hG hd
  have gT := Kp.mk ht
  obtain ⟨vb, A, c, rfl, hb, hlc, hcm, hA, hk⟩ := ht.opened
  have gA := Kp.mk (fun W2 L2 (H2 : Hp w0 L2 W2) (hs : ∀ x ∈ Os, x ∈ L2) => Kept.agree hB H H2 (fun x hx => List.mem_append_right M (hK _ _ hL x hx)) hs)
  have hcap : c ≤ 9223372036854775807 := hcm
  have hlk := Tree.len_counts t.kids
  have hcn := t.count_is
  have hat := Tree.counts_at t.kids
  have hkl : t.kids.length ≤ 2000000 := by omega
  have gcn := Kp.mk (fun j (hj : j < t.kids.length) => show (d + 1) + t.kids[j].count ≤ 2000000 by have := hat j hj; omega)
  have gG := Kp.mk hG
  have gti := Kp.mk (Tree.told_is t d)
  obtain ⟨Bv, cv, rfl⟩ : ∃ Bv cv, vb = .slice Bv t.bytes.length cv := by
    obtain ⟨Bv, cv, e, -⟩ := hb.out
    exact ⟨Bv, cv, by simpa using e⟩
  have hdd : (d : Int) ≤ 2000000 := by omega
  clear hlk hcn hat hd hcm ht hb hG
  replace hk := Kp.mk hk
  obtain ⟨Q, hQ⟩ : ∃ Q, Q = @DownOut w0 d t Good Lp Lx pre M := ⟨_, rfl⟩
  rw [← hQ]
  replace hQ := Kp.mk hQ
  have gT2 : ItP (Kept B Os) w (n + 1) t [.int .i64 t.tag.c, .int .i64 t.tag.n, .bool t.tag.m, .slice Bv t.bytes.length cv, .slice A t.kids.length c] := gT.out
  generalize t.tag.c = tc at *
  generalize t.tag.n = tn at *
  generalize t.tag.m = tm at *
  obtain ⟨kl, hkl0⟩ : ∃ kl, t.kids.length = kl := ⟨_, rfl⟩
  obtain ⟨bl, hbl0⟩ : ∃ bl, t.bytes.length = bl := ⟨_, rfl⟩
  rw [hkl0, hbl0] at gT2
  rw [hkl0] at hkl hlc
  rw [hkl0, hbl0]
  replace gT2 := Kp.mk gT2
  clear gT hbl0
  replace hkl0 := Kp.mk hkl0
  refine (callsIn_wide (n := 6)).1 (callsIn_of_wp Try.func35 rfl trivial ?_ rfl)
  simp only [Try.ntmps35, List.size_toArray, List.length_cons, List.length_nil, Nat.reduceAdd, Nat.reduceSub, Array.replicate_succ, Array.replicate_zero, List.push_toArray, List.append_toArray, List.nil_append, List.cons_append]
  have C := Hp.facts H
  gi_wp2_with ((with_reducible refine Hp.abs_allocIn H ?_); intro bt w1 H1 hb1; (try simp only [hb1]); clear hb1; (have gH1 : Hp w0 ((.blk bt _ _ :: M) ++ L) w1 := H1); clear H C; have C := Hp.facts H1; simp only [Facts, factsL, and_true, true_and, List.set_cons_zero, List.set_cons_succ, List.setIfInBounds_toArray] at C; obtain ⟨fn, tmps, assign, body, hy, hR⟩ := hY 6 pre (d, t, [.int .i64 tc, .int .i64 tn, .bool tm, .slice Bv bl cv, .slice A kl c]) L _ w1 hL gH1 ⟨n + 1, gT2.out.move (gA.out _ _ gH1 (fun x hx => List.mem_append_right _ (hK _ _ hL x hx)))⟩ (gG.out [_] (by rw [gti.out]; exact ⟨_, rfl⟩)); unfold encT at hy; simp only [] at hy)
  refine (roundIn_wide hR).mono ?_
  clear hR hy C gH1
  rintro e X ⟨L', H2, (⟨rfl, hL2⟩ | ⟨rfl, hL2⟩)⟩
  · have H := H2
    simp only [List.cons_append] at H
    clear H1 H2
    have C := Hp.facts H
    simp only [Facts, factsL, and_true, true_and, List.set_cons_zero, List.set_cons_succ, List.setIfInBounds_toArray] at C
    have gW := Kp.mk (gA.out _ _ H (fun x hx => List.mem_cons_of_mem _ (List.mem_append_right _ (hK _ _ hL2 x hx))))
    gi_wp2
    gi_loopw [17, 8] (fun ix _ wr => DnRel w0 d t Lp pre (.blk bt #[.int .i64 tc, .int .i64 tn, .bool tm, .slice Bv bl cv, .slice A kl c] 41 :: M) ix wr) (fun ix _ _ => kl - (intOf ix).toNat)
    case atStart => exact DnRel.mk 0 _ _ (Nat.zero_le _) rfl (by simp [TI.is, Tree.tolds]) hL2 H
    case round =>
      clear H C gW
      obtain ⟨i, xs, L3, hi0, rfl, hxs, hL3, H⟩ := hrel
      have hi1 : i ≤ kl := by have := hkl0.out; omega
      simp only [List.cons_append] at H
      have C := Hp.facts H
      simp only [Facts, factsL, and_true, true_and, List.set_cons_zero, List.set_cons_succ, List.setIfInBounds_toArray] at C
      have hag := Kp.mk (gA.out _ _ H (fun x hx => List.mem_cons_of_mem _ (List.mem_append_right _ (hK _ _ hL3 x hx))))
      have gxs := Kp.mk hxs
      have gL3 := Kp.mk hL3
      clear hxs hL3 hL2 hi0
      by_cases hlt : i < kl
      · have hlt2 : i < t.kids.length := by have := hkl0.out; omega
        obtain ⟨b, o, rfl, hgl, hP, d0, d1, d2, d3, d4, q0, q1, q2, q3, q4, hkid⟩ := hk.out i hlt2
        have qa : ∀ {k : Nat} {u : Value}, w.cell? ⟨b, k, none⟩ = some u → _ := fun h => (cell_agree hag.out hP hgl).trans h
        have q0 := qa q0
        have q1 := qa q1
        have q2 := qa q2
        have q3 := qa q3
        have q4 := qa q4
        clear qa
        obtain ⟨x0, x1, x2, xA, xA2, xk, xc, xk2, xc2, rfl, rfl, rfl, rfl, rfl⟩ := hkid.forms
        have gk := Kp.mk hkid
        have gpre := Kp.mk (fun ys (hp : ys.map TI.is <+: t.kids[i].told (d + 1)) => show Good (pre ++ xs ++ ys) from by
          rw [List.append_assoc]
          refine gG.out _ ?_
          rw [List.map_append, gxs.out, gti.out, List.cons_append]
          have h2 := Tree.tolds_pre t.kids (d + 1) i hlt2 hp
          obtain ⟨r, hr⟩ := h2
          exact ⟨r, by rw [← hr]; simp⟩)
        have hih := fun M2 w2 (H2 : Hp w0 (M2 ++ L3) w2) => ih t.kids[i] [.int .i64 x0, .int .i64 x1, .bool x2, .slice xA xk xc, .slice xA2 xk2 xc2] (d + 1) (pre ++ xs) M2 L3 w2 (gk.out.move (gA.out _ _ H2 (fun x hx => List.mem_append_right _ (hK _ _ gL3.out x hx)))) gL3.out H2 gpre.out (gcn.out i hlt2)
        rw [show ((d + 1 : Nat) : Int) = (d : Int) + 1 by omega] at hih
        have hih := Kp.mk hih
        have gtk := Kp.mk (Tree.tolds_take t.kids (d + 1) i hlt2)
        generalize t.kids[i] = kid at hih gpre gk gtk
        clear hk ih hkid hP hgl hag
        (repeat' ((fail_if_success (with_reducible show bodyPost _ _ _ _ _ _)); first | ((with_reducible refine Hp.abs_allocIn H ?_); intro b' w' H' hb'; (try simp only [hb']); clear hb'; ((try simp only [List.set_cons_zero, List.set_cons_succ, List.setIfInBounds_toArray] at H'); clear C H; have H := H'; clear H'; have C := Hp.facts H; simp only [Facts, factsL, and_true, true_and, List.set_cons_zero, List.set_cons_succ, List.setIfInBounds_toArray] at C)) | ((with_reducible show wpListIn _ _ _ _ _ _ _ (World.setCell _ _ _)); (with_reducible apply Hp.abs_genIn H); (first | ((repeat (with_reducible apply Hp.set' 0)); (with_reducible exact H); (repeat rfl); intro w' H') | ((repeat (with_reducible apply Hp.set' 1)); (with_reducible exact H); (repeat rfl); intro w' H') | ((repeat (with_reducible apply Hp.set' 2)); (with_reducible exact H); (repeat rfl); intro w' H') | ((repeat (with_reducible apply Hp.set' 3)); (with_reducible exact H); (repeat rfl); intro w' H') | ((repeat (with_reducible apply Hp.set' 4)); (with_reducible exact H); (repeat rfl); intro w' H') | ((repeat (with_reducible apply Hp.set' 5)); (with_reducible exact H); (repeat rfl); intro w' H') | ((repeat (with_reducible apply Hp.set' 6)); (with_reducible exact H); (repeat rfl); intro w' H') | ((repeat (with_reducible apply Hp.set' 7)); (with_reducible exact H); (repeat rfl); intro w' H')); ((try simp only [List.set_cons_zero, List.set_cons_succ, List.setIfInBounds_toArray] at H'); clear C H; have H := H'; clear H'; have C := Hp.facts H; simp only [Facts, factsL, and_true, true_and, List.set_cons_zero, List.set_cons_succ, List.setIfInBounds_toArray] at C)) | (refine ⟨trivial, ?_⟩; gi_at_call 35; refine (callsIn_wide.2 (hih.out (.blk _ _ _ :: .blk _ _ _ :: M) _ H)).mono ?_) | go_values | gi_guarded | gi_step | gi_upon | gi_back | (simp only [Int.not_lt, Int.not_le] at *; go_simp) | (go_values <;> (try go_simp)) | (go_ite <;> go_prune <;> (try go_simp)) | (split <;> (first | (rename_i hx; exact (hx _ rfl).elim) | go_prune))))
        clear C
        rintro e X2 ⟨ys, L4, H4, (⟨rfl, hys, hL4⟩ | ⟨rfl, hgd, hL4⟩)⟩
        · have H := H4
          simp only [List.cons_append] at H
          have C := Hp.facts H
          simp only [Facts, factsL, and_true, true_and, List.set_cons_zero, List.set_cons_succ, List.setIfInBounds_toArray] at C
          clear H4
          gi_wp2
          refine ⟨DnRel.mk (i + 1) (xs ++ ys) L4 (by have := hkl0.out; omega) (by go_num) ?_ (by rw [← List.append_assoc]; exact hL4) H.tail, by simp [intOf]; omega⟩
          rw [List.map_append, gxs.out, hys, gtk.out, List.cons_append]
        · have H := H4
          simp only [List.cons_append] at H
          have C := Hp.facts H
          simp only [Facts, factsL, and_true, true_and, List.set_cons_zero, List.set_cons_succ, List.setIfInBounds_toArray] at C
          clear H4
          gi_wp2
          rw [hQ.out]
          exact ⟨xs ++ ys, L4, H.tail.tail, .inr ⟨rfl, by rw [← List.append_assoc]; exact hgd, by rw [← List.append_assoc]; exact hL4⟩⟩
      · have hik : i = t.kids.length := by have := hkl0.out; omega
        clear hk ih hag
        gi_wp2
        rw [hQ.out]
        exact ⟨xs, L3, H.tail, .inl ⟨rfl, by rw [gxs.out, gti.out, hik, List.take_length], gL3.out⟩⟩
  · have H := H2
    simp only [List.cons_append] at H
    clear H1 H2
    have C := Hp.facts H
    simp only [Facts, factsL, and_true, true_and, List.set_cons_zero, List.set_cons_succ, List.setIfInBounds_toArray] at C
    gi_wp2
    rw [hQ.out]
    exact ⟨[_], L', H.tail, .inr ⟨rfl, gG.out [_] (by rw [gti.out]; exact ⟨_, rfl⟩), hL2⟩⟩
end Go.Proofs.Ytogliinfdfkobaa

