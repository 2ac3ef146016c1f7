/- Lemmas and walks on the way to the seat's laws; each theorem says its own conditions. -/
import Derived.Test.YtogliinfdfkobaaI14
import Derived.Test.YtogliinfdfkobaaTreeW
import Derived.Test.YtogliinfdfkobaaH8
import Derived.Test.YtogliinfdfkobaaH14
import Derived.Test.YtogliinfdfkobaaI1
import Derived.Test.YtogliinfdfkobaaO23c
set_option linter.unusedSimpArgs false
set_option linter.unusedVariables false
set_option linter.unusedSimpArgs false
set_option linter.unusedVariables false
set_option maxRecDepth 100000
namespace Go.Proofs.Ytogliinfdfkobaa
open Go.RowKit Go.Mem Go.Reg Oct Hd Go.LawLift
theorem info_sp : (Try.prog.info? 56).map (fun i => (i.zero, i.size, i.bytes)) = some (some (.agg #[.int .i64 0, .int .i64 0]), 2, 16) := by kernel_rfl
/-- What a reader holds: its cursor and bytes, the count, the spans. -/
abbrev RdL (b : Nat) (v : Value) (l : List UInt8) (k : Nat) (bn bs cnt : Nat) (sv : Value) (sp : Sps) (M : List Ent) : List Ent :=
  .blk b #[v, .int .i64 (k : Int)] 112 :: .row 5 1 v l.length (l.map u8c) :: .blk bn #[.int .i64 (cnt : Int)] 3 :: .blk bs #[sv] 50 :: .row 56 2 sv cnt (pv (pz sp)) :: M
/-- What reading one tree leaves. -/
def OneP (w0 : World) (M : List Ent) (b bn bs cnt q : Nat) (v : Value) (l : List UInt8) (sp0 : Sps) (R : PR (Tree × Nat × Sps)) (e : Ending) (w' : World) : Prop :=
  (∀ er, R = .bad er → e = .returned (.tuple #[.agg #[.int .i64 0, .int .i64 0, .bool false, .slice none 0 0, .slice none 0 0], .int .i64 (er : Int)]) ∧ Hp w0 M w') ∧
  (∀ t k2 sp, R = .ok (t, k2, sp) → ∃ (cs' : List Value) (sv' : Value) (Os : List Ent), e = .returned (.tuple #[.agg cs'.toArray, .int .i64 0]) ∧ Hp w0 (RdL b v l k2 bn bs (cnt + sp.length) sv' (sp0 ++ sp) (M ++ Os)) w' ∧
    Firm w0 Os fun w => ItP (Kept 0 Os) w q t cs')
theorem OneP.bad {w0 : World} {M : List Ent} {b bn bs cnt q : Nat} {v : Value} {l : List UInt8} {sp0 : Sps} {R : PR (Tree × Nat × Sps)} {e : Ending} {w' : World} {er : Nat} (hR : R = .bad er)
    (he : e = .returned (.tuple #[.agg #[.int .i64 0, .int .i64 0, .bool false, .slice none 0 0, .slice none 0 0], .int .i64 (er : Int)])) (hb : Hp w0 M w') : OneP w0 M b bn bs cnt q v l sp0 R e w' := by
  subst hR
  exact ⟨fun er2 h => by injection h with h; subst h; exact ⟨he, hb⟩, fun t k2 sp h => by cases h⟩
theorem OneP.okk {w0 : World} {M : List Ent} {b bn bs cnt q : Nat} {v : Value} {l : List UInt8} {sp0 : Sps} {R : PR (Tree × Nat × Sps)} {e : Ending} {w' : World} {t : Tree} {k2 : Nat} {sp : Sps} (hR : R = .ok (t, k2, sp))
    (h : ∃ (cs' : List Value) (sv' : Value) (Os : List Ent), e = .returned (.tuple #[.agg cs'.toArray, .int .i64 0]) ∧ Hp w0 (RdL b v l k2 bn bs (cnt + sp.length) sv' (sp0 ++ sp) (M ++ Os)) w' ∧
    Firm w0 Os fun w => ItP (Kept 0 Os) w q t cs') : OneP w0 M b bn bs cnt q v l sp0 R e w' := by
  subst hR
  exact ⟨fun er2 h => (by cases h), fun t k2 sp h2 => by injection h2 with h2; simp only [Prod.mk.injEq] at h2; obtain ⟨rfl, rfl, rfl⟩ := h2; exact h⟩
/-- What making a cursor tells within a drawn region. -/
structure NewCurA (a q : Nat) (y : Value) (l : List UInt8) (w : World) : Prop where
  blk : w.heap[q]? = some (.cells #[y, .int .i64 0] 112 (0, 0))
  low : a ≤ q
  row : w.ownsRow a 5 1 y l.length (l.map u8c)
  ne : y.ownBlock ≠ some q
def NewCurJ (a : Nat) (l : List UInt8) (v : Value) (w : World) : Prop := ∃ q y, v = .pointer (some ⟨q, 0, none⟩) ∧ NewCurA a q y l w
theorem NewCurJ.mk {a : Nat} {l : List UInt8} {w w' : World} {q : Nat} {y : Value} (ha : a ≤ w.heap.size) (h : NewCur w w' q y l) : NewCurJ a l (.pointer (some ⟨q, 0, none⟩)) w' :=
  ⟨q, y, rfl, h.1, Nat.le_trans ha h.2.1, ⟨h.2.2.1.1, h.2.2.1.2.imp id fun ⟨g, cap, cur, e1, e2, r⟩ => ⟨g, cap, cur, e1, Nat.le_trans ha e2, r⟩⟩, h.2.2.2⟩
theorem NewCurJ.stay {a : Nat} {l : List UInt8} {v : Value} {w w' : World} (hs : AboveR a w w') (h : NewCurJ a l v w) : NewCurJ a l v w' := by
  obtain ⟨q, y, e, h1, h2, h3, h4⟩ := h
  exact ⟨q, y, e, (hs.2 q h2 (Array.getElem?_eq_some_iff.1 h1).1).trans h1, h2, (show RowS a 5 1 l.length (l.map u8c) y w' from RowS.stay hs h3), h4⟩
/-- The same within a value that holds the cursor. -/
def NewCurG (a : Nat) (l : List UInt8) (F : Value → Value) (v : Value) (w : World) : Prop := ∃ q y, v = F (.pointer (some ⟨q, 0, none⟩)) ∧ NewCurA a q y l w
theorem NewCurG.stay {a : Nat} {l : List UInt8} {F : Value → Value} {v : Value} {w w' : World} (hs : AboveR a w w') (h : NewCurG a l F v w) : NewCurG a l F v w' := by
  obtain ⟨q, y, e, h⟩ := h
  obtain ⟨q2, y2, e2, h2⟩ := NewCurJ.stay hs (⟨q, y, rfl, h⟩ : NewCurJ a l _ w)
  injection e2 with e2
  injection e2 with e2
  injection e2 with e2
  subst e2
  exact ⟨q, y2, e, h2⟩
theorem blk_blk_apart {w : World} {b k : Nat} {T U : TypeId} {c d : Array Value} (h : w.heap[b]? = some (.cells c T (0, 0))) (hk : w.heap[k]? = some (.cells d U (0, 0))) (hne : T ≠ U) :
    ∀ j, (Ent.blk b c T).fp = some j → (Ent.blk k d U).fp = some j → False := by
  intro j h1 h2
  simp only [Ent.fp, Option.some.injEq] at h1 h2
  subst h1 h2
  rw [h] at hk
  injection hk with hk
  injection hk with _ e
  exact hne e
theorem bs_row {w0 w : World} {L : List Ent} (H : Hp w0 L w) (j : Nat) {v : Value} {l : List UInt8} (hj : L[j]? = some (.row 5 1 v l.length (l.map u8c))) : Bs w v l := by
  have := ownsOf H j hj
  exact slice_of_own (by simpa using this)
/-- The contract of reading one, so many depths left. -/
def OneC (q : Nat) : Prop := ∀ (d : Nat) (w0 : World) (M : List Ent) (b bn bs : Nat) (l : List UInt8) (at0 k cnt : Nat) (v sv : Value) (sp0 : Sps) (w : World), d + q = 33 → k ≤ l.length → at0 + l.length ≤ 1000000 → cnt ≤ 10000 → sp0.length = cnt →
  Hp w0 (RdL b v l k bn bs cnt sv sp0 M) w → Calls Try.prog 51 #[.agg #[.pointer (some ⟨b, 0, none⟩), .int .i64 (at0 : Int), .pointer (some ⟨bn, 0, none⟩), .pointer (some ⟨bs, 0, none⟩)], .int .i64 (d : Int)] w
    (OneP w0 M b bn bs cnt q v l sp0 (oneR q l at0 k cnt))
/-- What a reader holds beside its cursor while the kids are read. -/
abbrev KdM (q k8 bx bz b bn bs : Nat) (rv v : Value) (l : List UInt8) (tc tn : Int) (at1 pe : Nat) (ts : List Tree) (vals : List Value) (M : List Ent) : List Ent :=
  .row 41 5 rv ts.length vals :: .blk k8 #[.pointer (some ⟨q, 0, none⟩), .int .i64 (at1 : Int), .pointer (some ⟨bn, 0, none⟩), .pointer (some ⟨bs, 0, none⟩)] 97 :: .blk bx #[.int .i64 tc, .int .i64 tn, .bool true, .slice none 0 0, rv] 41 ::
    .blk bz #[.int .i64 0, .int .i64 0, .bool false, .slice none 0 0, .slice none 0 0] 41 :: .blk b #[v, .int .i64 (pe : Int)] 112 :: .row 5 1 v l.length (l.map u8c) :: M
theorem _root_.Go.Mem.Hp.moveTo5 {w0 w : World} {x a b c d e : Ent} {M : List Ent} (H : Hp w0 (x :: a :: b :: c :: d :: e :: M) w) : Hp w0 (a :: b :: c :: d :: e :: x :: M) w :=
  H.perm (List.perm_middle (l₁ := [a, b, c, d, e]) (l₂ := M)).symm
/-- The kids that have been read so far. -/
def KdRel (w0 : World) (M : List Ent) (q1 k7 k8 bx bz b bn bs : Nat) (y v : Value) (c l : List UInt8) (sp0 : Sps) (s1 : Nat × Nat) (tc tn : Int) (at1 pe cnt1 : Nat) (wr : World) : Prop :=
  ∃ (kk c2 g : Nat) (ts : List Tree) (sp2 : Sps) (vals : List Value) (rv sv2 : Value) (Os : List Ent), kk ≤ c.length ∧ c2 ≤ 10000 ∧ (sp0 ++ s1 :: sp2).length = c2 ∧ c.length - kk < g ∧ ts.length ≤ sp2.length ∧
    kidsR (oneR q1 c at1) c.length (c.length + 1) 0 cnt1 = (kidsR (oneR q1 c at1) c.length g kk c2).glue ts sp2 ∧ KidsL w0 0 q1 ts vals Os ∧
    Hp w0 (RdL k7 y c kk bn bs c2 sv2 (sp0 ++ s1 :: sp2) (KdM k7 k8 bx bz b bn bs rv v l tc tn at1 pe ts vals (M ++ Os))) wr
theorem KdRel.mk {w0 : World} {M : List Ent} {q1 k7 k8 bx bz b bn bs : Nat} {y v : Value} {c l : List UInt8} {sp0 : Sps} {s1 : Nat × Nat} {tc tn : Int} {at1 pe cnt1 : Nat} {wr : World}
  (kk c2 g : Nat) (ts : List Tree) (sp2 : Sps) (vals : List Value) (rv sv2 : Value) (Os : List Ent) (h1 : kk ≤ c.length) (h2 : c2 ≤ 10000) (h3 : (sp0 ++ s1 :: sp2).length = c2) (h4 : c.length - kk < g) (h5 : ts.length ≤ sp2.length)
    (h6 : kidsR (oneR q1 c at1) c.length (c.length + 1) 0 cnt1 = (kidsR (oneR q1 c at1) c.length g kk c2).glue ts sp2) (h7 : KidsL w0 0 q1 ts vals Os)
    (h8 : Hp w0 (RdL k7 y c kk bn bs c2 sv2 (sp0 ++ s1 :: sp2) (KdM k7 k8 bx bz b bn bs rv v l tc tn at1 pe ts vals (M ++ Os))) wr) : KdRel w0 M q1 k7 k8 bx bz b bn bs y v c l sp0 s1 tc tn at1 pe cnt1 wr :=
  ⟨kk, c2, g, ts, sp2, vals, rv, sv2, Os, h1, h2, h3, h4, h5, h6, h7, h8⟩
def recOf : Nat → List UInt8 → Nat → Nat → Nat → PR (Tree × Nat × Sps)
  | 0 => fun _ _ _ _ => .bad 99
  | q + 1 => oneR q
theorem oneR_is (q : Nat) (l : List UInt8) (at0 k cnt : Nat) : oneR q l at0 k cnt = partR q (recOf q) l at0 k cnt := by
  cases q <;> rfl
set_option maxHeartbeats 6400000 in
theorem one_step (q : Nat) (ih : ∀ q', q = q' + 1 → OneC q') : OneC q := by
  intro d w0 M b bn bs l at0 k cnt v sv sp0 w hqd hk hl hc hsp H
  obtain ⟨i0, hi, hz0, hz1, hz2⟩ := info_parts info_sp
  rw [oneR_is]
  have hl1 : l.length ≤ 1000000 := by omega
  have hp := rdHead_le hk
  have hlt := @rdHead_lt l k hk
  have hRd := fun w1 (h : Cur w1 b l k v) => hRead_any b l k v w1 h
  obtain ⟨R, hR⟩ : ∃ R, R = partR q (recOf q) l at0 k cnt := ⟨_, rfl⟩
  rw [← hR]
  unfold partR at hR
  generalize rdHead l k = hd at hR hp hRd hlt
  obtain ⟨⟨tc, tn, tm⟩, z, er, po⟩ := hd
  simp only [] at hR hp hRd hlt
  replace hR := Kp.mk hR
  replace hsp := Kp.mk hsp
  replace hlt := Kp.mk hlt
  simp only [RdL] at H
  have C := Hp.facts H
  simp only [Facts, factsL, and_true, true_and, List.set_cons_zero, List.set_cons_succ, List.setIfInBounds_toArray] at C
  obtain ⟨Q, hQ⟩ : ∃ Q, Q = OneP w0 M b bn bs cnt q v l sp0 R := ⟨_, rfl⟩
  rw [← hQ]
  replace hQ := Kp.mk hQ
  obtain ⟨n, hn⟩ : ∃ n, n = l.length := ⟨_, rfl⟩
  go_enter Try.func51, Try.ntmps51
  (repeat' ((fail_if_success (with_reducible show bodyPost _ _ _ _ _ _)); first | ((with_reducible refine Hp.abs_alloc H ?_); intro b' w' H' hb'; (try simp only [hb']); clear hb'; ((try simp only [List.set_cons_zero, List.set_cons_succ, List.setIfInBounds_toArray] at H'); clear C H; have H := H'; clear H'; have C := Hp.facts H; simp only [Facts, factsL, and_true, true_and, List.set_cons_zero, List.set_cons_succ, List.setIfInBounds_toArray] at C)) | ((with_reducible show wpList _ _ _ _ _ (World.setCell _ _ _)); (with_reducible apply Hp.abs_gen H); (first | ((repeat (with_reducible apply Hp.set' 0)); (with_reducible exact H); (repeat rfl); intro w' H') | ((repeat (with_reducible apply Hp.set' 1)); (with_reducible exact H); (repeat rfl); intro w' H') | ((repeat (with_reducible apply Hp.set' 2)); (with_reducible exact H); (repeat rfl); intro w' H') | ((repeat (with_reducible apply Hp.set' 3)); (with_reducible exact H); (repeat rfl); intro w' H') | ((repeat (with_reducible apply Hp.set' 4)); (with_reducible exact H); (repeat rfl); intro w' H') | ((repeat (with_reducible apply Hp.set' 5)); (with_reducible exact H); (repeat rfl); intro w' H') | ((repeat (with_reducible apply Hp.set' 6)); (with_reducible exact H); (repeat rfl); intro w' H') | ((repeat (with_reducible apply Hp.set' 7)); (with_reducible exact H); (repeat rfl); intro w' H') | ((repeat (with_reducible apply Hp.set' 8)); (with_reducible exact H); (repeat rfl); intro w' H') | ((repeat (with_reducible apply Hp.set' 9)); (with_reducible exact H); (repeat rfl); intro w' H')); ((try simp only [List.set_cons_zero, List.set_cons_succ, List.setIfInBounds_toArray] at H'); clear C H; have H := H'; clear H'; have C := Hp.facts H; simp only [Facts, factsL, and_true, true_and, List.set_cons_zero, List.set_cons_succ, List.setIfInBounds_toArray] at C)) | go_values | go_skip | go_guarded | go_step | go_upon | go_back | (simp only [Int.not_lt, Int.not_le] at *; go_simp) | (go_values <;> (try go_simp)) | (go_ite <;> go_prune <;> (try go_simp)) | (split <;> (first | (rename_i hx; exact (hx _ rfl).elim) | go_prune))))
  try simp (disch := omega) only [decide_eq_true, decide_eq_false]
  obtain ⟨wR1, rfl⟩ := Hp.nameW H
  apply region_n (frm wR1.heap.size (fun _ => Hp _ _)) (frm_ok ?hfs_1) frm_sz [] [.light 0 0, .light 0 0, .light 0 0, .light 0 0, .light 0 0, .light 0 0, .light 0 0] [false, false, false, false, false, false, false] 7 124 [] [some 17, some 18, some 19, some 20, some 21, some 22, some 6] [[], [0], [], [2], [3], [1, 4], [5]] [Eq1 _, Eq1 _, Eq1 _, Eq1 _, Eq1 _, Eq1 _, Eq1 _] ?hq1_1 ?hq2_1 ?hq3_1 ?hq4_1 ?hq5_1 ?hq6_1 _ ?hA_1 ?hst_1 ?h0_1 ?hsteps_1 ?hend_1
  case hq1_1 => kernel_rfl
  case hq2_1 => kernel_rfl
  case hq3_1 => kernel_rfl
  case hq5_1 => kernel_rfl
  case hq4_1 => rfl
  case hq6_1 => rfl
  case hA_1 => intro vs; simp only [fillD, Nat.reduceAdd, Act.put, List.setIfInBounds_toArray, List.set_cons_zero, List.set_cons_succ]; rfl
  case h0_1 => exact H.drew
  case hfs_1 => exact fun _ _ _ hb h => Hp.step h hb
  case hsteps_1 =>
    refine ⟨?_, ?_, ?_, ?_, ?_, ?_, ?_, trivial⟩
    · intro p vs w' K hJ hp1 hp2 hS hR hK
      rw [if_pos (by rfl)]
      go_step
      exact hK.out _ _ (Below.refl _ _) Eq1.mk Fresh.no
    · intro p vs w' K hJ hp1 hp2 hS hR hK
      simp only [DepJ, List.getD_cons_zero, List.getD_cons_succ] at hJ
      obtain ⟨j0, -⟩ := hJ
      have j0 := Eq1.out j0
      simp only [j0] at hK ⊢
      rw [if_pos (by rfl)]
      have C := Hp.facts hS
      simp only [Facts, factsL, and_true, true_and, List.set_cons_zero, List.set_cons_succ, List.setIfInBounds_toArray] at C
      have hsz := hR.1
      go_step
      exact hK.out _ _ (Below.refl _ _) Eq1.mk Fresh.no
    · intro p vs w' K hJ hp1 hp2 hS hR hK
      rw [if_pos (by rfl)]
      go_step
      exact hK.out _ _ (Below.refl _ _) Eq1.mk Fresh.no
    · intro p vs w' K hJ hp1 hp2 hS hR hK
      simp only [DepJ, List.getD_cons_zero, List.getD_cons_succ] at hJ
      obtain ⟨j2, -⟩ := hJ
      have j2 := Eq1.out j2
      simp only [j2] at hK ⊢
      rw [if_pos (by rfl)]
      have C := Hp.facts hS
      simp only [Facts, factsL, and_true, true_and, List.set_cons_zero, List.set_cons_succ, List.setIfInBounds_toArray] at C
      have hsz := hR.1
      go_step
      exact hK.out _ _ (Below.refl _ _) Eq1.mk Fresh.no
    · intro p vs w' K hJ hp1 hp2 hS hR hK
      simp only [DepJ, List.getD_cons_zero, List.getD_cons_succ] at hJ
      obtain ⟨j3, -⟩ := hJ
      have j3 := Eq1.out j3
      simp only [j3] at hK ⊢
      rw [if_pos (by rfl)]
      have C := Hp.facts hS
      simp only [Facts, factsL, and_true, true_and, List.set_cons_zero, List.set_cons_succ, List.setIfInBounds_toArray] at C
      have hsz := hR.1
      go_step
      refine (at_any b l k v _ (cur_hp (show Hp _ _ _ from hS) 2 3 rfl rfl hk hl1)).mono ?_
      rintro e' w'' ⟨rfl, hb⟩
      exact hK.out _ _ hb Eq1.mk Fresh.no
    · intro p vs w' K hJ hp1 hp2 hS hR hK
      simp only [DepJ, List.getD_cons_zero, List.getD_cons_succ] at hJ
      obtain ⟨j1, j4, -⟩ := hJ
      have j1 := Eq1.out j1
      have j4 := Eq1.out j4
      simp only [j1, j4] at hK ⊢
      rw [if_pos (by rfl)]
      go_step
      exact hK.out _ _ (Below.refl _ _) Eq1.mk Fresh.no
    · intro p vs w' K hJ hp1 hp2 hS hR hK
      simp only [DepJ, List.getD_cons_zero, List.getD_cons_succ] at hJ
      obtain ⟨j5, -⟩ := hJ
      have j5 := Eq1.out j5
      simp only [j5] at hK ⊢
      rw [if_pos (by rfl)]
      go_step
      exact hK.out _ _ (Below.refl _ _) Eq1.mk Fresh.no
  case hst_1 => refine ⟨fun _ _ _ _ h => h, fun _ _ _ _ h => h, fun _ _ _ _ h => h, fun _ _ _ _ h => h, fun _ _ _ _ h => h, fun _ _ _ _ h => h, fun _ _ _ _ h => h, trivial⟩
  intro vs w' hJ hD hS hR
  simp only [AllJ, Nat.reduceAdd] at hJ
  obtain ⟨v0, v1, v2, v3, v4, v5, v6, -⟩ := hJ
  clear C
  replace v0 := Eq1.out v0
  replace v1 := Eq1.out v1
  replace v2 := Eq1.out v2
  replace v3 := Eq1.out v3
  replace v4 := Eq1.out v4
  replace v5 := Eq1.out v5
  replace v6 := Eq1.out v6
  simp only [v0, v1, v2, v3, v4, v5, v6, List.drop_succ_cons, List.drop_zero]
  refine wpList_nil' ?_
  have H' : Hp _ _ _ := hS
  clear hD hR hS v0 v1 v2 v3 v4 v5 v6
  clear vs H
  have H := H'; clear H'; have C := Hp.facts H; simp only [Facts, factsL, and_true, true_and, List.set_cons_zero, List.set_cons_succ, List.setIfInBounds_toArray] at C

  (repeat' ((fail_if_success (with_reducible show bodyPost _ _ _ _ _ _)); first | ((with_reducible refine Hp.abs_alloc H ?_); intro b' w' H' hb'; (try simp only [hb']); clear hb'; ((try simp only [List.set_cons_zero, List.set_cons_succ, List.setIfInBounds_toArray] at H'); clear C H; have H := H'; clear H'; have C := Hp.facts H; simp only [Facts, factsL, and_true, true_and, List.set_cons_zero, List.set_cons_succ, List.setIfInBounds_toArray] at C)) | ((with_reducible show wpList _ _ _ _ _ (World.setCell _ _ _)); (with_reducible apply Hp.abs_gen H); (first | ((repeat (with_reducible apply Hp.set' 0)); (with_reducible exact H); (repeat rfl); intro w' H') | ((repeat (with_reducible apply Hp.set' 1)); (with_reducible exact H); (repeat rfl); intro w' H') | ((repeat (with_reducible apply Hp.set' 2)); (with_reducible exact H); (repeat rfl); intro w' H') | ((repeat (with_reducible apply Hp.set' 3)); (with_reducible exact H); (repeat rfl); intro w' H') | ((repeat (with_reducible apply Hp.set' 4)); (with_reducible exact H); (repeat rfl); intro w' H') | ((repeat (with_reducible apply Hp.set' 5)); (with_reducible exact H); (repeat rfl); intro w' H') | ((repeat (with_reducible apply Hp.set' 6)); (with_reducible exact H); (repeat rfl); intro w' H') | ((repeat (with_reducible apply Hp.set' 7)); (with_reducible exact H); (repeat rfl); intro w' H') | ((repeat (with_reducible apply Hp.set' 8)); (with_reducible exact H); (repeat rfl); intro w' H') | ((repeat (with_reducible apply Hp.set' 9)); (with_reducible exact H); (repeat rfl); intro w' H')); ((try simp only [List.set_cons_zero, List.set_cons_succ, List.setIfInBounds_toArray] at H'); clear C H; have H := H'; clear H'; have C := Hp.facts H; simp only [Facts, factsL, and_true, true_and, List.set_cons_zero, List.set_cons_succ, List.setIfInBounds_toArray] at C)) | go_values | go_skip | go_guarded | go_step | go_upon | go_back | (simp only [Int.not_lt, Int.not_le] at *; go_simp) | (go_values <;> (try go_simp)) | (go_ite <;> go_prune <;> (try go_simp)) | (split <;> (first | (rename_i hx; exact (hx _ rfl).elim) | go_prune))))
  (obtain ⟨bz, rfl⟩ := Hp.name H 0 rfl; obtain ⟨br, rfl⟩ := Hp.name H 1 rfl)
  refine (hRd _ (cur_hp H 2 3 rfl rfl hk hl1)).mono ?_
  rintro e' w1 ⟨rfl, mm⟩
  have H' := moved_hp H 2 rfl mm
  clear mm hRd
  ((try simp only [List.set_cons_zero, List.set_cons_succ, List.setIfInBounds_toArray] at H'); clear C H; have H := H'; clear H'; have C := Hp.facts H; simp only [Facts, factsL, and_true, true_and, List.set_cons_zero, List.set_cons_succ, List.setIfInBounds_toArray] at C)
  have hk2 := hp.1
  by_cases h0 : er = 0
  · subst h0
    have e0 : (((0 : Nat) : Int) != 0) = false := by simp
    replace hlt := Kp.mk (hlt.out rfl)
    by_cases hz : l.length - po < z
    · have hzi : (l.length : Int) - (po : Int) < (z : Int) := by omega
      have gR : Kp (R = .bad 3) := ⟨by rw [hR.out, if_neg (by simp), if_pos hz]⟩
      clear hR hz hlt
      (repeat' ((fail_if_success (with_reducible show bodyPost _ _ _ _ _ _)); first | ((with_reducible refine Hp.abs_alloc H ?_); intro b' w' H' hb'; (try simp only [hb']); clear hb'; ((try simp only [List.set_cons_zero, List.set_cons_succ, List.setIfInBounds_toArray] at H'); clear C H; have H := H'; clear H'; have C := Hp.facts H; simp only [Facts, factsL, and_true, true_and, List.set_cons_zero, List.set_cons_succ, List.setIfInBounds_toArray] at C)) | ((with_reducible show wpList _ _ _ _ _ (World.setCell _ _ _)); (with_reducible apply Hp.abs_gen H); (first | ((repeat (with_reducible apply Hp.set' 0)); (with_reducible exact H); (repeat rfl); intro w' H') | ((repeat (with_reducible apply Hp.set' 1)); (with_reducible exact H); (repeat rfl); intro w' H') | ((repeat (with_reducible apply Hp.set' 2)); (with_reducible exact H); (repeat rfl); intro w' H') | ((repeat (with_reducible apply Hp.set' 3)); (with_reducible exact H); (repeat rfl); intro w' H') | ((repeat (with_reducible apply Hp.set' 4)); (with_reducible exact H); (repeat rfl); intro w' H') | ((repeat (with_reducible apply Hp.set' 5)); (with_reducible exact H); (repeat rfl); intro w' H') | ((repeat (with_reducible apply Hp.set' 6)); (with_reducible exact H); (repeat rfl); intro w' H') | ((repeat (with_reducible apply Hp.set' 7)); (with_reducible exact H); (repeat rfl); intro w' H') | ((repeat (with_reducible apply Hp.set' 8)); (with_reducible exact H); (repeat rfl); intro w' H') | ((repeat (with_reducible apply Hp.set' 9)); (with_reducible exact H); (repeat rfl); intro w' H')); ((try simp only [List.set_cons_zero, List.set_cons_succ, List.setIfInBounds_toArray] at H'); clear C H; have H := H'; clear H'; have C := Hp.facts H; simp only [Facts, factsL, and_true, true_and, List.set_cons_zero, List.set_cons_succ, List.setIfInBounds_toArray] at C)) | (go_at_call 52; refine (left_any b l po v _ (cur_hp H 3 4 rfl rfl hk2 hl1)).mono ?_; rintro e' w' ⟨rfl, hb'⟩; (have H' := Hp.step H hb'; clear hb'; ((try simp only [List.set_cons_zero, List.set_cons_succ, List.setIfInBounds_toArray] at H'); clear C H; have H := H'; clear H'; have C := Hp.facts H; simp only [Facts, factsL, and_true, true_and, List.set_cons_zero, List.set_cons_succ, List.setIfInBounds_toArray] at C))) | go_values | go_skip | go_guarded | go_step | go_upon | go_back | (simp only [Int.not_lt, Int.not_le] at *; go_simp) | (go_values <;> (try go_simp)) | (go_ite <;> go_prune <;> (try go_simp)) | (split <;> (first | (rename_i hx; exact (hx _ rfl).elim) | go_prune))))
      refine bodyPost_ret (v := .tuple #[.agg #[.int .i64 0, .int .i64 0, .bool false, .slice none 0 0, .slice none 0 0], .int .i64 3]) (by simp [results, go_sem, C]) rfl ?_
      rw [hQ.out]
      exact OneP.bad gR.out rfl (Hp.drops (M := M) [_, _, _, _, _, _, _, _] [] H (List.nil_sublist _))
    · have hzi : ¬ (l.length : Int) - (po : Int) < (z : Int) := by omega
      by_cases hq0 : q = 0
      · have gR : Kp (R = .bad 8) := ⟨by rw [hR.out, if_neg (by simp), if_neg hz, if_pos hq0]⟩
        obtain rfl : d = 33 := by omega
        clear hR hz hlt
        (repeat' ((fail_if_success (with_reducible show bodyPost _ _ _ _ _ _)); first | ((with_reducible refine Hp.abs_alloc H ?_); intro b' w' H' hb'; (try simp only [hb']); clear hb'; ((try simp only [List.set_cons_zero, List.set_cons_succ, List.setIfInBounds_toArray] at H'); clear C H; have H := H'; clear H'; have C := Hp.facts H; simp only [Facts, factsL, and_true, true_and, List.set_cons_zero, List.set_cons_succ, List.setIfInBounds_toArray] at C)) | ((with_reducible show wpList _ _ _ _ _ (World.setCell _ _ _)); (with_reducible apply Hp.abs_gen H); (first | ((repeat (with_reducible apply Hp.set' 0)); (with_reducible exact H); (repeat rfl); intro w' H') | ((repeat (with_reducible apply Hp.set' 1)); (with_reducible exact H); (repeat rfl); intro w' H') | ((repeat (with_reducible apply Hp.set' 2)); (with_reducible exact H); (repeat rfl); intro w' H') | ((repeat (with_reducible apply Hp.set' 3)); (with_reducible exact H); (repeat rfl); intro w' H') | ((repeat (with_reducible apply Hp.set' 4)); (with_reducible exact H); (repeat rfl); intro w' H') | ((repeat (with_reducible apply Hp.set' 5)); (with_reducible exact H); (repeat rfl); intro w' H') | ((repeat (with_reducible apply Hp.set' 6)); (with_reducible exact H); (repeat rfl); intro w' H') | ((repeat (with_reducible apply Hp.set' 7)); (with_reducible exact H); (repeat rfl); intro w' H') | ((repeat (with_reducible apply Hp.set' 8)); (with_reducible exact H); (repeat rfl); intro w' H') | ((repeat (with_reducible apply Hp.set' 9)); (with_reducible exact H); (repeat rfl); intro w' H')); ((try simp only [List.set_cons_zero, List.set_cons_succ, List.setIfInBounds_toArray] at H'); clear C H; have H := H'; clear H'; have C := Hp.facts H; simp only [Facts, factsL, and_true, true_and, List.set_cons_zero, List.set_cons_succ, List.setIfInBounds_toArray] at C)) | (go_at_call 52; refine (left_any b l po v _ (cur_hp H 3 4 rfl rfl hk2 hl1)).mono ?_; rintro e' w' ⟨rfl, hb'⟩; (have H' := Hp.step H hb'; clear hb'; ((try simp only [List.set_cons_zero, List.set_cons_succ, List.setIfInBounds_toArray] at H'); clear C H; have H := H'; clear H'; have C := Hp.facts H; simp only [Facts, factsL, and_true, true_and, List.set_cons_zero, List.set_cons_succ, List.setIfInBounds_toArray] at C))) | go_values | go_skip | go_guarded | go_step | go_upon | go_back | (simp only [Int.not_lt, Int.not_le] at *; go_simp) | (go_values <;> (try go_simp)) | (go_ite <;> go_prune <;> (try go_simp)) | (split <;> (first | (rename_i hx; exact (hx _ rfl).elim) | go_prune))))
        refine bodyPost_ret (v := .tuple #[.agg #[.int .i64 0, .int .i64 0, .bool false, .slice none 0 0, .slice none 0 0], .int .i64 8]) (by simp [results, go_sem, C]) rfl ?_
        rw [hQ.out]
        exact OneP.bad gR.out rfl (Hp.drops (M := M) [_, _, _, _, _, _, _, _] [] H (List.nil_sublist _))
      · have hd32 : ¬ (32 : Int) < (d : Int) := by omega
        by_cases hc0 : cnt = 10000
        · have gR : Kp (R = .bad 2) := ⟨by rw [hR.out, if_neg (by simp), if_neg hz, if_neg hq0, if_pos hc0]⟩
          have e1 : (((10000 : Nat) : Int) == 10000) = true := by decide
          subst hc0
          clear hR hz hlt
          (repeat' ((fail_if_success (with_reducible show bodyPost _ _ _ _ _ _)); first | ((with_reducible refine Hp.abs_alloc H ?_); intro b' w' H' hb'; (try simp only [hb']); clear hb'; ((try simp only [List.set_cons_zero, List.set_cons_succ, List.setIfInBounds_toArray] at H'); clear C H; have H := H'; clear H'; have C := Hp.facts H; simp only [Facts, factsL, and_true, true_and, List.set_cons_zero, List.set_cons_succ, List.setIfInBounds_toArray] at C)) | ((with_reducible show wpList _ _ _ _ _ (World.setCell _ _ _)); (with_reducible apply Hp.abs_gen H); (first | ((repeat (with_reducible apply Hp.set' 0)); (with_reducible exact H); (repeat rfl); intro w' H') | ((repeat (with_reducible apply Hp.set' 1)); (with_reducible exact H); (repeat rfl); intro w' H') | ((repeat (with_reducible apply Hp.set' 2)); (with_reducible exact H); (repeat rfl); intro w' H') | ((repeat (with_reducible apply Hp.set' 3)); (with_reducible exact H); (repeat rfl); intro w' H') | ((repeat (with_reducible apply Hp.set' 4)); (with_reducible exact H); (repeat rfl); intro w' H') | ((repeat (with_reducible apply Hp.set' 5)); (with_reducible exact H); (repeat rfl); intro w' H') | ((repeat (with_reducible apply Hp.set' 6)); (with_reducible exact H); (repeat rfl); intro w' H') | ((repeat (with_reducible apply Hp.set' 7)); (with_reducible exact H); (repeat rfl); intro w' H') | ((repeat (with_reducible apply Hp.set' 8)); (with_reducible exact H); (repeat rfl); intro w' H') | ((repeat (with_reducible apply Hp.set' 9)); (with_reducible exact H); (repeat rfl); intro w' H')); ((try simp only [List.set_cons_zero, List.set_cons_succ, List.setIfInBounds_toArray] at H'); clear C H; have H := H'; clear H'; have C := Hp.facts H; simp only [Facts, factsL, and_true, true_and, List.set_cons_zero, List.set_cons_succ, List.setIfInBounds_toArray] at C)) | (go_at_call 52; refine (left_any b l po v _ (cur_hp H 3 4 rfl rfl hk2 hl1)).mono ?_; rintro e' w' ⟨rfl, hb'⟩; (have H' := Hp.step H hb'; clear hb'; ((try simp only [List.set_cons_zero, List.set_cons_succ, List.setIfInBounds_toArray] at H'); clear C H; have H := H'; clear H'; have C := Hp.facts H; simp only [Facts, factsL, and_true, true_and, List.set_cons_zero, List.set_cons_succ, List.setIfInBounds_toArray] at C))) | go_values | go_skip | go_guarded | go_step | go_upon | go_back | (simp only [Int.not_lt, Int.not_le] at *; go_simp) | (go_values <;> (try go_simp)) | (go_ite <;> go_prune <;> (try go_simp)) | (split <;> (first | (rename_i hx; exact (hx _ rfl).elim) | go_prune))))
          refine bodyPost_ret (v := .tuple #[.agg #[.int .i64 0, .int .i64 0, .bool false, .slice none 0 0, .slice none 0 0], .int .i64 2]) (by simp [results, go_sem, C]) rfl ?_
          rw [hQ.out]
          exact OneP.bad gR.out rfl (Hp.drops (M := M) [_, _, _, _, _, _, _, _] [] H (List.nil_sublist _))
        · have e1 : ((cnt : Int) == 10000) = false := by simp; omega
          replace hR := Kp.mk (hR.out.trans (by rw [if_neg (show ¬ (0 ≠ 0) by simp), if_neg hz, if_neg hq0, if_neg hc0]))
          (repeat' ((fail_if_success (with_reducible show bodyPost _ _ _ _ _ _)); first | ((with_reducible refine Hp.abs_alloc H ?_); intro b' w' H' hb'; (try simp only [hb']); clear hb'; ((try simp only [List.set_cons_zero, List.set_cons_succ, List.setIfInBounds_toArray] at H'); clear C H; have H := H'; clear H'; have C := Hp.facts H; simp only [Facts, factsL, and_true, true_and, List.set_cons_zero, List.set_cons_succ, List.setIfInBounds_toArray] at C)) | ((with_reducible show wpList _ _ _ _ _ (World.setCell _ _ _)); (with_reducible apply Hp.abs_gen H); (first | ((repeat (with_reducible apply Hp.set' 0)); (with_reducible exact H); (repeat rfl); intro w' H') | ((repeat (with_reducible apply Hp.set' 1)); (with_reducible exact H); (repeat rfl); intro w' H') | ((repeat (with_reducible apply Hp.set' 2)); (with_reducible exact H); (repeat rfl); intro w' H') | ((repeat (with_reducible apply Hp.set' 3)); (with_reducible exact H); (repeat rfl); intro w' H') | ((repeat (with_reducible apply Hp.set' 4)); (with_reducible exact H); (repeat rfl); intro w' H') | ((repeat (with_reducible apply Hp.set' 5)); (with_reducible exact H); (repeat rfl); intro w' H') | ((repeat (with_reducible apply Hp.set' 6)); (with_reducible exact H); (repeat rfl); intro w' H') | ((repeat (with_reducible apply Hp.set' 7)); (with_reducible exact H); (repeat rfl); intro w' H') | ((repeat (with_reducible apply Hp.set' 8)); (with_reducible exact H); (repeat rfl); intro w' H') | ((repeat (with_reducible apply Hp.set' 9)); (with_reducible exact H); (repeat rfl); intro w' H')); ((try simp only [List.set_cons_zero, List.set_cons_succ, List.setIfInBounds_toArray] at H'); clear C H; have H := H'; clear H'; have C := Hp.facts H; simp only [Facts, factsL, and_true, true_and, List.set_cons_zero, List.set_cons_succ, List.setIfInBounds_toArray] at C)) | (go_at_call 52; refine (left_any b l po v _ (cur_hp H 3 4 rfl rfl hk2 hl1)).mono ?_; rintro e' w' ⟨rfl, hb'⟩; (have H' := Hp.step H hb'; clear hb'; ((try simp only [List.set_cons_zero, List.set_cons_succ, List.setIfInBounds_toArray] at H'); clear C H; have H := H'; clear H'; have C := Hp.facts H; simp only [Facts, factsL, and_true, true_and, List.set_cons_zero, List.set_cons_succ, List.setIfInBounds_toArray] at C))) | go_values | go_skip | go_guarded | go_step | go_upon | go_back | (simp only [Int.not_lt, Int.not_le] at *; go_simp) | (go_values <;> (try go_simp)) | (go_ite <;> go_prune <;> (try go_simp)) | (split <;> (first | (rename_i hx; exact (hx _ rfl).elim) | go_prune))))
          (obtain ⟨bg, rfl⟩ := Hp.name H 0 rfl)
          try simp (disch := omega) only [decide_eq_true, decide_eq_false]
          obtain ⟨wR12, rfl⟩ := Hp.nameW H
          apply region_n (frm wR12.heap.size (fun _ => Hp _ _)) (frm_ok ?hfs_2) frm_sz [] [.light 0 0, .light 0 0, .light 0 0, .light 0 0, .light 0 0, .light 0 0, .light 0 0] [false, false, false, false, false, false, false] 7 124 [] [some 59, some 60, some 61, some 62, some 63, some 64, some 10] [[], [0], [], [2], [3], [1, 4], [5]] [Eq1 _, Eq1 _, Eq1 _, Eq1 _, Eq1 _, Eq1 _, Eq1 _] ?hq1_2 ?hq2_2 ?hq3_2 ?hq4_2 ?hq5_2 ?hq6_2 _ ?hA_2 ?hst_2 ?h0_2 ?hsteps_2 ?hend_2
          case hq1_2 => kernel_rfl
          case hq2_2 => kernel_rfl
          case hq3_2 => kernel_rfl
          case hq5_2 => kernel_rfl
          case hq4_2 => rfl
          case hq6_2 => rfl
          case hA_2 => intro vs; simp only [fillD, Nat.reduceAdd, Act.put, List.setIfInBounds_toArray, List.set_cons_zero, List.set_cons_succ]; rfl
          case h0_2 => exact H.drew
          case hfs_2 => exact fun _ _ _ hb h => Hp.step h hb
          case hsteps_2 =>
            refine ⟨?_, ?_, ?_, ?_, ?_, ?_, ?_, trivial⟩
            · intro p vs w' K hJ hp1 hp2 hS hR hK
              rw [if_pos (by rfl)]
              go_step
              exact hK.out _ _ (Below.refl _ _) Eq1.mk Fresh.no
            · intro p vs w' K hJ hp1 hp2 hS hR hK
              simp only [DepJ, List.getD_cons_zero, List.getD_cons_succ] at hJ
              obtain ⟨j0, -⟩ := hJ
              have j0 := Eq1.out j0
              simp only [j0] at hK ⊢
              rw [if_pos (by rfl)]
              have C := Hp.facts hS
              simp only [Facts, factsL, and_true, true_and, List.set_cons_zero, List.set_cons_succ, List.setIfInBounds_toArray] at C
              have hsz := hR.1
              go_step
              exact hK.out _ _ (Below.refl _ _) Eq1.mk Fresh.no
            · intro p vs w' K hJ hp1 hp2 hS hR hK
              rw [if_pos (by rfl)]
              go_step
              exact hK.out _ _ (Below.refl _ _) Eq1.mk Fresh.no
            · intro p vs w' K hJ hp1 hp2 hS hR hK
              simp only [DepJ, List.getD_cons_zero, List.getD_cons_succ] at hJ
              obtain ⟨j2, -⟩ := hJ
              have j2 := Eq1.out j2
              simp only [j2] at hK ⊢
              rw [if_pos (by rfl)]
              have C := Hp.facts hS
              simp only [Facts, factsL, and_true, true_and, List.set_cons_zero, List.set_cons_succ, List.setIfInBounds_toArray] at C
              have hsz := hR.1
              go_step
              exact hK.out _ _ (Below.refl _ _) Eq1.mk Fresh.no
            · intro p vs w' K hJ hp1 hp2 hS hR hK
              simp only [DepJ, List.getD_cons_zero, List.getD_cons_succ] at hJ
              obtain ⟨j3, -⟩ := hJ
              have j3 := Eq1.out j3
              simp only [j3] at hK ⊢
              rw [if_pos (by rfl)]
              have C := Hp.facts hS
              simp only [Facts, factsL, and_true, true_and, List.set_cons_zero, List.set_cons_succ, List.setIfInBounds_toArray] at C
              have hsz := hR.1
              go_step
              refine (at_any b l po v _ (cur_hp (show Hp _ _ _ from hS) 3 4 rfl rfl hk2 hl1)).mono ?_
              rintro e' w'' ⟨rfl, hb⟩
              exact hK.out _ _ hb Eq1.mk Fresh.no
            · intro p vs w' K hJ hp1 hp2 hS hR hK
              simp only [DepJ, List.getD_cons_zero, List.getD_cons_succ] at hJ
              obtain ⟨j1, j4, -⟩ := hJ
              have j1 := Eq1.out j1
              have j4 := Eq1.out j4
              simp only [j1, j4] at hK ⊢
              rw [if_pos (by rfl)]
              go_step
              exact hK.out _ _ (Below.refl _ _) Eq1.mk Fresh.no
            · intro p vs w' K hJ hp1 hp2 hS hR hK
              simp only [DepJ, List.getD_cons_zero, List.getD_cons_succ] at hJ
              obtain ⟨j5, -⟩ := hJ
              have j5 := Eq1.out j5
              simp only [j5] at hK ⊢
              rw [if_pos (by rfl)]
              go_step
              exact hK.out _ _ (Below.refl _ _) Eq1.mk Fresh.no
          case hst_2 => refine ⟨fun _ _ _ _ h => h, fun _ _ _ _ h => h, fun _ _ _ _ h => h, fun _ _ _ _ h => h, fun _ _ _ _ h => h, fun _ _ _ _ h => h, fun _ _ _ _ h => h, trivial⟩
          intro vs w' hJ hD hS hR
          simp only [AllJ, Nat.reduceAdd] at hJ
          obtain ⟨v0, v1, v2, v3, v4, v5, v6, -⟩ := hJ
          clear C
          replace v0 := Eq1.out v0
          replace v1 := Eq1.out v1
          replace v2 := Eq1.out v2
          replace v3 := Eq1.out v3
          replace v4 := Eq1.out v4
          replace v5 := Eq1.out v5
          replace v6 := Eq1.out v6
          simp only [v0, v1, v2, v3, v4, v5, v6, List.drop_succ_cons, List.drop_zero]
          refine wpList_nil' ?_
          have H' : Hp _ _ _ := hS
          clear hD hR hS v0 v1 v2 v3 v4 v5 v6
          clear vs H
          have H := H'; clear H'; have C := Hp.facts H; simp only [Facts, factsL, and_true, true_and, List.set_cons_zero, List.set_cons_succ, List.setIfInBounds_toArray] at C

          (repeat' ((fail_if_success (with_reducible show bodyPost _ _ _ _ _ _)); first | ((with_reducible refine Hp.abs_alloc H ?_); intro b' w' H' hb'; (try simp only [hb']); clear hb'; ((try simp only [List.set_cons_zero, List.set_cons_succ, List.setIfInBounds_toArray] at H'); clear C H; have H := H'; clear H'; have C := Hp.facts H; simp only [Facts, factsL, and_true, true_and, List.set_cons_zero, List.set_cons_succ, List.setIfInBounds_toArray] at C)) | ((with_reducible show wpList _ _ _ _ _ (World.setCell _ _ _)); (with_reducible apply Hp.abs_gen H); (first | ((repeat (with_reducible apply Hp.set' 0)); (with_reducible exact H); (repeat rfl); intro w' H') | ((repeat (with_reducible apply Hp.set' 1)); (with_reducible exact H); (repeat rfl); intro w' H') | ((repeat (with_reducible apply Hp.set' 2)); (with_reducible exact H); (repeat rfl); intro w' H') | ((repeat (with_reducible apply Hp.set' 3)); (with_reducible exact H); (repeat rfl); intro w' H') | ((repeat (with_reducible apply Hp.set' 4)); (with_reducible exact H); (repeat rfl); intro w' H') | ((repeat (with_reducible apply Hp.set' 5)); (with_reducible exact H); (repeat rfl); intro w' H') | ((repeat (with_reducible apply Hp.set' 6)); (with_reducible exact H); (repeat rfl); intro w' H') | ((repeat (with_reducible apply Hp.set' 7)); (with_reducible exact H); (repeat rfl); intro w' H') | ((repeat (with_reducible apply Hp.set' 8)); (with_reducible exact H); (repeat rfl); intro w' H') | ((repeat (with_reducible apply Hp.set' 9)); (with_reducible exact H); (repeat rfl); intro w' H')); ((try simp only [List.set_cons_zero, List.set_cons_succ, List.setIfInBounds_toArray] at H'); clear C H; have H := H'; clear H'; have C := Hp.facts H; simp only [Facts, factsL, and_true, true_and, List.set_cons_zero, List.set_cons_succ, List.setIfInBounds_toArray] at C)) | go_values | go_skip | go_guarded | go_step | go_upon | go_back | (simp only [Int.not_lt, Int.not_le] at *; go_simp) | (go_values <;> (try go_simp)) | (go_ite <;> go_prune <;> (try go_simp)) | (split <;> (first | (rename_i hx; exact (hx _ rfl).elim) | go_prune))))

          go_cut [] (fun wx => ∃ sv', Hp w0 (.blk bg #[.int .i64 tc, .int .i64 tn, .bool tm] 38 :: .blk bz #[.int .i64 0, .int .i64 0, .bool false, .slice none 0 0, .slice none 0 0] 41 :: .blk br #[.pointer (some ⟨b, 0, none⟩), .int .i64 (at0 : Int), .pointer (some ⟨bn, 0, none⟩), .pointer (some ⟨bs, 0, none⟩)] 97 :: .blk b #[v, .int .i64 (po : Int)] 112 :: .row 5 1 v l.length (l.map u8c) :: .blk bn #[.int .i64 ((cnt : Int) + 1)] 3 :: .blk bs #[sv'] 50 :: .row 56 2 sv' (cnt + 1) (pv (pz (sp0 ++ [(at0 + k, at0 + po + z)]))) :: M) wx)
          case first =>
            clear hR hlt ih hz hq0 hzi hd32
            have gT := H.tight 7 rfl 1
            rcases gT with ⟨g, cap, rfl, hroom⟩ | hT
            ·
              try simp (disch := omega) only [decide_eq_true, decide_eq_false]
              obtain ⟨wR13r, rfl⟩ := Hp.nameW H
              apply region_n (frm wR13r.heap.size (fun p => match p with | 0 => Hp w0 (.blk bg #[.int .i64 tc, .int .i64 tn, .bool tm] 38 :: .blk bz #[.int .i64 0, .int .i64 0, .bool false, .slice none 0 0, .slice none 0 0] 41 :: .blk br #[.pointer (some ⟨b, 0, none⟩), .int .i64 (at0 : Int), .pointer (some ⟨bn, 0, none⟩), .pointer (some ⟨bs, 0, none⟩)] 97 :: .blk b #[v, .int .i64 (po : Int)] 112 :: .row 5 1 v l.length (l.map u8c) :: .blk bn #[.int .i64 ((cnt : Int) + 1)] 3 :: .blk bs #[.slice (some ⟨g, 0, none⟩) cnt cap] 50 :: .row 56 2 (.slice (some ⟨g, 0, none⟩) cnt cap) cnt (pv (pz sp0)) :: M) | _ => Hp w0 (.blk bg #[.int .i64 tc, .int .i64 tn, .bool tm] 38 :: .blk bz #[.int .i64 0, .int .i64 0, .bool false, .slice none 0 0, .slice none 0 0] 41 :: .blk br #[.pointer (some ⟨b, 0, none⟩), .int .i64 (at0 : Int), .pointer (some ⟨bn, 0, none⟩), .pointer (some ⟨bs, 0, none⟩)] 97 :: .blk b #[v, .int .i64 (po : Int)] 112 :: .row 5 1 v l.length (l.map u8c) :: .blk bn #[.int .i64 ((cnt : Int) + 1)] 3 :: .blk bs #[.slice (some ⟨g, 0, none⟩) cnt cap] 50 :: .row 56 2 (.slice (some ⟨g, 0, none⟩) (cnt + 1) cap) (cnt + 1) (pv (pz sp0) ++ [.int .i64 ((at0 : Int) + (k : Int)), .int .i64 ((at0 : Int) + (po : Int) + (z : Int))]) :: M))) (frm_ok ?hfs_3) frm_sz [12] [.light 0 1, .light 0 1, .light 0 1, .light 0 1, .light 0 1, .light 0 0, .light 0 1, .light 0 1, .light 0 1, .light 0 1, .light 0 1, .light 0 0, .turns 0] [false, false, false, false, false, false, false, false, false, false, false, false, false] 13 124 [13, 13, 13, 13, 13, 13, 13, 13, 13, 13, 13, 13, 13] [some 65, some 66, some 67, some 68, some 69, some 70, some 71, some 72, some 73, some 74, some 75, some 76, some 77] [[], [0], [], [2], [3], [4], [], [], [], [7, 8], [6, 9], [10], [5, 11]] [Eq1 _, Eq1 _, Eq1 _, Eq1 _, Eq1 _, Eq1 _, Eq1 _, Eq1 _, Eq1 _, Eq1 _, Eq1 _, (NewSl wR13r.heap.size 1 #[.int .i64 ((at0 : Int) + (k : Int)), .int .i64 ((at0 : Int) + (po : Int) + (z : Int))] 56), Eq1 _] ?hq1_3 ?hq2_3 ?hq3_3 ?hq4_3 ?hq5_3 ?hq6_3 _ ?hA_3 ?hst_3 ?h0_3 ?hsteps_3 ?hend_3
              case hq1_3 => kernel_rfl
              case hq2_3 => kernel_rfl
              case hq3_3 => kernel_rfl
              case hq5_3 => kernel_rfl
              case hq4_3 => rfl
              case hq6_3 => rfl
              case hA_3 => intro vs; simp only [fillD, Nat.reduceAdd, Act.put, List.setIfInBounds_toArray, List.set_cons_zero, List.set_cons_succ]; rfl
              case h0_3 => exact H.drew
              case hfs_3 => intro p x y hb h; rcases p with _ | _ <;> exact Hp.step h hb
              case hsteps_3 =>
                refine ⟨?_, ?_, ?_, ?_, ?_, ?_, ?_, ?_, ?_, ?_, ?_, ?_, ?_, trivial⟩
                · intro p vs w' K hJ hp1 hp2 hS hR hK
                  rw [if_pos (by rfl)]
                  go_step
                  exact hK.out _ _ (Below.refl _ _) Eq1.mk Fresh.no
                · intro p vs w' K hJ hp1 hp2 hS hR hK
                  rcases (by omega : p = 0 ∨ p = 1) with rfl | rfl
                  all_goals (
                  simp only [DepJ, List.getD_cons_zero, List.getD_cons_succ] at hJ
                  obtain ⟨j0, -⟩ := hJ
                  have j0 := Eq1.out j0
                  simp only [j0] at hK ⊢
                  rw [if_pos (by rfl)]
                  have C := Hp.facts hS
                  simp only [Facts, factsL, and_true, true_and, List.set_cons_zero, List.set_cons_succ, List.setIfInBounds_toArray] at C
                  have hsz := hR.1
                  go_step
                  exact hK.out _ _ (Below.refl _ _) Eq1.mk Fresh.no
                  )
                · intro p vs w' K hJ hp1 hp2 hS hR hK
                  rw [if_pos (by rfl)]
                  go_step
                  exact hK.out _ _ (Below.refl _ _) Eq1.mk Fresh.no
                · intro p vs w' K hJ hp1 hp2 hS hR hK
                  rcases (by omega : p = 0 ∨ p = 1) with rfl | rfl
                  all_goals (
                  simp only [DepJ, List.getD_cons_zero, List.getD_cons_succ] at hJ
                  obtain ⟨j2, -⟩ := hJ
                  have j2 := Eq1.out j2
                  simp only [j2] at hK ⊢
                  rw [if_pos (by rfl)]
                  have C := Hp.facts hS
                  simp only [Facts, factsL, and_true, true_and, List.set_cons_zero, List.set_cons_succ, List.setIfInBounds_toArray] at C
                  have hsz := hR.1
                  go_step
                  exact hK.out _ _ (Below.refl _ _) Eq1.mk Fresh.no
                  )
                · intro p vs w' K hJ hp1 hp2 hS hR hK
                  simp only [DepJ, List.getD_cons_zero, List.getD_cons_succ] at hJ
                  obtain ⟨j3, -⟩ := hJ
                  have j3 := Eq1.out j3
                  simp only [j3] at hK ⊢
                  rw [if_pos (by rfl)]
                  go_step
                  exact hK.out _ _ (Below.refl _ _) Eq1.mk Fresh.no
                · intro p vs w' K hJ hp1 hp2 hS hR hK
                  obtain rfl : p = 0 := by omega
                  simp only [DepJ, List.getD_cons_zero, List.getD_cons_succ] at hJ
                  obtain ⟨j4, -⟩ := hJ
                  have j4 := Eq1.out j4
                  simp only [j4] at hK ⊢
                  rw [if_pos (by rfl)]
                  have C := Hp.facts hS
                  simp only [Facts, factsL, and_true, true_and, List.set_cons_zero, List.set_cons_succ, List.setIfInBounds_toArray] at C
                  have hsz := hR.1
                  go_step
                  exact hK.out _ _ (Below.refl _ _) Eq1.mk Fresh.no
                · intro p vs w' K hJ hp1 hp2 hS hR hK
                  rw [if_pos (by rfl)]
                  go_step
                  exact hK.out _ _ (Below.refl _ _) Eq1.mk Fresh.no
                · intro p vs w' K hJ hp1 hp2 hS hR hK
                  rw [if_pos (by rfl)]
                  go_step
                  exact hK.out _ _ (Below.refl _ _) Eq1.mk Fresh.no
                · intro p vs w' K hJ hp1 hp2 hS hR hK
                  rw [if_pos (by rfl)]
                  go_step
                  exact hK.out _ _ (Below.refl _ _) Eq1.mk Fresh.no
                · intro p vs w' K hJ hp1 hp2 hS hR hK
                  simp only [DepJ, List.getD_cons_zero, List.getD_cons_succ] at hJ
                  obtain ⟨j7, j8, -⟩ := hJ
                  have j7 := Eq1.out j7
                  have j8 := Eq1.out j8
                  simp only [j7, j8] at hK ⊢
                  rw [if_pos (by rfl)]
                  go_step
                  exact hK.out _ _ (Below.refl _ _) Eq1.mk Fresh.no
                · intro p vs w' K hJ hp1 hp2 hS hR hK
                  simp only [DepJ, List.getD_cons_zero, List.getD_cons_succ] at hJ
                  obtain ⟨j6, j9, -⟩ := hJ
                  have j6 := Eq1.out j6
                  have j9 := Eq1.out j9
                  simp only [j6, j9] at hK ⊢
                  rw [if_pos (by rfl)]
                  go_step
                  exact hK.out _ _ (Below.refl _ _) Eq1.mk Fresh.no
                · intro p vs w' K hJ hp1 hp2 hS hR hK
                  simp only [DepJ, List.getD_cons_zero, List.getD_cons_succ] at hJ
                  obtain ⟨j10, -⟩ := hJ
                  have j10 := Eq1.out j10
                  simp only [j10] at hK ⊢
                  rw [if_pos (by rfl)]
                  go_step
                  exact hK.out _ _ ((Below.refl _ _).alloc (Nat.le_refl _) _) (NewSl.mk _ _ _ _ _ hR.1) Fresh.no
                · intro vs w' K hJ hS hR hK
                  simp only [DepJ, List.getD_cons_zero, List.getD_cons_succ] at hJ
                  obtain ⟨j5, j11, -⟩ := hJ
                  have j5 := Eq1.out j5
                  obtain ⟨k11, j11, kB11, kh11⟩ := j11
                  simp only [j5, j11] at hK ⊢
                  rw [if_pos (by rfl)]
                  replace hS : Hp _ _ _ := hS
                  refine wp_append_room hS 7 _ _ _ rfl Try.underlying50 hi hz1 rfl rfl rfl hroom rfl (blk_news kh11) (by simp [Value.oneCell']) ?_
                  intro w'' hO H'
                  exact hK.out _ _ (AboveR.only hO (Hp.rowCellN H 7 rfl).1) H' Eq1.mk Fresh.no
              case hst_3 => refine ⟨fun _ _ _ _ h => h, fun _ _ _ _ h => h, fun _ _ _ _ h => h, fun _ _ _ _ h => h, fun _ _ _ _ h => h, fun _ _ _ _ h => h, fun _ _ _ _ h => h, fun _ _ _ _ h => h, fun _ _ _ _ h => h, fun _ _ _ _ h => h, fun _ _ _ _ h => h, fun _ _ _ hs h => NewSl.stayR hs h, fun _ _ _ _ h => h, trivial⟩
              intro vs w' hJ hD hS hR
              simp only [AllJ, Nat.reduceAdd] at hJ
              obtain ⟨v0, v1, v2, v3, v4, v5, v6, v7, v8, v9, v10, v11, v12, -⟩ := hJ
              clear C
              replace v0 := Eq1.out v0
              replace v1 := Eq1.out v1
              replace v2 := Eq1.out v2
              replace v3 := Eq1.out v3
              replace v4 := Eq1.out v4
              replace v5 := Eq1.out v5
              replace v6 := Eq1.out v6
              replace v7 := Eq1.out v7
              replace v8 := Eq1.out v8
              replace v9 := Eq1.out v9
              replace v10 := Eq1.out v10
              replace v12 := Eq1.out v12
              obtain ⟨k11, e11, -⟩ := v11
              simp only [v0, v1, v2, v3, v4, v5, v6, v7, v8, v9, v10, v12, e11, List.drop_succ_cons, List.drop_zero]
              have H' : Hp _ _ _ := hS
              clear hD hR hS v0 v1 v2 v3 v4 v5 v6 v7 v8 v9 v10 v12
              clear e11
              clear vs H
              have H := H'; clear H'; have C := Hp.facts H; simp only [Facts, factsL, and_true, true_and, List.set_cons_zero, List.set_cons_succ, List.setIfInBounds_toArray] at C

              (repeat' ((fail_if_success (with_reducible show bodyPost _ _ _ _ _ _)); first | ((with_reducible refine Hp.abs_alloc H ?_); intro b' w' H' hb'; (try simp only [hb']); clear hb'; ((try simp only [List.set_cons_zero, List.set_cons_succ, List.setIfInBounds_toArray] at H'); clear C H; have H := H'; clear H'; have C := Hp.facts H; simp only [Facts, factsL, and_true, true_and, List.set_cons_zero, List.set_cons_succ, List.setIfInBounds_toArray] at C)) | ((with_reducible show wpList _ _ _ _ _ (World.setCell _ _ _)); (with_reducible apply Hp.abs_gen H); (first | ((repeat (with_reducible apply Hp.set' 0)); (with_reducible exact H); (repeat rfl); intro w' H') | ((repeat (with_reducible apply Hp.set' 1)); (with_reducible exact H); (repeat rfl); intro w' H') | ((repeat (with_reducible apply Hp.set' 2)); (with_reducible exact H); (repeat rfl); intro w' H') | ((repeat (with_reducible apply Hp.set' 3)); (with_reducible exact H); (repeat rfl); intro w' H') | ((repeat (with_reducible apply Hp.set' 4)); (with_reducible exact H); (repeat rfl); intro w' H') | ((repeat (with_reducible apply Hp.set' 5)); (with_reducible exact H); (repeat rfl); intro w' H') | ((repeat (with_reducible apply Hp.set' 6)); (with_reducible exact H); (repeat rfl); intro w' H') | ((repeat (with_reducible apply Hp.set' 7)); (with_reducible exact H); (repeat rfl); intro w' H') | ((repeat (with_reducible apply Hp.set' 8)); (with_reducible exact H); (repeat rfl); intro w' H') | ((repeat (with_reducible apply Hp.set' 9)); (with_reducible exact H); (repeat rfl); intro w' H')); ((try simp only [List.set_cons_zero, List.set_cons_succ, List.setIfInBounds_toArray] at H'); clear C H; have H := H'; clear H'; have C := Hp.facts H; simp only [Facts, factsL, and_true, true_and, List.set_cons_zero, List.set_cons_succ, List.setIfInBounds_toArray] at C)) | go_values | go_skip | go_guarded | go_step | go_upon | go_back | (simp only [Int.not_lt, Int.not_le] at *; go_simp) | (go_values <;> (try go_simp)) | (go_ite <;> go_prune <;> (try go_simp)) | (split <;> (first | (rename_i hx; exact (hx _ rfl).elim) | go_prune))))
              go_meet
              exact ⟨_, by rw [pz_app, pv_app]; exact H⟩
            ·
              try simp (disch := omega) only [decide_eq_true, decide_eq_false]
              obtain ⟨wR13g, rfl⟩ := Hp.nameW H
              apply region_n (frm wR13g.heap.size (fun _ => Hp _ _)) (frm_ok ?hfs_4) frm_sz [] [.light 0 0, .light 0 0, .light 0 0, .light 0 0, .light 0 0, .light 0 0, .light 0 0, .light 0 0, .light 0 0, .light 0 0, .light 0 0, .light 0 0, .light 0 0] [false, false, false, false, false, false, false, false, false, false, false, false, false] 13 124 [13, 13, 13, 13, 13, 13, 13, 13, 13, 13, 13, 13, 13] [some 65, some 66, some 67, some 68, some 69, some 70, some 71, some 72, some 73, some 74, some 75, some 76, some 77] [[], [0], [], [2], [3], [4], [], [], [], [7, 8], [6, 9], [10], [5, 11]] [Eq1 _, Eq1 _, Eq1 _, Eq1 _, Eq1 _, Eq1 _, Eq1 _, Eq1 _, Eq1 _, Eq1 _, Eq1 _, (NewSl wR13g.heap.size 1 #[.int .i64 ((at0 : Int) + (k : Int)), .int .i64 ((at0 : Int) + (po : Int) + (z : Int))] 56), (RowS wR13g.heap.size 56 2 (cnt + 1) (pv (pz sp0) ++ [.int .i64 ((at0 : Int) + (k : Int)), .int .i64 ((at0 : Int) + (po : Int) + (z : Int))]))] ?hq1_4 ?hq2_4 ?hq3_4 ?hq4_4 ?hq5_4 ?hq6_4 _ ?hA_4 ?hst_4 ?h0_4 ?hsteps_4 ?hend_4
              case hq1_4 => kernel_rfl
              case hq2_4 => kernel_rfl
              case hq3_4 => kernel_rfl
              case hq5_4 => kernel_rfl
              case hq4_4 => rfl
              case hq6_4 => rfl
              case hA_4 => intro vs; simp only [fillD, Nat.reduceAdd, Act.put, List.setIfInBounds_toArray, List.set_cons_zero, List.set_cons_succ]; rfl
              case h0_4 => exact H.drew
              case hfs_4 => exact fun _ _ _ hb h => Hp.step h hb
              case hsteps_4 =>
                refine ⟨?_, ?_, ?_, ?_, ?_, ?_, ?_, ?_, ?_, ?_, ?_, ?_, ?_, trivial⟩
                · intro p vs w' K hJ hp1 hp2 hS hR hK
                  rw [if_pos (by rfl)]
                  go_step
                  exact hK.out _ _ (Below.refl _ _) Eq1.mk Fresh.no
                · intro p vs w' K hJ hp1 hp2 hS hR hK
                  simp only [DepJ, List.getD_cons_zero, List.getD_cons_succ] at hJ
                  obtain ⟨j0, -⟩ := hJ
                  have j0 := Eq1.out j0
                  simp only [j0] at hK ⊢
                  rw [if_pos (by rfl)]
                  have C := Hp.facts hS
                  simp only [Facts, factsL, and_true, true_and, List.set_cons_zero, List.set_cons_succ, List.setIfInBounds_toArray] at C
                  have hsz := hR.1
                  go_step
                  exact hK.out _ _ (Below.refl _ _) Eq1.mk Fresh.no
                · intro p vs w' K hJ hp1 hp2 hS hR hK
                  rw [if_pos (by rfl)]
                  go_step
                  exact hK.out _ _ (Below.refl _ _) Eq1.mk Fresh.no
                · intro p vs w' K hJ hp1 hp2 hS hR hK
                  simp only [DepJ, List.getD_cons_zero, List.getD_cons_succ] at hJ
                  obtain ⟨j2, -⟩ := hJ
                  have j2 := Eq1.out j2
                  simp only [j2] at hK ⊢
                  rw [if_pos (by rfl)]
                  have C := Hp.facts hS
                  simp only [Facts, factsL, and_true, true_and, List.set_cons_zero, List.set_cons_succ, List.setIfInBounds_toArray] at C
                  have hsz := hR.1
                  go_step
                  exact hK.out _ _ (Below.refl _ _) Eq1.mk Fresh.no
                · intro p vs w' K hJ hp1 hp2 hS hR hK
                  simp only [DepJ, List.getD_cons_zero, List.getD_cons_succ] at hJ
                  obtain ⟨j3, -⟩ := hJ
                  have j3 := Eq1.out j3
                  simp only [j3] at hK ⊢
                  rw [if_pos (by rfl)]
                  go_step
                  exact hK.out _ _ (Below.refl _ _) Eq1.mk Fresh.no
                · intro p vs w' K hJ hp1 hp2 hS hR hK
                  simp only [DepJ, List.getD_cons_zero, List.getD_cons_succ] at hJ
                  obtain ⟨j4, -⟩ := hJ
                  have j4 := Eq1.out j4
                  simp only [j4] at hK ⊢
                  rw [if_pos (by rfl)]
                  have C := Hp.facts hS
                  simp only [Facts, factsL, and_true, true_and, List.set_cons_zero, List.set_cons_succ, List.setIfInBounds_toArray] at C
                  have hsz := hR.1
                  go_step
                  exact hK.out _ _ (Below.refl _ _) Eq1.mk Fresh.no
                · intro p vs w' K hJ hp1 hp2 hS hR hK
                  rw [if_pos (by rfl)]
                  go_step
                  exact hK.out _ _ (Below.refl _ _) Eq1.mk Fresh.no
                · intro p vs w' K hJ hp1 hp2 hS hR hK
                  rw [if_pos (by rfl)]
                  go_step
                  exact hK.out _ _ (Below.refl _ _) Eq1.mk Fresh.no
                · intro p vs w' K hJ hp1 hp2 hS hR hK
                  rw [if_pos (by rfl)]
                  go_step
                  exact hK.out _ _ (Below.refl _ _) Eq1.mk Fresh.no
                · intro p vs w' K hJ hp1 hp2 hS hR hK
                  simp only [DepJ, List.getD_cons_zero, List.getD_cons_succ] at hJ
                  obtain ⟨j7, j8, -⟩ := hJ
                  have j7 := Eq1.out j7
                  have j8 := Eq1.out j8
                  simp only [j7, j8] at hK ⊢
                  rw [if_pos (by rfl)]
                  go_step
                  exact hK.out _ _ (Below.refl _ _) Eq1.mk Fresh.no
                · intro p vs w' K hJ hp1 hp2 hS hR hK
                  simp only [DepJ, List.getD_cons_zero, List.getD_cons_succ] at hJ
                  obtain ⟨j6, j9, -⟩ := hJ
                  have j6 := Eq1.out j6
                  have j9 := Eq1.out j9
                  simp only [j6, j9] at hK ⊢
                  rw [if_pos (by rfl)]
                  go_step
                  exact hK.out _ _ (Below.refl _ _) Eq1.mk Fresh.no
                · intro p vs w' K hJ hp1 hp2 hS hR hK
                  simp only [DepJ, List.getD_cons_zero, List.getD_cons_succ] at hJ
                  obtain ⟨j10, -⟩ := hJ
                  have j10 := Eq1.out j10
                  simp only [j10] at hK ⊢
                  rw [if_pos (by rfl)]
                  go_step
                  exact hK.out _ _ ((Below.refl _ _).alloc (Nat.le_refl _) _) (NewSl.mk _ _ _ _ _ hR.1) Fresh.no
                · intro p vs w' K hJ hp1 hp2 hS hR hK
                  simp only [DepJ, List.getD_cons_zero, List.getD_cons_succ] at hJ
                  obtain ⟨j5, j11, -⟩ := hJ
                  have j5 := Eq1.out j5
                  obtain ⟨k11, j11, kB11, kh11⟩ := j11
                  simp only [j5, j11] at hK ⊢
                  rw [if_pos (by rfl)]
                  replace hS : Hp _ _ _ := hS
                  refine wp_append_grow hS 7 _ _ _ rfl Try.underlying50 hi hz0 hz1 hz2 rfl rfl rfl rfl hT rfl (blk_news kh11) (by decide) (by unfold maxLen; omega) (by omega) ?_
                  intro v' w'' hb ho
                  exact hK.out _ _ hb (RowS.mk hR.1 ho) Fresh.no
              case hst_4 => refine ⟨fun _ _ _ _ h => h, fun _ _ _ _ h => h, fun _ _ _ _ h => h, fun _ _ _ _ h => h, fun _ _ _ _ h => h, fun _ _ _ _ h => h, fun _ _ _ _ h => h, fun _ _ _ _ h => h, fun _ _ _ _ h => h, fun _ _ _ _ h => h, fun _ _ _ _ h => h, fun _ _ _ hs h => NewSl.stayR hs h, fun _ _ _ hs h => RowS.stay hs h, trivial⟩
              intro vs w' hJ hD hS hR
              simp only [AllJ, Nat.reduceAdd] at hJ
              obtain ⟨v0, v1, v2, v3, v4, v5, v6, v7, v8, v9, v10, v11, v12, -⟩ := hJ
              clear C
              replace v0 := Eq1.out v0
              replace v1 := Eq1.out v1
              replace v2 := Eq1.out v2
              replace v3 := Eq1.out v3
              replace v4 := Eq1.out v4
              replace v5 := Eq1.out v5
              replace v6 := Eq1.out v6
              replace v7 := Eq1.out v7
              replace v8 := Eq1.out v8
              replace v9 := Eq1.out v9
              replace v10 := Eq1.out v10
              obtain ⟨k11, e11, -⟩ := v11
              have vo12 := (show World.ownsRow _ _ _ _ _ _ _ from v12)
              obtain ⟨A12, c12, e12⟩ := Go.LawLift.own_form vo12
              rw [e12] at vo12
              simp only [v0, v1, v2, v3, v4, v5, v6, v7, v8, v9, v10, e11, e12, List.drop_succ_cons, List.drop_zero]
              replace hS : Hp _ _ _ := hS
              have H' := Hp.adopts hS H.low.size (fun k hk => Hp.lows H k hk) [.row _ 2 (.slice A12 _ c12) _ _] (by intro x hx; simp only [List.mem_cons, List.not_mem_nil, or_false] at hx; subst hx; exact vo12) (nodup1 _)
              simp only [List.cons_append, List.nil_append] at H'
              clear hD hR hS v0 v1 v2 v3 v4 v5 v6 v7 v8 v9 v10
              clear e11
              clear vo12 e12 v12
              clear vs H
              have H := H'; clear H'; have C := Hp.facts H; simp only [Facts, factsL, and_true, true_and, List.set_cons_zero, List.set_cons_succ, List.setIfInBounds_toArray] at C

              (repeat' ((fail_if_success (with_reducible show bodyPost _ _ _ _ _ _)); first | ((with_reducible refine Hp.abs_alloc H ?_); intro b' w' H' hb'; (try simp only [hb']); clear hb'; ((try simp only [List.set_cons_zero, List.set_cons_succ, List.setIfInBounds_toArray] at H'); clear C H; have H := H'; clear H'; have C := Hp.facts H; simp only [Facts, factsL, and_true, true_and, List.set_cons_zero, List.set_cons_succ, List.setIfInBounds_toArray] at C)) | ((with_reducible show wpList _ _ _ _ _ (World.setCell _ _ _)); (with_reducible apply Hp.abs_gen H); (first | ((repeat (with_reducible apply Hp.set' 0)); (with_reducible exact H); (repeat rfl); intro w' H') | ((repeat (with_reducible apply Hp.set' 1)); (with_reducible exact H); (repeat rfl); intro w' H') | ((repeat (with_reducible apply Hp.set' 2)); (with_reducible exact H); (repeat rfl); intro w' H') | ((repeat (with_reducible apply Hp.set' 3)); (with_reducible exact H); (repeat rfl); intro w' H') | ((repeat (with_reducible apply Hp.set' 4)); (with_reducible exact H); (repeat rfl); intro w' H') | ((repeat (with_reducible apply Hp.set' 5)); (with_reducible exact H); (repeat rfl); intro w' H') | ((repeat (with_reducible apply Hp.set' 6)); (with_reducible exact H); (repeat rfl); intro w' H') | ((repeat (with_reducible apply Hp.set' 7)); (with_reducible exact H); (repeat rfl); intro w' H') | ((repeat (with_reducible apply Hp.set' 8)); (with_reducible exact H); (repeat rfl); intro w' H') | ((repeat (with_reducible apply Hp.set' 9)); (with_reducible exact H); (repeat rfl); intro w' H')); ((try simp only [List.set_cons_zero, List.set_cons_succ, List.setIfInBounds_toArray] at H'); clear C H; have H := H'; clear H'; have C := Hp.facts H; simp only [Facts, factsL, and_true, true_and, List.set_cons_zero, List.set_cons_succ, List.setIfInBounds_toArray] at C)) | go_values | go_skip | go_guarded | go_step | go_upon | go_back | (simp only [Int.not_lt, Int.not_le] at *; go_simp) | (go_values <;> (try go_simp)) | (go_ite <;> go_prune <;> (try go_simp)) | (split <;> (first | (rename_i hx; exact (hx _ rfl).elim) | go_prune))))
              go_meet
              exact ⟨_, by rw [pz_app, pv_app]; exact Hp.moveTo (A := [_, _, _, _, _, _, _]) H⟩

          case rest =>
            clear H C
            obtain ⟨sv', H⟩ := hcut
            have C := Hp.facts H
            simp only [Facts, factsL, and_true, true_and, List.set_cons_zero, List.set_cons_succ, List.setIfInBounds_toArray] at C
            (repeat' ((fail_if_success (with_reducible show bodyPost _ _ _ _ _ _)); first | ((with_reducible refine Hp.abs_alloc H ?_); intro b' w' H' hb'; (try simp only [hb']); clear hb'; ((try simp only [List.set_cons_zero, List.set_cons_succ, List.setIfInBounds_toArray] at H'); clear C H; have H := H'; clear H'; have C := Hp.facts H; simp only [Facts, factsL, and_true, true_and, List.set_cons_zero, List.set_cons_succ, List.setIfInBounds_toArray] at C)) | ((with_reducible show wpList _ _ _ _ _ (World.setCell _ _ _)); (with_reducible apply Hp.abs_gen H); (first | ((repeat (with_reducible apply Hp.set' 0)); (with_reducible exact H); (repeat rfl); intro w' H') | ((repeat (with_reducible apply Hp.set' 1)); (with_reducible exact H); (repeat rfl); intro w' H') | ((repeat (with_reducible apply Hp.set' 2)); (with_reducible exact H); (repeat rfl); intro w' H') | ((repeat (with_reducible apply Hp.set' 3)); (with_reducible exact H); (repeat rfl); intro w' H') | ((repeat (with_reducible apply Hp.set' 4)); (with_reducible exact H); (repeat rfl); intro w' H') | ((repeat (with_reducible apply Hp.set' 5)); (with_reducible exact H); (repeat rfl); intro w' H') | ((repeat (with_reducible apply Hp.set' 6)); (with_reducible exact H); (repeat rfl); intro w' H') | ((repeat (with_reducible apply Hp.set' 7)); (with_reducible exact H); (repeat rfl); intro w' H') | ((repeat (with_reducible apply Hp.set' 8)); (with_reducible exact H); (repeat rfl); intro w' H') | ((repeat (with_reducible apply Hp.set' 9)); (with_reducible exact H); (repeat rfl); intro w' H')); ((try simp only [List.set_cons_zero, List.set_cons_succ, List.setIfInBounds_toArray] at H'); clear C H; have H := H'; clear H'; have C := Hp.facts H; simp only [Facts, factsL, and_true, true_and, List.set_cons_zero, List.set_cons_succ, List.setIfInBounds_toArray] at C)) | go_values | go_skip | go_guarded | go_step | go_upon | go_back | (simp only [Int.not_lt, Int.not_le] at *; go_simp) | (go_values <;> (try go_simp)) | (go_ite <;> go_prune <;> (try go_simp)) | (split <;> (first | (rename_i hx; exact (hx _ rfl).elim) | go_prune))))
            obtain ⟨q1, rfl⟩ : ∃ q1, q = q1 + 1 := ⟨q - 1, by omega⟩
            have hzl : po + z ≤ l.length := by omega
            refine (take_yes b l po v z hzl _ (cur_hp H 3 4 rfl rfl hk2 hl1)).mono ?_
            intro e' w2 hT
            obtain ⟨tv, rfl, H2⟩ := take_hp H 3 rfl hT
            simp only [List.set_cons_zero, List.set_cons_succ] at H2
            clear H C hT
            have H := H2
            clear H2
            have C := Hp.facts H
            simp only [Facts, factsL, and_true, true_and, List.set_cons_zero, List.set_cons_succ, List.setIfInBounds_toArray] at C
            obtain ⟨c, hcdef⟩ : ∃ c, (l.drop po).take z = c := ⟨_, rfl⟩
            have hcl : c.length = z := by rw [← hcdef, List.length_take, List.length_drop]; omega
            rw [hcdef] at H hR
            replace hcdef := Kp.mk hcdef
            obtain ⟨A9, c9, rfl⟩ := Go.LawLift.own_form (H.ok _ (List.mem_cons_self ..))
            clear hi hz0 hz1 hz2
            obtain ⟨i1, hi, hz0, hz1, hz2⟩ := info_parts info_it
            cases tm with
            | false =>
              have gR : Kp (R = _) := ⟨by rw [hR.out, if_pos rfl]⟩
              clear hR ih hlt
              (repeat' ((fail_if_success (with_reducible show bodyPost _ _ _ _ _ _)); first | ((with_reducible refine Hp.abs_alloc H ?_); intro b' w' H' hb'; (try simp only [hb']); clear hb'; ((try simp only [List.set_cons_zero, List.set_cons_succ, List.setIfInBounds_toArray] at H'); clear C H; have H := H'; clear H'; have C := Hp.facts H; simp only [Facts, factsL, and_true, true_and, List.set_cons_zero, List.set_cons_succ, List.setIfInBounds_toArray] at C)) | ((with_reducible show wpList _ _ _ _ _ (World.setCell _ _ _)); (with_reducible apply Hp.abs_gen H); (first | ((repeat (with_reducible apply Hp.set' 0)); (with_reducible exact H); (repeat rfl); intro w' H') | ((repeat (with_reducible apply Hp.set' 1)); (with_reducible exact H); (repeat rfl); intro w' H') | ((repeat (with_reducible apply Hp.set' 2)); (with_reducible exact H); (repeat rfl); intro w' H') | ((repeat (with_reducible apply Hp.set' 3)); (with_reducible exact H); (repeat rfl); intro w' H') | ((repeat (with_reducible apply Hp.set' 4)); (with_reducible exact H); (repeat rfl); intro w' H') | ((repeat (with_reducible apply Hp.set' 5)); (with_reducible exact H); (repeat rfl); intro w' H') | ((repeat (with_reducible apply Hp.set' 6)); (with_reducible exact H); (repeat rfl); intro w' H') | ((repeat (with_reducible apply Hp.set' 7)); (with_reducible exact H); (repeat rfl); intro w' H') | ((repeat (with_reducible apply Hp.set' 8)); (with_reducible exact H); (repeat rfl); intro w' H') | ((repeat (with_reducible apply Hp.set' 9)); (with_reducible exact H); (repeat rfl); intro w' H')); ((try simp only [List.set_cons_zero, List.set_cons_succ, List.setIfInBounds_toArray] at H'); clear C H; have H := H'; clear H'; have C := Hp.facts H; simp only [Facts, factsL, and_true, true_and, List.set_cons_zero, List.set_cons_succ, List.setIfInBounds_toArray] at C)) | go_values | go_skip | go_guarded | go_step | go_upon | go_back | (simp only [Int.not_lt, Int.not_le] at *; go_simp) | (go_values <;> (try go_simp)) | (go_ite <;> go_prune <;> (try go_simp)) | (split <;> (first | (rename_i hx; exact (hx _ rfl).elim) | go_prune))))
              refine bodyPost_ret (v := .tuple #[.agg #[.int .i64 tc, .int .i64 tn, .bool false, .slice A9 z c9, .slice none 0 0], .int .i64 0]) (by simp [results, go_sem, C]) rfl ?_
              rw [hQ.out]
              have H3 := H.front 1 rfl
              simp only [List.eraseIdx_cons_zero, List.eraseIdx_cons_succ] at H3
              obtain ⟨Os1, H4, hb⟩ := H3.freezeBs 0
              obtain ⟨Os2, H5, hT⟩ := KidsL.tree (n := q1) (tg := ⟨tc, tn, false⟩) KidsL.zero (H4.nilRow 41 5) hb
              simp only [List.cons_append, List.append_assoc, List.nil_append] at H5 hT
              refine OneP.okk gR.out ⟨[_, _, _, _, _], sv', Os1 ++ Os2, rfl, ?_, ?_⟩
              · have H6 := H5.tail.tail.tail.tail
                exact H6
              · exact hT
            | true =>
              have gR : Kp (R = _) := ⟨by rw [hR.out, if_neg (by decide)]⟩
              have hih := ih q1 rfl
              clear hR ih hlt
              subst hcl
              (repeat' ((fail_if_success (with_reducible show bodyPost _ _ _ _ _ _)); first | ((with_reducible refine Hp.abs_alloc H ?_); intro b' w' H' hb'; (try simp only [hb']); clear hb'; ((try simp only [List.set_cons_zero, List.set_cons_succ, List.setIfInBounds_toArray] at H'); clear C H; have H := H'; clear H'; have C := Hp.facts H; simp only [Facts, factsL, and_true, true_and, List.set_cons_zero, List.set_cons_succ, List.setIfInBounds_toArray] at C)) | ((with_reducible show wpList _ _ _ _ _ (World.setCell _ _ _)); (with_reducible apply Hp.abs_gen H); (first | ((repeat (with_reducible apply Hp.set' 0)); (with_reducible exact H); (repeat rfl); intro w' H') | ((repeat (with_reducible apply Hp.set' 1)); (with_reducible exact H); (repeat rfl); intro w' H') | ((repeat (with_reducible apply Hp.set' 2)); (with_reducible exact H); (repeat rfl); intro w' H') | ((repeat (with_reducible apply Hp.set' 3)); (with_reducible exact H); (repeat rfl); intro w' H') | ((repeat (with_reducible apply Hp.set' 4)); (with_reducible exact H); (repeat rfl); intro w' H') | ((repeat (with_reducible apply Hp.set' 5)); (with_reducible exact H); (repeat rfl); intro w' H') | ((repeat (with_reducible apply Hp.set' 6)); (with_reducible exact H); (repeat rfl); intro w' H') | ((repeat (with_reducible apply Hp.set' 7)); (with_reducible exact H); (repeat rfl); intro w' H') | ((repeat (with_reducible apply Hp.set' 8)); (with_reducible exact H); (repeat rfl); intro w' H') | ((repeat (with_reducible apply Hp.set' 9)); (with_reducible exact H); (repeat rfl); intro w' H')); ((try simp only [List.set_cons_zero, List.set_cons_succ, List.setIfInBounds_toArray] at H'); clear C H; have H := H'; clear H'; have C := Hp.facts H; simp only [Facts, factsL, and_true, true_and, List.set_cons_zero, List.set_cons_succ, List.setIfInBounds_toArray] at C)) | go_values | go_skip | go_guarded | go_step | go_upon | go_back | (simp only [Int.not_lt, Int.not_le] at *; go_simp) | (go_values <;> (try go_simp)) | (go_ite <;> go_prune <;> (try go_simp)) | (split <;> (first | (rename_i hx; exact (hx _ rfl).elim) | go_prune))))
              (obtain ⟨bx, rfl⟩ := Hp.name H 0 rfl)
              have gH := Kp.mk (And.intro (Hp.lows H) H.low.size)
              try simp (disch := omega) only [decide_eq_true, decide_eq_false]
              obtain ⟨wR19n, rfl⟩ := Hp.nameW H
              apply region_n (frm wR19n.heap.size (fun _ => Hp _ _)) (frm_ok ?hfs_5) frm_sz [] [.light 0 0, .light 0 0, .light 0 0, .light 0 0, .light 0 0, .light 0 0, .light 0 0, .light 0 0, .light 0 0] [false, false, false, false, false, false, false, false, false] 9 124 [9, 9, 9, 9, 9, 9, 9, 9, 9] [some 94, some 95, some 96, some 97, some 98, some 99, some 100, some 101, some 14] [[], [0], [], [], [3], [], [5], [1, 2, 4, 6], []] [Eq1 _, (NewCurJ wR19n.heap.size c), Eq1 _, Eq1 _, Eq1 _, Eq1 _, Eq1 _, (NewCurG wR19n.heap.size c (fun q => .agg #[q, .int .i64 ((at0 : Int) + (po : Int)), .pointer (some ⟨bn, 0, none⟩), .pointer (some ⟨bs, 0, none⟩)])), (NewPt wR19n.heap.size _ _)] ?hq1_5 ?hq2_5 ?hq3_5 ?hq4_5 ?hq5_5 ?hq6_5 _ ?hA_5 ?hst_5 ?h0_5 ?hsteps_5 ?hend_5
              case hq1_5 => kernel_rfl
              case hq2_5 => kernel_rfl
              case hq3_5 => kernel_rfl
              case hq5_5 => kernel_rfl
              case hq4_5 => rfl
              case hq6_5 => rfl
              case hA_5 => intro vs; simp only [fillD, Nat.reduceAdd, Act.put, List.setIfInBounds_toArray, List.set_cons_zero, List.set_cons_succ]; rfl
              case h0_5 => exact H.drew
              case hfs_5 => exact fun _ _ _ hb h => Hp.step h hb
              case hsteps_5 =>
                refine ⟨?_, ?_, ?_, ?_, ?_, ?_, ?_, ?_, ?_, trivial⟩
                · intro p vs w' K hJ hp1 hp2 hS hR hK
                  rw [if_pos (by rfl)]
                  go_step
                  exact hK.out _ _ (Below.refl _ _) Eq1.mk Fresh.no
                · intro p vs w' K hJ hp1 hp2 hS hR hK
                  simp only [DepJ, List.getD_cons_zero, List.getD_cons_succ] at hJ
                  obtain ⟨j0, -⟩ := hJ
                  have j0 := Eq1.out j0
                  simp only [j0] at hK ⊢
                  rw [if_pos (by rfl)]
                  replace hS : Hp _ _ _ := hS
                  have C := Hp.facts hS
                  simp only [Facts, factsL, and_true, true_and, List.set_cons_zero, List.set_cons_succ, List.setIfInBounds_toArray] at C
                  go_step
                  refine (new_any c _ _ (bs_row hS 1 rfl) (by omega)).mono ?_
                  rintro e' w'' ⟨⟨q, y, rfl, hc⟩, hb⟩
                  exact hK.out _ _ hb (NewCurJ.mk hR.1 hc) Fresh.no
                · intro p vs w' K hJ hp1 hp2 hS hR hK
                  rw [if_pos (by rfl)]
                  go_step
                  exact hK.out _ _ (Below.refl _ _) Eq1.mk Fresh.no
                · intro p vs w' K hJ hp1 hp2 hS hR hK
                  rw [if_pos (by rfl)]
                  go_step
                  exact hK.out _ _ (Below.refl _ _) Eq1.mk Fresh.no
                · intro p vs w' K hJ hp1 hp2 hS hR hK
                  simp only [DepJ, List.getD_cons_zero, List.getD_cons_succ] at hJ
                  obtain ⟨j3, -⟩ := hJ
                  have j3 := Eq1.out j3
                  simp only [j3] at hK ⊢
                  rw [if_pos (by rfl)]
                  have C := Hp.facts hS
                  simp only [Facts, factsL, and_true, true_and, List.set_cons_zero, List.set_cons_succ, List.setIfInBounds_toArray] at C
                  have hsz := hR.1
                  go_step
                  exact hK.out _ _ (Below.refl _ _) Eq1.mk Fresh.no
                · intro p vs w' K hJ hp1 hp2 hS hR hK
                  rw [if_pos (by rfl)]
                  go_step
                  exact hK.out _ _ (Below.refl _ _) Eq1.mk Fresh.no
                · intro p vs w' K hJ hp1 hp2 hS hR hK
                  simp only [DepJ, List.getD_cons_zero, List.getD_cons_succ] at hJ
                  obtain ⟨j5, -⟩ := hJ
                  have j5 := Eq1.out j5
                  simp only [j5] at hK ⊢
                  rw [if_pos (by rfl)]
                  have C := Hp.facts hS
                  simp only [Facts, factsL, and_true, true_and, List.set_cons_zero, List.set_cons_succ, List.setIfInBounds_toArray] at C
                  have hsz := hR.1
                  go_step
                  exact hK.out _ _ (Below.refl _ _) Eq1.mk Fresh.no
                · intro p vs w' K hJ hp1 hp2 hS hR hK
                  simp only [DepJ, List.getD_cons_zero, List.getD_cons_succ] at hJ
                  obtain ⟨j1, j2, j4, j6, -⟩ := hJ
                  obtain ⟨k1, y1, j1, q1⟩ := j1
                  have j2 := Eq1.out j2
                  have j4 := Eq1.out j4
                  have j6 := Eq1.out j6
                  simp only [j1, j2, j4, j6] at hK ⊢
                  rw [if_pos (by rfl)]
                  go_step
                  exact hK.out _ _ (Below.refl _ _) ⟨k1, y1, rfl, q1⟩ Fresh.no
                · intro p vs w' K hJ hp1 hp2 hS hR hK
                  rw [if_pos (by rfl)]
                  go_step
                  exact hK.out _ _ ((Below.refl _ _).alloc (Nat.le_refl _) _) (NewPt.mk _ _ _ _ hR.1) Fresh.no
              case hst_5 => refine ⟨fun _ _ _ _ h => h, fun _ _ _ hs h => NewCurJ.stay hs h, fun _ _ _ _ h => h, fun _ _ _ _ h => h, fun _ _ _ _ h => h, fun _ _ _ _ h => h, fun _ _ _ _ h => h, fun _ _ _ hs h => NewCurG.stay hs h, fun _ _ _ hs h => NewPt.stayR hs h, trivial⟩
              intro vs w' hJ hD hS hR
              simp only [AllJ, Nat.reduceAdd] at hJ
              obtain ⟨v0, v1, v2, v3, v4, v5, v6, v7, v8, -⟩ := hJ
              clear C
              replace v0 := Eq1.out v0
              replace v2 := Eq1.out v2
              replace v3 := Eq1.out v3
              replace v4 := Eq1.out v4
              replace v5 := Eq1.out v5
              replace v6 := Eq1.out v6
              obtain ⟨k1, y1, e1, -⟩ := v1
              obtain ⟨k7, y7, e7, q1'⟩ := v7
              obtain ⟨k8, e8, hB8, hh8⟩ := v8
              simp only [v0, v2, v3, v4, v5, v6, e1, e7, e8, List.drop_succ_cons, List.drop_zero]
              have H' : Hp _ _ _ := hS
              clear hD hR hS v0 v2 v3 v4 v5 v6
              clear e1
              clear e7
              clear e8
              clear vs H
              have H := H'; clear H'; have C := Hp.facts H; simp only [Facts, factsL, and_true, true_and, List.set_cons_zero, List.set_cons_succ, List.setIfInBounds_toArray] at C
              have H2 := Hp.adopts H gH.out.2 gH.out.1 [.blk k8 _ _, .blk k7 _ _, .row _ 1 y7 _ _] (by
                intro x hx
                simp only [List.mem_cons, List.not_mem_nil, or_false] at hx
                rcases hx with rfl | rfl | rfl
                · exact ⟨hh8, hB8⟩
                · exact ⟨q1'.blk, q1'.low⟩
                · exact q1'.row) (nodup3 (blk_blk_apart hh8 q1'.blk (by decide)) (fun j h1 h2 => row_blk_apart q1'.row hh8 (by decide) j h2 h1) (fun j h1 h2 => by
                  simp only [Ent.fp, Option.some.injEq] at h1 h2
                  subst h1
                  exact q1'.ne h2))
              simp only [List.cons_append, List.nil_append] at H2
              clear gH H C q1' hh8 hB8
              have H := H2
              clear H2
              have C := Hp.facts H
              simp only [Facts, factsL, and_true, true_and, List.set_cons_zero, List.set_cons_succ, List.setIfInBounds_toArray] at C

              (repeat' ((fail_if_success (with_reducible show bodyPost _ _ _ _ _ _)); first | ((with_reducible refine Hp.abs_alloc H ?_); intro b' w' H' hb'; (try simp only [hb']); clear hb'; ((try simp only [List.set_cons_zero, List.set_cons_succ, List.setIfInBounds_toArray] at H'); clear C H; have H := H'; clear H'; have C := Hp.facts H; simp only [Facts, factsL, and_true, true_and, List.set_cons_zero, List.set_cons_succ, List.setIfInBounds_toArray] at C)) | ((with_reducible show wpList _ _ _ _ _ (World.setCell _ _ _)); (with_reducible apply Hp.abs_gen H); (first | ((repeat (with_reducible apply Hp.set' 0)); (with_reducible exact H); (repeat rfl); intro w' H') | ((repeat (with_reducible apply Hp.set' 1)); (with_reducible exact H); (repeat rfl); intro w' H') | ((repeat (with_reducible apply Hp.set' 2)); (with_reducible exact H); (repeat rfl); intro w' H') | ((repeat (with_reducible apply Hp.set' 3)); (with_reducible exact H); (repeat rfl); intro w' H') | ((repeat (with_reducible apply Hp.set' 4)); (with_reducible exact H); (repeat rfl); intro w' H') | ((repeat (with_reducible apply Hp.set' 5)); (with_reducible exact H); (repeat rfl); intro w' H') | ((repeat (with_reducible apply Hp.set' 6)); (with_reducible exact H); (repeat rfl); intro w' H') | ((repeat (with_reducible apply Hp.set' 7)); (with_reducible exact H); (repeat rfl); intro w' H') | ((repeat (with_reducible apply Hp.set' 8)); (with_reducible exact H); (repeat rfl); intro w' H') | ((repeat (with_reducible apply Hp.set' 9)); (with_reducible exact H); (repeat rfl); intro w' H')); ((try simp only [List.set_cons_zero, List.set_cons_succ, List.setIfInBounds_toArray] at H'); clear C H; have H := H'; clear H'; have C := Hp.facts H; simp only [Facts, factsL, and_true, true_and, List.set_cons_zero, List.set_cons_succ, List.setIfInBounds_toArray] at C)) | go_values | go_skip | go_guarded | go_step | go_upon | go_back | (simp only [Int.not_lt, Int.not_le] at *; go_simp) | (go_values <;> (try go_simp)) | (go_ite <;> go_prune <;> (try go_simp)) | (split <;> (first | (rename_i hx; exact (hx _ rfl).elim) | go_prune))))
              have gl := Kp.mk (show c.length ≤ 1000000 by omega)
              have ga := Kp.mk (show (at0 + po) + c.length ≤ 1000000 by omega)
              obtain ⟨wl, rfl⟩ := Hp.nameW H
              have H3 : Hp w0 (RdL k7 y7 c 0 bn bs (cnt + 1) sv' (sp0 ++ [(at0 + k, at0 + po + c.length)]) (KdM k7 k8 bx bz b bn bs (.slice none 0 0) v l tc tn (at0 + po) (po + c.length) [] [] (M ++ []))) wl := by
                have H4 := Hp.selA (M := M) [_, _, _, _, _, _, _, _, _, _, _, _, _] H [1, 2, 10, 11, 12, 0, 3, 6, 8, 9] (by decide)
                have H5 := (H4.nilRow 41 5).moveTo5
                simp only [KdM, RdL, List.append_nil, show ((cnt + 1 : Nat) : Int) = (cnt : Int) + 1 by omega, show ((at0 + po : Nat) : Int) = (at0 : Int) + (po : Int) by omega]
                exact H5
              clear H C hcdef hl1 hzi hzl hz hp hk2 hk hl hq0 e0 e1 hd32
              have hc1 : cnt + 1 ≤ 10000 := by omega
              go_loopw [15, 16] (fun _ _ wr => KdRel w0 M q1 k7 k8 bx bz b bn bs y7 v c l sp0 (at0 + k, at0 + po + c.length) tc tn (at0 + po) (po + c.length) (cnt + 1) wr) (fun _ _ wr => c.length - posN wr k7)
              case atStart => exact KdRel.mk 0 (cnt + 1) (c.length + 1) [] [] [] _ _ [] (Nat.zero_le _) hc1 (by rw [List.length_append, hsp.out]; rfl) (by omega) (Nat.le_refl _) (by cases kidsR _ _ _ _ _ <;> simp [PR.glue]) KidsL.zero H3
              case round =>
                clear H3
                obtain ⟨kk, c2, g, ts, sp2, vals, rv, sv2, Os, hkk, hc2, hlen, hg, hts, gK, gV, H⟩ := hrel
                simp only [RdL, KdM] at H
                have gK := Kp.mk gK
                have gV := Kp.mk gV
                have hlen := Kp.mk hlen
                have C := Hp.facts H
                simp only [Facts, factsL, and_true, true_and, List.set_cons_zero, List.set_cons_succ, List.setIfInBounds_toArray] at C
                by_cases hlt : kk < c.length
                · have hlt2 : (0 : Int) < (c.length : Int) - (kk : Int) := by omega
                  have hcc := gl.out
                  have gp := Kp.mk (posN_of (H.cell 0 rfl (j := 1) rfl))
                  have gh := fun M3 w3 (H3 : Hp w0 (RdL k7 y7 c kk bn bs c2 sv2 (sp0 ++ (at0 + k, at0 + po + c.length) :: sp2) M3) w3) => hih (d + 1) w0 M3 k7 bn bs c (at0 + po) kk c2 y7 sv2 (sp0 ++ (at0 + k, at0 + po + c.length) :: sp2) w3 (by omega) hkk ga.out hc2 hlen.out H3
                  simp only [RdL, show ((at0 + po : Nat) : Int) = (at0 : Int) + (po : Int) by omega, show ((d + 1 : Nat) : Int) = (d : Int) + 1 by omega] at gh
                  have gh := Kp.mk gh
                  clear hih
                  simp only [show ((at0 + po : Nat) : Int) = (at0 : Int) + (po : Int) by omega] at H C
                  obtain ⟨Ar, cr, rfl⟩ := Go.LawLift.own_form (ownsOf H 5 rfl)
                  have htl : ts.length ≤ 10000 := by have := hlen.out; rw [List.length_append, List.length_cons] at this; omega
                  (repeat' ((fail_if_success (with_reducible show bodyPost _ _ _ _ _ _)); first | ((with_reducible refine Hp.abs_alloc H ?_); intro b' w' H' hb'; (try simp only [hb']); clear hb'; ((try simp only [List.set_cons_zero, List.set_cons_succ, List.setIfInBounds_toArray] at H'); clear C H; have H := H'; clear H'; have C := Hp.facts H; simp only [Facts, factsL, and_true, true_and, List.set_cons_zero, List.set_cons_succ, List.setIfInBounds_toArray] at C)) | ((with_reducible show wpList _ _ _ _ _ (World.setCell _ _ _)); (with_reducible apply Hp.abs_gen H); (first | ((repeat (with_reducible apply Hp.set' 0)); (with_reducible exact H); (repeat rfl); intro w' H') | ((repeat (with_reducible apply Hp.set' 1)); (with_reducible exact H); (repeat rfl); intro w' H') | ((repeat (with_reducible apply Hp.set' 2)); (with_reducible exact H); (repeat rfl); intro w' H') | ((repeat (with_reducible apply Hp.set' 3)); (with_reducible exact H); (repeat rfl); intro w' H') | ((repeat (with_reducible apply Hp.set' 4)); (with_reducible exact H); (repeat rfl); intro w' H') | ((repeat (with_reducible apply Hp.set' 5)); (with_reducible exact H); (repeat rfl); intro w' H') | ((repeat (with_reducible apply Hp.set' 6)); (with_reducible exact H); (repeat rfl); intro w' H') | ((repeat (with_reducible apply Hp.set' 7)); (with_reducible exact H); (repeat rfl); intro w' H') | ((repeat (with_reducible apply Hp.set' 8)); (with_reducible exact H); (repeat rfl); intro w' H') | ((repeat (with_reducible apply Hp.set' 9)); (with_reducible exact H); (repeat rfl); intro w' H')); ((try simp only [List.set_cons_zero, List.set_cons_succ, List.setIfInBounds_toArray] at H'); clear C H; have H := H'; clear H'; have C := Hp.facts H; simp only [Facts, factsL, and_true, true_and, List.set_cons_zero, List.set_cons_succ, List.setIfInBounds_toArray] at C)) | (go_at_call 52; refine (left_any k7 c kk y7 _ (cur_hp H 0 1 rfl rfl hkk hcc)).mono ?_; rintro e' w' ⟨rfl, hb'⟩; (have H' := Hp.step H hb'; clear hb'; ((try simp only [List.set_cons_zero, List.set_cons_succ, List.setIfInBounds_toArray] at H'); clear C H; have H := H'; clear H'; have C := Hp.facts H; simp only [Facts, factsL, and_true, true_and, List.set_cons_zero, List.set_cons_succ, List.setIfInBounds_toArray] at C))) | go_values | go_skip | go_guarded | go_step | go_upon | go_back | (simp only [Int.not_lt, Int.not_le] at *; go_simp) | (go_values <;> (try go_simp)) | (go_ite <;> go_prune <;> (try go_simp)) | (split <;> (first | (rename_i hx; exact (hx _ rfl).elim) | go_prune))))
                  refine (gh.out _ _ H).mono ?_
                  intro e' w3 hO
                  clear gh
                  cases hO1 : oneR q1 c (at0 + po) kk c2 with
                  | bad er =>
                    rw [hO1] at hO
                    obtain ⟨rfl, H3⟩ := hO.1 er rfl
                    clear hO H C
                    have H := H3
                    clear H3
                    have C := Hp.facts H
                    simp only [Facts, factsL, and_true, true_and, List.set_cons_zero, List.set_cons_succ, List.setIfInBounds_toArray] at C
                    have hne := oneR_bad0 _ _ _ _ _ _ hO1
                    have e0 : ((er : Int) != 0) = true := by simp; omega
                    have gR2 : Kp (R = .bad er) := ⟨by rw [gR.out]; show (match kidsR (oneR q1 c (at0 + po)) _ _ _ _ with | .bad e => _ | .ok (ks, sps) => _) = _; rw [gK.out, kidsR_bad hlt (by omega) hO1]; rfl⟩
                    clear hne hO1 gK gR
                    (repeat' ((fail_if_success (with_reducible show bodyPost _ _ _ _ _ _)); first | ((with_reducible refine Hp.abs_alloc H ?_); intro b' w' H' hb'; (try simp only [hb']); clear hb'; ((try simp only [List.set_cons_zero, List.set_cons_succ, List.setIfInBounds_toArray] at H'); clear C H; have H := H'; clear H'; have C := Hp.facts H; simp only [Facts, factsL, and_true, true_and, List.set_cons_zero, List.set_cons_succ, List.setIfInBounds_toArray] at C)) | ((with_reducible show wpList _ _ _ _ _ (World.setCell _ _ _)); (with_reducible apply Hp.abs_gen H); (first | ((repeat (with_reducible apply Hp.set' 0)); (with_reducible exact H); (repeat rfl); intro w' H') | ((repeat (with_reducible apply Hp.set' 1)); (with_reducible exact H); (repeat rfl); intro w' H') | ((repeat (with_reducible apply Hp.set' 2)); (with_reducible exact H); (repeat rfl); intro w' H') | ((repeat (with_reducible apply Hp.set' 3)); (with_reducible exact H); (repeat rfl); intro w' H') | ((repeat (with_reducible apply Hp.set' 4)); (with_reducible exact H); (repeat rfl); intro w' H') | ((repeat (with_reducible apply Hp.set' 5)); (with_reducible exact H); (repeat rfl); intro w' H') | ((repeat (with_reducible apply Hp.set' 6)); (with_reducible exact H); (repeat rfl); intro w' H') | ((repeat (with_reducible apply Hp.set' 7)); (with_reducible exact H); (repeat rfl); intro w' H') | ((repeat (with_reducible apply Hp.set' 8)); (with_reducible exact H); (repeat rfl); intro w' H') | ((repeat (with_reducible apply Hp.set' 9)); (with_reducible exact H); (repeat rfl); intro w' H')); ((try simp only [List.set_cons_zero, List.set_cons_succ, List.setIfInBounds_toArray] at H'); clear C H; have H := H'; clear H'; have C := Hp.facts H; simp only [Facts, factsL, and_true, true_and, List.set_cons_zero, List.set_cons_succ, List.setIfInBounds_toArray] at C)) | go_values | go_skip | go_guarded | go_step | go_upon | go_back | (simp only [Int.not_lt, Int.not_le] at *; go_simp) | (go_values <;> (try go_simp)) | (go_ite <;> go_prune <;> (try go_simp)) | (split <;> (first | (rename_i hx; exact (hx _ rfl).elim) | go_prune))))
                    refine bodyPost_ret (v := .tuple #[.agg #[.int .i64 0, .int .i64 0, .bool false, .slice none 0 0, .slice none 0 0], .int .i64 er]) (by simp [results, go_sem, C]) rfl ?_
                    rw [hQ.out]
                    exact OneP.bad gR2.out rfl (Hp.keepL (Hp.drops (M := M ++ Os) [_, _, _, _, _, _, _] [] H (List.nil_sublist _)))
                  | ok x =>
                    obtain ⟨t, k2, sp⟩ := x
                    rw [hO1] at hO
                    obtain ⟨cs', sv3, Os2, rfl, H3, hF⟩ := hO.2 t k2 sp rfl
                    have hk12 := oneR_ok hO1 hkk
                    have hcnt := oneR_count q1 c (at0 + po) kk c2 hc2 t k2 sp hO1
                    have htc := t.count_is
                    have gK2 := Kp.mk (gK.out.trans (by rw [kidsR_step hlt (show 0 < g by omega) hO1, PR.glue_glue]))
                    clear hO H C hO1 gK gR
                    have ht2 := hF w3 _ H3 (fun x hx => by simp [hx])
                    obtain ⟨d0, d1, d2, d3, d4, rfl⟩ : ∃ d0 d1 d2 d3 d4, cs' = [d0, d1, d2, d3, d4] := by
                      clear H3 hF
                      match cs', ht2.len with
                      | [d0, d1, d2, d3, d4], _ => exact ⟨d0, d1, d2, d3, d4, rfl⟩
                    obtain ⟨f0, f1, f2, fA, fA2, fk, fc, fk2, fc2, rfl, rfl, rfl, rfl, rfl⟩ := ht2.forms
                    have gV2 := Kp.mk (gV.out.next hF)
                    clear ht2 gV hF
                    simp only [RdL, List.cons_append, List.append_assoc] at H3
                    have H := H3
                    clear H3
                    have C := Hp.facts H
                    simp only [Facts, factsL, and_true, true_and, List.set_cons_zero, List.set_cons_succ, List.setIfInBounds_toArray] at C
                    replace hcnt := Kp.mk hcnt
                    replace htc := Kp.mk htc
                    (repeat' ((fail_if_success (with_reducible show bodyPost _ _ _ _ _ _)); first | ((with_reducible refine Hp.abs_alloc H ?_); intro b' w' H' hb'; (try simp only [hb']); clear hb'; ((try simp only [List.set_cons_zero, List.set_cons_succ, List.setIfInBounds_toArray] at H'); clear C H; have H := H'; clear H'; have C := Hp.facts H; simp only [Facts, factsL, and_true, true_and, List.set_cons_zero, List.set_cons_succ, List.setIfInBounds_toArray] at C)) | ((with_reducible show wpList _ _ _ _ _ (World.setCell _ _ _)); (with_reducible apply Hp.abs_gen H); (first | ((repeat (with_reducible apply Hp.set' 0)); (with_reducible exact H); (repeat rfl); intro w' H') | ((repeat (with_reducible apply Hp.set' 1)); (with_reducible exact H); (repeat rfl); intro w' H') | ((repeat (with_reducible apply Hp.set' 2)); (with_reducible exact H); (repeat rfl); intro w' H') | ((repeat (with_reducible apply Hp.set' 3)); (with_reducible exact H); (repeat rfl); intro w' H') | ((repeat (with_reducible apply Hp.set' 4)); (with_reducible exact H); (repeat rfl); intro w' H') | ((repeat (with_reducible apply Hp.set' 5)); (with_reducible exact H); (repeat rfl); intro w' H') | ((repeat (with_reducible apply Hp.set' 6)); (with_reducible exact H); (repeat rfl); intro w' H') | ((repeat (with_reducible apply Hp.set' 7)); (with_reducible exact H); (repeat rfl); intro w' H') | ((repeat (with_reducible apply Hp.set' 8)); (with_reducible exact H); (repeat rfl); intro w' H') | ((repeat (with_reducible apply Hp.set' 9)); (with_reducible exact H); (repeat rfl); intro w' H')); ((try simp only [List.set_cons_zero, List.set_cons_succ, List.setIfInBounds_toArray] at H'); clear C H; have H := H'; clear H'; have C := Hp.facts H; simp only [Facts, factsL, and_true, true_and, List.set_cons_zero, List.set_cons_succ, List.setIfInBounds_toArray] at C)) | (at_builtin; (refine wpList_append_hp H 7 rfl _ _ _ rfl Try.underlying39 hi hz0 hz1 hz2 rfl (by decide) rfl rfl rfl (news := [_, _, _, _, _]) rfl (fun h => by cases h) (fun _ => ⟨_, rfl, blk_news (H.get 0 rfl)⟩) (by simp [Value.oneCell']) (by unfold maxLen; omega) (by omega) ?_); intro v' w' H'; (obtain ⟨Av, cw, rfl⟩ := Go.LawLift.own_form (ownsOf H' 7 rfl)); ((try simp only [List.set_cons_zero, List.set_cons_succ, List.setIfInBounds_toArray] at H'); clear C H; have H := H'; clear H'; have C := Hp.facts H; simp only [Facts, factsL, and_true, true_and, List.set_cons_zero, List.set_cons_succ, List.setIfInBounds_toArray] at C)) | go_values | go_skip | go_guarded | go_step | go_upon | go_back | (simp only [Int.not_lt, Int.not_le] at *; go_simp) | (go_values <;> (try go_simp)) | (go_ite <;> go_prune <;> (try go_simp)) | (split <;> (first | (rename_i hx; exact (hx _ rfl).elim) | go_prune))))
                    have htc2 := htc.out
                    have hcnt2 := hcnt.out
                    refine ⟨KdRel.mk k2 (c2 + sp.length) (g - 1) (ts ++ [t]) (sp2 ++ sp) _ (.slice Av (ts.length + 1) cw) sv3 (Os ++ Os2) hk12.2 hcnt2.1 ?_ (by omega) ?_ gK2.out gV2.out ?_, ?_⟩
                    · have := hlen.out
                      simp only [List.length_append, List.length_cons] at this ⊢
                      omega
                    · simp only [List.length_append, List.length_cons, List.length_nil]
                      omega
                    · have H5 := H.tail.tail
                      simp only [RdL, KdM, List.length_append, List.length_cons, List.length_nil, Nat.zero_add, show ((at0 + po : Nat) : Int) = (at0 : Int) + (po : Int) by omega]
                      exact H5
                    · have gp2 := posN_of (H.cell 2 rfl (j := 1) rfl)
                      rw [gp.out, gp2]
                      omega
                · have hkc : kk = c.length := by omega
                  subst hkc
                  have hlt2 : ¬ (0 : Int) < (c.length : Int) - (c.length : Int) := by omega
                  have hcc := gl.out
                  have gR2 : Kp (R = .ok (.mk ⟨tc, tn, true⟩ [] ts, po + c.length, (at0 + k, at0 + po + c.length) :: sp2)) := ⟨by
                    rw [gR.out]
                    show (match kidsR (oneR q1 c (at0 + po)) _ _ _ _ with | .bad e => _ | .ok (ks, sps) => _) = _
                    rw [gK.out, kidsR_end (Nat.lt_irrefl _) (by omega)]
                    simp [PR.glue]⟩
                  clear gR gK hih
                  obtain ⟨Ar, cr, rfl⟩ := Go.LawLift.own_form (ownsOf H 5 rfl)
                  (repeat' ((fail_if_success (with_reducible show bodyPost _ _ _ _ _ _)); first | ((with_reducible refine Hp.abs_alloc H ?_); intro b' w' H' hb'; (try simp only [hb']); clear hb'; ((try simp only [List.set_cons_zero, List.set_cons_succ, List.setIfInBounds_toArray] at H'); clear C H; have H := H'; clear H'; have C := Hp.facts H; simp only [Facts, factsL, and_true, true_and, List.set_cons_zero, List.set_cons_succ, List.setIfInBounds_toArray] at C)) | ((with_reducible show wpList _ _ _ _ _ (World.setCell _ _ _)); (with_reducible apply Hp.abs_gen H); (first | ((repeat (with_reducible apply Hp.set' 0)); (with_reducible exact H); (repeat rfl); intro w' H') | ((repeat (with_reducible apply Hp.set' 1)); (with_reducible exact H); (repeat rfl); intro w' H') | ((repeat (with_reducible apply Hp.set' 2)); (with_reducible exact H); (repeat rfl); intro w' H') | ((repeat (with_reducible apply Hp.set' 3)); (with_reducible exact H); (repeat rfl); intro w' H') | ((repeat (with_reducible apply Hp.set' 4)); (with_reducible exact H); (repeat rfl); intro w' H') | ((repeat (with_reducible apply Hp.set' 5)); (with_reducible exact H); (repeat rfl); intro w' H') | ((repeat (with_reducible apply Hp.set' 6)); (with_reducible exact H); (repeat rfl); intro w' H') | ((repeat (with_reducible apply Hp.set' 7)); (with_reducible exact H); (repeat rfl); intro w' H') | ((repeat (with_reducible apply Hp.set' 8)); (with_reducible exact H); (repeat rfl); intro w' H') | ((repeat (with_reducible apply Hp.set' 9)); (with_reducible exact H); (repeat rfl); intro w' H')); ((try simp only [List.set_cons_zero, List.set_cons_succ, List.setIfInBounds_toArray] at H'); clear C H; have H := H'; clear H'; have C := Hp.facts H; simp only [Facts, factsL, and_true, true_and, List.set_cons_zero, List.set_cons_succ, List.setIfInBounds_toArray] at C)) | (go_at_call 52; refine (left_any k7 c c.length y7 _ (cur_hp H 0 1 rfl rfl (Nat.le_refl _) hcc)).mono ?_; rintro e' w' ⟨rfl, hb'⟩; (have H' := Hp.step H hb'; clear hb'; ((try simp only [List.set_cons_zero, List.set_cons_succ, List.setIfInBounds_toArray] at H'); clear C H; have H := H'; clear H'; have C := Hp.facts H; simp only [Facts, factsL, and_true, true_and, List.set_cons_zero, List.set_cons_succ, List.setIfInBounds_toArray] at C))) | go_values | go_skip | go_guarded | go_step | go_upon | go_back | (simp only [Int.not_lt, Int.not_le] at *; go_simp) | (go_values <;> (try go_simp)) | (go_ite <;> go_prune <;> (try go_simp)) | (split <;> (first | (rename_i hx; exact (hx _ rfl).elim) | go_prune))))
                  refine bodyPost_ret (v := .tuple #[.agg #[.int .i64 tc, .int .i64 tn, .bool true, .slice none 0 0, .slice Ar ts.length cr], .int .i64 0]) (by simp [results, go_sem, C]) rfl ?_
                  rw [hQ.out]
                  have H3 := H.front 5 rfl
                  simp only [List.eraseIdx_cons_zero, List.eraseIdx_cons_succ] at H3
                  obtain ⟨Os1, H4, hT⟩ := KidsL.tree (tg := ⟨tc, tn, true⟩) gV.out H3 Firm.nilBs
                  simp only [List.nil_append] at hT
                  have hc2e : c2 = cnt + ((at0 + k, at0 + po + c.length) :: sp2).length := by have := hlen.out; rw [List.length_append, hsp.out] at this; omega
                  refine OneP.okk gR2.out ⟨[_, _, _, _, _], sv2, Os ++ Os1, rfl, ?_, hT⟩
                  rw [← hc2e]
                  simp only [List.cons_append, List.append_assoc] at H4
                  exact Hp.selA (M := M ++ (Os ++ Os1)) [_, _, _, _, _, _, _, _, _, _] H4 [8, 9, 2, 3, 4] (by decide)

  · have e0 : ((er : Int) != 0) = true := by simp; omega
    have gR : Kp (R = .bad er) := ⟨by rw [hR.out, if_pos h0]⟩
    clear hR hlt
    (repeat' ((fail_if_success (with_reducible show bodyPost _ _ _ _ _ _)); first | ((with_reducible refine Hp.abs_alloc H ?_); intro b' w' H' hb'; (try simp only [hb']); clear hb'; ((try simp only [List.set_cons_zero, List.set_cons_succ, List.setIfInBounds_toArray] at H'); clear C H; have H := H'; clear H'; have C := Hp.facts H; simp only [Facts, factsL, and_true, true_and, List.set_cons_zero, List.set_cons_succ, List.setIfInBounds_toArray] at C)) | ((with_reducible show wpList _ _ _ _ _ (World.setCell _ _ _)); (with_reducible apply Hp.abs_gen H); (first | ((repeat (with_reducible apply Hp.set' 0)); (with_reducible exact H); (repeat rfl); intro w' H') | ((repeat (with_reducible apply Hp.set' 1)); (with_reducible exact H); (repeat rfl); intro w' H') | ((repeat (with_reducible apply Hp.set' 2)); (with_reducible exact H); (repeat rfl); intro w' H') | ((repeat (with_reducible apply Hp.set' 3)); (with_reducible exact H); (repeat rfl); intro w' H') | ((repeat (with_reducible apply Hp.set' 4)); (with_reducible exact H); (repeat rfl); intro w' H') | ((repeat (with_reducible apply Hp.set' 5)); (with_reducible exact H); (repeat rfl); intro w' H') | ((repeat (with_reducible apply Hp.set' 6)); (with_reducible exact H); (repeat rfl); intro w' H') | ((repeat (with_reducible apply Hp.set' 7)); (with_reducible exact H); (repeat rfl); intro w' H') | ((repeat (with_reducible apply Hp.set' 8)); (with_reducible exact H); (repeat rfl); intro w' H') | ((repeat (with_reducible apply Hp.set' 9)); (with_reducible exact H); (repeat rfl); intro w' H')); ((try simp only [List.set_cons_zero, List.set_cons_succ, List.setIfInBounds_toArray] at H'); clear C H; have H := H'; clear H'; have C := Hp.facts H; simp only [Facts, factsL, and_true, true_and, List.set_cons_zero, List.set_cons_succ, List.setIfInBounds_toArray] at C)) | go_values | go_skip | go_guarded | go_step | go_upon | go_back | (simp only [Int.not_lt, Int.not_le] at *; go_simp) | (go_values <;> (try go_simp)) | (go_ite <;> go_prune <;> (try go_simp)) | (split <;> (first | (rename_i hx; exact (hx _ rfl).elim) | go_prune))))
    refine bodyPost_ret (v := .tuple #[.agg #[.int .i64 0, .int .i64 0, .bool false, .slice none 0 0, .slice none 0 0], .int .i64 er]) (by simp [results, go_sem, C]) rfl ?_
    rw [hQ.out]
    exact OneP.bad gR.out rfl (Hp.drops (M := M) [_, _, _, _, _, _, _, _] [] H (List.nil_sublist _))
theorem one_any : ∀ q, OneC q := by
  intro q
  induction q with
  | zero => exact one_step 0 (fun q' h => by omega)
  | succ q ih =>
    refine one_step (q + 1) fun q' h => ?_
    obtain rfl : q' = q := by omega
    exact ih
end Go.Proofs.Ytogliinfdfkobaa

