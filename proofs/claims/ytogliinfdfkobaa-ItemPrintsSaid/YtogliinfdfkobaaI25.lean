/- Reading a head at a place is reading it behind that place; what is read is what is written. No program in sight. -/
import Derived.Test.YtogliinfdfkobaaHBack
import Derived.Test.YtogliinfdfkobaaTreeW
import Derived.Test.YtogliinfdfkobaaI21
import Derived.Test.YtogliinfdfkobaaH17
import Derived.Test.YtogliinfdfkobaaH27
set_option linter.unusedSimpArgs false
set_option linter.unusedVariables false
set_option linter.unusedVariables false
namespace Go.Mem
open Go.RowKit Hd
theorem getD_drop (l : List UInt8) (k j : Nat) : (l.drop k)[j]? = l[k + j]? := List.getElem?_drop
theorem numR_drop (l : List UInt8) (k : Nat) : ∀ (f p n : Nat), numR l f (k + p) n = ((numR (l.drop k) f p n).1, (numR (l.drop k) f p n).2.1, k + (numR (l.drop k) f p n).2.2)
  | 0, p, n => by simp [numR]
  | f + 1, p, n => by
    have ih := numR_drop l k f (p + 1)
    rw [numR, numR, getD_drop]
    cases h : l[k + p]? with
    | none => simp
    | some d =>
      simp only []
      split
      · rfl
      · split
        · split <;> rfl
        · rw [Nat.add_assoc, ih]
theorem rdTag_drop (l : List UInt8) (k : Nat) : rdTag l k = ((rdTag (l.drop k) 0).1, (rdTag (l.drop k) 0).2.1, k + (rdTag (l.drop k) 0).2.2) := by
  have h := numR_drop l k 4 1 0
  unfold rdTag
  rw [getD_drop, Nat.add_zero]
  cases hx : l[k]? with
  | none => simp
  | some x =>
    simp only [Nat.zero_add]
    rw [h]
    split
    · rfl
    · split <;> rfl
theorem rdLen_drop (l : List UInt8) (k j : Nat) : rdLen l (k + j) = ((rdLen (l.drop k) j).1, (rdLen (l.drop k) j).2.1, k + (rdLen (l.drop k) j).2.2) := by
  unfold rdLen
  rw [getD_drop]
  cases hx : l[k + j]? with
  | none => simp
  | some x =>
    simp only [List.length_drop, List.drop_drop, getD_drop]
    have e1 : l.length - (k + j + 1) = l.length - k - (j + 1) := by omega
    have e2 : k + j + 1 = k + (j + 1) := by omega
    rw [e1, e2]
    (repeat' split) <;> (simp only [Prod.mk.injEq, true_and]; try omega)
theorem rdHead_drop (l : List UInt8) (k : Nat) : rdHead l k = ((rdHead (l.drop k) 0).1, (rdHead (l.drop k) 0).2.1, (rdHead (l.drop k) 0).2.2.1, k + (rdHead (l.drop k) 0).2.2.2) := by
  unfold rdHead
  rw [rdTag_drop l k]
  simp only [rdLen_drop]
  split
  · split <;> rfl
  · rfl
end Go.Mem

set_option linter.unusedSimpArgs false
set_option linter.unusedVariables false
set_option maxRecDepth 100000
namespace Go.Proofs.Ytogliinfdfkobaa
open Go.RowKit Go.Mem Go.Reg Oct Hd Go.LawLift
theorem tagL_pos (t : Tg) : 0 < (tagL t).length := by
  unfold tagL
  split <;> simp
theorem wholeL_len (t : Tg) (l : List UInt8) : l.length + 1 ≤ (wholeL t l).length := by
  have := tagL_pos t
  unfold wholeL
  simp only [List.length_append]
  omega
mutual
theorem lenT_conv : ∀ (t : Tree), t.sound = true → (wholeT t).length ≤ 16777216 → lenT t = ((wholeT t).length : Int)
  | .mk t b ks, hs, h => by
    rw [lenT]
    rw [wholeT] at h ⊢
    rw [Tree.sound] at hs
    simp only [Bool.and_eq_true] at hs
    obtain ⟨⟨h1, h2⟩, h3⟩ := hs
    have hw := wholeL_len t (b ++ wholesT ks)
    have hk := lensT_conv ks b.length h3 (by omega) (by rw [List.length_append] at hw; omega)
    have hl : lensT b.length ks = ((b ++ wholesT ks).length : Int) := by rw [List.length_append]; omega
    have hz := sizeR_ok h1 (l := b ++ wholesT ks) (by omega)
    rw [hl, capL_ok (by omega) (by rw [hz]; omega), hz]
theorem lensT_conv : ∀ (ks : List Tree) (n : Int), Tree.sounds ks = true → 0 ≤ n → n + ((wholesT ks).length : Int) ≤ 16777216 → lensT n ks = n + ((wholesT ks).length : Int)
  | [], n, _, _, _ => by
    rw [lensT, wholesT]
    simp
  | k :: r, n, hs, hn, h => by
    rw [Tree.sounds] at hs
    simp only [Bool.and_eq_true] at hs
    rw [wholesT, List.length_append] at h ⊢
    have h1 := lenT_conv k hs.1 (by omega)
    have h2 := lensT_conv r (n + lenT k) hs.2 (by omega) (by omega)
    rw [lensT, if_neg (by omega), h2]
    omega
end
/-- What reading one tells of the tree. -/
def BackR (q : Nat) (l : List UInt8) (k : Nat) (t : Tree) (k2 : Nat) : Prop := t.sound = true ∧ t.deep ≤ q ∧ wholeT t = (l.drop k).take (k2 - k)
end Go.Proofs.Ytogliinfdfkobaa

set_option linter.unusedSimpArgs false
set_option linter.unusedVariables false
set_option maxRecDepth 100000
namespace Go.Proofs.Ytogliinfdfkobaa
open Go.RowKit Go.Mem Go.Reg Hd Go.LawLift Oct
def RTagOut (w : World) (R : Tg × Nat × Nat) (e : Ending) (w' : World) : Prop :=
  e = .returned (.tuple #[.agg #[.int .i64 R.1.c, .int .i64 R.1.n, .bool R.1.m], .int .i64 (R.2.2 : Int), .int .i64 (R.2.1 : Int)]) ∧ Below w.heap.size w w'
def RLenOut (w : World) (R : Nat × Nat × Nat) (e : Ending) (w' : World) : Prop :=
  e = .returned (.tuple #[.int .i64 (R.1 : Int), .int .i64 (R.2.2 : Int), .int .i64 (R.2.1 : Int)]) ∧ Below w.heap.size w w'
end Go.Proofs.Ytogliinfdfkobaa

set_option linter.unusedSimpArgs false
set_option linter.unusedVariables false
set_option maxRecDepth 100000
namespace Go.Proofs.Ytogliinfdfkobaa
open Go.RowKit Go.Mem Go.Reg Hd Go.LawLift Oct
end Go.Proofs.Ytogliinfdfkobaa

set_option linter.unusedSimpArgs false
set_option linter.unusedVariables false
set_option maxRecDepth 100000
namespace Go.Proofs.Ytogliinfdfkobaa
open Go.RowKit Go.Mem Go.Reg Hd Go.LawLift Oct
def RHeadOut (w : World) (R : Tg × Nat × Nat × Nat) (e : Ending) (w' : World) : Prop :=
  e = .returned (.tuple #[.agg #[.int .i64 R.1.c, .int .i64 R.1.n, .bool R.1.m], .int .i64 (R.2.1 : Int), .int .i64 (R.2.2.2 : Int), .int .i64 (R.2.2.1 : Int)]) ∧ Below w.heap.size w w'
end Go.Proofs.Ytogliinfdfkobaa

set_option linter.unusedSimpArgs false
set_option linter.unusedVariables false
set_option maxRecDepth 100000
namespace Go.Proofs.Ytogliinfdfkobaa
open Go.RowKit Go.Mem Go.Reg Oct Hd Go.LawLift
end Go.Proofs.Ytogliinfdfkobaa

set_option linter.unusedSimpArgs false
set_option linter.unusedVariables false
set_option maxRecDepth 100000
namespace Go.Proofs.Ytogliinfdfkobaa
open Go.RowKit Go.Mem Go.Reg Oct Hd Go.LawLift
theorem tagL_le (t : Tg) : (tagL t).length ≤ 4 := by
  unfold tagL
  split
  · simp
  · split <;> split <;> simp
theorem lenL_le (n : Int) : (lenL n).length ≤ 5 := by
  unfold lenL
  (repeat' split) <;> simp
mutual
theorem whole_le : ∀ t : Tree, (wholeT t).length ≤ t.total + 9 * t.count
  | .mk t b ks => by
    have h := wholes_le ks
    have h1 := tagL_le t
    have h2 := lenL_le ((b ++ wholesT ks).length : Nat)
    rw [wholeT, wholeL, Tree.total, Tree.count]
    simp only [List.length_append] at *
    omega
theorem wholes_le : ∀ ks : List Tree, (wholesT ks).length ≤ Tree.totals ks + 9 * Tree.counts ks
  | [] => by simp [wholesT]
  | k :: r => by
    have h1 := whole_le k
    have h2 := wholes_le r
    rw [wholesT, Tree.totals, Tree.counts, List.length_append]
    omega
end
/-- Of a tree of few bytes: the document's Right is the program's. -/
theorem right_few {t : Tree} (h : (wholeT t).length ≤ 16777216) : irightT t = (t.sound && decide (t.deep ≤ 32) && decide (t.count ≤ 10000)) := by
  unfold irightT
  cases hs : t.sound with
  | false => simp
  | true =>
    rw [decide_eq_true (show 0 ≤ lenT t by rw [lenT_conv t hs h]; omega)]
    simp
mutual
theorem oneR_forth : ∀ (t : Tree) (q : Nat) (l : List UInt8) (at0 k cnt : Nat) (r : List UInt8), t.sound = true → t.deep ≤ q → (wholeT t).length ≤ 16777216 → cnt + t.count ≤ 10000 → l.drop k = wholeT t ++ r → k ≤ l.length →
    ∃ sp : Sps, oneR q l at0 k cnt = .ok (t, k + (wholeT t).length, sp) ∧ sp.length = t.count
  | .mk tg b ks, q, l, at0, k, cnt, r, hs, hd, hl, hc, hr, hk => by
    rw [Tree.sound] at hs
    simp only [Bool.and_eq_true] at hs
    obtain ⟨⟨h1, h2⟩, h3⟩ := hs
    rw [Tree.deep] at hd
    rw [Tree.count] at hc
    rw [wholeT] at hl hr ⊢
    have hw := wholeL_len tg (b ++ wholesT ks)
    obtain ⟨q, rfl⟩ : ∃ m, q = m + 1 := ⟨q - 1, by omega⟩
    obtain ⟨tc, tn, tm⟩ := tg
    have hz : (b ++ wholesT ks).length ≤ 16777216 := by omega
    have hh := head_back h1 (b ++ wholesT ks).length hz ((b ++ wholesT ks) ++ r)
    have hr2 : l.drop k = tagL ⟨tc, tn, tm⟩ ++ (lenL (((b ++ wholesT ks).length : Nat) : Int) ++ ((b ++ wholesT ks) ++ r)) := by rw [hr, wholeL]; simp only [List.append_assoc]
    rw [← hr2] at hh
    have hrd := rdHead_drop l k
    rw [hh] at hrd
    simp only [] at hrd
    have hlen : l.length - k = (tagL ⟨tc, tn, tm⟩).length + ((lenL (((b ++ wholesT ks).length : Nat) : Int)).length + ((b ++ wholesT ks).length + r.length)) := by
      have := congrArg List.length hr2
      rw [List.length_drop] at this
      rw [this]
      simp only [List.length_append]
    have hwl : (wholeL ⟨tc, tn, tm⟩ (b ++ wholesT ks)).length = (tagL ⟨tc, tn, tm⟩).length + (lenL (((b ++ wholesT ks).length : Nat) : Int)).length + (b ++ wholesT ks).length := by
      rw [wholeL]; simp only [List.length_append]
    generalize hhl : (tagL ⟨tc, tn, tm⟩).length + (lenL (((b ++ wholesT ks).length : Nat) : Int)).length = hl0 at *
    have hcont : (l.drop (k + hl0)).take (b ++ wholesT ks).length = b ++ wholesT ks := by
      rw [← List.drop_drop, hr2, ← List.append_assoc, List.drop_left' (by rw [List.length_append]; exact hhl), List.take_left' rfl]
    show ∃ sp, partR (q + 1) (oneR q) l at0 k cnt = _ ∧ _
    unfold partR
    rw [hrd]
    simp only []
    rw [if_neg (by simp), if_neg (by omega), if_neg (by omega), if_neg (by omega), hcont, hwl]
    simp only [← Nat.add_assoc]
    cases tm with
    | false =>
      rw [if_pos rfl]
      have hks : ks = [] := List.eq_nil_of_length_eq_zero (by simpa using h2)
      subst hks
      simp only [wholesT, List.append_nil]
      exact ⟨_, rfl, by simp [Tree.count, Tree.counts]⟩
    | true =>
      rw [if_neg (by decide)]
      have hb : b = [] := List.eq_nil_of_length_eq_zero (by simpa using h2)
      subst hb
      simp only [List.nil_append] at *
      obtain ⟨sp, hsp, hsl⟩ := kids_forth ks q (wholesT ks) (at0 + k + hl0) ((wholesT ks).length + 1) 0 (cnt + 1) h3 (by omega) hz (by omega) (by simp) (Nat.zero_le _) (by omega)
      rw [hsp]
      exact ⟨_, rfl, by rw [List.length_cons, hsl, Tree.count]⟩
theorem kids_forth : ∀ (ks : List Tree) (q : Nat) (c : List UInt8) (at1 g k cnt : Nat), Tree.sounds ks = true → Tree.deeps ks ≤ q → (wholesT ks).length ≤ 16777216 → cnt + Tree.counts ks ≤ 10000 → c.drop k = wholesT ks → k ≤ c.length → c.length - k < g →
    ∃ sp : Sps, kidsR (oneR q c at1) c.length g k cnt = .ok (ks, sp) ∧ sp.length = Tree.counts ks
  | [], q, c, at1, g, k, cnt, _, _, _, _, hr, hk, hg => by
    have : c.length - k = 0 := by have := congrArg List.length hr; simpa [wholesT] using this
    exact ⟨[], kidsR_end (by omega) (by omega), by simp [Tree.counts]⟩
  | t :: ts, q, c, at1, g, k, cnt, hs, hd, hl, hc, hr, hk, hg => by
    rw [Tree.sounds] at hs
    simp only [Bool.and_eq_true] at hs
    rw [Tree.deeps] at hd
    rw [Tree.counts] at hc
    rw [wholesT] at hl hr
    rw [List.length_append] at hl
    have hcl : c.length - k = (wholeT t).length + (wholesT ts).length := by have := congrArg List.length hr; simpa using this
    have hpos : 0 < (wholeT t).length := by have := wholeT_is t; rw [this]; have := wholeL_len t.tag (t.bytes ++ wholesT t.kids); omega
    obtain ⟨sp, h1, h2⟩ := oneR_forth t q c at1 k cnt (wholesT ts) hs.1 (by omega) (by omega) (by omega) hr hk
    have hr2 : c.drop (k + (wholeT t).length) = wholesT ts := by rw [← List.drop_drop, hr, List.drop_left' rfl]
    obtain ⟨sp2, h3, h4⟩ := kids_forth ts q c at1 (g - 1) (k + (wholeT t).length) (cnt + sp.length) hs.2 (by omega) (by omega) (by omega) hr2 (by omega) (by omega)
    refine ⟨sp ++ sp2, ?_, by rw [List.length_append, h2, h4, Tree.counts]⟩
    rw [kidsR_step (by omega) (by omega) h1, h3]
    rfl
end
theorem parse_forth {t : Tree} (hs : t.sound = true) (hd : t.deep ≤ 32) (hc : t.count ≤ 10000) (hl : (wholeT t).length ≤ 16777216) : ∃ sp, parseR (wholeT t) = .ok (t, sp) := by
  obtain ⟨sp, h1, -⟩ := oneR_forth t 32 (wholeT t) 0 0 0 [] hs hd hl (by omega) (by simp) (Nat.zero_le _)
  refine ⟨sp, ?_⟩
  unfold parseR
  rw [h1]
  simp
end Go.Proofs.Ytogliinfdfkobaa

set_option linter.unusedSimpArgs false
set_option linter.unusedVariables false
set_option maxRecDepth 100000
namespace Go.Proofs.Ytogliinfdfkobaa
open Go.RowKit Go.Mem Go.Reg Oct Hd Go.LawLift
theorem wholesT_take (ks : List Tree) (i : Nat) (h : i < ks.length) : wholesT (ks.take (i + 1)) = wholesT (ks.take i) ++ wholeT ks[i] := by
  rw [wholesT_map, wholesT_map, List.take_succ_eq_append_getElem h, List.map_append, List.flatten_append]
  simp
/-- The document's loop over a tree's kids: their bytes so far. -/
def RpRel (b : List UInt8) (ks : List Tree) (M : List Ent) (w : World) (x ix : Value) (wr : World) : Prop := ∃ (i : Nat) (l : List UInt8), i ≤ ks.length ∧ ix = .int .i64 i ∧ l = b ++ wholesT (ks.take i) ∧ Hp w (.row 5 1 x l.length (l.map u8c) :: M) wr
theorem RpRel.mk {b : List UInt8} {ks : List Tree} {M : List Ent} {w : World} {x ix : Value} {wr : World} (i : Nat) (l : List UInt8) (h1 : i ≤ ks.length) (h2 : ix = .int .i64 i) (h3 : l = b ++ wholesT (ks.take i)) (h4 : Hp w (.row 5 1 x l.length (l.map u8c) :: M) wr) : RpRel b ks M w x ix wr := ⟨i, l, h1, h2, h3, h4⟩
set_option maxHeartbeats 3200000 in
theorem rprint_any : ∀ (n : Nat) (t : Tree) (cs : List Value) (w : World), ItN w n t cs → t.sound = true → (wholeT t).length ≤ 100000 → t.count ≤ 100000 →
    Calls Try.prog 31 #[.agg cs.toArray] w fun e w' => (∃ v', e = .returned v' ∧ w'.ownsRow w.heap.size 5 1 v' (wholeT t).length ((wholeT t).map u8c)) ∧ Below w.heap.size w w' := by
  intro n
  induction n with
  | zero => intro t cs w h; exact h.elim
  | succ n ih =>
    intro t cs w ht hso hle hcn
    obtain ⟨i0, hi, hz0, hz1, hz2⟩ := info_parts info_u8
    obtain ⟨vb, A, c, rfl, hb, hlc, hcm, hA, hk⟩ := ht.open
    have H := Hp.start w
    have C : True := trivial
    have hW := wholeT_is t
    have hcn2 := t.count_is
    have hat := Tree.counts_at t.kids
    have hkl := Tree.len_counts t.kids
    have hcap : c ≤ 9223372036854775807 := hcm
    have hwl := wholeL_len t.tag (t.bytes ++ wholesT t.kids)
    obtain ⟨⟨tc, tn, tm⟩, bs, ks⟩ := t
    rw [Tree.sound] at hso
    simp only [Tree.kids, Tree.tag, Tree.bytes] at *
    simp only [Bool.and_eq_true] at hso
    obtain ⟨⟨hok, hpart⟩, hsd⟩ := hso
    rw [hW] at hle ⊢
    have hsk : ∀ j, (hj : j < ks.length) → ks[j].sound = true := fun j hj => by
      cases h : ks[j].sound with
      | true => rfl
      | false => rw [Tree.sounds_at ks j hj h] at hsd; cases hsd
    have hkw : ∀ i, i ≤ ks.length → (bs ++ wholesT (ks.take i)).length ≤ 100000 := fun i hi => by
      have e : wholesT ks = wholesT (ks.take i) ++ wholesT (ks.drop i) := by rw [wholesT_map, wholesT_map, wholesT_map, ← List.flatten_append, ← List.map_append, List.take_append_drop]
      have e2 := congrArg List.length e
      simp only [List.length_append] at hwl e2 ⊢
      omega
    have gk := Kp.mk (fun j (hj : j < ks.length) => show ks[j].sound = true ∧ (wholeT ks[j]).length ≤ 100000 ∧ ks[j].count ≤ 100000 from ⟨hsk j hj, by have h1 := hkw (j + 1) (by omega); rw [wholesT_take ks j hj] at h1; simp only [List.length_append] at h1; omega, by have := hat j hj; omega⟩)
    have gkw := Kp.mk hkw
    have hkl2 : ks.length ≤ 100000 := by omega
    have hall : (bs ++ wholesT ks).length ≤ 100000 := by omega
    have hRW := fun v w hb => rwrap_any tc tn tm hok (bs ++ wholesT ks) v w hb hall
    rw [show tagL ⟨tc, tn, tm⟩ ++ lenL ((bs ++ wholesT ks).length : Nat) ++ (bs ++ wholesT ks) = wholeL ⟨tc, tn, tm⟩ (bs ++ wholesT ks) from rfl] at hRW
    generalize wholeL ⟨tc, tn, tm⟩ (bs ++ wholesT ks) = res at hRW ⊢
    obtain ⟨Bv, cv, rfl⟩ : ∃ Bv cv, vb = .slice Bv bs.length cv := by
      obtain ⟨Bv, cv, e, -⟩ := hb
      exact ⟨Bv, cv, by simpa using e⟩
    have hbl : bs.length ≤ 100000 := by simp only [List.length_append] at hall; omega
    replace hb := Kp.mk hb
    clear hat hkl hcn hcn2 ht hcm hW hle hwl hsd hsk hkw hall hpart
    obtain ⟨Q, hQ⟩ : ∃ Q : Ending → World → Prop, Q = fun e w' => (∃ v', e = .returned v' ∧ w'.ownsRow w.heap.size 5 1 v' res.length (res.map u8c)) ∧ Below w.heap.size w w' := ⟨_, rfl⟩
    rw [← hQ]
    replace hQ := Kp.mk hQ
    have H := H.nilRow 5 1
    go_enter Try.func31, Try.ntmps31
    (repeat' ((fail_if_success (with_reducible show bodyPost _ _ _ _ _ _)); first | ((with_reducible refine Hp.abs_alloc H ?_); intro b' w' H' hb'; (try simp only [hb']); clear hb'; ((try simp only [Zp, Zq, Zr] at H'); clear C H; have H := H'; clear H'; have C := Hp.facts H; simp only [Facts, factsL, and_true, true_and, Zp, Zq, Zr] at C)) | ((with_reducible show wpList _ _ _ _ _ (World.setCell _ _ _)); (with_reducible apply Hp.abs_gen H); (first | (with_reducible (repeat apply Zt 0); exact H); (repeat rfl); intro w' H' | (with_reducible (repeat apply Zt 1); exact H); (repeat rfl); intro w' H' | (with_reducible (repeat apply Zt 2); exact H); (repeat rfl); intro w' H' | (with_reducible (repeat apply Zt 3); exact H); (repeat rfl); intro w' H' | (with_reducible (repeat apply Zt 4); exact H); (repeat rfl); intro w' H' | (with_reducible (repeat apply Zt 5); exact H); (repeat rfl); intro w' H' | (with_reducible (repeat apply Zt 6); exact H); (repeat rfl); intro w' H' | (with_reducible (repeat apply Zt 7); exact H); (repeat rfl); intro w' H'); ((try simp only [Zp, Zq, Zr] at H'); clear C H; have H := H'; clear H'; have C := Hp.facts H; simp only [Facts, factsL, and_true, true_and, Zp, Zq, Zr] at C)) | (at_builtin; (refine wpList_append_hp H 1 rfl _ _ _ rfl Try.underlying24 hi hz0 hz1 hz2 rfl (by decide) rfl rfl rfl (news := (bs).map u8c) ((hb.out.step H.low).src).2.1 ((hb.out.step H.low).src).1 ((hb.out.step H.low).src).2.2 (u8c_one _) (by unfold maxLen; omega) (by omega) ?_); intro v' w' H'; ((try simp only [Zp, Zq, Zr] at H'); clear C H; have H := H'; clear H'; have C := Hp.facts H; simp only [Facts, factsL, and_true, true_and, Zp, Zq, Zr] at C)) | go_values | go_skip | go_guarded | go_step | go_upon | go_back | (simp only [Int.not_lt, Int.not_le] at *; go_simp) | (go_values <;> (try go_simp)) | (go_ite <;> go_prune <;> (try go_simp)) | (split <;> (first | (rename_i hx; exact (hx _ rfl).elim) | go_prune))))
    (obtain ⟨bt, rfl⟩ := Hp.name H 0 rfl)
    have e1 : 0 + bs.length = bs.length := Nat.zero_add _
    simp only [List.nil_append, e1] at H
    have H' := H.front 1 rfl
    simp only [List.eraseIdx_cons_zero, List.eraseIdx_cons_succ] at H'
    clear e1
    ((try simp only [Zp, Zq, Zr] at H'); clear C H; have H := H'; clear H'; have C := Hp.facts H; simp only [Facts, factsL, and_true, true_and, Zp, Zq, Zr] at C)
    go_loopw [3, 4] (fun x ix wr => RpRel bs ks [.blk bt #[.int .i64 tc, .int .i64 tn, .bool tm, .slice Bv bs.length cv, .slice A ks.length c] 27] w x ix wr) (fun _ ix _ => ks.length - (intOf ix).toNat)
    case atStart => exact RpRel.mk 0 bs (Nat.zero_le _) rfl (by simp [wholesT]) H
    case round =>
      clear H C
      obtain ⟨i, l, hi1, rfl, hl, H⟩ := hrel
      have hll := gkw.out i hi1
      rw [← hl] at hll
      have gl := Kp.mk hl
      clear hl
      obtain ⟨Ar, cr, rfl⟩ := own_form (ownsOf H 0 rfl)
      have C := Hp.facts H
      simp only [Facts, factsL, and_true, true_and, Zp, Zq, Zr] at C
      by_cases hlt : i < ks.length
      · obtain ⟨b, o, rfl, hgl, d0, d1, d2, d3, d4, q0, q1, q2, q3, q4, hkid⟩ := hk i hlt
        obtain ⟨g1, g2, g3⟩ := gk.out i hlt
        have hih := fun w1 (h : Below w.heap.size w w1) => ih ks[i] [d0, d1, d2, d3, d4] w1 (hkid.step h) g1 g2 g3
        have gl2 := Kp.mk (show l ++ wholeT ks[i] = bs ++ wholesT (ks.take (i + 1)) by rw [wholesT_take ks i hlt, gl.out, List.append_assoc])
        obtain ⟨x0, x1, x2, xA, xA2, xk, xc, xk2, xc2, rfl, rfl, rfl, rfl, rfl⟩ := hkid.forms
        generalize wholeT ks[i] = lk at hih gl2 g2
        clear hk hkid ih gk g1 g3 gl gkw
        (repeat' ((fail_if_success (with_reducible show bodyPost _ _ _ _ _ _)); first | ((with_reducible refine Hp.abs_alloc H ?_); intro b' w' H' hb'; (try simp only [hb']); clear hb'; ((try simp only [Zp, Zq, Zr] at H'); clear C H; have H := H'; clear H'; have C := Hp.facts H; simp only [Facts, factsL, and_true, true_and, Zp, Zq, Zr] at C)) | ((with_reducible show wpList _ _ _ _ _ (World.setCell _ _ _)); (with_reducible apply Hp.abs_gen H); (first | (with_reducible (repeat apply Zt 0); exact H); (repeat rfl); intro w' H' | (with_reducible (repeat apply Zt 1); exact H); (repeat rfl); intro w' H' | (with_reducible (repeat apply Zt 2); exact H); (repeat rfl); intro w' H' | (with_reducible (repeat apply Zt 3); exact H); (repeat rfl); intro w' H' | (with_reducible (repeat apply Zt 4); exact H); (repeat rfl); intro w' H' | (with_reducible (repeat apply Zt 5); exact H); (repeat rfl); intro w' H' | (with_reducible (repeat apply Zt 6); exact H); (repeat rfl); intro w' H' | (with_reducible (repeat apply Zt 7); exact H); (repeat rfl); intro w' H'); ((try simp only [Zp, Zq, Zr] at H'); clear C H; have H := H'; clear H'; have C := Hp.facts H; simp only [Facts, factsL, and_true, true_and, Zp, Zq, Zr] at C)) | go_values | go_skip | go_guarded | go_step | go_upon | go_back | (simp only [Int.not_lt, Int.not_le] at *; go_simp) | (go_values <;> (try go_simp)) | (go_ite <;> go_prune <;> (try go_simp)) | (split <;> (first | (rename_i hx; exact (hx _ rfl).elim) | go_prune))))
        refine (hih _ H.low).mono ?_
        rintro e' w1 ⟨⟨v', rfl, ho⟩, hb'⟩
        have H' := H.adopt hb' (.row 5 1 v' lk.length (lk.map u8c)) ho
        obtain ⟨A1, c1, rfl⟩ := own_form ho
        clear ho hb' hih
        ((try simp only [Zp, Zq, Zr] at H'); clear C H; have H := H'; clear H'; have C := Hp.facts H; simp only [Facts, factsL, and_true, true_and, Zp, Zq, Zr] at C)
        (repeat' ((fail_if_success (with_reducible show bodyPost _ _ _ _ _ _)); first | ((with_reducible refine Hp.abs_alloc H ?_); intro b' w' H' hb'; (try simp only [hb']); clear hb'; ((try simp only [Zp, Zq, Zr] at H'); clear C H; have H := H'; clear H'; have C := Hp.facts H; simp only [Facts, factsL, and_true, true_and, Zp, Zq, Zr] at C)) | ((with_reducible show wpList _ _ _ _ _ (World.setCell _ _ _)); (with_reducible apply Hp.abs_gen H); (first | (with_reducible (repeat apply Zt 0); exact H); (repeat rfl); intro w' H' | (with_reducible (repeat apply Zt 1); exact H); (repeat rfl); intro w' H' | (with_reducible (repeat apply Zt 2); exact H); (repeat rfl); intro w' H' | (with_reducible (repeat apply Zt 3); exact H); (repeat rfl); intro w' H' | (with_reducible (repeat apply Zt 4); exact H); (repeat rfl); intro w' H' | (with_reducible (repeat apply Zt 5); exact H); (repeat rfl); intro w' H' | (with_reducible (repeat apply Zt 6); exact H); (repeat rfl); intro w' H' | (with_reducible (repeat apply Zt 7); exact H); (repeat rfl); intro w' H'); ((try simp only [Zp, Zq, Zr] at H'); clear C H; have H := H'; clear H'; have C := Hp.facts H; simp only [Facts, factsL, and_true, true_and, Zp, Zq, Zr] at C)) | (at_builtin; (refine wpList_append_hp H 1 rfl _ _ _ rfl Try.underlying24 hi hz0 hz1 hz2 rfl (by decide) rfl rfl rfl (news := (lk).map u8c) ((show Bs _ _ lk from Hp.row H 0 rfl).src).2.1 ((show Bs _ _ lk from Hp.row H 0 rfl).src).1 ((show Bs _ _ lk from Hp.row H 0 rfl).src).2.2 (u8c_one _) (by unfold maxLen; omega) (by omega) ?_); intro v' w' H'; ((try simp only [Zp, Zq, Zr] at H'); clear C H; have H := H'; clear H'; have C := Hp.facts H; simp only [Facts, factsL, and_true, true_and, Zp, Zq, Zr] at C)) | go_values | go_skip | go_guarded | go_step | go_upon | go_back | (simp only [Int.not_lt, Int.not_le] at *; go_simp) | (go_values <;> (try go_simp)) | (go_ite <;> go_prune <;> (try go_simp)) | (split <;> (first | (rename_i hx; exact (hx _ rfl).elim) | go_prune))))
        refine ⟨RpRel.mk (i + 1) (l ++ lk) (by omega) (by go_num) gl2.out ?_, by simp [intOf]; omega⟩
        rw [List.length_append, List.map_append]
        exact H.tail
      · obtain rfl : i = ks.length := by omega
        have hRW2 : ∀ v w, Bs w v l → Calls Try.prog 48 #[.agg #[.int .i64 tc, .int .i64 tn, .bool tm], v] w (OwnOne w res) := by
          have e := gl.out
          rw [List.take_length] at e
          rw [e]
          exact hRW
        clear hk ih gk gkw gl hRW
        (repeat' ((fail_if_success (with_reducible show bodyPost _ _ _ _ _ _)); first | ((with_reducible refine Hp.abs_alloc H ?_); intro b' w' H' hb'; (try simp only [hb']); clear hb'; ((try simp only [Zp, Zq, Zr] at H'); clear C H; have H := H'; clear H'; have C := Hp.facts H; simp only [Facts, factsL, and_true, true_and, Zp, Zq, Zr] at C)) | ((with_reducible show wpList _ _ _ _ _ (World.setCell _ _ _)); (with_reducible apply Hp.abs_gen H); (first | (with_reducible (repeat apply Zt 0); exact H); (repeat rfl); intro w' H' | (with_reducible (repeat apply Zt 1); exact H); (repeat rfl); intro w' H' | (with_reducible (repeat apply Zt 2); exact H); (repeat rfl); intro w' H' | (with_reducible (repeat apply Zt 3); exact H); (repeat rfl); intro w' H' | (with_reducible (repeat apply Zt 4); exact H); (repeat rfl); intro w' H' | (with_reducible (repeat apply Zt 5); exact H); (repeat rfl); intro w' H' | (with_reducible (repeat apply Zt 6); exact H); (repeat rfl); intro w' H' | (with_reducible (repeat apply Zt 7); exact H); (repeat rfl); intro w' H'); ((try simp only [Zp, Zq, Zr] at H'); clear C H; have H := H'; clear H'; have C := Hp.facts H; simp only [Facts, factsL, and_true, true_and, Zp, Zq, Zr] at C)) | go_values | go_skip | go_guarded | go_step | go_upon | go_back | (simp only [Int.not_lt, Int.not_le] at *; go_simp) | (go_values <;> (try go_simp)) | (go_ite <;> go_prune <;> (try go_simp)) | (split <;> (first | (rename_i hx; exact (hx _ rfl).elim) | go_prune))))
        refine (hRW2 _ _ (Hp.row H 0 rfl)).mono ?_
        rintro e' w1 ⟨⟨v', rfl, ho⟩, hb'⟩
        have H' := H.adopt hb' (.row 5 1 v' res.length (res.map u8c)) ho
        obtain ⟨A1, c1, rfl⟩ := own_form ho
        clear ho hb'
        ((try simp only [Zp, Zq, Zr] at H'); clear C H; have H := H'; clear H'; have C := Hp.facts H; simp only [Facts, factsL, and_true, true_and, Zp, Zq, Zr] at C)
        (repeat' ((fail_if_success (with_reducible show bodyPost _ _ _ _ _ _)); first | ((with_reducible refine Hp.abs_alloc H ?_); intro b' w' H' hb'; (try simp only [hb']); clear hb'; ((try simp only [Zp, Zq, Zr] at H'); clear C H; have H := H'; clear H'; have C := Hp.facts H; simp only [Facts, factsL, and_true, true_and, Zp, Zq, Zr] at C)) | ((with_reducible show wpList _ _ _ _ _ (World.setCell _ _ _)); (with_reducible apply Hp.abs_gen H); (first | (with_reducible (repeat apply Zt 0); exact H); (repeat rfl); intro w' H' | (with_reducible (repeat apply Zt 1); exact H); (repeat rfl); intro w' H' | (with_reducible (repeat apply Zt 2); exact H); (repeat rfl); intro w' H' | (with_reducible (repeat apply Zt 3); exact H); (repeat rfl); intro w' H' | (with_reducible (repeat apply Zt 4); exact H); (repeat rfl); intro w' H' | (with_reducible (repeat apply Zt 5); exact H); (repeat rfl); intro w' H' | (with_reducible (repeat apply Zt 6); exact H); (repeat rfl); intro w' H' | (with_reducible (repeat apply Zt 7); exact H); (repeat rfl); intro w' H'); ((try simp only [Zp, Zq, Zr] at H'); clear C H; have H := H'; clear H'; have C := Hp.facts H; simp only [Facts, factsL, and_true, true_and, Zp, Zq, Zr] at C)) | go_values | go_skip | go_guarded | go_step | go_upon | go_back | (simp only [Int.not_lt, Int.not_le] at *; go_simp) | (go_values <;> (try go_simp)) | (go_ite <;> go_prune <;> (try go_simp)) | (split <;> (first | (rename_i hx; exact (hx _ rfl).elim) | go_prune))))
        refine bodyPost_ret (v := .slice A1 res.length c1) (by simp [results, go_sem, C]) rfl ?_
        rw [hQ.out]
        exact ⟨⟨_, rfl, ownsOf H 0 rfl⟩, H.low⟩
end Go.Proofs.Ytogliinfdfkobaa

