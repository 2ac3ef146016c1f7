/- Reading a head at a place is reading it behind that place; what is read is what is written. No program in sight. -/
import Derived.Test.YtogliinfdfkobaaHBack
import Derived.Test.YtogliinfdfkobaaTreeW
import Derived.Test.YtogliinfdfkobaaI21
import Derived.Test.YtogliinfdfkobaaH17
import Derived.Test.YtogliinfdfkobaaH27
set_option linter.unusedSimpArgs false
set_option linter.unusedVariables false
set_option linter.unusedVariables false
namespace Go.Mem
open Go.RowKit Hd
theorem getD_drop (l : List UInt8) (k j : Nat) : (l.drop k)[j]? = l[k + j]? := List.getElem?_drop
theorem numR_drop (l : List UInt8) (k : Nat) : ∀ (f p n : Nat), numR l f (k + p) n = ((numR (l.drop k) f p n).1, (numR (l.drop k) f p n).2.1, k + (numR (l.drop k) f p n).2.2)
  | 0, p, n => by simp [numR]
  | f + 1, p, n => by
    have ih := numR_drop l k f (p + 1)
    rw [numR, numR, getD_drop]
    cases h : l[k + p]? with
    | none => simp
    | some d =>
      simp only []
      split
      · rfl
      · split
        · split <;> rfl
        · rw [Nat.add_assoc, ih]
theorem rdTag_drop (l : List UInt8) (k : Nat) : rdTag l k = ((rdTag (l.drop k) 0).1, (rdTag (l.drop k) 0).2.1, k + (rdTag (l.drop k) 0).2.2) := by
  have h := numR_drop l k 4 1 0
  unfold rdTag
  rw [getD_drop, Nat.add_zero]
  cases hx : l[k]? with
  | none => simp
  | some x =>
    simp only [Nat.zero_add]
    rw [h]
    split
    · rfl
    · split <;> rfl
theorem rdLen_drop (l : List UInt8) (k j : Nat) : rdLen l (k + j) = ((rdLen (l.drop k) j).1, (rdLen (l.drop k) j).2.1, k + (rdLen (l.drop k) j).2.2) := by
  unfold rdLen
  rw [getD_drop]
  cases hx : l[k + j]? with
  | none => simp
  | some x =>
    simp only [List.length_drop, List.drop_drop, getD_drop]
    have e1 : l.length - (k + j + 1) = l.length - k - (j + 1) := by omega
    have e2 : k + j + 1 = k + (j + 1) := by omega
    rw [e1, e2]
    (repeat' split) <;> (simp only [Prod.mk.injEq, true_and]; try omega)
theorem rdHead_drop (l : List UInt8) (k : Nat) : rdHead l k = ((rdHead (l.drop k) 0).1, (rdHead (l.drop k) 0).2.1, (rdHead (l.drop k) 0).2.2.1, k + (rdHead (l.drop k) 0).2.2.2) := by
  unfold rdHead
  rw [rdTag_drop l k]
  simp only [rdLen_drop]
  split
  · split <;> rfl
  · rfl
end Go.Mem

set_option linter.unusedSimpArgs false
set_option linter.unusedVariables false
set_option maxRecDepth 100000
namespace Go.Proofs.Ytogliinfdfkobaa
open Go.RowKit Go.Mem Go.Reg Oct Hd Go.LawLift
theorem tagL_pos (t : Tg) : 0 < (tagL t).length := by
  unfold tagL
  split <;> simp
theorem wholeL_len (t : Tg) (l : List UInt8) : l.length + 1 ≤ (wholeL t l).length := by
  have := tagL_pos t
  unfold wholeL
  simp only [List.length_append]
  omega
mutual
theorem lenT_conv : ∀ (t : Tree), t.sound = true → (wholeT t).length ≤ 16777216 → lenT t = ((wholeT t).length : Int)
  | .mk t b ks, hs, h => by
    rw [lenT]
    rw [wholeT] at h ⊢
    rw [Tree.sound] at hs
    simp only [Bool.and_eq_true] at hs
    obtain ⟨⟨h1, h2⟩, h3⟩ := hs
    have hw := wholeL_len t (b ++ wholesT ks)
    have hk := lensT_conv ks b.length h3 (by omega) (by rw [List.length_append] at hw; omega)
    have hl : lensT b.length ks = ((b ++ wholesT ks).length : Int) := by rw [List.length_append]; omega
    have hz := sizeR_ok h1 (l := b ++ wholesT ks) (by omega)
    rw [hl, capL_ok (by omega) (by rw [hz]; omega), hz]
theorem lensT_conv : ∀ (ks : List Tree) (n : Int), Tree.sounds ks = true → 0 ≤ n → n + ((wholesT ks).length : Int) ≤ 16777216 → lensT n ks = n + ((wholesT ks).length : Int)
  | [], n, _, _, _ => by
    rw [lensT, wholesT]
    simp
  | k :: r, n, hs, hn, h => by
    rw [Tree.sounds] at hs
    simp only [Bool.and_eq_true] at hs
    rw [wholesT, List.length_append] at h ⊢
    have h1 := lenT_conv k hs.1 (by omega)
    have h2 := lensT_conv r (n + lenT k) hs.2 (by omega) (by omega)
    rw [lensT, if_neg (by omega), h2]
    omega
end
/-- What reading one tells of the tree. -/
def BackR (q : Nat) (l : List UInt8) (k : Nat) (t : Tree) (k2 : Nat) : Prop := t.sound = true ∧ t.deep ≤ q ∧ wholeT t = (l.drop k).take (k2 - k)
end Go.Proofs.Ytogliinfdfkobaa

set_option linter.unusedSimpArgs false
set_option linter.unusedVariables false
set_option maxRecDepth 100000
namespace Go.Proofs.Ytogliinfdfkobaa
open Go.RowKit Go.Mem Go.Reg Hd Go.LawLift Oct
def RTagOut (w : World) (R : Tg × Nat × Nat) (e : Ending) (w' : World) : Prop :=
  e = .returned (.tuple #[.agg #[.int .i64 R.1.c, .int .i64 R.1.n, .bool R.1.m], .int .i64 (R.2.2 : Int), .int .i64 (R.2.1 : Int)]) ∧ Below w.heap.size w w'
def RLenOut (w : World) (R : Nat × Nat × Nat) (e : Ending) (w' : World) : Prop :=
  e = .returned (.tuple #[.int .i64 (R.1 : Int), .int .i64 (R.2.2 : Int), .int .i64 (R.2.1 : Int)]) ∧ Below w.heap.size w w'
end Go.Proofs.Ytogliinfdfkobaa

set_option linter.unusedSimpArgs false
set_option linter.unusedVariables false
set_option maxRecDepth 100000
namespace Go.Proofs.Ytogliinfdfkobaa
open Go.RowKit Go.Mem Go.Reg Hd Go.LawLift Oct
end Go.Proofs.Ytogliinfdfkobaa

set_option linter.unusedSimpArgs false
set_option linter.unusedVariables false
set_option maxRecDepth 100000
namespace Go.Proofs.Ytogliinfdfkobaa
open Go.RowKit Go.Mem Go.Reg Hd Go.LawLift Oct
def RHeadOut (w : World) (R : Tg × Nat × Nat × Nat) (e : Ending) (w' : World) : Prop :=
  e = .returned (.tuple #[.agg #[.int .i64 R.1.c, .int .i64 R.1.n, .bool R.1.m], .int .i64 (R.2.1 : Int), .int .i64 (R.2.2.2 : Int), .int .i64 (R.2.2.1 : Int)]) ∧ Below w.heap.size w w'
end Go.Proofs.Ytogliinfdfkobaa

set_option linter.unusedSimpArgs false
set_option linter.unusedVariables false
set_option maxRecDepth 100000
namespace Go.Proofs.Ytogliinfdfkobaa
open Go.RowKit Go.Mem Go.Reg Oct Hd Go.LawLift
end Go.Proofs.Ytogliinfdfkobaa

set_option linter.unusedSimpArgs false
set_option linter.unusedVariables false
set_option maxRecDepth 100000
namespace Go.Proofs.Ytogliinfdfkobaa
open Go.RowKit Go.Mem Go.Reg Oct Hd Go.LawLift
/-- Of a tree of few bytes: the document's Right is the program's. -/
theorem right_few {t : Tree} (h : (wholeT t).length ≤ 16777216) : irightT t = (t.sound && decide (t.deep ≤ 32) && decide (t.count ≤ 10000)) := by
  unfold irightT
  cases hs : t.sound with
  | false => simp
  | true =>
    rw [decide_eq_true (show 0 ≤ lenT t by rw [lenT_conv t hs h]; omega)]
    simp
mutual
theorem oneR_forth : ∀ (t : Tree) (q : Nat) (l : List UInt8) (at0 k cnt : Nat) (r : List UInt8), t.sound = true → t.deep ≤ q → (wholeT t).length ≤ 16777216 → cnt + t.count ≤ 10000 → l.drop k = wholeT t ++ r → k ≤ l.length →
    ∃ sp : Sps, oneR q l at0 k cnt = .ok (t, k + (wholeT t).length, sp) ∧ sp.length = t.count
  | .mk tg b ks, q, l, at0, k, cnt, r, hs, hd, hl, hc, hr, hk => by
    rw [Tree.sound] at hs
    simp only [Bool.and_eq_true] at hs
    obtain ⟨⟨h1, h2⟩, h3⟩ := hs
    rw [Tree.deep] at hd
    rw [Tree.count] at hc
    rw [wholeT] at hl hr ⊢
    have hw := wholeL_len tg (b ++ wholesT ks)
    obtain ⟨q, rfl⟩ : ∃ m, q = m + 1 := ⟨q - 1, by omega⟩
    obtain ⟨tc, tn, tm⟩ := tg
    have hz : (b ++ wholesT ks).length ≤ 16777216 := by omega
    have hh := head_back h1 (b ++ wholesT ks).length hz ((b ++ wholesT ks) ++ r)
    have hr2 : l.drop k = tagL ⟨tc, tn, tm⟩ ++ (lenL (((b ++ wholesT ks).length : Nat) : Int) ++ ((b ++ wholesT ks) ++ r)) := by rw [hr, wholeL]; simp only [List.append_assoc]
    rw [← hr2] at hh
    have hrd := rdHead_drop l k
    rw [hh] at hrd
    simp only [] at hrd
    have hlen : l.length - k = (tagL ⟨tc, tn, tm⟩).length + ((lenL (((b ++ wholesT ks).length : Nat) : Int)).length + ((b ++ wholesT ks).length + r.length)) := by
      have := congrArg List.length hr2
      rw [List.length_drop] at this
      rw [this]
      simp only [List.length_append]
    have hwl : (wholeL ⟨tc, tn, tm⟩ (b ++ wholesT ks)).length = (tagL ⟨tc, tn, tm⟩).length + (lenL (((b ++ wholesT ks).length : Nat) : Int)).length + (b ++ wholesT ks).length := by
      rw [wholeL]; simp only [List.length_append]
    generalize hhl : (tagL ⟨tc, tn, tm⟩).length + (lenL (((b ++ wholesT ks).length : Nat) : Int)).length = hl0 at *
    have hcont : (l.drop (k + hl0)).take (b ++ wholesT ks).length = b ++ wholesT ks := by
      rw [← List.drop_drop, hr2, ← List.append_assoc, List.drop_left' (by rw [List.length_append]; exact hhl), List.take_left' rfl]
    show ∃ sp, partR (q + 1) (oneR q) l at0 k cnt = _ ∧ _
    unfold partR
    rw [hrd]
    simp only []
    rw [if_neg (by simp), if_neg (by omega), if_neg (by omega), if_neg (by omega), hcont, hwl]
    simp only [← Nat.add_assoc]
    cases tm with
    | false =>
      rw [if_pos rfl]
      have hks : ks = [] := List.eq_nil_of_length_eq_zero (by simpa using h2)
      subst hks
      simp only [wholesT, List.append_nil]
      exact ⟨_, rfl, by simp [Tree.count, Tree.counts]⟩
    | true =>
      rw [if_neg (by decide)]
      have hb : b = [] := List.eq_nil_of_length_eq_zero (by simpa using h2)
      subst hb
      simp only [List.nil_append] at *
      obtain ⟨sp, hsp, hsl⟩ := kids_forth ks q (wholesT ks) (at0 + k + hl0) ((wholesT ks).length + 1) 0 (cnt + 1) h3 (by omega) hz (by omega) (by simp) (Nat.zero_le _) (by omega)
      rw [hsp]
      exact ⟨_, rfl, by rw [List.length_cons, hsl, Tree.count]⟩
theorem kids_forth : ∀ (ks : List Tree) (q : Nat) (c : List UInt8) (at1 g k cnt : Nat), Tree.sounds ks = true → Tree.deeps ks ≤ q → (wholesT ks).length ≤ 16777216 → cnt + Tree.counts ks ≤ 10000 → c.drop k = wholesT ks → k ≤ c.length → c.length - k < g →
    ∃ sp : Sps, kidsR (oneR q c at1) c.length g k cnt = .ok (ks, sp) ∧ sp.length = Tree.counts ks
  | [], q, c, at1, g, k, cnt, _, _, _, _, hr, hk, hg => by
    have : c.length - k = 0 := by have := congrArg List.length hr; simpa [wholesT] using this
    exact ⟨[], kidsR_end (by omega) (by omega), by simp [Tree.counts]⟩
  | t :: ts, q, c, at1, g, k, cnt, hs, hd, hl, hc, hr, hk, hg => by
    rw [Tree.sounds] at hs
    simp only [Bool.and_eq_true] at hs
    rw [Tree.deeps] at hd
    rw [Tree.counts] at hc
    rw [wholesT] at hl hr
    rw [List.length_append] at hl
    have hcl : c.length - k = (wholeT t).length + (wholesT ts).length := by have := congrArg List.length hr; simpa using this
    have hpos : 0 < (wholeT t).length := by have := wholeT_is t; rw [this]; have := wholeL_len t.tag (t.bytes ++ wholesT t.kids); omega
    obtain ⟨sp, h1, h2⟩ := oneR_forth t q c at1 k cnt (wholesT ts) hs.1 (by omega) (by omega) (by omega) hr hk
    have hr2 : c.drop (k + (wholeT t).length) = wholesT ts := by rw [← List.drop_drop, hr, List.drop_left' rfl]
    obtain ⟨sp2, h3, h4⟩ := kids_forth ts q c at1 (g - 1) (k + (wholeT t).length) (cnt + sp.length) hs.2 (by omega) (by omega) (by omega) hr2 (by omega) (by omega)
    refine ⟨sp ++ sp2, ?_, by rw [List.length_append, h2, h4, Tree.counts]⟩
    rw [kidsR_step (by omega) (by omega) h1, h3]
    rfl
end
theorem parse_forth {t : Tree} (hs : t.sound = true) (hd : t.deep ≤ 32) (hc : t.count ≤ 10000) (hl : (wholeT t).length ≤ 16777216) : ∃ sp, parseR (wholeT t) = .ok (t, sp) := by
  obtain ⟨sp, h1, -⟩ := oneR_forth t 32 (wholeT t) 0 0 0 [] hs hd hl (by omega) (by simp) (Nat.zero_le _)
  refine ⟨sp, ?_⟩
  unfold parseR
  rw [h1]
  simp
end Go.Proofs.Ytogliinfdfkobaa

set_option linter.unusedSimpArgs false
set_option linter.unusedVariables false
set_option maxRecDepth 100000
namespace Go.Proofs.Ytogliinfdfkobaa
open Go.RowKit Go.Mem Go.Reg Oct Hd Go.LawLift
/-- The document's loop over a tree's kids: their bytes so far. -/
def RpRel (b : List UInt8) (ks : List Tree) (M : List Ent) (w : World) (x ix : Value) (wr : World) : Prop := ∃ (i : Nat) (l : List UInt8), i ≤ ks.length ∧ ix = .int .i64 i ∧ l = b ++ wholesT (ks.take i) ∧ Hp w (.row 5 1 x l.length (l.map u8c) :: M) wr
theorem RpRel.mk {b : List UInt8} {ks : List Tree} {M : List Ent} {w : World} {x ix : Value} {wr : World} (i : Nat) (l : List UInt8) (h1 : i ≤ ks.length) (h2 : ix = .int .i64 i) (h3 : l = b ++ wholesT (ks.take i)) (h4 : Hp w (.row 5 1 x l.length (l.map u8c) :: M) wr) : RpRel b ks M w x ix wr := ⟨i, l, h1, h2, h3, h4⟩
end Go.Proofs.Ytogliinfdfkobaa

set_option linter.unusedSimpArgs false
set_option linter.unusedVariables false
set_option maxRecDepth 100000
namespace Go.Proofs.Ytogliinfdfkobaa
open Go.RowKit Go.Mem Go.Reg Oct Hd Go.LawLift
end Go.Proofs.Ytogliinfdfkobaa

set_option linter.unusedSimpArgs false
set_option linter.unusedVariables false
set_option maxRecDepth 100000
namespace Go.Proofs.Ytogliinfdfkobaa
open Go.RowKit Go.Mem Go.Reg Oct Hd Go.LawLift
abbrev leafT : Tree := .mk ⟨0, 5, false⟩ [] []
def nest : Nat → Tree
  | 0 => leafT
  | k + 1 => .mk ⟨0, 16, true⟩ [] [nest k]
theorem tag16 : tagL ⟨0, 16, true⟩ = [48] := by decide
theorem leaf_whole : wholeT leafT = [5, 0] := by
  rw [wholeT, wholesT]
  decide
theorem nest_len : ∀ k, k ≤ 40 → (wholeT (nest k)).length = 2 * (k + 1) ∧ wholeT (nest (k + 1)) = 48 :: byteI ((2 * (k + 1) : Nat) : Int) :: wholeT (nest k)
  | 0, _ => by
    refine ⟨by rw [nest, leaf_whole]; rfl, ?_⟩
    have e : wholesT [leafT] = [5, 0] := by rw [wholesT_map]; simp [leaf_whole]
    show wholeT (.mk ⟨0, 16, true⟩ [] [leafT]) = 48 :: byteI ((2 * (0 + 1) : Nat) : Int) :: wholeT leafT
    rw [wholeT, e, leaf_whole]
    decide
  | k + 1, h => by
    obtain ⟨h1, h2⟩ := nest_len k (by omega)
    have h3 : (wholeT (nest (k + 1))).length = 2 * (k + 1 + 1) := by rw [h2, List.length_cons, List.length_cons, h1]; omega
    refine ⟨h3, ?_⟩
    rw [nest, wholeT, wholesT, wholesT, List.append_nil, List.nil_append, wholeL, tag16, h3]
    unfold lenL
    rw [if_pos (by omega)]
    rfl
theorem nest_facts : ∀ k, (nest k).sound = true ∧ (nest k).deep = k + 1 ∧ (nest k).count = k + 1
  | 0 => by
    refine ⟨by decide, ?_, ?_⟩ <;> simp [nest, Tree.deep, Tree.deeps, Tree.count, Tree.counts]
  | k + 1 => by
    obtain ⟨h1, h2, h3⟩ := nest_facts k
    refine ⟨?_, ?_, ?_⟩
    · rw [nest, Tree.sound, Tree.sounds, Tree.sounds, h1]
      rfl
    · rw [nest, Tree.deep, Tree.deeps, Tree.deeps, h2]
      omega
    · rw [nest, Tree.count, Tree.counts, Tree.counts, h3]
theorem nest_shallow {k : Nat} (h : k + 1 ≤ 32) : ∃ sp, parseR (wholeT (nest k)) = .ok (nest k, sp) := by
  obtain ⟨h1, h2, h3⟩ := nest_facts k
  have h4 := (nest_len k (by omega)).1
  exact parse_forth h1 (by omega) (by omega) (by omega)
/-- The bytes of nested trees, written out. -/
def nestL : Nat → List UInt8
  | 0 => [5, 0]
  | k + 1 => 48 :: UInt8.ofNat (2 * (k + 1)) :: nestL k
theorem nestL_is : ∀ k, k ≤ 40 → wholeT (nest k) = nestL k
  | 0, _ => leaf_whole
  | k + 1, h => by
    rw [(nest_len k (by omega)).2, nestL_is k (by omega), nestL]
    unfold byteI
    rw [Int.toNat_natCast]
theorem nest_deep32 : parseR (nestL 32) = .bad 8 := by kernel_rfl
theorem nest_deep33 : parseR (nestL 33) = .bad 8 := by kernel_rfl
/-- Many leaves. -/
def leavesL (k : Nat) : List UInt8 := (List.replicate k ([5, 0] : List UInt8)).flatten
def manyT (k : Nat) : Tree := .mk ⟨0, 16, true⟩ [] (List.replicate k leafT)
theorem leaves_succ (k : Nat) : leavesL (k + 1) = leavesL k ++ [5, 0] := by
  unfold leavesL
  rw [List.replicate_succ']
  simp
theorem leaves_cons (k : Nat) : leavesL (k + 1) = 5 :: 0 :: leavesL k := by
  unfold leavesL
  rw [List.replicate_succ]
  rfl
theorem leaves_len : ∀ k, (leavesL k).length = 2 * k
  | 0 => rfl
  | k + 1 => by rw [leaves_cons, List.length_cons, List.length_cons, leaves_len k]; omega
theorem wholes_leaves : ∀ k, wholesT (List.replicate k leafT) = leavesL k
  | 0 => by simp [wholesT, leavesL]
  | k + 1 => by rw [List.replicate_succ, wholesT, wholes_leaves k, leaf_whole, leaves_cons]; rfl
theorem counts_leaves : ∀ k, Tree.counts (List.replicate k leafT) = k
  | 0 => by simp [Tree.counts]
  | k + 1 => by
    rw [List.replicate_succ, Tree.counts, counts_leaves k]
    simp [Tree.count, Tree.counts]
    omega
theorem deeps_leaves : ∀ k, Tree.deeps (List.replicate k leafT) ≤ 1
  | 0 => by simp [Tree.deeps]
  | k + 1 => by
    rw [List.replicate_succ, Tree.deeps]
    have := deeps_leaves k
    simp [Tree.deep, Tree.deeps]
    omega
theorem totals_leaves : ∀ k, Tree.totals (List.replicate k leafT) = 0
  | 0 => by simp [Tree.totals]
  | k + 1 => by
    rw [List.replicate_succ, Tree.totals, totals_leaves k]
    simp [Tree.total, Tree.totals]
theorem sounds_leaves : ∀ k, Tree.sounds (List.replicate k leafT) = true
  | 0 => by simp [Tree.sounds]
  | k + 1 => by
    rw [List.replicate_succ, Tree.sounds, sounds_leaves k]
    decide
theorem many_facts (k : Nat) : (manyT k).sound = true ∧ (manyT k).deep ≤ 2 ∧ (manyT k).count = k + 1 ∧ (manyT k).total = 0 := by
  unfold manyT
  refine ⟨?_, ?_, ?_, ?_⟩
  · rw [Tree.sound, sounds_leaves]
    rfl
  · rw [Tree.deep]
    have := deeps_leaves k
    omega
  · rw [Tree.count, counts_leaves]
  · rw [Tree.total, totals_leaves]
    rfl
theorem many_whole {k : Nat} (h1 : 128 ≤ k) (h2 : k ≤ 20000) : wholeT (manyT k) = 48 :: 130 :: byteI ((2 * k / 256 : Nat) : Int) :: byteI ((2 * k % 256 : Nat) : Int) :: leavesL k := by
  unfold manyT
  rw [wholeT, wholes_leaves, List.nil_append, wholeL, tag16, leaves_len]
  unfold lenL
  rw [if_neg (by omega), if_neg (by omega), if_pos (by omega)]
  simp
theorem leaf_one (q : Nat) (c : List UInt8) (at1 k cnt : Nat) (r : List UInt8) (hr : c.drop k = 5 :: 0 :: r) (hk : k ≤ c.length) : oneR (q + 1) c at1 k cnt = if cnt = 10000 then .bad 2 else .ok (leafT, k + 2, [(at1 + k, at1 + k + 2)]) := by
  have hlen : c.length - k = r.length + 2 := by have := congrArg List.length hr; simpa using this
  show partR (q + 1) (oneR q) c at1 k cnt = _
  have hh : rdHead (5 :: 0 :: r) 0 = (⟨0, 5, false⟩, 0, 0, 2) := by
    have h := head_back (c := 0) (n := 5) (m := false) (by decide) 0 (by decide) r
    exact h
  have hrd := rdHead_drop c k
  rw [hr, hh] at hrd
  unfold partR
  rw [hrd]
  simp only []
  rw [if_neg (by simp), if_neg (by omega), if_neg (by omega)]
  split
  · rfl
  · simp
    omega
theorem leaves_kids (q : Nat) (c : List UInt8) (at1 : Nat) : ∀ (r g k cnt : Nat), c.drop k = leavesL r → k ≤ c.length → c.length - k < g → cnt ≤ 10000 → 10000 < cnt + r → kidsR (oneR (q + 1) c at1) c.length g k cnt = .bad 2
  | 0, g, k, cnt, _, _, _, h1, h2 => by omega
  | r + 1, g, k, cnt, hr, hk, hg, h1, h2 => by
    rw [leaves_cons] at hr
    have hlen : c.length - k = (leavesL r).length + 2 := by have := congrArg List.length hr; simpa using this
    have h3 := leaf_one q c at1 k cnt _ hr hk
    by_cases h0 : cnt = 10000
    · rw [if_pos h0] at h3
      exact kidsR_bad (by omega) (by omega) h3
    · rw [if_neg h0] at h3
      rw [kidsR_step (by omega) (by omega) h3]
      have h4 := leaves_kids q c at1 r (g - 1) (k + 2) (cnt + 1) (by rw [← List.drop_drop, hr]; rfl) (by omega) (by omega) (by omega) (by omega)
      show (kidsR _ _ (g - 1) (k + 2) (cnt + 1)).glue _ _ = _
      rw [h4]
      rfl
theorem many_long {k : Nat} (hk0 : k = 10000) : parseR (wholeT (manyT k)) = .bad 2 := by
  have hm := many_whole (k := k) (by omega) (by omega)
  have hl := leaves_len k
  have hh := head_back (c := 0) (n := 16) (m := true) (by decide) (2 * k) (by omega) (leavesL k)
  have e : tagL ⟨0, 16, true⟩ ++ (lenL ((2 * k : Nat) : Int) ++ leavesL k) = wholeT (manyT k) := by
    unfold manyT
    rw [wholeT, wholes_leaves, List.nil_append, wholeL, leaves_len, List.append_assoc]
  rw [e] at hh
  have hw : (wholeT (manyT k)).length = 2 * k + 4 := by rw [hm]; simp only [List.length_cons, hl]
  have e2 : (tagL ⟨0, 16, true⟩).length + (lenL ((2 * k : Nat) : Int)).length = 4 := by
    have h1 : (lenL ((2 * k : Nat) : Int)).length = 3 := by
      unfold lenL
      rw [if_neg (by omega), if_neg (by omega), if_pos (by omega)]
      rfl
    rw [h1, tag16]
    rfl
  rw [e2] at hh
  have hd : (wholeT (manyT k)).drop 4 = leavesL k := by rw [hm]; rfl
  have hkk := leaves_kids 30 (leavesL k) (0 + 4) k (2 * k + 1) 0 1 rfl (Nat.zero_le _) (by omega) (by omega) (by omega)
  rw [hl] at hkk
  generalize wholeT (manyT k) = W at *
  generalize leavesL k = V at *
  unfold parseR
  show (match partR 32 (oneR 31) W 0 0 0 with | .bad e => _ | .ok (t, k, sp) => _) = _
  unfold partR
  rw [hh]
  simp only []
  rw [if_neg (by simp), if_neg (by omega), if_neg (by omega), if_neg (by omega), if_neg (by decide), hd, List.take_of_length_le (by omega), hkk]
theorem many_short {k : Nat} (h1 : 128 ≤ k) (h : k + 1 ≤ 10000) : ∃ sp, parseR (wholeT (manyT k)) = .ok (manyT k, sp) := by
  obtain ⟨a, b, c, -⟩ := many_facts k
  have hl := leaves_len k
  exact parse_forth a (by omega) (by omega) (by rw [many_whole h1 (by omega)]; simp only [List.length_cons, hl]; omega)
end Go.Proofs.Ytogliinfdfkobaa

