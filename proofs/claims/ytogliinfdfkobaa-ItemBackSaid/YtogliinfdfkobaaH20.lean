/- Reading a head at a place is reading it behind that place; what is read is what is written. No program in sight. -/
import Derived.Test.YtogliinfdfkobaaHBack
import Derived.Test.YtogliinfdfkobaaTreeW
import Derived.Test.YtogliinfdfkobaaI21
import Derived.Test.YtogliinfdfkobaaH17
set_option linter.unusedSimpArgs false
set_option linter.unusedVariables false
set_option linter.unusedVariables false
namespace Go.Mem
open Go.RowKit Hd
theorem getD_drop (l : List UInt8) (k j : Nat) : (l.drop k)[j]? = l[k + j]? := List.getElem?_drop
theorem numR_drop (l : List UInt8) (k : Nat) : ∀ (f p n : Nat), numR l f (k + p) n = ((numR (l.drop k) f p n).1, (numR (l.drop k) f p n).2.1, k + (numR (l.drop k) f p n).2.2)
  | 0, p, n => by simp [numR]
  | f + 1, p, n => by
    have ih := numR_drop l k f (p + 1)
    rw [numR, numR, getD_drop]
    cases h : l[k + p]? with
    | none => simp
    | some d =>
      simp only []
      split
      · rfl
      · split
        · split <;> rfl
        · rw [Nat.add_assoc, ih]
theorem rdTag_drop (l : List UInt8) (k : Nat) : rdTag l k = ((rdTag (l.drop k) 0).1, (rdTag (l.drop k) 0).2.1, k + (rdTag (l.drop k) 0).2.2) := by
  have h := numR_drop l k 4 1 0
  unfold rdTag
  rw [getD_drop, Nat.add_zero]
  cases hx : l[k]? with
  | none => simp
  | some x =>
    simp only [Nat.zero_add]
    rw [h]
    split
    · rfl
    · split <;> rfl
theorem rdLen_drop (l : List UInt8) (k j : Nat) : rdLen l (k + j) = ((rdLen (l.drop k) j).1, (rdLen (l.drop k) j).2.1, k + (rdLen (l.drop k) j).2.2) := by
  unfold rdLen
  rw [getD_drop]
  cases hx : l[k + j]? with
  | none => simp
  | some x =>
    simp only [List.length_drop, List.drop_drop, getD_drop]
    have e1 : l.length - (k + j + 1) = l.length - k - (j + 1) := by omega
    have e2 : k + j + 1 = k + (j + 1) := by omega
    rw [e1, e2]
    (repeat' split) <;> (simp only [Prod.mk.injEq, true_and]; try omega)
theorem rdHead_drop (l : List UInt8) (k : Nat) : rdHead l k = ((rdHead (l.drop k) 0).1, (rdHead (l.drop k) 0).2.1, (rdHead (l.drop k) 0).2.2.1, k + (rdHead (l.drop k) 0).2.2.2) := by
  unfold rdHead
  rw [rdTag_drop l k]
  simp only [rdLen_drop]
  split
  · split <;> rfl
  · rfl
/-- A head that is read is the head that is written. -/
theorem rdHead_round {l : List UInt8} {k : Nat} (hk : k ≤ l.length) (h : (rdHead l k).2.2.1 = 0) : okTag (rdHead l k).1 = true ∧ (rdHead l k).2.1 ≤ 16777216 ∧
    (l.drop k).take ((rdHead l k).2.2.2 - k) = tagL (rdHead l k).1 ++ lenL ((rdHead l k).2.1 : Int) ∧ k < (rdHead l k).2.2.2 ∧ (rdHead l k).2.2.2 ≤ l.length := by
  have h9 := rdHead_lt hk h
  rw [rdHead_drop] at h h9 ⊢
  simp only [Nat.add_sub_cancel_left] at h h9 ⊢
  generalize l.drop k = m at *
  refine ⟨?_, ?_, ?_, h9.1, h9.2⟩
  all_goals
    unfold rdHead at h ⊢
    split at h
    · rename_i h0
      rw [if_pos h0]
      split at h
      · rename_i h1
        rw [if_pos h1]
        simp only []
        cases ht : rdTag m 0 with
        | mk tg r =>
          obtain ⟨er, p⟩ := r
          obtain ⟨tc, tn, tm⟩ := tg
          rw [ht] at h0 h1
          simp only [] at h0 h1
          subst h0
          obtain ⟨r1, r2, r3⟩ := rdTag_round ht
          have e := rdLen_drop m p 0
          rw [Nat.add_zero] at e
          simp only [e] at h1
          try simp only [e]
          cases hl : rdLen (m.drop p) 0 with
          | mk z r =>
            obtain ⟨e2, p2⟩ := r
            rw [hl] at h1
            simp only [] at h1
            subst h1
            obtain ⟨s1, s2, s3⟩ := rdLen_round hl
            first
            | exact r1
            | exact s1
            | (simp only []
               rw [r2, s2, List.take_add])
      · rename_i h1
        exact absurd h h1
    · rename_i h0
      exact absurd h h0
end Go.Mem

set_option linter.unusedSimpArgs false
set_option linter.unusedVariables false
set_option maxRecDepth 100000
namespace Go.Proofs.Ytogliinfdfkobaa
open Go.RowKit Go.Mem Go.Reg Oct Hd Go.LawLift
theorem tagL_pos (t : Tg) : 0 < (tagL t).length := by
  unfold tagL
  split <;> simp
theorem wholeL_len (t : Tg) (l : List UInt8) : l.length + 1 ≤ (wholeL t l).length := by
  have := tagL_pos t
  unfold wholeL
  simp only [List.length_append]
  omega
mutual
theorem lenT_conv : ∀ (t : Tree), t.sound = true → (wholeT t).length ≤ 16777216 → lenT t = ((wholeT t).length : Int)
  | .mk t b ks, hs, h => by
    rw [lenT]
    rw [wholeT] at h ⊢
    rw [Tree.sound] at hs
    simp only [Bool.and_eq_true] at hs
    obtain ⟨⟨h1, h2⟩, h3⟩ := hs
    have hw := wholeL_len t (b ++ wholesT ks)
    have hk := lensT_conv ks b.length h3 (by omega) (by rw [List.length_append] at hw; omega)
    have hl : lensT b.length ks = ((b ++ wholesT ks).length : Int) := by rw [List.length_append]; omega
    have hz := sizeR_ok h1 (l := b ++ wholesT ks) (by omega)
    rw [hl, capL_ok (by omega) (by rw [hz]; omega), hz]
theorem lensT_conv : ∀ (ks : List Tree) (n : Int), Tree.sounds ks = true → 0 ≤ n → n + ((wholesT ks).length : Int) ≤ 16777216 → lensT n ks = n + ((wholesT ks).length : Int)
  | [], n, _, _, _ => by
    rw [lensT, wholesT]
    simp
  | k :: r, n, hs, hn, h => by
    rw [Tree.sounds] at hs
    simp only [Bool.and_eq_true] at hs
    rw [wholesT, List.length_append] at h ⊢
    have h1 := lenT_conv k hs.1 (by omega)
    have h2 := lensT_conv r (n + lenT k) hs.2 (by omega) (by omega)
    rw [lensT, if_neg (by omega), h2]
    omega
end
/-- What reading one tells of the tree. -/
def BackR (q : Nat) (l : List UInt8) (k : Nat) (t : Tree) (k2 : Nat) : Prop := t.sound = true ∧ t.deep ≤ q ∧ wholeT t = (l.drop k).take (k2 - k)
theorem kidsR_back {q : Nat} {c : List UInt8} {at1 : Nat} (hf : ∀ k cnt t k2 sp, k ≤ c.length → oneR q c at1 k cnt = .ok (t, k2, sp) → BackR q c k t k2) :
    ∀ (g k cnt : Nat) (ts : List Tree) (sp : Sps), k ≤ c.length → kidsR (oneR q c at1) c.length g k cnt = .ok (ts, sp) → Tree.sounds ts = true ∧ Tree.deeps ts ≤ q ∧ wholesT ts = c.drop k
  | 0, _, _, _, _, _, h => by cases h
  | g + 1, k, cnt, ts, sp, hk, h => by
    rw [kidsR] at h
    split at h
    · split at h
      · cases h
      · rename_i t k2 sp1 he
        have h1 := hf k cnt t k2 sp1 hk he
        have h2 := oneR_ok he hk
        split at h
        · cases h
        · rename_i ts2 sp2 he2
          have h3 := kidsR_back hf g k2 _ _ _ h2.2 he2
          injection h with h
          simp only [Prod.mk.injEq] at h
          obtain ⟨rfl, rfl⟩ := h
          refine ⟨by rw [Tree.sounds, h1.1, h3.1]; rfl, by rw [Tree.deeps]; have := h1.2.1; have := h3.2.1; omega, ?_⟩
          rw [wholesT, h1.2.2, h3.2.2]
          have e : c.drop k2 = (c.drop k).drop (k2 - k) := by rw [List.drop_drop]; congr 1; omega
          rw [e, List.take_append_drop]
    · injection h with h
      simp only [Prod.mk.injEq] at h
      obtain ⟨rfl, rfl⟩ := h
      refine ⟨by simp [Tree.sounds], by simp [Tree.deeps], ?_⟩
      rw [wholesT, List.drop_eq_nil_of_le (by omega)]
theorem part_back {q : Nat} {rec : List UInt8 → Nat → Nat → Nat → PR (Tree × Nat × Sps)} {l : List UInt8} {at0 k cnt : Nat} {t : Tree} {k2 : Nat} {sp : Sps} (hk : k ≤ l.length) (h : partR q rec l at0 k cnt = .ok (t, k2, sp))
    (hrec : ∀ c at1 cnt ts sps, kidsR (rec c at1) c.length (c.length + 1) 0 cnt = .ok (ts, sps) → Tree.sounds ts = true ∧ Tree.deeps ts + 1 ≤ q ∧ wholesT ts = c) : BackR q l k t k2 := by
  unfold partR at h
  split at h
  · cases h
  · rename_i h0
    obtain ⟨r1, r2, r3, r4, r5⟩ := rdHead_round hk (by simpa using h0)
    generalize rdHead l k = hd at *
    obtain ⟨⟨tc, tn, tm⟩, z, er, po⟩ := hd
    simp only [] at *
    split at h
    · cases h
    · rename_i hz
      split at h
      · cases h
      · rename_i hq
        split at h
        · cases h
        · have hcl : ((l.drop po).take z).length = z := by rw [List.length_take, List.length_drop]; omega
          have key : (l.drop k).take (po + z - k) = tagL ⟨tc, tn, tm⟩ ++ lenL (z : Int) ++ (l.drop po).take z := by
            rw [← r3, show po + z - k = (po - k) + z by omega, List.take_add, List.drop_drop, show k + (po - k) = po by omega]
          split at h
          · rename_i hm
            injection h with h
            simp only [Prod.mk.injEq] at h
            obtain ⟨rfl, rfl, rfl⟩ := h
            refine ⟨?_, by simp only [Tree.deep, Tree.deeps]; omega, ?_⟩
            · rw [Tree.sound, r1, hm]
              simp [Tree.sounds]
            · rw [key, wholeT, wholesT, List.append_nil, wholeL, hcl]
          · rename_i hm
            split at h
            · cases h
            · rename_i ks sps he
              injection h with h
              simp only [Prod.mk.injEq] at h
              obtain ⟨rfl, rfl, rfl⟩ := h
              have h5 := hrec ((l.drop po).take z) (at0 + po) (cnt + 1) ks sps (by rw [hcl]; exact he)
              refine ⟨?_, by simp only [Tree.deep]; omega, ?_⟩
              · rw [Tree.sound, r1, h5.1]
                simp at hm
                simp [hm]
              · rw [key, wholeT, h5.2.2, List.nil_append, wholeL, hcl]
theorem oneR_back : ∀ (q : Nat) (l : List UInt8) (at0 k cnt : Nat) (t : Tree) (k2 : Nat) (sp : Sps), k ≤ l.length → oneR q l at0 k cnt = .ok (t, k2, sp) → BackR q l k t k2
  | 0, l, at0, k, cnt, t, k2, sp, hk, h => part_back hk h fun c at1 cnt ts sps h => by
      exfalso
      unfold oneR partR at *
      simp only [if_true] at *
      split at * <;> (try split at *) <;> contradiction
  | q + 1, l, at0, k, cnt, t, k2, sp, hk, h => part_back hk h fun c at1 cnt ts sps h => by
      obtain ⟨h1, h2, h3⟩ := kidsR_back (fun k cnt t k2 sp hk h => oneR_back q c at1 k cnt t k2 sp hk h) _ 0 _ ts sps (Nat.zero_le _) h
      exact ⟨h1, by omega, by rw [h3, List.drop_zero]⟩
theorem parse_back {l : List UInt8} {t : Tree} {sp : Sps} (hl : l.length ≤ 16777216) (h : parseR l = .ok (t, sp)) : wholeT t = l ∧ irightT t = true ∧ t.count ≤ 10000 := by
  unfold parseR at h
  split at h
  · cases h
  · rename_i t2 k2 sp2 he
    split at h
    · cases h
    · rename_i hk
      injection h with h
      simp only [Prod.mk.injEq] at h
      obtain ⟨rfl, rfl⟩ := h
      obtain ⟨h1, h2, h3⟩ := oneR_back 32 l 0 0 0 t2 k2 sp2 (Nat.zero_le _) he
      have h4 := oneR_ok he (Nat.zero_le _)
      have h5 := oneR_count 32 l 0 0 0 (by decide) t2 k2 sp2 he
      have e : wholeT t2 = l := by
        rw [h3, List.drop_zero, Nat.sub_zero, List.take_of_length_le (by omega)]
      have h6 := lenT_conv t2 h1 (by rw [e]; exact hl)
      refine ⟨e, ?_, by omega⟩
      unfold irightT
      rw [decide_eq_true h2, decide_eq_true (show t2.count ≤ 10000 by omega), h1, decide_eq_true (show 0 ≤ lenT t2 by omega)]
      rfl
end Go.Proofs.Ytogliinfdfkobaa

set_option linter.unusedSimpArgs false
set_option linter.unusedVariables false
set_option maxRecDepth 100000
namespace Go.Proofs.Ytogliinfdfkobaa
open Go.RowKit Go.Mem Go.Reg Hd Go.LawLift Oct
def RTagOut (w : World) (R : Tg × Nat × Nat) (e : Ending) (w' : World) : Prop :=
  e = .returned (.tuple #[.agg #[.int .i64 R.1.c, .int .i64 R.1.n, .bool R.1.m], .int .i64 (R.2.2 : Int), .int .i64 (R.2.1 : Int)]) ∧ Below w.heap.size w w'
def RLenOut (w : World) (R : Nat × Nat × Nat) (e : Ending) (w' : World) : Prop :=
  e = .returned (.tuple #[.int .i64 (R.1 : Int), .int .i64 (R.2.2 : Int), .int .i64 (R.2.1 : Int)]) ∧ Below w.heap.size w w'
end Go.Proofs.Ytogliinfdfkobaa

set_option linter.unusedSimpArgs false
set_option linter.unusedVariables false
set_option maxRecDepth 100000
namespace Go.Proofs.Ytogliinfdfkobaa
open Go.RowKit Go.Mem Go.Reg Hd Go.LawLift Oct
end Go.Proofs.Ytogliinfdfkobaa

set_option linter.unusedSimpArgs false
set_option linter.unusedVariables false
set_option maxRecDepth 100000
namespace Go.Proofs.Ytogliinfdfkobaa
open Go.RowKit Go.Mem Go.Reg Hd Go.LawLift Oct
def RHeadOut (w : World) (R : Tg × Nat × Nat × Nat) (e : Ending) (w' : World) : Prop :=
  e = .returned (.tuple #[.agg #[.int .i64 R.1.c, .int .i64 R.1.n, .bool R.1.m], .int .i64 (R.2.1 : Int), .int .i64 (R.2.2.2 : Int), .int .i64 (R.2.2.1 : Int)]) ∧ Below w.heap.size w w'
end Go.Proofs.Ytogliinfdfkobaa

