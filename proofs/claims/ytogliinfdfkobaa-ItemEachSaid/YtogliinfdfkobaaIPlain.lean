/- The reading of trees in plain Lean: one tree at a place of its contents, its kids, where they lie. No program in sight. -/
import Derived.Test.YtogliinfdfkobaaRangeT
set_option linter.unusedSimpArgs false
set_option linter.unusedVariables false
set_option linter.unusedVariables false
namespace Go.Mem
open Go.RowKit Hd
inductive PR (α : Type) where
  | bad (e : Nat)
  | ok (x : α)
abbrev Sps := List (Nat × Nat)
/-- The kids of contents, from a place on. -/
def kidsR (f : Nat → Nat → PR (Tree × Nat × Sps)) (len : Nat) : Nat → Nat → Nat → PR (List Tree × Sps)
  | 0, _, _ => .bad 99
  | g + 1, k, cnt => if k < len then (match f k cnt with
      | .bad e => .bad e
      | .ok (t, k2, sp) => match kidsR f len g k2 (cnt + sp.length) with
        | .bad e => .bad e
        | .ok (ts, sp2) => .ok (t :: ts, sp ++ sp2)) else .ok ([], [])
/-- What is behind a head. -/
def partR (q : Nat) (rec : List UInt8 → Nat → Nat → Nat → PR (Tree × Nat × Sps)) (l : List UInt8) (at0 k cnt : Nat) : PR (Tree × Nat × Sps) :=
  if (rdHead l k).2.2.1 ≠ 0 then .bad (rdHead l k).2.2.1
  else if l.length - (rdHead l k).2.2.2 < (rdHead l k).2.1 then .bad 3
  else if q = 0 then .bad 8
  else if cnt = 10000 then .bad 2
  else if (rdHead l k).1.m = false then .ok (.mk (rdHead l k).1 ((l.drop (rdHead l k).2.2.2).take (rdHead l k).2.1) [], (rdHead l k).2.2.2 + (rdHead l k).2.1, [(at0 + k, at0 + (rdHead l k).2.2.2 + (rdHead l k).2.1)])
  else match kidsR (rec ((l.drop (rdHead l k).2.2.2).take (rdHead l k).2.1) (at0 + (rdHead l k).2.2.2)) (rdHead l k).2.1 ((rdHead l k).2.1 + 1) 0 (cnt + 1) with
    | .bad e => .bad e
    | .ok (ks, sps) => .ok (.mk (rdHead l k).1 [] ks, (rdHead l k).2.2.2 + (rdHead l k).2.1, (at0 + k, at0 + (rdHead l k).2.2.2 + (rdHead l k).2.1) :: sps)
/-- The tree at a place of contents that begin at a place of all; so many depths are left. -/
def oneR : Nat → List UInt8 → Nat → Nat → Nat → PR (Tree × Nat × Sps)
  | 0, l, at0, k, cnt => partR 0 (fun _ _ _ _ => .bad 99) l at0 k cnt
  | q + 1, l, at0, k, cnt => partR (q + 1) (oneR q) l at0 k cnt
theorem rdHead_lt {l : List UInt8} {k : Nat} (hk : k ≤ l.length) (h : (rdHead l k).2.2.1 = 0) : k < (rdHead l k).2.2.2 ∧ (rdHead l k).2.2.2 ≤ l.length := by
  refine ⟨?_, (rdHead_le hk).1⟩
  have h1 := rdTag_le hk
  have h2 := rdLen_le h1.1
  have h3 : k < (rdTag l k).2.2 ∨ (rdTag l k).2.1 ≠ 0 := by
    unfold rdTag
    split
    · right; simp
    · split
      · left; simp
      · split
        · left
          have : ∀ (f p n : Nat), p ≤ (numR l f p n).2.2 := by
            intro f
            induction f with
            | zero => intro p n; simp [numR]
            | succ f ih =>
              intro p n
              unfold numR
              split
              · simp
              · split
                · simp
                · split
                  · split <;> simp
                  · have := ih (p + 1) (n * 128 + (by assumption : UInt8).toNat % 128)
                    refine Nat.le_trans (Nat.le_succ p) ?_
                    exact ih (p + 1) _
          have := this 4 (k + 1) 0
          simp only
          omega
        · right; simpa using ‹¬ _›
  unfold rdHead at h ⊢
  split at h
  · rename_i h0
    rw [if_pos h0]
    split at h
    · rename_i h00
      rw [if_pos h00]
      simp only
      rcases h3 with h3 | h3
      · omega
      · exact absurd h0 h3
    · rename_i h00
      exact absurd h h00
  · rename_i h0
    exact absurd h h0
theorem partR_ok {q : Nat} {rec : List UInt8 → Nat → Nat → Nat → PR (Tree × Nat × Sps)} {l : List UInt8} {at0 k cnt : Nat} {t : Tree} {k2 : Nat} {sp : Sps} (h : partR q rec l at0 k cnt = .ok (t, k2, sp)) (hk : k ≤ l.length) : k < k2 ∧ k2 ≤ l.length := by
  unfold partR at h
  split at h
  · cases h
  · rename_i h0
    have h1 := rdHead_lt hk (by simpa using h0)
    split at h
    · cases h
    · split at h
      · cases h
      · split at h
        · cases h
        · split at h
          · injection h with h
            simp only [Prod.mk.injEq] at h
            omega
          · split at h
            · cases h
            · injection h with h
              simp only [Prod.mk.injEq] at h
              omega
theorem oneR_ok {q : Nat} {l : List UInt8} {at0 k cnt : Nat} {t : Tree} {k2 : Nat} {sp : Sps} (h : oneR q l at0 k cnt = .ok (t, k2, sp)) (hk : k ≤ l.length) : k < k2 ∧ k2 ≤ l.length := by
  cases q with
  | zero => exact partR_ok h hk
  | succ q => exact partR_ok h hk
/-- What has come so far, ahead of what comes. -/
def PR.glue (ts : List Tree) (sps : Sps) : PR (List Tree × Sps) → PR (List Tree × Sps)
  | .bad e => .bad e
  | .ok (a, b) => .ok (ts ++ a, sps ++ b)
theorem kidsR_end {f : Nat → Nat → PR (Tree × Nat × Sps)} {len g k cnt : Nat} (h : ¬ k < len) (hg : 0 < g) : kidsR f len g k cnt = .ok ([], []) := by
  obtain ⟨g, rfl⟩ : ∃ m, g = m + 1 := ⟨g - 1, by omega⟩
  rw [kidsR, if_neg h]
theorem kidsR_bad {f : Nat → Nat → PR (Tree × Nat × Sps)} {len g k cnt e : Nat} (h : k < len) (hg : 0 < g) (hf : f k cnt = .bad e) : kidsR f len g k cnt = .bad e := by
  obtain ⟨g, rfl⟩ : ∃ m, g = m + 1 := ⟨g - 1, by omega⟩
  rw [kidsR, if_pos h, hf]
theorem kidsR_step {f : Nat → Nat → PR (Tree × Nat × Sps)} {len g k cnt k2 : Nat} {t : Tree} {sp : Sps} (h : k < len) (hg : 0 < g) (hf : f k cnt = .ok (t, k2, sp)) : kidsR f len g k cnt = (kidsR f len (g - 1) k2 (cnt + sp.length)).glue [t] sp := by
  obtain ⟨g, rfl⟩ : ∃ m, g = m + 1 := ⟨g - 1, by omega⟩
  rw [kidsR, if_pos h, hf]
  show _ = (kidsR f len g k2 (cnt + sp.length)).glue [t] sp
  simp only []
  cases kidsR f len g k2 (cnt + sp.length) with
  | bad e => rfl
  | ok x => rfl
theorem PR.glue_glue (a b : List Tree) (x y : Sps) (r : PR (List Tree × Sps)) : (r.glue b y).glue a x = r.glue (a ++ b) (x ++ y) := by
  cases r with
  | bad e => rfl
  | ok z => simp [PR.glue]
/-- The number of spans is the number of trees. -/
def Counted (r : PR (Tree × Nat × Sps)) (cnt : Nat) : Prop := ∀ t k sp, r = .ok (t, k, sp) → cnt + sp.length ≤ 10000 ∧ sp.length = t.count
theorem kidsR_count {f : Nat → Nat → PR (Tree × Nat × Sps)} {len : Nat} (hf : ∀ k cnt, cnt ≤ 10000 → Counted (f k cnt) cnt) : ∀ (g k cnt : Nat) (ts : List Tree) (sp : Sps), cnt ≤ 10000 → kidsR f len g k cnt = .ok (ts, sp) → cnt + sp.length ≤ 10000 ∧ sp.length = Tree.counts ts
  | 0, _, _, _, _, _, h => by cases h
  | g + 1, k, cnt, ts, sp, hc, h => by
    rw [kidsR] at h
    split at h
    · split at h
      · cases h
      · rename_i t k2 sp1 he
        have h1 := hf k cnt hc t k2 sp1 he
        split at h
        · cases h
        · rename_i ts2 sp2 he2
          have h2 := kidsR_count hf g k2 _ _ _ h1.1 he2
          injection h with h
          simp only [Prod.mk.injEq] at h
          obtain ⟨rfl, rfl⟩ := h
          rw [List.length_append, Tree.counts]
          omega
    · injection h with h
      simp only [Prod.mk.injEq] at h
      obtain ⟨rfl, rfl⟩ := h
      simp [Tree.counts]
      omega
theorem oneR_count : ∀ (q : Nat) (l : List UInt8) (at0 k cnt : Nat), cnt ≤ 10000 → Counted (oneR q l at0 k cnt) cnt
  | q, l, at0, k, cnt, hc => by
    have key : ∀ (rec : List UInt8 → Nat → Nat → Nat → PR (Tree × Nat × Sps)), (∀ l at0 k cnt, cnt ≤ 10000 → Counted (rec l at0 k cnt) cnt) → Counted (partR q rec l at0 k cnt) cnt := by
      intro rec hrec t k2 sp h
      unfold partR at h
      split at h
      · cases h
      · split at h
        · cases h
        · split at h
          · cases h
          · split at h
            · cases h
            · split at h
              · injection h with h
                simp only [Prod.mk.injEq] at h
                obtain ⟨rfl, rfl, rfl⟩ := h
                simp [Tree.count, Tree.counts]
                omega
              · split at h
                · cases h
                · rename_i ks sps he
                  have h1 := kidsR_count (hrec _ _) _ _ _ _ _ (by omega) he
                  injection h with h
                  simp only [Prod.mk.injEq] at h
                  obtain ⟨rfl, rfl, rfl⟩ := h
                  rw [List.length_cons, Tree.count]
                  omega
    cases q with
    | zero => exact key _ (fun _ _ _ _ _ _ _ _ h => by cases h)
    | succ q => exact key _ (oneR_count q)
theorem kidsR_bad0 {f : Nat → Nat → PR (Tree × Nat × Sps)} {len : Nat} (hf : ∀ k cnt e, f k cnt = .bad e → e ≠ 0) : ∀ (g k cnt e : Nat), kidsR f len g k cnt = .bad e → e ≠ 0
  | 0, _, _, e, h => by
    injection h with h
    omega
  | g + 1, k, cnt, e, h => by
    rw [kidsR] at h
    split at h
    · split at h
      · rename_i e2 he
        injection h with h
        subst h
        exact hf _ _ _ he
      · split at h
        · rename_i he
          injection h with h
          subst h
          exact kidsR_bad0 hf g _ _ _ he
        · cases h
    · cases h
theorem oneR_bad0 : ∀ (q : Nat) (l : List UInt8) (at0 k cnt e : Nat), oneR q l at0 k cnt = .bad e → e ≠ 0
  | q, l, at0, k, cnt, e, h => by
    have key : ∀ (rec : List UInt8 → Nat → Nat → Nat → PR (Tree × Nat × Sps)), (∀ l at0 k cnt e, rec l at0 k cnt = .bad e → e ≠ 0) → partR q rec l at0 k cnt = .bad e → e ≠ 0 := by
      intro rec hrec h
      unfold partR at h
      split at h
      · injection h with h
        omega
      · split at h
        · injection h with h
          omega
        · split at h
          · injection h with h
            omega
          · split at h
            · injection h with h
              omega
            · split at h
              · cases h
              · split at h
                · rename_i he
                  injection h with h
                  subst h
                  exact kidsR_bad0 (hrec _ _) _ _ _ _ he
                · cases h
    cases q with
    | zero => exact key _ (fun _ _ _ _ e h => by injection h with h; omega) h
    | succ q => exact key _ (oneR_bad0 q) h
/-- All of some bytes as a tree. -/
def parseR (l : List UInt8) : PR (Tree × Sps) :=
  match oneR 32 l 0 0 0 with
  | .bad e => .bad e
  | .ok (t, k, sp) => if k < l.length then .bad 7 else .ok (t, sp)
end Go.Mem

