/- What a reader of tags and lengths took in is what a writer puts out. No program in sight. -/
import Derived.Test.YtogliinfdfkobaaHPlain
import Derived.Test.YtogliinfdfkobaaInts
set_option linter.unusedSimpArgs false
set_option linter.unusedVariables false
namespace Hd
open Go Go.Mem
theorem byteI_eq {i : Int} {x : UInt8} (h : i = (x.toNat : Int)) : byteI i = x := by
  subst h
  unfold byteI
  rw [Int.toNat_natCast]
  exact UInt8.ofNat_toNat
theorem numQ_none {l : List UInt8} {f p n : Nat} (h : l[p]? = none) : numR l (f + 1) p n = (0, 3, p) := by
  rw [numR, h]
theorem numQ_bad {l : List UInt8} {f p n : Nat} {d : UInt8} (h : l[p]? = some d) (hc : (f = 3 ∧ d.toNat = 128) ∨ f = 0) : numR l (f + 1) p n = (0, 4, p) := by
  rw [numR, h]
  simp only
  rw [if_pos hc]
theorem numQ_end {l : List UInt8} {f p n : Nat} {d : UInt8} (h : l[p]? = some d) (hc : ¬((f = 3 ∧ d.toNat = 128) ∨ f = 0)) (hd : d.toNat < 128) : numR l (f + 1) p n = if n * 128 + d.toNat % 128 < 31 then (0, 4, p) else (n * 128 + d.toNat % 128, 0, p + 1) := by
  rw [numR, h]
  simp only
  rw [if_neg hc, if_pos hd]
theorem numQ_on {l : List UInt8} {f p n : Nat} {d : UInt8} (h : l[p]? = some d) (hc : ¬((f = 3 ∧ d.toNat = 128) ∨ f = 0)) (hd : ¬ d.toNat < 128) : numR l (f + 1) p n = numR l f (p + 1) (n * 128 + d.toNat % 128) := by
  rw [numR, h]
  simp only
  rw [if_neg hc, if_neg hd]
theorem first_eq (x : UInt8) (n : Int) : firstN ⟨(x.toNat : Int) / 64, n, x.toNat / 32 % 2 == 1⟩ = ((x.toNat / 32 * 32 : Nat) : Int) := by
  have hx := x.toNat_lt
  unfold firstN
  simp only
  rcases (by omega : x.toNat / 32 % 2 = 1 ∨ x.toNat / 32 % 2 = 0) with h | h
  · rw [h]; simp; omega
  · rw [h]; simp; omega
/-- The digits of a tag's number, read behind its first byte. -/
theorem numR_round {x : UInt8} {r : List UInt8} {n p : Nat} (hx : x.toNat % 32 = 31) (h : numR (x :: r) 4 1 0 = (n, 0, p)) :
    n < 2097152 ∧ tagL ⟨(x.toNat : Int) / 64, n, x.toNat / 32 % 2 == 1⟩ = (x :: r).take p ∧ p ≤ r.length + 1 := by
  have hxl := x.toNat_lt
  have hf : byteI (firstN ⟨(x.toNat : Int) / 64, (n : Int), x.toNat / 32 % 2 == 1⟩ + 31) = x := byteI_eq (by rw [first_eq]; omega)
  cases r with
  | nil => rw [numQ_none (by simp)] at h; simp at h
  | cons d r =>
    have hd := d.toNat_lt
    by_cases h1 : d.toNat = 128
    · rw [numQ_bad (d := d) (by simp) (.inl ⟨rfl, h1⟩)] at h; simp at h
    · by_cases h2 : d.toNat < 128
      · rw [numQ_end (d := d) (by simp) (by omega) h2] at h
        split at h
        · simp at h
        · simp only [Prod.mk.injEq, true_and] at h
          obtain ⟨rfl, rfl⟩ := h
          refine ⟨by omega, ?_, by simp⟩
          unfold tagL
          rw [hf, if_neg (by simp only; omega), if_neg (by simp only; omega), if_neg (by simp only; omega)]
          rw [show byteI (((0 * 128 + d.toNat % 128 : Nat) : Int) % 128) = d from byteI_eq (by omega)]
          rfl
      · rw [numQ_on (d := d) (by simp) (by omega) h2] at h
        cases r with
        | nil => rw [numQ_none (by simp)] at h; simp at h
        | cons e r =>
          have he := e.toNat_lt
          by_cases h3 : e.toNat < 128
          · rw [numQ_end (d := e) (by simp) (by omega) h3] at h
            split at h
            · simp at h
            · simp only [Prod.mk.injEq, true_and] at h
              obtain ⟨rfl, rfl⟩ := h
              refine ⟨by omega, ?_, by simp⟩
              unfold tagL
              rw [hf, if_neg (by simp only; omega), if_neg (by simp only; omega), if_pos (by simp only; omega)]
              rw [show byteI (128 + (((0 * 128 + d.toNat % 128) * 128 + e.toNat % 128 : Nat) : Int) / 128 % 128) = d from byteI_eq (by omega)]
              rw [show byteI ((((0 * 128 + d.toNat % 128) * 128 + e.toNat % 128 : Nat) : Int) % 128) = e from byteI_eq (by omega)]
              rfl
          · rw [numQ_on (d := e) (by simp) (by omega) h3] at h
            cases r with
            | nil => rw [numQ_none (by simp)] at h; simp at h
            | cons g r =>
              have hg := g.toNat_lt
              by_cases h4 : g.toNat < 128
              · rw [numQ_end (d := g) (by simp) (by omega) h4] at h
                split at h
                · simp at h
                · simp only [Prod.mk.injEq, true_and] at h
                  obtain ⟨rfl, rfl⟩ := h
                  refine ⟨by omega, ?_, by simp⟩
                  unfold tagL
                  rw [hf, if_neg (by simp only; omega), if_pos (by simp only; omega), if_pos (by simp only; omega)]
                  rw [show byteI (128 + ((((0 * 128 + d.toNat % 128) * 128 + e.toNat % 128) * 128 + g.toNat % 128 : Nat) : Int) / 16384) = d from byteI_eq (by omega)]
                  rw [show byteI (128 + ((((0 * 128 + d.toNat % 128) * 128 + e.toNat % 128) * 128 + g.toNat % 128 : Nat) : Int) / 128 % 128) = e from byteI_eq (by omega)]
                  rw [show byteI (((((0 * 128 + d.toNat % 128) * 128 + e.toNat % 128) * 128 + g.toNat % 128 : Nat) : Int) % 128) = g from byteI_eq (by omega)]
                  rfl
              · rw [numQ_on (d := g) (by simp) (by omega) h4] at h
                cases r with
                | nil => rw [numQ_none (by simp)] at h; simp at h
                | cons q r => rw [numQ_bad (d := q) (by simp) (.inr rfl)] at h; simp at h
theorem rdTag_round {l : List UInt8} {c n : Int} {m : Bool} {p : Nat} (h : rdTag l 0 = (⟨c, n, m⟩, 0, p)) :
    okTag ⟨c, n, m⟩ = true ∧ tagL ⟨c, n, m⟩ = l.take p ∧ p ≤ l.length := by
  cases l with
  | nil => simp [rdTag] at h
  | cons x r =>
    have hx := x.toNat_lt
    unfold rdTag at h
    rw [show (x :: r)[0]? = some x from rfl] at h
    simp only [Nat.zero_add] at h
    split at h
    · rename_i h1
      simp only [Prod.mk.injEq, Tg.mk.injEq, true_and] at h
      obtain ⟨⟨rfl, rfl, rfl⟩, rfl⟩ := h
      refine ⟨okTag_iff.2 ⟨?_, ?_, ?_, ?_⟩, ?_, by simp⟩
      · simp only; omega
      · simp only; omega
      · simp only; omega
      · simp only; omega
      · unfold tagL
        rw [if_pos (by simp only; omega), first_eq]
        rw [show byteI _ = x from byteI_eq (by simp only; omega)]
        rfl
    · rename_i h1
      split at h
      · rename_i h2
        obtain ⟨⟨N, er, P⟩, hN⟩ : ∃ R, numR (x :: r) 4 1 0 = R := ⟨_, rfl⟩
        rw [hN] at h h2
        simp only at h h2
        subst h2
        simp only [Prod.mk.injEq, Tg.mk.injEq, true_and] at h
        obtain ⟨⟨rfl, rfl, rfl⟩, rfl⟩ := h
        obtain ⟨q1, q2, q3⟩ := numR_round (by omega) hN
        exact ⟨okTag_iff.2 ⟨by simp only; omega, by simp only; omega, by simp only; omega, by simp only; omega⟩, q2, by simpa using q3⟩
      · rename_i h2
        simp only [Prod.mk.injEq] at h
        omega
theorem rdLen_round {l : List UInt8} {n p : Nat} (h : rdLen l 0 = (n, 0, p)) : n ≤ 16777216 ∧ lenL (n : Int) = l.take p ∧ p ≤ l.length := by
  cases l with
  | nil => simp [rdLen] at h
  | cons x r =>
    have hx := x.toNat_lt
    unfold rdLen at h
    rw [show (x :: r)[0]? = some x from rfl] at h
    simp only [Nat.zero_add] at h
    split at h
    · simp only [Prod.mk.injEq, true_and] at h
      obtain ⟨rfl, rfl⟩ := h
      refine ⟨by omega, ?_, by simp⟩
      unfold lenL
      rw [if_pos (by omega), byteI_eq rfl]
      rfl
    · rename_i h1
      split at h
      · simp at h
      · rename_i h2
        split at h
        · simp at h
        · rename_i h3
          split at h
          · simp at h
          · rename_i h4
            split at h
            · simp at h
            · rename_i h5
              simp only [Prod.mk.injEq, true_and] at h
              obtain ⟨hn, hp⟩ := h
              have e129 : ∀ k : Nat, k < 256 → x.toNat = k → x = UInt8.ofNat k := fun k _ e => by rw [← e]; exact UInt8.ofNat_toNat.symm
              rw [List.drop_succ_cons, List.drop_zero] at hn h4 h5
              rw [hn] at h4 h5
              simp only [List.length_cons] at h3
              refine ⟨by omega, ?_, by simp only [List.length_cons]; omega⟩
              rcases (by omega : x.toNat = 129 ∨ x.toNat = 130 ∨ x.toNat = 131 ∨ x.toNat = 132) with hk | hk | hk | hk
              · obtain rfl := e129 129 (by omega) hk
                rw [hk] at hn hp h3
                match r, h3, hn, hp, h4 with
                | a :: r, h3, hn, hp, h4 =>
                  have ha := a.toNat_lt
                  simp only [Nat.reduceSub, List.take_succ_cons, List.take_zero, foldR, List.foldl_cons, List.foldl_nil] at hn
                  subst hp
                  subst hn
                  unfold lenL
                  rw [if_neg (by omega), if_pos (by omega)]
                  rw [show byteI _ = a from byteI_eq (by omega)]
                  rfl
                | [], h3, hn, hp, h4 => simp at h3
              · obtain rfl := e129 130 (by omega) hk
                rw [hk] at hn hp h3
                match r, h3, hn, hp, h4 with
                | a :: b :: r, h3, hn, hp, h4 =>
                  have ha := a.toNat_lt
                  have hb := b.toNat_lt
                  simp only [List.getElem?_cons_succ, List.getElem?_cons_zero, Option.getD_some] at h4
                  simp only [Nat.reduceSub, List.take_succ_cons, List.take_zero, foldR, List.foldl_cons, List.foldl_nil] at hn
                  subst hp
                  subst hn
                  unfold lenL
                  rw [if_neg (by omega), if_neg (by omega), if_pos (by omega)]
                  rw [show byteI (((256 * (256 * 0 + a.toNat) + b.toNat : Nat) : Int) / 256) = a from byteI_eq (by omega), show byteI (((256 * (256 * 0 + a.toNat) + b.toNat : Nat) : Int) % 256) = b from byteI_eq (by omega)]
                  rfl
                | [], h3, hn, hp, h4 => simp at h3
                | [_], h3, hn, hp, h4 => simp at h3
              · obtain rfl := e129 131 (by omega) hk
                rw [hk] at hn hp h3
                match r, h3, hn, hp, h4 with
                | a :: b :: c :: r, h3, hn, hp, h4 =>
                  have ha := a.toNat_lt
                  have hb := b.toNat_lt
                  have hc := c.toNat_lt
                  simp only [List.getElem?_cons_succ, List.getElem?_cons_zero, Option.getD_some] at h4
                  simp only [Nat.reduceSub, List.take_succ_cons, List.take_zero, foldR, List.foldl_cons, List.foldl_nil] at hn
                  subst hp
                  obtain ⟨N, hN⟩ : ∃ N, 256 * (256 * (256 * 0 + a.toNat) + b.toNat) + c.toNat = N := ⟨_, rfl⟩
                  obtain rfl : N = n := by omega
                  unfold lenL
                  rw [if_neg (by omega), if_neg (by omega), if_neg (by omega), if_pos (by omega)]
                  rw [show byteI ((N : Int) / 65536) = a from byteI_eq (by omega), show byteI ((N : Int) / 256 % 256) = b from byteI_eq (by omega), show byteI ((N : Int) % 256) = c from byteI_eq (by omega)]
                  rfl
                | [], h3, hn, hp, h4 => simp at h3
                | [_], h3, hn, hp, h4 => simp at h3
                | [_, _], h3, hn, hp, h4 => simp at h3
              · obtain rfl := e129 132 (by omega) hk
                rw [hk] at hn hp h3
                match r, h3, hn, hp, h4 with
                | a :: b :: c :: d :: r, h3, hn, hp, h4 =>
                  have ha := a.toNat_lt
                  have hb := b.toNat_lt
                  have hc := c.toNat_lt
                  have hd := d.toNat_lt
                  simp only [List.getElem?_cons_succ, List.getElem?_cons_zero, Option.getD_some] at h4
                  simp only [Nat.reduceSub, List.take_succ_cons, List.take_zero, foldR, List.foldl_cons, List.foldl_nil] at hn
                  subst hp
                  obtain ⟨N, hN⟩ : ∃ N, 256 * (256 * (256 * (256 * 0 + a.toNat) + b.toNat) + c.toNat) + d.toNat = N := ⟨_, rfl⟩
                  obtain rfl : N = n := by omega
                  unfold lenL
                  rw [if_neg (by omega), if_neg (by omega), if_neg (by omega), if_neg (by omega)]
                  rw [show byteI ((N : Int) / 16777216) = a from byteI_eq (by omega), show byteI ((N : Int) / 65536 % 256) = b from byteI_eq (by omega), show byteI ((N : Int) / 256 % 256) = c from byteI_eq (by omega), show byteI ((N : Int) % 256) = d from byteI_eq (by omega)]
                  rfl
                | [], h3, hn, hp, h4 => simp at h3
                | [_], h3, hn, hp, h4 => simp at h3
                | [_, _], h3, hn, hp, h4 => simp at h3
                | [_, _, _], h3, hn, hp, h4 => simp at h3
end Hd

/- What a writer of tags and lengths put out is what a reader takes in; a part of it is too short. No program in sight. -/
namespace Hd
open Go Go.Mem
/-- The digits that a tag's first byte is followed by. -/
def tailL (n : Int) : List UInt8 := (if 16384 ≤ n then [byteI (128 + n / 16384)] else []) ++ (if 128 ≤ n then [byteI (128 + n / 128 % 128)] else []) ++ [byteI (n % 128)]
/-- A whole over content. -/
def wholeL (t : Tg) (l : List UInt8) : List UInt8 := tagL t ++ lenL (l.length : Nat) ++ l
end Hd

