/- Lemmas and walks on the way to the seat's laws; each theorem says its own conditions. -/
import Derived.Test.YtogliinfdfkobaaO1
import Derived.Test.YtogliinfdfkobaaO5
import Derived.Test.YtogliinfdfkobaaO6
import Derived.Test.YtogliinfdfkobaaBytes
import Derived.Laws.BitsLemmas
set_option linter.unusedSimpArgs false
set_option linter.unusedVariables false
set_option linter.unusedSimpArgs false
set_option linter.unusedVariables false
set_option maxRecDepth 100000
namespace Go.Proofs.Ytogliinfdfkobaa
open Go.RowKit Go.Mem Go.Reg Oct
end Go.Proofs.Ytogliinfdfkobaa

set_option linter.unusedSimpArgs false
set_option linter.unusedVariables false
set_option maxRecDepth 100000
namespace Go.Proofs.Ytogliinfdfkobaa
open Go.RowKit Go.Mem Go.Reg Oct
/-- What a parser of hex tells. -/
def UnhPost (w : World) (bad : Value) (l : List UInt8) (ok : Value) (e : Ending) (w' : World) : Prop :=
  (match unh l with
    | some xs => ∃ v, e = .returned (.tuple #[v, ok]) ∧ w'.ownsRow w.heap.size 5 1 v xs.length (xs.map u8c)
    | none => e = .returned (.tuple #[.slice none 0 0, bad])) ∧ Below w.heap.size w w'
theorem ownsOf {w0 w : World} {L : List Ent} (H : Hp w0 L w) (i : Nat) {e : TypeId} {size : Nat} {v : Value} {n : Nat} {xs : List Value} (hi : L[i]? = some (.row e size v n xs)) : w.ownsRow w0.heap.size e size v n xs := H.ok _ (List.mem_of_getElem? hi)
end Go.Proofs.Ytogliinfdfkobaa

set_option linter.unusedSimpArgs false
set_option linter.unusedVariables false
set_option maxRecDepth 100000
namespace Go.Proofs.Ytogliinfdfkobaa
open Go.RowKit Go.Mem Go.Reg Oct
set_option maxHeartbeats 1000000 in
theorem same_any (l m : List UInt8) (v u : Value) (w : World) (hb : Bs w v l) (hd : Bs w u m) (hl : l.length ≤ 1000000) (hm : m.length ≤ 1000000) :
    Calls Try.prog 20 #[v, u] w fun e w' => e = .returned (.bool (decide (l = m))) ∧ Below w.heap.size w w' := by
  have H := Hp.start w
  have C : True := trivial
  go_enter Try.func20, Try.ntmps20
  (repeat' ((fail_if_success (with_reducible show bodyPost _ _ _ _ _ _)); first | ((with_reducible refine Hp.abs_alloc H ?_); intro b' w' H' hb'; (try simp only [hb']); clear hb'; ((try simp only [List.set_cons_zero, List.set_cons_succ, List.setIfInBounds_toArray] at H'); clear C H; have H := H'; clear H'; have C := Hp.facts H; simp only [Facts, factsL, and_true, true_and, List.set_cons_zero, List.set_cons_succ, List.setIfInBounds_toArray] at C)) | ((with_reducible show wpList _ _ _ _ _ (World.setCell _ _ _)); (with_reducible apply Hp.abs_gen H); (first | ((repeat (with_reducible apply Hp.set' 0)); (with_reducible exact H); (repeat rfl); intro w' H') | ((repeat (with_reducible apply Hp.set' 1)); (with_reducible exact H); (repeat rfl); intro w' H') | ((repeat (with_reducible apply Hp.set' 2)); (with_reducible exact H); (repeat rfl); intro w' H') | ((repeat (with_reducible apply Hp.set' 3)); (with_reducible exact H); (repeat rfl); intro w' H') | ((repeat (with_reducible apply Hp.set' 4)); (with_reducible exact H); (repeat rfl); intro w' H') | ((repeat (with_reducible apply Hp.set' 5)); (with_reducible exact H); (repeat rfl); intro w' H') | ((repeat (with_reducible apply Hp.set' 6)); (with_reducible exact H); (repeat rfl); intro w' H') | ((repeat (with_reducible apply Hp.set' 7)); (with_reducible exact H); (repeat rfl); intro w' H')); ((try simp only [List.set_cons_zero, List.set_cons_succ, List.setIfInBounds_toArray] at H'); clear C H; have H := H'; clear H'; have C := Hp.facts H; simp only [Facts, factsL, and_true, true_and, List.set_cons_zero, List.set_cons_succ, List.setIfInBounds_toArray] at C)) | (go_at_call 40; refine (rcompare_any l m _ _ _ hb hd hl hm).mono ?_; rintro e' w' ⟨rfl, hb'⟩; (have H' := Hp.step H hb'; clear hb'; ((try simp only [List.set_cons_zero, List.set_cons_succ, List.setIfInBounds_toArray] at H'); clear C H; have H := H'; clear H'; have C := Hp.facts H; simp only [Facts, factsL, and_true, true_and, List.set_cons_zero, List.set_cons_succ, List.setIfInBounds_toArray] at C))) | go_values | go_skip | go_guarded | go_step | go_upon | go_back | (simp only [Int.not_lt, Int.not_le] at *; go_simp) | (go_values <;> (try go_simp)) | (go_ite <;> go_prune <;> (try go_simp)) | (split <;> (first | (rename_i hx; exact (hx _ rfl).elim) | go_prune))))
  go_ret
  refine ⟨ret_bool ?_, H.low⟩
  have := cmpL_zero l m
  by_cases h : l = m
  · rw [this.2 h]
    simp [h]
  · have h' : ¬ cmpL l m = 0 := fun e => h (this.1 e)
    simp [h, h']
end Go.Proofs.Ytogliinfdfkobaa

/- Tags and lengths in plain terms: their bytes, and what a reader makes of bytes. No program in sight. -/
namespace Hd
open Go Go.Mem
theorem wraps_i64 (n : Int) (h₀ : 0 ≤ n) (h₁ : n < 2 ^ 62) : IntKind.i64.wrap n = n := by rw [IntKind.wrap_i64]; omega
theorem i64_and (i : Nat) (hi : i ≤ 62) (x : Int) (h0 : 0 ≤ x) (h1 : x < 2 ^ 62) : bits .and .i64 x (2 ^ i - 1) = x % 2 ^ i := bits_mask .i64 62 (by decide) wraps_i64 i hi x h0 h1
theorem i64_or (i : Nat) (x y : Int) (h0 : 0 ≤ x) (hx : x % 2 ^ i = 0) (h1 : x < 2 ^ 62) (h2 : 0 ≤ y) (hy : y < 2 ^ i) (h3 : y < 2 ^ 62) : bits .or .i64 x y = x + y := bits_join .i64 62 (by decide) wraps_i64 i x y h0 hx h1 h2 hy h3
theorem u8_or (i : Nat) (x y : Int) (h0 : 0 ≤ x) (hx : x % 2 ^ i = 0) (h1 : x < 256) (h2 : 0 ≤ y) (hy : y < 2 ^ i) (h3 : y < 256) : bits .or .u8 x y = x + y := bits_join .u8 8 (by decide) wraps_u8 i x y h0 hx h1 h2 hy h3
theorem u8_and127 (x : Int) (h0 : 0 ≤ x) (h1 : x < 256) : bits .and .u8 x 127 = x % 128 := bits_mask .u8 8 (by decide) wraps_u8 7 (by decide) x h0 h1
theorem u8_and31 (x : Int) (h0 : 0 ≤ x) (h1 : x < 256) : bits .and .u8 x 31 = x % 32 := bits_mask .u8 8 (by decide) wraps_u8 5 (by decide) x h0 h1
theorem u8_and32' : ∀ x, x < 256 → bits .and .u8 ((x : Nat) : Int) 32 = ((32 * (x / 32 % 2) : Nat) : Int) := by decide +kernel
theorem u8_and32 (x : Int) (h0 : 0 ≤ x) (h1 : x < 256) : bits .and .u8 x 32 = 32 * (x / 32 % 2) := by
  have := u8_and32' x.toNat (by omega)
  rw [Int.toNat_of_nonneg h0] at this
  rw [this]
  omega
/-- A tag: its class, its number, is it made of others. -/
structure Tg where
  c : Int
  n : Int
  m : Bool
def Tg.zero : Tg := ⟨0, 0, false⟩
def okTag (t : Tg) : Bool := decide (0 ≤ t.c) && decide (t.c ≤ 3) && decide (0 ≤ t.n) && decide (t.n < 2097152)
theorem okTag_iff {t : Tg} : okTag t = true ↔ 0 ≤ t.c ∧ t.c ≤ 3 ∧ 0 ≤ t.n ∧ t.n < 2097152 := by simp [okTag, and_assoc]
def ofTag (n : Int) : Tg := ⟨0, n, n == 16 || n == 17⟩
def firstN (t : Tg) : Int := 64 * t.c + (if t.m then 32 else 0)
def byteI (n : Int) : UInt8 := UInt8.ofNat n.toNat
theorem u8c_byte {n : Int} (h0 : 0 ≤ n) (h1 : n ≤ 255) : u8c (byteI n) = .int .u8 n := u8c_of h0 h1
/-- A number's digits to a base, the least first. -/
def digR (B : Nat) : Nat → Nat → List Nat
  | 0, _ => []
  | f + 1, n => if n = 0 then [] else n % B :: digR B f (n / B)
def tagL (t : Tg) : List UInt8 :=
  if t.n < 31 then [byteI (firstN t + t.n)]
  else byteI (firstN t + 31) :: ((if 16384 ≤ t.n then [byteI (128 + t.n / 16384)] else []) ++ (if 128 ≤ t.n then [byteI (128 + t.n / 128 % 128)] else []) ++ [byteI (t.n % 128)])
def lenL (n : Int) : List UInt8 :=
  if n < 128 then [byteI n]
  else if n < 256 then [129, byteI n]
  else if n < 65536 then [130, byteI (n / 256), byteI (n % 256)]
  else if n < 16777216 then [131, byteI (n / 65536), byteI (n / 256 % 256), byteI (n % 256)]
  else [132, byteI (n / 16777216), byteI (n / 65536 % 256), byteI (n / 256 % 256), byteI (n % 256)]
/-- The number of a tag, in digits: the number, an error, the place behind. -/
def numR (l : List UInt8) : Nat → Nat → Nat → Nat × Nat × Nat
  | 0, p, _ => (0, 4, p)
  | f + 1, p, n =>
    match l[p]? with
    | none => (0, 3, p)
    | some d =>
      if (f = 3 ∧ d.toNat = 128) ∨ f = 0 then (0, 4, p)
      else if d.toNat < 128 then (if n * 128 + d.toNat % 128 < 31 then (0, 4, p) else (n * 128 + d.toNat % 128, 0, p + 1))
      else numR l f (p + 1) (n * 128 + d.toNat % 128)
def rdTag (l : List UInt8) (k : Nat) : Tg × Nat × Nat :=
  match l[k]? with
  | none => (.zero, 3, k)
  | some x =>
    if x.toNat % 32 < 31 then (⟨x.toNat / 64, x.toNat % 32, x.toNat / 32 % 2 == 1⟩, 0, k + 1)
    else if (numR l 4 (k + 1) 0).2.1 = 0 then (⟨x.toNat / 64, (numR l 4 (k + 1) 0).1, x.toNat / 32 % 2 == 1⟩, 0, (numR l 4 (k + 1) 0).2.2)
    else (.zero, (numR l 4 (k + 1) 0).2.1, k)
def foldR (a : Nat) (bs : List UInt8) : Nat := bs.foldl (fun a x => 256 * a + x.toNat) a
def rdLen (l : List UInt8) (k : Nat) : Nat × Nat × Nat :=
  match l[k]? with
  | none => (0, 3, k)
  | some x =>
    if x.toNat < 128 then (x.toNat, 0, k + 1)
    else if x.toNat = 128 ∨ 132 < x.toNat then (0, 5, k)
    else if l.length - (k + 1) < x.toNat - 128 then (0, 3, k)
    else if (l[k + 1]?.getD 0).toNat = 0 ∨ foldR 0 ((l.drop (k + 1)).take (x.toNat - 128)) < 128 then (0, 5, k)
    else if 16777216 < foldR 0 ((l.drop (k + 1)).take (x.toNat - 128)) then (0, 2, k)
    else (foldR 0 ((l.drop (k + 1)).take (x.toNat - 128)), 0, k + 1 + (x.toNat - 128))
/-- Both: the tag, the length, an error, the place behind. -/
def rdHead (l : List UInt8) (k : Nat) : Tg × Nat × Nat × Nat :=
  if (rdTag l k).2.1 = 0 then
    if (rdLen l (rdTag l k).2.2).2.1 = 0 then ((rdTag l k).1, (rdLen l (rdTag l k).2.2).1, 0, (rdLen l (rdTag l k).2.2).2.2)
    else (.zero, 0, (rdLen l (rdTag l k).2.2).2.1, k)
  else (.zero, 0, (rdTag l k).2.1, k)
theorem digR_step (B : Nat) (hB : 2 ≤ B) : ∀ (f n : Nat), n ≤ f → 0 < n → digR B f n = n % B :: digR B (n / B) (n / B) := by
  have key : ∀ (f g n : Nat), n ≤ f → n ≤ g → digR B f n = digR B g n := by
    intro f
    induction f with
    | zero => intro g n h _; obtain rfl : n = 0 := by omega
              cases g <;> rfl
    | succ f ih =>
      intro g n h1 h2
      cases g with
      | zero => obtain rfl : n = 0 := by omega
                rfl
      | succ g =>
        unfold digR
        split
        · rfl
        · have : n / B < n := Nat.div_lt_self (by omega) (by omega)
          rw [ih g (n / B) (by omega) (by omega)]
  intro f n h h0
  cases f with
  | zero => omega
  | succ f =>
    rw [digR, if_neg (by omega)]
    have : n / B < n := Nat.div_lt_self h0 (by omega)
    rw [key f (n / B) (n / B) (by omega) (Nat.le_refl _)]
theorem numR_le (l : List UInt8) : ∀ (f p n : Nat), (numR l f p n).2.1 = 0 → p ≤ l.length → (numR l f p n).2.2 ≤ l.length ∧ p < (numR l f p n).2.2 ∧ 31 ≤ (numR l f p n).1 := by
  intro f
  induction f with
  | zero => intro p n h; simp [numR] at h
  | succ f ih =>
    intro p n h hp
    unfold numR at h ⊢
    cases hx : l[p]? with
    | none => rw [hx] at h; simp at h
    | some d =>
      have hlt : p < l.length := (List.getElem?_eq_some_iff.1 hx).1
      rw [hx] at h
      simp only at h ⊢
      split at h
      · simp at h
      · rename_i h1
        rw [if_neg h1]
        split at h
        · rename_i h2
          rw [if_pos h2]
          split at h
          · simp at h
          · rename_i h3
            rw [if_neg h3]
            simp only
            omega
        · rename_i h2
          rw [if_neg h2]
          have := ih (p + 1) _ h (by omega)
          omega
theorem rdTag_le {l : List UInt8} {k : Nat} (hk : k ≤ l.length) : (rdTag l k).2.2 ≤ l.length ∧ k ≤ (rdTag l k).2.2 := by
  unfold rdTag
  cases hx : l[k]? with
  | none => simp [hk]
  | some x =>
    have hlt : k < l.length := (List.getElem?_eq_some_iff.1 hx).1
    simp only
    split
    · simp; omega
    · split
      · rename_i h
        have := numR_le l 4 (k + 1) 0 h (by omega)
        simp
        omega
      · simp [hk]
theorem rdTag_err {l : List UInt8} {k : Nat} (h : (rdTag l k).2.1 ≠ 0) : rdTag l k = (.zero, (rdTag l k).2.1, k) := by
  unfold rdTag at *
  cases hx : l[k]? with
  | none => rfl
  | some x =>
    rw [hx] at h
    simp only at h ⊢
    split at h
    · simp at h
    · rename_i h1
      rw [if_neg h1]
      split at h
      · simp at h
      · rename_i h2
        rw [if_neg h2]
theorem rdLen_le {l : List UInt8} {k : Nat} (hk : k ≤ l.length) : (rdLen l k).2.2 ≤ l.length ∧ k ≤ (rdLen l k).2.2 := by
  unfold rdLen
  cases hx : l[k]? with
  | none => simp [hk]
  | some x =>
    have hlt : k < l.length := (List.getElem?_eq_some_iff.1 hx).1
    simp only
    repeat' split
    all_goals simp
    all_goals omega
theorem rdLen_err {l : List UInt8} {k : Nat} (h : (rdLen l k).2.1 ≠ 0) : rdLen l k = (0, (rdLen l k).2.1, k) := by
  unfold rdLen at *
  cases hx : l[k]? with
  | none => rfl
  | some x =>
    rw [hx] at h
    simp only at h ⊢
    split
    · rename_i h1; rw [if_pos h1] at h; simp at h
    · rename_i h1
      rw [if_neg h1] at h
      split
      · rfl
      · rename_i h2
        rw [if_neg h2] at h
        split
        · rfl
        · rename_i h3
          rw [if_neg h3] at h
          split
          · rfl
          · rename_i h4
            rw [if_neg h4] at h
            split
            · rfl
            · rename_i h5
              rw [if_neg h5] at h
              simp at h
theorem rdHead_le {l : List UInt8} {k : Nat} (hk : k ≤ l.length) : (rdHead l k).2.2.2 ≤ l.length ∧ k ≤ (rdHead l k).2.2.2 := by
  unfold rdHead
  have h1 := rdTag_le hk
  have h2 := rdLen_le h1.1
  split
  · split <;> simp <;> omega
  · simp [hk]
end Hd
namespace Hd
open Go Go.Mem
theorem digR_len (B : Nat) (hB : 2 ≤ B) : ∀ (k n : Nat), n < B ^ k → (digR B n n).length ≤ k := by
  intro k
  induction k with
  | zero => intro n h; obtain rfl : n = 0 := by simpa using h
            simp [digR]
  | succ k ih =>
    intro n h
    rcases Nat.eq_zero_or_pos n with rfl | h0
    · simp [digR]
    · rw [digR_step B hB n n (Nat.le_refl _) h0, List.length_cons]
      have := ih (n / B) (by rw [Nat.pow_succ] at h; exact Nat.div_lt_of_lt_mul (by rw [Nat.mul_comm]; exact h))
      omega
/-- A number that a block's first cell holds. -/
def cellN (w : World) (b : Nat) : Nat := match w.cell? ⟨b, 0, none⟩ with
  | some (.int _ m) => m.toNat
  | _ => 0
theorem cellN_of {w : World} {b : Nat} {k : IntKind} {m : Nat} (h : w.cell? ⟨b, 0, none⟩ = some (.int k (m : Int))) : cellN w b = m := by
  unfold cellN
  rw [h]
  simp
end Hd
namespace Hd
open Go Go.Mem
theorem digR_8 (n : Nat) (h1 : 128 ≤ n) (h2 : n ≤ 16777216) : (digR 256 n n).length ≤ 4 ∧ byteI (128 + ((digR 256 n n).length : Nat)) :: ((digR 256 n n).map (fun (d : Nat) => byteI (d : Int))).reverse = lenL n := by
  refine ⟨digR_len 256 (by decide) 4 n (by omega), ?_⟩
  have s : ∀ n, 0 < n → digR 256 n n = n % 256 :: digR 256 (n / 256) (n / 256) := fun n h => digR_step 256 (by decide) n n (Nat.le_refl _) h
  have z : digR 256 0 0 = [] := rfl
  rcases (by omega : n < 256 ∨ (256 ≤ n ∧ n < 65536) ∨ (65536 ≤ n ∧ n < 16777216) ∨ n = 16777216) with h | h | h | h
  · rw [s n (by omega), show n / 256 = 0 by omega, z]
    unfold lenL
    rw [if_neg (by omega), if_pos (by omega), show n % 256 = n by omega]
    rfl
  · rw [s n (by omega), s (n / 256) (by omega), show n / 256 / 256 = 0 by omega, z]
    unfold lenL
    rw [if_neg (by omega), if_neg (by omega), if_pos (by omega), show n / 256 % 256 = n / 256 by omega]
    rfl
  · rw [s n (by omega), s (n / 256) (by omega), s (n / 256 / 256) (by omega), show n / 256 / 256 / 256 = 0 by omega, z]
    unfold lenL
    rw [if_neg (by omega), if_neg (by omega), if_neg (by omega), if_pos (by omega), show n / 256 / 256 % 256 = n / 65536 by omega]
    rfl
  · subst h
    decide +kernel
theorem lenL_len (n : Int) : (lenL n).length ≤ 5 := by
  unfold lenL
  repeat' split
  all_goals simp
end Hd
namespace Hd
open Go Go.Mem
/-- Digits, the first i of which say that more follow. -/
def hiL (i : Nat) (D : List UInt8) : List UInt8 := (D.take i).map (fun d => byteI (128 + (d.toNat : Int))) ++ D.drop i
theorem hiL_length (i : Nat) (D : List UInt8) : (hiL i D).length = D.length := by simp [hiL]; omega
theorem hiL_at {i : Nat} {D : List UInt8} (h : i < D.length) : (hiL i D)[i]? = some D[i] := by
  unfold hiL
  rw [List.getElem?_append_right (by simp; omega), List.length_map, List.length_take, Nat.min_eq_left (by omega), Nat.sub_self, List.getElem?_drop, Nat.add_zero, List.getElem?_eq_getElem h]
theorem hiL_step {i : Nat} {D : List UInt8} (h : i < D.length) : hiL (i + 1) D = (hiL i D).set i (byteI (128 + (D[i].toNat : Int))) := by
  unfold hiL
  rw [List.set_append_right _ _ (by simp; omega), List.length_map, List.length_take, Nat.min_eq_left (by omega), Nat.sub_self, List.drop_eq_getElem_cons h, List.set_cons_zero, List.take_succ_eq_append_getElem h, List.map_append, List.append_assoc]
  rfl
theorem digR_7 (n : Nat) (h1 : 31 ≤ n) (h2 : n < 2097152) : 1 ≤ (digR 128 n n).length ∧ (digR 128 n n).length ≤ 4 ∧ (∀ d ∈ ((digR 128 n n).map (fun (d : Nat) => byteI (d : Int))).reverse, d.toNat < 128) ∧
    ∀ (c : Int) (m : Bool), byteI (firstN ⟨c, n, m⟩ + 31) :: hiL ((digR 128 n n).length - 1) ((digR 128 n n).map (fun (d : Nat) => byteI (d : Int))).reverse = tagL ⟨c, n, m⟩ := by
  have s : ∀ n, 0 < n → digR 128 n n = n % 128 :: digR 128 (n / 128) (n / 128) := fun n h => digR_step 128 (by decide) n n (Nat.le_refl _) h
  have z : digR 128 0 0 = [] := rfl
  have bt : ∀ n : Nat, n < 256 → (byteI (n : Int)).toNat = n := fun n h => by unfold byteI; rw [Int.toNat_natCast, UInt8.toNat_ofNat']; omega
  rcases (by omega : n < 128 ∨ (128 ≤ n ∧ n < 16384) ∨ (16384 ≤ n ∧ n < 2097152)) with h | h | h
  · rw [s n (by omega), show n / 128 = 0 by omega, z]
    refine ⟨by simp, by simp, ?_, fun c m => ?_⟩
    · intro d hd
      simp only [List.map_cons, List.map_nil, List.reverse_cons, List.reverse_nil, List.nil_append, List.mem_singleton] at hd
      subst hd
      rw [bt _ (by omega)]
      omega
    · unfold tagL
      rw [if_neg (by simp; omega), if_neg (by simp; omega), if_neg (by simp; omega)]
      simp [hiL]
  · rw [s n (by omega), s (n / 128) (by omega), show n / 128 / 128 = 0 by omega, z]
    refine ⟨by simp, by simp, ?_, fun c m => ?_⟩
    · intro d hd
      simp only [List.map_cons, List.map_nil, List.reverse_cons, List.reverse_nil, List.nil_append, List.singleton_append, List.mem_cons, List.not_mem_nil, or_false] at hd
      rcases hd with rfl | rfl <;> rw [bt _ (by omega)] <;> omega
    · unfold tagL
      rw [if_neg (by simp; omega), if_neg (by simp; omega), if_pos (by simp; omega)]
      simp only [hiL, List.map_cons, List.map_nil, List.reverse_cons, List.reverse_nil, List.nil_append, List.singleton_append, List.length_cons, List.length_nil, Nat.reduceAdd, Nat.reduceSub, List.take_succ_cons, List.take_zero, List.drop_succ_cons, List.drop_zero]
      rw [bt _ (by omega)]
      congr 3
  · rw [s n (by omega), s (n / 128) (by omega), s (n / 128 / 128) (by omega), show n / 128 / 128 / 128 = 0 by omega, z]
    refine ⟨by simp, by simp, ?_, fun c m => ?_⟩
    · intro d hd
      simp only [List.map_cons, List.map_nil, List.reverse_cons, List.reverse_nil, List.nil_append, List.singleton_append, List.cons_append, List.mem_cons, List.not_mem_nil, or_false] at hd
      rcases hd with rfl | rfl | rfl <;> rw [bt _ (by omega)] <;> omega
    · unfold tagL
      rw [if_neg (by simp; omega), if_pos (by simp; omega), if_pos (by simp; omega)]
      simp only [hiL, List.map_cons, List.map_nil, List.reverse_cons, List.reverse_nil, List.nil_append, List.singleton_append, List.cons_append, List.length_cons, List.length_nil, Nat.reduceAdd, Nat.reduceSub, List.take_succ_cons, List.take_zero, List.drop_succ_cons, List.drop_zero]
      rw [bt _ (by omega), bt _ (by omega)]
      rw [show n / 128 / 128 % 128 = n / 16384 by omega]
      congr 3
theorem firstN_ok {c n : Int} {m : Bool} (h0 : 0 ≤ c) (h1 : c ≤ 3) : 0 ≤ firstN ⟨c, n, m⟩ ∧ firstN ⟨c, n, m⟩ ≤ 224 ∧ firstN ⟨c, n, m⟩ % 32 = 0 := by
  unfold firstN
  cases m <;> simp <;> omega
theorem tagL_len (t : Tg) : (tagL t).length ≤ 4 := by
  unfold tagL
  repeat' split
  all_goals simp
end Hd
namespace Hd
open Go
theorem or_comm8' : ∀ a, a < 256 → bits BinOp.or .u8 128 ((a : Nat) : Int) = bits BinOp.or .u8 ((a : Nat) : Int) 128 := by decide +kernel
theorem or_comm8 {a : Int} (h0 : 0 ≤ a) (h1 : a < 256) (_ : True) (_ : True) : bits BinOp.or .u8 128 a = bits BinOp.or .u8 a 128 := by
  have := or_comm8' a.toNat (by omega)
  rwa [Int.toNat_of_nonneg h0] at this
end Hd
namespace Hd
open Go Go.Mem
theorem foldR_snoc (a : Nat) (bs : List UInt8) (x : UInt8) : foldR a (bs ++ [x]) = 256 * foldR a bs + x.toNat := by simp [foldR, List.foldl_append]
theorem foldR_lt : ∀ (bs : List UInt8), foldR 0 bs < 256 ^ bs.length := by
  intro bs
  have key : ∀ (bs : List UInt8) (a : Nat), foldR a bs < (a + 1) * 256 ^ bs.length := by
    intro bs
    induction bs with
    | nil => intro a; simp [foldR]
    | cons x r ih =>
      intro a
      have h := ih (256 * a + x.toNat)
      have hx := x.toNat_lt
      rw [List.length_cons, Nat.pow_succ, show (a + 1) * (256 ^ r.length * 256) = (256 * (a + 1)) * 256 ^ r.length by rw [← Nat.mul_assoc, Nat.mul_comm ((a+1) * _) 256, ← Nat.mul_assoc]]
      exact Nat.lt_of_lt_of_le h (Nat.mul_le_mul_right _ (by omega))
  simpa using key bs 0
/-- A length of so many bytes at a place. -/
def longR (l : List UInt8) (p n : Nat) : Nat × Nat × Nat :=
  if l.length - p < n then (0, 3, p)
  else if (l[p]?.getD 0).toNat = 0 ∨ foldR 0 ((l.drop p).take n) < 128 then (0, 5, p)
  else if 16777216 < foldR 0 ((l.drop p).take n) then (0, 2, p)
  else (foldR 0 ((l.drop p).take n), 0, p + n)
theorem rdLen_long {l : List UInt8} {k : Nat} (h : k < l.length) (h1 : ¬ l[k].toNat < 128) (h2 : ¬ (l[k].toNat = 128 ∨ 132 < l[k].toNat)) :
    rdLen l k = if (longR l (k + 1) (l[k].toNat - 128)).2.1 = 0 then longR l (k + 1) (l[k].toNat - 128) else (0, (longR l (k + 1) (l[k].toNat - 128)).2.1, k) := by
  unfold rdLen longR
  rw [List.getElem?_eq_getElem h]
  simp only
  rw [if_neg h1, if_neg h2]
  repeat' split
  all_goals simp_all
end Hd
namespace Hd
open Go Go.Mem
/-- A whole: its bytes, or an error. -/
def wrapR (t : Tg) (ls : List (List UInt8)) : List UInt8 × Nat :=
  if okTag t then (if 16777216 < ls.flatten.length then ([], 2) else (tagL t ++ lenL (ls.flatten.length : Nat) ++ ls.flatten, 0)) else ([], 1)
theorem flat_take_le (ls : List (List UInt8)) (k : Nat) : (ls.take k).flatten.length ≤ ls.flatten.length := by
  have h := congrArg (fun l => l.flatten.length) (List.take_append_drop k ls)
  simp only [List.flatten_append, List.length_append] at h
  omega
theorem flat_take_snoc (ls : List (List UInt8)) (k : Nat) (h : k < ls.length) : (ls.take (k + 1)).flatten = (ls.take k).flatten ++ ls[k] := by
  rw [List.take_succ_eq_append_getElem h, List.flatten_append]
  simp
end Hd

