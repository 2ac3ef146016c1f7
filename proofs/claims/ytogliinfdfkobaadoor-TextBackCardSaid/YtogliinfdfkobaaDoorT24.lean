/- Lemmas and walks on the way to the seat's laws; each theorem says its own conditions. -/
import Derived.Test.YtogliinfdfkobaaDoorH15
import Derived.Test.YtogliinfdfkobaaDoorHPlain
set_option linter.unusedSimpArgs false
set_option linter.unusedVariables false
set_option linter.unusedSimpArgs false
set_option linter.unusedVariables false
set_option maxRecDepth 100000
namespace Go.Proofs.YtogliinfdfkobaaDoor
open Go.RowKit Go.Mem Go.Reg Hd Go.LawLift Oct
theorem wrap_any (c n : Int) (m : Bool) (ls : List (List UInt8)) (v : Value) (w : World) (hb : Bss w v ls) (hl : ls.length ≤ 10000) (hls : ∀ l ∈ ls, l.length ≤ 67108864) :
    Calls Tryd.prog 43 #[.agg #[.int .i64 c, .int .i64 n, .bool m], v] w (OwnOut w (wrapR ⟨c, n, m⟩ ls).1 (wrapR ⟨c, n, m⟩ ls).2) := by
  cases h : okTag ⟨c, n, m⟩ with
  | false =>
    obtain ⟨A, cc, rfl, -⟩ := hb.open
    rw [show wrapR ⟨c, n, m⟩ ls = ([], 1) by unfold wrapR; rw [h]; rfl]
    exact wrap_no c n m A _ cc h w
  | true =>
    obtain ⟨-, -, h0, -⟩ := okTag_iff.1 h
    obtain ⟨k, rfl⟩ := Int.eq_ofNat_of_zero_le (show 0 ≤ n from h0)
    exact wrap_yes c k m ls v w hb hl hls h
/-- The bytes of a tag, or an error. -/
def tagR (t : Tg) : List UInt8 × Nat := if okTag t then (tagL t, 0) else ([], 1)
def lenR (n : Int) : List UInt8 × Nat := if n < 0 then ([], 1) else if 16777216 < n then ([], 2) else (lenL n, 0)
end Go.Proofs.YtogliinfdfkobaaDoor

set_option linter.unusedSimpArgs false
set_option linter.unusedVariables false
set_option maxRecDepth 100000
namespace Go.Proofs.YtogliinfdfkobaaDoor
open Go.RowKit Go.Mem Go.Reg Hd Go.LawLift Oct
end Go.Proofs.YtogliinfdfkobaaDoor

set_option linter.unusedSimpArgs false
set_option linter.unusedVariables false
set_option maxRecDepth 100000
namespace Go.Proofs.YtogliinfdfkobaaDoor
open Go.RowKit Go.Mem Go.Reg Hd Go.LawLift Oct
/-- How long a whole is: nothing where the tag or the length is none. -/
def sizeR (t : Tg) (n : Int) : Int := if (tagR t).2 ≠ 0 ∨ (lenR n).2 ≠ 0 then 0 else ((tagR t).1.length : Int) + (lenR n).1.length + n
end Go.Proofs.YtogliinfdfkobaaDoor

/- What a reader of tags and lengths took in is what a writer puts out. No program in sight. -/
namespace Hd
open Go Go.Mem
theorem numQ_end {l : List UInt8} {f p n : Nat} {d : UInt8} (h : l[p]? = some d) (hc : ¬((f = 3 ∧ d.toNat = 128) ∨ f = 0)) (hd : d.toNat < 128) : numR l (f + 1) p n = if n * 128 + d.toNat % 128 < 31 then (0, 4, p) else (n * 128 + d.toNat % 128, 0, p + 1) := by
  rw [numR, h]
  simp only
  rw [if_neg hc, if_pos hd]
theorem numQ_on {l : List UInt8} {f p n : Nat} {d : UInt8} (h : l[p]? = some d) (hc : ¬((f = 3 ∧ d.toNat = 128) ∨ f = 0)) (hd : ¬ d.toNat < 128) : numR l (f + 1) p n = numR l f (p + 1) (n * 128 + d.toNat % 128) := by
  rw [numR, h]
  simp only
  rw [if_neg hc, if_neg hd]
end Hd

/- Opening a tag and length over bytes, in plain terms. No program in sight. -/
namespace Hd
open Go Go.Mem
deriving instance DecidableEq for Tg
/-- A whole opened at a place: its bytes, the place behind, an error. -/
def opR (l : List UInt8) (k : Nat) (t : Tg) : List UInt8 × Nat × Nat :=
  if (rdHead l k).2.2.1 ≠ 0 then ([], k, (rdHead l k).2.2.1)
  else if (rdHead l k).1 ≠ t then ([], k, 4)
  else if l.length - (rdHead l k).2.2.2 < (rdHead l k).2.1 then ([], k, 3)
  else ((l.drop (rdHead l k).2.2.2).take (rdHead l k).2.1, (rdHead l k).2.2.2 + (rdHead l k).2.1, 0)
/-- A whole that fills the bytes. -/
def alR (l : List UInt8) (t : Tg) : List UInt8 × Nat :=
  if (opR l 0 t).2.2 ≠ 0 then ([], (opR l 0 t).2.2)
  else if (opR l 0 t).2.1 < l.length then ([], 7)
  else ((opR l 0 t).1, 0)
end Hd
namespace Hd
open Go Go.Mem
end Hd

/- What a writer of tags and lengths put out is what a reader takes in; a part of it is too short. No program in sight. -/
namespace Hd
open Go Go.Mem
theorem byteI_nat {i : Int} (h0 : 0 ≤ i) (h1 : i ≤ 255) : ((byteI i).toNat : Int) = i := by
  unfold byteI
  rw [UInt8.toNat_ofNat']
  omega
theorem rdLen_shift (a b : List UInt8) : rdLen (a ++ b) a.length = ((rdLen b 0).1, (rdLen b 0).2.1, a.length + (rdLen b 0).2.2) := by
  unfold rdLen
  rw [List.getElem?_append_right (Nat.le_refl _), Nat.sub_self]
  cases hx : b[0]? with
  | none => rfl
  | some x =>
    have hg : (a ++ b)[a.length + 1]? = b[0 + 1]? := by rw [List.getElem?_append_right (by omega)]; congr 1; omega
    have hd : (a ++ b).drop (a.length + 1) = b.drop (0 + 1) := by rw [List.drop_append]; simp
    have hl : (a ++ b).length - (a.length + 1) = b.length - (0 + 1) := by rw [List.length_append]; omega
    simp only [hg, hd, hl]
    repeat' split
    all_goals simp only [Nat.add_zero, Nat.zero_add, Prod.mk.injEq, true_and]
    all_goals omega
theorem rdLen_back (n : Nat) (hn : n ≤ 16777216) (r : List UInt8) : rdLen (lenL (n : Int) ++ r) 0 = (n, 0, (lenL (n : Int)).length) := by
  have b1 : ∀ i : Int, 0 ≤ i → i ≤ 255 → ((byteI i).toNat : Int) = i := fun i h0 h1 => byteI_nat h0 h1
  unfold lenL
  split
  · rename_i h
    have e1 := b1 (n : Int) (by omega) (by omega)
    simp only [rdLen, List.cons_append, List.nil_append, List.getElem?_cons_zero, List.length_cons, List.length_nil]
    rw [if_pos (by omega)]
    simp only [Prod.mk.injEq, and_self, and_true]
    omega
  · split
    · have e1 := b1 (n : Int) (by omega) (by omega)
      simp only [rdLen, List.cons_append, List.nil_append, List.getElem?_cons_zero, List.length_cons, List.length_nil, Nat.zero_add, List.getElem?_cons_succ, Option.getD_some, List.drop_succ_cons, List.drop_zero, foldR, UInt8.reduceToNat, Nat.reduceSub, List.take_succ_cons, List.take_zero, List.foldl_cons, List.foldl_nil]
      rw [if_neg (by omega), if_neg (by omega), if_neg (by omega), if_neg (by omega), if_neg (by omega)]
      simp only [Prod.mk.injEq, true_and, and_true]
      omega
    · split
      · have e1 := b1 ((n : Int) / 256) (by omega) (by omega)
        have e2 := b1 ((n : Int) % 256) (by omega) (by omega)
        simp only [rdLen, List.cons_append, List.nil_append, List.getElem?_cons_zero, List.length_cons, List.length_nil, Nat.zero_add, List.getElem?_cons_succ, Option.getD_some, List.drop_succ_cons, List.drop_zero, foldR, UInt8.reduceToNat, Nat.reduceSub, List.take_succ_cons, List.take_zero, List.foldl_cons, List.foldl_nil]
        rw [if_neg (by omega), if_neg (by omega), if_neg (by omega), if_neg (by omega), if_neg (by omega)]
        simp only [Prod.mk.injEq, true_and, and_true]
        omega
      · split
        · have e1 := b1 ((n : Int) / 65536) (by omega) (by omega)
          have e2 := b1 ((n : Int) / 256 % 256) (by omega) (by omega)
          have e3 := b1 ((n : Int) % 256) (by omega) (by omega)
          simp only [rdLen, List.cons_append, List.nil_append, List.getElem?_cons_zero, List.length_cons, List.length_nil, Nat.zero_add, List.getElem?_cons_succ, Option.getD_some, List.drop_succ_cons, List.drop_zero, foldR, UInt8.reduceToNat, Nat.reduceSub, List.take_succ_cons, List.take_zero, List.foldl_cons, List.foldl_nil]
          rw [if_neg (by omega), if_neg (by omega), if_neg (by omega), if_neg (by omega), if_neg (by omega)]
          simp only [Prod.mk.injEq, true_and, and_true]
          omega
        · obtain rfl : n = 16777216 := by omega
          simp only [rdLen, List.cons_append, List.nil_append, List.getElem?_cons_zero, List.length_cons, List.length_nil, Nat.zero_add, List.getElem?_cons_succ, Option.getD_some, List.drop_succ_cons, List.drop_zero, foldR, UInt8.reduceToNat, Nat.reduceSub, List.take_succ_cons, List.take_zero, List.foldl_cons, List.foldl_nil]
          rw [if_neg (by omega), if_neg (by omega), if_neg (by omega), if_neg (by decide), if_neg (by decide)]
          decide
theorem firstN_parts {c n : Int} {m : Bool} (j : Int) (j0 : 0 ≤ j) (j1 : j ≤ 31) (x : UInt8) (hx : (x.toNat : Int) = firstN ⟨c, n, m⟩ + j) :
    (x.toNat : Int) / 64 = c ∧ (x.toNat : Int) % 32 = j ∧ (x.toNat / 32 % 2 == 1) = m := by
  unfold firstN at hx
  cases m
  · simp only [Bool.false_eq_true, if_false] at hx
    refine ⟨by omega, by omega, ?_⟩
    have : x.toNat / 32 % 2 = 0 := by omega
    rw [this]; rfl
  · simp only [if_true] at hx
    refine ⟨by omega, by omega, ?_⟩
    have : x.toNat / 32 % 2 = 1 := by omega
    rw [this]; rfl
/-- The digits that a tag's first byte is followed by. -/
def tailL (n : Int) : List UInt8 := (if 16384 ≤ n then [byteI (128 + n / 16384)] else []) ++ (if 128 ≤ n then [byteI (128 + n / 128 % 128)] else []) ++ [byteI (n % 128)]
theorem tagL_high {c n : Int} {m : Bool} (h : ¬ n < 31) : tagL ⟨c, n, m⟩ = byteI (firstN ⟨c, n, m⟩ + 31) :: tailL n := by
  unfold tagL tailL
  rw [if_neg (by simpa using h)]
theorem numR_back (k : Nat) (h1 : 31 ≤ k) (h2 : k < 2097152) (x : UInt8) (r : List UInt8) : numR (x :: (tailL (k : Int) ++ r)) 4 1 0 = (k, 0, 1 + (tailL (k : Int)).length) := by
  have b1 : ∀ i : Int, 0 ≤ i → i ≤ 255 → ((byteI i).toNat : Int) = i := fun i h0 h1 => byteI_nat h0 h1
  have e1 := b1 ((k : Int) % 128) (by omega) (by omega)
  unfold tailL
  rcases (by omega : k < 128 ∨ (128 ≤ k ∧ k < 16384) ∨ 16384 ≤ k) with h | h | h
  · rw [if_neg (by omega), if_neg (by omega)]
    simp only [List.nil_append, List.cons_append, List.length_cons, List.length_nil]
    rw [numQ_end (d := byteI ((k : Int) % 128)) rfl (by omega) (by omega), if_neg (by omega)]
    simp only [Prod.mk.injEq, true_and, and_true]
    omega
  · have e2 := b1 (128 + (k : Int) / 128 % 128) (by omega) (by omega)
    rw [if_neg (by omega), if_pos (by omega)]
    simp only [List.nil_append, List.cons_append, List.length_cons, List.length_nil]
    rw [numQ_on (d := byteI (128 + (k : Int) / 128 % 128)) rfl (by omega) (by omega), numQ_end (d := byteI ((k : Int) % 128)) rfl (by omega) (by omega), if_neg (by omega)]
    simp only [Prod.mk.injEq, true_and, and_true]
    omega
  · have e2 := b1 (128 + (k : Int) / 128 % 128) (by omega) (by omega)
    have e3 := b1 (128 + (k : Int) / 16384) (by omega) (by omega)
    rw [if_pos (by omega), if_pos (by omega)]
    simp only [List.nil_append, List.cons_append, List.length_cons, List.length_nil]
    rw [numQ_on (d := byteI (128 + (k : Int) / 16384)) rfl (by omega) (by omega), numQ_on (d := byteI (128 + (k : Int) / 128 % 128)) rfl (by omega) (by omega), numQ_end (d := byteI ((k : Int) % 128)) rfl (by omega) (by omega), if_neg (by omega)]
    simp only [Prod.mk.injEq, true_and, and_true]
    omega
theorem rdTag_back (c n : Int) (m : Bool) (h : okTag ⟨c, n, m⟩ = true) (r : List UInt8) : rdTag (tagL ⟨c, n, m⟩ ++ r) 0 = (⟨c, n, m⟩, 0, (tagL ⟨c, n, m⟩).length) := by
  obtain ⟨h0, h1, h2, h3⟩ := okTag_iff.1 h
  simp only at h0 h1 h2 h3
  have hf := firstN_ok (n := n) (m := m) h0 h1
  by_cases hn : n < 31
  · have e1 := byteI_nat (i := firstN ⟨c, n, m⟩ + n) (by omega) (by omega)
    obtain ⟨p1, p2, p3⟩ := firstN_parts n h2 (by omega) _ e1
    unfold tagL
    rw [if_pos hn]
    simp only [rdTag, List.cons_append, List.nil_append, List.getElem?_cons_zero, List.length_cons, List.length_nil]
    rw [if_pos (by omega), p1, p2, p3]
  · have e1 := byteI_nat (i := firstN ⟨c, n, m⟩ + 31) (by omega) (by omega)
    obtain ⟨p1, p2, p3⟩ := firstN_parts 31 (by omega) (by omega) _ e1
    rw [tagL_high hn]
    obtain ⟨k, rfl⟩ := Int.eq_ofNat_of_zero_le h2
    have hN := numR_back k (by omega) (by omega) (byteI (firstN ⟨c, (k : Int), m⟩ + 31)) r
    simp only [rdTag, List.cons_append, List.getElem?_cons_zero, List.length_cons, Nat.zero_add]
    rw [if_neg (by omega), hN, p1, p3]
    simp only [if_true, Prod.mk.injEq, true_and]
    omega
/-- A whole over content. -/
def wholeL (t : Tg) (l : List UInt8) : List UInt8 := tagL t ++ lenL (l.length : Nat) ++ l
theorem head_back {c n : Int} {m : Bool} (h : okTag ⟨c, n, m⟩ = true) (z : Nat) (hz : z ≤ 16777216) (r : List UInt8) :
    rdHead (tagL ⟨c, n, m⟩ ++ (lenL (z : Int) ++ r)) 0 = (⟨c, n, m⟩, z, 0, (tagL ⟨c, n, m⟩).length + (lenL (z : Int)).length) := by
  unfold rdHead
  rw [rdTag_back c n m h]
  simp only [if_true]
  rw [rdLen_shift, rdLen_back z hz]
  simp only [if_true]
end Hd

set_option linter.unusedSimpArgs false
set_option linter.unusedVariables false
set_option maxRecDepth 100000
namespace Go.Proofs.YtogliinfdfkobaaDoor
open Go.RowKit Go.Mem Go.Reg Oct Bit Hd Go.Txt Go.Shelf Go.LawLift
theorem wrapR_kind (n : Int) (h0 : 0 ≤ n) (h1 : n < 31) (D : List UInt8) (hD : D.length ≤ 1000) : wrapR ⟨0, n, false⟩ [D] = (wholeL ⟨0, n, false⟩ D, 0) := by
  unfold wrapR wholeL
  rw [if_pos (okTag_iff.2 ⟨by show (0 : Int) ≤ 0; decide, by show (0 : Int) ≤ 3; decide, h0, by show n < 2097152; omega⟩)]
  simp only [List.flatten_cons, List.flatten_nil, List.append_nil]
  rw [if_neg (by omega)]
theorem kind_range {k : Int} (h : knownK k = true) : 0 ≤ k ∧ k < 31 := by
  rcases known_yes h with rfl | rfl | rfl | rfl | rfl | rfl <;> decide
theorem kind_ok {k : Int} (h : knownK k = true) : okTag ⟨0, k, false⟩ = true := by
  have := kind_range h
  exact okTag_iff.2 ⟨by show (0 : Int) ≤ 0; decide, by show (0 : Int) ≤ 3; decide, this.1, by show k < 2097152; omega⟩
def wrL (k : Int) (l : List UInt8) : List UInt8 := if rightT k l then wholeL ⟨0, k, false⟩ l else []
theorem wr_no {k : Int} {l : List UInt8} (h : rightT k l = false) : wrL k l = [] ∧ erOf k l = 6 := by
  unfold wrL
  rw [h]
  exact ⟨rfl, (sgOf_no h).2.1⟩
theorem wr_yes {k : Int} {l : List UInt8} (h : rightT k l = true) : wrL k l = wholeL ⟨0, k, false⟩ l ∧ erOf k l = 0 := by
  unfold wrL
  rw [h]
  exact ⟨rfl, (sgOf_yes h).2.1⟩
set_option maxHeartbeats 1000000 in
theorem twrite_any (k : Int) (l : List UInt8) (v : Value) (hl : l.length ≤ 500) (w : World) (hT : Tabs w) (hb : Bs w v l) :
    Calls Tryd.prog 25 #[.agg #[.int .i64 k, v]] w (OutB w (wrL k l) (erOf k l)) := by
  have hR := fun w hT hb => tright_any k l v (by omega) w hT hb
  obtain ⟨A, c, rfl, hlc, hcm, hA, -⟩ := id hb.open
  have H := Hp.start w
  have C : True := trivial
  cases hr : rightT k l with
  | false =>
    have h := wr_no hr
    rw [hr] at hR
    rw [h.1, h.2]
    clear hr h
    go_enter Tryd.func25, Tryd.ntmps25
    (repeat' ((fail_if_success (with_reducible show bodyPost _ _ _ _ _ _)); first | ((with_reducible refine Hp.abs_alloc H ?_); intro b' w' H' hb'; (try simp only [hb']); clear hb'; ((try simp only [List.set_cons_zero, List.set_cons_succ, List.setIfInBounds_toArray] at H'); clear C H; have H := H'; clear H'; have C := Hp.facts H; simp only [Facts, factsL, and_true, true_and, List.set_cons_zero, List.set_cons_succ, List.setIfInBounds_toArray] at C)) | ((with_reducible show wpList _ _ _ _ _ (World.setCell _ _ _)); (with_reducible apply Hp.abs_gen H); (first | ((repeat (with_reducible apply Hp.set' 0)); (with_reducible exact H); (repeat rfl); intro w' H') | ((repeat (with_reducible apply Hp.set' 1)); (with_reducible exact H); (repeat rfl); intro w' H') | ((repeat (with_reducible apply Hp.set' 2)); (with_reducible exact H); (repeat rfl); intro w' H') | ((repeat (with_reducible apply Hp.set' 3)); (with_reducible exact H); (repeat rfl); intro w' H') | ((repeat (with_reducible apply Hp.set' 4)); (with_reducible exact H); (repeat rfl); intro w' H') | ((repeat (with_reducible apply Hp.set' 5)); (with_reducible exact H); (repeat rfl); intro w' H') | ((repeat (with_reducible apply Hp.set' 6)); (with_reducible exact H); (repeat rfl); intro w' H') | ((repeat (with_reducible apply Hp.set' 7)); (with_reducible exact H); (repeat rfl); intro w' H')); ((try simp only [List.set_cons_zero, List.set_cons_succ, List.setIfInBounds_toArray] at H'); clear C H; have H := H'; clear H'; have C := Hp.facts H; simp only [Facts, factsL, and_true, true_and, List.set_cons_zero, List.set_cons_succ, List.setIfInBounds_toArray] at C)) | (go_at_call 16; refine (hR _ (hT.below H.low) (H.bs hb)).mono ?_; rintro e' w' ⟨rfl, hb'⟩; (have H' := Hp.step H hb'; clear hb'; ((try simp only [List.set_cons_zero, List.set_cons_succ, List.setIfInBounds_toArray] at H'); clear C H; have H := H'; clear H'; have C := Hp.facts H; simp only [Facts, factsL, and_true, true_and, List.set_cons_zero, List.set_cons_succ, List.setIfInBounds_toArray] at C))) | go_values | go_skip | go_guarded | go_step | go_upon | go_back | (simp only [Int.not_lt, Int.not_le] at *; go_simp) | (go_values <;> (try go_simp)) | (go_ite <;> go_prune <;> (try go_simp)) | (split <;> (first | (rename_i hx; exact (hx _ rfl).elim) | go_prune))))
    go_ret2
    exact OutB.none rfl H.low
  | true =>
    have h := wr_yes hr
    have hk := right_known hr
    have hkr := kind_range hk
    rw [hr] at hR
    rw [h.1, h.2]
    have hW := fun v w hb => wrap_any 0 k false [l] v w hb (by simp) (by intro x hx; simp only [List.mem_singleton] at hx; subst hx; omega)
    rw [wrapR_kind k hkr.1 hkr.2 l (by omega)] at hW
    generalize wholeL ⟨0, k, false⟩ l = W at *
    have hof : ∀ w, Calls Tryd.prog 44 #[.int .i64 k] w fun e w' => e = .returned (.agg #[.int .i64 0, .int .i64 k, .bool false]) ∧ Below w.heap.size w w' := fun w => by
      have := hof_any k w
      rwa [show (k == 16 || k == 17) = false by rcases known_yes hk with rfl | rfl | rfl | rfl | rfl | rfl <;> decide] at this
    clear hr h hk
    go_enter Tryd.func25, Tryd.ntmps25
    (repeat' ((fail_if_success (with_reducible show bodyPost _ _ _ _ _ _)); first | ((with_reducible refine Hp.abs_alloc H ?_); intro b' w' H' hb'; (try simp only [hb']); clear hb'; ((try simp only [List.set_cons_zero, List.set_cons_succ, List.setIfInBounds_toArray] at H'); clear C H; have H := H'; clear H'; have C := Hp.facts H; simp only [Facts, factsL, and_true, true_and, List.set_cons_zero, List.set_cons_succ, List.setIfInBounds_toArray] at C)) | ((with_reducible show wpList _ _ _ _ _ (World.setCell _ _ _)); (with_reducible apply Hp.abs_gen H); (first | ((repeat (with_reducible apply Hp.set' 0)); (with_reducible exact H); (repeat rfl); intro w' H') | ((repeat (with_reducible apply Hp.set' 1)); (with_reducible exact H); (repeat rfl); intro w' H') | ((repeat (with_reducible apply Hp.set' 2)); (with_reducible exact H); (repeat rfl); intro w' H') | ((repeat (with_reducible apply Hp.set' 3)); (with_reducible exact H); (repeat rfl); intro w' H') | ((repeat (with_reducible apply Hp.set' 4)); (with_reducible exact H); (repeat rfl); intro w' H') | ((repeat (with_reducible apply Hp.set' 5)); (with_reducible exact H); (repeat rfl); intro w' H') | ((repeat (with_reducible apply Hp.set' 6)); (with_reducible exact H); (repeat rfl); intro w' H') | ((repeat (with_reducible apply Hp.set' 7)); (with_reducible exact H); (repeat rfl); intro w' H')); ((try simp only [List.set_cons_zero, List.set_cons_succ, List.setIfInBounds_toArray] at H'); clear C H; have H := H'; clear H'; have C := Hp.facts H; simp only [Facts, factsL, and_true, true_and, List.set_cons_zero, List.set_cons_succ, List.setIfInBounds_toArray] at C)) | (go_at_call 16; refine (hR _ (hT.below H.low) (H.bs hb)).mono ?_; rintro e' w' ⟨rfl, hb'⟩; (have H' := Hp.step H hb'; clear hb'; ((try simp only [List.set_cons_zero, List.set_cons_succ, List.setIfInBounds_toArray] at H'); clear C H; have H := H'; clear H'; have C := Hp.facts H; simp only [Facts, factsL, and_true, true_and, List.set_cons_zero, List.set_cons_succ, List.setIfInBounds_toArray] at C))) | go_values | go_skip | go_guarded | go_step | go_upon | go_back | (simp only [Int.not_lt, Int.not_le] at *; go_simp) | (go_values <;> (try go_simp)) | (go_ite <;> go_prune <;> (try go_simp)) | (split <;> (first | (rename_i hx; exact (hx _ rfl).elim) | go_prune))))
    try simp (disch := omega) only [decide_eq_true, decide_eq_false]
    obtain ⟨wR3, rfl⟩ := Hp.nameW H
    apply region_n (frm wR3.heap.size (fun _ => Hp _ _)) (frm_ok ?hfs_1) frm_sz [] [.light 0 0, .light 0 0, .light 0 0, .light 0 0, .light 0 0, .light 0 0, .light 0 0, .light 0 0, .light 0 0] [false, false, false, false, false, true, false, false, false] 9 16 [9, 9, 9, 9, 9, 9, 9, 9, 9] [some 7, some 8, some 9, some 10, some 11, some 12, some 13, some 14, some 15] [[], [0], [1], [], [3], [4], [2, 5], [6], [6]] [Eq1 _, Eq1 _, Eq1 _, Eq1 _, Eq1 _, NewSl wR3.heap.size _ _ _, (fun v w2 => ∃ u, v = .tuple #[u, .int .i64 0] ∧ RowJ wR3.heap.size 5 W.length (W.map u8c) u w2), (RowJ wR3.heap.size 5 W.length (W.map u8c)), Eq1 (.int .i64 0)] ?hq1_1 ?hq2_1 ?hq3_1 ?hq4_1 ?hq5_1 ?hq6_1 _ ?hA_1 ?hst_1 ?h0_1 ?hsteps_1 ?hend_1
    case hq1_1 => kernel_rfl
    case hq2_1 => kernel_rfl
    case hq3_1 => kernel_rfl
    case hq5_1 => kernel_rfl
    case hq4_1 => rfl
    case hq6_1 => rfl
    case hA_1 => intro vs; simp only [fillD, Nat.reduceAdd, Act.put, List.setIfInBounds_toArray, List.set_cons_zero, List.set_cons_succ]; rfl
    case h0_1 => exact H.drew
    case hfs_1 => exact fun _ _ _ hb h => Hp.step h hb
    case hsteps_1 =>
      refine ⟨?_, ?_, ?_, ?_, ?_, ?_, ?_, ?_, ?_, trivial⟩
      · intro p vs w' K hJ hp1 hp2 hS hR hK
        rw [if_pos (by rfl)]
        go_step
        exact hK.out _ _ (Below.refl _ _) Eq1.mk Fresh.no
      · intro p vs w' K hJ hp1 hp2 hS hR hK
        simp only [DepJ, List.getD_cons_zero, List.getD_cons_succ] at hJ
        obtain ⟨j0, -⟩ := hJ
        have j0 := Eq1.out j0
        simp only [j0] at hK ⊢
        rw [if_pos (by rfl)]
        have C := Hp.facts hS
        simp only [Facts, factsL, and_true, true_and, List.set_cons_zero, List.set_cons_succ, List.setIfInBounds_toArray] at C
        have hsz := hR.1
        go_step
        exact hK.out _ _ (Below.refl _ _) Eq1.mk Fresh.no
      · intro p vs w' K hJ hp1 hp2 hS hR hK
        simp only [DepJ, List.getD_cons_zero, List.getD_cons_succ] at hJ
        obtain ⟨j1, -⟩ := hJ
        have j1 := Eq1.out j1
        simp only [j1] at hK ⊢
        rw [if_pos (by rfl)]
        have C := Hp.facts hS
        simp only [Facts, factsL, and_true, true_and, List.set_cons_zero, List.set_cons_succ, List.setIfInBounds_toArray] at C
        have hsz := hR.1
        go_step
        refine (hof _).mono ?_
        rintro e' w'' ⟨rfl, hb⟩
        exact hK.out _ _ hb Eq1.mk Fresh.no
      · intro p vs w' K hJ hp1 hp2 hS hR hK
        rw [if_pos (by rfl)]
        go_step
        exact hK.out _ _ (Below.refl _ _) Eq1.mk Fresh.no
      · intro p vs w' K hJ hp1 hp2 hS hR hK
        simp only [DepJ, List.getD_cons_zero, List.getD_cons_succ] at hJ
        obtain ⟨j3, -⟩ := hJ
        have j3 := Eq1.out j3
        simp only [j3] at hK ⊢
        rw [if_pos (by rfl)]
        have C := Hp.facts hS
        simp only [Facts, factsL, and_true, true_and, List.set_cons_zero, List.set_cons_succ, List.setIfInBounds_toArray] at C
        have hsz := hR.1
        go_step
        exact hK.out _ _ (Below.refl _ _) Eq1.mk Fresh.no
      · intro p vs w' K hJ hp1 hp2 hS hR hK
        simp only [DepJ, List.getD_cons_zero, List.getD_cons_succ] at hJ
        obtain ⟨j4, -⟩ := hJ
        have j4 := Eq1.out j4
        simp only [j4] at hK ⊢
        rw [if_pos (by rfl)]
        go_step
        exact hK.out _ _ ((Below.refl _ _).alloc (Nat.le_refl _) _) (NewSl.mk _ _ _ _ _ hR.1) Fresh.sl
      · intro p vs w' K hJ hp1 hp2 hS hR hK
        simp only [DepJ, List.getD_cons_zero, List.getD_cons_succ] at hJ
        obtain ⟨j2, j5, -⟩ := hJ
        have j2 := Eq1.out j2
        obtain ⟨k5, j5, hB5, hh5⟩ := j5
        simp only [j2, j5] at hK ⊢
        rw [if_pos (by rfl)]
        replace hS : Hp _ _ _ := hS
        have hbss : Bss w' (.slice (some ⟨k5, 0, none⟩) 1 1) [l] := ⟨[.slice A l.length c], sl_cells hh5 rfl rfl (by decide), .cons (Hp.bs hS hb) .nil⟩
        go_step
        refine (hW _ _ hbss).mono ?_
        rintro e' w'' ⟨⟨v', rfl, ho⟩, hb⟩
        exact hK.out _ _ hb ⟨_, rfl, RowJ.mk hR.1 ho⟩ Fresh.no
      · intro p vs w' K hJ hp1 hp2 hS hR hK
        simp only [DepJ, List.getD_cons_zero, List.getD_cons_succ] at hJ
        obtain ⟨j6, -⟩ := hJ
        obtain ⟨u6, j6, ho6⟩ := j6
        simp only [j6] at hK ⊢
        rw [if_pos (by rfl)]
        go_step
        exact hK.out _ _ (Below.refl _ _) ho6 Fresh.no
      · intro p vs w' K hJ hp1 hp2 hS hR hK
        simp only [DepJ, List.getD_cons_zero, List.getD_cons_succ] at hJ
        obtain ⟨j6, -⟩ := hJ
        obtain ⟨u6, j6, ho6⟩ := j6
        simp only [j6] at hK ⊢
        rw [if_pos (by rfl)]
        go_step
        exact hK.out _ _ (Below.refl _ _) (Eq1.of (rfl)) Fresh.no
    case hst_1 => refine ⟨fun _ _ _ _ h => h, fun _ _ _ _ h => h, fun _ _ _ _ h => h, fun _ _ _ _ h => h, fun _ _ _ _ h => h, fun _ _ _ hs h => NewSl.stayR hs h, fun _ _ _ hs ⟨u, e, h⟩ => ⟨u, e, RowJ.stay hs h⟩, fun _ _ _ hs h => RowJ.stay hs h, fun _ _ _ _ h => h, trivial⟩
    intro vs w' hJ hD hS hR
    simp only [AllJ, Nat.reduceAdd] at hJ
    obtain ⟨v0, v1, v2, v3, v4, v5, v6, v7, v8, -⟩ := hJ
    clear C
    replace v0 := Eq1.out v0
    replace v1 := Eq1.out v1
    replace v2 := Eq1.out v2
    replace v3 := Eq1.out v3
    replace v4 := Eq1.out v4
    replace v8 := Eq1.out v8
    obtain ⟨k5, e5, hB5, hh5⟩ := v5
    obtain ⟨u6, e6, -⟩ := v6
    have vo7 := (show World.ownsRow _ _ _ _ _ _ _ from v7)
    obtain ⟨A7, c7, e7⟩ := Go.LawLift.own_form vo7
    rw [e7] at vo7
    simp only [v0, v1, v2, v3, v4, v8, e5, e6, e7, List.drop_succ_cons, List.drop_zero]
    replace hS : Hp _ _ _ := hS
    have H' := Hp.adopts hS H.low.size (fun k hk => Hp.lows H k hk) [.row _ 1 (.slice A7 _ c7) _ _, .blk k5 _ _] (by intro x hx; simp only [List.mem_cons, List.not_mem_nil, or_false] at hx; rcases hx with rfl | rfl; exact vo7; exact ⟨hh5, hB5⟩) (nodup2 (fun k h1 h2 => row_blk_apart vo7 hh5 (by decide) k h1 h2))
    simp only [List.cons_append, List.nil_append] at H'
    clear hD hR hS v0 v1 v2 v3 v4 v8
    clear e5 hB5 hh5
    clear e6
    clear vo7 e7 v7
    clear vs H
    have H := H'; clear H'; have C := Hp.facts H; simp only [Facts, factsL, and_true, true_and, List.set_cons_zero, List.set_cons_succ, List.setIfInBounds_toArray] at C
    (repeat' ((fail_if_success (with_reducible show bodyPost _ _ _ _ _ _)); first | ((with_reducible refine Hp.abs_alloc H ?_); intro b' w' H' hb'; (try simp only [hb']); clear hb'; ((try simp only [List.set_cons_zero, List.set_cons_succ, List.setIfInBounds_toArray] at H'); clear C H; have H := H'; clear H'; have C := Hp.facts H; simp only [Facts, factsL, and_true, true_and, List.set_cons_zero, List.set_cons_succ, List.setIfInBounds_toArray] at C)) | ((with_reducible show wpList _ _ _ _ _ (World.setCell _ _ _)); (with_reducible apply Hp.abs_gen H); (first | ((repeat (with_reducible apply Hp.set' 0)); (with_reducible exact H); (repeat rfl); intro w' H') | ((repeat (with_reducible apply Hp.set' 1)); (with_reducible exact H); (repeat rfl); intro w' H') | ((repeat (with_reducible apply Hp.set' 2)); (with_reducible exact H); (repeat rfl); intro w' H') | ((repeat (with_reducible apply Hp.set' 3)); (with_reducible exact H); (repeat rfl); intro w' H') | ((repeat (with_reducible apply Hp.set' 4)); (with_reducible exact H); (repeat rfl); intro w' H') | ((repeat (with_reducible apply Hp.set' 5)); (with_reducible exact H); (repeat rfl); intro w' H') | ((repeat (with_reducible apply Hp.set' 6)); (with_reducible exact H); (repeat rfl); intro w' H') | ((repeat (with_reducible apply Hp.set' 7)); (with_reducible exact H); (repeat rfl); intro w' H')); ((try simp only [List.set_cons_zero, List.set_cons_succ, List.setIfInBounds_toArray] at H'); clear C H; have H := H'; clear H'; have C := Hp.facts H; simp only [Facts, factsL, and_true, true_and, List.set_cons_zero, List.set_cons_succ, List.setIfInBounds_toArray] at C)) | go_values | go_skip | go_guarded | go_step | go_upon | go_back | (simp only [Int.not_lt, Int.not_le] at *; go_simp) | (go_values <;> (try go_simp)) | (go_ite <;> go_prune <;> (try go_simp)) | (split <;> (first | (rename_i hx; exact (hx _ rfl).elim) | go_prune))))
    go_ret2
    exact OutB.of H 0 rfl rfl rfl rfl
end Go.Proofs.YtogliinfdfkobaaDoor

