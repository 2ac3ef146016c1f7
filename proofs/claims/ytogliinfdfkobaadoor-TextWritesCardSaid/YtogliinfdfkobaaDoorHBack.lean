/- Lemmas and walks on the way to the seat's laws; each theorem says its own conditions. -/
import Derived.Test.YtogliinfdfkobaaDoorH15
import Derived.Test.YtogliinfdfkobaaDoorHPlain
set_option linter.unusedSimpArgs false
set_option linter.unusedVariables false
set_option linter.unusedSimpArgs false
set_option linter.unusedVariables false
set_option maxRecDepth 100000
namespace Go.Proofs.YtogliinfdfkobaaDoor
open Go.RowKit Go.Mem Go.Reg Hd Go.LawLift Oct
theorem wrap_any (c n : Int) (m : Bool) (ls : List (List UInt8)) (v : Value) (w : World) (hb : Bss w v ls) (hl : ls.length ≤ 10000) (hls : ∀ l ∈ ls, l.length ≤ 67108864) :
    Calls Tryd.prog 43 #[.agg #[.int .i64 c, .int .i64 n, .bool m], v] w (OwnOut w (wrapR ⟨c, n, m⟩ ls).1 (wrapR ⟨c, n, m⟩ ls).2) := by
  cases h : okTag ⟨c, n, m⟩ with
  | false =>
    obtain ⟨A, cc, rfl, -⟩ := hb.open
    rw [show wrapR ⟨c, n, m⟩ ls = ([], 1) by unfold wrapR; rw [h]; rfl]
    exact wrap_no c n m A _ cc h w
  | true =>
    obtain ⟨-, -, h0, -⟩ := okTag_iff.1 h
    obtain ⟨k, rfl⟩ := Int.eq_ofNat_of_zero_le (show 0 ≤ n from h0)
    exact wrap_yes c k m ls v w hb hl hls h
/-- The bytes of a tag, or an error. -/
def tagR (t : Tg) : List UInt8 × Nat := if okTag t then (tagL t, 0) else ([], 1)
def lenR (n : Int) : List UInt8 × Nat := if n < 0 then ([], 1) else if 16777216 < n then ([], 2) else (lenL n, 0)
end Go.Proofs.YtogliinfdfkobaaDoor

set_option linter.unusedSimpArgs false
set_option linter.unusedVariables false
set_option maxRecDepth 100000
namespace Go.Proofs.YtogliinfdfkobaaDoor
open Go.RowKit Go.Mem Go.Reg Hd Go.LawLift Oct
theorem rbytes_one (c n : Int) (m : Bool) (h : okTag ⟨c, n, m⟩ = true) (w : World) : Calls Tryd.prog 45 #[.agg #[.int .i64 c, .int .i64 n, .bool m]] w (OwnOne w (tagL ⟨c, n, m⟩)) := by
  obtain ⟨-, -, h0, -⟩ := okTag_iff.1 h
  obtain ⟨k, rfl⟩ := Int.eq_ofNat_of_zero_le (show 0 ≤ n from h0)
  exact rbytes_any c k m h w
end Go.Proofs.YtogliinfdfkobaaDoor

set_option linter.unusedSimpArgs false
set_option linter.unusedVariables false
set_option maxRecDepth 100000
namespace Go.Proofs.YtogliinfdfkobaaDoor
open Go.RowKit Go.Mem Go.Reg Hd Go.LawLift Oct
/-- How long a whole is: nothing where the tag or the length is none. -/
def sizeR (t : Tg) (n : Int) : Int := if (tagR t).2 ≠ 0 ∨ (lenR n).2 ≠ 0 then 0 else ((tagR t).1.length : Int) + (lenR n).1.length + n
set_option maxHeartbeats 1600000 in
theorem rwrap_any (c n : Int) (m : Bool) (h : okTag ⟨c, n, m⟩ = true) (l : List UInt8) (v : Value) (w : World) (hb : Bs w v l) (hl : l.length ≤ 100000) :
    Calls Tryd.prog 26 #[.agg #[.int .i64 c, .int .i64 n, .bool m], v] w (OwnOne w (tagL ⟨c, n, m⟩ ++ lenL (l.length : Nat) ++ l)) := by
  obtain ⟨i0, hi, hz0, hz1, hz2⟩ := info_parts info_u8
  obtain ⟨A, ca, rfl, hlc, hcm, hA, -⟩ := hb.open
  have hT := rbytes_one c n m h
  have hL := rlen_any l.length (by omega)
  have bT := tagL_len ⟨c, n, m⟩
  have bL := lenL_len (l.length : Nat)
  generalize tagL ⟨c, n, m⟩ = T at *
  generalize lenL (l.length : Nat) = D at *
  have H := Hp.start w
  have C : True := trivial
  go_enter Tryd.func26, Tryd.ntmps26
  (repeat' ((fail_if_success (with_reducible show bodyPost _ _ _ _ _ _)); first | ((with_reducible refine Hp.abs_alloc H ?_); intro b' w' H' hb'; (try simp only [hb']); clear hb'; ((try simp only [List.set_cons_zero, List.set_cons_succ, List.setIfInBounds_toArray] at H'); clear C H; have H := H'; clear H'; have C := Hp.facts H; simp only [Facts, factsL, and_true, true_and, List.set_cons_zero, List.set_cons_succ, List.setIfInBounds_toArray] at C)) | ((with_reducible show wpList _ _ _ _ _ (World.setCell _ _ _)); (with_reducible apply Hp.abs_gen H); (first | ((repeat (with_reducible apply Hp.set' 0)); (with_reducible exact H); (repeat rfl); intro w' H') | ((repeat (with_reducible apply Hp.set' 1)); (with_reducible exact H); (repeat rfl); intro w' H') | ((repeat (with_reducible apply Hp.set' 2)); (with_reducible exact H); (repeat rfl); intro w' H') | ((repeat (with_reducible apply Hp.set' 3)); (with_reducible exact H); (repeat rfl); intro w' H') | ((repeat (with_reducible apply Hp.set' 4)); (with_reducible exact H); (repeat rfl); intro w' H') | ((repeat (with_reducible apply Hp.set' 5)); (with_reducible exact H); (repeat rfl); intro w' H') | ((repeat (with_reducible apply Hp.set' 6)); (with_reducible exact H); (repeat rfl); intro w' H') | ((repeat (with_reducible apply Hp.set' 7)); (with_reducible exact H); (repeat rfl); intro w' H')); ((try simp only [List.set_cons_zero, List.set_cons_succ, List.setIfInBounds_toArray] at H'); clear C H; have H := H'; clear H'; have C := Hp.facts H; simp only [Facts, factsL, and_true, true_and, List.set_cons_zero, List.set_cons_succ, List.setIfInBounds_toArray] at C)) | go_values | go_skip | go_guarded | go_step | go_upon | go_back | (simp only [Int.not_lt, Int.not_le] at *; go_simp) | (go_values <;> (try go_simp)) | (go_ite <;> go_prune <;> (try go_simp)) | (split <;> (first | (rename_i hx; exact (hx _ rfl).elim) | go_prune))))
  refine (hT _).mono ?_
  (rintro e' w' ⟨⟨v', rfl, ho⟩, hb'⟩; have H' := Hp.rowOf H hb' ho; obtain ⟨A1, c1, rfl⟩ := Go.LawLift.own_form ho; clear ho hb'; ((try simp only [List.set_cons_zero, List.set_cons_succ, List.setIfInBounds_toArray] at H'); clear C H; have H := H'; clear H'; have C := Hp.facts H; simp only [Facts, factsL, and_true, true_and, List.set_cons_zero, List.set_cons_succ, List.setIfInBounds_toArray] at C))
  (repeat' ((fail_if_success (with_reducible show bodyPost _ _ _ _ _ _)); first | ((with_reducible refine Hp.abs_alloc H ?_); intro b' w' H' hb'; (try simp only [hb']); clear hb'; ((try simp only [List.set_cons_zero, List.set_cons_succ, List.setIfInBounds_toArray] at H'); clear C H; have H := H'; clear H'; have C := Hp.facts H; simp only [Facts, factsL, and_true, true_and, List.set_cons_zero, List.set_cons_succ, List.setIfInBounds_toArray] at C)) | ((with_reducible show wpList _ _ _ _ _ (World.setCell _ _ _)); (with_reducible apply Hp.abs_gen H); (first | ((repeat (with_reducible apply Hp.set' 0)); (with_reducible exact H); (repeat rfl); intro w' H') | ((repeat (with_reducible apply Hp.set' 1)); (with_reducible exact H); (repeat rfl); intro w' H') | ((repeat (with_reducible apply Hp.set' 2)); (with_reducible exact H); (repeat rfl); intro w' H') | ((repeat (with_reducible apply Hp.set' 3)); (with_reducible exact H); (repeat rfl); intro w' H') | ((repeat (with_reducible apply Hp.set' 4)); (with_reducible exact H); (repeat rfl); intro w' H') | ((repeat (with_reducible apply Hp.set' 5)); (with_reducible exact H); (repeat rfl); intro w' H') | ((repeat (with_reducible apply Hp.set' 6)); (with_reducible exact H); (repeat rfl); intro w' H') | ((repeat (with_reducible apply Hp.set' 7)); (with_reducible exact H); (repeat rfl); intro w' H')); ((try simp only [List.set_cons_zero, List.set_cons_succ, List.setIfInBounds_toArray] at H'); clear C H; have H := H'; clear H'; have C := Hp.facts H; simp only [Facts, factsL, and_true, true_and, List.set_cons_zero, List.set_cons_succ, List.setIfInBounds_toArray] at C)) | go_values | go_skip | go_guarded | go_step | go_upon | go_back | (simp only [Int.not_lt, Int.not_le] at *; go_simp) | (go_values <;> (try go_simp)) | (go_ite <;> go_prune <;> (try go_simp)) | (split <;> (first | (rename_i hx; exact (hx _ rfl).elim) | go_prune))))
  refine (hL _).mono ?_
  (rintro e' w' ⟨⟨v', rfl, ho⟩, hb'⟩; have H' := Hp.rowOf H hb' ho; obtain ⟨A2, c2, rfl⟩ := Go.LawLift.own_form ho; clear ho hb'; ((try simp only [List.set_cons_zero, List.set_cons_succ, List.setIfInBounds_toArray] at H'); clear C H; have H := H'; clear H'; have C := Hp.facts H; simp only [Facts, factsL, and_true, true_and, List.set_cons_zero, List.set_cons_succ, List.setIfInBounds_toArray] at C))
  (repeat' ((fail_if_success (with_reducible show bodyPost _ _ _ _ _ _)); first | ((with_reducible refine Hp.abs_alloc H ?_); intro b' w' H' hb'; (try simp only [hb']); clear hb'; ((try simp only [List.set_cons_zero, List.set_cons_succ, List.setIfInBounds_toArray] at H'); clear C H; have H := H'; clear H'; have C := Hp.facts H; simp only [Facts, factsL, and_true, true_and, List.set_cons_zero, List.set_cons_succ, List.setIfInBounds_toArray] at C)) | ((with_reducible show wpList _ _ _ _ _ (World.setCell _ _ _)); (with_reducible apply Hp.abs_gen H); (first | ((repeat (with_reducible apply Hp.set' 0)); (with_reducible exact H); (repeat rfl); intro w' H') | ((repeat (with_reducible apply Hp.set' 1)); (with_reducible exact H); (repeat rfl); intro w' H') | ((repeat (with_reducible apply Hp.set' 2)); (with_reducible exact H); (repeat rfl); intro w' H') | ((repeat (with_reducible apply Hp.set' 3)); (with_reducible exact H); (repeat rfl); intro w' H') | ((repeat (with_reducible apply Hp.set' 4)); (with_reducible exact H); (repeat rfl); intro w' H') | ((repeat (with_reducible apply Hp.set' 5)); (with_reducible exact H); (repeat rfl); intro w' H') | ((repeat (with_reducible apply Hp.set' 6)); (with_reducible exact H); (repeat rfl); intro w' H') | ((repeat (with_reducible apply Hp.set' 7)); (with_reducible exact H); (repeat rfl); intro w' H')); ((try simp only [List.set_cons_zero, List.set_cons_succ, List.setIfInBounds_toArray] at H'); clear C H; have H := H'; clear H'; have C := Hp.facts H; simp only [Facts, factsL, and_true, true_and, List.set_cons_zero, List.set_cons_succ, List.setIfInBounds_toArray] at C)) | (at_builtin; (refine wpList_append_hp H 1 rfl _ _ _ rfl Tryd.underlying22 hi hz0 hz1 hz2 rfl (by decide) rfl rfl rfl (news := (D).map u8c) (Hp.rowSrc H 0 rfl).2.1 (Hp.rowSrc H 0 rfl).1 (Hp.rowSrc H 0 rfl).2.2 (u8c_one _) (by unfold maxLen; omega) (by omega) ?_); intro v' w' H'; ((try simp only [List.set_cons_zero, List.set_cons_succ, List.setIfInBounds_toArray] at H'); clear C H; have H := H'; clear H'; have C := Hp.facts H; simp only [Facts, factsL, and_true, true_and, List.set_cons_zero, List.set_cons_succ, List.setIfInBounds_toArray] at C)) | (at_builtin; (refine wpList_append_hp H 1 rfl _ _ _ rfl Tryd.underlying22 hi hz0 hz1 hz2 rfl (by decide) rfl rfl rfl (news := (l).map u8c) ((H.bs hb).src).2.1 ((H.bs hb).src).1 ((H.bs hb).src).2.2 (u8c_one _) (by unfold maxLen; omega) (by omega) ?_); intro v' w' H'; ((try simp only [List.set_cons_zero, List.set_cons_succ, List.setIfInBounds_toArray] at H'); clear C H; have H := H'; clear H'; have C := Hp.facts H; simp only [Facts, factsL, and_true, true_and, List.set_cons_zero, List.set_cons_succ, List.setIfInBounds_toArray] at C)) | go_values | go_skip | go_guarded | go_step | go_upon | go_back | (simp only [Int.not_lt, Int.not_le] at *; go_simp) | (go_values <;> (try go_simp)) | (go_ite <;> go_prune <;> (try go_simp)) | (split <;> (first | (rename_i hx; exact (hx _ rfl).elim) | go_prune))))
  go_ret
  exact OwnOne.of H 1 rfl (by simp [Nat.add_assoc]) (by simp [List.map_append]) rfl
end Go.Proofs.YtogliinfdfkobaaDoor

/- What a reader of tags and lengths took in is what a writer puts out. No program in sight. -/
namespace Hd
open Go Go.Mem
end Hd

/- Opening a tag and length over bytes, in plain terms. No program in sight. -/
namespace Hd
open Go Go.Mem
deriving instance DecidableEq for Tg
/-- A whole opened at a place: its bytes, the place behind, an error. -/
def opR (l : List UInt8) (k : Nat) (t : Tg) : List UInt8 × Nat × Nat :=
  if (rdHead l k).2.2.1 ≠ 0 then ([], k, (rdHead l k).2.2.1)
  else if (rdHead l k).1 ≠ t then ([], k, 4)
  else if l.length - (rdHead l k).2.2.2 < (rdHead l k).2.1 then ([], k, 3)
  else ((l.drop (rdHead l k).2.2.2).take (rdHead l k).2.1, (rdHead l k).2.2.2 + (rdHead l k).2.1, 0)
/-- A whole that fills the bytes. -/
def alR (l : List UInt8) (t : Tg) : List UInt8 × Nat :=
  if (opR l 0 t).2.2 ≠ 0 then ([], (opR l 0 t).2.2)
  else if (opR l 0 t).2.1 < l.length then ([], 7)
  else ((opR l 0 t).1, 0)
end Hd
namespace Hd
open Go Go.Mem
end Hd

/- What a writer of tags and lengths put out is what a reader takes in; a part of it is too short. No program in sight. -/
namespace Hd
open Go Go.Mem
/-- The digits that a tag's first byte is followed by. -/
def tailL (n : Int) : List UInt8 := (if 16384 ≤ n then [byteI (128 + n / 16384)] else []) ++ (if 128 ≤ n then [byteI (128 + n / 128 % 128)] else []) ++ [byteI (n % 128)]
/-- A whole over content. -/
def wholeL (t : Tg) (l : List UInt8) : List UInt8 := tagL t ++ lenL (l.length : Nat) ++ l
end Hd

