/- Lemmas and walks on the way to the seat's laws; each theorem says its own conditions. -/
import Derived.Test.YtogliinfdfkobaaO10
import Derived.Test.YtogliinfdfkobaaHPlain
import Derived.Test.YtogliinfdfkobaaInts
import Derived.Test.YtogliinfdfkobaaFrame
set_option linter.unusedSimpArgs false
set_option linter.unusedVariables false
set_option linter.unusedSimpArgs false
set_option linter.unusedVariables false
set_option maxRecDepth 100000
namespace Go.Proofs.Ytogliinfdfkobaa
open Go.RowKit Go.Mem Go.Reg Oct
/-- What making a cursor tells: a new block with a row of its own. -/
def NewCur (w w' : World) (q : Nat) (v : Value) (l : List UInt8) : Prop :=
  w'.heap[q]? = some (.cells #[v, .int .i64 0] 112 (0, 0)) ∧ w.heap.size ≤ q ∧ w'.ownsRow w.heap.size 5 1 v l.length (l.map u8c) ∧ v.ownBlock ≠ some q
set_option maxHeartbeats 1000000 in
theorem take_big (b : Nat) (l : List UInt8) (k : Nat) (v : Value) (n : Int) (h0 : 0 ≤ n) (h1 : (l.length : Int) - (k : Int) < n) (w : World) (h : Cur w b l k v) :
    Calls Try.prog 63 #[.pointer (some ⟨b, 0, none⟩), .int .i64 n] w fun e w' => e = .returned (.tuple #[.slice none 0 0, .int .i64 3]) ∧ Below w.heap.size w w' := by
  have c0 := h.c0
  have c1 := h.c1
  have hbl := h.lt
  have hk := h.le
  have hl := h.len
  have hbs := h.bs
  have hfz := h.fz
  obtain ⟨A, c, rfl, hlc, hcm, hA, hcell⟩ := h.bs.open
  have H := Hp.start w
  have C : True := trivial
  go_enter Try.func63, Try.ntmps63
  (repeat' ((fail_if_success (with_reducible show bodyPost _ _ _ _ _ _)); first | ((with_reducible refine Hp.abs_alloc H ?_); intro b' w' H' hb'; (try simp only [hb']); clear hb'; ((try simp only [List.set_cons_zero, List.set_cons_succ, List.setIfInBounds_toArray] at H'); clear C H; have H := H'; clear H'; have C := Hp.facts H; simp only [Facts, factsL, and_true, true_and, List.set_cons_zero, List.set_cons_succ, List.setIfInBounds_toArray] at C)) | ((with_reducible show wpList _ _ _ _ _ (World.setCell _ _ _)); (with_reducible apply Hp.abs_gen H); (first | ((repeat (with_reducible apply Hp.set' 0)); (with_reducible exact H); (repeat rfl); intro w' H') | ((repeat (with_reducible apply Hp.set' 1)); (with_reducible exact H); (repeat rfl); intro w' H') | ((repeat (with_reducible apply Hp.set' 2)); (with_reducible exact H); (repeat rfl); intro w' H') | ((repeat (with_reducible apply Hp.set' 3)); (with_reducible exact H); (repeat rfl); intro w' H') | ((repeat (with_reducible apply Hp.set' 4)); (with_reducible exact H); (repeat rfl); intro w' H') | ((repeat (with_reducible apply Hp.set' 5)); (with_reducible exact H); (repeat rfl); intro w' H') | ((repeat (with_reducible apply Hp.set' 6)); (with_reducible exact H); (repeat rfl); intro w' H') | ((repeat (with_reducible apply Hp.set' 7)); (with_reducible exact H); (repeat rfl); intro w' H')); ((try simp only [List.set_cons_zero, List.set_cons_succ, List.setIfInBounds_toArray] at H'); clear C H; have H := H'; clear H'; have C := Hp.facts H; simp only [Facts, factsL, and_true, true_and, List.set_cons_zero, List.set_cons_succ, List.setIfInBounds_toArray] at C)) | (go_at_call 70; refine (may_big b l k _ _ h0 h1 _ (h.step H.low)).mono ?_; rintro e' w' ⟨rfl, hb'⟩; (have H' := Hp.step H hb'; clear hb'; ((try simp only [List.set_cons_zero, List.set_cons_succ, List.setIfInBounds_toArray] at H'); clear C H; have H := H'; clear H'; have C := Hp.facts H; simp only [Facts, factsL, and_true, true_and, List.set_cons_zero, List.set_cons_succ, List.setIfInBounds_toArray] at C))) | go_values | go_skip | go_guarded | go_step | go_upon | go_back | (simp only [Int.not_lt, Int.not_le] at *; go_simp) | (go_values <;> (try go_simp)) | (go_ite <;> go_prune <;> (try go_simp)) | (split <;> (first | (rename_i hx; exact (hx _ rfl).elim) | go_prune))))
  go_ret2
  exact ⟨rfl, H.low⟩
set_option maxHeartbeats 2000000 in
theorem new_any (l : List UInt8) (v : Value) (w : World) (hb : Bs w v l) (hl : l.length ≤ 1000000) :
    Calls Try.prog 50 #[v] w fun e w' => (∃ q v', e = .returned (.pointer (some ⟨q, 0, none⟩)) ∧ NewCur w w' q v' l) ∧ Below w.heap.size w w' := by
  obtain ⟨i0, hi, hz0, hz1, hz2⟩ := info_parts info_u8
  obtain ⟨A, c, rfl, hlc, hcm, hA, hcell⟩ := hb.open
  have H := Hp.start w
  have C : True := trivial
  go_enter Try.func50, Try.ntmps50
  (repeat' ((fail_if_success (with_reducible show bodyPost _ _ _ _ _ _)); first | ((with_reducible refine Hp.abs_alloc H ?_); intro b' w' H' hb'; (try simp only [hb']); clear hb'; ((try simp only [List.set_cons_zero, List.set_cons_succ, List.setIfInBounds_toArray] at H'); clear C H; have H := H'; clear H'; have C := Hp.facts H; simp only [Facts, factsL, and_true, true_and, List.set_cons_zero, List.set_cons_succ, List.setIfInBounds_toArray] at C)) | ((with_reducible show wpList _ _ _ _ _ (World.setCell _ _ _)); (with_reducible apply Hp.abs_gen H); (first | ((repeat (with_reducible apply Hp.set' 0)); (with_reducible exact H); (repeat rfl); intro w' H') | ((repeat (with_reducible apply Hp.set' 1)); (with_reducible exact H); (repeat rfl); intro w' H') | ((repeat (with_reducible apply Hp.set' 2)); (with_reducible exact H); (repeat rfl); intro w' H') | ((repeat (with_reducible apply Hp.set' 3)); (with_reducible exact H); (repeat rfl); intro w' H') | ((repeat (with_reducible apply Hp.set' 4)); (with_reducible exact H); (repeat rfl); intro w' H') | ((repeat (with_reducible apply Hp.set' 5)); (with_reducible exact H); (repeat rfl); intro w' H') | ((repeat (with_reducible apply Hp.set' 6)); (with_reducible exact H); (repeat rfl); intro w' H') | ((repeat (with_reducible apply Hp.set' 7)); (with_reducible exact H); (repeat rfl); intro w' H')); ((try simp only [List.set_cons_zero, List.set_cons_succ, List.setIfInBounds_toArray] at H'); clear C H; have H := H'; clear H'; have C := Hp.facts H; simp only [Facts, factsL, and_true, true_and, List.set_cons_zero, List.set_cons_succ, List.setIfInBounds_toArray] at C)) | (at_make; refine wpList_full_hp H rfl _ _ _ rfl Try.underlying24 hi hz0 hz1 l.length rfl rfl rfl rfl (by rw [hz2]; omega) (by unfold maxLen; omega) ?_; intro g' w' H'; ((try simp only [List.set_cons_zero, List.set_cons_succ, List.setIfInBounds_toArray] at H'); clear C H; have H := H'; clear H'; have C := Hp.facts H; simp only [Facts, factsL, and_true, true_and, List.set_cons_zero, List.set_cons_succ, List.setIfInBounds_toArray] at C)) | (refine wpList_copy_hp H 0 rfl _ _ _ _ rfl Try.underlying24 size_u8 rfl rfl rfl (cs := l.map u8c) (H.bs hb).src.2.1 (H.bs hb).src.2.2 (u8c_one _) ?_; intro w' H'; ((try simp only [List.set_cons_zero, List.set_cons_succ, List.setIfInBounds_toArray] at H'); clear C H; have H := H'; clear H'; have C := Hp.facts H; simp only [Facts, factsL, and_true, true_and, List.set_cons_zero, List.set_cons_succ, List.setIfInBounds_toArray] at C)) | go_values | go_skip | go_guarded | go_step | go_upon | go_back | (simp only [Int.not_lt, Int.not_le] at *; go_simp) | (go_values <;> (try go_simp)) | (go_ite <;> go_prune <;> (try go_simp)) | (split <;> (first | (rename_i hx; exact (hx _ rfl).elim) | go_prune))))
  go_ret
  refine ⟨⟨b', _, rfl, H.get 1 rfl, (H.ok _ (List.mem_of_getElem? (i := 1) rfl)).2, ownsOf H 0 rfl, ?_⟩, H.low⟩
  exact nodup_ne _ 1 0 _ _ b' H.nd rfl rfl (by decide) rfl
theorem NewCur.hp {w0 w w1 : World} {L : List Ent} (H : Hp w0 L w) (hb : Below w.heap.size w w1) {q : Nat} {v : Value} {l : List UInt8} (h : NewCur w w1 q v l) : Hp w0 (.blk q #[v, .int .i64 0] 112 :: .row 5 1 v l.length (l.map u8c) :: L) w1 := by
  have H1 := H.adopt hb (.row 5 1 v l.length (l.map u8c)) h.2.2.1
  refine H1.add (.blk q _ _) ⟨h.1, Nat.le_trans H.low.size h.2.1⟩ ?_
  intro k hk hm
  simp only [Ent.fp, Option.some.injEq] at hk
  subst hk
  rcases List.mem_filterMap.1 hm with ⟨x, hx, hf⟩
  rcases List.mem_cons.1 hx with rfl | hx
  · exact h.2.2.2 hf
  · have := ((H.ok x hx).lt q hf).2
    have := h.2.1
    omega
theorem cur_hp {w0 w : World} {L : List Ent} (H : Hp w0 L w) (i j : Nat) {b k : Nat} {v : Value} {l : List UInt8} (hi : L[i]? = some (.blk b #[v, .int .i64 (k : Int)] 112)) (hj : L[j]? = some (.row 5 1 v l.length (l.map u8c))) (hk : k ≤ l.length) (hl : l.length ≤ 1000000) : Cur w b l k v :=
  ⟨H.get i hi, by have := ownsOf H j hj; exact slice_of_own (by simpa using this), hk, hl⟩
theorem moved_hp {w0 w w' : World} {L : List Ent} (H : Hp w0 L w) (i : Nat) {b k k' : Nat} {v : Value} (hi : L[i]? = some (.blk b #[v, .int .i64 (k : Int)] 112)) (m : Moved w b v k' w') : Hp w0 (L.set i (.blk b #[v, .int .i64 (k' : Int)] 112)) w' :=
  H.turn i hi m.only ⟨m.blk, (H.ok _ (List.mem_of_getElem? hi)).2⟩ fun _ hk => .inl hk
end Go.Proofs.Ytogliinfdfkobaa

set_option linter.unusedSimpArgs false
set_option linter.unusedVariables false
set_option maxRecDepth 100000
namespace Go.Proofs.Ytogliinfdfkobaa
open Go.RowKit Go.Mem Go.Reg Oct
/-- What holds at the head of the reference's loop. -/
def RunAt (l : List UInt8) (i : Nat) (n : Int) (xs : List UInt8) : Prop :=
  xs.length = i / 2 ∧ unh (l.take (2 * (i / 2))) = some xs ∧ 0 ≤ n ∧ n ≤ 255 ∧ (i % 2 = 1 → ∃ h : i - 1 < l.length, okB l[i - 1] = true ∧ n % 16 = valI (l[i - 1].toNat : Int))
def RunRel (s : ByteArray) (w : World) (out nx ix : Value) (wr : World) : Prop :=
  ∃ (i : Nat) (n : Int) (xs : List UInt8), i ≤ s.size ∧ ix = .int .i64 i ∧ nx = .int .i64 n ∧ Hid (RunAt s.data.toList i n xs) ∧ Hp w [.row 5 1 out xs.length (xs.map u8c)] wr
end Go.Proofs.Ytogliinfdfkobaa

set_option linter.unusedSimpArgs false
set_option linter.unusedVariables false
set_option maxRecDepth 100000
namespace Go.Proofs.Ytogliinfdfkobaa
open Go.RowKit Go.Mem Go.Reg Oct
theorem take_hp {w0 w w' : World} {L : List Ent} (H : Hp w0 L w) (i : Nat) {b k n : Nat} {v : Value} {l : List UInt8} {e : Ending} (hi : L[i]? = some (.blk b #[v, .int .i64 (k : Int)] 112)) (h : TakePost w b v l k n e w') :
    ∃ v', e = .returned (.tuple #[v', .int .i64 0]) ∧ Hp w0 (.row 5 1 v' n (((l.drop k).take n).map u8c) :: L.set i (.blk b #[v, .int .i64 ((k + n : Nat) : Int)] 112)) w' := by
  obtain ⟨v', he, ho, m⟩ := h
  have hx : Ent.ok w.heap.size w' (.row 5 1 v' n (((l.drop k).take n).map u8c)) := ho
  have H1 := moved_hp H i hi m
  refine ⟨v', he, H1.add _ ⟨ho.1, ho.2.imp id fun ⟨g, cap, cur, e1, e2, r⟩ => ⟨g, cap, cur, e1, Nat.le_trans H.low.size e2, r⟩⟩ ?_⟩
  intro q hq hm
  have h1 := (hx.lt q hq).1
  rcases (fps_set L i _ (.blk b #[v, .int .i64 ((k + n : Nat) : Int)] 112) hi (fun _ hk => .inl hk) H.nd).2 q hm with h2 | h2
  · have := (fps_lt H q h2).2
    omega
  · simp only [Ent.fp, Option.some.injEq] at h2
    subst h2
    have := H.lt i hi
    omega
end Go.Proofs.Ytogliinfdfkobaa

set_option linter.unusedSimpArgs false
set_option linter.unusedVariables false
set_option maxRecDepth 100000
namespace Go.Proofs.Ytogliinfdfkobaa
open Go.RowKit Go.Mem Go.Reg Oct
/-- What taking a part as a cursor tells and leaves: a new cursor over the bytes, that holds a row of its own; the old one has moved. -/
def SubPost (w : World) (b : Nat) (v : Value) (l : List UInt8) (k n : Nat) (e : Ending) (w' : World) : Prop :=
  ∃ q v', e = .returned (.tuple #[.pointer (some ⟨q, 0, none⟩), .int .i64 0]) ∧ w'.heap[q]? = some (.cells #[v', .int .i64 0] 112 (0, 0)) ∧ w.heap.size ≤ q ∧
    w'.ownsRow w.heap.size 5 1 v' n (((l.drop k).take n).map u8c) ∧ v'.ownBlock ≠ some q ∧ Moved w b v (k + n) w'
end Go.Proofs.Ytogliinfdfkobaa

set_option linter.unusedSimpArgs false
set_option linter.unusedVariables false
set_option maxRecDepth 100000
namespace Go.Proofs.Ytogliinfdfkobaa
open Go.RowKit Go.Mem Go.Reg Oct
end Go.Proofs.Ytogliinfdfkobaa

set_option linter.unusedSimpArgs false
set_option linter.unusedVariables false
set_option maxRecDepth 100000
namespace Go.Proofs.Ytogliinfdfkobaa
open Go.RowKit Go.Mem Go.Reg Oct
/-- The bytes of a cursor that stands first among what the walk knows are its own, wherever it stands. -/
def CurB (w0 : World) (M : List Ent) (b : Nat) (v : Value) (l : List UInt8) : Prop := ∀ (w : World) (k : Nat), Hp w0 (.blk b #[v, .int .i64 (k : Int)] 112 :: M) w → Bs w v l
theorem curF {w0 w : World} {M : List Ent} {b k : Nat} {v : Value} {l : List UInt8} (H : Hp w0 (.blk b #[v, .int .i64 (k : Int)] 112 :: M) w) (hB : CurB w0 M b v l) (hk : k ≤ l.length) (hl : l.length ≤ 1000000) : Cur w b l k v :=
  ⟨H.get 0 rfl, hB w k H, hk, hl⟩
end Go.Proofs.Ytogliinfdfkobaa

