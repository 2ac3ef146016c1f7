/- Lemmas and walks on the way to the seat's laws; each theorem says its own conditions. -/
import Derived.Test.YtldblmgmcmnepaaHPlain
import Derived.Test.YtldblmgmcmnepaaO11
import Derived.Test.YtldblmgmcmnepaaLiftB
set_option linter.unusedSimpArgs false
set_option linter.unusedVariables false
set_option linter.unusedSimpArgs false
set_option linter.unusedVariables false
set_option maxRecDepth 100000
namespace Go.Proofs.Ytldblmgmcmnepaa
open Go.RowKit Go.Mem Go.Reg Oct
/-- What holds at the head of the reference's loop. -/
def RunAt (l : List UInt8) (i : Nat) (n : Int) (xs : List UInt8) : Prop :=
  xs.length = i / 2 ∧ unh (l.take (2 * (i / 2))) = some xs ∧ 0 ≤ n ∧ n ≤ 255 ∧ (i % 2 = 1 → ∃ h : i - 1 < l.length, okB l[i - 1] = true ∧ n % 16 = valI (l[i - 1].toNat : Int))
def RunRel (s : ByteArray) (w : World) (out nx ix : Value) (wr : World) : Prop :=
  ∃ (i : Nat) (n : Int) (xs : List UInt8), i ≤ s.size ∧ ix = .int .i64 i ∧ nx = .int .i64 n ∧ Hid (RunAt s.data.toList i n xs) ∧ Hp w [.row 5 1 out xs.length (xs.map u8c)] wr
end Go.Proofs.Ytldblmgmcmnepaa

set_option linter.unusedSimpArgs false
set_option linter.unusedVariables false
set_option maxRecDepth 100000
namespace Go.Proofs.Ytldblmgmcmnepaa
open Go.RowKit Go.Mem Go.Reg Oct
theorem take_hp {w0 w w' : World} {L : List Ent} (H : Hp w0 L w) (i : Nat) {b k n : Nat} {v : Value} {l : List UInt8} {e : Ending} (hi : L[i]? = some (.blk b #[v, .int .i64 (k : Int)] 140)) (h : TakePost w b v l k n e w') :
    ∃ v', e = .returned (.tuple #[v', .int .i64 0]) ∧ Hp w0 (.row 5 1 v' n (((l.drop k).take n).map u8c) :: L.set i (.blk b #[v, .int .i64 ((k + n : Nat) : Int)] 140)) w' := by
  obtain ⟨v', he, ho, m⟩ := h
  have hx : Ent.ok w.heap.size w' (.row 5 1 v' n (((l.drop k).take n).map u8c)) := ho
  have H1 := moved_hp H i hi m
  refine ⟨v', he, H1.add _ ⟨ho.1, ho.2.imp id fun ⟨g, cap, cur, e1, e2, r⟩ => ⟨g, cap, cur, e1, Nat.le_trans H.low.size e2, r⟩⟩ ?_⟩
  intro q hq hm
  have h1 := (hx.lt q hq).1
  rcases (fps_set L i _ (.blk b #[v, .int .i64 ((k + n : Nat) : Int)] 140) hi (fun _ hk => .inl hk) H.nd).2 q hm with h2 | h2
  · have := (fps_lt H q h2).2
    omega
  · simp only [Ent.fp, Option.some.injEq] at h2
    subst h2
    have := H.lt i hi
    omega
end Go.Proofs.Ytldblmgmcmnepaa

set_option linter.unusedSimpArgs false
set_option linter.unusedVariables false
set_option maxRecDepth 100000
namespace Go.Proofs.Ytldblmgmcmnepaa
open Go.RowKit Go.Mem Go.Reg Oct
/-- What taking a part as a cursor tells and leaves: a new cursor over the bytes, that holds a row of its own; the old one has moved. -/
def SubPost (w : World) (b : Nat) (v : Value) (l : List UInt8) (k n : Nat) (e : Ending) (w' : World) : Prop :=
  ∃ q v', e = .returned (.tuple #[.pointer (some ⟨q, 0, none⟩), .int .i64 0]) ∧ w'.heap[q]? = some (.cells #[v', .int .i64 0] 140 (0, 0)) ∧ w.heap.size ≤ q ∧
    w'.ownsRow w.heap.size 5 1 v' n (((l.drop k).take n).map u8c) ∧ v'.ownBlock ≠ some q ∧ Moved w b v (k + n) w'
theorem own_lt {w : World} {B : Nat} {e : TypeId} {size : Nat} {v : Value} {n : Nat} {xs : List Value} (h : w.ownsRow B e size v n xs) : ∀ q, w.heap.size ≤ q → v.ownBlock ≠ some q := by
  intro q hq he
  have := (World.ownsRow.lt h q he).2
  omega
set_option maxHeartbeats 2000000 in
theorem sub_yes (b : Nat) (l : List UInt8) (k : Nat) (v : Value) (n : Nat) (hn : k + n ≤ l.length) (w : World) (h : Cur w b l k v) :
    Calls Try.prog 105 #[.pointer (some ⟨b, 0, none⟩), .int .i64 (n : Int)] w (SubPost w b v l k n) := by
  have H := Hp.start w
  have C : True := trivial
  go_enter Try.func105, Try.ntmps105
  (repeat' ((fail_if_success (with_reducible show bodyPost _ _ _ _ _ _)); first | ((with_reducible refine Hp.abs_alloc H ?_); intro b' w' H' hb'; (try simp only [hb']); clear hb'; ((try simp only [z0, z1, z2] at H'); clear C H; have H := H'; clear H'; have C := Hp.facts H; simp only [Facts, factsL, and_true, true_and, z0, z1, z2] at C)) | ((with_reducible show wpList _ _ _ _ _ (World.setCell _ _ _)); (with_reducible apply Hp.abs_gen H); (first | ((repeat (with_reducible apply Hp.set' 0)); (with_reducible exact H); (repeat rfl); intro w' H') | ((repeat (with_reducible apply Hp.set' 1)); (with_reducible exact H); (repeat rfl); intro w' H') | ((repeat (with_reducible apply Hp.set' 2)); (with_reducible exact H); (repeat rfl); intro w' H') | ((repeat (with_reducible apply Hp.set' 3)); (with_reducible exact H); (repeat rfl); intro w' H') | ((repeat (with_reducible apply Hp.set' 4)); (with_reducible exact H); (repeat rfl); intro w' H') | ((repeat (with_reducible apply Hp.set' 5)); (with_reducible exact H); (repeat rfl); intro w' H') | ((repeat (with_reducible apply Hp.set' 6)); (with_reducible exact H); (repeat rfl); intro w' H') | ((repeat (with_reducible apply Hp.set' 7)); (with_reducible exact H); (repeat rfl); intro w' H')); ((try simp only [z0, z1, z2] at H'); clear C H; have H := H'; clear H'; have C := Hp.facts H; simp only [Facts, factsL, and_true, true_and, z0, z1, z2] at C)) | go_values | go_skip | go_guarded | go_step | go_upon | go_back | (simp only [Int.not_lt, Int.not_le] at *; go_simp) | (go_values <;> (try go_simp)) | (go_ite <;> go_prune <;> (try go_simp)) | (split <;> (first | (rename_i hx; exact (hx _ rfl).elim) | go_prune))))
  refine (take_yes b l k v n hn _ (h.step H.low)).mono ?_
  rintro e' w1 ⟨v', rfl, ho, hm⟩
  have hm := (Moved.mk ((Only.of_below _ H.low).trans hm.only) hm.blk : Moved w b v (k + n) w1)
  have ho : w1.ownsRow w.heap.size 5 1 v' n (((l.drop k).take n).map u8c) := ⟨ho.1, ho.2.imp id fun ⟨g, cap, cur, e1, e2, r⟩ => ⟨g, cap, cur, e1, Nat.le_trans H.low.size e2, r⟩⟩
  obtain ⟨A', c', rfl⟩ := Go.LawLift.own_form ho
  have hs1 := hm.only.size
  clear H C
  have H := Hp.start w1
  have C : True := trivial
  (repeat' ((fail_if_success (with_reducible show bodyPost _ _ _ _ _ _)); first | ((with_reducible refine Hp.abs_alloc H ?_); intro b' w' H' hb'; (try simp only [hb']); clear hb'; ((try simp only [z0, z1, z2] at H'); clear C H; have H := H'; clear H'; have C := Hp.facts H; simp only [Facts, factsL, and_true, true_and, z0, z1, z2] at C)) | ((with_reducible show wpList _ _ _ _ _ (World.setCell _ _ _)); (with_reducible apply Hp.abs_gen H); (first | ((repeat (with_reducible apply Hp.set' 0)); (with_reducible exact H); (repeat rfl); intro w' H') | ((repeat (with_reducible apply Hp.set' 1)); (with_reducible exact H); (repeat rfl); intro w' H') | ((repeat (with_reducible apply Hp.set' 2)); (with_reducible exact H); (repeat rfl); intro w' H') | ((repeat (with_reducible apply Hp.set' 3)); (with_reducible exact H); (repeat rfl); intro w' H') | ((repeat (with_reducible apply Hp.set' 4)); (with_reducible exact H); (repeat rfl); intro w' H') | ((repeat (with_reducible apply Hp.set' 5)); (with_reducible exact H); (repeat rfl); intro w' H') | ((repeat (with_reducible apply Hp.set' 6)); (with_reducible exact H); (repeat rfl); intro w' H') | ((repeat (with_reducible apply Hp.set' 7)); (with_reducible exact H); (repeat rfl); intro w' H')); ((try simp only [z0, z1, z2] at H'); clear C H; have H := H'; clear H'; have C := Hp.facts H; simp only [Facts, factsL, and_true, true_and, z0, z1, z2] at C)) | go_values | go_skip | go_guarded | go_step | go_upon | go_back | (simp only [Int.not_lt, Int.not_le] at *; go_simp) | (go_values <;> (try go_simp)) | (go_ite <;> go_prune <;> (try go_simp)) | (split <;> (first | (rename_i hx; exact (hx _ rfl).elim) | go_prune))))
  go_ret2
  have hq := (H.ok _ (List.mem_of_getElem? (i := 0) rfl)).2
  exact ⟨b', _, rfl, H.get 0 rfl, Nat.le_trans hs1 hq, owns_step ho H.low, own_lt ho b' hq, Moved.mk (hm.only.trans (Only.of_below _ H.low)) ((H.low.block b (Nat.lt_of_lt_of_le h.lt hs1)).trans hm.blk)⟩
end Go.Proofs.Ytldblmgmcmnepaa

set_option linter.unusedSimpArgs false
set_option linter.unusedVariables false
set_option maxRecDepth 100000
namespace Go.Proofs.Ytldblmgmcmnepaa
open Go.RowKit Go.Mem Go.Reg Oct
/-- A call that moves a cursor and hands out a row of its own. -/
theorem moved_row_hp {w0 w w' : World} {L : List Ent} (H : Hp w0 L w) (i : Nat) {b k k' n : Nat} {v v' : Value} {T : TypeId} {xs : List Value} (hi : L[i]? = some (.blk b #[v, .int .i64 (k : Int)] 140)) (m : Moved w b v k' w') (ho : w'.ownsRow w.heap.size T 1 v' n xs) :
    Hp w0 (.row T 1 v' n xs :: L.set i (.blk b #[v, .int .i64 (k' : Int)] 140)) w' := by
  have hx : Ent.ok w.heap.size w' (.row T 1 v' n xs) := ho
  have H1 := moved_hp H i hi m
  refine H1.add _ ⟨ho.1, ho.2.imp id fun ⟨g, cap, cur, e1, e2, r⟩ => ⟨g, cap, cur, e1, Nat.le_trans H.low.size e2, r⟩⟩ ?_
  intro q hq hm
  have h1 := (hx.lt q hq).1
  rcases (fps_set L i _ (.blk b #[v, .int .i64 (k' : Int)] 140) hi (fun _ hk => .inl hk) H.nd).2 q hm with h2 | h2
  · have := (fps_lt H q h2).2
    omega
  · simp only [Ent.fp, Option.some.injEq] at h2
    subst h2
    have := H.lt i hi
    omega
theorem sub_hp {w0 w w' : World} {L : List Ent} (H : Hp w0 L w) (i : Nat) {b k n : Nat} {v : Value} {l : List UInt8} {e : Ending} (hi : L[i]? = some (.blk b #[v, .int .i64 (k : Int)] 140)) (h : SubPost w b v l k n e w') :
    ∃ q v', e = .returned (.tuple #[.pointer (some ⟨q, 0, none⟩), .int .i64 0]) ∧
      Hp w0 (.blk q #[v', .int .i64 0] 140 :: .row 5 1 v' n (((l.drop k).take n).map u8c) :: L.set i (.blk b #[v, .int .i64 ((k + n : Nat) : Int)] 140)) w' := by
  obtain ⟨q, v', he, hq, hge, ho, hne, m⟩ := h
  have H1 := moved_row_hp H i hi m ho
  refine ⟨q, v', he, H1.add (.blk q _ _) ⟨hq, Nat.le_trans H.low.size hge⟩ ?_⟩
  intro j hj hm
  simp only [Ent.fp, Option.some.injEq] at hj
  subst hj
  rcases List.mem_filterMap.1 hm with ⟨x, hx, hf⟩
  rcases List.mem_cons.1 hx with rfl | hx
  · exact hne hf
  · rcases (fps_set L i _ (.blk b #[v, .int .i64 ((k + n : Nat) : Int)] 140) hi (fun _ hk => .inl hk) H.nd).2 q (List.mem_filterMap.2 ⟨x, hx, hf⟩) with h2 | h2
    · have := (fps_lt H q h2).2
      omega
    · simp only [Ent.fp, Option.some.injEq] at h2
      subst h2
      have := H.lt i hi
      omega
end Go.Proofs.Ytldblmgmcmnepaa

set_option linter.unusedSimpArgs false
set_option linter.unusedVariables false
set_option maxRecDepth 100000
namespace Go.Proofs.Ytldblmgmcmnepaa
open Go.RowKit Go.Mem Go.Reg Oct
/-- The bytes of a cursor that stands first among what the walk knows are its own, wherever it stands. -/
def CurB (w0 : World) (M : List Ent) (b : Nat) (v : Value) (l : List UInt8) : Prop := ∀ (w : World) (k : Nat), Hp w0 (.blk b #[v, .int .i64 (k : Int)] 140 :: M) w → Bs w v l
theorem curF {w0 w : World} {M : List Ent} {b k : Nat} {v : Value} {l : List UInt8} (H : Hp w0 (.blk b #[v, .int .i64 (k : Int)] 140 :: M) w) (hB : CurB w0 M b v l) (hk : k ≤ l.length) (hl : l.length ≤ 1000000) : Cur w b l k v :=
  ⟨H.get 0 rfl, hB w k H, hk, hl⟩
end Go.Proofs.Ytldblmgmcmnepaa

