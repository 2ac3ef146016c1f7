/- Lemmas and walks on the way to the seat's laws; each theorem says its own conditions. -/
import Derived.Test.YtldblmgmcmnepaaO22
import Derived.Test.YtldblmgmcmnepaaFrame
set_option linter.unusedSimpArgs false
set_option linter.unusedVariables false
set_option maxRecDepth 100000
namespace Go.Proofs.Ytldblmgmcmnepaa
open Go.RowKit Go.Mem Go.Reg Oct
/-- A call that moves a cursor and hands out a row of its own. -/
theorem moved_row_hp {w0 w w' : World} {L : List Ent} (H : Hp w0 L w) (i : Nat) {b k k' n : Nat} {v v' : Value} {T : TypeId} {xs : List Value} (hi : L[i]? = some (.blk b #[v, .int .i64 (k : Int)] 140)) (m : Moved w b v k' w') (ho : w'.ownsRow w.heap.size T 1 v' n xs) :
    Hp w0 (.row T 1 v' n xs :: L.set i (.blk b #[v, .int .i64 (k' : Int)] 140)) w' := by
  have hx : Ent.ok w.heap.size w' (.row T 1 v' n xs) := ho
  have H1 := moved_hp H i hi m
  refine H1.add _ ⟨ho.1, ho.2.imp id fun ⟨g, cap, cur, e1, e2, r⟩ => ⟨g, cap, cur, e1, Nat.le_trans H.low.size e2, r⟩⟩ ?_
  intro q hq hm
  have h1 := (hx.lt q hq).1
  rcases (fps_set L i _ (.blk b #[v, .int .i64 (k' : Int)] 140) hi (fun _ hk => .inl hk) H.nd).2 q hm with h2 | h2
  · have := (fps_lt H q h2).2
    omega
  · simp only [Ent.fp, Option.some.injEq] at h2
    subst h2
    have := H.lt i hi
    omega
theorem sub_hp {w0 w w' : World} {L : List Ent} (H : Hp w0 L w) (i : Nat) {b k n : Nat} {v : Value} {l : List UInt8} {e : Ending} (hi : L[i]? = some (.blk b #[v, .int .i64 (k : Int)] 140)) (h : SubPost w b v l k n e w') :
    ∃ q v', e = .returned (.tuple #[.pointer (some ⟨q, 0, none⟩), .int .i64 0]) ∧
      Hp w0 (.blk q #[v', .int .i64 0] 140 :: .row 5 1 v' n (((l.drop k).take n).map u8c) :: L.set i (.blk b #[v, .int .i64 ((k + n : Nat) : Int)] 140)) w' := by
  obtain ⟨q, v', he, hq, hge, ho, hne, m⟩ := h
  have H1 := moved_row_hp H i hi m ho
  refine ⟨q, v', he, H1.add (.blk q _ _) ⟨hq, Nat.le_trans H.low.size hge⟩ ?_⟩
  intro j hj hm
  simp only [Ent.fp, Option.some.injEq] at hj
  subst hj
  rcases List.mem_filterMap.1 hm with ⟨x, hx, hf⟩
  rcases List.mem_cons.1 hx with rfl | hx
  · exact hne hf
  · rcases (fps_set L i _ (.blk b #[v, .int .i64 ((k + n : Nat) : Int)] 140) hi (fun _ hk => .inl hk) H.nd).2 q (List.mem_filterMap.2 ⟨x, hx, hf⟩) with h2 | h2
    · have := (fps_lt H q h2).2
      omega
    · simp only [Ent.fp, Option.some.injEq] at h2
      subst h2
      have := H.lt i hi
      omega
end Go.Proofs.Ytldblmgmcmnepaa

set_option linter.unusedSimpArgs false
set_option linter.unusedVariables false
set_option maxRecDepth 100000
namespace Go.Proofs.Ytldblmgmcmnepaa
open Go.RowKit Go.Mem Go.Reg Oct
/-- The bytes of a cursor that stands first among what the walk knows are its own, wherever it stands. -/
def CurB (w0 : World) (M : List Ent) (b : Nat) (v : Value) (l : List UInt8) : Prop := ∀ (w : World) (k : Nat), Hp w0 (.blk b #[v, .int .i64 (k : Int)] 140 :: M) w → Bs w v l
theorem curF {w0 w : World} {M : List Ent} {b k : Nat} {v : Value} {l : List UInt8} (H : Hp w0 (.blk b #[v, .int .i64 (k : Int)] 140 :: M) w) (hB : CurB w0 M b v l) (hk : k ≤ l.length) (hl : l.length ≤ 1000000) : Cur w b l k v :=
  ⟨H.get 0 rfl, hB w k H, hk, hl⟩
end Go.Proofs.Ytldblmgmcmnepaa

