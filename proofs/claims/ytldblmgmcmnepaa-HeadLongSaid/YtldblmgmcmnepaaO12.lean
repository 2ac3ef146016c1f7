/- Lemmas and walks on the way to the seat's laws; each theorem says its own conditions. -/
import Derived.Test.YtldblmgmcmnepaaO11
import Derived.Test.YtldblmgmcmnepaaO4
set_option linter.unusedSimpArgs false
set_option linter.unusedVariables false
set_option linter.unusedSimpArgs false
set_option linter.unusedVariables false
set_option maxRecDepth 100000
namespace Go.Proofs.Ytldblmgmcmnepaa
open Go.RowKit Go.Mem Go.Reg Oct
theorem take_hp {w0 w w' : World} {L : List Ent} (H : Hp w0 L w) (i : Nat) {b k n : Nat} {v : Value} {l : List UInt8} {e : Ending} (hi : L[i]? = some (.blk b #[v, .int .i64 (k : Int)] 140)) (h : TakePost w b v l k n e w') :
    ∃ v', e = .returned (.tuple #[v', .int .i64 0]) ∧ Hp w0 (.row 5 1 v' n (((l.drop k).take n).map u8c) :: L.set i (.blk b #[v, .int .i64 ((k + n : Nat) : Int)] 140)) w' := by
  obtain ⟨v', he, ho, m⟩ := h
  have hx : Ent.ok w.heap.size w' (.row 5 1 v' n (((l.drop k).take n).map u8c)) := ho
  have H1 := moved_hp H i hi m
  refine ⟨v', he, H1.add _ ⟨ho.1, ho.2.imp id fun ⟨g, cap, cur, e1, e2, r⟩ => ⟨g, cap, cur, e1, Nat.le_trans H.low.size e2, r⟩⟩ ?_⟩
  intro q hq hm
  have h1 := (hx.lt q hq).1
  rcases (fps_set L i _ (.blk b #[v, .int .i64 ((k + n : Nat) : Int)] 140) hi (fun _ hk => .inl hk) H.nd).2 q hm with h2 | h2
  · have := (fps_lt H q h2).2
    omega
  · simp only [Ent.fp, Option.some.injEq] at h2
    subst h2
    have := H.lt i hi
    omega
end Go.Proofs.Ytldblmgmcmnepaa

