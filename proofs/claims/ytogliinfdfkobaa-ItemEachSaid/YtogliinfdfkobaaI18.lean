/- Lemmas and walks on the way to the seat's laws; each theorem says its own conditions. -/
import Derived.Test.YtogliinfdfkobaaI17
set_option linter.unusedSimpArgs false
set_option linter.unusedVariables false
set_option linter.unusedSimpArgs false
set_option linter.unusedVariables false
set_option maxRecDepth 100000
namespace Go.Proofs.Ytogliinfdfkobaa
open Go.RowKit Go.Mem Go.Reg Oct Hd Go.LawLift
theorem five_of {cs : List Value} (h : cs.length = 5) : ∃ d0 d1 d2 d3 d4, cs = [d0, d1, d2, d3, d4] := by
  match cs, h with
  | [d0, d1, d2, d3, d4], _ => exact ⟨d0, d1, d2, d3, d4, rfl⟩
/-- The tree of no part. -/
abbrev zt : Tree := .mk ⟨0, 0, false⟩ [] []
/-- Bytes that are turned one by one. -/
def FiRel (w : World) (y3 : Value) (n : Nat) (M : List Ent) (ix : Value) (wr : World) : Prop := ∃ (i : Nat) (zs : List Int), i ≤ n ∧ ix = .int .i64 i ∧ zs.length = n ∧ Hp w (.row 5 1 y3 n (zs.map (Value.int .u8)) :: M) wr
theorem FiRel.mk {w : World} {y3 : Value} {n : Nat} {M : List Ent} {ix : Value} {wr : World} (i : Nat) (zs : List Int) (h1 : i ≤ n) (h2 : ix = .int .i64 i) (h3 : zs.length = n) (h4 : Hp w (.row 5 1 y3 n (zs.map (Value.int .u8)) :: M) wr) : FiRel w y3 n M ix wr := ⟨i, zs, h1, h2, h3, h4⟩
theorem FiRel.start {w wr : World} {y3 : Value} {n : Nat} {zs : List Int} {M : List Ent} (h3 : zs.length = n) (H : Hp w (.row 5 1 y3 n (zs.map (Value.int .u8)) :: M) wr) : ∃ M', M' = M ∧ FiRel w y3 n M' (.int .i64 0) wr :=
  ⟨M, rfl, 0, zs, Nat.zero_le _, rfl, h3, H⟩
end Go.Proofs.Ytogliinfdfkobaa

