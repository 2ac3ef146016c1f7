/- Lemmas and walks on the way to the seat's laws; each theorem says its own conditions. -/
import Derived.Test.YtogliinfdfkobaaI28
set_option linter.unusedSimpArgs false
set_option linter.unusedVariables false
set_option linter.unusedSimpArgs false
set_option linter.unusedVariables false
set_option maxRecDepth 100000
namespace Go.Proofs.Ytogliinfdfkobaa
open Go.RowKit Go.Mem Go.Reg Oct Hd Go.LawLift
theorem mod5 (x : Int) (b : Nat) (hb : b ≤ 100000) : ∃ N : Nat, b ≤ N ∧ N ≤ b + 4 ∧ wrap64 ((b : Int) + wrap64 ((IntKind.u64.wrap x).tmod 5)) = (N : Int) := by
  have h0 : 0 ≤ IntKind.u64.wrap x := by
    have := IntKind.wrap_u64 x
    omega
  have h1 : (IntKind.u64.wrap x).tmod 5 = IntKind.u64.wrap x % 5 := Int.tmod_eq_emod_of_nonneg h0
  obtain ⟨r, hr⟩ : ∃ r : Nat, IntKind.u64.wrap x % 5 = r := ⟨(IntKind.u64.wrap x % 5).toNat, by omega⟩
  have hr3 : r < 5 := by omega
  refine ⟨b + r, by omega, by omega, ?_⟩
  rw [h1, hr, show wrap64 (r : Int) = r by unfold wrap64; omega, show wrap64 ((b : Int) + (r : Int)) = b + r by unfold wrap64; omega]
  omega
theorem itemDeep_any (n m : Int) (w : World) :
    Calls Try.prog 8 #[.int .i64 n, .int .i64 m] w fun e w' => e = .returned (.bool true) ∧ Below w.heap.size w w' := by
  obtain ⟨N, a1, a2, a3⟩ := mod5 n 30 (by omega)
  obtain ⟨M, b1, b2, b3⟩ := mod5 m 9997 (by omega)
  exact itemDeep_core n m N M a1 a2 b1 (by omega) a3 b3 w
end Go.Proofs.Ytogliinfdfkobaa

