/- Lemmas and walks on the way to the seat's laws; each theorem says its own conditions. -/
import Derived.Test.YtmmjghdobdendaaC16
import Derived.Test.YtmmjghdobdendaaC17
import Derived.Test.YtmmjghdobdendaaC18
set_option linter.unusedSimpArgs false
set_option linter.unusedVariables false
set_option linter.unusedSimpArgs false
set_option linter.unusedVariables false
set_option maxRecDepth 100000
namespace Go.Proofs.Ytmmjghdobdendaa
open Go.RowKit Go.Mem Go.Reg Bit Go.LawLift
theorem zvs_at {E : List Int} {k : Nat} (h : k < E.length) : (zvs E)[k]? = some (.int .i64 E[k]) := by unfold zvs; simp [h]
theorem zvs_len (E : List Int) : (zvs E).length = E.length := by unfold zvs; simp
theorem prs_cap {w : World} {v : Value} {l : List (Int × Int)} (h : Prs .i64 w v l) : l.length ≤ 9223372036854775807 := by
  obtain ⟨A, c, rfl, h1, h2, -⟩ := h.open
  omega
end Go.Proofs.Ytmmjghdobdendaa

