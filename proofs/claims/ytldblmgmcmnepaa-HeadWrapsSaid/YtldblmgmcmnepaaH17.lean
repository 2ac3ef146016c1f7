/- Lemmas and walks on the way to the seat's laws; each theorem says its own conditions. -/
import Derived.Test.YtldblmgmcmnepaaH16
set_option linter.unusedSimpArgs false
set_option linter.unusedVariables false
set_option maxRecDepth 100000
namespace Go.Proofs.Ytldblmgmcmnepaa
open Go.RowKit Go.Mem Go.Reg Hd Go.LawLift Oct
theorem rbytes_one (c n : Int) (m : Bool) (h : okTag ⟨c, n, m⟩ = true) (w : World) : Calls Try.prog 46 #[.agg #[.int .i64 c, .int .i64 n, .bool m]] w (OwnOne w (tagL ⟨c, n, m⟩)) := by
  obtain ⟨-, -, h0, -⟩ := okTag_iff.1 h
  obtain ⟨k, rfl⟩ := Int.eq_ofNat_of_zero_le (show 0 ≤ n from h0)
  exact rbytes_any c k m h w
end Go.Proofs.Ytldblmgmcmnepaa

