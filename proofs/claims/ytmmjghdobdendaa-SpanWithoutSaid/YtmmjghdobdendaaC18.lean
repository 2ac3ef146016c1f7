/- Lemmas and walks on the way to the seat's laws; each theorem says its own conditions. -/
import Derived.Test.YtmmjghdobdendaaC15
set_option linter.unusedSimpArgs false
set_option linter.unusedVariables false
set_option linter.unusedSimpArgs false
set_option linter.unusedVariables false
set_option maxRecDepth 100000
namespace Go.Proofs.Ytmmjghdobdendaa
open Go.RowKit Go.Mem Go.Reg Bit Go.LawLift
end Go.Proofs.Ytmmjghdobdendaa

