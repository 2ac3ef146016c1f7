/- Texts and bytes turned into one another within a walk. No condition on a program. -/
import Derived.Test.YtogliinfdfkobaaDoorFrame
import Derived.Test.YtogliinfdfkobaaDoorBytes
import Derived.Lib.ConvBytes
set_option linter.unusedSimpArgs false
set_option linter.unusedVariables false
namespace Go.Mem
open Go.RowKit
section
variable {P : Program} {ops : Array Oper} {Q : Exit → Act → World → Prop} {rest : List Oper} {o : Oper} {a : Act} {w0 w : World} {L : List Ent}
/-- string(b). -/
theorem wpList_string_hp (hgd : o.guard = none) (x : Operand) (src dst : TypeId) (ho : o.op = .convert src dst x) {e : TypeId} (hs : P.underlying src = some (.slice e)) (he : P.underlying e = some (.int .u8)) (hd : P.underlying dst = some .string)
    {v : Value} {l : List UInt8} (hx : a.eval x = v) (hb : Bs w v l)
    (h : wpList P ops Q rest (a.put o.dst (.string ⟨l.toArray⟩)) w) : wpList P ops Q (o :: rest) a w := by
  have hr := run_str (P := P) hb src dst e hs he hd
  refine wpList_plain hgd fun K hK => ?_
  unfold Oper.wp
  simp [execOp, ho, hx, hr, Result.andThen]
  exact hK _ _ h
end
end Go.Mem

