/-
  No cell of these rows narrows 'for every input' (looked for: loops, veiled, ifaces, maps, wideKeys, modest, calm, conditions, laid).
  DERIVED. THE GIVEN ROWS OF THIS SEAT. 5 by the template 'for every input the law returns true; each argument reads behind the call as it read before'; 0 by the template 'total and deterministic' (their statements: YtaojfkfdfpiejaaTotals.lean).
  GIVEN WITH THE SEED: the statements are not yours to turn. If you find one false, say at which input.
  Laid BY PROGRAM, IN A SANDBOX (cutbox-rows.mjs): the forced cells as the released guide's own fill.sh prints them over the translation afaaf85bdb5fad80… (all of the seat's roots in one cut). By AI agents, Wed Nov 11 2026. No macro, syntax, notation, axiom, sorry.
-/
import Derived.Test.YtaojfkfdfpiejaaChecked
import GoSem.Claim
import GoSem.ClaimJoined
import GoSem.ClaimMapViews
import Derived.JoinedTies
import Derived.KernelRfl
namespace Go.Proofs.Ytaojfkfdfpiejaa
/- THE CELL 'sum', in the pinned program and in every row, IS THE sha256 OF THE DUMP (.gsa) THAT YtaojfkfdfpiejaaProg.lean LOADS. Nothing in Lean hashes anything: it is a label: what it is worth is what the hold of that sum in a sandbox is worth. -/
noncomputable def Try.pinned : Pinned := { name := "ytaojfkfdfpiejaa", sum := "afaaf85bdb5fad80cb833a3d21cc0ee9fbf95af18d2465a1ee825c05ef22f8c1", checked := Try.checked }
namespace Rows
def none {H : Type} : Left H := { results := [], args := [] }

/-- 'quittancelaw09.DateNumbers': WHATEVER THE INPUT: true; the input reads as it did. -/
def dateNumbersSpec : ChangeSpec := { name := "dateNumbers", fn := fun _ => fun
  | [d] => { results := [.lit (.bool true)], args := [d] }
  | _ => none }
def dateNumbersRow : OpenClaim := { program := "ytaojfkfdfpiejaa", sum := "afaaf85bdb5fad80cb833a3d21cc0ee9fbf95af18d2465a1ee825c05ef22f8c1", func := "quittance/quittancelaw09.DateNumbers", spec := "dateNumbers", inPlace := ["internal/abi.NoEscape"], apart := false }
def DateNumbersSaid : Prop := dateNumbersRow.holds Try.pinned (OpenSpec.ofChange dateNumbersSpec)

/-- ITS FALSE NEIGHBOUR: 'it returns false'. Refute it at one input. -/
def dateNumbersWrong : ChangeSpec := { name := "dateNumbers", fn := fun _ => fun
  | [d] => { results := [.lit (.bool false)], args := [d] }
  | _ => none }
def DateNumbersWrongFalsely : Prop := dateNumbersRow.holds Try.pinned (OpenSpec.ofChange dateNumbersWrong)

/-- 'quittancelaw09.DateWeeks': WHATEVER THE INPUT: true; the input reads as it did. -/
def dateWeeksSpec : ChangeSpec := { name := "dateWeeks", fn := fun _ => fun
  | [d] => { results := [.lit (.bool true)], args := [d] }
  | _ => none }
def dateWeeksRow : OpenClaim := { program := "ytaojfkfdfpiejaa", sum := "afaaf85bdb5fad80cb833a3d21cc0ee9fbf95af18d2465a1ee825c05ef22f8c1", func := "quittance/quittancelaw09.DateWeeks", spec := "dateWeeks", inPlace := ["internal/abi.NoEscape"], unfollowed := true, recurses := true, apart := false }
def DateWeeksSaid : Prop := dateWeeksRow.holds Try.pinned (OpenSpec.ofChange dateWeeksSpec)

/-- ITS FALSE NEIGHBOUR: 'it returns false'. Refute it at one input. -/
def dateWeeksWrong : ChangeSpec := { name := "dateWeeks", fn := fun _ => fun
  | [d] => { results := [.lit (.bool false)], args := [d] }
  | _ => none }
def DateWeeksWrongFalsely : Prop := dateWeeksRow.holds Try.pinned (OpenSpec.ofChange dateWeeksWrong)

/-- 'quittancelaw09.DateSeconds': WHATEVER THE INPUT: true; the input reads as it did. -/
def dateSecondsSpec : ChangeSpec := { name := "dateSeconds", fn := fun _ => fun
  | [d1, d2] => { results := [.lit (.bool true)], args := [d1, d2] }
  | _ => none }
def dateSecondsRow : OpenClaim := { program := "ytaojfkfdfpiejaa", sum := "afaaf85bdb5fad80cb833a3d21cc0ee9fbf95af18d2465a1ee825c05ef22f8c1", func := "quittance/quittancelaw09.DateSeconds", spec := "dateSeconds", inPlace := ["internal/abi.NoEscape"], apart := false }
def DateSecondsSaid : Prop := dateSecondsRow.holds Try.pinned (OpenSpec.ofChange dateSecondsSpec)

/-- ITS FALSE NEIGHBOUR: 'it returns false'. Refute it at one input. -/
def dateSecondsWrong : ChangeSpec := { name := "dateSeconds", fn := fun _ => fun
  | [d1, d2] => { results := [.lit (.bool false)], args := [d1, d2] }
  | _ => none }
def DateSecondsWrongFalsely : Prop := dateSecondsRow.holds Try.pinned (OpenSpec.ofChange dateSecondsWrong)

/-- 'quittancelaw09.DateOfs': WHATEVER THE INPUT: true; the input reads as it did. -/
def dateOfsSpec : ChangeSpec := { name := "dateOfs", fn := fun _ => fun
  | [d] => { results := [.lit (.bool true)], args := [d] }
  | _ => none }
def dateOfsRow : OpenClaim := { program := "ytaojfkfdfpiejaa", sum := "afaaf85bdb5fad80cb833a3d21cc0ee9fbf95af18d2465a1ee825c05ef22f8c1", func := "quittance/quittancelaw09.DateOfs", spec := "dateOfs", inPlace := ["internal/abi.NoEscape"], apart := false }
def DateOfsSaid : Prop := dateOfsRow.holds Try.pinned (OpenSpec.ofChange dateOfsSpec)

/-- ITS FALSE NEIGHBOUR: 'it returns false'. Refute it at one input. -/
def dateOfsWrong : ChangeSpec := { name := "dateOfs", fn := fun _ => fun
  | [d] => { results := [.lit (.bool false)], args := [d] }
  | _ => none }
def DateOfsWrongFalsely : Prop := dateOfsRow.holds Try.pinned (OpenSpec.ofChange dateOfsWrong)

/-- 'quittancelaw09.DateOrders': WHATEVER THE INPUT: true; the input reads as it did. -/
def dateOrdersSpec : ChangeSpec := { name := "dateOrders", fn := fun _ => fun
  | [d1, d2] => { results := [.lit (.bool true)], args := [d1, d2] }
  | _ => none }
def dateOrdersRow : OpenClaim := { program := "ytaojfkfdfpiejaa", sum := "afaaf85bdb5fad80cb833a3d21cc0ee9fbf95af18d2465a1ee825c05ef22f8c1", func := "quittance/quittancelaw09.DateOrders", spec := "dateOrders", inPlace := ["internal/abi.NoEscape"], apart := false }
def DateOrdersSaid : Prop := dateOrdersRow.holds Try.pinned (OpenSpec.ofChange dateOrdersSpec)

/-- ITS FALSE NEIGHBOUR: 'it returns false'. Refute it at one input. -/
def dateOrdersWrong : ChangeSpec := { name := "dateOrders", fn := fun _ => fun
  | [d1, d2] => { results := [.lit (.bool false)], args := [d1, d2] }
  | _ => none }
def DateOrdersWrongFalsely : Prop := dateOrdersRow.holds Try.pinned (OpenSpec.ofChange dateOrdersWrong)

/- THE SECOND FORM. 'bulk': how many values and letters a reading holds, each counted each time it is reached (what is shared counts as often as it is met; a slice's spare places count too). A statement '..UptoSaid' is the law's where the arguments, and the package variables that the reading takes, are together of bulk at most 1048576: NARROWER than '..Said'. Prove '..Said' where nothing that the law and all that it calls make is longer than what came in: it says more and counts as full. Else prove '..UptoSaid'. A law counts once. -/
mutual
def uptoBulk {H : Type} : DataW H → Nat
  | .lit (.string bytes) => bytes.length + 1
  | .lit _ => 1
  | .nil => 1
  | .ptr d => uptoBulk d + 1
  | .slice elems spare => uptoBulkAll elems + uptoBulkAll spare + 1
  | .agg parts => uptoBulkAll parts + 1
  | .iface _ d => uptoBulk d + 1
  | .map entries => uptoBulkEntries entries + 1
  | .held _ => 1
def uptoBulkAll {H : Type} : List (DataW H) → Nat
  | [] => 0
  | d :: r => uptoBulk d + uptoBulkAll r
def uptoBulkEntries {H : Type} : List (Lit × DataW H) → Nat
  | [] => 0
  | x :: r => uptoBulkEntry x + uptoBulkEntries r
def uptoBulkEntry {H : Type} : Lit × DataW H → Nat
  | (.string bytes, d) => bytes.length + uptoBulk d + 1
  | (_, d) => uptoBulk d + 1
 end
def uptoSmall : (H : Type) → List (DataW H) → Bool := fun _ ds => decide (uptoBulkAll ds ≤ 1048576)
def OpenSpec.upto (s : _root_.Go.ChangeSpec) : _root_.Go.OpenSpec := { _root_.Go.OpenSpec.ofChange s with cond := some uptoSmall }

/-- 'quittancelaw09.DateNumbers', WHERE WHAT IT READS IS OF BULK AT MOST 1048576: true; the input reads as it did. -/
def dateNumbersUptoRow : OpenClaim := { program := "ytaojfkfdfpiejaa", sum := "afaaf85bdb5fad80cb833a3d21cc0ee9fbf95af18d2465a1ee825c05ef22f8c1", func := "quittance/quittancelaw09.DateNumbers", spec := "dateNumbers", inPlace := ["internal/abi.NoEscape"], apart := false, narrowed := true }
def DateNumbersUptoSaid : Prop := dateNumbersUptoRow.holds Try.pinned (OpenSpec.upto dateNumbersSpec)

/-- 'quittancelaw09.DateWeeks', WHERE WHAT IT READS IS OF BULK AT MOST 1048576: true; the input reads as it did. -/
def dateWeeksUptoRow : OpenClaim := { program := "ytaojfkfdfpiejaa", sum := "afaaf85bdb5fad80cb833a3d21cc0ee9fbf95af18d2465a1ee825c05ef22f8c1", func := "quittance/quittancelaw09.DateWeeks", spec := "dateWeeks", inPlace := ["internal/abi.NoEscape"], unfollowed := true, recurses := true, apart := false, narrowed := true }
def DateWeeksUptoSaid : Prop := dateWeeksUptoRow.holds Try.pinned (OpenSpec.upto dateWeeksSpec)

/-- 'quittancelaw09.DateSeconds', WHERE WHAT IT READS IS OF BULK AT MOST 1048576: true; the input reads as it did. -/
def dateSecondsUptoRow : OpenClaim := { program := "ytaojfkfdfpiejaa", sum := "afaaf85bdb5fad80cb833a3d21cc0ee9fbf95af18d2465a1ee825c05ef22f8c1", func := "quittance/quittancelaw09.DateSeconds", spec := "dateSeconds", inPlace := ["internal/abi.NoEscape"], apart := false, narrowed := true }
def DateSecondsUptoSaid : Prop := dateSecondsUptoRow.holds Try.pinned (OpenSpec.upto dateSecondsSpec)

/-- 'quittancelaw09.DateOfs', WHERE WHAT IT READS IS OF BULK AT MOST 1048576: true; the input reads as it did. -/
def dateOfsUptoRow : OpenClaim := { program := "ytaojfkfdfpiejaa", sum := "afaaf85bdb5fad80cb833a3d21cc0ee9fbf95af18d2465a1ee825c05ef22f8c1", func := "quittance/quittancelaw09.DateOfs", spec := "dateOfs", inPlace := ["internal/abi.NoEscape"], apart := false, narrowed := true }
def DateOfsUptoSaid : Prop := dateOfsUptoRow.holds Try.pinned (OpenSpec.upto dateOfsSpec)

/-- 'quittancelaw09.DateOrders', WHERE WHAT IT READS IS OF BULK AT MOST 1048576: true; the input reads as it did. -/
def dateOrdersUptoRow : OpenClaim := { program := "ytaojfkfdfpiejaa", sum := "afaaf85bdb5fad80cb833a3d21cc0ee9fbf95af18d2465a1ee825c05ef22f8c1", func := "quittance/quittancelaw09.DateOrders", spec := "dateOrders", inPlace := ["internal/abi.NoEscape"], apart := false, narrowed := true }
def DateOrdersUptoSaid : Prop := dateOrdersUptoRow.holds Try.pinned (OpenSpec.upto dateOrdersSpec)

end Rows
end Go.Proofs.Ytaojfkfdfpiejaa
