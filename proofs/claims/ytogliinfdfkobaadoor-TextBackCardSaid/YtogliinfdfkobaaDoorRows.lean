/-
  NARROWER THAN 'FOR EVERY INPUT', by the rows' own cells (each row's printed sentence says how): TextSigns: laid · TextKinds: laid · TextOfs: laid · TextWrites: laid · TextReads: laid · TextBack: laid.
  DERIVED. THE GIVEN ROWS OF THIS SEAT. 6 by the template 'for every input the law returns true; each argument reads behind the call as it read before'; 0 by the template 'total and deterministic' (their statements: YtogliinfdfkobaaDoorTotals.lean).
  GIVEN WITH THE SEED: the statements are not yours to turn. If you find one false, say at which input.
  Laid BY PROGRAM, IN A SANDBOX (cutbox-rows.mjs): the forced cells as the released guide's own fill.sh prints them over the translation 085e3ed8c253331c… (all of the seat's roots in one cut). By AI agents, Wed Nov 11 2026. No macro, syntax, notation, axiom, sorry.
-/
import Derived.Test.YtogliinfdfkobaaDoorChecked
import GoSem.PinnedTables
import GoSem.Claim
import GoSem.ClaimJoined
import GoSem.ClaimMapViews
import Derived.JoinedTies
import Derived.KernelRfl
namespace Go.Proofs.YtogliinfdfkobaaDoor
/- THE CELL 'sum', in the pinned program and in every row, IS THE sha256 OF THE DUMP (.gsa) THAT YtogliinfdfkobaaDoorProg.lean LOADS. Nothing in Lean hashes anything: it is a label: what it is worth is what the hold of that sum in a sandbox is worth. -/
noncomputable def Tryd.pinned : Pinned := { name := "ytogliinfdfkobaadoor", sum := "085e3ed8c253331c5beae2571737fe3957b7a972ccc2a9715c65c8ab86e53fdd", checked := Tryd.checked }
namespace Rows
def none {H : Type} : Left H := { results := [], args := [] }

/- WHAT THE LISTED PACKAGE-LEVEL VARIABLES READ AS WHEN THE CALL BEGINS. Each datum BY PROGRAM (the guide's laid-datum.mjs) off the statement by which the dump's own 'gosem.cut.vars' lays the variable. In a bare row this is a premise. The card (YtogliinfdfkobaaDoorCards.lean) ties it to the program's text. -/
def laid_unicode_utf8_acceptRanges {H : Type} : DataW H := .agg [.agg [.lit (.int .u8 128), .lit (.int .u8 191)], .agg [.lit (.int .u8 160), .lit (.int .u8 191)], .agg [.lit (.int .u8 128), .lit (.int .u8 159)], .agg [.lit (.int .u8 144), .lit (.int .u8 191)], .agg [.lit (.int .u8 128), .lit (.int .u8 143)], .agg [.lit (.int .u8 0), .lit (.int .u8 0)], .agg [.lit (.int .u8 0), .lit (.int .u8 0)], .agg [.lit (.int .u8 0), .lit (.int .u8 0)], .agg [.lit (.int .u8 0), .lit (.int .u8 0)], .agg [.lit (.int .u8 0), .lit (.int .u8 0)], .agg [.lit (.int .u8 0), .lit (.int .u8 0)], .agg [.lit (.int .u8 0), .lit (.int .u8 0)], .agg [.lit (.int .u8 0), .lit (.int .u8 0)], .agg [.lit (.int .u8 0), .lit (.int .u8 0)], .agg [.lit (.int .u8 0), .lit (.int .u8 0)], .agg [.lit (.int .u8 0), .lit (.int .u8 0)]]
/-- One of Go's own tables, pinned by name: the form's constant. -/
def laid_unicode_utf8_first : DataW Unit := Go.Pinned.utf8First

/-- 'quittancelaw06.TextSigns': WHATEVER THE INPUT: true; the input reads as it did. -/
def textSignsSpec : ChangeSpec := { name := "textSigns", fn := fun _ => fun
  | [d] => { results := [.lit (.bool true)], args := [d] }
  | _ => none }
def textSignsRow : OpenClaim := { program := "ytogliinfdfkobaadoor", sum := "085e3ed8c253331c5beae2571737fe3957b7a972ccc2a9715c65c8ab86e53fdd", func := "quittance/quittancelaw06.TextSigns", spec := "textSigns", inPlace := ["internal/bytealg.IndexByteString"], unfollowed := true, recurses := true, named := ["unicode/utf8.first", "unicode/utf8.acceptRanges"], apart := false, laid := [("unicode/utf8.acceptRanges", laid_unicode_utf8_acceptRanges), ("unicode/utf8.first", laid_unicode_utf8_first)] }
def TextSignsSaid : Prop := textSignsRow.holds Tryd.pinned (OpenSpec.ofChange textSignsSpec)

/-- ITS FALSE NEIGHBOUR: 'it returns false'. Refute it at one input. -/
def textSignsWrong : ChangeSpec := { name := "textSigns", fn := fun _ => fun
  | [d] => { results := [.lit (.bool false)], args := [d] }
  | _ => none }
def TextSignsWrongFalsely : Prop := textSignsRow.holds Tryd.pinned (OpenSpec.ofChange textSignsWrong)

/-- 'quittancelaw06.TextKinds': WHATEVER THE INPUT: true; the input reads as it did. -/
def textKindsSpec : ChangeSpec := { name := "textKinds", fn := fun _ => fun
  | [d] => { results := [.lit (.bool true)], args := [d] }
  | _ => none }
def textKindsRow : OpenClaim := { program := "ytogliinfdfkobaadoor", sum := "085e3ed8c253331c5beae2571737fe3957b7a972ccc2a9715c65c8ab86e53fdd", func := "quittance/quittancelaw06.TextKinds", spec := "textKinds", inPlace := ["internal/bytealg.IndexByteString"], unfollowed := true, recurses := true, named := ["unicode/utf8.first", "unicode/utf8.acceptRanges"], apart := false, laid := [("unicode/utf8.acceptRanges", laid_unicode_utf8_acceptRanges), ("unicode/utf8.first", laid_unicode_utf8_first)] }
def TextKindsSaid : Prop := textKindsRow.holds Tryd.pinned (OpenSpec.ofChange textKindsSpec)

/-- ITS FALSE NEIGHBOUR: 'it returns false'. Refute it at one input. -/
def textKindsWrong : ChangeSpec := { name := "textKinds", fn := fun _ => fun
  | [d] => { results := [.lit (.bool false)], args := [d] }
  | _ => none }
def TextKindsWrongFalsely : Prop := textKindsRow.holds Tryd.pinned (OpenSpec.ofChange textKindsWrong)

/-- 'quittancelaw06.TextOfs': WHATEVER THE INPUT: true; the input reads as it did. -/
def textOfsSpec : ChangeSpec := { name := "textOfs", fn := fun _ => fun
  | [d1, d2, d3] => { results := [.lit (.bool true)], args := [d1, d2, d3] }
  | _ => none }
def textOfsRow : OpenClaim := { program := "ytogliinfdfkobaadoor", sum := "085e3ed8c253331c5beae2571737fe3957b7a972ccc2a9715c65c8ab86e53fdd", func := "quittance/quittancelaw06.TextOfs", spec := "textOfs", inPlace := ["internal/bytealg.IndexByteString"], unfollowed := true, recurses := true, named := ["unicode/utf8.first", "unicode/utf8.acceptRanges"], apart := false, laid := [("unicode/utf8.acceptRanges", laid_unicode_utf8_acceptRanges), ("unicode/utf8.first", laid_unicode_utf8_first)] }
def TextOfsSaid : Prop := textOfsRow.holds Tryd.pinned (OpenSpec.ofChange textOfsSpec)

/-- ITS FALSE NEIGHBOUR: 'it returns false'. Refute it at one input. -/
def textOfsWrong : ChangeSpec := { name := "textOfs", fn := fun _ => fun
  | [d1, d2, d3] => { results := [.lit (.bool false)], args := [d1, d2, d3] }
  | _ => none }
def TextOfsWrongFalsely : Prop := textOfsRow.holds Tryd.pinned (OpenSpec.ofChange textOfsWrong)

/-- 'quittancelaw06.TextWrites': WHATEVER THE INPUT: true; the input reads as it did. -/
def textWritesSpec : ChangeSpec := { name := "textWrites", fn := fun _ => fun
  | [d1, d2] => { results := [.lit (.bool true)], args := [d1, d2] }
  | _ => none }
def textWritesRow : OpenClaim := { program := "ytogliinfdfkobaadoor", sum := "085e3ed8c253331c5beae2571737fe3957b7a972ccc2a9715c65c8ab86e53fdd", func := "quittance/quittancelaw06.TextWrites", spec := "textWrites", inPlace := ["internal/bytealg.IndexByteString"], unfollowed := true, recurses := true, named := ["unicode/utf8.first", "unicode/utf8.acceptRanges"], apart := false, laid := [("unicode/utf8.acceptRanges", laid_unicode_utf8_acceptRanges), ("unicode/utf8.first", laid_unicode_utf8_first)] }
def TextWritesSaid : Prop := textWritesRow.holds Tryd.pinned (OpenSpec.ofChange textWritesSpec)

/-- ITS FALSE NEIGHBOUR: 'it returns false'. Refute it at one input. -/
def textWritesWrong : ChangeSpec := { name := "textWrites", fn := fun _ => fun
  | [d1, d2] => { results := [.lit (.bool false)], args := [d1, d2] }
  | _ => none }
def TextWritesWrongFalsely : Prop := textWritesRow.holds Tryd.pinned (OpenSpec.ofChange textWritesWrong)

/-- 'quittancelaw06.TextReads': WHATEVER THE INPUT: true; the input reads as it did. -/
def textReadsSpec : ChangeSpec := { name := "textReads", fn := fun _ => fun
  | [d1, d2] => { results := [.lit (.bool true)], args := [d1, d2] }
  | _ => none }
def textReadsRow : OpenClaim := { program := "ytogliinfdfkobaadoor", sum := "085e3ed8c253331c5beae2571737fe3957b7a972ccc2a9715c65c8ab86e53fdd", func := "quittance/quittancelaw06.TextReads", spec := "textReads", inPlace := ["internal/bytealg.IndexByteString"], unfollowed := true, recurses := true, named := ["unicode/utf8.first", "unicode/utf8.acceptRanges"], apart := false, laid := [("unicode/utf8.acceptRanges", laid_unicode_utf8_acceptRanges), ("unicode/utf8.first", laid_unicode_utf8_first)] }
def TextReadsSaid : Prop := textReadsRow.holds Tryd.pinned (OpenSpec.ofChange textReadsSpec)

/-- ITS FALSE NEIGHBOUR: 'it returns false'. Refute it at one input. -/
def textReadsWrong : ChangeSpec := { name := "textReads", fn := fun _ => fun
  | [d1, d2] => { results := [.lit (.bool false)], args := [d1, d2] }
  | _ => none }
def TextReadsWrongFalsely : Prop := textReadsRow.holds Tryd.pinned (OpenSpec.ofChange textReadsWrong)

/-- 'quittancelaw06.TextBack': WHATEVER THE INPUT: true; the input reads as it did. -/
def textBackSpec : ChangeSpec := { name := "textBack", fn := fun _ => fun
  | [d] => { results := [.lit (.bool true)], args := [d] }
  | _ => none }
def textBackRow : OpenClaim := { program := "ytogliinfdfkobaadoor", sum := "085e3ed8c253331c5beae2571737fe3957b7a972ccc2a9715c65c8ab86e53fdd", func := "quittance/quittancelaw06.TextBack", spec := "textBack", inPlace := ["internal/bytealg.IndexByteString"], unfollowed := true, recurses := true, named := ["unicode/utf8.first", "unicode/utf8.acceptRanges"], apart := false, laid := [("unicode/utf8.acceptRanges", laid_unicode_utf8_acceptRanges), ("unicode/utf8.first", laid_unicode_utf8_first)] }
def TextBackSaid : Prop := textBackRow.holds Tryd.pinned (OpenSpec.ofChange textBackSpec)

/-- ITS FALSE NEIGHBOUR: 'it returns false'. Refute it at one input. -/
def textBackWrong : ChangeSpec := { name := "textBack", fn := fun _ => fun
  | [d] => { results := [.lit (.bool false)], args := [d] }
  | _ => none }
def TextBackWrongFalsely : Prop := textBackRow.holds Tryd.pinned (OpenSpec.ofChange textBackWrong)

/- THE SECOND FORM. 'bulk': how many values and letters a reading holds, each counted each time it is reached (what is shared counts as often as it is met; a slice's spare places count too). A statement '..UptoSaid' is the law's where the arguments, and the package variables that the reading takes, are together of bulk at most 1048576: NARROWER than '..Said'. Prove '..Said' where nothing that the law and all that it calls make is longer than what came in: it says more and counts as full. Else prove '..UptoSaid'. A law counts once. -/
mutual
def uptoBulk {H : Type} : DataW H → Nat
  | .lit (.string bytes) => bytes.length + 1
  | .lit _ => 1
  | .nil => 1
  | .ptr d => uptoBulk d + 1
  | .slice elems spare => uptoBulkAll elems + uptoBulkAll spare + 1
  | .agg parts => uptoBulkAll parts + 1
  | .iface _ d => uptoBulk d + 1
  | .map entries => uptoBulkEntries entries + 1
  | .held _ => 1
def uptoBulkAll {H : Type} : List (DataW H) → Nat
  | [] => 0
  | d :: r => uptoBulk d + uptoBulkAll r
def uptoBulkEntries {H : Type} : List (Lit × DataW H) → Nat
  | [] => 0
  | x :: r => uptoBulkEntry x + uptoBulkEntries r
def uptoBulkEntry {H : Type} : Lit × DataW H → Nat
  | (.string bytes, d) => bytes.length + uptoBulk d + 1
  | (_, d) => uptoBulk d + 1
 end
def uptoSmall : (H : Type) → List (DataW H) → Bool := fun _ ds => decide (uptoBulkAll ds ≤ 1048576)
def OpenSpec.upto (s : _root_.Go.ChangeSpec) : _root_.Go.OpenSpec := { _root_.Go.OpenSpec.ofChange s with cond := some uptoSmall }

/-- 'quittancelaw06.TextSigns', WHERE WHAT IT READS IS OF BULK AT MOST 1048576: true; the input reads as it did. -/
def textSignsUptoRow : OpenClaim := { program := "ytogliinfdfkobaadoor", sum := "085e3ed8c253331c5beae2571737fe3957b7a972ccc2a9715c65c8ab86e53fdd", func := "quittance/quittancelaw06.TextSigns", spec := "textSigns", inPlace := ["internal/bytealg.IndexByteString"], unfollowed := true, recurses := true, named := ["unicode/utf8.first", "unicode/utf8.acceptRanges"], apart := false, laid := [("unicode/utf8.acceptRanges", laid_unicode_utf8_acceptRanges), ("unicode/utf8.first", laid_unicode_utf8_first)], narrowed := true }
def TextSignsUptoSaid : Prop := textSignsUptoRow.holds Tryd.pinned (OpenSpec.upto textSignsSpec)

/-- 'quittancelaw06.TextKinds', WHERE WHAT IT READS IS OF BULK AT MOST 1048576: true; the input reads as it did. -/
def textKindsUptoRow : OpenClaim := { program := "ytogliinfdfkobaadoor", sum := "085e3ed8c253331c5beae2571737fe3957b7a972ccc2a9715c65c8ab86e53fdd", func := "quittance/quittancelaw06.TextKinds", spec := "textKinds", inPlace := ["internal/bytealg.IndexByteString"], unfollowed := true, recurses := true, named := ["unicode/utf8.first", "unicode/utf8.acceptRanges"], apart := false, laid := [("unicode/utf8.acceptRanges", laid_unicode_utf8_acceptRanges), ("unicode/utf8.first", laid_unicode_utf8_first)], narrowed := true }
def TextKindsUptoSaid : Prop := textKindsUptoRow.holds Tryd.pinned (OpenSpec.upto textKindsSpec)

/-- 'quittancelaw06.TextOfs', WHERE WHAT IT READS IS OF BULK AT MOST 1048576: true; the input reads as it did. -/
def textOfsUptoRow : OpenClaim := { program := "ytogliinfdfkobaadoor", sum := "085e3ed8c253331c5beae2571737fe3957b7a972ccc2a9715c65c8ab86e53fdd", func := "quittance/quittancelaw06.TextOfs", spec := "textOfs", inPlace := ["internal/bytealg.IndexByteString"], unfollowed := true, recurses := true, named := ["unicode/utf8.first", "unicode/utf8.acceptRanges"], apart := false, laid := [("unicode/utf8.acceptRanges", laid_unicode_utf8_acceptRanges), ("unicode/utf8.first", laid_unicode_utf8_first)], narrowed := true }
def TextOfsUptoSaid : Prop := textOfsUptoRow.holds Tryd.pinned (OpenSpec.upto textOfsSpec)

/-- 'quittancelaw06.TextWrites', WHERE WHAT IT READS IS OF BULK AT MOST 1048576: true; the input reads as it did. -/
def textWritesUptoRow : OpenClaim := { program := "ytogliinfdfkobaadoor", sum := "085e3ed8c253331c5beae2571737fe3957b7a972ccc2a9715c65c8ab86e53fdd", func := "quittance/quittancelaw06.TextWrites", spec := "textWrites", inPlace := ["internal/bytealg.IndexByteString"], unfollowed := true, recurses := true, named := ["unicode/utf8.first", "unicode/utf8.acceptRanges"], apart := false, laid := [("unicode/utf8.acceptRanges", laid_unicode_utf8_acceptRanges), ("unicode/utf8.first", laid_unicode_utf8_first)], narrowed := true }
def TextWritesUptoSaid : Prop := textWritesUptoRow.holds Tryd.pinned (OpenSpec.upto textWritesSpec)

/-- 'quittancelaw06.TextReads', WHERE WHAT IT READS IS OF BULK AT MOST 1048576: true; the input reads as it did. -/
def textReadsUptoRow : OpenClaim := { program := "ytogliinfdfkobaadoor", sum := "085e3ed8c253331c5beae2571737fe3957b7a972ccc2a9715c65c8ab86e53fdd", func := "quittance/quittancelaw06.TextReads", spec := "textReads", inPlace := ["internal/bytealg.IndexByteString"], unfollowed := true, recurses := true, named := ["unicode/utf8.first", "unicode/utf8.acceptRanges"], apart := false, laid := [("unicode/utf8.acceptRanges", laid_unicode_utf8_acceptRanges), ("unicode/utf8.first", laid_unicode_utf8_first)], narrowed := true }
def TextReadsUptoSaid : Prop := textReadsUptoRow.holds Tryd.pinned (OpenSpec.upto textReadsSpec)

/-- 'quittancelaw06.TextBack', WHERE WHAT IT READS IS OF BULK AT MOST 1048576: true; the input reads as it did. -/
def textBackUptoRow : OpenClaim := { program := "ytogliinfdfkobaadoor", sum := "085e3ed8c253331c5beae2571737fe3957b7a972ccc2a9715c65c8ab86e53fdd", func := "quittance/quittancelaw06.TextBack", spec := "textBack", inPlace := ["internal/bytealg.IndexByteString"], unfollowed := true, recurses := true, named := ["unicode/utf8.first", "unicode/utf8.acceptRanges"], apart := false, laid := [("unicode/utf8.acceptRanges", laid_unicode_utf8_acceptRanges), ("unicode/utf8.first", laid_unicode_utf8_first)], narrowed := true }
def TextBackUptoSaid : Prop := textBackUptoRow.holds Tryd.pinned (OpenSpec.upto textBackSpec)

end Rows
end Go.Proofs.YtogliinfdfkobaaDoor
