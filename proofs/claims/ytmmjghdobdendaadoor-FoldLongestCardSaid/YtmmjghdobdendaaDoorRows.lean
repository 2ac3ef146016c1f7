/-
  NARROWER THAN 'FOR EVERY INPUT', by the rows' own cells (each row's printed sentence says how): FoldKeys: laid · FoldAgain: laid · FoldHosts: laid · FoldUnder: laid · FoldSame: laid · FoldLongest: laid.
  DERIVED. THE GIVEN ROWS OF THIS SEAT. 6 by the template 'for every input the law returns true; each argument reads behind the call as it read before'; 0 by the template 'total and deterministic' (their statements: YtmmjghdobdendaaDoorTotals.lean).
  GIVEN WITH THE SEED: the statements are not yours to turn. If you find one false, say at which input.
  Laid BY PROGRAM, IN A SANDBOX (cutbox-rows.mjs): the forced cells as the released guide's own fill.sh prints them over the translation d608c5b0e7dddf4f… (all of the seat's roots in one cut). By AI agents, Wed Nov 11 2026. No macro, syntax, notation, axiom, sorry.
-/
import Derived.Test.YtmmjghdobdendaaDoorChecked
import GoSem.PinnedTables
import GoSem.Claim
import GoSem.ClaimJoined
import GoSem.ClaimMapViews
import Derived.JoinedTies
import Derived.KernelRfl
namespace Go.Proofs.YtmmjghdobdendaaDoor
/- THE CELL 'sum', in the pinned program and in every row, IS THE sha256 OF THE DUMP (.gsa) THAT YtmmjghdobdendaaDoorProg.lean LOADS. Nothing in Lean hashes anything: it is a label: what it is worth is what the hold of that sum in a sandbox is worth. -/
noncomputable def Tryd.pinned : Pinned := { name := "ytmmjghdobdendaadoor", sum := "d608c5b0e7dddf4f80879d3ff5f889372087ee7cecbfc13850e919b1fe03976c", checked := Tryd.checked }
namespace Rows
def none {H : Type} : Left H := { results := [], args := [] }

/- WHAT THE LISTED PACKAGE-LEVEL VARIABLES READ AS WHEN THE CALL BEGINS. Each datum BY PROGRAM (the guide's laid-datum.mjs) off the statement by which the dump's own 'gosem.cut.vars' lays the variable. In a bare row this is a premise. The card (YtmmjghdobdendaaDoorCards.lean) ties it to the program's text. -/
def laid_unicode_utf8_acceptRanges {H : Type} : DataW H := .agg [.agg [.lit (.int .u8 128), .lit (.int .u8 191)], .agg [.lit (.int .u8 160), .lit (.int .u8 191)], .agg [.lit (.int .u8 128), .lit (.int .u8 159)], .agg [.lit (.int .u8 144), .lit (.int .u8 191)], .agg [.lit (.int .u8 128), .lit (.int .u8 143)], .agg [.lit (.int .u8 0), .lit (.int .u8 0)], .agg [.lit (.int .u8 0), .lit (.int .u8 0)], .agg [.lit (.int .u8 0), .lit (.int .u8 0)], .agg [.lit (.int .u8 0), .lit (.int .u8 0)], .agg [.lit (.int .u8 0), .lit (.int .u8 0)], .agg [.lit (.int .u8 0), .lit (.int .u8 0)], .agg [.lit (.int .u8 0), .lit (.int .u8 0)], .agg [.lit (.int .u8 0), .lit (.int .u8 0)], .agg [.lit (.int .u8 0), .lit (.int .u8 0)], .agg [.lit (.int .u8 0), .lit (.int .u8 0)], .agg [.lit (.int .u8 0), .lit (.int .u8 0)]]
/-- One of Go's own tables, pinned by name: the form's constant. -/
def laid_unicode_utf8_first : DataW Unit := Go.Pinned.utf8First

/-- 'quittancelaw13.FoldKeys': WHATEVER THE INPUT: true; the input reads as it did. -/
def foldKeysSpec : ChangeSpec := { name := "foldKeys", fn := fun _ => fun
  | [d1, d2] => { results := [.lit (.bool true)], args := [d1, d2] }
  | _ => none }
def foldKeysRow : OpenClaim := { program := "ytmmjghdobdendaadoor", sum := "d608c5b0e7dddf4f80879d3ff5f889372087ee7cecbfc13850e919b1fe03976c", func := "quittance/quittancelaw13.FoldKeys", spec := "foldKeys", inPlace := ["internal/bytealg.IndexByteString", "internal/bytealg.CountString", "internal/bytealg.IndexString"], unfollowed := true, recurses := true, named := ["unicode/utf8.first", "unicode/utf8.acceptRanges", "internal/bytealg.MaxLen"], apart := false, laid := [("unicode/utf8.acceptRanges", laid_unicode_utf8_acceptRanges), ("unicode/utf8.first", laid_unicode_utf8_first)] }
def FoldKeysSaid : Prop := foldKeysRow.holds Tryd.pinned (OpenSpec.ofChange foldKeysSpec)

/-- ITS FALSE NEIGHBOUR: 'it returns false'. Refute it at one input. -/
def foldKeysWrong : ChangeSpec := { name := "foldKeys", fn := fun _ => fun
  | [d1, d2] => { results := [.lit (.bool false)], args := [d1, d2] }
  | _ => none }
def FoldKeysWrongFalsely : Prop := foldKeysRow.holds Tryd.pinned (OpenSpec.ofChange foldKeysWrong)

/-- 'quittancelaw13.FoldAgain': WHATEVER THE INPUT: true; the input reads as it did. -/
def foldAgainSpec : ChangeSpec := { name := "foldAgain", fn := fun _ => fun
  | [d] => { results := [.lit (.bool true)], args := [d] }
  | _ => none }
def foldAgainRow : OpenClaim := { program := "ytmmjghdobdendaadoor", sum := "d608c5b0e7dddf4f80879d3ff5f889372087ee7cecbfc13850e919b1fe03976c", func := "quittance/quittancelaw13.FoldAgain", spec := "foldAgain", inPlace := ["internal/bytealg.IndexByteString", "internal/bytealg.CountString", "internal/bytealg.IndexString"], unfollowed := true, recurses := true, named := ["unicode/utf8.first", "unicode/utf8.acceptRanges", "internal/bytealg.MaxLen"], apart := false, laid := [("unicode/utf8.acceptRanges", laid_unicode_utf8_acceptRanges), ("unicode/utf8.first", laid_unicode_utf8_first)] }
def FoldAgainSaid : Prop := foldAgainRow.holds Tryd.pinned (OpenSpec.ofChange foldAgainSpec)

/-- ITS FALSE NEIGHBOUR: 'it returns false'. Refute it at one input. -/
def foldAgainWrong : ChangeSpec := { name := "foldAgain", fn := fun _ => fun
  | [d] => { results := [.lit (.bool false)], args := [d] }
  | _ => none }
def FoldAgainWrongFalsely : Prop := foldAgainRow.holds Tryd.pinned (OpenSpec.ofChange foldAgainWrong)

/-- 'quittancelaw13.FoldHosts': WHATEVER THE INPUT: true; the input reads as it did. -/
def foldHostsSpec : ChangeSpec := { name := "foldHosts", fn := fun _ => fun
  | [d1, d2] => { results := [.lit (.bool true)], args := [d1, d2] }
  | _ => none }
def foldHostsRow : OpenClaim := { program := "ytmmjghdobdendaadoor", sum := "d608c5b0e7dddf4f80879d3ff5f889372087ee7cecbfc13850e919b1fe03976c", func := "quittance/quittancelaw13.FoldHosts", spec := "foldHosts", inPlace := ["internal/bytealg.CountString", "internal/bytealg.IndexByteString", "internal/bytealg.IndexString"], unfollowed := true, recurses := true, named := ["unicode/utf8.first", "unicode/utf8.acceptRanges", "internal/bytealg.MaxLen"], apart := false, laid := [("unicode/utf8.acceptRanges", laid_unicode_utf8_acceptRanges), ("unicode/utf8.first", laid_unicode_utf8_first)] }
def FoldHostsSaid : Prop := foldHostsRow.holds Tryd.pinned (OpenSpec.ofChange foldHostsSpec)

/-- ITS FALSE NEIGHBOUR: 'it returns false'. Refute it at one input. -/
def foldHostsWrong : ChangeSpec := { name := "foldHosts", fn := fun _ => fun
  | [d1, d2] => { results := [.lit (.bool false)], args := [d1, d2] }
  | _ => none }
def FoldHostsWrongFalsely : Prop := foldHostsRow.holds Tryd.pinned (OpenSpec.ofChange foldHostsWrong)

/-- 'quittancelaw13.FoldUnder': WHATEVER THE INPUT: true; the input reads as it did. -/
def foldUnderSpec : ChangeSpec := { name := "foldUnder", fn := fun _ => fun
  | [d1, d2, d3] => { results := [.lit (.bool true)], args := [d1, d2, d3] }
  | _ => none }
def foldUnderRow : OpenClaim := { program := "ytmmjghdobdendaadoor", sum := "d608c5b0e7dddf4f80879d3ff5f889372087ee7cecbfc13850e919b1fe03976c", func := "quittance/quittancelaw13.FoldUnder", spec := "foldUnder", inPlace := ["internal/bytealg.CountString", "internal/bytealg.IndexByteString", "internal/bytealg.IndexString"], unfollowed := true, recurses := true, named := ["unicode/utf8.first", "unicode/utf8.acceptRanges", "internal/bytealg.MaxLen"], apart := false, laid := [("unicode/utf8.acceptRanges", laid_unicode_utf8_acceptRanges), ("unicode/utf8.first", laid_unicode_utf8_first)] }
def FoldUnderSaid : Prop := foldUnderRow.holds Tryd.pinned (OpenSpec.ofChange foldUnderSpec)

/-- ITS FALSE NEIGHBOUR: 'it returns false'. Refute it at one input. -/
def foldUnderWrong : ChangeSpec := { name := "foldUnder", fn := fun _ => fun
  | [d1, d2, d3] => { results := [.lit (.bool false)], args := [d1, d2, d3] }
  | _ => none }
def FoldUnderWrongFalsely : Prop := foldUnderRow.holds Tryd.pinned (OpenSpec.ofChange foldUnderWrong)

/-- 'quittancelaw13.FoldSame': WHATEVER THE INPUT: true; the input reads as it did. -/
def foldSameSpec : ChangeSpec := { name := "foldSame", fn := fun _ => fun
  | [d1, d2, d3] => { results := [.lit (.bool true)], args := [d1, d2, d3] }
  | _ => none }
def foldSameRow : OpenClaim := { program := "ytmmjghdobdendaadoor", sum := "d608c5b0e7dddf4f80879d3ff5f889372087ee7cecbfc13850e919b1fe03976c", func := "quittance/quittancelaw13.FoldSame", spec := "foldSame", inPlace := ["internal/bytealg.IndexByteString", "internal/bytealg.CountString", "internal/bytealg.IndexString"], unfollowed := true, recurses := true, named := ["unicode/utf8.first", "unicode/utf8.acceptRanges", "internal/bytealg.MaxLen"], apart := false, laid := [("unicode/utf8.acceptRanges", laid_unicode_utf8_acceptRanges), ("unicode/utf8.first", laid_unicode_utf8_first)] }
def FoldSameSaid : Prop := foldSameRow.holds Tryd.pinned (OpenSpec.ofChange foldSameSpec)

/-- ITS FALSE NEIGHBOUR: 'it returns false'. Refute it at one input. -/
def foldSameWrong : ChangeSpec := { name := "foldSame", fn := fun _ => fun
  | [d1, d2, d3] => { results := [.lit (.bool false)], args := [d1, d2, d3] }
  | _ => none }
def FoldSameWrongFalsely : Prop := foldSameRow.holds Tryd.pinned (OpenSpec.ofChange foldSameWrong)

/-- 'quittancelaw13.FoldLongest': WHATEVER THE INPUT: true; the input reads as it did. -/
def foldLongestSpec : ChangeSpec := { name := "foldLongest", fn := fun _ => fun
  | [d] => { results := [.lit (.bool true)], args := [d] }
  | _ => none }
def foldLongestRow : OpenClaim := { program := "ytmmjghdobdendaadoor", sum := "d608c5b0e7dddf4f80879d3ff5f889372087ee7cecbfc13850e919b1fe03976c", func := "quittance/quittancelaw13.FoldLongest", spec := "foldLongest", inPlace := ["internal/bytealg.IndexByteString", "internal/bytealg.CountString", "internal/bytealg.IndexString"], unfollowed := true, recurses := true, named := ["unicode/utf8.first", "unicode/utf8.acceptRanges", "internal/bytealg.MaxLen"], apart := false, laid := [("unicode/utf8.acceptRanges", laid_unicode_utf8_acceptRanges), ("unicode/utf8.first", laid_unicode_utf8_first)] }
def FoldLongestSaid : Prop := foldLongestRow.holds Tryd.pinned (OpenSpec.ofChange foldLongestSpec)

/-- ITS FALSE NEIGHBOUR: 'it returns false'. Refute it at one input. -/
def foldLongestWrong : ChangeSpec := { name := "foldLongest", fn := fun _ => fun
  | [d] => { results := [.lit (.bool false)], args := [d] }
  | _ => none }
def FoldLongestWrongFalsely : Prop := foldLongestRow.holds Tryd.pinned (OpenSpec.ofChange foldLongestWrong)

/- THE SECOND FORM. 'bulk': how many values and letters a reading holds, each counted each time it is reached (what is shared counts as often as it is met; a slice's spare places count too). A statement '..UptoSaid' is the law's where the arguments, and the package variables that the reading takes, are together of bulk at most 1048576: NARROWER than '..Said'. Prove '..Said' where nothing that the law and all that it calls make is longer than what came in: it says more and counts as full. Else prove '..UptoSaid'. A law counts once. -/
mutual
def uptoBulk {H : Type} : DataW H → Nat
  | .lit (.string bytes) => bytes.length + 1
  | .lit _ => 1
  | .nil => 1
  | .ptr d => uptoBulk d + 1
  | .slice elems spare => uptoBulkAll elems + uptoBulkAll spare + 1
  | .agg parts => uptoBulkAll parts + 1
  | .iface _ d => uptoBulk d + 1
  | .map entries => uptoBulkEntries entries + 1
  | .held _ => 1
def uptoBulkAll {H : Type} : List (DataW H) → Nat
  | [] => 0
  | d :: r => uptoBulk d + uptoBulkAll r
def uptoBulkEntries {H : Type} : List (Lit × DataW H) → Nat
  | [] => 0
  | x :: r => uptoBulkEntry x + uptoBulkEntries r
def uptoBulkEntry {H : Type} : Lit × DataW H → Nat
  | (.string bytes, d) => bytes.length + uptoBulk d + 1
  | (_, d) => uptoBulk d + 1
 end
def uptoSmall : (H : Type) → List (DataW H) → Bool := fun _ ds => decide (uptoBulkAll ds ≤ 1048576)
def OpenSpec.upto (s : _root_.Go.ChangeSpec) : _root_.Go.OpenSpec := { _root_.Go.OpenSpec.ofChange s with cond := some uptoSmall }

/-- 'quittancelaw13.FoldKeys', WHERE WHAT IT READS IS OF BULK AT MOST 1048576: true; the input reads as it did. -/
def foldKeysUptoRow : OpenClaim := { program := "ytmmjghdobdendaadoor", sum := "d608c5b0e7dddf4f80879d3ff5f889372087ee7cecbfc13850e919b1fe03976c", func := "quittance/quittancelaw13.FoldKeys", spec := "foldKeys", inPlace := ["internal/bytealg.IndexByteString", "internal/bytealg.CountString", "internal/bytealg.IndexString"], unfollowed := true, recurses := true, named := ["unicode/utf8.first", "unicode/utf8.acceptRanges", "internal/bytealg.MaxLen"], apart := false, laid := [("unicode/utf8.acceptRanges", laid_unicode_utf8_acceptRanges), ("unicode/utf8.first", laid_unicode_utf8_first)], narrowed := true }
def FoldKeysUptoSaid : Prop := foldKeysUptoRow.holds Tryd.pinned (OpenSpec.upto foldKeysSpec)

/-- 'quittancelaw13.FoldAgain', WHERE WHAT IT READS IS OF BULK AT MOST 1048576: true; the input reads as it did. -/
def foldAgainUptoRow : OpenClaim := { program := "ytmmjghdobdendaadoor", sum := "d608c5b0e7dddf4f80879d3ff5f889372087ee7cecbfc13850e919b1fe03976c", func := "quittance/quittancelaw13.FoldAgain", spec := "foldAgain", inPlace := ["internal/bytealg.IndexByteString", "internal/bytealg.CountString", "internal/bytealg.IndexString"], unfollowed := true, recurses := true, named := ["unicode/utf8.first", "unicode/utf8.acceptRanges", "internal/bytealg.MaxLen"], apart := false, laid := [("unicode/utf8.acceptRanges", laid_unicode_utf8_acceptRanges), ("unicode/utf8.first", laid_unicode_utf8_first)], narrowed := true }
def FoldAgainUptoSaid : Prop := foldAgainUptoRow.holds Tryd.pinned (OpenSpec.upto foldAgainSpec)

/-- 'quittancelaw13.FoldHosts', WHERE WHAT IT READS IS OF BULK AT MOST 1048576: true; the input reads as it did. -/
def foldHostsUptoRow : OpenClaim := { program := "ytmmjghdobdendaadoor", sum := "d608c5b0e7dddf4f80879d3ff5f889372087ee7cecbfc13850e919b1fe03976c", func := "quittance/quittancelaw13.FoldHosts", spec := "foldHosts", inPlace := ["internal/bytealg.CountString", "internal/bytealg.IndexByteString", "internal/bytealg.IndexString"], unfollowed := true, recurses := true, named := ["unicode/utf8.first", "unicode/utf8.acceptRanges", "internal/bytealg.MaxLen"], apart := false, laid := [("unicode/utf8.acceptRanges", laid_unicode_utf8_acceptRanges), ("unicode/utf8.first", laid_unicode_utf8_first)], narrowed := true }
def FoldHostsUptoSaid : Prop := foldHostsUptoRow.holds Tryd.pinned (OpenSpec.upto foldHostsSpec)

/-- 'quittancelaw13.FoldUnder', WHERE WHAT IT READS IS OF BULK AT MOST 1048576: true; the input reads as it did. -/
def foldUnderUptoRow : OpenClaim := { program := "ytmmjghdobdendaadoor", sum := "d608c5b0e7dddf4f80879d3ff5f889372087ee7cecbfc13850e919b1fe03976c", func := "quittance/quittancelaw13.FoldUnder", spec := "foldUnder", inPlace := ["internal/bytealg.CountString", "internal/bytealg.IndexByteString", "internal/bytealg.IndexString"], unfollowed := true, recurses := true, named := ["unicode/utf8.first", "unicode/utf8.acceptRanges", "internal/bytealg.MaxLen"], apart := false, laid := [("unicode/utf8.acceptRanges", laid_unicode_utf8_acceptRanges), ("unicode/utf8.first", laid_unicode_utf8_first)], narrowed := true }
def FoldUnderUptoSaid : Prop := foldUnderUptoRow.holds Tryd.pinned (OpenSpec.upto foldUnderSpec)

/-- 'quittancelaw13.FoldSame', WHERE WHAT IT READS IS OF BULK AT MOST 1048576: true; the input reads as it did. -/
def foldSameUptoRow : OpenClaim := { program := "ytmmjghdobdendaadoor", sum := "d608c5b0e7dddf4f80879d3ff5f889372087ee7cecbfc13850e919b1fe03976c", func := "quittance/quittancelaw13.FoldSame", spec := "foldSame", inPlace := ["internal/bytealg.IndexByteString", "internal/bytealg.CountString", "internal/bytealg.IndexString"], unfollowed := true, recurses := true, named := ["unicode/utf8.first", "unicode/utf8.acceptRanges", "internal/bytealg.MaxLen"], apart := false, laid := [("unicode/utf8.acceptRanges", laid_unicode_utf8_acceptRanges), ("unicode/utf8.first", laid_unicode_utf8_first)], narrowed := true }
def FoldSameUptoSaid : Prop := foldSameUptoRow.holds Tryd.pinned (OpenSpec.upto foldSameSpec)

/-- 'quittancelaw13.FoldLongest', WHERE WHAT IT READS IS OF BULK AT MOST 1048576: true; the input reads as it did. -/
def foldLongestUptoRow : OpenClaim := { program := "ytmmjghdobdendaadoor", sum := "d608c5b0e7dddf4f80879d3ff5f889372087ee7cecbfc13850e919b1fe03976c", func := "quittance/quittancelaw13.FoldLongest", spec := "foldLongest", inPlace := ["internal/bytealg.IndexByteString", "internal/bytealg.CountString", "internal/bytealg.IndexString"], unfollowed := true, recurses := true, named := ["unicode/utf8.first", "unicode/utf8.acceptRanges", "internal/bytealg.MaxLen"], apart := false, laid := [("unicode/utf8.acceptRanges", laid_unicode_utf8_acceptRanges), ("unicode/utf8.first", laid_unicode_utf8_first)], narrowed := true }
def FoldLongestUptoSaid : Prop := foldLongestUptoRow.holds Tryd.pinned (OpenSpec.upto foldLongestSpec)

end Rows
end Go.Proofs.YtmmjghdobdendaaDoor
