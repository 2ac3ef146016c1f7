/-
  No cell of these rows narrows 'for every input' (looked for: loops, veiled, ifaces, maps, wideKeys, modest, calm, conditions, laid).
  DERIVED. THE GIVEN ROWS OF THIS SEAT. 12 by the template 'for every input the law returns true; each argument reads behind the call as it read before'; 0 by the template 'total and deterministic' (their statements: YtldblmgmcmnepaaTotals.lean).
  GIVEN WITH THE SEED: the statements are not yours to turn. If you find one false, say at which input.
  Laid BY PROGRAM, IN A SANDBOX (cutbox-rows.mjs): the forced cells as the released guide's own fill.sh prints them over the translation c50589df0f70798a… (all of the seat's roots in one cut). By AI agents, Wed Nov 11 2026. No macro, syntax, notation, axiom, sorry.
-/
import Derived.Test.YtldblmgmcmnepaaChecked
import GoSem.Claim
import GoSem.ClaimJoined
import GoSem.ClaimMapViews
import Derived.JoinedTies
import Derived.KernelRfl
namespace Go.Proofs.Ytldblmgmcmnepaa
/- THE CELL 'sum', in the pinned program and in every row, IS THE sha256 OF THE DUMP (.gsa) THAT YtldblmgmcmnepaaProg.lean LOADS. Nothing in Lean hashes anything: it is a label: what it is worth is what the hold of that sum in a sandbox is worth. -/
noncomputable def Try.pinned : Pinned := { name := "ytldblmgmcmnepaa", sum := "c50589df0f70798aba24e26fc73ceb25e3f0b110177b04c1d4553e84aee90c35", checked := Try.checked }
namespace Rows
def none {H : Type} : Left H := { results := [], args := [] }

/-- 'quittancelaw05.BitsFlags': WHATEVER THE INPUT: true; the input reads as it did. -/
def bitsFlagsSpec : ChangeSpec := { name := "bitsFlags", fn := fun _ => fun
  | [d1, d2] => { results := [.lit (.bool true)], args := [d1, d2] }
  | _ => none }
def bitsFlagsRow : OpenClaim := { program := "ytldblmgmcmnepaa", sum := "c50589df0f70798aba24e26fc73ceb25e3f0b110177b04c1d4553e84aee90c35", func := "quittance/quittancelaw05.BitsFlags", spec := "bitsFlags", unfollowed := true, recurses := true, apart := false }
def BitsFlagsSaid : Prop := bitsFlagsRow.holds Try.pinned (OpenSpec.ofChange bitsFlagsSpec)

/-- ITS FALSE NEIGHBOUR: 'it returns false'. Refute it at one input. -/
def bitsFlagsWrong : ChangeSpec := { name := "bitsFlags", fn := fun _ => fun
  | [d1, d2] => { results := [.lit (.bool false)], args := [d1, d2] }
  | _ => none }
def BitsFlagsWrongFalsely : Prop := bitsFlagsRow.holds Try.pinned (OpenSpec.ofChange bitsFlagsWrong)

/-- 'quittancelaw05.BitsStrings': WHATEVER THE INPUT: true; the input reads as it did. -/
def bitsStringsSpec : ChangeSpec := { name := "bitsStrings", fn := fun _ => fun
  | [d1, d2] => { results := [.lit (.bool true)], args := [d1, d2] }
  | _ => none }
def bitsStringsRow : OpenClaim := { program := "ytldblmgmcmnepaa", sum := "c50589df0f70798aba24e26fc73ceb25e3f0b110177b04c1d4553e84aee90c35", func := "quittance/quittancelaw05.BitsStrings", spec := "bitsStrings", unfollowed := true, recurses := true, apart := false }
def BitsStringsSaid : Prop := bitsStringsRow.holds Try.pinned (OpenSpec.ofChange bitsStringsSpec)

/-- ITS FALSE NEIGHBOUR: 'it returns false'. Refute it at one input. -/
def bitsStringsWrong : ChangeSpec := { name := "bitsStrings", fn := fun _ => fun
  | [d1, d2] => { results := [.lit (.bool false)], args := [d1, d2] }
  | _ => none }
def BitsStringsWrongFalsely : Prop := bitsStringsRow.holds Try.pinned (OpenSpec.ofChange bitsStringsWrong)

/-- 'quittancelaw05.BitsParses': WHATEVER THE INPUT: true; the input reads as it did. -/
def bitsParsesSpec : ChangeSpec := { name := "bitsParses", fn := fun _ => fun
  | [d] => { results := [.lit (.bool true)], args := [d] }
  | _ => none }
def bitsParsesRow : OpenClaim := { program := "ytldblmgmcmnepaa", sum := "c50589df0f70798aba24e26fc73ceb25e3f0b110177b04c1d4553e84aee90c35", func := "quittance/quittancelaw05.BitsParses", spec := "bitsParses", unfollowed := true, recurses := true, apart := false }
def BitsParsesSaid : Prop := bitsParsesRow.holds Try.pinned (OpenSpec.ofChange bitsParsesSpec)

/-- ITS FALSE NEIGHBOUR: 'it returns false'. Refute it at one input. -/
def bitsParsesWrong : ChangeSpec := { name := "bitsParses", fn := fun _ => fun
  | [d] => { results := [.lit (.bool false)], args := [d] }
  | _ => none }
def BitsParsesWrongFalsely : Prop := bitsParsesRow.holds Try.pinned (OpenSpec.ofChange bitsParsesWrong)

/-- 'quittancelaw02.HeadWrites': WHATEVER THE INPUT: true; the input reads as it did. -/
def headWritesSpec : ChangeSpec := { name := "headWrites", fn := fun _ => fun
  | [d1, d2] => { results := [.lit (.bool true)], args := [d1, d2] }
  | _ => none }
def headWritesRow : OpenClaim := { program := "ytldblmgmcmnepaa", sum := "c50589df0f70798aba24e26fc73ceb25e3f0b110177b04c1d4553e84aee90c35", func := "quittance/quittancelaw02.HeadWrites", spec := "headWrites", unfollowed := true, recurses := true, apart := false }
def HeadWritesSaid : Prop := headWritesRow.holds Try.pinned (OpenSpec.ofChange headWritesSpec)

/-- ITS FALSE NEIGHBOUR: 'it returns false'. Refute it at one input. -/
def headWritesWrong : ChangeSpec := { name := "headWrites", fn := fun _ => fun
  | [d1, d2] => { results := [.lit (.bool false)], args := [d1, d2] }
  | _ => none }
def HeadWritesWrongFalsely : Prop := headWritesRow.holds Try.pinned (OpenSpec.ofChange headWritesWrong)

/-- 'quittancelaw02.HeadOne': WHATEVER THE INPUT: true; the input reads as it did. -/
def headOneSpec : ChangeSpec := { name := "headOne", fn := fun _ => fun
  | [d] => { results := [.lit (.bool true)], args := [d] }
  | _ => none }
def headOneRow : OpenClaim := { program := "ytldblmgmcmnepaa", sum := "c50589df0f70798aba24e26fc73ceb25e3f0b110177b04c1d4553e84aee90c35", func := "quittance/quittancelaw02.HeadOne", spec := "headOne", unfollowed := true, recurses := true, apart := false }
def HeadOneSaid : Prop := headOneRow.holds Try.pinned (OpenSpec.ofChange headOneSpec)

/-- ITS FALSE NEIGHBOUR: 'it returns false'. Refute it at one input. -/
def headOneWrong : ChangeSpec := { name := "headOne", fn := fun _ => fun
  | [d] => { results := [.lit (.bool false)], args := [d] }
  | _ => none }
def HeadOneWrongFalsely : Prop := headOneRow.holds Try.pinned (OpenSpec.ofChange headOneWrong)

/-- 'quittancelaw02.HeadReads': WHATEVER THE INPUT: true; the input reads as it did. -/
def headReadsSpec : ChangeSpec := { name := "headReads", fn := fun _ => fun
  | [d1, d2] => { results := [.lit (.bool true)], args := [d1, d2] }
  | _ => none }
def headReadsRow : OpenClaim := { program := "ytldblmgmcmnepaa", sum := "c50589df0f70798aba24e26fc73ceb25e3f0b110177b04c1d4553e84aee90c35", func := "quittance/quittancelaw02.HeadReads", spec := "headReads", unfollowed := true, recurses := true, apart := false }
def HeadReadsSaid : Prop := headReadsRow.holds Try.pinned (OpenSpec.ofChange headReadsSpec)

/-- ITS FALSE NEIGHBOUR: 'it returns false'. Refute it at one input. -/
def headReadsWrong : ChangeSpec := { name := "headReads", fn := fun _ => fun
  | [d1, d2] => { results := [.lit (.bool false)], args := [d1, d2] }
  | _ => none }
def HeadReadsWrongFalsely : Prop := headReadsRow.holds Try.pinned (OpenSpec.ofChange headReadsWrong)

/-- 'quittancelaw02.HeadLong': WHATEVER THE INPUT: true; the input reads as it did. -/
def headLongSpec : ChangeSpec := { name := "headLong", fn := fun _ => fun
  | [d] => { results := [.lit (.bool true)], args := [d] }
  | _ => none }
def headLongRow : OpenClaim := { program := "ytldblmgmcmnepaa", sum := "c50589df0f70798aba24e26fc73ceb25e3f0b110177b04c1d4553e84aee90c35", func := "quittance/quittancelaw02.HeadLong", spec := "headLong", unfollowed := true, recurses := true, apart := false }
def HeadLongSaid : Prop := headLongRow.holds Try.pinned (OpenSpec.ofChange headLongSpec)

/-- ITS FALSE NEIGHBOUR: 'it returns false'. Refute it at one input. -/
def headLongWrong : ChangeSpec := { name := "headLong", fn := fun _ => fun
  | [d] => { results := [.lit (.bool false)], args := [d] }
  | _ => none }
def HeadLongWrongFalsely : Prop := headLongRow.holds Try.pinned (OpenSpec.ofChange headLongWrong)

/-- 'quittancelaw02.HeadOpens': WHATEVER THE INPUT: true; the input reads as it did. -/
def headOpensSpec : ChangeSpec := { name := "headOpens", fn := fun _ => fun
  | [d1, d2, d3] => { results := [.lit (.bool true)], args := [d1, d2, d3] }
  | _ => none }
def headOpensRow : OpenClaim := { program := "ytldblmgmcmnepaa", sum := "c50589df0f70798aba24e26fc73ceb25e3f0b110177b04c1d4553e84aee90c35", func := "quittance/quittancelaw02.HeadOpens", spec := "headOpens", unfollowed := true, recurses := true, apart := false }
def HeadOpensSaid : Prop := headOpensRow.holds Try.pinned (OpenSpec.ofChange headOpensSpec)

/-- ITS FALSE NEIGHBOUR: 'it returns false'. Refute it at one input. -/
def headOpensWrong : ChangeSpec := { name := "headOpens", fn := fun _ => fun
  | [d1, d2, d3] => { results := [.lit (.bool false)], args := [d1, d2, d3] }
  | _ => none }
def HeadOpensWrongFalsely : Prop := headOpensRow.holds Try.pinned (OpenSpec.ofChange headOpensWrong)

/-- 'quittancelaw02.HeadWraps': WHATEVER THE INPUT: true; the input reads as it did. -/
def headWrapsSpec : ChangeSpec := { name := "headWraps", fn := fun _ => fun
  | [d1, d2, d3, d4] => { results := [.lit (.bool true)], args := [d1, d2, d3, d4] }
  | _ => none }
def headWrapsRow : OpenClaim := { program := "ytldblmgmcmnepaa", sum := "c50589df0f70798aba24e26fc73ceb25e3f0b110177b04c1d4553e84aee90c35", func := "quittance/quittancelaw02.HeadWraps", spec := "headWraps", unfollowed := true, recurses := true, apart := false }
def HeadWrapsSaid : Prop := headWrapsRow.holds Try.pinned (OpenSpec.ofChange headWrapsSpec)

/-- ITS FALSE NEIGHBOUR: 'it returns false'. Refute it at one input. -/
def headWrapsWrong : ChangeSpec := { name := "headWraps", fn := fun _ => fun
  | [d1, d2, d3, d4] => { results := [.lit (.bool false)], args := [d1, d2, d3, d4] }
  | _ => none }
def HeadWrapsWrongFalsely : Prop := headWrapsRow.holds Try.pinned (OpenSpec.ofChange headWrapsWrong)

/-- 'quittancelaw05.BitsReads': WHATEVER THE INPUT: true; the input reads as it did. -/
def bitsReadsSpec : ChangeSpec := { name := "bitsReads", fn := fun _ => fun
  | [d] => { results := [.lit (.bool true)], args := [d] }
  | _ => none }
def bitsReadsRow : OpenClaim := { program := "ytldblmgmcmnepaa", sum := "c50589df0f70798aba24e26fc73ceb25e3f0b110177b04c1d4553e84aee90c35", func := "quittance/quittancelaw05.BitsReads", spec := "bitsReads", unfollowed := true, recurses := true, apart := false }
def BitsReadsSaid : Prop := bitsReadsRow.holds Try.pinned (OpenSpec.ofChange bitsReadsSpec)

/-- ITS FALSE NEIGHBOUR: 'it returns false'. Refute it at one input. -/
def bitsReadsWrong : ChangeSpec := { name := "bitsReads", fn := fun _ => fun
  | [d] => { results := [.lit (.bool false)], args := [d] }
  | _ => none }
def BitsReadsWrongFalsely : Prop := bitsReadsRow.holds Try.pinned (OpenSpec.ofChange bitsReadsWrong)

/-- 'quittancelaw05.BitsWrites': WHATEVER THE INPUT: true; the input reads as it did. -/
def bitsWritesSpec : ChangeSpec := { name := "bitsWrites", fn := fun _ => fun
  | [d1, d2, d3] => { results := [.lit (.bool true)], args := [d1, d2, d3] }
  | _ => none }
def bitsWritesRow : OpenClaim := { program := "ytldblmgmcmnepaa", sum := "c50589df0f70798aba24e26fc73ceb25e3f0b110177b04c1d4553e84aee90c35", func := "quittance/quittancelaw05.BitsWrites", spec := "bitsWrites", unfollowed := true, recurses := true, apart := false }
def BitsWritesSaid : Prop := bitsWritesRow.holds Try.pinned (OpenSpec.ofChange bitsWritesSpec)

/-- ITS FALSE NEIGHBOUR: 'it returns false'. Refute it at one input. -/
def bitsWritesWrong : ChangeSpec := { name := "bitsWrites", fn := fun _ => fun
  | [d1, d2, d3] => { results := [.lit (.bool false)], args := [d1, d2, d3] }
  | _ => none }
def BitsWritesWrongFalsely : Prop := bitsWritesRow.holds Try.pinned (OpenSpec.ofChange bitsWritesWrong)

/-- 'quittancelaw01.OctetPlays': WHATEVER THE INPUT: true; the input reads as it did. -/
def octetPlaysSpec : ChangeSpec := { name := "octetPlays", fn := fun _ => fun
  | [d1, d2] => { results := [.lit (.bool true)], args := [d1, d2] }
  | _ => none }
def octetPlaysRow : OpenClaim := { program := "ytldblmgmcmnepaa", sum := "c50589df0f70798aba24e26fc73ceb25e3f0b110177b04c1d4553e84aee90c35", func := "quittance/quittancelaw01.OctetPlays", spec := "octetPlays", apart := false }
def OctetPlaysSaid : Prop := octetPlaysRow.holds Try.pinned (OpenSpec.ofChange octetPlaysSpec)

/-- ITS FALSE NEIGHBOUR: 'it returns false'. Refute it at one input. -/
def octetPlaysWrong : ChangeSpec := { name := "octetPlays", fn := fun _ => fun
  | [d1, d2] => { results := [.lit (.bool false)], args := [d1, d2] }
  | _ => none }
def OctetPlaysWrongFalsely : Prop := octetPlaysRow.holds Try.pinned (OpenSpec.ofChange octetPlaysWrong)

/- THE SECOND FORM. 'bulk': how many values and letters a reading holds, each counted each time it is reached (what is shared counts as often as it is met; a slice's spare places count too). A statement '..UptoSaid' is the law's where the arguments, and the package variables that the reading takes, are together of bulk at most 1048576: NARROWER than '..Said'. Prove '..Said' where nothing that the law and all that it calls make is longer than what came in: it says more and counts as full. Else prove '..UptoSaid'. A law counts once. -/
mutual
def uptoBulk {H : Type} : DataW H → Nat
  | .lit (.string bytes) => bytes.length + 1
  | .lit _ => 1
  | .nil => 1
  | .ptr d => uptoBulk d + 1
  | .slice elems spare => uptoBulkAll elems + uptoBulkAll spare + 1
  | .agg parts => uptoBulkAll parts + 1
  | .iface _ d => uptoBulk d + 1
  | .map entries => uptoBulkEntries entries + 1
  | .held _ => 1
def uptoBulkAll {H : Type} : List (DataW H) → Nat
  | [] => 0
  | d :: r => uptoBulk d + uptoBulkAll r
def uptoBulkEntries {H : Type} : List (Lit × DataW H) → Nat
  | [] => 0
  | x :: r => uptoBulkEntry x + uptoBulkEntries r
def uptoBulkEntry {H : Type} : Lit × DataW H → Nat
  | (.string bytes, d) => bytes.length + uptoBulk d + 1
  | (_, d) => uptoBulk d + 1
 end
def uptoSmall : (H : Type) → List (DataW H) → Bool := fun _ ds => decide (uptoBulkAll ds ≤ 1048576)
def OpenSpec.upto (s : _root_.Go.ChangeSpec) : _root_.Go.OpenSpec := { _root_.Go.OpenSpec.ofChange s with cond := some uptoSmall }

/-- 'quittancelaw05.BitsFlags', WHERE WHAT IT READS IS OF BULK AT MOST 1048576: true; the input reads as it did. -/
def bitsFlagsUptoRow : OpenClaim := { program := "ytldblmgmcmnepaa", sum := "c50589df0f70798aba24e26fc73ceb25e3f0b110177b04c1d4553e84aee90c35", func := "quittance/quittancelaw05.BitsFlags", spec := "bitsFlags", unfollowed := true, recurses := true, apart := false, narrowed := true }
def BitsFlagsUptoSaid : Prop := bitsFlagsUptoRow.holds Try.pinned (OpenSpec.upto bitsFlagsSpec)

/-- 'quittancelaw05.BitsStrings', WHERE WHAT IT READS IS OF BULK AT MOST 1048576: true; the input reads as it did. -/
def bitsStringsUptoRow : OpenClaim := { program := "ytldblmgmcmnepaa", sum := "c50589df0f70798aba24e26fc73ceb25e3f0b110177b04c1d4553e84aee90c35", func := "quittance/quittancelaw05.BitsStrings", spec := "bitsStrings", unfollowed := true, recurses := true, apart := false, narrowed := true }
def BitsStringsUptoSaid : Prop := bitsStringsUptoRow.holds Try.pinned (OpenSpec.upto bitsStringsSpec)

/-- 'quittancelaw05.BitsParses', WHERE WHAT IT READS IS OF BULK AT MOST 1048576: true; the input reads as it did. -/
def bitsParsesUptoRow : OpenClaim := { program := "ytldblmgmcmnepaa", sum := "c50589df0f70798aba24e26fc73ceb25e3f0b110177b04c1d4553e84aee90c35", func := "quittance/quittancelaw05.BitsParses", spec := "bitsParses", unfollowed := true, recurses := true, apart := false, narrowed := true }
def BitsParsesUptoSaid : Prop := bitsParsesUptoRow.holds Try.pinned (OpenSpec.upto bitsParsesSpec)

/-- 'quittancelaw02.HeadWrites', WHERE WHAT IT READS IS OF BULK AT MOST 1048576: true; the input reads as it did. -/
def headWritesUptoRow : OpenClaim := { program := "ytldblmgmcmnepaa", sum := "c50589df0f70798aba24e26fc73ceb25e3f0b110177b04c1d4553e84aee90c35", func := "quittance/quittancelaw02.HeadWrites", spec := "headWrites", unfollowed := true, recurses := true, apart := false, narrowed := true }
def HeadWritesUptoSaid : Prop := headWritesUptoRow.holds Try.pinned (OpenSpec.upto headWritesSpec)

/-- 'quittancelaw02.HeadOne', WHERE WHAT IT READS IS OF BULK AT MOST 1048576: true; the input reads as it did. -/
def headOneUptoRow : OpenClaim := { program := "ytldblmgmcmnepaa", sum := "c50589df0f70798aba24e26fc73ceb25e3f0b110177b04c1d4553e84aee90c35", func := "quittance/quittancelaw02.HeadOne", spec := "headOne", unfollowed := true, recurses := true, apart := false, narrowed := true }
def HeadOneUptoSaid : Prop := headOneUptoRow.holds Try.pinned (OpenSpec.upto headOneSpec)

/-- 'quittancelaw02.HeadReads', WHERE WHAT IT READS IS OF BULK AT MOST 1048576: true; the input reads as it did. -/
def headReadsUptoRow : OpenClaim := { program := "ytldblmgmcmnepaa", sum := "c50589df0f70798aba24e26fc73ceb25e3f0b110177b04c1d4553e84aee90c35", func := "quittance/quittancelaw02.HeadReads", spec := "headReads", unfollowed := true, recurses := true, apart := false, narrowed := true }
def HeadReadsUptoSaid : Prop := headReadsUptoRow.holds Try.pinned (OpenSpec.upto headReadsSpec)

/-- 'quittancelaw02.HeadLong', WHERE WHAT IT READS IS OF BULK AT MOST 1048576: true; the input reads as it did. -/
def headLongUptoRow : OpenClaim := { program := "ytldblmgmcmnepaa", sum := "c50589df0f70798aba24e26fc73ceb25e3f0b110177b04c1d4553e84aee90c35", func := "quittance/quittancelaw02.HeadLong", spec := "headLong", unfollowed := true, recurses := true, apart := false, narrowed := true }
def HeadLongUptoSaid : Prop := headLongUptoRow.holds Try.pinned (OpenSpec.upto headLongSpec)

/-- 'quittancelaw02.HeadOpens', WHERE WHAT IT READS IS OF BULK AT MOST 1048576: true; the input reads as it did. -/
def headOpensUptoRow : OpenClaim := { program := "ytldblmgmcmnepaa", sum := "c50589df0f70798aba24e26fc73ceb25e3f0b110177b04c1d4553e84aee90c35", func := "quittance/quittancelaw02.HeadOpens", spec := "headOpens", unfollowed := true, recurses := true, apart := false, narrowed := true }
def HeadOpensUptoSaid : Prop := headOpensUptoRow.holds Try.pinned (OpenSpec.upto headOpensSpec)

/-- 'quittancelaw02.HeadWraps', WHERE WHAT IT READS IS OF BULK AT MOST 1048576: true; the input reads as it did. -/
def headWrapsUptoRow : OpenClaim := { program := "ytldblmgmcmnepaa", sum := "c50589df0f70798aba24e26fc73ceb25e3f0b110177b04c1d4553e84aee90c35", func := "quittance/quittancelaw02.HeadWraps", spec := "headWraps", unfollowed := true, recurses := true, apart := false, narrowed := true }
def HeadWrapsUptoSaid : Prop := headWrapsUptoRow.holds Try.pinned (OpenSpec.upto headWrapsSpec)

/-- 'quittancelaw05.BitsReads', WHERE WHAT IT READS IS OF BULK AT MOST 1048576: true; the input reads as it did. -/
def bitsReadsUptoRow : OpenClaim := { program := "ytldblmgmcmnepaa", sum := "c50589df0f70798aba24e26fc73ceb25e3f0b110177b04c1d4553e84aee90c35", func := "quittance/quittancelaw05.BitsReads", spec := "bitsReads", unfollowed := true, recurses := true, apart := false, narrowed := true }
def BitsReadsUptoSaid : Prop := bitsReadsUptoRow.holds Try.pinned (OpenSpec.upto bitsReadsSpec)

/-- 'quittancelaw05.BitsWrites', WHERE WHAT IT READS IS OF BULK AT MOST 1048576: true; the input reads as it did. -/
def bitsWritesUptoRow : OpenClaim := { program := "ytldblmgmcmnepaa", sum := "c50589df0f70798aba24e26fc73ceb25e3f0b110177b04c1d4553e84aee90c35", func := "quittance/quittancelaw05.BitsWrites", spec := "bitsWrites", unfollowed := true, recurses := true, apart := false, narrowed := true }
def BitsWritesUptoSaid : Prop := bitsWritesUptoRow.holds Try.pinned (OpenSpec.upto bitsWritesSpec)

/-- 'quittancelaw01.OctetPlays', WHERE WHAT IT READS IS OF BULK AT MOST 1048576: true; the input reads as it did. -/
def octetPlaysUptoRow : OpenClaim := { program := "ytldblmgmcmnepaa", sum := "c50589df0f70798aba24e26fc73ceb25e3f0b110177b04c1d4553e84aee90c35", func := "quittance/quittancelaw01.OctetPlays", spec := "octetPlays", apart := false, narrowed := true }
def OctetPlaysUptoSaid : Prop := octetPlaysUptoRow.holds Try.pinned (OpenSpec.upto octetPlaysSpec)

end Rows
end Go.Proofs.Ytldblmgmcmnepaa
