/-
  No cell of these rows narrows 'for every input' (looked for: loops, veiled, ifaces, maps, wideKeys, modest, calm, conditions, laid).
  DERIVED. THE GIVEN ROWS OF THIS SEAT. 6 by the template 'for every input the law returns true; each argument reads behind the call as it read before'; 0 by the template 'total and deterministic' (their statements: YtmmjghdobdendaaTotals.lean).
  GIVEN WITH THE SEED: the statements are not yours to turn. If you find one false, say at which input.
  Laid BY PROGRAM, IN A SANDBOX (cutbox-rows.mjs): the forced cells as the released guide's own fill.sh prints them over the translation 9c80d6bcfcd0d0d7… (all of the seat's roots in one cut). By AI agents, Wed Nov 11 2026. No macro, syntax, notation, axiom, sorry.
-/
import Derived.Test.YtmmjghdobdendaaChecked
import GoSem.Claim
import GoSem.ClaimJoined
import GoSem.ClaimMapViews
import Derived.JoinedTies
import Derived.KernelRfl
namespace Go.Proofs.Ytmmjghdobdendaa
/- THE CELL 'sum', in the pinned program and in every row, IS THE sha256 OF THE DUMP (.gsa) THAT YtmmjghdobdendaaProg.lean LOADS. Nothing in Lean hashes anything: it is a label: what it is worth is what the hold of that sum in a sandbox is worth. -/
noncomputable def Try.pinned : Pinned := { name := "ytmmjghdobdendaa", sum := "9c80d6bcfcd0d0d7198420628cb09c3f93eaf72e6053f24805648409d7702046", checked := Try.checked }
namespace Rows
def none {H : Type} : Left H := { results := [], args := [] }

/-- 'quittancelaw11.SpanWithout': WHATEVER THE INPUT: true; the input reads as it did. -/
def spanWithoutSpec : ChangeSpec := { name := "spanWithout", fn := fun _ => fun
  | [d1, d2, d3] => { results := [.lit (.bool true)], args := [d1, d2, d3] }
  | _ => none }
def spanWithoutRow : OpenClaim := { program := "ytmmjghdobdendaa", sum := "9c80d6bcfcd0d0d7198420628cb09c3f93eaf72e6053f24805648409d7702046", func := "quittance/quittancelaw11.SpanWithout", spec := "spanWithout", unfollowed := true, recurses := true, apart := false }
def SpanWithoutSaid : Prop := spanWithoutRow.holds Try.pinned (OpenSpec.ofChange spanWithoutSpec)

/-- ITS FALSE NEIGHBOUR: 'it returns false'. Refute it at one input. -/
def spanWithoutWrong : ChangeSpec := { name := "spanWithout", fn := fun _ => fun
  | [d1, d2, d3] => { results := [.lit (.bool false)], args := [d1, d2, d3] }
  | _ => none }
def SpanWithoutWrongFalsely : Prop := spanWithoutRow.holds Try.pinned (OpenSpec.ofChange spanWithoutWrong)

/-- 'quittancelaw11.SpanSums': WHATEVER THE INPUT: true; the input reads as it did. -/
def spanSumsSpec : ChangeSpec := { name := "spanSums", fn := fun _ => fun
  | [d1, d2, d3] => { results := [.lit (.bool true)], args := [d1, d2, d3] }
  | _ => none }
def spanSumsRow : OpenClaim := { program := "ytmmjghdobdendaa", sum := "9c80d6bcfcd0d0d7198420628cb09c3f93eaf72e6053f24805648409d7702046", func := "quittance/quittancelaw11.SpanSums", spec := "spanSums", unfollowed := true, recurses := true, apart := false }
def SpanSumsSaid : Prop := spanSumsRow.holds Try.pinned (OpenSpec.ofChange spanSumsSpec)

/-- ITS FALSE NEIGHBOUR: 'it returns false'. Refute it at one input. -/
def spanSumsWrong : ChangeSpec := { name := "spanSums", fn := fun _ => fun
  | [d1, d2, d3] => { results := [.lit (.bool false)], args := [d1, d2, d3] }
  | _ => none }
def SpanSumsWrongFalsely : Prop := spanSumsRow.holds Try.pinned (OpenSpec.ofChange spanSumsWrong)

/-- 'quittancelaw11.SpanNorms': WHATEVER THE INPUT: true; the input reads as it did. -/
def spanNormsSpec : ChangeSpec := { name := "spanNorms", fn := fun _ => fun
  | [d1, d2] => { results := [.lit (.bool true)], args := [d1, d2] }
  | _ => none }
def spanNormsRow : OpenClaim := { program := "ytmmjghdobdendaa", sum := "9c80d6bcfcd0d0d7198420628cb09c3f93eaf72e6053f24805648409d7702046", func := "quittance/quittancelaw11.SpanNorms", spec := "spanNorms", unfollowed := true, recurses := true, apart := false }
def SpanNormsSaid : Prop := spanNormsRow.holds Try.pinned (OpenSpec.ofChange spanNormsSpec)

/-- ITS FALSE NEIGHBOUR: 'it returns false'. Refute it at one input. -/
def spanNormsWrong : ChangeSpec := { name := "spanNorms", fn := fun _ => fun
  | [d1, d2] => { results := [.lit (.bool false)], args := [d1, d2] }
  | _ => none }
def SpanNormsWrongFalsely : Prop := spanNormsRow.holds Try.pinned (OpenSpec.ofChange spanNormsWrong)

/-- 'quittancelaw11.SpanRules': WHATEVER THE INPUT: true; the input reads as it did. -/
def spanRulesSpec : ChangeSpec := { name := "spanRules", fn := fun _ => fun
  | [d1, d2, d3, d4] => { results := [.lit (.bool true)], args := [d1, d2, d3, d4] }
  | _ => none }
def spanRulesRow : OpenClaim := { program := "ytmmjghdobdendaa", sum := "9c80d6bcfcd0d0d7198420628cb09c3f93eaf72e6053f24805648409d7702046", func := "quittance/quittancelaw11.SpanRules", spec := "spanRules", unfollowed := true, recurses := true, apart := false }
def SpanRulesSaid : Prop := spanRulesRow.holds Try.pinned (OpenSpec.ofChange spanRulesSpec)

/-- ITS FALSE NEIGHBOUR: 'it returns false'. Refute it at one input. -/
def spanRulesWrong : ChangeSpec := { name := "spanRules", fn := fun _ => fun
  | [d1, d2, d3, d4] => { results := [.lit (.bool false)], args := [d1, d2, d3, d4] }
  | _ => none }
def SpanRulesWrongFalsely : Prop := spanRulesRow.holds Try.pinned (OpenSpec.ofChange spanRulesWrong)

/-- 'quittancelaw11.SpanMeets': WHATEVER THE INPUT: true; the input reads as it did. -/
def spanMeetsSpec : ChangeSpec := { name := "spanMeets", fn := fun _ => fun
  | [d1, d2] => { results := [.lit (.bool true)], args := [d1, d2] }
  | _ => none }
def spanMeetsRow : OpenClaim := { program := "ytmmjghdobdendaa", sum := "9c80d6bcfcd0d0d7198420628cb09c3f93eaf72e6053f24805648409d7702046", func := "quittance/quittancelaw11.SpanMeets", spec := "spanMeets", unfollowed := true, recurses := true, apart := false }
def SpanMeetsSaid : Prop := spanMeetsRow.holds Try.pinned (OpenSpec.ofChange spanMeetsSpec)

/-- ITS FALSE NEIGHBOUR: 'it returns false'. Refute it at one input. -/
def spanMeetsWrong : ChangeSpec := { name := "spanMeets", fn := fun _ => fun
  | [d1, d2] => { results := [.lit (.bool false)], args := [d1, d2] }
  | _ => none }
def SpanMeetsWrongFalsely : Prop := spanMeetsRow.holds Try.pinned (OpenSpec.ofChange spanMeetsWrong)

/-- 'quittancelaw11.SpanParts': WHATEVER THE INPUT: true; the input reads as it did. -/
def spanPartsSpec : ChangeSpec := { name := "spanParts", fn := fun _ => fun
  | [d1, d2, d3, d4] => { results := [.lit (.bool true)], args := [d1, d2, d3, d4] }
  | _ => none }
def spanPartsRow : OpenClaim := { program := "ytmmjghdobdendaa", sum := "9c80d6bcfcd0d0d7198420628cb09c3f93eaf72e6053f24805648409d7702046", func := "quittance/quittancelaw11.SpanParts", spec := "spanParts", unfollowed := true, recurses := true, apart := false }
def SpanPartsSaid : Prop := spanPartsRow.holds Try.pinned (OpenSpec.ofChange spanPartsSpec)

/-- ITS FALSE NEIGHBOUR: 'it returns false'. Refute it at one input. -/
def spanPartsWrong : ChangeSpec := { name := "spanParts", fn := fun _ => fun
  | [d1, d2, d3, d4] => { results := [.lit (.bool false)], args := [d1, d2, d3, d4] }
  | _ => none }
def SpanPartsWrongFalsely : Prop := spanPartsRow.holds Try.pinned (OpenSpec.ofChange spanPartsWrong)

/- THE SECOND FORM. 'bulk': how many values and letters a reading holds, each counted each time it is reached (what is shared counts as often as it is met; a slice's spare places count too). A statement '..UptoSaid' is the law's where the arguments, and the package variables that the reading takes, are together of bulk at most 1048576: NARROWER than '..Said'. Prove '..Said' where nothing that the law and all that it calls make is longer than what came in: it says more and counts as full. Else prove '..UptoSaid'. A law counts once. -/
mutual
def uptoBulk {H : Type} : DataW H → Nat
  | .lit (.string bytes) => bytes.length + 1
  | .lit _ => 1
  | .nil => 1
  | .ptr d => uptoBulk d + 1
  | .slice elems spare => uptoBulkAll elems + uptoBulkAll spare + 1
  | .agg parts => uptoBulkAll parts + 1
  | .iface _ d => uptoBulk d + 1
  | .map entries => uptoBulkEntries entries + 1
  | .held _ => 1
def uptoBulkAll {H : Type} : List (DataW H) → Nat
  | [] => 0
  | d :: r => uptoBulk d + uptoBulkAll r
def uptoBulkEntries {H : Type} : List (Lit × DataW H) → Nat
  | [] => 0
  | x :: r => uptoBulkEntry x + uptoBulkEntries r
def uptoBulkEntry {H : Type} : Lit × DataW H → Nat
  | (.string bytes, d) => bytes.length + uptoBulk d + 1
  | (_, d) => uptoBulk d + 1
 end
def uptoSmall : (H : Type) → List (DataW H) → Bool := fun _ ds => decide (uptoBulkAll ds ≤ 1048576)
def OpenSpec.upto (s : _root_.Go.ChangeSpec) : _root_.Go.OpenSpec := { _root_.Go.OpenSpec.ofChange s with cond := some uptoSmall }

/-- 'quittancelaw11.SpanWithout', WHERE WHAT IT READS IS OF BULK AT MOST 1048576: true; the input reads as it did. -/
def spanWithoutUptoRow : OpenClaim := { program := "ytmmjghdobdendaa", sum := "9c80d6bcfcd0d0d7198420628cb09c3f93eaf72e6053f24805648409d7702046", func := "quittance/quittancelaw11.SpanWithout", spec := "spanWithout", unfollowed := true, recurses := true, apart := false, narrowed := true }
def SpanWithoutUptoSaid : Prop := spanWithoutUptoRow.holds Try.pinned (OpenSpec.upto spanWithoutSpec)

/-- 'quittancelaw11.SpanSums', WHERE WHAT IT READS IS OF BULK AT MOST 1048576: true; the input reads as it did. -/
def spanSumsUptoRow : OpenClaim := { program := "ytmmjghdobdendaa", sum := "9c80d6bcfcd0d0d7198420628cb09c3f93eaf72e6053f24805648409d7702046", func := "quittance/quittancelaw11.SpanSums", spec := "spanSums", unfollowed := true, recurses := true, apart := false, narrowed := true }
def SpanSumsUptoSaid : Prop := spanSumsUptoRow.holds Try.pinned (OpenSpec.upto spanSumsSpec)

/-- 'quittancelaw11.SpanNorms', WHERE WHAT IT READS IS OF BULK AT MOST 1048576: true; the input reads as it did. -/
def spanNormsUptoRow : OpenClaim := { program := "ytmmjghdobdendaa", sum := "9c80d6bcfcd0d0d7198420628cb09c3f93eaf72e6053f24805648409d7702046", func := "quittance/quittancelaw11.SpanNorms", spec := "spanNorms", unfollowed := true, recurses := true, apart := false, narrowed := true }
def SpanNormsUptoSaid : Prop := spanNormsUptoRow.holds Try.pinned (OpenSpec.upto spanNormsSpec)

/-- 'quittancelaw11.SpanRules', WHERE WHAT IT READS IS OF BULK AT MOST 1048576: true; the input reads as it did. -/
def spanRulesUptoRow : OpenClaim := { program := "ytmmjghdobdendaa", sum := "9c80d6bcfcd0d0d7198420628cb09c3f93eaf72e6053f24805648409d7702046", func := "quittance/quittancelaw11.SpanRules", spec := "spanRules", unfollowed := true, recurses := true, apart := false, narrowed := true }
def SpanRulesUptoSaid : Prop := spanRulesUptoRow.holds Try.pinned (OpenSpec.upto spanRulesSpec)

/-- 'quittancelaw11.SpanMeets', WHERE WHAT IT READS IS OF BULK AT MOST 1048576: true; the input reads as it did. -/
def spanMeetsUptoRow : OpenClaim := { program := "ytmmjghdobdendaa", sum := "9c80d6bcfcd0d0d7198420628cb09c3f93eaf72e6053f24805648409d7702046", func := "quittance/quittancelaw11.SpanMeets", spec := "spanMeets", unfollowed := true, recurses := true, apart := false, narrowed := true }
def SpanMeetsUptoSaid : Prop := spanMeetsUptoRow.holds Try.pinned (OpenSpec.upto spanMeetsSpec)

/-- 'quittancelaw11.SpanParts', WHERE WHAT IT READS IS OF BULK AT MOST 1048576: true; the input reads as it did. -/
def spanPartsUptoRow : OpenClaim := { program := "ytmmjghdobdendaa", sum := "9c80d6bcfcd0d0d7198420628cb09c3f93eaf72e6053f24805648409d7702046", func := "quittance/quittancelaw11.SpanParts", spec := "spanParts", unfollowed := true, recurses := true, apart := false, narrowed := true }
def SpanPartsUptoSaid : Prop := spanPartsUptoRow.holds Try.pinned (OpenSpec.upto spanPartsSpec)

end Rows
end Go.Proofs.Ytmmjghdobdendaa
