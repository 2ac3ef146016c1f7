/-
  No cell of these rows narrows 'for every input' (looked for: loops, veiled, ifaces, maps, wideKeys, modest, calm, conditions, laid).
  DERIVED. THE GIVEN ROWS OF THIS SEAT. 6 by the template 'for every input the law returns true; each argument reads behind the call as it read before'; 0 by the template 'total and deterministic' (their statements: YthkhibgidenmjaaTotals.lean).
  GIVEN WITH THE SEED: the statements are not yours to turn. If you find one false, say at which input.
  Laid BY PROGRAM, IN A SANDBOX (cutbox-rows.mjs): the forced cells as the released guide's own fill.sh prints them over the translation c0f3dc0784ae5d52… (all of the seat's roots in one cut). By AI agents, Wed Nov 11 2026. No macro, syntax, notation, axiom, sorry.
-/
import Derived.Test.YthkhibgidenmjaaChecked
import GoSem.Claim
import GoSem.ClaimJoined
import GoSem.ClaimMapViews
import Derived.JoinedTies
import Derived.KernelRfl
namespace Go.Proofs.Ythkhibgidenmjaa
/- THE CELL 'sum', in the pinned program and in every row, IS THE sha256 OF THE DUMP (.gsa) THAT YthkhibgidenmjaaProg.lean LOADS. Nothing in Lean hashes anything: it is a label: what it is worth is what the hold of that sum in a sandbox is worth. -/
noncomputable def Try.pinned : Pinned := { name := "ythkhibgidenmjaa", sum := "c0f3dc0784ae5d52cf886374456a66df37d0483a378aaaf4b580c9cb5b1b0481", checked := Try.checked }
namespace Rows
def none {H : Type} : Left H := { results := [], args := [] }

/-- 'quittancelaw01.OctetHex': WHATEVER THE INPUT: true; the input reads as it did. -/
def octetHexSpec : ChangeSpec := { name := "octetHex", fn := fun _ => fun
  | [d1, d2] => { results := [.lit (.bool true)], args := [d1, d2] }
  | _ => none }
def octetHexRow : OpenClaim := { program := "ythkhibgidenmjaa", sum := "c0f3dc0784ae5d52cf886374456a66df37d0483a378aaaf4b580c9cb5b1b0481", func := "quittance/quittancelaw01.OctetHex", spec := "octetHex", apart := false }
def OctetHexSaid : Prop := octetHexRow.holds Try.pinned (OpenSpec.ofChange octetHexSpec)

/-- ITS FALSE NEIGHBOUR: 'it returns false'. Refute it at one input. -/
def octetHexWrong : ChangeSpec := { name := "octetHex", fn := fun _ => fun
  | [d1, d2] => { results := [.lit (.bool false)], args := [d1, d2] }
  | _ => none }
def OctetHexWrongFalsely : Prop := octetHexRow.holds Try.pinned (OpenSpec.ofChange octetHexWrong)

/-- 'quittancelaw01.OctetOrders': WHATEVER THE INPUT: true; the input reads as it did. -/
def octetOrdersSpec : ChangeSpec := { name := "octetOrders", fn := fun _ => fun
  | [d1, d2, d3] => { results := [.lit (.bool true)], args := [d1, d2, d3] }
  | _ => none }
def octetOrdersRow : OpenClaim := { program := "ythkhibgidenmjaa", sum := "c0f3dc0784ae5d52cf886374456a66df37d0483a378aaaf4b580c9cb5b1b0481", func := "quittance/quittancelaw01.OctetOrders", spec := "octetOrders", apart := false }
def OctetOrdersSaid : Prop := octetOrdersRow.holds Try.pinned (OpenSpec.ofChange octetOrdersSpec)

/-- ITS FALSE NEIGHBOUR: 'it returns false'. Refute it at one input. -/
def octetOrdersWrong : ChangeSpec := { name := "octetOrders", fn := fun _ => fun
  | [d1, d2, d3] => { results := [.lit (.bool false)], args := [d1, d2, d3] }
  | _ => none }
def OctetOrdersWrongFalsely : Prop := octetOrdersRow.holds Try.pinned (OpenSpec.ofChange octetOrdersWrong)

/-- 'quittancelaw01.OctetRules': WHATEVER THE INPUT: true; the input reads as it did. -/
def octetRulesSpec : ChangeSpec := { name := "octetRules", fn := fun _ => fun
  | [d1, d2, d3] => { results := [.lit (.bool true)], args := [d1, d2, d3] }
  | _ => none }
def octetRulesRow : OpenClaim := { program := "ythkhibgidenmjaa", sum := "c0f3dc0784ae5d52cf886374456a66df37d0483a378aaaf4b580c9cb5b1b0481", func := "quittance/quittancelaw01.OctetRules", spec := "octetRules", apart := false }
def OctetRulesSaid : Prop := octetRulesRow.holds Try.pinned (OpenSpec.ofChange octetRulesSpec)

/-- ITS FALSE NEIGHBOUR: 'it returns false'. Refute it at one input. -/
def octetRulesWrong : ChangeSpec := { name := "octetRules", fn := fun _ => fun
  | [d1, d2, d3] => { results := [.lit (.bool false)], args := [d1, d2, d3] }
  | _ => none }
def OctetRulesWrongFalsely : Prop := octetRulesRow.holds Try.pinned (OpenSpec.ofChange octetRulesWrong)

/-- 'quittancelaw01.OctetPlays': WHATEVER THE INPUT: true; the input reads as it did. -/
def octetPlaysSpec : ChangeSpec := { name := "octetPlays", fn := fun _ => fun
  | [d1, d2] => { results := [.lit (.bool true)], args := [d1, d2] }
  | _ => none }
def octetPlaysRow : OpenClaim := { program := "ythkhibgidenmjaa", sum := "c0f3dc0784ae5d52cf886374456a66df37d0483a378aaaf4b580c9cb5b1b0481", func := "quittance/quittancelaw01.OctetPlays", spec := "octetPlays", apart := false }
def OctetPlaysSaid : Prop := octetPlaysRow.holds Try.pinned (OpenSpec.ofChange octetPlaysSpec)

/-- ITS FALSE NEIGHBOUR: 'it returns false'. Refute it at one input. -/
def octetPlaysWrong : ChangeSpec := { name := "octetPlays", fn := fun _ => fun
  | [d1, d2] => { results := [.lit (.bool false)], args := [d1, d2] }
  | _ => none }
def OctetPlaysWrongFalsely : Prop := octetPlaysRow.holds Try.pinned (OpenSpec.ofChange octetPlaysWrong)

/-- 'quittancelaw01.OctetNil': WHATEVER THE INPUT: true; the input reads as it did. -/
def octetNilSpec : ChangeSpec := { name := "octetNil", fn := fun _ => fun
  | [d] => { results := [.lit (.bool true)], args := [d] }
  | _ => none }
def octetNilRow : OpenClaim := { program := "ythkhibgidenmjaa", sum := "c0f3dc0784ae5d52cf886374456a66df37d0483a378aaaf4b580c9cb5b1b0481", func := "quittance/quittancelaw01.OctetNil", spec := "octetNil", apart := false }
def OctetNilSaid : Prop := octetNilRow.holds Try.pinned (OpenSpec.ofChange octetNilSpec)

/-- ITS FALSE NEIGHBOUR: 'it returns false'. Refute it at one input. -/
def octetNilWrong : ChangeSpec := { name := "octetNil", fn := fun _ => fun
  | [d] => { results := [.lit (.bool false)], args := [d] }
  | _ => none }
def OctetNilWrongFalsely : Prop := octetNilRow.holds Try.pinned (OpenSpec.ofChange octetNilWrong)

/-- 'quittancelaw01.OctetParts': WHATEVER THE INPUT: true; the input reads as it did. -/
def octetPartsSpec : ChangeSpec := { name := "octetParts", fn := fun _ => fun
  | [d1, d2] => { results := [.lit (.bool true)], args := [d1, d2] }
  | _ => none }
def octetPartsRow : OpenClaim := { program := "ythkhibgidenmjaa", sum := "c0f3dc0784ae5d52cf886374456a66df37d0483a378aaaf4b580c9cb5b1b0481", func := "quittance/quittancelaw01.OctetParts", spec := "octetParts", apart := false }
def OctetPartsSaid : Prop := octetPartsRow.holds Try.pinned (OpenSpec.ofChange octetPartsSpec)

/-- ITS FALSE NEIGHBOUR: 'it returns false'. Refute it at one input. -/
def octetPartsWrong : ChangeSpec := { name := "octetParts", fn := fun _ => fun
  | [d1, d2] => { results := [.lit (.bool false)], args := [d1, d2] }
  | _ => none }
def OctetPartsWrongFalsely : Prop := octetPartsRow.holds Try.pinned (OpenSpec.ofChange octetPartsWrong)

/- THE SECOND FORM. 'bulk': how many values and letters a reading holds, each counted each time it is reached (what is shared counts as often as it is met; a slice's spare places count too). A statement '..UptoSaid' is the law's where the arguments, and the package variables that the reading takes, are together of bulk at most 1048576: NARROWER than '..Said'. Prove '..Said' where nothing that the law and all that it calls make is longer than what came in: it says more and counts as full. Else prove '..UptoSaid'. A law counts once. -/
mutual
def uptoBulk {H : Type} : DataW H → Nat
  | .lit (.string bytes) => bytes.length + 1
  | .lit _ => 1
  | .nil => 1
  | .ptr d => uptoBulk d + 1
  | .slice elems spare => uptoBulkAll elems + uptoBulkAll spare + 1
  | .agg parts => uptoBulkAll parts + 1
  | .iface _ d => uptoBulk d + 1
  | .map entries => uptoBulkEntries entries + 1
  | .held _ => 1
def uptoBulkAll {H : Type} : List (DataW H) → Nat
  | [] => 0
  | d :: r => uptoBulk d + uptoBulkAll r
def uptoBulkEntries {H : Type} : List (Lit × DataW H) → Nat
  | [] => 0
  | x :: r => uptoBulkEntry x + uptoBulkEntries r
def uptoBulkEntry {H : Type} : Lit × DataW H → Nat
  | (.string bytes, d) => bytes.length + uptoBulk d + 1
  | (_, d) => uptoBulk d + 1
 end
def uptoSmall : (H : Type) → List (DataW H) → Bool := fun _ ds => decide (uptoBulkAll ds ≤ 1048576)
def OpenSpec.upto (s : _root_.Go.ChangeSpec) : _root_.Go.OpenSpec := { _root_.Go.OpenSpec.ofChange s with cond := some uptoSmall }

/-- 'quittancelaw01.OctetHex', WHERE WHAT IT READS IS OF BULK AT MOST 1048576: true; the input reads as it did. -/
def octetHexUptoRow : OpenClaim := { program := "ythkhibgidenmjaa", sum := "c0f3dc0784ae5d52cf886374456a66df37d0483a378aaaf4b580c9cb5b1b0481", func := "quittance/quittancelaw01.OctetHex", spec := "octetHex", apart := false, narrowed := true }
def OctetHexUptoSaid : Prop := octetHexUptoRow.holds Try.pinned (OpenSpec.upto octetHexSpec)

/-- 'quittancelaw01.OctetOrders', WHERE WHAT IT READS IS OF BULK AT MOST 1048576: true; the input reads as it did. -/
def octetOrdersUptoRow : OpenClaim := { program := "ythkhibgidenmjaa", sum := "c0f3dc0784ae5d52cf886374456a66df37d0483a378aaaf4b580c9cb5b1b0481", func := "quittance/quittancelaw01.OctetOrders", spec := "octetOrders", apart := false, narrowed := true }
def OctetOrdersUptoSaid : Prop := octetOrdersUptoRow.holds Try.pinned (OpenSpec.upto octetOrdersSpec)

/-- 'quittancelaw01.OctetRules', WHERE WHAT IT READS IS OF BULK AT MOST 1048576: true; the input reads as it did. -/
def octetRulesUptoRow : OpenClaim := { program := "ythkhibgidenmjaa", sum := "c0f3dc0784ae5d52cf886374456a66df37d0483a378aaaf4b580c9cb5b1b0481", func := "quittance/quittancelaw01.OctetRules", spec := "octetRules", apart := false, narrowed := true }
def OctetRulesUptoSaid : Prop := octetRulesUptoRow.holds Try.pinned (OpenSpec.upto octetRulesSpec)

/-- 'quittancelaw01.OctetPlays', WHERE WHAT IT READS IS OF BULK AT MOST 1048576: true; the input reads as it did. -/
def octetPlaysUptoRow : OpenClaim := { program := "ythkhibgidenmjaa", sum := "c0f3dc0784ae5d52cf886374456a66df37d0483a378aaaf4b580c9cb5b1b0481", func := "quittance/quittancelaw01.OctetPlays", spec := "octetPlays", apart := false, narrowed := true }
def OctetPlaysUptoSaid : Prop := octetPlaysUptoRow.holds Try.pinned (OpenSpec.upto octetPlaysSpec)

/-- 'quittancelaw01.OctetNil', WHERE WHAT IT READS IS OF BULK AT MOST 1048576: true; the input reads as it did. -/
def octetNilUptoRow : OpenClaim := { program := "ythkhibgidenmjaa", sum := "c0f3dc0784ae5d52cf886374456a66df37d0483a378aaaf4b580c9cb5b1b0481", func := "quittance/quittancelaw01.OctetNil", spec := "octetNil", apart := false, narrowed := true }
def OctetNilUptoSaid : Prop := octetNilUptoRow.holds Try.pinned (OpenSpec.upto octetNilSpec)

/-- 'quittancelaw01.OctetParts', WHERE WHAT IT READS IS OF BULK AT MOST 1048576: true; the input reads as it did. -/
def octetPartsUptoRow : OpenClaim := { program := "ythkhibgidenmjaa", sum := "c0f3dc0784ae5d52cf886374456a66df37d0483a378aaaf4b580c9cb5b1b0481", func := "quittance/quittancelaw01.OctetParts", spec := "octetParts", apart := false, narrowed := true }
def OctetPartsUptoSaid : Prop := octetPartsUptoRow.holds Try.pinned (OpenSpec.upto octetPartsSpec)

end Rows
end Go.Proofs.Ythkhibgidenmjaa
