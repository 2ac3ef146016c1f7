/-
  NARROWER THAN 'FOR EVERY INPUT', by the rows' own cells (each row's printed sentence says how): ItemEach: loops · ItemFinds: loops · ItemPrints: loops.
  DERIVED. THE GIVEN ROWS OF THIS SEAT. 6 by the template 'for every input the law returns true; each argument reads behind the call as it read before'; 0 by the template 'total and deterministic' (their statements: YtogliinfdfkobaaTotals.lean).
  GIVEN WITH THE SEED: the statements are not yours to turn. If you find one false, say at which input.
  Laid BY PROGRAM, IN A SANDBOX (cutbox-rows.mjs): the forced cells as the released guide's own fill.sh prints them over the translation 4c42780475f130cf… (all of the seat's roots in one cut). By AI agents, Wed Nov 11 2026. No macro, syntax, notation, axiom, sorry.
-/
import Derived.Test.YtogliinfdfkobaaChecked
import GoSem.Claim
import GoSem.ClaimJoined
import GoSem.ClaimMapViews
import Derived.JoinedTies
import Derived.KernelRfl
namespace Go.Proofs.Ytogliinfdfkobaa
/- THE CELL 'sum', in the pinned program and in every row, IS THE sha256 OF THE DUMP (.gsa) THAT YtogliinfdfkobaaProg.lean LOADS. Nothing in Lean hashes anything: it is a label: what it is worth is what the hold of that sum in a sandbox is worth. -/
noncomputable def Try.pinned : Pinned := { name := "ytogliinfdfkobaa", sum := "4c42780475f130cf4ee4eced0c0fbfc9f075a64b75cd5e7b2bd89af33ed26eb4", checked := Try.checked }
namespace Rows
def none {H : Type} : Left H := { results := [], args := [] }

/-- 'quittancelaw07.ItemEach': WHATEVER THE INPUT: true; the input reads as it did. -/
def itemEachSpec : ChangeSpec := { name := "itemEach", fn := fun _ => fun
  | [d1, d2] => { results := [.lit (.bool true)], args := [d1, d2] }
  | _ => none }
def itemEachRow : OpenClaim := { program := "ytogliinfdfkobaa", sum := "4c42780475f130cf4ee4eced0c0fbfc9f075a64b75cd5e7b2bd89af33ed26eb4", func := "quittance/quittancelaw07.ItemEach", spec := "itemEach", unfollowed := true, recurses := true, loops := true, apart := false }
def ItemEachSaid : Prop := itemEachRow.holds Try.pinned (OpenSpec.ofChange itemEachSpec)

/-- ITS FALSE NEIGHBOUR: 'it returns false'. Refute it at one input. -/
def itemEachWrong : ChangeSpec := { name := "itemEach", fn := fun _ => fun
  | [d1, d2] => { results := [.lit (.bool false)], args := [d1, d2] }
  | _ => none }
def ItemEachWrongFalsely : Prop := itemEachRow.holds Try.pinned (OpenSpec.ofChange itemEachWrong)

/-- 'quittancelaw07.ItemParses': WHATEVER THE INPUT: true; the input reads as it did. -/
def itemParsesSpec : ChangeSpec := { name := "itemParses", fn := fun _ => fun
  | [d] => { results := [.lit (.bool true)], args := [d] }
  | _ => none }
def itemParsesRow : OpenClaim := { program := "ytogliinfdfkobaa", sum := "4c42780475f130cf4ee4eced0c0fbfc9f075a64b75cd5e7b2bd89af33ed26eb4", func := "quittance/quittancelaw07.ItemParses", spec := "itemParses", unfollowed := true, recurses := true, apart := false }
def ItemParsesSaid : Prop := itemParsesRow.holds Try.pinned (OpenSpec.ofChange itemParsesSpec)

/-- ITS FALSE NEIGHBOUR: 'it returns false'. Refute it at one input. -/
def itemParsesWrong : ChangeSpec := { name := "itemParses", fn := fun _ => fun
  | [d] => { results := [.lit (.bool false)], args := [d] }
  | _ => none }
def ItemParsesWrongFalsely : Prop := itemParsesRow.holds Try.pinned (OpenSpec.ofChange itemParsesWrong)

/-- 'quittancelaw07.ItemFinds': WHATEVER THE INPUT: true; the input reads as it did. -/
def itemFindsSpec : ChangeSpec := { name := "itemFinds", fn := fun _ => fun
  | [d1, d2, d3] => { results := [.lit (.bool true)], args := [d1, d2, d3] }
  | _ => none }
def itemFindsRow : OpenClaim := { program := "ytogliinfdfkobaa", sum := "4c42780475f130cf4ee4eced0c0fbfc9f075a64b75cd5e7b2bd89af33ed26eb4", func := "quittance/quittancelaw07.ItemFinds", spec := "itemFinds", unfollowed := true, recurses := true, loops := true, apart := false }
def ItemFindsSaid : Prop := itemFindsRow.holds Try.pinned (OpenSpec.ofChange itemFindsSpec)

/-- ITS FALSE NEIGHBOUR: 'it returns false'. Refute it at one input. -/
def itemFindsWrong : ChangeSpec := { name := "itemFinds", fn := fun _ => fun
  | [d1, d2, d3] => { results := [.lit (.bool false)], args := [d1, d2, d3] }
  | _ => none }
def ItemFindsWrongFalsely : Prop := itemFindsRow.holds Try.pinned (OpenSpec.ofChange itemFindsWrong)

/-- 'quittancelaw07.ItemBack': WHATEVER THE INPUT: true; the input reads as it did. -/
def itemBackSpec : ChangeSpec := { name := "itemBack", fn := fun _ => fun
  | [d] => { results := [.lit (.bool true)], args := [d] }
  | _ => none }
def itemBackRow : OpenClaim := { program := "ytogliinfdfkobaa", sum := "4c42780475f130cf4ee4eced0c0fbfc9f075a64b75cd5e7b2bd89af33ed26eb4", func := "quittance/quittancelaw07.ItemBack", spec := "itemBack", unfollowed := true, recurses := true, apart := false }
def ItemBackSaid : Prop := itemBackRow.holds Try.pinned (OpenSpec.ofChange itemBackSpec)

/-- ITS FALSE NEIGHBOUR: 'it returns false'. Refute it at one input. -/
def itemBackWrong : ChangeSpec := { name := "itemBack", fn := fun _ => fun
  | [d] => { results := [.lit (.bool false)], args := [d] }
  | _ => none }
def ItemBackWrongFalsely : Prop := itemBackRow.holds Try.pinned (OpenSpec.ofChange itemBackWrong)

/-- 'quittancelaw07.ItemPrints': WHATEVER THE INPUT: true; the input reads as it did. -/
def itemPrintsSpec : ChangeSpec := { name := "itemPrints", fn := fun _ => fun
  | [d] => { results := [.lit (.bool true)], args := [d] }
  | _ => none }
def itemPrintsRow : OpenClaim := { program := "ytogliinfdfkobaa", sum := "4c42780475f130cf4ee4eced0c0fbfc9f075a64b75cd5e7b2bd89af33ed26eb4", func := "quittance/quittancelaw07.ItemPrints", spec := "itemPrints", unfollowed := true, recurses := true, loops := true, apart := false }
def ItemPrintsSaid : Prop := itemPrintsRow.holds Try.pinned (OpenSpec.ofChange itemPrintsSpec)

/-- ITS FALSE NEIGHBOUR: 'it returns false'. Refute it at one input. -/
def itemPrintsWrong : ChangeSpec := { name := "itemPrints", fn := fun _ => fun
  | [d] => { results := [.lit (.bool false)], args := [d] }
  | _ => none }
def ItemPrintsWrongFalsely : Prop := itemPrintsRow.holds Try.pinned (OpenSpec.ofChange itemPrintsWrong)

/-- 'quittancelaw07.ItemDeep': WHATEVER THE INPUT: true; the input reads as it did. -/
def itemDeepSpec : ChangeSpec := { name := "itemDeep", fn := fun _ => fun
  | [d1, d2] => { results := [.lit (.bool true)], args := [d1, d2] }
  | _ => none }
def itemDeepRow : OpenClaim := { program := "ytogliinfdfkobaa", sum := "4c42780475f130cf4ee4eced0c0fbfc9f075a64b75cd5e7b2bd89af33ed26eb4", func := "quittance/quittancelaw07.ItemDeep", spec := "itemDeep", unfollowed := true, recurses := true, apart := false }
def ItemDeepSaid : Prop := itemDeepRow.holds Try.pinned (OpenSpec.ofChange itemDeepSpec)

/-- ITS FALSE NEIGHBOUR: 'it returns false'. Refute it at one input. -/
def itemDeepWrong : ChangeSpec := { name := "itemDeep", fn := fun _ => fun
  | [d1, d2] => { results := [.lit (.bool false)], args := [d1, d2] }
  | _ => none }
def ItemDeepWrongFalsely : Prop := itemDeepRow.holds Try.pinned (OpenSpec.ofChange itemDeepWrong)

/- THE SECOND FORM. 'bulk': how many values and letters a reading holds, each counted each time it is reached (what is shared counts as often as it is met; a slice's spare places count too). A statement '..UptoSaid' is the law's where the arguments, and the package variables that the reading takes, are together of bulk at most 1048576: NARROWER than '..Said'. Prove '..Said' where nothing that the law and all that it calls make is longer than what came in: it says more and counts as full. Else prove '..UptoSaid'. A law counts once. -/
mutual
def uptoBulk {H : Type} : DataW H → Nat
  | .lit (.string bytes) => bytes.length + 1
  | .lit _ => 1
  | .nil => 1
  | .ptr d => uptoBulk d + 1
  | .slice elems spare => uptoBulkAll elems + uptoBulkAll spare + 1
  | .agg parts => uptoBulkAll parts + 1
  | .iface _ d => uptoBulk d + 1
  | .map entries => uptoBulkEntries entries + 1
  | .held _ => 1
def uptoBulkAll {H : Type} : List (DataW H) → Nat
  | [] => 0
  | d :: r => uptoBulk d + uptoBulkAll r
def uptoBulkEntries {H : Type} : List (Lit × DataW H) → Nat
  | [] => 0
  | x :: r => uptoBulkEntry x + uptoBulkEntries r
def uptoBulkEntry {H : Type} : Lit × DataW H → Nat
  | (.string bytes, d) => bytes.length + uptoBulk d + 1
  | (_, d) => uptoBulk d + 1
 end
def uptoSmall : (H : Type) → List (DataW H) → Bool := fun _ ds => decide (uptoBulkAll ds ≤ 1048576)
def OpenSpec.upto (s : _root_.Go.ChangeSpec) : _root_.Go.OpenSpec := { _root_.Go.OpenSpec.ofChange s with cond := some uptoSmall }

/-- 'quittancelaw07.ItemEach', WHERE WHAT IT READS IS OF BULK AT MOST 1048576: true; the input reads as it did. -/
def itemEachUptoRow : OpenClaim := { program := "ytogliinfdfkobaa", sum := "4c42780475f130cf4ee4eced0c0fbfc9f075a64b75cd5e7b2bd89af33ed26eb4", func := "quittance/quittancelaw07.ItemEach", spec := "itemEach", unfollowed := true, recurses := true, loops := true, apart := false, narrowed := true }
def ItemEachUptoSaid : Prop := itemEachUptoRow.holds Try.pinned (OpenSpec.upto itemEachSpec)

/-- 'quittancelaw07.ItemParses', WHERE WHAT IT READS IS OF BULK AT MOST 1048576: true; the input reads as it did. -/
def itemParsesUptoRow : OpenClaim := { program := "ytogliinfdfkobaa", sum := "4c42780475f130cf4ee4eced0c0fbfc9f075a64b75cd5e7b2bd89af33ed26eb4", func := "quittance/quittancelaw07.ItemParses", spec := "itemParses", unfollowed := true, recurses := true, apart := false, narrowed := true }
def ItemParsesUptoSaid : Prop := itemParsesUptoRow.holds Try.pinned (OpenSpec.upto itemParsesSpec)

/-- 'quittancelaw07.ItemFinds', WHERE WHAT IT READS IS OF BULK AT MOST 1048576: true; the input reads as it did. -/
def itemFindsUptoRow : OpenClaim := { program := "ytogliinfdfkobaa", sum := "4c42780475f130cf4ee4eced0c0fbfc9f075a64b75cd5e7b2bd89af33ed26eb4", func := "quittance/quittancelaw07.ItemFinds", spec := "itemFinds", unfollowed := true, recurses := true, loops := true, apart := false, narrowed := true }
def ItemFindsUptoSaid : Prop := itemFindsUptoRow.holds Try.pinned (OpenSpec.upto itemFindsSpec)

/-- 'quittancelaw07.ItemBack', WHERE WHAT IT READS IS OF BULK AT MOST 1048576: true; the input reads as it did. -/
def itemBackUptoRow : OpenClaim := { program := "ytogliinfdfkobaa", sum := "4c42780475f130cf4ee4eced0c0fbfc9f075a64b75cd5e7b2bd89af33ed26eb4", func := "quittance/quittancelaw07.ItemBack", spec := "itemBack", unfollowed := true, recurses := true, apart := false, narrowed := true }
def ItemBackUptoSaid : Prop := itemBackUptoRow.holds Try.pinned (OpenSpec.upto itemBackSpec)

/-- 'quittancelaw07.ItemPrints', WHERE WHAT IT READS IS OF BULK AT MOST 1048576: true; the input reads as it did. -/
def itemPrintsUptoRow : OpenClaim := { program := "ytogliinfdfkobaa", sum := "4c42780475f130cf4ee4eced0c0fbfc9f075a64b75cd5e7b2bd89af33ed26eb4", func := "quittance/quittancelaw07.ItemPrints", spec := "itemPrints", unfollowed := true, recurses := true, loops := true, apart := false, narrowed := true }
def ItemPrintsUptoSaid : Prop := itemPrintsUptoRow.holds Try.pinned (OpenSpec.upto itemPrintsSpec)

/-- 'quittancelaw07.ItemDeep', WHERE WHAT IT READS IS OF BULK AT MOST 1048576: true; the input reads as it did. -/
def itemDeepUptoRow : OpenClaim := { program := "ytogliinfdfkobaa", sum := "4c42780475f130cf4ee4eced0c0fbfc9f075a64b75cd5e7b2bd89af33ed26eb4", func := "quittance/quittancelaw07.ItemDeep", spec := "itemDeep", unfollowed := true, recurses := true, apart := false, narrowed := true }
def ItemDeepUptoSaid : Prop := itemDeepUptoRow.holds Try.pinned (OpenSpec.upto itemDeepSpec)

end Rows
end Go.Proofs.Ytogliinfdfkobaa
