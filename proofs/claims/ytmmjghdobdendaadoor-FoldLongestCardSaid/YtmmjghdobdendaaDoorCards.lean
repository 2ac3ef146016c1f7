/-
  DERIVED. GIVEN WITH THE SEED: THE CARDS: each row of YtmmjghdobdendaaDoorRows.lean that lists a variable, with what it lists TIED to the program's text (the seventh form; the later family's looks); each row that meets fmt, with fmt's text TOLD by the authors' own Lean function (tested against real Go, not proved from fmt's source: count such statements apart). THE CARD IS WHAT COUNTS. Prove the row's statement (the work); the ties are given (YtmmjghdobdendaaDoorTie.lean); close each card by the builder's one call (the guide's Derived/Test/ToyasCard.lean, 'card_holds'). Laid BY PROGRAM, IN A SANDBOX (cutbox-door.mjs). By AI agents, Wed Nov 11 2026. No macro, syntax, notation, axiom, sorry.
-/
import Derived.Test.YtmmjghdobdendaaDoorRows
import GoSem.ClaimSeven
namespace Go.Proofs.YtmmjghdobdendaaDoor
namespace Rows

/-- THE TIED CARD OF 'quittancelaw13.FoldKeys'. -/
def foldKeysCard : Claim7 := { stood := { row := foldKeysRow, standIns := [], harness := (true, "f3f3900f4771b86df5ffdd0f81847279b12242e7f30e2f7931f8e8aed454d920"), looks := false }, kinds := [], alts := [], laidByText := true, laidKinds := [.data, .pinned], laidTests := true, laidLooks := .later }
def FoldKeysCardSaid : Prop := Claim7.holds Tryd.pinned (.plain (OpenSpec.ofChange foldKeysSpec)) foldKeysCard

/-- THE TIED CARD OF 'quittancelaw13.FoldAgain'. -/
def foldAgainCard : Claim7 := { stood := { row := foldAgainRow, standIns := [], harness := (true, "f3f3900f4771b86df5ffdd0f81847279b12242e7f30e2f7931f8e8aed454d920"), looks := false }, kinds := [], alts := [], laidByText := true, laidKinds := [.data, .pinned], laidTests := true, laidLooks := .later }
def FoldAgainCardSaid : Prop := Claim7.holds Tryd.pinned (.plain (OpenSpec.ofChange foldAgainSpec)) foldAgainCard

/-- THE TIED CARD OF 'quittancelaw13.FoldHosts'. -/
def foldHostsCard : Claim7 := { stood := { row := foldHostsRow, standIns := [], harness := (true, "f3f3900f4771b86df5ffdd0f81847279b12242e7f30e2f7931f8e8aed454d920"), looks := false }, kinds := [], alts := [], laidByText := true, laidKinds := [.data, .pinned], laidTests := true, laidLooks := .later }
def FoldHostsCardSaid : Prop := Claim7.holds Tryd.pinned (.plain (OpenSpec.ofChange foldHostsSpec)) foldHostsCard

/-- THE TIED CARD OF 'quittancelaw13.FoldUnder'. -/
def foldUnderCard : Claim7 := { stood := { row := foldUnderRow, standIns := [], harness := (true, "f3f3900f4771b86df5ffdd0f81847279b12242e7f30e2f7931f8e8aed454d920"), looks := false }, kinds := [], alts := [], laidByText := true, laidKinds := [.data, .pinned], laidTests := true, laidLooks := .later }
def FoldUnderCardSaid : Prop := Claim7.holds Tryd.pinned (.plain (OpenSpec.ofChange foldUnderSpec)) foldUnderCard

/-- THE TIED CARD OF 'quittancelaw13.FoldSame'. -/
def foldSameCard : Claim7 := { stood := { row := foldSameRow, standIns := [], harness := (true, "f3f3900f4771b86df5ffdd0f81847279b12242e7f30e2f7931f8e8aed454d920"), looks := false }, kinds := [], alts := [], laidByText := true, laidKinds := [.data, .pinned], laidTests := true, laidLooks := .later }
def FoldSameCardSaid : Prop := Claim7.holds Tryd.pinned (.plain (OpenSpec.ofChange foldSameSpec)) foldSameCard

/-- THE TIED CARD OF 'quittancelaw13.FoldLongest'. -/
def foldLongestCard : Claim7 := { stood := { row := foldLongestRow, standIns := [], harness := (true, "f3f3900f4771b86df5ffdd0f81847279b12242e7f30e2f7931f8e8aed454d920"), looks := false }, kinds := [], alts := [], laidByText := true, laidKinds := [.data, .pinned], laidTests := true, laidLooks := .later }
def FoldLongestCardSaid : Prop := Claim7.holds Tryd.pinned (.plain (OpenSpec.ofChange foldLongestSpec)) foldLongestCard

/-- THE SECOND FORM's CARD OF 'quittancelaw13.FoldKeys'. -/
def foldKeysUptoCard : Claim7 := { stood := { row := foldKeysUptoRow, standIns := [], harness := (true, "f3f3900f4771b86df5ffdd0f81847279b12242e7f30e2f7931f8e8aed454d920"), looks := false }, kinds := [], alts := [], laidByText := true, laidKinds := [.data, .pinned], laidTests := true, laidLooks := .later }
def FoldKeysUptoCardSaid : Prop := Claim7.holds Tryd.pinned (.plain (OpenSpec.upto foldKeysSpec)) foldKeysUptoCard

/-- THE SECOND FORM's CARD OF 'quittancelaw13.FoldAgain'. -/
def foldAgainUptoCard : Claim7 := { stood := { row := foldAgainUptoRow, standIns := [], harness := (true, "f3f3900f4771b86df5ffdd0f81847279b12242e7f30e2f7931f8e8aed454d920"), looks := false }, kinds := [], alts := [], laidByText := true, laidKinds := [.data, .pinned], laidTests := true, laidLooks := .later }
def FoldAgainUptoCardSaid : Prop := Claim7.holds Tryd.pinned (.plain (OpenSpec.upto foldAgainSpec)) foldAgainUptoCard

/-- THE SECOND FORM's CARD OF 'quittancelaw13.FoldHosts'. -/
def foldHostsUptoCard : Claim7 := { stood := { row := foldHostsUptoRow, standIns := [], harness := (true, "f3f3900f4771b86df5ffdd0f81847279b12242e7f30e2f7931f8e8aed454d920"), looks := false }, kinds := [], alts := [], laidByText := true, laidKinds := [.data, .pinned], laidTests := true, laidLooks := .later }
def FoldHostsUptoCardSaid : Prop := Claim7.holds Tryd.pinned (.plain (OpenSpec.upto foldHostsSpec)) foldHostsUptoCard

/-- THE SECOND FORM's CARD OF 'quittancelaw13.FoldUnder'. -/
def foldUnderUptoCard : Claim7 := { stood := { row := foldUnderUptoRow, standIns := [], harness := (true, "f3f3900f4771b86df5ffdd0f81847279b12242e7f30e2f7931f8e8aed454d920"), looks := false }, kinds := [], alts := [], laidByText := true, laidKinds := [.data, .pinned], laidTests := true, laidLooks := .later }
def FoldUnderUptoCardSaid : Prop := Claim7.holds Tryd.pinned (.plain (OpenSpec.upto foldUnderSpec)) foldUnderUptoCard

/-- THE SECOND FORM's CARD OF 'quittancelaw13.FoldSame'. -/
def foldSameUptoCard : Claim7 := { stood := { row := foldSameUptoRow, standIns := [], harness := (true, "f3f3900f4771b86df5ffdd0f81847279b12242e7f30e2f7931f8e8aed454d920"), looks := false }, kinds := [], alts := [], laidByText := true, laidKinds := [.data, .pinned], laidTests := true, laidLooks := .later }
def FoldSameUptoCardSaid : Prop := Claim7.holds Tryd.pinned (.plain (OpenSpec.upto foldSameSpec)) foldSameUptoCard

/-- THE SECOND FORM's CARD OF 'quittancelaw13.FoldLongest'. -/
def foldLongestUptoCard : Claim7 := { stood := { row := foldLongestUptoRow, standIns := [], harness := (true, "f3f3900f4771b86df5ffdd0f81847279b12242e7f30e2f7931f8e8aed454d920"), looks := false }, kinds := [], alts := [], laidByText := true, laidKinds := [.data, .pinned], laidTests := true, laidLooks := .later }
def FoldLongestUptoCardSaid : Prop := Claim7.holds Tryd.pinned (.plain (OpenSpec.upto foldLongestSpec)) foldLongestUptoCard
end Rows
end Go.Proofs.YtmmjghdobdendaaDoor
