/-
  DERIVED. GIVEN WITH THE SEED: THE CARDS: each row of YtogliinfdfkobaaDoorRows.lean that lists a variable, with what it lists TIED to the program's text (the seventh form; the later family's looks); each row that meets fmt, with fmt's text TOLD by the authors' own Lean function (tested against real Go, not proved from fmt's source: count such statements apart). THE CARD IS WHAT COUNTS. Prove the row's statement (the work); the ties are given (YtogliinfdfkobaaDoorTie.lean); close each card by the builder's one call (the guide's Derived/Test/ToyasCard.lean, 'card_holds'). Laid BY PROGRAM, IN A SANDBOX (cutbox-door.mjs). By AI agents, Wed Nov 11 2026. No macro, syntax, notation, axiom, sorry.
-/
import Derived.Test.YtogliinfdfkobaaDoorRows
import GoSem.ClaimSeven
namespace Go.Proofs.YtogliinfdfkobaaDoor
namespace Rows

/-- THE TIED CARD OF 'quittancelaw06.TextSigns'. -/
def textSignsCard : Claim7 := { stood := { row := textSignsRow, standIns := [], harness := (true, "60f3fdc32d2cf89e275d1ac603f0ce8c4c8bfdb3f5ae2a50cc3d8a17c8facb1a"), looks := false }, kinds := [], alts := [], laidByText := true, laidKinds := [.data, .pinned], laidTests := true, laidLooks := .later }
def TextSignsCardSaid : Prop := Claim7.holds Tryd.pinned (.plain (OpenSpec.ofChange textSignsSpec)) textSignsCard

/-- THE TIED CARD OF 'quittancelaw06.TextKinds'. -/
def textKindsCard : Claim7 := { stood := { row := textKindsRow, standIns := [], harness := (true, "60f3fdc32d2cf89e275d1ac603f0ce8c4c8bfdb3f5ae2a50cc3d8a17c8facb1a"), looks := false }, kinds := [], alts := [], laidByText := true, laidKinds := [.data, .pinned], laidTests := true, laidLooks := .later }
def TextKindsCardSaid : Prop := Claim7.holds Tryd.pinned (.plain (OpenSpec.ofChange textKindsSpec)) textKindsCard

/-- THE TIED CARD OF 'quittancelaw06.TextOfs'. -/
def textOfsCard : Claim7 := { stood := { row := textOfsRow, standIns := [], harness := (true, "60f3fdc32d2cf89e275d1ac603f0ce8c4c8bfdb3f5ae2a50cc3d8a17c8facb1a"), looks := false }, kinds := [], alts := [], laidByText := true, laidKinds := [.data, .pinned], laidTests := true, laidLooks := .later }
def TextOfsCardSaid : Prop := Claim7.holds Tryd.pinned (.plain (OpenSpec.ofChange textOfsSpec)) textOfsCard

/-- THE TIED CARD OF 'quittancelaw06.TextWrites'. -/
def textWritesCard : Claim7 := { stood := { row := textWritesRow, standIns := [], harness := (true, "60f3fdc32d2cf89e275d1ac603f0ce8c4c8bfdb3f5ae2a50cc3d8a17c8facb1a"), looks := false }, kinds := [], alts := [], laidByText := true, laidKinds := [.data, .pinned], laidTests := true, laidLooks := .later }
def TextWritesCardSaid : Prop := Claim7.holds Tryd.pinned (.plain (OpenSpec.ofChange textWritesSpec)) textWritesCard

/-- THE TIED CARD OF 'quittancelaw06.TextReads'. -/
def textReadsCard : Claim7 := { stood := { row := textReadsRow, standIns := [], harness := (true, "60f3fdc32d2cf89e275d1ac603f0ce8c4c8bfdb3f5ae2a50cc3d8a17c8facb1a"), looks := false }, kinds := [], alts := [], laidByText := true, laidKinds := [.data, .pinned], laidTests := true, laidLooks := .later }
def TextReadsCardSaid : Prop := Claim7.holds Tryd.pinned (.plain (OpenSpec.ofChange textReadsSpec)) textReadsCard

/-- THE TIED CARD OF 'quittancelaw06.TextBack'. -/
def textBackCard : Claim7 := { stood := { row := textBackRow, standIns := [], harness := (true, "60f3fdc32d2cf89e275d1ac603f0ce8c4c8bfdb3f5ae2a50cc3d8a17c8facb1a"), looks := false }, kinds := [], alts := [], laidByText := true, laidKinds := [.data, .pinned], laidTests := true, laidLooks := .later }
def TextBackCardSaid : Prop := Claim7.holds Tryd.pinned (.plain (OpenSpec.ofChange textBackSpec)) textBackCard

/-- THE SECOND FORM's CARD OF 'quittancelaw06.TextSigns'. -/
def textSignsUptoCard : Claim7 := { stood := { row := textSignsUptoRow, standIns := [], harness := (true, "60f3fdc32d2cf89e275d1ac603f0ce8c4c8bfdb3f5ae2a50cc3d8a17c8facb1a"), looks := false }, kinds := [], alts := [], laidByText := true, laidKinds := [.data, .pinned], laidTests := true, laidLooks := .later }
def TextSignsUptoCardSaid : Prop := Claim7.holds Tryd.pinned (.plain (OpenSpec.upto textSignsSpec)) textSignsUptoCard

/-- THE SECOND FORM's CARD OF 'quittancelaw06.TextKinds'. -/
def textKindsUptoCard : Claim7 := { stood := { row := textKindsUptoRow, standIns := [], harness := (true, "60f3fdc32d2cf89e275d1ac603f0ce8c4c8bfdb3f5ae2a50cc3d8a17c8facb1a"), looks := false }, kinds := [], alts := [], laidByText := true, laidKinds := [.data, .pinned], laidTests := true, laidLooks := .later }
def TextKindsUptoCardSaid : Prop := Claim7.holds Tryd.pinned (.plain (OpenSpec.upto textKindsSpec)) textKindsUptoCard

/-- THE SECOND FORM's CARD OF 'quittancelaw06.TextOfs'. -/
def textOfsUptoCard : Claim7 := { stood := { row := textOfsUptoRow, standIns := [], harness := (true, "60f3fdc32d2cf89e275d1ac603f0ce8c4c8bfdb3f5ae2a50cc3d8a17c8facb1a"), looks := false }, kinds := [], alts := [], laidByText := true, laidKinds := [.data, .pinned], laidTests := true, laidLooks := .later }
def TextOfsUptoCardSaid : Prop := Claim7.holds Tryd.pinned (.plain (OpenSpec.upto textOfsSpec)) textOfsUptoCard

/-- THE SECOND FORM's CARD OF 'quittancelaw06.TextWrites'. -/
def textWritesUptoCard : Claim7 := { stood := { row := textWritesUptoRow, standIns := [], harness := (true, "60f3fdc32d2cf89e275d1ac603f0ce8c4c8bfdb3f5ae2a50cc3d8a17c8facb1a"), looks := false }, kinds := [], alts := [], laidByText := true, laidKinds := [.data, .pinned], laidTests := true, laidLooks := .later }
def TextWritesUptoCardSaid : Prop := Claim7.holds Tryd.pinned (.plain (OpenSpec.upto textWritesSpec)) textWritesUptoCard

/-- THE SECOND FORM's CARD OF 'quittancelaw06.TextReads'. -/
def textReadsUptoCard : Claim7 := { stood := { row := textReadsUptoRow, standIns := [], harness := (true, "60f3fdc32d2cf89e275d1ac603f0ce8c4c8bfdb3f5ae2a50cc3d8a17c8facb1a"), looks := false }, kinds := [], alts := [], laidByText := true, laidKinds := [.data, .pinned], laidTests := true, laidLooks := .later }
def TextReadsUptoCardSaid : Prop := Claim7.holds Tryd.pinned (.plain (OpenSpec.upto textReadsSpec)) textReadsUptoCard

/-- THE SECOND FORM's CARD OF 'quittancelaw06.TextBack'. -/
def textBackUptoCard : Claim7 := { stood := { row := textBackUptoRow, standIns := [], harness := (true, "60f3fdc32d2cf89e275d1ac603f0ce8c4c8bfdb3f5ae2a50cc3d8a17c8facb1a"), looks := false }, kinds := [], alts := [], laidByText := true, laidKinds := [.data, .pinned], laidTests := true, laidLooks := .later }
def TextBackUptoCardSaid : Prop := Claim7.holds Tryd.pinned (.plain (OpenSpec.upto textBackSpec)) textBackUptoCard
end Rows
end Go.Proofs.YtogliinfdfkobaaDoor
