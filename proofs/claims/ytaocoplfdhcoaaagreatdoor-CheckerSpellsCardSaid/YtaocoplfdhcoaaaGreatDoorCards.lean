/-
  DERIVED. GIVEN WITH THE SEED: THE CARDS: each row of YtaocoplfdhcoaaaGreatDoorRows.lean that lists a variable, with what it lists TIED to the program's text (the seventh form; the later family's looks); each row that meets fmt, with fmt's text TOLD by the authors' own Lean function (tested against real Go, not proved from fmt's source: count such statements apart). THE CARD IS WHAT COUNTS. Prove the row's statement (the work); the ties are given (YtaocoplfdhcoaaaGreatDoorTie.lean); close each card by the builder's one call (the guide's Derived/Test/ToyasCard.lean, 'card_holds'). Laid BY PROGRAM, IN A SANDBOX (cutbox-door.mjs). By AI agents, Wed Nov 11 2026. No macro, syntax, notation, axiom, sorry.
-/
import Derived.Test.YtaocoplfdhcoaaaGreatDoorRows
import GoSem.ClaimSeven
namespace Go.Proofs.YtaocoplfdhcoaaaGreatDoor
namespace Rows

/-- THE TIED CARD OF 'schismalaw55.CheckerMembers'. -/
def checkerMembersCard : Claim7 := { stood := { row := checkerMembersRow, standIns := [], harness := (true, "8d7d68d3a892af48bfe96ede664ca4ed08e08576530c8c86627c2ff4d4f2c417"), looks := true }, kinds := [], alts := [], laidByText := true, laidKinds := [.data, .data, .data, .sentinel, .sentinel], laidTests := true, laidLooks := .later }
def CheckerMembersCardSaid : Prop := Claim7.holds Tryz.pinned (.plain (OpenSpec.ofChange checkerMembersSpec)) checkerMembersCard

/-- THE TIED CARD OF 'schismalaw55.CheckerInverses'. -/
def checkerInversesCard : Claim7 := { stood := { row := checkerInversesRow, standIns := [], harness := (true, "8d7d68d3a892af48bfe96ede664ca4ed08e08576530c8c86627c2ff4d4f2c417"), looks := true }, kinds := [], alts := [], laidByText := true, laidKinds := [.data, .data, .data, .sentinel, .sentinel], laidTests := true, laidLooks := .later }
def CheckerInversesCardSaid : Prop := Claim7.holds Tryz.pinned (.plain (OpenSpec.ofChange checkerInversesSpec)) checkerInversesCard

/-- THE TIED CARD OF 'schismalaw55.CheckerSpells'. -/
def checkerSpellsCard : Claim7 := { stood := { row := checkerSpellsRow, standIns := [], harness := (true, "8d7d68d3a892af48bfe96ede664ca4ed08e08576530c8c86627c2ff4d4f2c417"), looks := true }, kinds := [], alts := [], laidByText := true, laidKinds := [.data, .data, .data, .sentinel, .sentinel], laidTests := true, laidLooks := .later }
def CheckerSpellsCardSaid : Prop := Claim7.holds Tryz.pinned (.plain (OpenSpec.ofChange checkerSpellsSpec)) checkerSpellsCard

/-- THE TIED CARD OF 'schismalaw55.CheckerNumbers'. -/
def checkerNumbersCard : Claim7 := { stood := { row := checkerNumbersRow, standIns := [], harness := (true, "8d7d68d3a892af48bfe96ede664ca4ed08e08576530c8c86627c2ff4d4f2c417"), looks := true }, kinds := [], alts := [], laidByText := true, laidKinds := [.data, .data, .data, .sentinel, .sentinel], laidTests := true, laidLooks := .later }
def CheckerNumbersCardSaid : Prop := Claim7.holds Tryz.pinned (.plain (OpenSpec.ofChange checkerNumbersSpec)) checkerNumbersCard

/-- THE TIED CARD OF 'schismalaw55.CheckerBounds'. -/
def checkerBoundsCard : Claim7 := { stood := { row := checkerBoundsRow, standIns := [], harness := (true, "8d7d68d3a892af48bfe96ede664ca4ed08e08576530c8c86627c2ff4d4f2c417"), looks := true }, kinds := [], alts := [], laidByText := true, laidKinds := [.data, .data, .data, .sentinel, .sentinel], laidTests := true, laidLooks := .later }
def CheckerBoundsCardSaid : Prop := Claim7.holds Tryz.pinned (.plain (OpenSpec.ofChange checkerBoundsSpec)) checkerBoundsCard

/-- THE TIED CARD OF 'schismalaw55.CheckerTemperaments'. -/
def checkerTemperamentsCard : Claim7 := { stood := { row := checkerTemperamentsRow, standIns := [], harness := (true, "8d7d68d3a892af48bfe96ede664ca4ed08e08576530c8c86627c2ff4d4f2c417"), looks := true }, kinds := [], alts := [], laidByText := true, laidKinds := [.data, .data, .data, .sentinel, .sentinel], laidTests := true, laidLooks := .later }
def CheckerTemperamentsCardSaid : Prop := Claim7.holds Tryz.pinned (.plain (OpenSpec.ofChange checkerTemperamentsSpec)) checkerTemperamentsCard

/-- THE TIED CARD OF 'schismalaw23.ProgramRanges'. -/
def programRangesCard : Claim7 := { stood := { row := programRangesRow, standIns := [], harness := (true, "8d7d68d3a892af48bfe96ede664ca4ed08e08576530c8c86627c2ff4d4f2c417"), looks := true }, kinds := [], alts := [], laidByText := true, laidKinds := [.data, .data, .data, .sentinel, .sentinel], laidTests := true, laidLooks := .later }
def ProgramRangesCardSaid : Prop := Claim7.holds Tryz.pinned (.plain (OpenSpec.ofChange programRangesSpec)) programRangesCard

/-- THE TIED CARD OF 'schismalaw23.ProgramLess'. -/
def programLessCard : Claim7 := { stood := { row := programLessRow, standIns := [], harness := (true, "8d7d68d3a892af48bfe96ede664ca4ed08e08576530c8c86627c2ff4d4f2c417"), looks := true }, kinds := [], alts := [], laidByText := true, laidKinds := [.data, .data, .data, .sentinel, .sentinel], laidTests := true, laidLooks := .later }
def ProgramLessCardSaid : Prop := Claim7.holds Tryz.pinned (.plain (OpenSpec.ofChange programLessSpec)) programLessCard

/-- THE TIED CARD OF 'schismalaw55.CheckerSigns'. -/
def checkerSignsCard : Claim7 := { stood := { row := checkerSignsRow, standIns := [], harness := (true, "8d7d68d3a892af48bfe96ede664ca4ed08e08576530c8c86627c2ff4d4f2c417"), looks := true }, kinds := [], alts := [], laidByText := true, laidKinds := [.data, .data, .data, .sentinel, .sentinel], laidTests := true, laidLooks := .later }
def CheckerSignsCardSaid : Prop := Claim7.holds Tryz.pinned (.plain (OpenSpec.ofChange checkerSignsSpec)) checkerSignsCard

/-- THE TIED CARD OF 'schismalaw23.ProgramChecks'. -/
def programChecksCard : Claim7 := { stood := { row := programChecksRow, standIns := [], harness := (true, "8d7d68d3a892af48bfe96ede664ca4ed08e08576530c8c86627c2ff4d4f2c417"), looks := true }, kinds := [], alts := [], laidByText := true, laidKinds := [.data, .data, .data, .sentinel, .sentinel], laidTests := true, laidLooks := .later }
def ProgramChecksCardSaid : Prop := Claim7.holds Tryz.pinned (.plain (OpenSpec.ofChange programChecksSpec)) programChecksCard

/-- THE TIED CARD OF 'schismalaw55.CheckerPaths'. -/
def checkerPathsCard : Claim7 := { stood := { row := checkerPathsRow, standIns := [], harness := (true, "8d7d68d3a892af48bfe96ede664ca4ed08e08576530c8c86627c2ff4d4f2c417"), looks := true }, kinds := [], alts := [], laidByText := true, laidKinds := [.data, .data, .data, .sentinel, .sentinel], laidTests := true, laidLooks := .later }
def CheckerPathsCardSaid : Prop := Claim7.holds Tryz.pinned (.plain (OpenSpec.ofChange checkerPathsSpec)) checkerPathsCard

/-- THE TIED CARD OF 'schismalaw55.CheckerDuals'. -/
def checkerDualsCard : Claim7 := { stood := { row := checkerDualsRow, standIns := [], harness := (true, "8d7d68d3a892af48bfe96ede664ca4ed08e08576530c8c86627c2ff4d4f2c417"), looks := true }, kinds := [], alts := [], laidByText := true, laidKinds := [.data, .data, .data, .sentinel, .sentinel], laidTests := true, laidLooks := .later }
def CheckerDualsCardSaid : Prop := Claim7.holds Tryz.pinned (.plain (OpenSpec.ofChange checkerDualsSpec)) checkerDualsCard

/-- THE SECOND FORM's CARD OF 'schismalaw55.CheckerMembers'. -/
def checkerMembersUptoCard : Claim7 := { stood := { row := checkerMembersUptoRow, standIns := [], harness := (true, "8d7d68d3a892af48bfe96ede664ca4ed08e08576530c8c86627c2ff4d4f2c417"), looks := true }, kinds := [], alts := [], laidByText := true, laidKinds := [.data, .data, .data, .sentinel, .sentinel], laidTests := true, laidLooks := .later }
def CheckerMembersUptoCardSaid : Prop := Claim7.holds Tryz.pinned (.plain (OpenSpec.upto checkerMembersSpec)) checkerMembersUptoCard

/-- THE SECOND FORM's CARD OF 'schismalaw55.CheckerInverses'. -/
def checkerInversesUptoCard : Claim7 := { stood := { row := checkerInversesUptoRow, standIns := [], harness := (true, "8d7d68d3a892af48bfe96ede664ca4ed08e08576530c8c86627c2ff4d4f2c417"), looks := true }, kinds := [], alts := [], laidByText := true, laidKinds := [.data, .data, .data, .sentinel, .sentinel], laidTests := true, laidLooks := .later }
def CheckerInversesUptoCardSaid : Prop := Claim7.holds Tryz.pinned (.plain (OpenSpec.upto checkerInversesSpec)) checkerInversesUptoCard

/-- THE SECOND FORM's CARD OF 'schismalaw55.CheckerSpells'. -/
def checkerSpellsUptoCard : Claim7 := { stood := { row := checkerSpellsUptoRow, standIns := [], harness := (true, "8d7d68d3a892af48bfe96ede664ca4ed08e08576530c8c86627c2ff4d4f2c417"), looks := true }, kinds := [], alts := [], laidByText := true, laidKinds := [.data, .data, .data, .sentinel, .sentinel], laidTests := true, laidLooks := .later }
def CheckerSpellsUptoCardSaid : Prop := Claim7.holds Tryz.pinned (.plain (OpenSpec.upto checkerSpellsSpec)) checkerSpellsUptoCard

/-- THE SECOND FORM's CARD OF 'schismalaw55.CheckerNumbers'. -/
def checkerNumbersUptoCard : Claim7 := { stood := { row := checkerNumbersUptoRow, standIns := [], harness := (true, "8d7d68d3a892af48bfe96ede664ca4ed08e08576530c8c86627c2ff4d4f2c417"), looks := true }, kinds := [], alts := [], laidByText := true, laidKinds := [.data, .data, .data, .sentinel, .sentinel], laidTests := true, laidLooks := .later }
def CheckerNumbersUptoCardSaid : Prop := Claim7.holds Tryz.pinned (.plain (OpenSpec.upto checkerNumbersSpec)) checkerNumbersUptoCard

/-- THE SECOND FORM's CARD OF 'schismalaw55.CheckerBounds'. -/
def checkerBoundsUptoCard : Claim7 := { stood := { row := checkerBoundsUptoRow, standIns := [], harness := (true, "8d7d68d3a892af48bfe96ede664ca4ed08e08576530c8c86627c2ff4d4f2c417"), looks := true }, kinds := [], alts := [], laidByText := true, laidKinds := [.data, .data, .data, .sentinel, .sentinel], laidTests := true, laidLooks := .later }
def CheckerBoundsUptoCardSaid : Prop := Claim7.holds Tryz.pinned (.plain (OpenSpec.upto checkerBoundsSpec)) checkerBoundsUptoCard

/-- THE SECOND FORM's CARD OF 'schismalaw55.CheckerTemperaments'. -/
def checkerTemperamentsUptoCard : Claim7 := { stood := { row := checkerTemperamentsUptoRow, standIns := [], harness := (true, "8d7d68d3a892af48bfe96ede664ca4ed08e08576530c8c86627c2ff4d4f2c417"), looks := true }, kinds := [], alts := [], laidByText := true, laidKinds := [.data, .data, .data, .sentinel, .sentinel], laidTests := true, laidLooks := .later }
def CheckerTemperamentsUptoCardSaid : Prop := Claim7.holds Tryz.pinned (.plain (OpenSpec.upto checkerTemperamentsSpec)) checkerTemperamentsUptoCard

/-- THE SECOND FORM's CARD OF 'schismalaw23.ProgramRanges'. -/
def programRangesUptoCard : Claim7 := { stood := { row := programRangesUptoRow, standIns := [], harness := (true, "8d7d68d3a892af48bfe96ede664ca4ed08e08576530c8c86627c2ff4d4f2c417"), looks := true }, kinds := [], alts := [], laidByText := true, laidKinds := [.data, .data, .data, .sentinel, .sentinel], laidTests := true, laidLooks := .later }
def ProgramRangesUptoCardSaid : Prop := Claim7.holds Tryz.pinned (.plain (OpenSpec.upto programRangesSpec)) programRangesUptoCard

/-- THE SECOND FORM's CARD OF 'schismalaw23.ProgramLess'. -/
def programLessUptoCard : Claim7 := { stood := { row := programLessUptoRow, standIns := [], harness := (true, "8d7d68d3a892af48bfe96ede664ca4ed08e08576530c8c86627c2ff4d4f2c417"), looks := true }, kinds := [], alts := [], laidByText := true, laidKinds := [.data, .data, .data, .sentinel, .sentinel], laidTests := true, laidLooks := .later }
def ProgramLessUptoCardSaid : Prop := Claim7.holds Tryz.pinned (.plain (OpenSpec.upto programLessSpec)) programLessUptoCard

/-- THE SECOND FORM's CARD OF 'schismalaw55.CheckerSigns'. -/
def checkerSignsUptoCard : Claim7 := { stood := { row := checkerSignsUptoRow, standIns := [], harness := (true, "8d7d68d3a892af48bfe96ede664ca4ed08e08576530c8c86627c2ff4d4f2c417"), looks := true }, kinds := [], alts := [], laidByText := true, laidKinds := [.data, .data, .data, .sentinel, .sentinel], laidTests := true, laidLooks := .later }
def CheckerSignsUptoCardSaid : Prop := Claim7.holds Tryz.pinned (.plain (OpenSpec.upto checkerSignsSpec)) checkerSignsUptoCard

/-- THE SECOND FORM's CARD OF 'schismalaw23.ProgramChecks'. -/
def programChecksUptoCard : Claim7 := { stood := { row := programChecksUptoRow, standIns := [], harness := (true, "8d7d68d3a892af48bfe96ede664ca4ed08e08576530c8c86627c2ff4d4f2c417"), looks := true }, kinds := [], alts := [], laidByText := true, laidKinds := [.data, .data, .data, .sentinel, .sentinel], laidTests := true, laidLooks := .later }
def ProgramChecksUptoCardSaid : Prop := Claim7.holds Tryz.pinned (.plain (OpenSpec.upto programChecksSpec)) programChecksUptoCard

/-- THE SECOND FORM's CARD OF 'schismalaw55.CheckerPaths'. -/
def checkerPathsUptoCard : Claim7 := { stood := { row := checkerPathsUptoRow, standIns := [], harness := (true, "8d7d68d3a892af48bfe96ede664ca4ed08e08576530c8c86627c2ff4d4f2c417"), looks := true }, kinds := [], alts := [], laidByText := true, laidKinds := [.data, .data, .data, .sentinel, .sentinel], laidTests := true, laidLooks := .later }
def CheckerPathsUptoCardSaid : Prop := Claim7.holds Tryz.pinned (.plain (OpenSpec.upto checkerPathsSpec)) checkerPathsUptoCard

/-- THE SECOND FORM's CARD OF 'schismalaw55.CheckerDuals'. -/
def checkerDualsUptoCard : Claim7 := { stood := { row := checkerDualsUptoRow, standIns := [], harness := (true, "8d7d68d3a892af48bfe96ede664ca4ed08e08576530c8c86627c2ff4d4f2c417"), looks := true }, kinds := [], alts := [], laidByText := true, laidKinds := [.data, .data, .data, .sentinel, .sentinel], laidTests := true, laidLooks := .later }
def CheckerDualsUptoCardSaid : Prop := Claim7.holds Tryz.pinned (.plain (OpenSpec.upto checkerDualsSpec)) checkerDualsUptoCard
end Rows
end Go.Proofs.YtaocoplfdhcoaaaGreatDoor
