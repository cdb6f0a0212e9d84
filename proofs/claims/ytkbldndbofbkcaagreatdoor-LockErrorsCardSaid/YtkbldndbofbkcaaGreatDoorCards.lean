/-
  DERIVED. GIVEN WITH THE SEED: THE CARDS: each row of YtkbldndbofbkcaaGreatDoorRows.lean that lists a variable, with what it lists TIED to the program's text (the seventh form; the later family's looks); each row that meets fmt, with fmt's text TOLD by the authors' own Lean function (tested against real Go, not proved from fmt's source: count such statements apart). THE CARD IS WHAT COUNTS. Prove the row's statement (the work); the ties are given (YtkbldndbofbkcaaGreatDoorTie.lean); close each card by the builder's one call (the guide's Derived/Test/ToyasCard.lean, 'card_holds'). Laid BY PROGRAM, IN A SANDBOX (cutbox-door.mjs). By AI agents, Wed Nov 11 2026. No macro, syntax, notation, axiom, sorry.
-/
import Derived.Test.YtkbldndbofbkcaaGreatDoorRows
import GoSem.ClaimSeven
namespace Go.Proofs.YtkbldndbofbkcaaGreatDoor
namespace Rows

/-- THE TIED CARD OF 'replevinlaw34.LockDecodes'. -/
def lockDecodesCard : Claim7 := { stood := { row := lockDecodesRow, standIns := [], harness := (true, "2a6453758fad6cc53dd7f591497998820b78589a43cd8ac577ef6ff2b26842bc"), looks := true }, kinds := [], alts := [], laidByText := true, laidKinds := [.data, .data, .data, .sentinel, .sentinel], laidTests := true, laidLooks := .later }
def LockDecodesCardSaid : Prop := Claim7.holds Tryz.pinned (.plain (OpenSpec.ofChange lockDecodesSpec)) lockDecodesCard

/-- THE TIED CARD OF 'replevinlaw34.LockExcludes'. -/
def lockExcludesCard : Claim7 := { stood := { row := lockExcludesRow, standIns := [], harness := (true, "2a6453758fad6cc53dd7f591497998820b78589a43cd8ac577ef6ff2b26842bc"), looks := true }, kinds := [], alts := [], laidByText := true, laidKinds := [.data, .data, .data, .sentinel, .sentinel], laidTests := true, laidLooks := .later }
def LockExcludesCardSaid : Prop := Claim7.holds Tryz.pinned (.plain (OpenSpec.ofChange lockExcludesSpec)) lockExcludesCard

/-- THE TIED CARD OF 'replevinlaw34.LockShares'. -/
def lockSharesCard : Claim7 := { stood := { row := lockSharesRow, standIns := [], harness := (true, "2a6453758fad6cc53dd7f591497998820b78589a43cd8ac577ef6ff2b26842bc"), looks := true }, kinds := [], alts := [], laidByText := true, laidKinds := [.data, .data, .data, .sentinel, .sentinel], laidTests := true, laidLooks := .later }
def LockSharesCardSaid : Prop := Claim7.holds Tryz.pinned (.plain (OpenSpec.ofChange lockSharesSpec)) lockSharesCard

/-- THE TIED CARD OF 'replevinlaw34.LockChecks'. -/
def lockChecksCard : Claim7 := { stood := { row := lockChecksRow, standIns := [], harness := (true, "2a6453758fad6cc53dd7f591497998820b78589a43cd8ac577ef6ff2b26842bc"), looks := true }, kinds := [], alts := [], laidByText := true, laidKinds := [.data, .data, .data, .sentinel, .sentinel], laidTests := true, laidLooks := .later }
def LockChecksCardSaid : Prop := Claim7.holds Tryz.pinned (.plain (OpenSpec.ofChange lockChecksSpec)) lockChecksCard

/-- THE TIED CARD OF 'replevinlaw34.LockEquals'. -/
def lockEqualsCard : Claim7 := { stood := { row := lockEqualsRow, standIns := [], harness := (true, "2a6453758fad6cc53dd7f591497998820b78589a43cd8ac577ef6ff2b26842bc"), looks := true }, kinds := [], alts := [], laidByText := true, laidKinds := [.data, .data, .data, .sentinel, .sentinel], laidTests := true, laidLooks := .later }
def LockEqualsCardSaid : Prop := Claim7.holds Tryz.pinned (.plain (OpenSpec.ofChange lockEqualsSpec)) lockEqualsCard

/-- THE TIED CARD OF 'replevinlaw28.DirectoryMany'. -/
def directoryManyCard : Claim7 := { stood := { row := directoryManyRow, standIns := [], harness := (true, "2a6453758fad6cc53dd7f591497998820b78589a43cd8ac577ef6ff2b26842bc"), looks := true }, kinds := [], alts := [], laidByText := true, laidKinds := [.data, .data, .data, .sentinel, .sentinel], laidTests := true, laidLooks := .later }
def DirectoryManyCardSaid : Prop := Claim7.holds Tryz.pinned (.plain (OpenSpec.ofChange directoryManySpec)) directoryManyCard

/-- THE TIED CARD OF 'replevinlaw28.DirectoryValues'. -/
def directoryValuesCard : Claim7 := { stood := { row := directoryValuesRow, standIns := [], harness := (true, "2a6453758fad6cc53dd7f591497998820b78589a43cd8ac577ef6ff2b26842bc"), looks := true }, kinds := [], alts := [], laidByText := true, laidKinds := [.data, .data, .data, .sentinel, .sentinel], laidTests := true, laidLooks := .later }
def DirectoryValuesCardSaid : Prop := Claim7.holds Tryz.pinned (.plain (OpenSpec.ofChange directoryValuesSpec)) directoryValuesCard

/-- THE TIED CARD OF 'replevinlaw28.DirectoryBirths'. -/
def directoryBirthsCard : Claim7 := { stood := { row := directoryBirthsRow, standIns := [], harness := (true, "2a6453758fad6cc53dd7f591497998820b78589a43cd8ac577ef6ff2b26842bc"), looks := true }, kinds := [], alts := [], laidByText := true, laidKinds := [.data, .data, .data, .sentinel, .sentinel], laidTests := true, laidLooks := .later }
def DirectoryBirthsCardSaid : Prop := Claim7.holds Tryz.pinned (.plain (OpenSpec.ofChange directoryBirthsSpec)) directoryBirthsCard

/-- THE TIED CARD OF 'replevinlaw34.LockErrors'. -/
def lockErrorsCard : Claim7 := { stood := { row := lockErrorsRow, standIns := [], harness := (true, "2a6453758fad6cc53dd7f591497998820b78589a43cd8ac577ef6ff2b26842bc"), looks := true }, kinds := [], alts := [], laidByText := true, laidKinds := [.data, .data, .data, .sentinel, .sentinel], laidTests := true, laidLooks := .later }
def LockErrorsCardSaid : Prop := Claim7.holds Tryz.pinned (.plain (OpenSpec.ofChange lockErrorsSpec)) lockErrorsCard

/-- THE TIED CARD OF 'replevinlaw28.DirectoryPlays'. -/
def directoryPlaysCard : Claim7 := { stood := { row := directoryPlaysRow, standIns := [], harness := (true, "2a6453758fad6cc53dd7f591497998820b78589a43cd8ac577ef6ff2b26842bc"), looks := true }, kinds := [], alts := [], laidByText := true, laidKinds := [.data, .data, .data, .sentinel, .sentinel], laidTests := true, laidLooks := .later }
def DirectoryPlaysCardSaid : Prop := Claim7.holds Tryz.pinned (.plain (OpenSpec.ofChange directoryPlaysSpec)) directoryPlaysCard

/-- THE TIED CARD OF 'replevinlaw28.DirectoryErrors'. -/
def directoryErrorsCard : Claim7 := { stood := { row := directoryErrorsRow, standIns := [], harness := (true, "2a6453758fad6cc53dd7f591497998820b78589a43cd8ac577ef6ff2b26842bc"), looks := true }, kinds := [], alts := [], laidByText := true, laidKinds := [.data, .data, .data, .sentinel, .sentinel], laidTests := true, laidLooks := .later }
def DirectoryErrorsCardSaid : Prop := Claim7.holds Tryz.pinned (.plain (OpenSpec.ofChange directoryErrorsSpec)) directoryErrorsCard

/-- THE TIED CARD OF 'replevinlaw28.DirectoryKeeps'. -/
def directoryKeepsCard : Claim7 := { stood := { row := directoryKeepsRow, standIns := [], harness := (true, "2a6453758fad6cc53dd7f591497998820b78589a43cd8ac577ef6ff2b26842bc"), looks := true }, kinds := [], alts := [], laidByText := true, laidKinds := [.data, .data, .data, .sentinel, .sentinel], laidTests := true, laidLooks := .later }
def DirectoryKeepsCardSaid : Prop := Claim7.holds Tryz.pinned (.plain (OpenSpec.ofChange directoryKeepsSpec)) directoryKeepsCard

/-- THE TIED CARD OF 'replevinlaw28.DirectoryReads'. -/
def directoryReadsCard : Claim7 := { stood := { row := directoryReadsRow, standIns := [], harness := (true, "2a6453758fad6cc53dd7f591497998820b78589a43cd8ac577ef6ff2b26842bc"), looks := true }, kinds := [], alts := [], laidByText := true, laidKinds := [.data, .data, .data, .sentinel, .sentinel], laidTests := true, laidLooks := .later }
def DirectoryReadsCardSaid : Prop := Claim7.holds Tryz.pinned (.plain (OpenSpec.ofChange directoryReadsSpec)) directoryReadsCard

/-- THE TIED CARD OF 'replevinlaw28.DirectoryFrame'. -/
def directoryFrameCard : Claim7 := { stood := { row := directoryFrameRow, standIns := [], harness := (true, "2a6453758fad6cc53dd7f591497998820b78589a43cd8ac577ef6ff2b26842bc"), looks := true }, kinds := [], alts := [], laidByText := true, laidKinds := [.data, .data, .data, .sentinel, .sentinel], laidTests := true, laidLooks := .later }
def DirectoryFrameCardSaid : Prop := Claim7.holds Tryz.pinned (.plain (OpenSpec.ofChange directoryFrameSpec)) directoryFrameCard

/-- THE SECOND FORM's CARD OF 'replevinlaw34.LockDecodes'. -/
def lockDecodesUptoCard : Claim7 := { stood := { row := lockDecodesUptoRow, standIns := [], harness := (true, "2a6453758fad6cc53dd7f591497998820b78589a43cd8ac577ef6ff2b26842bc"), looks := true }, kinds := [], alts := [], laidByText := true, laidKinds := [.data, .data, .data, .sentinel, .sentinel], laidTests := true, laidLooks := .later }
def LockDecodesUptoCardSaid : Prop := Claim7.holds Tryz.pinned (.plain (OpenSpec.upto lockDecodesSpec)) lockDecodesUptoCard

/-- THE SECOND FORM's CARD OF 'replevinlaw34.LockExcludes'. -/
def lockExcludesUptoCard : Claim7 := { stood := { row := lockExcludesUptoRow, standIns := [], harness := (true, "2a6453758fad6cc53dd7f591497998820b78589a43cd8ac577ef6ff2b26842bc"), looks := true }, kinds := [], alts := [], laidByText := true, laidKinds := [.data, .data, .data, .sentinel, .sentinel], laidTests := true, laidLooks := .later }
def LockExcludesUptoCardSaid : Prop := Claim7.holds Tryz.pinned (.plain (OpenSpec.upto lockExcludesSpec)) lockExcludesUptoCard

/-- THE SECOND FORM's CARD OF 'replevinlaw34.LockShares'. -/
def lockSharesUptoCard : Claim7 := { stood := { row := lockSharesUptoRow, standIns := [], harness := (true, "2a6453758fad6cc53dd7f591497998820b78589a43cd8ac577ef6ff2b26842bc"), looks := true }, kinds := [], alts := [], laidByText := true, laidKinds := [.data, .data, .data, .sentinel, .sentinel], laidTests := true, laidLooks := .later }
def LockSharesUptoCardSaid : Prop := Claim7.holds Tryz.pinned (.plain (OpenSpec.upto lockSharesSpec)) lockSharesUptoCard

/-- THE SECOND FORM's CARD OF 'replevinlaw34.LockChecks'. -/
def lockChecksUptoCard : Claim7 := { stood := { row := lockChecksUptoRow, standIns := [], harness := (true, "2a6453758fad6cc53dd7f591497998820b78589a43cd8ac577ef6ff2b26842bc"), looks := true }, kinds := [], alts := [], laidByText := true, laidKinds := [.data, .data, .data, .sentinel, .sentinel], laidTests := true, laidLooks := .later }
def LockChecksUptoCardSaid : Prop := Claim7.holds Tryz.pinned (.plain (OpenSpec.upto lockChecksSpec)) lockChecksUptoCard

/-- THE SECOND FORM's CARD OF 'replevinlaw34.LockEquals'. -/
def lockEqualsUptoCard : Claim7 := { stood := { row := lockEqualsUptoRow, standIns := [], harness := (true, "2a6453758fad6cc53dd7f591497998820b78589a43cd8ac577ef6ff2b26842bc"), looks := true }, kinds := [], alts := [], laidByText := true, laidKinds := [.data, .data, .data, .sentinel, .sentinel], laidTests := true, laidLooks := .later }
def LockEqualsUptoCardSaid : Prop := Claim7.holds Tryz.pinned (.plain (OpenSpec.upto lockEqualsSpec)) lockEqualsUptoCard

/-- THE SECOND FORM's CARD OF 'replevinlaw28.DirectoryMany'. -/
def directoryManyUptoCard : Claim7 := { stood := { row := directoryManyUptoRow, standIns := [], harness := (true, "2a6453758fad6cc53dd7f591497998820b78589a43cd8ac577ef6ff2b26842bc"), looks := true }, kinds := [], alts := [], laidByText := true, laidKinds := [.data, .data, .data, .sentinel, .sentinel], laidTests := true, laidLooks := .later }
def DirectoryManyUptoCardSaid : Prop := Claim7.holds Tryz.pinned (.plain (OpenSpec.upto directoryManySpec)) directoryManyUptoCard

/-- THE SECOND FORM's CARD OF 'replevinlaw28.DirectoryValues'. -/
def directoryValuesUptoCard : Claim7 := { stood := { row := directoryValuesUptoRow, standIns := [], harness := (true, "2a6453758fad6cc53dd7f591497998820b78589a43cd8ac577ef6ff2b26842bc"), looks := true }, kinds := [], alts := [], laidByText := true, laidKinds := [.data, .data, .data, .sentinel, .sentinel], laidTests := true, laidLooks := .later }
def DirectoryValuesUptoCardSaid : Prop := Claim7.holds Tryz.pinned (.plain (OpenSpec.upto directoryValuesSpec)) directoryValuesUptoCard

/-- THE SECOND FORM's CARD OF 'replevinlaw28.DirectoryBirths'. -/
def directoryBirthsUptoCard : Claim7 := { stood := { row := directoryBirthsUptoRow, standIns := [], harness := (true, "2a6453758fad6cc53dd7f591497998820b78589a43cd8ac577ef6ff2b26842bc"), looks := true }, kinds := [], alts := [], laidByText := true, laidKinds := [.data, .data, .data, .sentinel, .sentinel], laidTests := true, laidLooks := .later }
def DirectoryBirthsUptoCardSaid : Prop := Claim7.holds Tryz.pinned (.plain (OpenSpec.upto directoryBirthsSpec)) directoryBirthsUptoCard

/-- THE SECOND FORM's CARD OF 'replevinlaw34.LockErrors'. -/
def lockErrorsUptoCard : Claim7 := { stood := { row := lockErrorsUptoRow, standIns := [], harness := (true, "2a6453758fad6cc53dd7f591497998820b78589a43cd8ac577ef6ff2b26842bc"), looks := true }, kinds := [], alts := [], laidByText := true, laidKinds := [.data, .data, .data, .sentinel, .sentinel], laidTests := true, laidLooks := .later }
def LockErrorsUptoCardSaid : Prop := Claim7.holds Tryz.pinned (.plain (OpenSpec.upto lockErrorsSpec)) lockErrorsUptoCard

/-- THE SECOND FORM's CARD OF 'replevinlaw28.DirectoryPlays'. -/
def directoryPlaysUptoCard : Claim7 := { stood := { row := directoryPlaysUptoRow, standIns := [], harness := (true, "2a6453758fad6cc53dd7f591497998820b78589a43cd8ac577ef6ff2b26842bc"), looks := true }, kinds := [], alts := [], laidByText := true, laidKinds := [.data, .data, .data, .sentinel, .sentinel], laidTests := true, laidLooks := .later }
def DirectoryPlaysUptoCardSaid : Prop := Claim7.holds Tryz.pinned (.plain (OpenSpec.upto directoryPlaysSpec)) directoryPlaysUptoCard

/-- THE SECOND FORM's CARD OF 'replevinlaw28.DirectoryErrors'. -/
def directoryErrorsUptoCard : Claim7 := { stood := { row := directoryErrorsUptoRow, standIns := [], harness := (true, "2a6453758fad6cc53dd7f591497998820b78589a43cd8ac577ef6ff2b26842bc"), looks := true }, kinds := [], alts := [], laidByText := true, laidKinds := [.data, .data, .data, .sentinel, .sentinel], laidTests := true, laidLooks := .later }
def DirectoryErrorsUptoCardSaid : Prop := Claim7.holds Tryz.pinned (.plain (OpenSpec.upto directoryErrorsSpec)) directoryErrorsUptoCard

/-- THE SECOND FORM's CARD OF 'replevinlaw28.DirectoryKeeps'. -/
def directoryKeepsUptoCard : Claim7 := { stood := { row := directoryKeepsUptoRow, standIns := [], harness := (true, "2a6453758fad6cc53dd7f591497998820b78589a43cd8ac577ef6ff2b26842bc"), looks := true }, kinds := [], alts := [], laidByText := true, laidKinds := [.data, .data, .data, .sentinel, .sentinel], laidTests := true, laidLooks := .later }
def DirectoryKeepsUptoCardSaid : Prop := Claim7.holds Tryz.pinned (.plain (OpenSpec.upto directoryKeepsSpec)) directoryKeepsUptoCard

/-- THE SECOND FORM's CARD OF 'replevinlaw28.DirectoryReads'. -/
def directoryReadsUptoCard : Claim7 := { stood := { row := directoryReadsUptoRow, standIns := [], harness := (true, "2a6453758fad6cc53dd7f591497998820b78589a43cd8ac577ef6ff2b26842bc"), looks := true }, kinds := [], alts := [], laidByText := true, laidKinds := [.data, .data, .data, .sentinel, .sentinel], laidTests := true, laidLooks := .later }
def DirectoryReadsUptoCardSaid : Prop := Claim7.holds Tryz.pinned (.plain (OpenSpec.upto directoryReadsSpec)) directoryReadsUptoCard

/-- THE SECOND FORM's CARD OF 'replevinlaw28.DirectoryFrame'. -/
def directoryFrameUptoCard : Claim7 := { stood := { row := directoryFrameUptoRow, standIns := [], harness := (true, "2a6453758fad6cc53dd7f591497998820b78589a43cd8ac577ef6ff2b26842bc"), looks := true }, kinds := [], alts := [], laidByText := true, laidKinds := [.data, .data, .data, .sentinel, .sentinel], laidTests := true, laidLooks := .later }
def DirectoryFrameUptoCardSaid : Prop := Claim7.holds Tryz.pinned (.plain (OpenSpec.upto directoryFrameSpec)) directoryFrameUptoCard
end Rows
end Go.Proofs.YtkbldndbofbkcaaGreatDoor
