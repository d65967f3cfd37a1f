/-
  DERIVED. GIVEN WITH THE SEED: THE CARDS: each row of YtojcbknclfamhaaGreatDoorRows.lean that lists a variable, with what it lists TIED to the program's text (the seventh form; the later family's looks); each row that meets fmt, with fmt's text TOLD by the authors' own Lean function (tested against real Go, not proved from fmt's source: count such statements apart). THE CARD IS WHAT COUNTS. Prove the row's statement (the work); the ties are given (YtojcbknclfamhaaGreatDoorTie.lean); close each card by the builder's one call (the guide's Derived/Test/ToyasCard.lean, 'card_holds'). Laid BY PROGRAM, IN A SANDBOX (cutbox-door.mjs). By AI agents, Wed Nov 11 2026. No macro, syntax, notation, axiom, sorry.
-/
import Derived.Test.YtojcbknclfamhaaGreatDoorRows
import GoSem.ClaimSeven
namespace Go.Proofs.YtojcbknclfamhaaGreatDoor
namespace Rows

/-- THE TIED CARD OF 'tithebarnlaw15.JournalReads'. -/
def journalReadsCard : Claim7 := { stood := { row := journalReadsRow, standIns := [], harness := (true, "ef80743df0ee1ea9abfb50ac30c45b10ccbcdc570f85ada3c88b7ee8180b4de6"), looks := true }, kinds := [], alts := [], laidByText := true, laidKinds := [.data, .data, .data, .sentinel, .sentinel], laidTests := true, laidLooks := .later }
def JournalReadsCardSaid : Prop := Claim7.holds Tryz.pinned (.plain (OpenSpec.ofChange journalReadsSpec)) journalReadsCard

/-- THE TIED CARD OF 'tithebarnlaw15.JournalReplays'. -/
def journalReplaysCard : Claim7 := { stood := { row := journalReplaysRow, standIns := [], harness := (true, "ef80743df0ee1ea9abfb50ac30c45b10ccbcdc570f85ada3c88b7ee8180b4de6"), looks := true }, kinds := [], alts := [], laidByText := true, laidKinds := [.data, .data, .data, .sentinel, .sentinel], laidTests := true, laidLooks := .later }
def JournalReplaysCardSaid : Prop := Claim7.holds Tryz.pinned (.plain (OpenSpec.ofChange journalReplaysSpec)) journalReplaysCard

/-- THE SECOND FORM's CARD OF 'tithebarnlaw15.JournalReads'. -/
def journalReadsUptoCard : Claim7 := { stood := { row := journalReadsUptoRow, standIns := [], harness := (true, "ef80743df0ee1ea9abfb50ac30c45b10ccbcdc570f85ada3c88b7ee8180b4de6"), looks := true }, kinds := [], alts := [], laidByText := true, laidKinds := [.data, .data, .data, .sentinel, .sentinel], laidTests := true, laidLooks := .later }
def JournalReadsUptoCardSaid : Prop := Claim7.holds Tryz.pinned (.plain (OpenSpec.upto journalReadsSpec)) journalReadsUptoCard

/-- THE SECOND FORM's CARD OF 'tithebarnlaw15.JournalReplays'. -/
def journalReplaysUptoCard : Claim7 := { stood := { row := journalReplaysUptoRow, standIns := [], harness := (true, "ef80743df0ee1ea9abfb50ac30c45b10ccbcdc570f85ada3c88b7ee8180b4de6"), looks := true }, kinds := [], alts := [], laidByText := true, laidKinds := [.data, .data, .data, .sentinel, .sentinel], laidTests := true, laidLooks := .later }
def JournalReplaysUptoCardSaid : Prop := Claim7.holds Tryz.pinned (.plain (OpenSpec.upto journalReplaysSpec)) journalReplaysUptoCard
end Rows
end Go.Proofs.YtojcbknclfamhaaGreatDoor
