/-
  DERIVED. GIVEN WITH THE SEED: THE CARDS: each row of YtojcbknclfamhaaDoorRows.lean that lists a variable, with what it lists TIED to the program's text (the seventh form; the later family's looks); each row that meets fmt, with fmt's text TOLD by the authors' own Lean function (tested against real Go, not proved from fmt's source: count such statements apart). THE CARD IS WHAT COUNTS. Prove the row's statement (the work); the ties are given (YtojcbknclfamhaaDoorTie.lean); close each card by the builder's one call (the guide's Derived/Test/ToyasCard.lean, 'card_holds'). Laid BY PROGRAM, IN A SANDBOX (cutbox-door.mjs). By AI agents, Wed Nov 11 2026. No macro, syntax, notation, axiom, sorry.
-/
import Derived.Test.YtojcbknclfamhaaDoorRows
import GoSem.ClaimSeven
namespace Go.Proofs.YtojcbknclfamhaaDoor
namespace Rows

/-- THE TIED CARD OF 'tithebarnlaw15.JournalNames'. -/
def journalNamesCard : Claim7 := { stood := { row := journalNamesRow, standIns := [], harness := (true, "a0970b970ce1ef98bfcce67c665fb2cac8c3bade5e92b452d1579f3797a28717"), looks := true }, kinds := [], alts := [], laidByText := true, laidKinds := [.data, .data, .data, .sentinel, .sentinel], laidTests := true, laidLooks := .later }
def JournalNamesCardSaid : Prop := Claim7.holds Tryd.pinned (.plain (OpenSpec.ofChange journalNamesSpec)) journalNamesCard

/-- THE TIED CARD OF 'tithebarnlaw15.JournalTorn'. -/
def journalTornCard : Claim7 := { stood := { row := journalTornRow, standIns := [], harness := (true, "a0970b970ce1ef98bfcce67c665fb2cac8c3bade5e92b452d1579f3797a28717"), looks := true }, kinds := [], alts := [], laidByText := true, laidKinds := [.data, .data, .data, .sentinel, .sentinel], laidTests := true, laidLooks := .later }
def JournalTornCardSaid : Prop := Claim7.holds Tryd.pinned (.plain (OpenSpec.ofChange journalTornSpec)) journalTornCard

/-- THE TIED CARD OF 'tithebarnlaw15.JournalCuts'. -/
def journalCutsCard : Claim7 := { stood := { row := journalCutsRow, standIns := [], harness := (true, "a0970b970ce1ef98bfcce67c665fb2cac8c3bade5e92b452d1579f3797a28717"), looks := true }, kinds := [], alts := [], laidByText := true, laidKinds := [.data, .data, .data, .sentinel, .sentinel], laidTests := true, laidLooks := .later }
def JournalCutsCardSaid : Prop := Claim7.holds Tryd.pinned (.plain (OpenSpec.ofChange journalCutsSpec)) journalCutsCard

/-- THE TIED CARD OF 'tithebarnlaw15.JournalLast'. -/
def journalLastCard : Claim7 := { stood := { row := journalLastRow, standIns := [], harness := (true, "a0970b970ce1ef98bfcce67c665fb2cac8c3bade5e92b452d1579f3797a28717"), looks := true }, kinds := [], alts := [], laidByText := true, laidKinds := [.data, .data, .data, .sentinel, .sentinel], laidTests := true, laidLooks := .later }
def JournalLastCardSaid : Prop := Claim7.holds Tryd.pinned (.plain (OpenSpec.ofChange journalLastSpec)) journalLastCard

/-- THE SECOND FORM's CARD OF 'tithebarnlaw15.JournalNames'. -/
def journalNamesUptoCard : Claim7 := { stood := { row := journalNamesUptoRow, standIns := [], harness := (true, "a0970b970ce1ef98bfcce67c665fb2cac8c3bade5e92b452d1579f3797a28717"), looks := true }, kinds := [], alts := [], laidByText := true, laidKinds := [.data, .data, .data, .sentinel, .sentinel], laidTests := true, laidLooks := .later }
def JournalNamesUptoCardSaid : Prop := Claim7.holds Tryd.pinned (.plain (OpenSpec.upto journalNamesSpec)) journalNamesUptoCard

/-- THE SECOND FORM's CARD OF 'tithebarnlaw15.JournalTorn'. -/
def journalTornUptoCard : Claim7 := { stood := { row := journalTornUptoRow, standIns := [], harness := (true, "a0970b970ce1ef98bfcce67c665fb2cac8c3bade5e92b452d1579f3797a28717"), looks := true }, kinds := [], alts := [], laidByText := true, laidKinds := [.data, .data, .data, .sentinel, .sentinel], laidTests := true, laidLooks := .later }
def JournalTornUptoCardSaid : Prop := Claim7.holds Tryd.pinned (.plain (OpenSpec.upto journalTornSpec)) journalTornUptoCard

/-- THE SECOND FORM's CARD OF 'tithebarnlaw15.JournalCuts'. -/
def journalCutsUptoCard : Claim7 := { stood := { row := journalCutsUptoRow, standIns := [], harness := (true, "a0970b970ce1ef98bfcce67c665fb2cac8c3bade5e92b452d1579f3797a28717"), looks := true }, kinds := [], alts := [], laidByText := true, laidKinds := [.data, .data, .data, .sentinel, .sentinel], laidTests := true, laidLooks := .later }
def JournalCutsUptoCardSaid : Prop := Claim7.holds Tryd.pinned (.plain (OpenSpec.upto journalCutsSpec)) journalCutsUptoCard

/-- THE SECOND FORM's CARD OF 'tithebarnlaw15.JournalLast'. -/
def journalLastUptoCard : Claim7 := { stood := { row := journalLastUptoRow, standIns := [], harness := (true, "a0970b970ce1ef98bfcce67c665fb2cac8c3bade5e92b452d1579f3797a28717"), looks := true }, kinds := [], alts := [], laidByText := true, laidKinds := [.data, .data, .data, .sentinel, .sentinel], laidTests := true, laidLooks := .later }
def JournalLastUptoCardSaid : Prop := Claim7.holds Tryd.pinned (.plain (OpenSpec.upto journalLastSpec)) journalLastUptoCard
end Rows
end Go.Proofs.YtojcbknclfamhaaDoor
