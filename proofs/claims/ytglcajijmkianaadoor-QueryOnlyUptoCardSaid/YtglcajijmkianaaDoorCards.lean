/-
  DERIVED. GIVEN WITH THE SEED: THE CARDS: each row of YtglcajijmkianaaDoorRows.lean that lists a variable, with what it lists TIED to the program's text (the seventh form; the later family's looks); each row that meets fmt, with fmt's text TOLD by the authors' own Lean function (tested against real Go, not proved from fmt's source: count such statements apart). THE CARD IS WHAT COUNTS. Prove the row's statement (the work); the ties are given (YtglcajijmkianaaDoorTie.lean); close each card by the builder's one call (the guide's Derived/Test/ToyasCard.lean, 'card_holds'). Laid BY PROGRAM, IN A SANDBOX (cutbox-door.mjs). By AI agents, Wed Nov 11 2026. No macro, syntax, notation, axiom, sorry.
-/
import Derived.Test.YtglcajijmkianaaDoorRows
import GoSem.ClaimSeven
namespace Go.Proofs.YtglcajijmkianaaDoor
namespace Rows

/-- THE TIED CARD OF 'tithebarnlaw23.QueryTexts'. -/
def queryTextsCard : Claim7 := { stood := { row := queryTextsRow, standIns := [], harness := (true, "ebf3ee59c81d6c11d1e17c0ba058cfc64232a7f73f5528aabc777ca04b9ebe63"), looks := true }, kinds := [], alts := [], laidByText := true, laidKinds := [.data, .data, .data, .sentinel, .sentinel], laidTests := true, laidLooks := .later }
def QueryTextsCardSaid : Prop := Claim7.holds Tryd.pinned (.plain (OpenSpec.ofChange queryTextsSpec)) queryTextsCard

/-- THE TIED CARD OF 'tithebarnlaw23.QueryBack'. -/
def queryBackCard : Claim7 := { stood := { row := queryBackRow, standIns := [], harness := (true, "ebf3ee59c81d6c11d1e17c0ba058cfc64232a7f73f5528aabc777ca04b9ebe63"), looks := true }, kinds := [], alts := [], laidByText := true, laidKinds := [.data, .data, .data, .sentinel, .sentinel], laidTests := true, laidLooks := .later }
def QueryBackCardSaid : Prop := Claim7.holds Tryd.pinned (.plain (OpenSpec.ofChange queryBackSpec)) queryBackCard

/-- THE TIED CARD OF 'tithebarnlaw23.QueryOnly'. -/
def queryOnlyCard : Claim7 := { stood := { row := queryOnlyRow, standIns := [], harness := (true, "ebf3ee59c81d6c11d1e17c0ba058cfc64232a7f73f5528aabc777ca04b9ebe63"), looks := true }, kinds := [], alts := [], laidByText := true, laidKinds := [.data, .data, .data, .sentinel, .sentinel], laidTests := true, laidLooks := .later }
def QueryOnlyCardSaid : Prop := Claim7.holds Tryd.pinned (.plain (OpenSpec.ofChange queryOnlySpec)) queryOnlyCard

/-- THE TIED CARD OF 'tithebarnlaw23.QueryNot'. -/
def queryNotCard : Claim7 := { stood := { row := queryNotRow, standIns := [], harness := (true, "ebf3ee59c81d6c11d1e17c0ba058cfc64232a7f73f5528aabc777ca04b9ebe63"), looks := true }, kinds := [], alts := [], laidByText := true, laidKinds := [.data, .data, .data, .sentinel, .sentinel], laidTests := true, laidLooks := .later }
def QueryNotCardSaid : Prop := Claim7.holds Tryd.pinned (.plain (OpenSpec.ofChange queryNotSpec)) queryNotCard

/-- THE TIED CARD OF 'tithebarnlaw23.QueryHolds'. -/
def queryHoldsCard : Claim7 := { stood := { row := queryHoldsRow, standIns := [], harness := (true, "ebf3ee59c81d6c11d1e17c0ba058cfc64232a7f73f5528aabc777ca04b9ebe63"), looks := true }, kinds := [], alts := [], laidByText := true, laidKinds := [.data, .data, .data, .sentinel, .sentinel], laidTests := true, laidLooks := .later }
def QueryHoldsCardSaid : Prop := Claim7.holds Tryd.pinned (.plain (OpenSpec.ofChange queryHoldsSpec)) queryHoldsCard

/-- THE TIED CARD OF 'tithebarnlaw23.QueryKnown'. -/
def queryKnownCard : Claim7 := { stood := { row := queryKnownRow, standIns := [], harness := (true, "ebf3ee59c81d6c11d1e17c0ba058cfc64232a7f73f5528aabc777ca04b9ebe63"), looks := true }, kinds := [], alts := [], laidByText := true, laidKinds := [.data, .data, .data, .sentinel, .sentinel], laidTests := true, laidLooks := .later }
def QueryKnownCardSaid : Prop := Claim7.holds Tryd.pinned (.plain (OpenSpec.ofChange queryKnownSpec)) queryKnownCard

/-- THE SECOND FORM's CARD OF 'tithebarnlaw23.QueryTexts'. -/
def queryTextsUptoCard : Claim7 := { stood := { row := queryTextsUptoRow, standIns := [], harness := (true, "ebf3ee59c81d6c11d1e17c0ba058cfc64232a7f73f5528aabc777ca04b9ebe63"), looks := true }, kinds := [], alts := [], laidByText := true, laidKinds := [.data, .data, .data, .sentinel, .sentinel], laidTests := true, laidLooks := .later }
def QueryTextsUptoCardSaid : Prop := Claim7.holds Tryd.pinned (.plain (OpenSpec.upto queryTextsSpec)) queryTextsUptoCard

/-- THE SECOND FORM's CARD OF 'tithebarnlaw23.QueryBack'. -/
def queryBackUptoCard : Claim7 := { stood := { row := queryBackUptoRow, standIns := [], harness := (true, "ebf3ee59c81d6c11d1e17c0ba058cfc64232a7f73f5528aabc777ca04b9ebe63"), looks := true }, kinds := [], alts := [], laidByText := true, laidKinds := [.data, .data, .data, .sentinel, .sentinel], laidTests := true, laidLooks := .later }
def QueryBackUptoCardSaid : Prop := Claim7.holds Tryd.pinned (.plain (OpenSpec.upto queryBackSpec)) queryBackUptoCard

/-- THE SECOND FORM's CARD OF 'tithebarnlaw23.QueryOnly'. -/
def queryOnlyUptoCard : Claim7 := { stood := { row := queryOnlyUptoRow, standIns := [], harness := (true, "ebf3ee59c81d6c11d1e17c0ba058cfc64232a7f73f5528aabc777ca04b9ebe63"), looks := true }, kinds := [], alts := [], laidByText := true, laidKinds := [.data, .data, .data, .sentinel, .sentinel], laidTests := true, laidLooks := .later }
def QueryOnlyUptoCardSaid : Prop := Claim7.holds Tryd.pinned (.plain (OpenSpec.upto queryOnlySpec)) queryOnlyUptoCard

/-- THE SECOND FORM's CARD OF 'tithebarnlaw23.QueryNot'. -/
def queryNotUptoCard : Claim7 := { stood := { row := queryNotUptoRow, standIns := [], harness := (true, "ebf3ee59c81d6c11d1e17c0ba058cfc64232a7f73f5528aabc777ca04b9ebe63"), looks := true }, kinds := [], alts := [], laidByText := true, laidKinds := [.data, .data, .data, .sentinel, .sentinel], laidTests := true, laidLooks := .later }
def QueryNotUptoCardSaid : Prop := Claim7.holds Tryd.pinned (.plain (OpenSpec.upto queryNotSpec)) queryNotUptoCard

/-- THE SECOND FORM's CARD OF 'tithebarnlaw23.QueryHolds'. -/
def queryHoldsUptoCard : Claim7 := { stood := { row := queryHoldsUptoRow, standIns := [], harness := (true, "ebf3ee59c81d6c11d1e17c0ba058cfc64232a7f73f5528aabc777ca04b9ebe63"), looks := true }, kinds := [], alts := [], laidByText := true, laidKinds := [.data, .data, .data, .sentinel, .sentinel], laidTests := true, laidLooks := .later }
def QueryHoldsUptoCardSaid : Prop := Claim7.holds Tryd.pinned (.plain (OpenSpec.upto queryHoldsSpec)) queryHoldsUptoCard

/-- THE SECOND FORM's CARD OF 'tithebarnlaw23.QueryKnown'. -/
def queryKnownUptoCard : Claim7 := { stood := { row := queryKnownUptoRow, standIns := [], harness := (true, "ebf3ee59c81d6c11d1e17c0ba058cfc64232a7f73f5528aabc777ca04b9ebe63"), looks := true }, kinds := [], alts := [], laidByText := true, laidKinds := [.data, .data, .data, .sentinel, .sentinel], laidTests := true, laidLooks := .later }
def QueryKnownUptoCardSaid : Prop := Claim7.holds Tryd.pinned (.plain (OpenSpec.upto queryKnownSpec)) queryKnownUptoCard
end Rows
end Go.Proofs.YtglcajijmkianaaDoor
