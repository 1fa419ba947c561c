/-
  DERIVED. GIVEN WITH THE SEED: THE CARDS: each row of YtlfokdbnbmebiaaDoorRows.lean that lists a variable, with what it lists TIED to the program's text (the seventh form; the later family's looks); each row that meets fmt, with fmt's text TOLD by the authors' own Lean function (tested against real Go, not proved from fmt's source: count such statements apart). THE CARD IS WHAT COUNTS. Prove the row's statement (the work); the ties are given (YtlfokdbnbmebiaaDoorTie.lean); close each card by the builder's one call (the guide's Derived/Test/ToyasCard.lean, 'card_holds'). Laid BY PROGRAM, IN A SANDBOX (cutbox-door.mjs). By AI agents, Wed Nov 11 2026. No macro, syntax, notation, axiom, sorry.
-/
import Derived.Test.YtlfokdbnbmebiaaDoorRows
import GoSem.ClaimSeven
namespace Go.Proofs.YtlfokdbnbmebiaaDoor
namespace Rows

/-- THE TIED CARD OF 'computuslaw26.CattextMatchesReference'. -/
def cattextMatchesReferenceCard : Claim7 := { stood := { row := cattextMatchesReferenceRow, standIns := [], harness := (true, "2a6c92cb85acc9c4eb9b9923b53504cd6864475a65d70bdc3c8a4d55023f26dc"), looks := true }, kinds := [], alts := [], laidByText := true, laidKinds := [.data, .data, .data, .data, .widerDeep], laidTests := true, laidLooks := .later }
def CattextMatchesReferenceCardSaid : Prop := Claim7.holds Tryd.pinned (.plain (OpenSpec.ofChange cattextMatchesReferenceSpec)) cattextMatchesReferenceCard

/-- THE TIED CARD OF 'computuslaw26.CattextCanonical'. -/
def cattextCanonicalCard : Claim7 := { stood := { row := cattextCanonicalRow, standIns := [], harness := (true, "2a6c92cb85acc9c4eb9b9923b53504cd6864475a65d70bdc3c8a4d55023f26dc"), looks := true }, kinds := [], alts := [], laidByText := true, laidKinds := [.data, .data, .data, .data, .widerDeep], laidTests := true, laidLooks := .later }
def CattextCanonicalCardSaid : Prop := Claim7.holds Tryd.pinned (.plain (OpenSpec.ofChange cattextCanonicalSpec)) cattextCanonicalCard

/-- THE TIED CARD OF 'computuslaw26.CattextAccepted'. -/
def cattextAcceptedCard : Claim7 := { stood := { row := cattextAcceptedRow, standIns := [], harness := (true, "2a6c92cb85acc9c4eb9b9923b53504cd6864475a65d70bdc3c8a4d55023f26dc"), looks := true }, kinds := [], alts := [], laidByText := true, laidKinds := [.data, .data, .data, .data, .widerDeep], laidTests := true, laidLooks := .later }
def CattextAcceptedCardSaid : Prop := Claim7.holds Tryd.pinned (.plain (OpenSpec.ofChange cattextAcceptedSpec)) cattextAcceptedCard

/-- THE TIED CARD OF 'computuslaw26.CattextOffsets'. -/
def cattextOffsetsCard : Claim7 := { stood := { row := cattextOffsetsRow, standIns := [], harness := (true, "2a6c92cb85acc9c4eb9b9923b53504cd6864475a65d70bdc3c8a4d55023f26dc"), looks := true }, kinds := [], alts := [], laidByText := true, laidKinds := [.data, .data, .data, .data, .widerDeep], laidTests := true, laidLooks := .later }
def CattextOffsetsCardSaid : Prop := Claim7.holds Tryd.pinned (.plain (OpenSpec.ofChange cattextOffsetsSpec)) cattextOffsetsCard

/-- THE TIED CARD OF 'computuslaw26.CattextLines'. -/
def cattextLinesCard : Claim7 := { stood := { row := cattextLinesRow, standIns := [], harness := (true, "2a6c92cb85acc9c4eb9b9923b53504cd6864475a65d70bdc3c8a4d55023f26dc"), looks := true }, kinds := [], alts := [], laidByText := true, laidKinds := [.data, .data, .data, .data, .widerDeep], laidTests := true, laidLooks := .later }
def CattextLinesCardSaid : Prop := Claim7.holds Tryd.pinned (.plain (OpenSpec.ofChange cattextLinesSpec)) cattextLinesCard

/-- THE SECOND FORM's CARD OF 'computuslaw26.CattextMatchesReference'. -/
def cattextMatchesReferenceUptoCard : Claim7 := { stood := { row := cattextMatchesReferenceUptoRow, standIns := [], harness := (true, "2a6c92cb85acc9c4eb9b9923b53504cd6864475a65d70bdc3c8a4d55023f26dc"), looks := true }, kinds := [], alts := [], laidByText := true, laidKinds := [.data, .data, .data, .data, .widerDeep], laidTests := true, laidLooks := .later }
def CattextMatchesReferenceUptoCardSaid : Prop := Claim7.holds Tryd.pinned (.plain (OpenSpec.upto cattextMatchesReferenceSpec)) cattextMatchesReferenceUptoCard

/-- THE SECOND FORM's CARD OF 'computuslaw26.CattextCanonical'. -/
def cattextCanonicalUptoCard : Claim7 := { stood := { row := cattextCanonicalUptoRow, standIns := [], harness := (true, "2a6c92cb85acc9c4eb9b9923b53504cd6864475a65d70bdc3c8a4d55023f26dc"), looks := true }, kinds := [], alts := [], laidByText := true, laidKinds := [.data, .data, .data, .data, .widerDeep], laidTests := true, laidLooks := .later }
def CattextCanonicalUptoCardSaid : Prop := Claim7.holds Tryd.pinned (.plain (OpenSpec.upto cattextCanonicalSpec)) cattextCanonicalUptoCard

/-- THE SECOND FORM's CARD OF 'computuslaw26.CattextAccepted'. -/
def cattextAcceptedUptoCard : Claim7 := { stood := { row := cattextAcceptedUptoRow, standIns := [], harness := (true, "2a6c92cb85acc9c4eb9b9923b53504cd6864475a65d70bdc3c8a4d55023f26dc"), looks := true }, kinds := [], alts := [], laidByText := true, laidKinds := [.data, .data, .data, .data, .widerDeep], laidTests := true, laidLooks := .later }
def CattextAcceptedUptoCardSaid : Prop := Claim7.holds Tryd.pinned (.plain (OpenSpec.upto cattextAcceptedSpec)) cattextAcceptedUptoCard

/-- THE SECOND FORM's CARD OF 'computuslaw26.CattextOffsets'. -/
def cattextOffsetsUptoCard : Claim7 := { stood := { row := cattextOffsetsUptoRow, standIns := [], harness := (true, "2a6c92cb85acc9c4eb9b9923b53504cd6864475a65d70bdc3c8a4d55023f26dc"), looks := true }, kinds := [], alts := [], laidByText := true, laidKinds := [.data, .data, .data, .data, .widerDeep], laidTests := true, laidLooks := .later }
def CattextOffsetsUptoCardSaid : Prop := Claim7.holds Tryd.pinned (.plain (OpenSpec.upto cattextOffsetsSpec)) cattextOffsetsUptoCard

/-- THE SECOND FORM's CARD OF 'computuslaw26.CattextLines'. -/
def cattextLinesUptoCard : Claim7 := { stood := { row := cattextLinesUptoRow, standIns := [], harness := (true, "2a6c92cb85acc9c4eb9b9923b53504cd6864475a65d70bdc3c8a4d55023f26dc"), looks := true }, kinds := [], alts := [], laidByText := true, laidKinds := [.data, .data, .data, .data, .widerDeep], laidTests := true, laidLooks := .later }
def CattextLinesUptoCardSaid : Prop := Claim7.holds Tryd.pinned (.plain (OpenSpec.upto cattextLinesSpec)) cattextLinesUptoCard
end Rows
end Go.Proofs.YtlfokdbnbmebiaaDoor
