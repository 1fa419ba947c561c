/-
  DERIVED. GIVEN WITH THE SEED: THE CARDS: each row of YtlchefonlfokgaaDoorRows.lean that lists a variable, with what it lists TIED to the program's text (the seventh form; the later family's looks); each row that meets fmt, with fmt's text TOLD by the authors' own Lean function (tested against real Go, not proved from fmt's source: count such statements apart). THE CARD IS WHAT COUNTS. Prove the row's statement (the work); the ties are given (YtlchefonlfokgaaDoorTie.lean); close each card by the builder's one call (the guide's Derived/Test/ToyasCard.lean, 'card_holds'). Laid BY PROGRAM, IN A SANDBOX (cutbox-door.mjs). By AI agents, Wed Nov 11 2026. No macro, syntax, notation, axiom, sorry.
-/
import Derived.Test.YtlchefonlfokgaaDoorRows
import GoSem.ClaimSeven
namespace Go.Proofs.YtlchefonlfokgaaDoor
namespace Rows

/-- THE TIED CARD OF 'computuslaw27.OrdotextMatchesReference'. -/
def ordotextMatchesReferenceCard : Claim7 := { stood := { row := ordotextMatchesReferenceRow, standIns := [], harness := (true, "fbb649e9f719bd2b8dcff64b536c53961f34130c9224932c9f8c41654ff39dd4"), looks := true }, kinds := [], alts := [], laidByText := true, laidKinds := [.data, .data, .data, .data, .widerDeep], laidTests := true, laidLooks := .later }
def OrdotextMatchesReferenceCardSaid : Prop := Claim7.holds Tryd.pinned (.plain (OpenSpec.ofChange ordotextMatchesReferenceSpec)) ordotextMatchesReferenceCard

/-- THE TIED CARD OF 'computuslaw27.OrdotextCanonical'. -/
def ordotextCanonicalCard : Claim7 := { stood := { row := ordotextCanonicalRow, standIns := [], harness := (true, "fbb649e9f719bd2b8dcff64b536c53961f34130c9224932c9f8c41654ff39dd4"), looks := true }, kinds := [], alts := [], laidByText := true, laidKinds := [.data, .data, .data, .data, .widerDeep], laidTests := true, laidLooks := .later }
def OrdotextCanonicalCardSaid : Prop := Claim7.holds Tryd.pinned (.plain (OpenSpec.ofChange ordotextCanonicalSpec)) ordotextCanonicalCard

/-- THE TIED CARD OF 'computuslaw27.OrdotextAccepted'. -/
def ordotextAcceptedCard : Claim7 := { stood := { row := ordotextAcceptedRow, standIns := [], harness := (true, "fbb649e9f719bd2b8dcff64b536c53961f34130c9224932c9f8c41654ff39dd4"), looks := true }, kinds := [], alts := [], laidByText := true, laidKinds := [.data, .data, .data, .data, .widerDeep], laidTests := true, laidLooks := .later }
def OrdotextAcceptedCardSaid : Prop := Claim7.holds Tryd.pinned (.plain (OpenSpec.ofChange ordotextAcceptedSpec)) ordotextAcceptedCard

/-- THE TIED CARD OF 'computuslaw27.OrdotextOffsets'. -/
def ordotextOffsetsCard : Claim7 := { stood := { row := ordotextOffsetsRow, standIns := [], harness := (true, "fbb649e9f719bd2b8dcff64b536c53961f34130c9224932c9f8c41654ff39dd4"), looks := true }, kinds := [], alts := [], laidByText := true, laidKinds := [.data, .data, .data, .data, .widerDeep], laidTests := true, laidLooks := .later }
def OrdotextOffsetsCardSaid : Prop := Claim7.holds Tryd.pinned (.plain (OpenSpec.ofChange ordotextOffsetsSpec)) ordotextOffsetsCard

/-- THE TIED CARD OF 'computuslaw27.OrdotextLines'. -/
def ordotextLinesCard : Claim7 := { stood := { row := ordotextLinesRow, standIns := [], harness := (true, "fbb649e9f719bd2b8dcff64b536c53961f34130c9224932c9f8c41654ff39dd4"), looks := true }, kinds := [], alts := [], laidByText := true, laidKinds := [.data, .data, .data, .data, .widerDeep], laidTests := true, laidLooks := .later }
def OrdotextLinesCardSaid : Prop := Claim7.holds Tryd.pinned (.plain (OpenSpec.ofChange ordotextLinesSpec)) ordotextLinesCard

/-- THE SECOND FORM's CARD OF 'computuslaw27.OrdotextMatchesReference'. -/
def ordotextMatchesReferenceUptoCard : Claim7 := { stood := { row := ordotextMatchesReferenceUptoRow, standIns := [], harness := (true, "fbb649e9f719bd2b8dcff64b536c53961f34130c9224932c9f8c41654ff39dd4"), looks := true }, kinds := [], alts := [], laidByText := true, laidKinds := [.data, .data, .data, .data, .widerDeep], laidTests := true, laidLooks := .later }
def OrdotextMatchesReferenceUptoCardSaid : Prop := Claim7.holds Tryd.pinned (.plain (OpenSpec.upto ordotextMatchesReferenceSpec)) ordotextMatchesReferenceUptoCard

/-- THE SECOND FORM's CARD OF 'computuslaw27.OrdotextCanonical'. -/
def ordotextCanonicalUptoCard : Claim7 := { stood := { row := ordotextCanonicalUptoRow, standIns := [], harness := (true, "fbb649e9f719bd2b8dcff64b536c53961f34130c9224932c9f8c41654ff39dd4"), looks := true }, kinds := [], alts := [], laidByText := true, laidKinds := [.data, .data, .data, .data, .widerDeep], laidTests := true, laidLooks := .later }
def OrdotextCanonicalUptoCardSaid : Prop := Claim7.holds Tryd.pinned (.plain (OpenSpec.upto ordotextCanonicalSpec)) ordotextCanonicalUptoCard

/-- THE SECOND FORM's CARD OF 'computuslaw27.OrdotextAccepted'. -/
def ordotextAcceptedUptoCard : Claim7 := { stood := { row := ordotextAcceptedUptoRow, standIns := [], harness := (true, "fbb649e9f719bd2b8dcff64b536c53961f34130c9224932c9f8c41654ff39dd4"), looks := true }, kinds := [], alts := [], laidByText := true, laidKinds := [.data, .data, .data, .data, .widerDeep], laidTests := true, laidLooks := .later }
def OrdotextAcceptedUptoCardSaid : Prop := Claim7.holds Tryd.pinned (.plain (OpenSpec.upto ordotextAcceptedSpec)) ordotextAcceptedUptoCard

/-- THE SECOND FORM's CARD OF 'computuslaw27.OrdotextOffsets'. -/
def ordotextOffsetsUptoCard : Claim7 := { stood := { row := ordotextOffsetsUptoRow, standIns := [], harness := (true, "fbb649e9f719bd2b8dcff64b536c53961f34130c9224932c9f8c41654ff39dd4"), looks := true }, kinds := [], alts := [], laidByText := true, laidKinds := [.data, .data, .data, .data, .widerDeep], laidTests := true, laidLooks := .later }
def OrdotextOffsetsUptoCardSaid : Prop := Claim7.holds Tryd.pinned (.plain (OpenSpec.upto ordotextOffsetsSpec)) ordotextOffsetsUptoCard

/-- THE SECOND FORM's CARD OF 'computuslaw27.OrdotextLines'. -/
def ordotextLinesUptoCard : Claim7 := { stood := { row := ordotextLinesUptoRow, standIns := [], harness := (true, "fbb649e9f719bd2b8dcff64b536c53961f34130c9224932c9f8c41654ff39dd4"), looks := true }, kinds := [], alts := [], laidByText := true, laidKinds := [.data, .data, .data, .data, .widerDeep], laidTests := true, laidLooks := .later }
def OrdotextLinesUptoCardSaid : Prop := Claim7.holds Tryd.pinned (.plain (OpenSpec.upto ordotextLinesSpec)) ordotextLinesUptoCard
end Rows
end Go.Proofs.YtlchefonlfokgaaDoor
