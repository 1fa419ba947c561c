/-
  DERIVED. GIVEN WITH THE SEED: THE CARDS: each row of YtepmkfbhkifjaaaDoorRows.lean that lists a variable, with what it lists TIED to the program's text (the seventh form; the later family's looks); each row that meets fmt, with fmt's text TOLD by the authors' own Lean function (tested against real Go, not proved from fmt's source: count such statements apart). THE CARD IS WHAT COUNTS. Prove the row's statement (the work); the ties are given (YtepmkfbhkifjaaaDoorTie.lean); close each card by the builder's one call (the guide's Derived/Test/ToyasCard.lean, 'card_holds'). Laid BY PROGRAM, IN A SANDBOX (cutbox-door.mjs). By AI agents, Wed Nov 11 2026. No macro, syntax, notation, axiom, sorry.
-/
import Derived.Test.YtepmkfbhkifjaaaDoorRows
import GoSem.ClaimSeven
namespace Go.Proofs.YtepmkfbhkifjaaaDoor
namespace Rows

/-- THE TIED CARD OF 'computuslaw07.EpactMatchesReference'. -/
def epactMatchesReferenceCard : Claim7 := { stood := { row := epactMatchesReferenceRow, standIns := [], harness := (true, "b963811442bab6dbbb09f52966fa8716103917afb5f51ddd846ef8c60cacc619"), looks := false }, kinds := [], alts := [], laidByText := true, laidKinds := [.data, .data, .data], laidTests := true, laidLooks := .later }
def EpactMatchesReferenceCardSaid : Prop := Claim7.holds Tryd.pinned (.plain (OpenSpec.ofChange epactMatchesReferenceSpec)) epactMatchesReferenceCard

/-- THE TIED CARD OF 'computuslaw07.EpactLabel'. -/
def epactLabelCard : Claim7 := { stood := { row := epactLabelRow, standIns := [], harness := (true, "b963811442bab6dbbb09f52966fa8716103917afb5f51ddd846ef8c60cacc619"), looks := false }, kinds := [], alts := [], laidByText := true, laidKinds := [.data, .data, .data], laidTests := true, laidLooks := .later }
def EpactLabelCardSaid : Prop := Claim7.holds Tryd.pinned (.plain (OpenSpec.ofChange epactLabelSpec)) epactLabelCard

/-- THE TIED CARD OF 'computuslaw07.EpactSteps'. -/
def epactStepsCard : Claim7 := { stood := { row := epactStepsRow, standIns := [], harness := (true, "b963811442bab6dbbb09f52966fa8716103917afb5f51ddd846ef8c60cacc619"), looks := false }, kinds := [], alts := [], laidByText := true, laidKinds := [.data, .data, .data], laidTests := true, laidLooks := .later }
def EpactStepsCardSaid : Prop := Claim7.holds Tryd.pinned (.plain (OpenSpec.ofChange epactStepsSpec)) epactStepsCard

/-- THE TIED CARD OF 'computuslaw07.EpactDistinct'. -/
def epactDistinctCard : Claim7 := { stood := { row := epactDistinctRow, standIns := [], harness := (true, "b963811442bab6dbbb09f52966fa8716103917afb5f51ddd846ef8c60cacc619"), looks := false }, kinds := [], alts := [], laidByText := true, laidKinds := [.data, .data, .data], laidTests := true, laidLooks := .later }
def EpactDistinctCardSaid : Prop := Claim7.holds Tryd.pinned (.plain (OpenSpec.ofChange epactDistinctSpec)) epactDistinctCard

/-- THE TIED CARD OF 'computuslaw07.EpactNames'. -/
def epactNamesCard : Claim7 := { stood := { row := epactNamesRow, standIns := [], harness := (true, "b963811442bab6dbbb09f52966fa8716103917afb5f51ddd846ef8c60cacc619"), looks := false }, kinds := [], alts := [], laidByText := true, laidKinds := [.data, .data, .data], laidTests := true, laidLooks := .later }
def EpactNamesCardSaid : Prop := Claim7.holds Tryd.pinned (.plain (OpenSpec.ofChange epactNamesSpec)) epactNamesCard

/-- THE SECOND FORM's CARD OF 'computuslaw07.EpactMatchesReference'. -/
def epactMatchesReferenceUptoCard : Claim7 := { stood := { row := epactMatchesReferenceUptoRow, standIns := [], harness := (true, "b963811442bab6dbbb09f52966fa8716103917afb5f51ddd846ef8c60cacc619"), looks := false }, kinds := [], alts := [], laidByText := true, laidKinds := [.data, .data, .data], laidTests := true, laidLooks := .later }
def EpactMatchesReferenceUptoCardSaid : Prop := Claim7.holds Tryd.pinned (.plain (OpenSpec.upto epactMatchesReferenceSpec)) epactMatchesReferenceUptoCard

/-- THE SECOND FORM's CARD OF 'computuslaw07.EpactLabel'. -/
def epactLabelUptoCard : Claim7 := { stood := { row := epactLabelUptoRow, standIns := [], harness := (true, "b963811442bab6dbbb09f52966fa8716103917afb5f51ddd846ef8c60cacc619"), looks := false }, kinds := [], alts := [], laidByText := true, laidKinds := [.data, .data, .data], laidTests := true, laidLooks := .later }
def EpactLabelUptoCardSaid : Prop := Claim7.holds Tryd.pinned (.plain (OpenSpec.upto epactLabelSpec)) epactLabelUptoCard

/-- THE SECOND FORM's CARD OF 'computuslaw07.EpactSteps'. -/
def epactStepsUptoCard : Claim7 := { stood := { row := epactStepsUptoRow, standIns := [], harness := (true, "b963811442bab6dbbb09f52966fa8716103917afb5f51ddd846ef8c60cacc619"), looks := false }, kinds := [], alts := [], laidByText := true, laidKinds := [.data, .data, .data], laidTests := true, laidLooks := .later }
def EpactStepsUptoCardSaid : Prop := Claim7.holds Tryd.pinned (.plain (OpenSpec.upto epactStepsSpec)) epactStepsUptoCard

/-- THE SECOND FORM's CARD OF 'computuslaw07.EpactDistinct'. -/
def epactDistinctUptoCard : Claim7 := { stood := { row := epactDistinctUptoRow, standIns := [], harness := (true, "b963811442bab6dbbb09f52966fa8716103917afb5f51ddd846ef8c60cacc619"), looks := false }, kinds := [], alts := [], laidByText := true, laidKinds := [.data, .data, .data], laidTests := true, laidLooks := .later }
def EpactDistinctUptoCardSaid : Prop := Claim7.holds Tryd.pinned (.plain (OpenSpec.upto epactDistinctSpec)) epactDistinctUptoCard

/-- THE SECOND FORM's CARD OF 'computuslaw07.EpactNames'. -/
def epactNamesUptoCard : Claim7 := { stood := { row := epactNamesUptoRow, standIns := [], harness := (true, "b963811442bab6dbbb09f52966fa8716103917afb5f51ddd846ef8c60cacc619"), looks := false }, kinds := [], alts := [], laidByText := true, laidKinds := [.data, .data, .data], laidTests := true, laidLooks := .later }
def EpactNamesUptoCardSaid : Prop := Claim7.holds Tryd.pinned (.plain (OpenSpec.upto epactNamesSpec)) epactNamesUptoCard
end Rows
end Go.Proofs.YtepmkfbhkifjaaaDoor
