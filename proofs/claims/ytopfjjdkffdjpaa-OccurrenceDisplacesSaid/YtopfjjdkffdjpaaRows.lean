/-
  No cell of these rows narrows 'for every input' (looked for: loops, veiled, ifaces, maps, wideKeys, modest, calm, conditions, laid).
  DERIVED. THE GIVEN ROWS OF THIS SEAT. 5 by the template 'for every input the law returns true; each argument reads behind the call as it read before'; 0 by the template 'total and deterministic' (their statements: YtopfjjdkffdjpaaTotals.lean).
  GIVEN WITH THE SEED: the statements are not yours to turn. If you find one false, say at which input.
  Laid BY PROGRAM, IN A SANDBOX (cutbox-rows.mjs): the forced cells as the released guide's own fill.sh prints them over the translation 8c15e3c5c56881b8… (all of the seat's roots in one cut). By AI agents, Wed Nov 11 2026. No macro, syntax, notation, axiom, sorry.
-/
import Derived.Test.YtopfjjdkffdjpaaChecked
import GoSem.Claim
import GoSem.ClaimJoined
import GoSem.ClaimMapViews
import Derived.JoinedTies
import Derived.KernelRfl
namespace Go.Proofs.Ytopfjjdkffdjpaa
/- THE CELL 'sum', in the pinned program and in every row, IS THE sha256 OF THE DUMP (.gsa) THAT YtopfjjdkffdjpaaProg.lean LOADS. Nothing in Lean hashes anything: it is a label: what it is worth is what the hold of that sum in a sandbox is worth. -/
noncomputable def Try.pinned : Pinned := { name := "ytopfjjdkffdjpaa", sum := "8c15e3c5c56881b825e14065c3b4929cc892879b88803b881c9a37613648644f", checked := Try.checked }
namespace Rows
def none {H : Type} : Left H := { results := [], args := [] }

/-- 'computuslaw20.PrecedenceSorts': WHATEVER THE INPUT: true; the input reads as it did. -/
def precedenceSortsSpec : ChangeSpec := { name := "precedenceSorts", fn := fun _ => fun
  | [d1, d2] => { results := [.lit (.bool true)], args := [d1, d2] }
  | _ => none }
def precedenceSortsRow : OpenClaim := { program := "ytopfjjdkffdjpaa", sum := "8c15e3c5c56881b825e14065c3b4929cc892879b88803b881c9a37613648644f", func := "computus/computuslaw20.PrecedenceSorts", spec := "precedenceSorts", unfollowed := true, recurses := true, apart := false }
def PrecedenceSortsSaid : Prop := precedenceSortsRow.holds Try.pinned (OpenSpec.ofChange precedenceSortsSpec)

/-- ITS FALSE NEIGHBOUR: 'it returns false'. Refute it at one input. -/
def precedenceSortsWrong : ChangeSpec := { name := "precedenceSorts", fn := fun _ => fun
  | [d1, d2] => { results := [.lit (.bool false)], args := [d1, d2] }
  | _ => none }
def PrecedenceSortsWrongFalsely : Prop := precedenceSortsRow.holds Try.pinned (OpenSpec.ofChange precedenceSortsWrong)

/-- 'computuslaw21.OccurrenceMatchesReference': WHATEVER THE INPUT: true; the input reads as it did. -/
def occurrenceMatchesReferenceSpec : ChangeSpec := { name := "occurrenceMatchesReference", fn := fun _ => fun
  | [d1, d2, d3, d4] => { results := [.lit (.bool true)], args := [d1, d2, d3, d4] }
  | _ => none }
def occurrenceMatchesReferenceRow : OpenClaim := { program := "ytopfjjdkffdjpaa", sum := "8c15e3c5c56881b825e14065c3b4929cc892879b88803b881c9a37613648644f", func := "computus/computuslaw21.OccurrenceMatchesReference", spec := "occurrenceMatchesReference", inPlace := ["slices.overlaps[int]"], unfollowed := true, recurses := true, apart := false }
def OccurrenceMatchesReferenceSaid : Prop := occurrenceMatchesReferenceRow.holds Try.pinned (OpenSpec.ofChange occurrenceMatchesReferenceSpec)

/-- ITS FALSE NEIGHBOUR: 'it returns false'. Refute it at one input. -/
def occurrenceMatchesReferenceWrong : ChangeSpec := { name := "occurrenceMatchesReference", fn := fun _ => fun
  | [d1, d2, d3, d4] => { results := [.lit (.bool false)], args := [d1, d2, d3, d4] }
  | _ => none }
def OccurrenceMatchesReferenceWrongFalsely : Prop := occurrenceMatchesReferenceRow.holds Try.pinned (OpenSpec.ofChange occurrenceMatchesReferenceWrong)

/-- 'computuslaw21.OccurrenceSplits': WHATEVER THE INPUT: true; the input reads as it did. -/
def occurrenceSplitsSpec : ChangeSpec := { name := "occurrenceSplits", fn := fun _ => fun
  | [d1, d2, d3] => { results := [.lit (.bool true)], args := [d1, d2, d3] }
  | _ => none }
def occurrenceSplitsRow : OpenClaim := { program := "ytopfjjdkffdjpaa", sum := "8c15e3c5c56881b825e14065c3b4929cc892879b88803b881c9a37613648644f", func := "computus/computuslaw21.OccurrenceSplits", spec := "occurrenceSplits", inPlace := ["slices.overlaps[int]"], unfollowed := true, recurses := true, apart := false }
def OccurrenceSplitsSaid : Prop := occurrenceSplitsRow.holds Try.pinned (OpenSpec.ofChange occurrenceSplitsSpec)

/-- ITS FALSE NEIGHBOUR: 'it returns false'. Refute it at one input. -/
def occurrenceSplitsWrong : ChangeSpec := { name := "occurrenceSplits", fn := fun _ => fun
  | [d1, d2, d3] => { results := [.lit (.bool false)], args := [d1, d2, d3] }
  | _ => none }
def OccurrenceSplitsWrongFalsely : Prop := occurrenceSplitsRow.holds Try.pinned (OpenSpec.ofChange occurrenceSplitsWrong)

/-- 'computuslaw21.OccurrenceDisplaces': WHATEVER THE INPUT: true; the input reads as it did. -/
def occurrenceDisplacesSpec : ChangeSpec := { name := "occurrenceDisplaces", fn := fun _ => fun
  | [d1, d2, d3] => { results := [.lit (.bool true)], args := [d1, d2, d3] }
  | _ => none }
def occurrenceDisplacesRow : OpenClaim := { program := "ytopfjjdkffdjpaa", sum := "8c15e3c5c56881b825e14065c3b4929cc892879b88803b881c9a37613648644f", func := "computus/computuslaw21.OccurrenceDisplaces", spec := "occurrenceDisplaces", inPlace := ["slices.overlaps[int]"], unfollowed := true, recurses := true, apart := false }
def OccurrenceDisplacesSaid : Prop := occurrenceDisplacesRow.holds Try.pinned (OpenSpec.ofChange occurrenceDisplacesSpec)

/-- ITS FALSE NEIGHBOUR: 'it returns false'. Refute it at one input. -/
def occurrenceDisplacesWrong : ChangeSpec := { name := "occurrenceDisplaces", fn := fun _ => fun
  | [d1, d2, d3] => { results := [.lit (.bool false)], args := [d1, d2, d3] }
  | _ => none }
def OccurrenceDisplacesWrongFalsely : Prop := occurrenceDisplacesRow.holds Try.pinned (OpenSpec.ofChange occurrenceDisplacesWrong)

/-- 'computuslaw21.OccurrenceOrdered': WHATEVER THE INPUT: true; the input reads as it did. -/
def occurrenceOrderedSpec : ChangeSpec := { name := "occurrenceOrdered", fn := fun _ => fun
  | [d1, d2, d3] => { results := [.lit (.bool true)], args := [d1, d2, d3] }
  | _ => none }
def occurrenceOrderedRow : OpenClaim := { program := "ytopfjjdkffdjpaa", sum := "8c15e3c5c56881b825e14065c3b4929cc892879b88803b881c9a37613648644f", func := "computus/computuslaw21.OccurrenceOrdered", spec := "occurrenceOrdered", inPlace := ["slices.overlaps[int]"], unfollowed := true, recurses := true, apart := false }
def OccurrenceOrderedSaid : Prop := occurrenceOrderedRow.holds Try.pinned (OpenSpec.ofChange occurrenceOrderedSpec)

/-- ITS FALSE NEIGHBOUR: 'it returns false'. Refute it at one input. -/
def occurrenceOrderedWrong : ChangeSpec := { name := "occurrenceOrdered", fn := fun _ => fun
  | [d1, d2, d3] => { results := [.lit (.bool false)], args := [d1, d2, d3] }
  | _ => none }
def OccurrenceOrderedWrongFalsely : Prop := occurrenceOrderedRow.holds Try.pinned (OpenSpec.ofChange occurrenceOrderedWrong)

/- THE SECOND FORM. 'bulk': how many values and letters a reading holds, each counted each time it is reached (what is shared counts as often as it is met; a slice's spare places count too). A statement '..UptoSaid' is the law's where the arguments, and the package variables that the reading takes, are together of bulk at most 1048576: NARROWER than '..Said'. Prove '..Said' where nothing that the law and all that it calls make is longer than what came in: it says more and counts as full. Else prove '..UptoSaid'. A law counts once. -/
mutual
def uptoBulk {H : Type} : DataW H → Nat
  | .lit (.string bytes) => bytes.length + 1
  | .lit _ => 1
  | .nil => 1
  | .ptr d => uptoBulk d + 1
  | .slice elems spare => uptoBulkAll elems + uptoBulkAll spare + 1
  | .agg parts => uptoBulkAll parts + 1
  | .iface _ d => uptoBulk d + 1
  | .map entries => uptoBulkEntries entries + 1
  | .held _ => 1
def uptoBulkAll {H : Type} : List (DataW H) → Nat
  | [] => 0
  | d :: r => uptoBulk d + uptoBulkAll r
def uptoBulkEntries {H : Type} : List (Lit × DataW H) → Nat
  | [] => 0
  | x :: r => uptoBulkEntry x + uptoBulkEntries r
def uptoBulkEntry {H : Type} : Lit × DataW H → Nat
  | (.string bytes, d) => bytes.length + uptoBulk d + 1
  | (_, d) => uptoBulk d + 1
 end
def uptoSmall : (H : Type) → List (DataW H) → Bool := fun _ ds => decide (uptoBulkAll ds ≤ 1048576)
def OpenSpec.upto (s : _root_.Go.ChangeSpec) : _root_.Go.OpenSpec := { _root_.Go.OpenSpec.ofChange s with cond := some uptoSmall }

/-- 'computuslaw20.PrecedenceSorts', WHERE WHAT IT READS IS OF BULK AT MOST 1048576: true; the input reads as it did. -/
def precedenceSortsUptoRow : OpenClaim := { program := "ytopfjjdkffdjpaa", sum := "8c15e3c5c56881b825e14065c3b4929cc892879b88803b881c9a37613648644f", func := "computus/computuslaw20.PrecedenceSorts", spec := "precedenceSorts", unfollowed := true, recurses := true, apart := false, narrowed := true }
def PrecedenceSortsUptoSaid : Prop := precedenceSortsUptoRow.holds Try.pinned (OpenSpec.upto precedenceSortsSpec)

/-- 'computuslaw21.OccurrenceMatchesReference', WHERE WHAT IT READS IS OF BULK AT MOST 1048576: true; the input reads as it did. -/
def occurrenceMatchesReferenceUptoRow : OpenClaim := { program := "ytopfjjdkffdjpaa", sum := "8c15e3c5c56881b825e14065c3b4929cc892879b88803b881c9a37613648644f", func := "computus/computuslaw21.OccurrenceMatchesReference", spec := "occurrenceMatchesReference", inPlace := ["slices.overlaps[int]"], unfollowed := true, recurses := true, apart := false, narrowed := true }
def OccurrenceMatchesReferenceUptoSaid : Prop := occurrenceMatchesReferenceUptoRow.holds Try.pinned (OpenSpec.upto occurrenceMatchesReferenceSpec)

/-- 'computuslaw21.OccurrenceSplits', WHERE WHAT IT READS IS OF BULK AT MOST 1048576: true; the input reads as it did. -/
def occurrenceSplitsUptoRow : OpenClaim := { program := "ytopfjjdkffdjpaa", sum := "8c15e3c5c56881b825e14065c3b4929cc892879b88803b881c9a37613648644f", func := "computus/computuslaw21.OccurrenceSplits", spec := "occurrenceSplits", inPlace := ["slices.overlaps[int]"], unfollowed := true, recurses := true, apart := false, narrowed := true }
def OccurrenceSplitsUptoSaid : Prop := occurrenceSplitsUptoRow.holds Try.pinned (OpenSpec.upto occurrenceSplitsSpec)

/-- 'computuslaw21.OccurrenceDisplaces', WHERE WHAT IT READS IS OF BULK AT MOST 1048576: true; the input reads as it did. -/
def occurrenceDisplacesUptoRow : OpenClaim := { program := "ytopfjjdkffdjpaa", sum := "8c15e3c5c56881b825e14065c3b4929cc892879b88803b881c9a37613648644f", func := "computus/computuslaw21.OccurrenceDisplaces", spec := "occurrenceDisplaces", inPlace := ["slices.overlaps[int]"], unfollowed := true, recurses := true, apart := false, narrowed := true }
def OccurrenceDisplacesUptoSaid : Prop := occurrenceDisplacesUptoRow.holds Try.pinned (OpenSpec.upto occurrenceDisplacesSpec)

/-- 'computuslaw21.OccurrenceOrdered', WHERE WHAT IT READS IS OF BULK AT MOST 1048576: true; the input reads as it did. -/
def occurrenceOrderedUptoRow : OpenClaim := { program := "ytopfjjdkffdjpaa", sum := "8c15e3c5c56881b825e14065c3b4929cc892879b88803b881c9a37613648644f", func := "computus/computuslaw21.OccurrenceOrdered", spec := "occurrenceOrdered", inPlace := ["slices.overlaps[int]"], unfollowed := true, recurses := true, apart := false, narrowed := true }
def OccurrenceOrderedUptoSaid : Prop := occurrenceOrderedUptoRow.holds Try.pinned (OpenSpec.upto occurrenceOrderedSpec)

end Rows
end Go.Proofs.Ytopfjjdkffdjpaa
