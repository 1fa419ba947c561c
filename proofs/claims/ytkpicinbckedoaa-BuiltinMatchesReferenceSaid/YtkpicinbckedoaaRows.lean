/-
  No cell of these rows narrows 'for every input' (looked for: loops, veiled, ifaces, maps, wideKeys, modest, calm, conditions, laid).
  DERIVED. THE GIVEN ROWS OF THIS SEAT. 3 by the template 'for every input the law returns true; each argument reads behind the call as it read before'; 0 by the template 'total and deterministic' (their statements: YtkpicinbckedoaaTotals.lean).
  GIVEN WITH THE SEED: the statements are not yours to turn. If you find one false, say at which input.
  Laid BY PROGRAM, IN A SANDBOX (cutbox-rows.mjs): the forced cells as the released guide's own fill.sh prints them over the translation 7cba7256415df936… (all of the seat's roots in one cut). By AI agents, Wed Nov 11 2026. No macro, syntax, notation, axiom, sorry.
-/
import Derived.Test.YtkpicinbckedoaaChecked
import GoSem.Claim
import GoSem.ClaimJoined
import GoSem.ClaimMapViews
import Derived.JoinedTies
import Derived.KernelRfl
namespace Go.Proofs.Ytkpicinbckedoaa
/- THE CELL 'sum', in the pinned program and in every row, IS THE sha256 OF THE DUMP (.gsa) THAT YtkpicinbckedoaaProg.lean LOADS. Nothing in Lean hashes anything: it is a label: what it is worth is what the hold of that sum in a sandbox is worth. -/
noncomputable def Try.pinned : Pinned := { name := "ytkpicinbckedoaa", sum := "7cba7256415df9366f74d85056f9538690090478d125439febe04903d6d23c13", checked := Try.checked }
namespace Rows
def none {H : Type} : Left H := { results := [], args := [] }

/-- 'computuslaw24.BuiltinMatchesReference': WHATEVER THE INPUT: true; the input reads as it did. -/
def builtinMatchesReferenceSpec : ChangeSpec := { name := "builtinMatchesReference", fn := fun _ => fun
  | [d1, d2] => { results := [.lit (.bool true)], args := [d1, d2] }
  | _ => none }
def builtinMatchesReferenceRow : OpenClaim := { program := "ytkpicinbckedoaa", sum := "7cba7256415df9366f74d85056f9538690090478d125439febe04903d6d23c13", func := "computus/computuslaw24.BuiltinMatchesReference", spec := "builtinMatchesReference", apart := false }
def BuiltinMatchesReferenceSaid : Prop := builtinMatchesReferenceRow.holds Try.pinned (OpenSpec.ofChange builtinMatchesReferenceSpec)

/-- ITS FALSE NEIGHBOUR: 'it returns false'. Refute it at one input. -/
def builtinMatchesReferenceWrong : ChangeSpec := { name := "builtinMatchesReference", fn := fun _ => fun
  | [d1, d2] => { results := [.lit (.bool false)], args := [d1, d2] }
  | _ => none }
def BuiltinMatchesReferenceWrongFalsely : Prop := builtinMatchesReferenceRow.holds Try.pinned (OpenSpec.ofChange builtinMatchesReferenceWrong)

/-- 'computuslaw24.BuiltinDistinct': WHATEVER THE INPUT: true; the input reads as it did. -/
def builtinDistinctSpec : ChangeSpec := { name := "builtinDistinct", fn := fun _ => fun
  | [d1, d2] => { results := [.lit (.bool true)], args := [d1, d2] }
  | _ => none }
def builtinDistinctRow : OpenClaim := { program := "ytkpicinbckedoaa", sum := "7cba7256415df9366f74d85056f9538690090478d125439febe04903d6d23c13", func := "computus/computuslaw24.BuiltinDistinct", spec := "builtinDistinct", apart := false }
def BuiltinDistinctSaid : Prop := builtinDistinctRow.holds Try.pinned (OpenSpec.ofChange builtinDistinctSpec)

/-- ITS FALSE NEIGHBOUR: 'it returns false'. Refute it at one input. -/
def builtinDistinctWrong : ChangeSpec := { name := "builtinDistinct", fn := fun _ => fun
  | [d1, d2] => { results := [.lit (.bool false)], args := [d1, d2] }
  | _ => none }
def BuiltinDistinctWrongFalsely : Prop := builtinDistinctRow.holds Try.pinned (OpenSpec.ofChange builtinDistinctWrong)

/-- 'computuslaw25.LinescanMatchesReference': WHATEVER THE INPUT: true; the input reads as it did. -/
def linescanMatchesReferenceSpec : ChangeSpec := { name := "linescanMatchesReference", fn := fun _ => fun
  | [d1, d2] => { results := [.lit (.bool true)], args := [d1, d2] }
  | _ => none }
def linescanMatchesReferenceRow : OpenClaim := { program := "ytkpicinbckedoaa", sum := "7cba7256415df9366f74d85056f9538690090478d125439febe04903d6d23c13", func := "computus/computuslaw25.LinescanMatchesReference", spec := "linescanMatchesReference", unfollowed := true, recurses := true, apart := false }
def LinescanMatchesReferenceSaid : Prop := linescanMatchesReferenceRow.holds Try.pinned (OpenSpec.ofChange linescanMatchesReferenceSpec)

/-- ITS FALSE NEIGHBOUR: 'it returns false'. Refute it at one input. -/
def linescanMatchesReferenceWrong : ChangeSpec := { name := "linescanMatchesReference", fn := fun _ => fun
  | [d1, d2] => { results := [.lit (.bool false)], args := [d1, d2] }
  | _ => none }
def LinescanMatchesReferenceWrongFalsely : Prop := linescanMatchesReferenceRow.holds Try.pinned (OpenSpec.ofChange linescanMatchesReferenceWrong)

/- THE SECOND FORM. 'bulk': how many values and letters a reading holds, each counted each time it is reached (what is shared counts as often as it is met; a slice's spare places count too). A statement '..UptoSaid' is the law's where the arguments, and the package variables that the reading takes, are together of bulk at most 1048576: NARROWER than '..Said'. Prove '..Said' where nothing that the law and all that it calls make is longer than what came in: it says more and counts as full. Else prove '..UptoSaid'. A law counts once. -/
mutual
def uptoBulk {H : Type} : DataW H → Nat
  | .lit (.string bytes) => bytes.length + 1
  | .lit _ => 1
  | .nil => 1
  | .ptr d => uptoBulk d + 1
  | .slice elems spare => uptoBulkAll elems + uptoBulkAll spare + 1
  | .agg parts => uptoBulkAll parts + 1
  | .iface _ d => uptoBulk d + 1
  | .map entries => uptoBulkEntries entries + 1
  | .held _ => 1
def uptoBulkAll {H : Type} : List (DataW H) → Nat
  | [] => 0
  | d :: r => uptoBulk d + uptoBulkAll r
def uptoBulkEntries {H : Type} : List (Lit × DataW H) → Nat
  | [] => 0
  | x :: r => uptoBulkEntry x + uptoBulkEntries r
def uptoBulkEntry {H : Type} : Lit × DataW H → Nat
  | (.string bytes, d) => bytes.length + uptoBulk d + 1
  | (_, d) => uptoBulk d + 1
 end
def uptoSmall : (H : Type) → List (DataW H) → Bool := fun _ ds => decide (uptoBulkAll ds ≤ 1048576)
def OpenSpec.upto (s : _root_.Go.ChangeSpec) : _root_.Go.OpenSpec := { _root_.Go.OpenSpec.ofChange s with cond := some uptoSmall }

/-- 'computuslaw24.BuiltinMatchesReference', WHERE WHAT IT READS IS OF BULK AT MOST 1048576: true; the input reads as it did. -/
def builtinMatchesReferenceUptoRow : OpenClaim := { program := "ytkpicinbckedoaa", sum := "7cba7256415df9366f74d85056f9538690090478d125439febe04903d6d23c13", func := "computus/computuslaw24.BuiltinMatchesReference", spec := "builtinMatchesReference", apart := false, narrowed := true }
def BuiltinMatchesReferenceUptoSaid : Prop := builtinMatchesReferenceUptoRow.holds Try.pinned (OpenSpec.upto builtinMatchesReferenceSpec)

/-- 'computuslaw24.BuiltinDistinct', WHERE WHAT IT READS IS OF BULK AT MOST 1048576: true; the input reads as it did. -/
def builtinDistinctUptoRow : OpenClaim := { program := "ytkpicinbckedoaa", sum := "7cba7256415df9366f74d85056f9538690090478d125439febe04903d6d23c13", func := "computus/computuslaw24.BuiltinDistinct", spec := "builtinDistinct", apart := false, narrowed := true }
def BuiltinDistinctUptoSaid : Prop := builtinDistinctUptoRow.holds Try.pinned (OpenSpec.upto builtinDistinctSpec)

/-- 'computuslaw25.LinescanMatchesReference', WHERE WHAT IT READS IS OF BULK AT MOST 1048576: true; the input reads as it did. -/
def linescanMatchesReferenceUptoRow : OpenClaim := { program := "ytkpicinbckedoaa", sum := "7cba7256415df9366f74d85056f9538690090478d125439febe04903d6d23c13", func := "computus/computuslaw25.LinescanMatchesReference", spec := "linescanMatchesReference", unfollowed := true, recurses := true, apart := false, narrowed := true }
def LinescanMatchesReferenceUptoSaid : Prop := linescanMatchesReferenceUptoRow.holds Try.pinned (OpenSpec.upto linescanMatchesReferenceSpec)

end Rows
end Go.Proofs.Ytkpicinbckedoaa
