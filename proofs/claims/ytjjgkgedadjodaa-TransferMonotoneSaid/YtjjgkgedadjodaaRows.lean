/-
  No cell of these rows narrows 'for every input' (looked for: loops, veiled, ifaces, maps, wideKeys, modest, calm, conditions, laid).
  DERIVED. THE GIVEN ROWS OF THIS SEAT. 6 by the template 'for every input the law returns true; each argument reads behind the call as it read before'; 0 by the template 'total and deterministic' (their statements: YtjjgkgedadjodaaTotals.lean).
  GIVEN WITH THE SEED: the statements are not yours to turn. If you find one false, say at which input.
  Laid BY PROGRAM, IN A SANDBOX (cutbox-rows.mjs): the forced cells as the released guide's own fill.sh prints them over the translation ff27f804b7e4c243… (all of the seat's roots in one cut). By AI agents, Wed Nov 11 2026. No macro, syntax, notation, axiom, sorry.
-/
import Derived.Test.YtjjgkgedadjodaaChecked
import GoSem.Claim
import GoSem.ClaimJoined
import GoSem.ClaimMapViews
import Derived.JoinedTies
import Derived.KernelRfl
namespace Go.Proofs.Ytjjgkgedadjodaa
/- THE CELL 'sum', in the pinned program and in every row, IS THE sha256 OF THE DUMP (.gsa) THAT YtjjgkgedadjodaaProg.lean LOADS. Nothing in Lean hashes anything: it is a label: what it is worth is what the hold of that sum in a sandbox is worth. -/
noncomputable def Try.pinned : Pinned := { name := "ytjjgkgedadjodaa", sum := "ff27f804b7e4c2433d1be662f956056a26207c685ed20d5186605ca785a0b063", checked := Try.checked }
namespace Rows
def none {H : Type} : Left H := { results := [], args := [] }

/-- 'computuslaw22.TransferMatchesReference': WHATEVER THE INPUT: true; the input reads as it did. -/
def transferMatchesReferenceSpec : ChangeSpec := { name := "transferMatchesReference", fn := fun _ => fun
  | [d1, d2, d3] => { results := [.lit (.bool true)], args := [d1, d2, d3] }
  | _ => none }
def transferMatchesReferenceRow : OpenClaim := { program := "ytjjgkgedadjodaa", sum := "ff27f804b7e4c2433d1be662f956056a26207c685ed20d5186605ca785a0b063", func := "computus/computuslaw22.TransferMatchesReference", spec := "transferMatchesReference", apart := false }
def TransferMatchesReferenceSaid : Prop := transferMatchesReferenceRow.holds Try.pinned (OpenSpec.ofChange transferMatchesReferenceSpec)

/-- ITS FALSE NEIGHBOUR: 'it returns false'. Refute it at one input. -/
def transferMatchesReferenceWrong : ChangeSpec := { name := "transferMatchesReference", fn := fun _ => fun
  | [d1, d2, d3] => { results := [.lit (.bool false)], args := [d1, d2, d3] }
  | _ => none }
def TransferMatchesReferenceWrongFalsely : Prop := transferMatchesReferenceRow.holds Try.pinned (OpenSpec.ofChange transferMatchesReferenceWrong)

/-- 'computuslaw22.TransferEarliest': WHATEVER THE INPUT: true; the input reads as it did. -/
def transferEarliestSpec : ChangeSpec := { name := "transferEarliest", fn := fun _ => fun
  | [d1, d2] => { results := [.lit (.bool true)], args := [d1, d2] }
  | _ => none }
def transferEarliestRow : OpenClaim := { program := "ytjjgkgedadjodaa", sum := "ff27f804b7e4c2433d1be662f956056a26207c685ed20d5186605ca785a0b063", func := "computus/computuslaw22.TransferEarliest", spec := "transferEarliest", apart := false }
def TransferEarliestSaid : Prop := transferEarliestRow.holds Try.pinned (OpenSpec.ofChange transferEarliestSpec)

/-- ITS FALSE NEIGHBOUR: 'it returns false'. Refute it at one input. -/
def transferEarliestWrong : ChangeSpec := { name := "transferEarliest", fn := fun _ => fun
  | [d1, d2] => { results := [.lit (.bool false)], args := [d1, d2] }
  | _ => none }
def TransferEarliestWrongFalsely : Prop := transferEarliestRow.holds Try.pinned (OpenSpec.ofChange transferEarliestWrong)

/-- 'computuslaw22.TransferOrder': WHATEVER THE INPUT: true; the input reads as it did. -/
def transferOrderSpec : ChangeSpec := { name := "transferOrder", fn := fun _ => fun
  | [d1, d2] => { results := [.lit (.bool true)], args := [d1, d2] }
  | _ => none }
def transferOrderRow : OpenClaim := { program := "ytjjgkgedadjodaa", sum := "ff27f804b7e4c2433d1be662f956056a26207c685ed20d5186605ca785a0b063", func := "computus/computuslaw22.TransferOrder", spec := "transferOrder", apart := false }
def TransferOrderSaid : Prop := transferOrderRow.holds Try.pinned (OpenSpec.ofChange transferOrderSpec)

/-- ITS FALSE NEIGHBOUR: 'it returns false'. Refute it at one input. -/
def transferOrderWrong : ChangeSpec := { name := "transferOrder", fn := fun _ => fun
  | [d1, d2] => { results := [.lit (.bool false)], args := [d1, d2] }
  | _ => none }
def TransferOrderWrongFalsely : Prop := transferOrderRow.holds Try.pinned (OpenSpec.ofChange transferOrderWrong)

/-- 'computuslaw22.TransferMonotone': WHATEVER THE INPUT: true; the input reads as it did. -/
def transferMonotoneSpec : ChangeSpec := { name := "transferMonotone", fn := fun _ => fun
  | [d1, d2, d3] => { results := [.lit (.bool true)], args := [d1, d2, d3] }
  | _ => none }
def transferMonotoneRow : OpenClaim := { program := "ytjjgkgedadjodaa", sum := "ff27f804b7e4c2433d1be662f956056a26207c685ed20d5186605ca785a0b063", func := "computus/computuslaw22.TransferMonotone", spec := "transferMonotone", apart := false }
def TransferMonotoneSaid : Prop := transferMonotoneRow.holds Try.pinned (OpenSpec.ofChange transferMonotoneSpec)

/-- ITS FALSE NEIGHBOUR: 'it returns false'. Refute it at one input. -/
def transferMonotoneWrong : ChangeSpec := { name := "transferMonotone", fn := fun _ => fun
  | [d1, d2, d3] => { results := [.lit (.bool false)], args := [d1, d2, d3] }
  | _ => none }
def TransferMonotoneWrongFalsely : Prop := transferMonotoneRow.holds Try.pinned (OpenSpec.ofChange transferMonotoneWrong)

/-- 'computuslaw22.TransferKeeps': WHATEVER THE INPUT: true; the input reads as it did. -/
def transferKeepsSpec : ChangeSpec := { name := "transferKeeps", fn := fun _ => fun
  | [d1, d2] => { results := [.lit (.bool true)], args := [d1, d2] }
  | _ => none }
def transferKeepsRow : OpenClaim := { program := "ytjjgkgedadjodaa", sum := "ff27f804b7e4c2433d1be662f956056a26207c685ed20d5186605ca785a0b063", func := "computus/computuslaw22.TransferKeeps", spec := "transferKeeps", apart := false }
def TransferKeepsSaid : Prop := transferKeepsRow.holds Try.pinned (OpenSpec.ofChange transferKeepsSpec)

/-- ITS FALSE NEIGHBOUR: 'it returns false'. Refute it at one input. -/
def transferKeepsWrong : ChangeSpec := { name := "transferKeeps", fn := fun _ => fun
  | [d1, d2] => { results := [.lit (.bool false)], args := [d1, d2] }
  | _ => none }
def TransferKeepsWrongFalsely : Prop := transferKeepsRow.holds Try.pinned (OpenSpec.ofChange transferKeepsWrong)

/-- 'computuslaw22.TransferNone': WHATEVER THE INPUT: true; the input reads as it did. -/
def transferNoneSpec : ChangeSpec := { name := "transferNone", fn := fun _ => fun
  | [d] => { results := [.lit (.bool true)], args := [d] }
  | _ => none }
def transferNoneRow : OpenClaim := { program := "ytjjgkgedadjodaa", sum := "ff27f804b7e4c2433d1be662f956056a26207c685ed20d5186605ca785a0b063", func := "computus/computuslaw22.TransferNone", spec := "transferNone", apart := false }
def TransferNoneSaid : Prop := transferNoneRow.holds Try.pinned (OpenSpec.ofChange transferNoneSpec)

/-- ITS FALSE NEIGHBOUR: 'it returns false'. Refute it at one input. -/
def transferNoneWrong : ChangeSpec := { name := "transferNone", fn := fun _ => fun
  | [d] => { results := [.lit (.bool false)], args := [d] }
  | _ => none }
def TransferNoneWrongFalsely : Prop := transferNoneRow.holds Try.pinned (OpenSpec.ofChange transferNoneWrong)

/- THE SECOND FORM. 'bulk': how many values and letters a reading holds, each counted each time it is reached (what is shared counts as often as it is met; a slice's spare places count too). A statement '..UptoSaid' is the law's where the arguments, and the package variables that the reading takes, are together of bulk at most 1048576: NARROWER than '..Said'. Prove '..Said' where nothing that the law and all that it calls make is longer than what came in: it says more and counts as full. Else prove '..UptoSaid'. A law counts once. -/
mutual
def uptoBulk {H : Type} : DataW H → Nat
  | .lit (.string bytes) => bytes.length + 1
  | .lit _ => 1
  | .nil => 1
  | .ptr d => uptoBulk d + 1
  | .slice elems spare => uptoBulkAll elems + uptoBulkAll spare + 1
  | .agg parts => uptoBulkAll parts + 1
  | .iface _ d => uptoBulk d + 1
  | .map entries => uptoBulkEntries entries + 1
  | .held _ => 1
def uptoBulkAll {H : Type} : List (DataW H) → Nat
  | [] => 0
  | d :: r => uptoBulk d + uptoBulkAll r
def uptoBulkEntries {H : Type} : List (Lit × DataW H) → Nat
  | [] => 0
  | x :: r => uptoBulkEntry x + uptoBulkEntries r
def uptoBulkEntry {H : Type} : Lit × DataW H → Nat
  | (.string bytes, d) => bytes.length + uptoBulk d + 1
  | (_, d) => uptoBulk d + 1
 end
def uptoSmall : (H : Type) → List (DataW H) → Bool := fun _ ds => decide (uptoBulkAll ds ≤ 1048576)
def OpenSpec.upto (s : _root_.Go.ChangeSpec) : _root_.Go.OpenSpec := { _root_.Go.OpenSpec.ofChange s with cond := some uptoSmall }

/-- 'computuslaw22.TransferMatchesReference', WHERE WHAT IT READS IS OF BULK AT MOST 1048576: true; the input reads as it did. -/
def transferMatchesReferenceUptoRow : OpenClaim := { program := "ytjjgkgedadjodaa", sum := "ff27f804b7e4c2433d1be662f956056a26207c685ed20d5186605ca785a0b063", func := "computus/computuslaw22.TransferMatchesReference", spec := "transferMatchesReference", apart := false, narrowed := true }
def TransferMatchesReferenceUptoSaid : Prop := transferMatchesReferenceUptoRow.holds Try.pinned (OpenSpec.upto transferMatchesReferenceSpec)

/-- 'computuslaw22.TransferEarliest', WHERE WHAT IT READS IS OF BULK AT MOST 1048576: true; the input reads as it did. -/
def transferEarliestUptoRow : OpenClaim := { program := "ytjjgkgedadjodaa", sum := "ff27f804b7e4c2433d1be662f956056a26207c685ed20d5186605ca785a0b063", func := "computus/computuslaw22.TransferEarliest", spec := "transferEarliest", apart := false, narrowed := true }
def TransferEarliestUptoSaid : Prop := transferEarliestUptoRow.holds Try.pinned (OpenSpec.upto transferEarliestSpec)

/-- 'computuslaw22.TransferOrder', WHERE WHAT IT READS IS OF BULK AT MOST 1048576: true; the input reads as it did. -/
def transferOrderUptoRow : OpenClaim := { program := "ytjjgkgedadjodaa", sum := "ff27f804b7e4c2433d1be662f956056a26207c685ed20d5186605ca785a0b063", func := "computus/computuslaw22.TransferOrder", spec := "transferOrder", apart := false, narrowed := true }
def TransferOrderUptoSaid : Prop := transferOrderUptoRow.holds Try.pinned (OpenSpec.upto transferOrderSpec)

/-- 'computuslaw22.TransferMonotone', WHERE WHAT IT READS IS OF BULK AT MOST 1048576: true; the input reads as it did. -/
def transferMonotoneUptoRow : OpenClaim := { program := "ytjjgkgedadjodaa", sum := "ff27f804b7e4c2433d1be662f956056a26207c685ed20d5186605ca785a0b063", func := "computus/computuslaw22.TransferMonotone", spec := "transferMonotone", apart := false, narrowed := true }
def TransferMonotoneUptoSaid : Prop := transferMonotoneUptoRow.holds Try.pinned (OpenSpec.upto transferMonotoneSpec)

/-- 'computuslaw22.TransferKeeps', WHERE WHAT IT READS IS OF BULK AT MOST 1048576: true; the input reads as it did. -/
def transferKeepsUptoRow : OpenClaim := { program := "ytjjgkgedadjodaa", sum := "ff27f804b7e4c2433d1be662f956056a26207c685ed20d5186605ca785a0b063", func := "computus/computuslaw22.TransferKeeps", spec := "transferKeeps", apart := false, narrowed := true }
def TransferKeepsUptoSaid : Prop := transferKeepsUptoRow.holds Try.pinned (OpenSpec.upto transferKeepsSpec)

/-- 'computuslaw22.TransferNone', WHERE WHAT IT READS IS OF BULK AT MOST 1048576: true; the input reads as it did. -/
def transferNoneUptoRow : OpenClaim := { program := "ytjjgkgedadjodaa", sum := "ff27f804b7e4c2433d1be662f956056a26207c685ed20d5186605ca785a0b063", func := "computus/computuslaw22.TransferNone", spec := "transferNone", apart := false, narrowed := true }
def TransferNoneUptoSaid : Prop := transferNoneUptoRow.holds Try.pinned (OpenSpec.upto transferNoneSpec)

end Rows
end Go.Proofs.Ytjjgkgedadjodaa
