/-
  NARROWER THAN 'FOR EVERY INPUT', by the rows' own cells (each row's printed sentence says how): CattextMatchesReference: laid · CattextCanonical: laid · CattextAccepted: laid · CattextOffsets: laid · CattextLines: laid.
  DERIVED. THE GIVEN ROWS OF THIS SEAT. 5 by the template 'for every input the law returns true; each argument reads behind the call as it read before'; 0 by the template 'total and deterministic' (their statements: YtlfokdbnbmebiaaDoorTotals.lean).
  GIVEN WITH THE SEED: the statements are not yours to turn. If you find one false, say at which input.
  Laid BY PROGRAM, IN A SANDBOX (cutbox-rows.mjs): the forced cells as the released guide's own fill.sh prints them over the translation b593f63640843b1a… (all of the seat's roots in one cut). By AI agents, Wed Nov 11 2026. No macro, syntax, notation, axiom, sorry.
-/
import Derived.Test.YtlfokdbnbmebiaaDoorChecked
import GoSem.Claim
import GoSem.ClaimJoined
import GoSem.ClaimMapViews
import Derived.JoinedTies
import Derived.KernelRfl
namespace Go.Proofs.YtlfokdbnbmebiaaDoor
/- THE CELL 'sum', in the pinned program and in every row, IS THE sha256 OF THE DUMP (.gsa) THAT YtlfokdbnbmebiaaDoorProg.lean LOADS. Nothing in Lean hashes anything: it is a label: what it is worth is what the hold of that sum in a sandbox is worth. -/
noncomputable def Tryd.pinned : Pinned := { name := "ytlfokdbnbmebiaadoor", sum := "b593f63640843b1a05a049f5bfad59522f1fc7ffa09f83cc0e0e1da0c04c9e5f", checked := Tryd.checked }
namespace Rows
def none {H : Type} : Left H := { results := [], args := [] }

/- WHAT THE LISTED PACKAGE-LEVEL VARIABLES READ AS WHEN THE CALL BEGINS. Each datum BY PROGRAM (the guide's laid-datum.mjs) off the statement by which the dump's own 'gosem.cut.vars' lays the variable. In a bare row this is a premise. The card (YtlfokdbnbmebiaaDoorCards.lean) ties it to the program's text. -/
def laid_math_bits_deBruijn32tab {H : Type} : DataW H := .agg [.lit (.int .u8 0), .lit (.int .u8 1), .lit (.int .u8 28), .lit (.int .u8 2), .lit (.int .u8 29), .lit (.int .u8 14), .lit (.int .u8 24), .lit (.int .u8 3), .lit (.int .u8 30), .lit (.int .u8 22), .lit (.int .u8 20), .lit (.int .u8 15), .lit (.int .u8 25), .lit (.int .u8 17), .lit (.int .u8 4), .lit (.int .u8 8), .lit (.int .u8 31), .lit (.int .u8 27), .lit (.int .u8 13), .lit (.int .u8 23), .lit (.int .u8 21), .lit (.int .u8 19), .lit (.int .u8 16), .lit (.int .u8 7), .lit (.int .u8 26), .lit (.int .u8 12), .lit (.int .u8 18), .lit (.int .u8 6), .lit (.int .u8 11), .lit (.int .u8 5), .lit (.int .u8 10), .lit (.int .u8 9)]
def laid_math_bits_deBruijn64tab {H : Type} : DataW H := .agg [.lit (.int .u8 0), .lit (.int .u8 1), .lit (.int .u8 56), .lit (.int .u8 2), .lit (.int .u8 57), .lit (.int .u8 49), .lit (.int .u8 28), .lit (.int .u8 3), .lit (.int .u8 61), .lit (.int .u8 58), .lit (.int .u8 42), .lit (.int .u8 50), .lit (.int .u8 38), .lit (.int .u8 29), .lit (.int .u8 17), .lit (.int .u8 4), .lit (.int .u8 62), .lit (.int .u8 47), .lit (.int .u8 59), .lit (.int .u8 36), .lit (.int .u8 45), .lit (.int .u8 43), .lit (.int .u8 51), .lit (.int .u8 22), .lit (.int .u8 53), .lit (.int .u8 39), .lit (.int .u8 33), .lit (.int .u8 30), .lit (.int .u8 24), .lit (.int .u8 18), .lit (.int .u8 12), .lit (.int .u8 5), .lit (.int .u8 63), .lit (.int .u8 55), .lit (.int .u8 48), .lit (.int .u8 27), .lit (.int .u8 60), .lit (.int .u8 41), .lit (.int .u8 37), .lit (.int .u8 16), .lit (.int .u8 46), .lit (.int .u8 35), .lit (.int .u8 44), .lit (.int .u8 21), .lit (.int .u8 52), .lit (.int .u8 32), .lit (.int .u8 23), .lit (.int .u8 11), .lit (.int .u8 54), .lit (.int .u8 26), .lit (.int .u8 40), .lit (.int .u8 15), .lit (.int .u8 34), .lit (.int .u8 20), .lit (.int .u8 31), .lit (.int .u8 10), .lit (.int .u8 25), .lit (.int .u8 14), .lit (.int .u8 19), .lit (.int .u8 9), .lit (.int .u8 13), .lit (.int .u8 8), .lit (.int .u8 7), .lit (.int .u8 6)]
def laid_internal_strconv_uint64pow10 {H : Type} : DataW H := .agg [.lit (.int .u64 1), .lit (.int .u64 10), .lit (.int .u64 100), .lit (.int .u64 1000), .lit (.int .u64 10000), .lit (.int .u64 100000), .lit (.int .u64 1000000), .lit (.int .u64 10000000), .lit (.int .u64 100000000), .lit (.int .u64 1000000000), .lit (.int .u64 10000000000), .lit (.int .u64 100000000000), .lit (.int .u64 1000000000000), .lit (.int .u64 10000000000000), .lit (.int .u64 100000000000000), .lit (.int .u64 1000000000000000), .lit (.int .u64 10000000000000000), .lit (.int .u64 100000000000000000), .lit (.int .u64 1000000000000000000), .lit (.int .u64 10000000000000000000)]
def laid_computus_weekday_names {H : Type} : DataW H := .agg [.lit (.string [115, 117, 110, 100, 97, 121]), .lit (.string [109, 111, 110, 100, 97, 121]), .lit (.string [116, 117, 101, 115, 100, 97, 121]), .lit (.string [119, 101, 100, 110, 101, 115, 100, 97, 121]), .lit (.string [116, 104, 117, 114, 115, 100, 97, 121]), .lit (.string [102, 114, 105, 100, 97, 121]), .lit (.string [115, 97, 116, 117, 114, 100, 97, 121])]
def laid_computus_cattext_policies {H : Type} : DataW H := .agg [.lit (.string [116, 114, 97, 110, 115, 102, 101, 114]), .lit (.string [99, 111, 109, 109, 101, 109, 111, 114, 97, 116, 101]), .lit (.string [111, 109, 105, 116])]

/-- 'computuslaw26.CattextMatchesReference': WHATEVER THE INPUT: true; the input reads as it did. -/
def cattextMatchesReferenceSpec : ChangeSpec := { name := "cattextMatchesReference", fn := fun _ => fun
  | [d] => { results := [.lit (.bool true)], args := [d] }
  | _ => none }
def cattextMatchesReferenceRow : OpenClaim := { program := "ytlfokdbnbmebiaadoor", sum := "b593f63640843b1a05a049f5bfad59522f1fc7ffa09f83cc0e0e1da0c04c9e5f", func := "computus/computuslaw26.CattextMatchesReference", spec := "cattextMatchesReference", inPlace := ["internal/abi.NoEscape", "internal/bytealg.MakeNoZero"], unfollowed := true, recurses := true, named := ["computus/cattext.policies", "computus/weekday.names", "internal/strconv.uint64pow10", "math/bits.deBruijn32tab", "math/bits.deBruijn64tab"], apart := false, laid := [("math/bits.deBruijn32tab", laid_math_bits_deBruijn32tab), ("math/bits.deBruijn64tab", laid_math_bits_deBruijn64tab), ("internal/strconv.uint64pow10", laid_internal_strconv_uint64pow10), ("computus/weekday.names", laid_computus_weekday_names), ("computus/cattext.policies", laid_computus_cattext_policies)] }
def CattextMatchesReferenceSaid : Prop := cattextMatchesReferenceRow.holds Tryd.pinned (OpenSpec.ofChange cattextMatchesReferenceSpec)

/-- ITS FALSE NEIGHBOUR: 'it returns false'. Refute it at one input. -/
def cattextMatchesReferenceWrong : ChangeSpec := { name := "cattextMatchesReference", fn := fun _ => fun
  | [d] => { results := [.lit (.bool false)], args := [d] }
  | _ => none }
def CattextMatchesReferenceWrongFalsely : Prop := cattextMatchesReferenceRow.holds Tryd.pinned (OpenSpec.ofChange cattextMatchesReferenceWrong)

/-- 'computuslaw26.CattextCanonical': WHATEVER THE INPUT: true; the input reads as it did. -/
def cattextCanonicalSpec : ChangeSpec := { name := "cattextCanonical", fn := fun _ => fun
  | [d] => { results := [.lit (.bool true)], args := [d] }
  | _ => none }
def cattextCanonicalRow : OpenClaim := { program := "ytlfokdbnbmebiaadoor", sum := "b593f63640843b1a05a049f5bfad59522f1fc7ffa09f83cc0e0e1da0c04c9e5f", func := "computus/computuslaw26.CattextCanonical", spec := "cattextCanonical", inPlace := ["internal/abi.NoEscape", "internal/bytealg.MakeNoZero"], unfollowed := true, recurses := true, named := ["computus/cattext.policies", "computus/weekday.names", "internal/strconv.uint64pow10", "math/bits.deBruijn32tab", "math/bits.deBruijn64tab"], apart := false, laid := [("math/bits.deBruijn32tab", laid_math_bits_deBruijn32tab), ("math/bits.deBruijn64tab", laid_math_bits_deBruijn64tab), ("internal/strconv.uint64pow10", laid_internal_strconv_uint64pow10), ("computus/weekday.names", laid_computus_weekday_names), ("computus/cattext.policies", laid_computus_cattext_policies)] }
def CattextCanonicalSaid : Prop := cattextCanonicalRow.holds Tryd.pinned (OpenSpec.ofChange cattextCanonicalSpec)

/-- ITS FALSE NEIGHBOUR: 'it returns false'. Refute it at one input. -/
def cattextCanonicalWrong : ChangeSpec := { name := "cattextCanonical", fn := fun _ => fun
  | [d] => { results := [.lit (.bool false)], args := [d] }
  | _ => none }
def CattextCanonicalWrongFalsely : Prop := cattextCanonicalRow.holds Tryd.pinned (OpenSpec.ofChange cattextCanonicalWrong)

/-- 'computuslaw26.CattextAccepted': WHATEVER THE INPUT: true; the input reads as it did. -/
def cattextAcceptedSpec : ChangeSpec := { name := "cattextAccepted", fn := fun _ => fun
  | [d] => { results := [.lit (.bool true)], args := [d] }
  | _ => none }
def cattextAcceptedRow : OpenClaim := { program := "ytlfokdbnbmebiaadoor", sum := "b593f63640843b1a05a049f5bfad59522f1fc7ffa09f83cc0e0e1da0c04c9e5f", func := "computus/computuslaw26.CattextAccepted", spec := "cattextAccepted", inPlace := ["internal/abi.NoEscape", "internal/bytealg.MakeNoZero"], unfollowed := true, recurses := true, named := ["computus/cattext.policies", "computus/weekday.names", "internal/strconv.uint64pow10", "math/bits.deBruijn32tab", "math/bits.deBruijn64tab"], apart := false, laid := [("math/bits.deBruijn32tab", laid_math_bits_deBruijn32tab), ("math/bits.deBruijn64tab", laid_math_bits_deBruijn64tab), ("internal/strconv.uint64pow10", laid_internal_strconv_uint64pow10), ("computus/weekday.names", laid_computus_weekday_names), ("computus/cattext.policies", laid_computus_cattext_policies)] }
def CattextAcceptedSaid : Prop := cattextAcceptedRow.holds Tryd.pinned (OpenSpec.ofChange cattextAcceptedSpec)

/-- ITS FALSE NEIGHBOUR: 'it returns false'. Refute it at one input. -/
def cattextAcceptedWrong : ChangeSpec := { name := "cattextAccepted", fn := fun _ => fun
  | [d] => { results := [.lit (.bool false)], args := [d] }
  | _ => none }
def CattextAcceptedWrongFalsely : Prop := cattextAcceptedRow.holds Tryd.pinned (OpenSpec.ofChange cattextAcceptedWrong)

/-- 'computuslaw26.CattextOffsets': WHATEVER THE INPUT: true; the input reads as it did. -/
def cattextOffsetsSpec : ChangeSpec := { name := "cattextOffsets", fn := fun _ => fun
  | [d1, d2] => { results := [.lit (.bool true)], args := [d1, d2] }
  | _ => none }
def cattextOffsetsRow : OpenClaim := { program := "ytlfokdbnbmebiaadoor", sum := "b593f63640843b1a05a049f5bfad59522f1fc7ffa09f83cc0e0e1da0c04c9e5f", func := "computus/computuslaw26.CattextOffsets", spec := "cattextOffsets", inPlace := ["internal/abi.NoEscape", "internal/bytealg.MakeNoZero"], unfollowed := true, recurses := true, named := ["computus/cattext.policies", "computus/weekday.names", "internal/strconv.uint64pow10", "math/bits.deBruijn32tab", "math/bits.deBruijn64tab"], apart := false, laid := [("math/bits.deBruijn32tab", laid_math_bits_deBruijn32tab), ("math/bits.deBruijn64tab", laid_math_bits_deBruijn64tab), ("internal/strconv.uint64pow10", laid_internal_strconv_uint64pow10), ("computus/weekday.names", laid_computus_weekday_names), ("computus/cattext.policies", laid_computus_cattext_policies)] }
def CattextOffsetsSaid : Prop := cattextOffsetsRow.holds Tryd.pinned (OpenSpec.ofChange cattextOffsetsSpec)

/-- ITS FALSE NEIGHBOUR: 'it returns false'. Refute it at one input. -/
def cattextOffsetsWrong : ChangeSpec := { name := "cattextOffsets", fn := fun _ => fun
  | [d1, d2] => { results := [.lit (.bool false)], args := [d1, d2] }
  | _ => none }
def CattextOffsetsWrongFalsely : Prop := cattextOffsetsRow.holds Tryd.pinned (OpenSpec.ofChange cattextOffsetsWrong)

/-- 'computuslaw26.CattextLines': WHATEVER THE INPUT: true; the input reads as it did. -/
def cattextLinesSpec : ChangeSpec := { name := "cattextLines", fn := fun _ => fun
  | [d] => { results := [.lit (.bool true)], args := [d] }
  | _ => none }
def cattextLinesRow : OpenClaim := { program := "ytlfokdbnbmebiaadoor", sum := "b593f63640843b1a05a049f5bfad59522f1fc7ffa09f83cc0e0e1da0c04c9e5f", func := "computus/computuslaw26.CattextLines", spec := "cattextLines", inPlace := ["internal/abi.NoEscape", "internal/bytealg.MakeNoZero"], unfollowed := true, recurses := true, named := ["computus/cattext.policies", "computus/weekday.names", "internal/strconv.uint64pow10", "math/bits.deBruijn32tab", "math/bits.deBruijn64tab"], apart := false, laid := [("math/bits.deBruijn32tab", laid_math_bits_deBruijn32tab), ("math/bits.deBruijn64tab", laid_math_bits_deBruijn64tab), ("internal/strconv.uint64pow10", laid_internal_strconv_uint64pow10), ("computus/weekday.names", laid_computus_weekday_names), ("computus/cattext.policies", laid_computus_cattext_policies)] }
def CattextLinesSaid : Prop := cattextLinesRow.holds Tryd.pinned (OpenSpec.ofChange cattextLinesSpec)

/-- ITS FALSE NEIGHBOUR: 'it returns false'. Refute it at one input. -/
def cattextLinesWrong : ChangeSpec := { name := "cattextLines", fn := fun _ => fun
  | [d] => { results := [.lit (.bool false)], args := [d] }
  | _ => none }
def CattextLinesWrongFalsely : Prop := cattextLinesRow.holds Tryd.pinned (OpenSpec.ofChange cattextLinesWrong)

/- THE SECOND FORM. 'bulk': how many values and letters a reading holds, each counted each time it is reached (what is shared counts as often as it is met; a slice's spare places count too). A statement '..UptoSaid' is the law's where the arguments, and the package variables that the reading takes, are together of bulk at most 1048576: NARROWER than '..Said'. Prove '..Said' where nothing that the law and all that it calls make is longer than what came in: it says more and counts as full. Else prove '..UptoSaid'. A law counts once. -/
mutual
def uptoBulk {H : Type} : DataW H → Nat
  | .lit (.string bytes) => bytes.length + 1
  | .lit _ => 1
  | .nil => 1
  | .ptr d => uptoBulk d + 1
  | .slice elems spare => uptoBulkAll elems + uptoBulkAll spare + 1
  | .agg parts => uptoBulkAll parts + 1
  | .iface _ d => uptoBulk d + 1
  | .map entries => uptoBulkEntries entries + 1
  | .held _ => 1
def uptoBulkAll {H : Type} : List (DataW H) → Nat
  | [] => 0
  | d :: r => uptoBulk d + uptoBulkAll r
def uptoBulkEntries {H : Type} : List (Lit × DataW H) → Nat
  | [] => 0
  | x :: r => uptoBulkEntry x + uptoBulkEntries r
def uptoBulkEntry {H : Type} : Lit × DataW H → Nat
  | (.string bytes, d) => bytes.length + uptoBulk d + 1
  | (_, d) => uptoBulk d + 1
 end
def uptoSmall : (H : Type) → List (DataW H) → Bool := fun _ ds => decide (uptoBulkAll ds ≤ 1048576)
def OpenSpec.upto (s : _root_.Go.ChangeSpec) : _root_.Go.OpenSpec := { _root_.Go.OpenSpec.ofChange s with cond := some uptoSmall }

/-- 'computuslaw26.CattextMatchesReference', WHERE WHAT IT READS IS OF BULK AT MOST 1048576: true; the input reads as it did. -/
def cattextMatchesReferenceUptoRow : OpenClaim := { program := "ytlfokdbnbmebiaadoor", sum := "b593f63640843b1a05a049f5bfad59522f1fc7ffa09f83cc0e0e1da0c04c9e5f", func := "computus/computuslaw26.CattextMatchesReference", spec := "cattextMatchesReference", inPlace := ["internal/abi.NoEscape", "internal/bytealg.MakeNoZero"], unfollowed := true, recurses := true, named := ["computus/cattext.policies", "computus/weekday.names", "internal/strconv.uint64pow10", "math/bits.deBruijn32tab", "math/bits.deBruijn64tab"], apart := false, laid := [("math/bits.deBruijn32tab", laid_math_bits_deBruijn32tab), ("math/bits.deBruijn64tab", laid_math_bits_deBruijn64tab), ("internal/strconv.uint64pow10", laid_internal_strconv_uint64pow10), ("computus/weekday.names", laid_computus_weekday_names), ("computus/cattext.policies", laid_computus_cattext_policies)], narrowed := true }
def CattextMatchesReferenceUptoSaid : Prop := cattextMatchesReferenceUptoRow.holds Tryd.pinned (OpenSpec.upto cattextMatchesReferenceSpec)

/-- 'computuslaw26.CattextCanonical', WHERE WHAT IT READS IS OF BULK AT MOST 1048576: true; the input reads as it did. -/
def cattextCanonicalUptoRow : OpenClaim := { program := "ytlfokdbnbmebiaadoor", sum := "b593f63640843b1a05a049f5bfad59522f1fc7ffa09f83cc0e0e1da0c04c9e5f", func := "computus/computuslaw26.CattextCanonical", spec := "cattextCanonical", inPlace := ["internal/abi.NoEscape", "internal/bytealg.MakeNoZero"], unfollowed := true, recurses := true, named := ["computus/cattext.policies", "computus/weekday.names", "internal/strconv.uint64pow10", "math/bits.deBruijn32tab", "math/bits.deBruijn64tab"], apart := false, laid := [("math/bits.deBruijn32tab", laid_math_bits_deBruijn32tab), ("math/bits.deBruijn64tab", laid_math_bits_deBruijn64tab), ("internal/strconv.uint64pow10", laid_internal_strconv_uint64pow10), ("computus/weekday.names", laid_computus_weekday_names), ("computus/cattext.policies", laid_computus_cattext_policies)], narrowed := true }
def CattextCanonicalUptoSaid : Prop := cattextCanonicalUptoRow.holds Tryd.pinned (OpenSpec.upto cattextCanonicalSpec)

/-- 'computuslaw26.CattextAccepted', WHERE WHAT IT READS IS OF BULK AT MOST 1048576: true; the input reads as it did. -/
def cattextAcceptedUptoRow : OpenClaim := { program := "ytlfokdbnbmebiaadoor", sum := "b593f63640843b1a05a049f5bfad59522f1fc7ffa09f83cc0e0e1da0c04c9e5f", func := "computus/computuslaw26.CattextAccepted", spec := "cattextAccepted", inPlace := ["internal/abi.NoEscape", "internal/bytealg.MakeNoZero"], unfollowed := true, recurses := true, named := ["computus/cattext.policies", "computus/weekday.names", "internal/strconv.uint64pow10", "math/bits.deBruijn32tab", "math/bits.deBruijn64tab"], apart := false, laid := [("math/bits.deBruijn32tab", laid_math_bits_deBruijn32tab), ("math/bits.deBruijn64tab", laid_math_bits_deBruijn64tab), ("internal/strconv.uint64pow10", laid_internal_strconv_uint64pow10), ("computus/weekday.names", laid_computus_weekday_names), ("computus/cattext.policies", laid_computus_cattext_policies)], narrowed := true }
def CattextAcceptedUptoSaid : Prop := cattextAcceptedUptoRow.holds Tryd.pinned (OpenSpec.upto cattextAcceptedSpec)

/-- 'computuslaw26.CattextOffsets', WHERE WHAT IT READS IS OF BULK AT MOST 1048576: true; the input reads as it did. -/
def cattextOffsetsUptoRow : OpenClaim := { program := "ytlfokdbnbmebiaadoor", sum := "b593f63640843b1a05a049f5bfad59522f1fc7ffa09f83cc0e0e1da0c04c9e5f", func := "computus/computuslaw26.CattextOffsets", spec := "cattextOffsets", inPlace := ["internal/abi.NoEscape", "internal/bytealg.MakeNoZero"], unfollowed := true, recurses := true, named := ["computus/cattext.policies", "computus/weekday.names", "internal/strconv.uint64pow10", "math/bits.deBruijn32tab", "math/bits.deBruijn64tab"], apart := false, laid := [("math/bits.deBruijn32tab", laid_math_bits_deBruijn32tab), ("math/bits.deBruijn64tab", laid_math_bits_deBruijn64tab), ("internal/strconv.uint64pow10", laid_internal_strconv_uint64pow10), ("computus/weekday.names", laid_computus_weekday_names), ("computus/cattext.policies", laid_computus_cattext_policies)], narrowed := true }
def CattextOffsetsUptoSaid : Prop := cattextOffsetsUptoRow.holds Tryd.pinned (OpenSpec.upto cattextOffsetsSpec)

/-- 'computuslaw26.CattextLines', WHERE WHAT IT READS IS OF BULK AT MOST 1048576: true; the input reads as it did. -/
def cattextLinesUptoRow : OpenClaim := { program := "ytlfokdbnbmebiaadoor", sum := "b593f63640843b1a05a049f5bfad59522f1fc7ffa09f83cc0e0e1da0c04c9e5f", func := "computus/computuslaw26.CattextLines", spec := "cattextLines", inPlace := ["internal/abi.NoEscape", "internal/bytealg.MakeNoZero"], unfollowed := true, recurses := true, named := ["computus/cattext.policies", "computus/weekday.names", "internal/strconv.uint64pow10", "math/bits.deBruijn32tab", "math/bits.deBruijn64tab"], apart := false, laid := [("math/bits.deBruijn32tab", laid_math_bits_deBruijn32tab), ("math/bits.deBruijn64tab", laid_math_bits_deBruijn64tab), ("internal/strconv.uint64pow10", laid_internal_strconv_uint64pow10), ("computus/weekday.names", laid_computus_weekday_names), ("computus/cattext.policies", laid_computus_cattext_policies)], narrowed := true }
def CattextLinesUptoSaid : Prop := cattextLinesUptoRow.holds Tryd.pinned (OpenSpec.upto cattextLinesSpec)

end Rows
end Go.Proofs.YtlfokdbnbmebiaaDoor
