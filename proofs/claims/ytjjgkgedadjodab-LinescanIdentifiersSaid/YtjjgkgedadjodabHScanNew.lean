/- What is proved: New makes one block. -/
import Derived.Test.YtjjgkgedadjodabHScanNil
namespace Go.Proofs.Ytjjgkgedadjodab.Q
open Go.RowKit Go.Proofs.YtjjgkgedadjodabW.PrintWords Go.Proofs.YtjjgkgedadjodabW.PrintLast Go.Proofs.YtjjgkgedadjodabW.PrintMore
set_option linter.unusedVariables false
set_option linter.unusedSimpArgs false

set_option maxHeartbeats 4000000 in
set_option maxRecDepth 100000 in
theorem new_any (w : World) (s : ByteArray) :
    Calls Try.prog 17 #[.string s] w fun e w' => e = .returned (.pointer (some ⟨w.heap.size, 0, none⟩)) ∧ w' = w.alloc (.cells #[.string s, .int .i64 0, .bool false] 77) := by
  have hu := Try.underlying77
  go_enter Try.func17, Try.ntmps17
  go_wp2
  go_ret
  exact ⟨rfl, rfl⟩
end Go.Proofs.Ytjjgkgedadjodab.Q
