-- Written by wip/tool/qprint.py: the print of the kit, with hand-proved contracts put in. Lean checks it.
import Derived.Test.YtjjgkgedadjodabQx0
import Derived.Test.YtjjgkgedadjodabHOpen
namespace Go.Proofs.Ytjjgkgedadjodab.Q
open Go.RowKit Go.Proofs.YtjjgkgedadjodabW.PrintWords
set_option linter.unusedVariables false
theorem op58 : Opens Try.prog 58 k58 wf58 := (Opens.struct Try.underlying58 (by kernel_rfl) (OpensF.cons rfl (by kernel_rfl) (Opens.int Try.underlying3) (OpensF.last rfl (by kernel_rfl) (Opens.int Try.underlying3)))).iso (fun x => ⟨x.1, x.2⟩) (fun _ => rfl)
end Go.Proofs.Ytjjgkgedadjodab.Q
