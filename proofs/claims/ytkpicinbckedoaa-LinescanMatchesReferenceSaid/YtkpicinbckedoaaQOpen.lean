-- Written by wip/tool/qprint.py: the print of the kit, with hand-proved contracts put in. Lean checks it.
import Derived.Test.YtkpicinbckedoaaQx0
import Derived.Test.YtkpicinbckedoaaHOpen
namespace Go.Proofs.Ytkpicinbckedoaa.Q
open Go.RowKit Go.Proofs.YtkpicinbckedoaaW.PrintWords
set_option linter.unusedVariables false
theorem op46 : Opens Try.prog 46 k46 wf46 := (Opens.struct Try.underlying46 (by kernel_rfl) (OpensF.cons rfl (by kernel_rfl) (Opens.int Try.underlying3) (OpensF.last rfl (by kernel_rfl) (Opens.int Try.underlying3)))).iso (fun x => ⟨x.1, x.2⟩) (fun _ => rfl)
end Go.Proofs.Ytkpicinbckedoaa.Q
