-- Written by wip/tool/qprint.py: the print of the kit, with hand-proved contracts put in. Lean checks it.
import Derived.Test.YtcdokompepelaaaQx0
import Derived.Test.YtcdokompepelaaaHOpen
namespace Go.Proofs.Ytcdokompepelaaa.Q
open Go.RowKit Go.Proofs.YtcdokompepelaaaW.PrintWords
set_option linter.unusedVariables false
theorem op24 : Opens Try.prog 24 k24 wf24 := (Opens.struct Try.underlying24 (by kernel_rfl) (OpensF.cons rfl (by kernel_rfl) (Opens.int Try.underlying3) (OpensF.cons rfl (by kernel_rfl) (Opens.int Try.underlying3) (OpensF.cons rfl (by kernel_rfl) (Opens.int Try.underlying3) (OpensF.last rfl (by kernel_rfl) (Opens.string Try.underlying9)))))).iso (fun x => ⟨x.1, x.2.1, x.2.2.1, x.2.2.2⟩) (fun _ => rfl)
end Go.Proofs.Ytcdokompepelaaa.Q
