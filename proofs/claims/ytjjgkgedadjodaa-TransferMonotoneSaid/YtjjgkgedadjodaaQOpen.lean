-- Written by wip/tool/qprint.py: the print of the kit, with hand-proved contracts put in. Lean checks it.
import Derived.Test.YtjjgkgedadjodaaQx0
import Derived.Test.YtjjgkgedadjodaaHOpen
namespace Go.Proofs.Ytjjgkgedadjodaa.Q
open Go.RowKit Go.Proofs.YtjjgkgedadjodaaW.PrintWords
set_option linter.unusedVariables false
end Go.Proofs.Ytjjgkgedadjodaa.Q
