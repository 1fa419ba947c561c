-- Written by wip/tool/qprint.py: the print of the kit, with hand-proved contracts put in. Lean checks it.
import Derived.Test.YtjjgkgedadjodabQx0
import Derived.Test.YtjjgkgedadjodabHOpen
namespace Go.Proofs.Ytjjgkgedadjodab.Q
open Go.RowKit Go.Proofs.YtjjgkgedadjodabW.PrintWords
set_option linter.unusedVariables false
end Go.Proofs.Ytjjgkgedadjodab.Q
