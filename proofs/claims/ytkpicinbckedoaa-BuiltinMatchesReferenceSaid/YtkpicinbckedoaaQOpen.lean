-- Written by wip/tool/qprint.py: the print of the kit, with hand-proved contracts put in. Lean checks it.
import Derived.Test.YtkpicinbckedoaaQx0
import Derived.Test.YtkpicinbckedoaaHOpen
namespace Go.Proofs.Ytkpicinbckedoaa.Q
open Go.RowKit Go.Proofs.YtkpicinbckedoaaW.PrintWords
set_option linter.unusedVariables false
end Go.Proofs.Ytkpicinbckedoaa.Q
