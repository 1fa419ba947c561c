/- What is told: builtin.Names in the print's form. -/
import Derived.Test.YtkpicinbckedoaaHNames
namespace Go.Proofs.Ytkpicinbckedoaa.Q
open Go.RowKit Go.Proofs.YtkpicinbckedoaaW.PrintWords Go.Proofs.YtkpicinbckedoaaW.PrintLast Go.Proofs.YtkpicinbckedoaaW.PrintMore
set_option linter.unusedVariables false
def builtin_Names.f : Option (List ByteArray) := some bNames
theorem builtin_Names.calls (r : List ByteArray) (w : World) (h : builtin_Names.f = some r) : Calls Try.prog 8 #[] w fun e w' => ∃ v_ : Value, e = .returned v_ ∧ Kd.R Kd.string 9 w' w.heap.size (fun _ => True) v_ r ∧ Below w.heap.size w w' := by
  obtain rfl := Option.some.inj h
  exact names_any w
end Go.Proofs.Ytkpicinbckedoaa.Q
