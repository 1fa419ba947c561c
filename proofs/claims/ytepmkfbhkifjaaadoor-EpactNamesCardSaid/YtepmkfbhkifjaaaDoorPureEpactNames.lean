/- What is proved: the plain statement of EpactNames. -/
import Derived.Test.YtepmkfbhkifjaaaDoorQx13
import Derived.Test.YtepmkfbhkifjaaaDoorPE
namespace Go.Proofs.YtepmkfbhkifjaaaDoor.Q
open Go.RowKit Go.Proofs.YtepmkfbhkifjaaaDoorW.PrintWords Go.Proofs.YtepmkfbhkifjaaaDoorW.PrintLast
set_option linter.unusedVariables false
set_option linter.unusedSimpArgs false
end Go.Proofs.YtepmkfbhkifjaaaDoor.Q
namespace Go.Proofs.YtepmkfbhkifjaaaDoor.Pure
open Go.RowKit Go.Proofs.YtepmkfbhkifjaaaDoorW.PrintWords Go.Proofs.YtepmkfbhkifjaaaDoorW.PrintLast Go.Proofs.YtepmkfbhkifjaaaDoor.Q
theorem EpactNames : Q.computuslaw07_EpactNames.Pure := by
  intro a b ha hb
  unfold computuslaw07_EpactNames.f
  rw [awake_ok]
  simp only [Option.bind_some, epact_Name.f, if_true]
  by_cases h : 1 ≤ a ∧ a ≤ 31
  · have h2 := name_some h
    have h3 : ((epName a).toList != []) = true := by simpa using h2
    rw [if_pos (show a ≥ 1 from h.1), h3, decide_eq_true h.2, if_pos (by decide), if_neg h2]
    by_cases h4 : (epName a).toList = (epName b).toList
    · rw [if_pos h4]
      have hb1 : 1 ≤ b ∧ b ≤ 31 := by
        by_cases h5 : 1 ≤ b ∧ b ≤ 31
        · exact h5
        · rw [name_none h5] at h4
          exact absurd h4 h2
      have := (name_inj h hb1).1 h4
      rw [this, beq_self_eq_true]
    · rw [if_neg h4]
  · have h2 := name_none h
    have h3 : ((epName a).toList != []) = false := by simp [h2]
    rw [h3, h2]
    by_cases h5 : a ≥ 1
    · rw [if_pos h5, decide_eq_false (by omega)]
      rfl
    · rw [if_neg h5]
      rfl
end Go.Proofs.YtepmkfbhkifjaaaDoor.Pure
