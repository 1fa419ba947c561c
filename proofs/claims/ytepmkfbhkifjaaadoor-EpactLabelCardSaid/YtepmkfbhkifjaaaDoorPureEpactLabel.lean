/- What is proved: the plain statement of EpactLabel. -/
import Derived.Test.YtepmkfbhkifjaaaDoorQx10
import Derived.Test.YtepmkfbhkifjaaaDoorPE
namespace Go.Proofs.YtepmkfbhkifjaaaDoor.Q
open Go.RowKit Go.Proofs.YtepmkfbhkifjaaaDoorW.PrintWords Go.Proofs.YtepmkfbhkifjaaaDoorW.PrintLast
set_option linter.unusedVariables false
set_option linter.unusedSimpArgs false
end Go.Proofs.YtepmkfbhkifjaaaDoor.Q
namespace Go.Proofs.YtepmkfbhkifjaaaDoor.Pure
open Go.RowKit Go.Proofs.YtepmkfbhkifjaaaDoorW.PrintWords Go.Proofs.YtepmkfbhkifjaaaDoorW.PrintLast Go.Proofs.YtepmkfbhkifjaaaDoor.Q
theorem EpactLabel : Q.computuslaw07_EpactLabel.Pure := by
  intro a y ha hy
  obtain ⟨c, hc, hce, hcw⟩ := calNo ha
  refine Ev.rounds (g := fun k => computuslaw07_EpactLabel.f k a y) ?_
  unfold computuslaw07_EpactLabel.f
  rw [awake_ok, hce]
  simp only [Option.bind_some, if_true]
  refine Ev.bind (fails_ev c y) ?_
  by_cases hz : failsI c y = 0
  · obtain ⟨h1, h2⟩ := fails_zero hz
    obtain ⟨y1, y2, y3⟩ := okYear_le h1 h2
    have he := eOf_range c y
    refine Ev.congr (fun k => ?_) (Ev.now true)
    rw [if_pos hz]
    unfold epact_Of.f epact_Label.f
    rw [if_pos hcw, if_pos hcw, epOf_ok h1 h2, epLabel_ok h1 h2]
    simp only [Option.bind_some]
    have hjul : c = 1 → lOf c y ≠ 31 := by
      intro h
      have h3 : ¬ (eOf c y = 25 ∧ 11 < y % 19 + 1) := by
        subst h
        unfold eOf nOf
        rw [if_pos rfl]
        omega
      unfold lOf
      rw [if_neg h3]
      omega
    have hend : (if c = 2 then some true else some (lOf c y != 31)) = some true := by
      rcases hc with h | h
      · rw [if_neg (by omega)]
        have := hjul h
        simpa using this
      · rw [if_pos h]
    by_cases h25 : eOf c y = 25
    · rw [if_pos h25, rGolden y1 y2]
      simp only [Option.bind_some]
      rw [if_pos trivial, if_pos trivial, if_pos he.1, if_pos he.2]
      by_cases hg : y % 19 + 1 > 11
      · have hl : lOf c y = 31 := by unfold lOf; rw [if_pos ⟨h25, hg⟩]
        rw [hl] at hend
        rw [hl, decide_eq_true hg, if_pos (by decide), if_pos hg]
        exact hend
      · have hl : lOf c y = eOf c y := by unfold lOf; rw [if_neg (fun h => hg h.2)]
        rw [decide_eq_false hg, if_pos (by rw [hl, h25]; decide), if_neg hg, if_pos hl]
        exact hend
    · have hl : lOf c y = eOf c y := by unfold lOf; rw [if_neg (fun h => h25 h.1)]
      have h31 : (lOf c y == 31) = false := by rw [beq_eq_false_iff_ne]; omega
      rw [if_neg h25, if_pos trivial, if_pos trivial, if_pos he.1, if_pos he.2, h31, if_pos (by decide), if_pos hl]
      exact hend
  · refine Ev.congr (fun k => ?_) (Ev.now true)
    rw [if_neg hz]
end Go.Proofs.YtepmkfbhkifjaaaDoor.Pure
