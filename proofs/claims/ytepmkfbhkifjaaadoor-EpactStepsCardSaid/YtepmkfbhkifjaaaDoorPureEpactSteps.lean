/- What is proved: the plain statement of EpactSteps. -/
import Derived.Test.YtepmkfbhkifjaaaDoorQx11
import Derived.Test.YtepmkfbhkifjaaaDoorPE
namespace Go.Proofs.YtepmkfbhkifjaaaDoor.Q
open Go.RowKit Go.Proofs.YtepmkfbhkifjaaaDoorW.PrintWords Go.Proofs.YtepmkfbhkifjaaaDoorW.PrintLast
set_option linter.unusedVariables false
set_option linter.unusedSimpArgs false
theorem wadd (y d : Int) (h : 1 ≤ y ∧ y ≤ 1000000000) (hd : 0 ≤ d ∧ d ≤ 100) : wrap64 (y + d) = y + d := wr _ (by omega)
theorem steps_j0 (c y : Int) (hc : c = 1 ∨ c = 2) (h1 : okYear c y) (h2 : okYear c (y + 19)) : Ev (fun k => computuslaw07_EpactSteps.j0 k y c false) true := by
  obtain ⟨y1, y2, y3⟩ := okYear_le hc h1
  obtain ⟨z1, z2, z3⟩ := okYear_le hc h2
  have h3 : okYear c (y + 1) := by
    unfold okYear
    by_cases h : c = 1
    · rw [if_pos h]; omega
    · rw [if_neg h]; have := y3 (by omega); omega
  have hcw : -9223372036854775808 ≤ c ∧ c ≤ 9223372036854775807 := by omega
  have ha := eOf_range c y
  have hb := eOf_range c (y + 1)
  have hd := eOf_range c (y + 19)
  have k1 : y % 19 + 1 < 19 → (c = 1 ∨ y / 100 = (y + 1) / 100) → (eOf c (y + 1) - eOf c y) % 30 = 11 := by
    intro hg hq
    have hm : (y + 1) % 19 = y % 19 + 1 := by omega
    unfold eOf nOf
    rw [hm]
    rcases hc with rfl | rfl
    · rw [if_pos rfl, if_pos rfl]
      generalize y % 19 = g
      omega
    · rw [if_neg (by omega), if_neg (by omega)]
      have hq2 : (y + 1) / 100 = y / 100 := by omega
      rw [hq2]
      generalize (8 * (y / 100 + 1) + 5) / 25 - 5 = p
      generalize 3 * (y / 100 + 1) / 4 - 12 = q
      generalize y % 19 = g
      omega
  have k2 : (c = 2 ∧ y / 100 ≠ (y + 19) / 100) ∨ eOf c (y + 19) = eOf c y := by
    by_cases h : c = 2 ∧ y / 100 ≠ (y + 19) / 100
    · exact .inl h
    · refine .inr ?_
      have hm : (y + 19) % 19 = y % 19 := by omega
      unfold eOf nOf
      rw [hm]
      rcases hc with rfl | rfl
      · rw [if_pos rfl, if_pos rfl]
      · rw [if_neg (by omega), if_neg (by omega)]
        have hq2 : (y + 19) / 100 = y / 100 := by omega
        rw [hq2]
  have hend : (if c = 2 then (if y / 100 = (y + 19) / 100 then some (eOf c (y + 19) == eOf c y) else some true) else some (eOf c (y + 19) == eOf c y)) = some true := by
    rcases k2 with ⟨h5, h6⟩ | h5
    · rw [if_pos h5, if_neg h6]
    · rw [h5, beq_self_eq_true]
      split
      · split <;> rfl
      · rfl
  refine Ev.step (fun k => ?_) (Ev.now true)
  simp only [computuslaw07_EpactSteps.j0]
  rw [if_neg (by simp)]
  rw [wadd y 1 ⟨y1, y2⟩ (by omega), wadd y 19 ⟨y1, y2⟩ (by omega)]
  unfold epact_Of.f
  rw [if_pos hcw, if_pos hcw, if_pos hcw, epOf_ok hc h1, epOf_ok hc h2, epOf_ok hc h3, rGolden y1 y2]
  simp only [Option.bind_some]
  rw [Int.tdiv_eq_ediv_of_nonneg (by omega), Int.tdiv_eq_ediv_of_nonneg (by omega), Int.tdiv_eq_ediv_of_nonneg (by omega), wr (y / 100) (by omega), wr ((y + 19) / 100) (by omega), wr ((y + 1) / 100) (by omega), wr (eOf c (y + 1) - eOf c y) (by omega), rMod _ (by omega)]
  simp only [Option.bind_some]
  by_cases hg : y % 19 + 1 < 19
  · rw [if_pos hg]
    rcases hc with h | h
    · rw [if_pos h, if_pos (k1 hg (.inl h))]
      exact hend
    · rw [if_neg (by omega)]
      by_cases hq : y / 100 = (y + 1) / 100
      · rw [if_pos hq, if_pos (k1 hg (.inr hq))]
        exact hend
      · rw [if_neg hq]
        exact hend
  · rw [if_neg hg]
    exact hend
end Go.Proofs.YtepmkfbhkifjaaaDoor.Q
namespace Go.Proofs.YtepmkfbhkifjaaaDoor.Pure
open Go.RowKit Go.Proofs.YtepmkfbhkifjaaaDoorW.PrintWords Go.Proofs.YtepmkfbhkifjaaaDoorW.PrintLast Go.Proofs.YtepmkfbhkifjaaaDoor.Q
theorem EpactSteps : Q.computuslaw07_EpactSteps.Pure := by
  intro a y ha hy
  obtain ⟨c, hc, hce, hcw⟩ := calNo ha
  have hyw := wf64 hy
  have hT : Ev (fun k => computuslaw07_EpactSteps.j0 k y c true) true := by
    refine Ev.step (fun k => ?_) (Ev.now true)
    simp only [computuslaw07_EpactSteps.j0]
    rw [if_pos trivial, awake_ok]
    rfl
  refine Ev.rounds (g := fun k => computuslaw07_EpactSteps.f k a y) ?_
  unfold computuslaw07_EpactSteps.f
  rw [awake_ok, hce]
  simp only [Option.bind_some, if_true]
  refine Ev.bind (fails_ev c y) ?_
  by_cases hz : failsI c y = 0
  · refine Ev.congr (fun k => by rw [if_pos hz]) (Ev.bind (fails_ev c (wrap64 (y + 19))) ?_)
    obtain ⟨h1, h2⟩ := fails_zero hz
    obtain ⟨y1, y2, y3⟩ := okYear_le h1 h2
    rw [wadd y 19 ⟨y1, y2⟩ (by omega)]
    by_cases hz2 : failsI c (y + 19) = 0
    · obtain ⟨h3, h4⟩ := fails_zero hz2
      rw [hz2]
      exact steps_j0 c y hc h2 h4
    · have e : (failsI c (y + 19) != 0) = true := by simpa using hz2
      rw [e]
      exact hT
  · exact Ev.congr (fun k => by rw [if_neg hz]) hT
end Go.Proofs.YtepmkfbhkifjaaaDoor.Pure
