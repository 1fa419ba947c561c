/- What is proved: the plain statement of EpactDistinct. -/
import Derived.Test.YtepmkfbhkifjaaaDoorQx12
import Derived.Test.YtepmkfbhkifjaaaDoorPE
namespace Go.Proofs.YtepmkfbhkifjaaaDoor.Q
open Go.RowKit Go.Proofs.YtepmkfbhkifjaaaDoorW.PrintWords Go.Proofs.YtepmkfbhkifjaaaDoorW.PrintLast
set_option linter.unusedVariables false
set_option linter.unusedSimpArgs false
theorem dist_j0 (c y z : Int) (hc : c = 1 ∨ c = 2) (h1 : okYear c y) (h2 : okYear c z) (hq : c = 2 → y / 100 = z / 100) : Ev (fun k => computuslaw07_EpactDistinct.j0 k y z c false) true := by
  obtain ⟨y1, y2, y3⟩ := okYear_le hc h1
  obtain ⟨z1, z2, z3⟩ := okYear_le hc h2
  have hcw : -9223372036854775808 ≤ c ∧ c ≤ 9223372036854775807 := by omega
  have ha := lOf_range c y
  have hb := lOf_range c z
  have k1 : eOf c y = eOf c z ↔ y % 19 = z % 19 := by
    unfold eOf nOf
    rcases hc with rfl | rfl
    · rw [if_pos rfl, if_pos rfl]; omega
    · rw [if_neg (by omega), if_neg (by omega), hq rfl]; omega
  have k2 : lOf c y = lOf c z ↔ y % 19 + 1 = z % 19 + 1 := by
    constructor
    · intro h
      have e1 := lOf_eOf c y
      have e2 := lOf_eOf c z
      rw [h, ← e2] at e1
      have := k1.1 e1
      omega
    · intro h
      have h3 := k1.2 (by omega)
      unfold lOf
      rw [h3, h]
  refine Ev.step (fun k => ?_) (Ev.now true)
  simp only [computuslaw07_EpactDistinct.j0]
  rw [if_neg (by simp)]
  unfold epact_Label.f
  rw [if_pos hcw, if_pos hcw, epLabel_ok hc h1, epLabel_ok hc h2, rGolden y1 y2, rGolden z1 z2]
  simp only [Option.bind_some, epact_Name.f]
  by_cases h : lOf c y = lOf c z
  · have e1 : (lOf c y == lOf c z) = true := by simpa using h
    have e2 : (y % 19 + 1 == z % 19 + 1) = true := by rw [beq_iff_eq]; exact k2.1 h
    rw [e1, e2, if_pos (by decide), h, beq_self_eq_true]
    rfl
  · have e1 : (lOf c y == lOf c z) = false := by simpa using h
    have e2 : (y % 19 + 1 == z % 19 + 1) = false := by rw [beq_eq_false_iff_ne]; exact fun h3 => h (k2.2 h3)
    have e3 : ((epName (lOf c y)).toList == (epName (lOf c z)).toList) = false := by rw [beq_eq_false_iff_ne]; exact fun h3 => h ((name_inj ha hb).1 h3)
    rw [e1, e2, if_pos (by decide), e3]
    rfl
end Go.Proofs.YtepmkfbhkifjaaaDoor.Q
namespace Go.Proofs.YtepmkfbhkifjaaaDoor.Pure
open Go.RowKit Go.Proofs.YtepmkfbhkifjaaaDoorW.PrintWords Go.Proofs.YtepmkfbhkifjaaaDoorW.PrintLast Go.Proofs.YtepmkfbhkifjaaaDoor.Q
theorem EpactDistinct : Q.computuslaw07_EpactDistinct.Pure := by
  intro a y z ha hy hz0
  obtain ⟨c, hc, hce, hcw⟩ := calNo ha
  have hT : Ev (fun k => computuslaw07_EpactDistinct.j0 k y z c true) true := by
    refine Ev.step (fun k => ?_) (Ev.now true)
    simp only [computuslaw07_EpactDistinct.j0]
    rw [if_pos trivial, awake_ok]
    rfl
  refine Ev.rounds (g := fun k => computuslaw07_EpactDistinct.f k a y z) ?_
  unfold computuslaw07_EpactDistinct.f
  rw [awake_ok, hce]
  simp only [Option.bind_some, if_true]
  refine Ev.bind (fails_ev c y) ?_
  by_cases hz : failsI c y = 0
  · refine Ev.congr (fun k => by rw [if_pos hz]) (Ev.bind (fails_ev c z) ?_)
    obtain ⟨h1, h2⟩ := fails_zero hz
    obtain ⟨y1, y2, y3⟩ := okYear_le h1 h2
    by_cases hz2 : failsI c z = 0
    · obtain ⟨h3, h4⟩ := fails_zero hz2
      obtain ⟨z1, z2, z3⟩ := okYear_le h3 h4
      rw [Int.tdiv_eq_ediv_of_nonneg (by omega), Int.tdiv_eq_ediv_of_nonneg (by omega), wr (y / 100) (by omega), wr (z / 100) (by omega)]
      rcases hc with h | h
      · exact Ev.congr (fun k => by rw [if_pos hz2, if_neg (by omega)]) (dist_j0 c y z (.inl h) h2 h4 (fun h5 => by omega))
      · by_cases hq : y / 100 = z / 100
        · have e : (y / 100 != z / 100) = false := by simpa using hq
          exact Ev.congr (fun k => by rw [if_pos hz2, if_pos h, e]) (dist_j0 c y z (.inr h) h2 h4 (fun _ => hq))
        · have e : (y / 100 != z / 100) = true := by simpa using hq
          exact Ev.congr (fun k => by rw [if_pos hz2, if_pos h, e]) hT
    · exact Ev.congr (fun k => by rw [if_neg hz2]) hT
  · exact Ev.congr (fun k => by rw [if_neg hz]) hT
end Go.Proofs.YtepmkfbhkifjaaaDoor.Pure
