/- What is proved: the plain statement of EpactMatchesReference. -/
import Derived.Test.YtepmkfbhkifjaaaDoorQx9
import Derived.Test.YtepmkfbhkifjaaaDoorPE
namespace Go.Proofs.YtepmkfbhkifjaaaDoor.Q
open Go.RowKit Go.Proofs.YtepmkfbhkifjaaaDoorW.PrintWords Go.Proofs.YtepmkfbhkifjaaaDoorW.PrintLast
set_option linter.unusedVariables false
set_option linter.unusedSimpArgs false
theorem mr_ev (c y l : Int) (hc : -9223372036854775808 ≤ c ∧ c ≤ 9223372036854775807) : Ev (fun k => computuslaw07_EpactMatchesReference.f k c y l) true := by
  have h0 : ∀ (e f : Int × Int), epOf c y = e → epLabel c y = f → e.2 = failsI c y → f.2 = failsI c y → Ev (fun k => computuslaw07_EpactMatchesReference.j0 k c y e.1 f.1 (failsI c y) false) true → Ev (fun k => computuslaw07_EpactMatchesReference.f k c y l) true := by
    intro e f he hf he2 hf2 hj
    refine Ev.congr (fun k => ?_) (Ev.bind (fails_ev c y) (f := fun k t153 => ((epact_Name.f l).bind fun t154 => ((computusref07_Name.f k l).bind fun t155 => (if t154.toList = t155.toList then (if e.2 = t153 then (computuslaw07_EpactMatchesReference.j0 k c y e.1 f.1 t153 (f.2 != t153)) else (computuslaw07_EpactMatchesReference.j0 k c y e.1 f.1 t153 true)) else (computuslaw07_EpactMatchesReference.j0 k c y e.1 f.1 t153 true))))) (Ev.congr (fun k => by rfl) (Ev.bind (rName l) (f := fun k t155 => if (epName l).toList = t155.toList then (if e.2 = failsI c y then (computuslaw07_EpactMatchesReference.j0 k c y e.1 f.1 (failsI c y) (f.2 != failsI c y)) else (computuslaw07_EpactMatchesReference.j0 k c y e.1 f.1 (failsI c y) true)) else (computuslaw07_EpactMatchesReference.j0 k c y e.1 f.1 (failsI c y) true)) (Ev.congr (fun k => ?_) hj))))
    · unfold computuslaw07_EpactMatchesReference.f
      rw [awake_ok]
      simp only [Option.bind_some, if_true]
      unfold epact_Of.f epact_Label.f
      rw [if_pos hc, if_pos hc, he, hf]
      rfl
    · rw [if_pos rfl, if_pos he2, hf2, bne_self_eq_false]
  by_cases hz : failsI c y = 0
  · obtain ⟨h1, h2⟩ := fails_zero hz
    refine h0 _ _ (epOf_ok h1 h2) (epLabel_ok h1 h2) hz.symm hz.symm ?_
    refine Ev.step (fun k => ?_) (Ev.now true)
    simp only [computuslaw07_EpactMatchesReference.j0]
    rw [if_neg (by simp), if_pos hz, rOf h1 h2]
    simp only [Option.bind_some]
    rw [if_pos trivial, rLabel h1 h2]
    simp
  · obtain ⟨h1, h2⟩ := epOf_no hz
    refine h0 _ _ h1 h2 rfl rfl ?_
    refine Ev.step (fun k => ?_) (Ev.now true)
    simp only [computuslaw07_EpactMatchesReference.j0]
    rw [if_neg (by simp), if_neg hz, if_pos trivial]
    rfl
end Go.Proofs.YtepmkfbhkifjaaaDoor.Q
namespace Go.Proofs.YtepmkfbhkifjaaaDoor.Pure
open Go.RowKit Go.Proofs.YtepmkfbhkifjaaaDoorW.PrintWords Go.Proofs.YtepmkfbhkifjaaaDoorW.PrintLast Go.Proofs.YtepmkfbhkifjaaaDoor.Q
theorem EpactMatchesReference : Q.computuslaw07_EpactMatchesReference.Pure := fun a0 a1 a2 h0 _ _ => (mr_ev a0 a1 a2 (wf64 h0)).rounds
end Go.Proofs.YtepmkfbhkifjaaaDoor.Pure
