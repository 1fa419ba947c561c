/- What is proved: the plain statement of PrecedenceTotal: precedence is a strict order, total but for rank, kind and index. -/
import Derived.Test.YtcdokompepelaaaQx12
import Derived.Test.YtcdokompepelaaaPP
namespace Go.Proofs.Ytcdokompepelaaa.Q
open Go.RowKit Go.Proofs.YtcdokompepelaaaW.PrintWords Go.Proofs.YtcdokompepelaaaW.PrintLast Go.Proofs.Ytcdokompepelaaa.Srt
set_option linter.unusedVariables false
set_option linter.unusedSimpArgs false

theorem awake_ev : Ev (fun k => computuslaw20_awake.f k) true := Ev.of computuslaw20_awake.mono (k := 30) (by kernel_rfl)
theorem less_same (x y : Cd) : (x.f2 = y.f2 ∧ x.f0 = y.f0 ∧ x.f1 = y.f1) ↔ (lessB x y = false ∧ lessB y x = false) := by
  unfold lessB
  by_cases h2 : x.f2 = y.f2
  · rw [if_pos h2, if_pos h2.symm]
    by_cases h0 : x.f0 = y.f0
    · rw [if_pos h0, if_pos h0.symm, decide_eq_false_iff_not, decide_eq_false_iff_not]; omega
    · rw [if_neg h0, if_neg (fun e => h0 e.symm), decide_eq_false_iff_not, decide_eq_false_iff_not]; omega
  · rw [if_neg h2, if_neg (fun e => h2 e.symm), decide_eq_false_iff_not, decide_eq_false_iff_not]; omega

theorem total_j0 (x y z : Cd) (b : Bool) (hb : b = decide (x.f2 = y.f2 ∧ x.f0 = y.f0 ∧ x.f1 = y.f1)) : Ev (fun k => computuslaw20_PrecedenceTotal.j0 k [x, y, z] (lessB x y) (lessB y x) b) true := by
  have hs := less_same x y
  have e1 : Ev (fun k => computuslaw20_PrecedenceTotal.j1 k [x, y, z] (lessB x y) false) true := by
    refine Ev.ret fun k => ?_
    simp only [computuslaw20_PrecedenceTotal.j1]
    rw [if_neg (by simp)]
    cases h1 : lessB x y with
    | false => rfl
    | true =>
      rw [if_pos rfl, if_pos (by simp), if_pos (by simp)]
      show (precedence_Precedes.f y.f0 y.f1 y.f2 y.f3 z.f0 z.f1 z.f2 z.f3).bind _ = some true
      rw [less_f y z]
      cases h2 : lessB y z with
      | false => rfl
      | true =>
        have e3 := less_f x z
        rw [wo_less.trans h1 h2] at e3
        exact (congrArg (fun o => Option.bind o fun t247 => some t247) e3 : _)
  refine Ev.step (fun k => ?_) e1
  simp only [computuslaw20_PrecedenceTotal.j0]
  cases h1 : lessB x y with
  | true =>
    have h2 := wo_less.asymm _ _ h1
    have hb2 : b = false := by rw [hb, decide_eq_false_iff_not, hs, h1]; simp
    rw [if_pos rfl, h2, if_neg (by simp), hb2]
    rfl
  | false =>
    rw [if_neg (by simp)]
    have hb2 : b = !lessB y x := by
      rw [hb]
      cases h2 : lessB y x with
      | true => exact decide_eq_false (by rw [hs, h2]; simp)
      | false => exact decide_eq_true (hs.2 ⟨h1, h2⟩)
    rw [hb2]
    cases lessB y x <;> rfl
theorem Pure.PrecedenceTotal : computuslaw20_PrecedenceTotal.Pure := by
  intro a0 a1 a2 a3 b0 b1 b2 b3 c0 c1 c2 c3 _ _ _ _ _ _ _ _ _ _ _ _
  refine Ev.rounds (g := fun k => computuslaw20_PrecedenceTotal.f k a0 a1 a2 a3 b0 b1 b2 b3 c0 c1 c2 c3) ?_
  simp only [computuslaw20_PrecedenceTotal.f]
  refine Ev.bind awake_ev ?_
  simp only [if_true]
  refine Ev.bind (fwd_f [⟨a0, a1, a2, a3⟩, ⟨b0, b1, b2, b3⟩, ⟨c0, c1, c2, c3⟩] (by simp)) ?_
  have e := total_j0 ⟨a0, a1, a2, a3⟩ ⟨b0, b1, b2, b3⟩ ⟨c0, c1, c2, c3⟩ (decide (a2 = b2 ∧ a0 = b0 ∧ a1 = b1)) rfl
  refine Ev.congr (fun k => ?_) e
  show (if (0 : Int) < 3 then if (1 : Int) < 3 then (precedence_Precedes.f a0 a1 a2 a3 b0 b1 b2 b3).bind (fun t238 => (precedence_Precedes.f b0 b1 b2 b3 a0 a1 a2 a3).bind fun t241 => if a2 = b2 then if a0 = b0 then computuslaw20_PrecedenceTotal.j0 k _ t238 t241 (a1 == b1) else computuslaw20_PrecedenceTotal.j0 k _ t238 t241 false else computuslaw20_PrecedenceTotal.j0 k _ t238 t241 false) else none else none) = _
  rw [if_pos (by omega), if_pos (by omega), less_f ⟨a0, a1, a2, a3⟩ ⟨b0, b1, b2, b3⟩, less_f ⟨b0, b1, b2, b3⟩ ⟨a0, a1, a2, a3⟩]
  simp only [Option.bind_some]
  by_cases h2 : a2 = b2
  · rw [if_pos h2]
    by_cases h0 : a0 = b0
    · rw [if_pos h0]
      have : (a1 == b1) = decide (a2 = b2 ∧ a0 = b0 ∧ a1 = b1) := by
        by_cases h1 : a1 = b1
        · rw [decide_eq_true ⟨h2, h0, h1⟩, beq_iff_eq]; exact h1
        · rw [decide_eq_false (fun h => h1 h.2.2), beq_eq_false_iff_ne]; exact h1
      rw [this]
      rfl
    · rw [if_neg h0, decide_eq_false (fun h => h0 h.2.1)]
      rfl
  · rw [if_neg h2, decide_eq_false (fun h => h2 h.1)]
    rfl
end Go.Proofs.Ytcdokompepelaaa.Q
