-- Written by wip/tool/qprint.py: the print of the kit, with hand-proved contracts put in. Lean checks it.
import Derived.Test.YtepmkfbhkifjaaaDoorQx0
import Derived.Test.YtepmkfbhkifjaaaDoorQx3
namespace Go.Proofs.YtepmkfbhkifjaaaDoor.Q
open Go.RowKit Go.Proofs.YtepmkfbhkifjaaaDoorW.PrintWords Go.Proofs.YtepmkfbhkifjaaaDoorW.PrintLast Go.Proofs.YtepmkfbhkifjaaaDoorW.PrintMore
attribute [local go_sem] max2_int min2_int max_two min_two max_three min_three max_four min_four   -- for this text's walks alone
set_option linter.unusedVariables false
set_option linter.unusedSimpArgs false

/-! ### computusref07_Fails: function 11 -/
def computusref07_Fails.j0 : Nat → Int → Int → Bool → Option (Int)
  | 0, _, _, _ => none
  | k + 1, x0, x1, x10 => if x10 = true then (some 3) else (if x0 = 1 then ((computusref02_In.f x1).bind fun t115 => (if t115 = true then (if x0 = 2 then ((computusref06_InGregorian.f x1).bind fun t116 => (if t116 = true then (some 0) else (some 1))) else (some 0)) else (some 1))) else (if x0 = 2 then ((computusref06_InGregorian.f x1).bind fun t117 => (if t117 = true then (some 0) else (some 1))) else (some 0)))
def computusref07_Fails.f (k : Nat) (a0 : Int) (a1 : Int) : Option (Int) := if a0 < 1 then (computusref07_Fails.j0 k a0 a1 true) else (computusref07_Fails.j0 k a0 a1 (decide (a0 > 2)))
theorem computusref07_Fails.mono_l : ∀ k, (∀ y0 y1 y2, LeO (computusref07_Fails.j0 k y0 y1 y2) (computusref07_Fails.j0 (k + 1) y0 y1 y2))
  | 0 => fun _ _ _ r h => by simp [computusref07_Fails.j0] at h
  | k + 1 => by
    have ih0 := computusref07_Fails.mono_l k
    · intro y0 y1 y2
      unfold computusref07_Fails.j0
      repeat' first
      | (with_reducible exact ih0 _ _ _)
      | (with_reducible exact LeO.refl _)
      | (with_reducible exact LeO.none _)
      | (with_reducible refine LeO.ite ?_ ?_)
      | (with_reducible refine LeO.bind ?_ (fun _ => ?_))
      | exact ih0 _ _ _
      | exact LeO.none _
      | refine LeO.ite ?_ ?_
      | refine LeO.bind ?_ (fun _ => ?_)
theorem computusref07_Fails.mono : ∀ a0 a1 k, LeO (computusref07_Fails.f k a0 a1) (computusref07_Fails.f (k + 1) a0 a1) := by
  intro a0 a1 k
  have ih0 := computusref07_Fails.mono_l k
  unfold computusref07_Fails.f
  repeat' first
      | (with_reducible exact ih0 _ _ _)
      | (with_reducible exact LeO.refl _)
      | (with_reducible exact LeO.none _)
      | (with_reducible refine LeO.ite ?_ ?_)
      | (with_reducible refine LeO.bind ?_ (fun _ => ?_))
      | exact ih0 _ _ _
      | exact LeO.none _
      | refine LeO.ite ?_ ?_
      | refine LeO.bind ?_ (fun _ => ?_)
set_option maxHeartbeats 8000000 in
set_option maxRecDepth 100000 in
theorem computusref07_Fails.calls (k : Nat) (a0 : Int) (a1 : Int) (r : Int) (w : World) (h : computusref07_Fails.f k a0 a1 = some r) :
    Calls Tryd.prog 11 #[.int .i64 a0, .int .i64 a1] w fun e w' => e = .returned (.int .i64 r) ∧ Drawn0 w w' := by
  have H : (if a0 < 1 then (computusref07_Fails.j0 k a0 a1 true) else (computusref07_Fails.j0 k a0 a1 (decide (a0 > 2)))) = some r := h
  clear h
  have HC3 := Aside0.mk H
  clear H
  go_enter Tryd.func11, Tryd.ntmps11
  go_upto_region 1 with (fail)
  go_cut [10] (fun v10 wc => ∃ (kq : Nat) (x10_2 : Bool), v10 = .bool x10_2 ∧ Aside0 (computusref07_Fails.j0 kq a0 a1 x10_2 = some r) ∧ Aside0 (kq ≤ k) ∧ Drawn0 w wc)
  case first =>
    have H := HC3.out
    clear HC3
    by_cases c4 : a0 < 1
    · rw [if_pos c4] at H
      have c4b0 : decide (a0 < 1) = true := decide_eq_true c4
      clear c4
      (first | rw [c4b0] | (simp only [i64_w, i32_w]; rw [c4b0]) | skip)
      have H' := Aside0.mk H
      clear H
      go_wp2
      go_meet
      case rel => exact ⟨_, (true), (by first | rfl | (simp; done) | (simp [*]; done)), H', ⟨by first | omega | exact Nat.le_refl _⟩, by repeat (first | exact Drawn0.refl _ | apply Drawn0.step)⟩
    · rw [if_neg c4] at H
      have c4b0 : decide (a0 < 1) = false := decide_eq_false c4
      clear c4
      (first | rw [c4b0] | (simp only [i64_w, i32_w]; rw [c4b0]) | skip)
      have H' := Aside0.mk H
      clear H
      go_wp2
      go_meet
      case rel => exact ⟨_, (decide (a0 > 2)), (by first | rfl | (simp; done) | (simp [*]; done)), H', ⟨by first | omega | exact Nat.le_refl _⟩, by repeat (first | exact Drawn0.refl _ | apply Drawn0.step)⟩
  case rest =>
    clear HC3
    try clear c1
    try clear p2
    try clear c4
    try clear c4b0
    obtain ⟨kq, x10_2, rfl, HA, HJ2, ⟨mc2, rfl⟩⟩ := hcut
    cases kq with
    | zero => exact absurd HA.out (by simp [computusref07_Fails.j0])
    | succ kj2 =>
      have H := HA.out
      clear HA
      simp only [computusref07_Fails.j0] at H
      by_cases c5 : x10_2 = true
      · subst c5
        have H1 : (some 3) = some r := by rw [if_pos rfl] at H; exact H
        clear H
        have H := H1
        clear H1
        obtain rfl := Option.some.inj H
        go_wp2
        go_ret
        exact ⟨by first | rfl | (simp; done) | (simp [*]; done), by repeat (first | exact Drawn0.refl _ | apply Drawn0.step)⟩
      · replace c5 := Bool.eq_false_iff.mpr c5
        subst c5
        have H1 : (if a0 = 1 then ((computusref02_In.f a1).bind fun t115 => (if t115 = true then (if a0 = 2 then ((computusref06_InGregorian.f a1).bind fun t116 => (if t116 = true then (some 0) else (some 1))) else (some 0)) else (some 1))) else (if a0 = 2 then ((computusref06_InGregorian.f a1).bind fun t117 => (if t117 = true then (some 0) else (some 1))) else (some 0))) = some r := by rw [if_neg (show ¬ (false = true) by decide)] at H; exact H
        clear H
        have H := H1
        clear H1
        by_cases c6 : a0 = 1
        · rw [if_pos c6] at H
          have c6b0 : (a0 == 1) = true := beq_iff_eq.mpr c6
          have c6b1 : (a0 != 1) = false := bne_eq_false_iff_eq.mpr c6
          clear c6
          replace H := Option.bind_eq_some_iff.mp H
          obtain ⟨t115, A70, H⟩ := H
          replace H : (if t115 = true then (if a0 = 2 then ((computusref06_InGregorian.f a1).bind fun t116 => (if t116 = true then (some 0) else (some 1))) else (some 0)) else (some 1)) = some r := H
          have A7 := Aside0.mk A70
          clear A70
          by_cases c8 : t115 = true
          · subst c8
            have H1 : (if a0 = 2 then ((computusref06_InGregorian.f a1).bind fun t116 => (if t116 = true then (some 0) else (some 1))) else (some 0)) = some r := by rw [if_pos rfl] at H; exact H
            clear H
            have H := H1
            clear H1
            by_cases c9 : a0 = 2
            · rw [if_pos c9] at H
              have c9b0 : (a0 == 2) = true := beq_iff_eq.mpr c9
              have c9b1 : (a0 != 2) = false := bne_eq_false_iff_eq.mpr c9
              clear c9
              replace H := Option.bind_eq_some_iff.mp H
              obtain ⟨t116, A100, H⟩ := H
              replace H : (if t116 = true then (some 0) else (some 1)) = some r := H
              have A10 := Aside0.mk A100
              clear A100
              by_cases c11 : t116 = true
              · subst c11
                have H1 : (some 0) = some r := by rw [if_pos rfl] at H; exact H
                clear H
                have H := H1
                clear H1
                obtain rfl := Option.some.inj H
                go_wp2_with (first | (go_at_call 20; (with_reducible refine (computusref02_In.calls a1 true _ A7.out).mono ?_); rintro e w' ⟨rfl, ⟨nd, rfl⟩⟩) | (go_at_call 21; (with_reducible refine (computusref06_InGregorian.calls a1 true _ A10.out).mono ?_); rintro e w' ⟨rfl, ⟨nd, rfl⟩⟩))
                go_ret
                exact ⟨by first | rfl | (simp; done) | (simp [*]; done), by repeat (first | exact Drawn0.refl _ | apply Drawn0.step)⟩
              · replace c11 := Bool.eq_false_iff.mpr c11
                subst c11
                have H1 : (some 1) = some r := by rw [if_neg (show ¬ (false = true) by decide)] at H; exact H
                clear H
                have H := H1
                clear H1
                obtain rfl := Option.some.inj H
                go_wp2_with (first | (go_at_call 20; (with_reducible refine (computusref02_In.calls a1 true _ A7.out).mono ?_); rintro e w' ⟨rfl, ⟨nd, rfl⟩⟩) | (go_at_call 21; (with_reducible refine (computusref06_InGregorian.calls a1 false _ A10.out).mono ?_); rintro e w' ⟨rfl, ⟨nd, rfl⟩⟩))
                go_ret
                exact ⟨by first | rfl | (simp; done) | (simp [*]; done), by repeat (first | exact Drawn0.refl _ | apply Drawn0.step)⟩
            · rw [if_neg c9] at H
              have c9b0 : (a0 == 2) = false := beq_eq_false_iff_ne.mpr c9
              have c9b1 : (a0 != 2) = true := bne_iff_ne.mpr c9
              obtain rfl := Option.some.inj H
              go_wp2_with (first | (go_at_call 20; (with_reducible refine (computusref02_In.calls a1 true _ A7.out).mono ?_); rintro e w' ⟨rfl, ⟨nd, rfl⟩⟩))
              go_ret
              exact ⟨by first | rfl | (simp; done) | (simp [*]; done), by repeat (first | exact Drawn0.refl _ | apply Drawn0.step)⟩
          · replace c8 := Bool.eq_false_iff.mpr c8
            subst c8
            have H1 : (some 1) = some r := by rw [if_neg (show ¬ (false = true) by decide)] at H; exact H
            clear H
            have H := H1
            clear H1
            obtain rfl := Option.some.inj H
            go_wp2_with (first | (go_at_call 20; (with_reducible refine (computusref02_In.calls a1 false _ A7.out).mono ?_); rintro e w' ⟨rfl, ⟨nd, rfl⟩⟩))
            go_ret
            exact ⟨by first | rfl | (simp; done) | (simp [*]; done), by repeat (first | exact Drawn0.refl _ | apply Drawn0.step)⟩
        · rw [if_neg c6] at H
          have c6b0 : (a0 == 1) = false := beq_eq_false_iff_ne.mpr c6
          have c6b1 : (a0 != 1) = true := bne_iff_ne.mpr c6
          by_cases c12 : a0 = 2
          · rw [if_pos c12] at H
            have c12b0 : (a0 == 2) = true := beq_iff_eq.mpr c12
            have c12b1 : (a0 != 2) = false := bne_eq_false_iff_eq.mpr c12
            clear c12
            replace H := Option.bind_eq_some_iff.mp H
            obtain ⟨t117, A130, H⟩ := H
            replace H : (if t117 = true then (some 0) else (some 1)) = some r := H
            have A13 := Aside0.mk A130
            clear A130
            by_cases c14 : t117 = true
            · subst c14
              have H1 : (some 0) = some r := by rw [if_pos rfl] at H; exact H
              clear H
              have H := H1
              clear H1
              obtain rfl := Option.some.inj H
              go_wp2_with (first | (go_at_call 21; (with_reducible refine (computusref06_InGregorian.calls a1 true _ A13.out).mono ?_); rintro e w' ⟨rfl, ⟨nd, rfl⟩⟩))
              go_ret
              exact ⟨by first | rfl | (simp; done) | (simp [*]; done), by repeat (first | exact Drawn0.refl _ | apply Drawn0.step)⟩
            · replace c14 := Bool.eq_false_iff.mpr c14
              subst c14
              have H1 : (some 1) = some r := by rw [if_neg (show ¬ (false = true) by decide)] at H; exact H
              clear H
              have H := H1
              clear H1
              obtain rfl := Option.some.inj H
              go_wp2_with (first | (go_at_call 21; (with_reducible refine (computusref06_InGregorian.calls a1 false _ A13.out).mono ?_); rintro e w' ⟨rfl, ⟨nd, rfl⟩⟩))
              go_ret
              exact ⟨by first | rfl | (simp; done) | (simp [*]; done), by repeat (first | exact Drawn0.refl _ | apply Drawn0.step)⟩
          · rw [if_neg c12] at H
            have c12b0 : (a0 == 2) = false := beq_eq_false_iff_ne.mpr c12
            have c12b1 : (a0 != 2) = true := bne_iff_ne.mpr c12
            obtain rfl := Option.some.inj H
            go_wp2
            go_ret
            exact ⟨by first | rfl | (simp; done) | (simp [*]; done), by repeat (first | exact Drawn0.refl _ | apply Drawn0.step)⟩

end Go.Proofs.YtepmkfbhkifjaaaDoor.Q
