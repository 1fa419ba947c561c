-- Written by wip/tool/qprint.py: the print of the kit, with hand-proved contracts put in. Lean checks it.
import Derived.Test.YtepmkfbhkifjaaaDoorQx0
import Derived.Test.YtepmkfbhkifjaaaDoorQx2
import Derived.Test.YtepmkfbhkifjaaaDoorQx4
import Derived.Test.YtepmkfbhkifjaaaDoorQx6
import Derived.Test.YtepmkfbhkifjaaaDoorHEpOf
namespace Go.Proofs.YtepmkfbhkifjaaaDoor.Q
open Go.RowKit Go.Proofs.YtepmkfbhkifjaaaDoorW.PrintWords Go.Proofs.YtepmkfbhkifjaaaDoorW.PrintLast Go.Proofs.YtepmkfbhkifjaaaDoorW.PrintMore
attribute [local go_sem] max2_int min2_int max_two min_two max_three min_three max_four min_four   -- for this text's walks alone
set_option linter.unusedVariables false
set_option linter.unusedSimpArgs false

/-! ### computuslaw07_EpactLabel: function 4 -/
def computuslaw07_EpactLabel.f (k : Nat) (a0 : Int) (a1 : Int) : Option (Bool) := (computuslaw07_awake.f).bind fun t139 => (if t139 = true then ((computusref07_Fails.f k (wrap64 (1 + (wrap64 (Int.tmod a0 2)))) a1).bind fun t140 => (if t140 = 0 then ((epact_Of.f (wrap64 (1 + (wrap64 (Int.tmod a0 2)))) a1).bind fun bt141 => ((epact_Label.f (wrap64 (1 + (wrap64 (Int.tmod a0 2)))) a1).bind fun bt143 => (if bt141.1 = 25 then ((computusref06_Golden.f a1).bind fun t145 => (if bt141.2 = 0 then (if bt143.2 = 0 then (if bt141.1 ≥ 1 then (if bt141.1 ≤ 30 then (if ((bt143.1 == 31) == (decide (t145 > 11))) = true then (if t145 > 11 then (if (wrap64 (1 + (wrap64 (Int.tmod a0 2)))) = 2 then (some true) else (some (bt143.1 != 31))) else (if bt143.1 = bt141.1 then (if (wrap64 (1 + (wrap64 (Int.tmod a0 2)))) = 2 then (some true) else (some (bt143.1 != 31))) else (none))) else (none)) else (none)) else (none)) else (none)) else (none))) else (if bt141.2 = 0 then (if bt143.2 = 0 then (if bt141.1 ≥ 1 then (if bt141.1 ≤ 30 then (if ((bt143.1 == 31) == false) = true then (if bt143.1 = bt141.1 then (if (wrap64 (1 + (wrap64 (Int.tmod a0 2)))) = 2 then (some true) else (some (bt143.1 != 31))) else (none)) else (none)) else (none)) else (none)) else (none)) else (none))))) else (some true))) else (none))
theorem computuslaw07_EpactLabel.mono : ∀ a0 a1 k, LeO (computuslaw07_EpactLabel.f k a0 a1) (computuslaw07_EpactLabel.f (k + 1) a0 a1) := by
  intro a0 a1 k
  unfold computuslaw07_EpactLabel.f
  repeat' first
      | (with_reducible exact computusref07_Fails.mono _ _ _)
      | (with_reducible exact LeO.refl _)
      | (with_reducible exact LeO.none _)
      | (with_reducible refine LeO.ite ?_ ?_)
      | (with_reducible refine LeO.bind ?_ (fun _ => ?_))
      | exact computusref07_Fails.mono _ _ _
      | exact LeO.none _
      | refine LeO.ite ?_ ?_
      | refine LeO.bind ?_ (fun _ => ?_)
set_option maxHeartbeats 8000000 in
set_option maxRecDepth 100000 in
theorem computuslaw07_EpactLabel.calls (k : Nat) (a0 : Int) (a1 : Int) (r : Bool) (w : World) (h : computuslaw07_EpactLabel.f k a0 a1 = some r) :
    Calls Tryd.prog 4 #[.int .u8 a0, .int .i64 a1] w fun e w' => e = .returned (.bool r) ∧ Below w.heap.size w w' := by
  have HB := Aside0.mk (Below.refl w.heap.size w)
  have H : ((computuslaw07_awake.f).bind fun t139 => (if t139 = true then ((computusref07_Fails.f k (wrap64 (1 + (wrap64 (Int.tmod a0 2)))) a1).bind fun t140 => (if t140 = 0 then ((epact_Of.f (wrap64 (1 + (wrap64 (Int.tmod a0 2)))) a1).bind fun bt141 => ((epact_Label.f (wrap64 (1 + (wrap64 (Int.tmod a0 2)))) a1).bind fun bt143 => (if bt141.1 = 25 then ((computusref06_Golden.f a1).bind fun t145 => (if bt141.2 = 0 then (if bt143.2 = 0 then (if bt141.1 ≥ 1 then (if bt141.1 ≤ 30 then (if ((bt143.1 == 31) == (decide (t145 > 11))) = true then (if t145 > 11 then (if (wrap64 (1 + (wrap64 (Int.tmod a0 2)))) = 2 then (some true) else (some (bt143.1 != 31))) else (if bt143.1 = bt141.1 then (if (wrap64 (1 + (wrap64 (Int.tmod a0 2)))) = 2 then (some true) else (some (bt143.1 != 31))) else (none))) else (none)) else (none)) else (none)) else (none)) else (none))) else (if bt141.2 = 0 then (if bt143.2 = 0 then (if bt141.1 ≥ 1 then (if bt141.1 ≤ 30 then (if ((bt143.1 == 31) == false) = true then (if bt143.1 = bt141.1 then (if (wrap64 (1 + (wrap64 (Int.tmod a0 2)))) = 2 then (some true) else (some (bt143.1 != 31))) else (none)) else (none)) else (none)) else (none)) else (none)) else (none))))) else (some true))) else (none))) = some r := h
  clear h
  replace H := Option.bind_eq_some_iff.mp H
  obtain ⟨t139, A30, H⟩ := H
  replace H : (if t139 = true then ((computusref07_Fails.f k (wrap64 (1 + (wrap64 (Int.tmod a0 2)))) a1).bind fun t140 => (if t140 = 0 then ((epact_Of.f (wrap64 (1 + (wrap64 (Int.tmod a0 2)))) a1).bind fun bt141 => ((epact_Label.f (wrap64 (1 + (wrap64 (Int.tmod a0 2)))) a1).bind fun bt143 => (if bt141.1 = 25 then ((computusref06_Golden.f a1).bind fun t145 => (if bt141.2 = 0 then (if bt143.2 = 0 then (if bt141.1 ≥ 1 then (if bt141.1 ≤ 30 then (if ((bt143.1 == 31) == (decide (t145 > 11))) = true then (if t145 > 11 then (if (wrap64 (1 + (wrap64 (Int.tmod a0 2)))) = 2 then (some true) else (some (bt143.1 != 31))) else (if bt143.1 = bt141.1 then (if (wrap64 (1 + (wrap64 (Int.tmod a0 2)))) = 2 then (some true) else (some (bt143.1 != 31))) else (none))) else (none)) else (none)) else (none)) else (none)) else (none))) else (if bt141.2 = 0 then (if bt143.2 = 0 then (if bt141.1 ≥ 1 then (if bt141.1 ≤ 30 then (if ((bt143.1 == 31) == false) = true then (if bt143.1 = bt141.1 then (if (wrap64 (1 + (wrap64 (Int.tmod a0 2)))) = 2 then (some true) else (some (bt143.1 != 31))) else (none)) else (none)) else (none)) else (none)) else (none)) else (none))))) else (some true))) else (none)) = some r := H
  have A3 := Aside0.mk A30
  clear A30
  by_cases c4 : t139 = true
  · subst c4
    have H1 : ((computusref07_Fails.f k (wrap64 (1 + (wrap64 (Int.tmod a0 2)))) a1).bind fun t140 => (if t140 = 0 then ((epact_Of.f (wrap64 (1 + (wrap64 (Int.tmod a0 2)))) a1).bind fun bt141 => ((epact_Label.f (wrap64 (1 + (wrap64 (Int.tmod a0 2)))) a1).bind fun bt143 => (if bt141.1 = 25 then ((computusref06_Golden.f a1).bind fun t145 => (if bt141.2 = 0 then (if bt143.2 = 0 then (if bt141.1 ≥ 1 then (if bt141.1 ≤ 30 then (if ((bt143.1 == 31) == (decide (t145 > 11))) = true then (if t145 > 11 then (if (wrap64 (1 + (wrap64 (Int.tmod a0 2)))) = 2 then (some true) else (some (bt143.1 != 31))) else (if bt143.1 = bt141.1 then (if (wrap64 (1 + (wrap64 (Int.tmod a0 2)))) = 2 then (some true) else (some (bt143.1 != 31))) else (none))) else (none)) else (none)) else (none)) else (none)) else (none))) else (if bt141.2 = 0 then (if bt143.2 = 0 then (if bt141.1 ≥ 1 then (if bt141.1 ≤ 30 then (if ((bt143.1 == 31) == false) = true then (if bt143.1 = bt141.1 then (if (wrap64 (1 + (wrap64 (Int.tmod a0 2)))) = 2 then (some true) else (some (bt143.1 != 31))) else (none)) else (none)) else (none)) else (none)) else (none)) else (none))))) else (some true))) = some r := by rw [if_pos rfl] at H; exact H
    clear H
    have H := H1
    clear H1
    replace H := Option.bind_eq_some_iff.mp H
    obtain ⟨t140, A50, H⟩ := H
    replace H : (if t140 = 0 then ((epact_Of.f (wrap64 (1 + (wrap64 (Int.tmod a0 2)))) a1).bind fun bt141 => ((epact_Label.f (wrap64 (1 + (wrap64 (Int.tmod a0 2)))) a1).bind fun bt143 => (if bt141.1 = 25 then ((computusref06_Golden.f a1).bind fun t145 => (if bt141.2 = 0 then (if bt143.2 = 0 then (if bt141.1 ≥ 1 then (if bt141.1 ≤ 30 then (if ((bt143.1 == 31) == (decide (t145 > 11))) = true then (if t145 > 11 then (if (wrap64 (1 + (wrap64 (Int.tmod a0 2)))) = 2 then (some true) else (some (bt143.1 != 31))) else (if bt143.1 = bt141.1 then (if (wrap64 (1 + (wrap64 (Int.tmod a0 2)))) = 2 then (some true) else (some (bt143.1 != 31))) else (none))) else (none)) else (none)) else (none)) else (none)) else (none))) else (if bt141.2 = 0 then (if bt143.2 = 0 then (if bt141.1 ≥ 1 then (if bt141.1 ≤ 30 then (if ((bt143.1 == 31) == false) = true then (if bt143.1 = bt141.1 then (if (wrap64 (1 + (wrap64 (Int.tmod a0 2)))) = 2 then (some true) else (some (bt143.1 != 31))) else (none)) else (none)) else (none)) else (none)) else (none)) else (none))))) else (some true)) = some r := H
    have A5 := Aside0.mk A50
    clear A50
    by_cases c6 : t140 = 0
    · rw [if_pos c6] at H
      have c6b0 : (t140 == 0) = true := beq_iff_eq.mpr c6
      have c6b1 : (t140 != 0) = false := bne_eq_false_iff_eq.mpr c6
      clear c6
      replace H := Option.bind_eq_some_iff.mp H
      obtain ⟨⟨t141, t142⟩, A70, H⟩ := H
      replace H : ((epact_Label.f (wrap64 (1 + (wrap64 (Int.tmod a0 2)))) a1).bind fun bt143 => (if t141 = 25 then ((computusref06_Golden.f a1).bind fun t145 => (if t142 = 0 then (if bt143.2 = 0 then (if t141 ≥ 1 then (if t141 ≤ 30 then (if ((bt143.1 == 31) == (decide (t145 > 11))) = true then (if t145 > 11 then (if (wrap64 (1 + (wrap64 (Int.tmod a0 2)))) = 2 then (some true) else (some (bt143.1 != 31))) else (if bt143.1 = t141 then (if (wrap64 (1 + (wrap64 (Int.tmod a0 2)))) = 2 then (some true) else (some (bt143.1 != 31))) else (none))) else (none)) else (none)) else (none)) else (none)) else (none))) else (if t142 = 0 then (if bt143.2 = 0 then (if t141 ≥ 1 then (if t141 ≤ 30 then (if ((bt143.1 == 31) == false) = true then (if bt143.1 = t141 then (if (wrap64 (1 + (wrap64 (Int.tmod a0 2)))) = 2 then (some true) else (some (bt143.1 != 31))) else (none)) else (none)) else (none)) else (none)) else (none)) else (none)))) = some r := H
      have A7 := Aside0.mk A70
      clear A70
      replace H := Option.bind_eq_some_iff.mp H
      obtain ⟨⟨t143, t144⟩, A80, H⟩ := H
      replace H : (if t141 = 25 then ((computusref06_Golden.f a1).bind fun t145 => (if t142 = 0 then (if t144 = 0 then (if t141 ≥ 1 then (if t141 ≤ 30 then (if ((t143 == 31) == (decide (t145 > 11))) = true then (if t145 > 11 then (if (wrap64 (1 + (wrap64 (Int.tmod a0 2)))) = 2 then (some true) else (some (t143 != 31))) else (if t143 = t141 then (if (wrap64 (1 + (wrap64 (Int.tmod a0 2)))) = 2 then (some true) else (some (t143 != 31))) else (none))) else (none)) else (none)) else (none)) else (none)) else (none))) else (if t142 = 0 then (if t144 = 0 then (if t141 ≥ 1 then (if t141 ≤ 30 then (if ((t143 == 31) == false) = true then (if t143 = t141 then (if (wrap64 (1 + (wrap64 (Int.tmod a0 2)))) = 2 then (some true) else (some (t143 != 31))) else (none)) else (none)) else (none)) else (none)) else (none)) else (none))) = some r := H
      have A8 := Aside0.mk A80
      clear A80
      by_cases c9 : t141 = 25
      · rw [if_pos c9] at H
        have c9b0 : (t141 == 25) = true := beq_iff_eq.mpr c9
        have c9b1 : (t141 != 25) = false := bne_eq_false_iff_eq.mpr c9
        clear c9
        replace H := Option.bind_eq_some_iff.mp H
        obtain ⟨t145, A100, H⟩ := H
        replace H : (if t142 = 0 then (if t144 = 0 then (if t141 ≥ 1 then (if t141 ≤ 30 then (if ((t143 == 31) == (decide (t145 > 11))) = true then (if t145 > 11 then (if (wrap64 (1 + (wrap64 (Int.tmod a0 2)))) = 2 then (some true) else (some (t143 != 31))) else (if t143 = t141 then (if (wrap64 (1 + (wrap64 (Int.tmod a0 2)))) = 2 then (some true) else (some (t143 != 31))) else (none))) else (none)) else (none)) else (none)) else (none)) else (none)) = some r := H
        have A10 := Aside0.mk A100
        clear A100
        by_cases c11 : t142 = 0
        · rw [if_pos c11] at H
          have c11b0 : (t142 == 0) = true := beq_iff_eq.mpr c11
          have c11b1 : (t142 != 0) = false := bne_eq_false_iff_eq.mpr c11
          clear c11
          by_cases c12 : t144 = 0
          · rw [if_pos c12] at H
            have c12b0 : (t144 == 0) = true := beq_iff_eq.mpr c12
            have c12b1 : (t144 != 0) = false := bne_eq_false_iff_eq.mpr c12
            clear c12
            by_cases c13 : t141 ≥ 1
            · rw [if_pos c13] at H
              have c13b0 : decide (1 ≤ t141) = true := decide_eq_true c13
              clear c13
              by_cases c14 : t141 ≤ 30
              · rw [if_pos c14] at H
                have c14b0 : decide (t141 ≤ 30) = true := decide_eq_true c14
                clear c14
                by_cases c15 : ((t143 == 31) == (decide (t145 > 11))) = true
                · rw [if_pos c15] at H
                  have c15b0 : ((t143 == 31) == (decide (t145 > 11))) = true := c15
                  (try (have c15b1 : decide ((t143 == 31) = (decide (t145 > 11))) = true := by simpa using c15))
                  (try (have c15b2 : ((t143 == 31) == (decide (t145 > 11))) = true := by simpa using c15))
                  clear c15
                  by_cases c16 : t145 > 11
                  · rw [if_pos c16] at H
                    have c16b0 : decide (11 < t145) = true := decide_eq_true c16
                    clear c16
                    by_cases c17 : (wrap64 (1 + (wrap64 (Int.tmod a0 2)))) = 2
                    · rw [if_pos c17] at H
                      have c17b0 : ((wrap64 (1 + (wrap64 (Int.tmod a0 2)))) == 2) = true := beq_iff_eq.mpr c17
                      have c17b1 : ((wrap64 (1 + (wrap64 (Int.tmod a0 2)))) != 2) = false := bne_eq_false_iff_eq.mpr c17
                      clear c17
                      obtain rfl := Option.some.inj H
                      go_enter Tryd.func4, Tryd.ntmps4
                      go_wp2_with (first | ((with_reducible refine gate_callee (f := 8) rfl ?_); refine goesL_ (some 11) rfl rfl Tryd.func8 (by kernel_rfl) rfl #[] rfl (by (try simp only [List.map_toArray, List.map_cons, List.map_nil]); first | done | rfl | (simp only [List.length_drop, List.length_take]; rfl)) ?_; (with_reducible refine (computuslaw07_awake.calls  true _ A3.out).mono ?_); rintro e w18 ⟨rfl, hb⟩; refine ⟨_, rfl, ?_⟩; have n0_ := Aside0.mk (below_step (by repeat (first | (with_reducible first | exact HB.out | apply below_alloc | apply pw_below_drewN | apply below_drew1) | exact HB.out)) hb); clear HB; have HB := n0_; clear n0_; (try clear hb); (try clear hb2); (try clear hk); (try clear hi)) | ((with_reducible refine gate_callee (f := 11) rfl ?_); refine goesL_ (some 19) rfl rfl Tryd.func11 (by kernel_rfl) rfl #[.int .i64 (wrap64 (1 + (wrap64 (Int.tmod a0 2)))), .int .i64 a1] rfl (by (try simp only [List.map_toArray, List.map_cons, List.map_nil]); first | done | rfl | (simp only [List.length_drop, List.length_take]; rfl)) ?_; (with_reducible refine (computusref07_Fails.calls k (wrap64 (1 + (wrap64 (Int.tmod a0 2)))) a1 t140 _ A5.out).mono ?_); rintro e w' ⟨rfl, ⟨nd, rfl⟩⟩; refine ⟨_, rfl, ?_⟩) | ((with_reducible refine gate_callee (f := 9) rfl ?_); refine goesL_ (some 24) rfl rfl Tryd.func9 (by kernel_rfl) rfl #[.int .i64 (wrap64 (1 + (wrap64 (Int.tmod a0 2)))), .int .i64 a1] rfl (by (try simp only [List.map_toArray, List.map_cons, List.map_nil]); first | done | rfl | (simp only [List.length_drop, List.length_take]; rfl)) ?_; (with_reducible refine (epact_Of.calls (wrap64 (1 + (wrap64 (Int.tmod a0 2)))) a1 t141 t142 _ A7.out).mono ?_); rintro e w19 ⟨rfl, hb⟩; refine ⟨_, rfl, ?_⟩; have n0_ := Aside0.mk (below_step (by repeat (first | (with_reducible first | exact HB.out | apply below_alloc | apply pw_below_drewN | apply below_drew1) | exact HB.out)) hb); clear HB; have HB := n0_; clear n0_; (try clear hb); (try clear hb2); (try clear hk); (try clear hi)) | ((with_reducible refine gate_callee (f := 10) rfl ?_); refine goesL_ (some 30) rfl rfl Tryd.func10 (by kernel_rfl) rfl #[.int .i64 (wrap64 (1 + (wrap64 (Int.tmod a0 2)))), .int .i64 a1] rfl (by (try simp only [List.map_toArray, List.map_cons, List.map_nil]); first | done | rfl | (simp only [List.length_drop, List.length_take]; rfl)) ?_; (with_reducible refine (epact_Label.calls (wrap64 (1 + (wrap64 (Int.tmod a0 2)))) a1 t143 t144 _ A8.out).mono ?_); rintro e w20 ⟨rfl, hb⟩; refine ⟨_, rfl, ?_⟩; have n0_ := Aside0.mk (below_step (by repeat (first | (with_reducible first | exact HB.out | apply below_alloc | apply pw_below_drewN | apply below_drew1) | exact HB.out)) hb); clear HB; have HB := n0_; clear n0_; (try clear hb); (try clear hb2); (try clear hk); (try clear hi)) | (go_at_call 16; (with_reducible refine (computusref06_Golden.calls a1 t145 _ A10.out).mono ?_); rintro e w' ⟨rfl, ⟨nd, rfl⟩⟩))
                      all_goals (first | (exfalso; simp_all; done) | (exfalso; simp_all; omega) | (go_ret; exact ⟨by first | rfl | (simp [errW_none, errW_some] <;> rfl) | (simp [*, errW_none, errW_some] <;> rfl), by repeat (first | (with_reducible first | exact HB.out | apply below_alloc | apply pw_below_drewN | apply below_drew1) | exact HB.out)⟩))
                    · rw [if_neg c17] at H
                      have c17b0 : ((wrap64 (1 + (wrap64 (Int.tmod a0 2)))) == 2) = false := beq_eq_false_iff_ne.mpr c17
                      have c17b1 : ((wrap64 (1 + (wrap64 (Int.tmod a0 2)))) != 2) = true := bne_iff_ne.mpr c17
                      obtain rfl := Option.some.inj H
                      go_enter Tryd.func4, Tryd.ntmps4
                      go_wp2_with (first | ((with_reducible refine gate_callee (f := 8) rfl ?_); refine goesL_ (some 11) rfl rfl Tryd.func8 (by kernel_rfl) rfl #[] rfl (by (try simp only [List.map_toArray, List.map_cons, List.map_nil]); first | done | rfl | (simp only [List.length_drop, List.length_take]; rfl)) ?_; (with_reducible refine (computuslaw07_awake.calls  true _ A3.out).mono ?_); rintro e w21 ⟨rfl, hb⟩; refine ⟨_, rfl, ?_⟩; have n0_ := Aside0.mk (below_step (by repeat (first | (with_reducible first | exact HB.out | apply below_alloc | apply pw_below_drewN | apply below_drew1) | exact HB.out)) hb); clear HB; have HB := n0_; clear n0_; (try clear hb); (try clear hb2); (try clear hk); (try clear hi)) | ((with_reducible refine gate_callee (f := 11) rfl ?_); refine goesL_ (some 19) rfl rfl Tryd.func11 (by kernel_rfl) rfl #[.int .i64 (wrap64 (1 + (wrap64 (Int.tmod a0 2)))), .int .i64 a1] rfl (by (try simp only [List.map_toArray, List.map_cons, List.map_nil]); first | done | rfl | (simp only [List.length_drop, List.length_take]; rfl)) ?_; (with_reducible refine (computusref07_Fails.calls k (wrap64 (1 + (wrap64 (Int.tmod a0 2)))) a1 t140 _ A5.out).mono ?_); rintro e w' ⟨rfl, ⟨nd, rfl⟩⟩; refine ⟨_, rfl, ?_⟩) | ((with_reducible refine gate_callee (f := 9) rfl ?_); refine goesL_ (some 24) rfl rfl Tryd.func9 (by kernel_rfl) rfl #[.int .i64 (wrap64 (1 + (wrap64 (Int.tmod a0 2)))), .int .i64 a1] rfl (by (try simp only [List.map_toArray, List.map_cons, List.map_nil]); first | done | rfl | (simp only [List.length_drop, List.length_take]; rfl)) ?_; (with_reducible refine (epact_Of.calls (wrap64 (1 + (wrap64 (Int.tmod a0 2)))) a1 t141 t142 _ A7.out).mono ?_); rintro e w22 ⟨rfl, hb⟩; refine ⟨_, rfl, ?_⟩; have n0_ := Aside0.mk (below_step (by repeat (first | (with_reducible first | exact HB.out | apply below_alloc | apply pw_below_drewN | apply below_drew1) | exact HB.out)) hb); clear HB; have HB := n0_; clear n0_; (try clear hb); (try clear hb2); (try clear hk); (try clear hi)) | ((with_reducible refine gate_callee (f := 10) rfl ?_); refine goesL_ (some 30) rfl rfl Tryd.func10 (by kernel_rfl) rfl #[.int .i64 (wrap64 (1 + (wrap64 (Int.tmod a0 2)))), .int .i64 a1] rfl (by (try simp only [List.map_toArray, List.map_cons, List.map_nil]); first | done | rfl | (simp only [List.length_drop, List.length_take]; rfl)) ?_; (with_reducible refine (epact_Label.calls (wrap64 (1 + (wrap64 (Int.tmod a0 2)))) a1 t143 t144 _ A8.out).mono ?_); rintro e w23 ⟨rfl, hb⟩; refine ⟨_, rfl, ?_⟩; have n0_ := Aside0.mk (below_step (by repeat (first | (with_reducible first | exact HB.out | apply below_alloc | apply pw_below_drewN | apply below_drew1) | exact HB.out)) hb); clear HB; have HB := n0_; clear n0_; (try clear hb); (try clear hb2); (try clear hk); (try clear hi)) | (go_at_call 16; (with_reducible refine (computusref06_Golden.calls a1 t145 _ A10.out).mono ?_); rintro e w' ⟨rfl, ⟨nd, rfl⟩⟩))
                      all_goals (first | (exfalso; simp_all; done) | (exfalso; simp_all; omega) | (go_ret; exact ⟨by first | rfl | (simp [errW_none, errW_some] <;> rfl) | (simp [*, errW_none, errW_some] <;> rfl), by repeat (first | (with_reducible first | exact HB.out | apply below_alloc | apply pw_below_drewN | apply below_drew1) | exact HB.out)⟩))
                  · rw [if_neg c16] at H
                    have c16b0 : decide (11 < t145) = false := decide_eq_false c16
                    clear c16
                    by_cases c24 : t143 = t141
                    · rw [if_pos c24] at H
                      have c24b0 : (t143 == t141) = true := beq_iff_eq.mpr c24
                      have c24b1 : (t143 != t141) = false := bne_eq_false_iff_eq.mpr c24
                      clear c24
                      by_cases c25 : (wrap64 (1 + (wrap64 (Int.tmod a0 2)))) = 2
                      · rw [if_pos c25] at H
                        have c25b0 : ((wrap64 (1 + (wrap64 (Int.tmod a0 2)))) == 2) = true := beq_iff_eq.mpr c25
                        have c25b1 : ((wrap64 (1 + (wrap64 (Int.tmod a0 2)))) != 2) = false := bne_eq_false_iff_eq.mpr c25
                        clear c25
                        obtain rfl := Option.some.inj H
                        go_enter Tryd.func4, Tryd.ntmps4
                        go_wp2_with (first | ((with_reducible refine gate_callee (f := 8) rfl ?_); refine goesL_ (some 11) rfl rfl Tryd.func8 (by kernel_rfl) rfl #[] rfl (by (try simp only [List.map_toArray, List.map_cons, List.map_nil]); first | done | rfl | (simp only [List.length_drop, List.length_take]; rfl)) ?_; (with_reducible refine (computuslaw07_awake.calls  true _ A3.out).mono ?_); rintro e w26 ⟨rfl, hb⟩; refine ⟨_, rfl, ?_⟩; have n0_ := Aside0.mk (below_step (by repeat (first | (with_reducible first | exact HB.out | apply below_alloc | apply pw_below_drewN | apply below_drew1) | exact HB.out)) hb); clear HB; have HB := n0_; clear n0_; (try clear hb); (try clear hb2); (try clear hk); (try clear hi)) | ((with_reducible refine gate_callee (f := 11) rfl ?_); refine goesL_ (some 19) rfl rfl Tryd.func11 (by kernel_rfl) rfl #[.int .i64 (wrap64 (1 + (wrap64 (Int.tmod a0 2)))), .int .i64 a1] rfl (by (try simp only [List.map_toArray, List.map_cons, List.map_nil]); first | done | rfl | (simp only [List.length_drop, List.length_take]; rfl)) ?_; (with_reducible refine (computusref07_Fails.calls k (wrap64 (1 + (wrap64 (Int.tmod a0 2)))) a1 t140 _ A5.out).mono ?_); rintro e w' ⟨rfl, ⟨nd, rfl⟩⟩; refine ⟨_, rfl, ?_⟩) | ((with_reducible refine gate_callee (f := 9) rfl ?_); refine goesL_ (some 24) rfl rfl Tryd.func9 (by kernel_rfl) rfl #[.int .i64 (wrap64 (1 + (wrap64 (Int.tmod a0 2)))), .int .i64 a1] rfl (by (try simp only [List.map_toArray, List.map_cons, List.map_nil]); first | done | rfl | (simp only [List.length_drop, List.length_take]; rfl)) ?_; (with_reducible refine (epact_Of.calls (wrap64 (1 + (wrap64 (Int.tmod a0 2)))) a1 t141 t142 _ A7.out).mono ?_); rintro e w27 ⟨rfl, hb⟩; refine ⟨_, rfl, ?_⟩; have n0_ := Aside0.mk (below_step (by repeat (first | (with_reducible first | exact HB.out | apply below_alloc | apply pw_below_drewN | apply below_drew1) | exact HB.out)) hb); clear HB; have HB := n0_; clear n0_; (try clear hb); (try clear hb2); (try clear hk); (try clear hi)) | ((with_reducible refine gate_callee (f := 10) rfl ?_); refine goesL_ (some 30) rfl rfl Tryd.func10 (by kernel_rfl) rfl #[.int .i64 (wrap64 (1 + (wrap64 (Int.tmod a0 2)))), .int .i64 a1] rfl (by (try simp only [List.map_toArray, List.map_cons, List.map_nil]); first | done | rfl | (simp only [List.length_drop, List.length_take]; rfl)) ?_; (with_reducible refine (epact_Label.calls (wrap64 (1 + (wrap64 (Int.tmod a0 2)))) a1 t143 t144 _ A8.out).mono ?_); rintro e w28 ⟨rfl, hb⟩; refine ⟨_, rfl, ?_⟩; have n0_ := Aside0.mk (below_step (by repeat (first | (with_reducible first | exact HB.out | apply below_alloc | apply pw_below_drewN | apply below_drew1) | exact HB.out)) hb); clear HB; have HB := n0_; clear n0_; (try clear hb); (try clear hb2); (try clear hk); (try clear hi)) | (go_at_call 16; (with_reducible refine (computusref06_Golden.calls a1 t145 _ A10.out).mono ?_); rintro e w' ⟨rfl, ⟨nd, rfl⟩⟩))
                        all_goals (first | (exfalso; simp_all; done) | (exfalso; simp_all; omega) | (go_ret; exact ⟨by first | rfl | (simp [errW_none, errW_some] <;> rfl) | (simp [*, errW_none, errW_some] <;> rfl), by repeat (first | (with_reducible first | exact HB.out | apply below_alloc | apply pw_below_drewN | apply below_drew1) | exact HB.out)⟩))
                      · rw [if_neg c25] at H
                        have c25b0 : ((wrap64 (1 + (wrap64 (Int.tmod a0 2)))) == 2) = false := beq_eq_false_iff_ne.mpr c25
                        have c25b1 : ((wrap64 (1 + (wrap64 (Int.tmod a0 2)))) != 2) = true := bne_iff_ne.mpr c25
                        obtain rfl := Option.some.inj H
                        go_enter Tryd.func4, Tryd.ntmps4
                        go_wp2_with (first | ((with_reducible refine gate_callee (f := 8) rfl ?_); refine goesL_ (some 11) rfl rfl Tryd.func8 (by kernel_rfl) rfl #[] rfl (by (try simp only [List.map_toArray, List.map_cons, List.map_nil]); first | done | rfl | (simp only [List.length_drop, List.length_take]; rfl)) ?_; (with_reducible refine (computuslaw07_awake.calls  true _ A3.out).mono ?_); rintro e w29 ⟨rfl, hb⟩; refine ⟨_, rfl, ?_⟩; have n0_ := Aside0.mk (below_step (by repeat (first | (with_reducible first | exact HB.out | apply below_alloc | apply pw_below_drewN | apply below_drew1) | exact HB.out)) hb); clear HB; have HB := n0_; clear n0_; (try clear hb); (try clear hb2); (try clear hk); (try clear hi)) | ((with_reducible refine gate_callee (f := 11) rfl ?_); refine goesL_ (some 19) rfl rfl Tryd.func11 (by kernel_rfl) rfl #[.int .i64 (wrap64 (1 + (wrap64 (Int.tmod a0 2)))), .int .i64 a1] rfl (by (try simp only [List.map_toArray, List.map_cons, List.map_nil]); first | done | rfl | (simp only [List.length_drop, List.length_take]; rfl)) ?_; (with_reducible refine (computusref07_Fails.calls k (wrap64 (1 + (wrap64 (Int.tmod a0 2)))) a1 t140 _ A5.out).mono ?_); rintro e w' ⟨rfl, ⟨nd, rfl⟩⟩; refine ⟨_, rfl, ?_⟩) | ((with_reducible refine gate_callee (f := 9) rfl ?_); refine goesL_ (some 24) rfl rfl Tryd.func9 (by kernel_rfl) rfl #[.int .i64 (wrap64 (1 + (wrap64 (Int.tmod a0 2)))), .int .i64 a1] rfl (by (try simp only [List.map_toArray, List.map_cons, List.map_nil]); first | done | rfl | (simp only [List.length_drop, List.length_take]; rfl)) ?_; (with_reducible refine (epact_Of.calls (wrap64 (1 + (wrap64 (Int.tmod a0 2)))) a1 t141 t142 _ A7.out).mono ?_); rintro e w30 ⟨rfl, hb⟩; refine ⟨_, rfl, ?_⟩; have n0_ := Aside0.mk (below_step (by repeat (first | (with_reducible first | exact HB.out | apply below_alloc | apply pw_below_drewN | apply below_drew1) | exact HB.out)) hb); clear HB; have HB := n0_; clear n0_; (try clear hb); (try clear hb2); (try clear hk); (try clear hi)) | ((with_reducible refine gate_callee (f := 10) rfl ?_); refine goesL_ (some 30) rfl rfl Tryd.func10 (by kernel_rfl) rfl #[.int .i64 (wrap64 (1 + (wrap64 (Int.tmod a0 2)))), .int .i64 a1] rfl (by (try simp only [List.map_toArray, List.map_cons, List.map_nil]); first | done | rfl | (simp only [List.length_drop, List.length_take]; rfl)) ?_; (with_reducible refine (epact_Label.calls (wrap64 (1 + (wrap64 (Int.tmod a0 2)))) a1 t143 t144 _ A8.out).mono ?_); rintro e w31 ⟨rfl, hb⟩; refine ⟨_, rfl, ?_⟩; have n0_ := Aside0.mk (below_step (by repeat (first | (with_reducible first | exact HB.out | apply below_alloc | apply pw_below_drewN | apply below_drew1) | exact HB.out)) hb); clear HB; have HB := n0_; clear n0_; (try clear hb); (try clear hb2); (try clear hk); (try clear hi)) | (go_at_call 16; (with_reducible refine (computusref06_Golden.calls a1 t145 _ A10.out).mono ?_); rintro e w' ⟨rfl, ⟨nd, rfl⟩⟩))
                        all_goals (first | (exfalso; simp_all; done) | (exfalso; simp_all; omega) | (go_ret; exact ⟨by first | rfl | (simp [errW_none, errW_some] <;> rfl) | (simp [*, errW_none, errW_some] <;> rfl), by repeat (first | (with_reducible first | exact HB.out | apply below_alloc | apply pw_below_drewN | apply below_drew1) | exact HB.out)⟩))
                    · rw [if_neg c24] at H
                      exact absurd H (by simp)
                · rw [if_neg c15] at H
                  exact absurd H (by simp)
              · rw [if_neg c14] at H
                exact absurd H (by simp)
            · rw [if_neg c13] at H
              exact absurd H (by simp)
          · rw [if_neg c12] at H
            exact absurd H (by simp)
        · rw [if_neg c11] at H
          exact absurd H (by simp)
      · rw [if_neg c9] at H
        have c9b0 : (t141 == 25) = false := beq_eq_false_iff_ne.mpr c9
        have c9b1 : (t141 != 25) = true := bne_iff_ne.mpr c9
        by_cases c32 : t142 = 0
        · rw [if_pos c32] at H
          have c32b0 : (t142 == 0) = true := beq_iff_eq.mpr c32
          have c32b1 : (t142 != 0) = false := bne_eq_false_iff_eq.mpr c32
          clear c32
          by_cases c33 : t144 = 0
          · rw [if_pos c33] at H
            have c33b0 : (t144 == 0) = true := beq_iff_eq.mpr c33
            have c33b1 : (t144 != 0) = false := bne_eq_false_iff_eq.mpr c33
            clear c33
            by_cases c34 : t141 ≥ 1
            · rw [if_pos c34] at H
              have c34b0 : decide (1 ≤ t141) = true := decide_eq_true c34
              clear c34
              by_cases c35 : t141 ≤ 30
              · rw [if_pos c35] at H
                have c35b0 : decide (t141 ≤ 30) = true := decide_eq_true c35
                clear c35
                by_cases c36 : ((t143 == 31) == false) = true
                · rw [if_pos c36] at H
                  have c36b0 : ((t143 == 31) == false) = true := c36
                  (try (have c36b1 : decide ((t143 == 31) = false) = true := by simpa using c36))
                  (try (have c36b2 : ((t143 == 31) == false) = true := by simpa using c36))
                  clear c36
                  by_cases c37 : t143 = t141
                  · rw [if_pos c37] at H
                    have c37b0 : (t143 == t141) = true := beq_iff_eq.mpr c37
                    have c37b1 : (t143 != t141) = false := bne_eq_false_iff_eq.mpr c37
                    clear c37
                    by_cases c38 : (wrap64 (1 + (wrap64 (Int.tmod a0 2)))) = 2
                    · rw [if_pos c38] at H
                      have c38b0 : ((wrap64 (1 + (wrap64 (Int.tmod a0 2)))) == 2) = true := beq_iff_eq.mpr c38
                      have c38b1 : ((wrap64 (1 + (wrap64 (Int.tmod a0 2)))) != 2) = false := bne_eq_false_iff_eq.mpr c38
                      clear c38
                      obtain rfl := Option.some.inj H
                      go_enter Tryd.func4, Tryd.ntmps4
                      go_wp2_with (first | ((with_reducible refine gate_callee (f := 8) rfl ?_); refine goesL_ (some 11) rfl rfl Tryd.func8 (by kernel_rfl) rfl #[] rfl (by (try simp only [List.map_toArray, List.map_cons, List.map_nil]); first | done | rfl | (simp only [List.length_drop, List.length_take]; rfl)) ?_; (with_reducible refine (computuslaw07_awake.calls  true _ A3.out).mono ?_); rintro e w39 ⟨rfl, hb⟩; refine ⟨_, rfl, ?_⟩; have n0_ := Aside0.mk (below_step (by repeat (first | (with_reducible first | exact HB.out | apply below_alloc | apply pw_below_drewN | apply below_drew1) | exact HB.out)) hb); clear HB; have HB := n0_; clear n0_; (try clear hb); (try clear hb2); (try clear hk); (try clear hi)) | ((with_reducible refine gate_callee (f := 11) rfl ?_); refine goesL_ (some 19) rfl rfl Tryd.func11 (by kernel_rfl) rfl #[.int .i64 (wrap64 (1 + (wrap64 (Int.tmod a0 2)))), .int .i64 a1] rfl (by (try simp only [List.map_toArray, List.map_cons, List.map_nil]); first | done | rfl | (simp only [List.length_drop, List.length_take]; rfl)) ?_; (with_reducible refine (computusref07_Fails.calls k (wrap64 (1 + (wrap64 (Int.tmod a0 2)))) a1 t140 _ A5.out).mono ?_); rintro e w' ⟨rfl, ⟨nd, rfl⟩⟩; refine ⟨_, rfl, ?_⟩) | ((with_reducible refine gate_callee (f := 9) rfl ?_); refine goesL_ (some 24) rfl rfl Tryd.func9 (by kernel_rfl) rfl #[.int .i64 (wrap64 (1 + (wrap64 (Int.tmod a0 2)))), .int .i64 a1] rfl (by (try simp only [List.map_toArray, List.map_cons, List.map_nil]); first | done | rfl | (simp only [List.length_drop, List.length_take]; rfl)) ?_; (with_reducible refine (epact_Of.calls (wrap64 (1 + (wrap64 (Int.tmod a0 2)))) a1 t141 t142 _ A7.out).mono ?_); rintro e w40 ⟨rfl, hb⟩; refine ⟨_, rfl, ?_⟩; have n0_ := Aside0.mk (below_step (by repeat (first | (with_reducible first | exact HB.out | apply below_alloc | apply pw_below_drewN | apply below_drew1) | exact HB.out)) hb); clear HB; have HB := n0_; clear n0_; (try clear hb); (try clear hb2); (try clear hk); (try clear hi)) | ((with_reducible refine gate_callee (f := 10) rfl ?_); refine goesL_ (some 30) rfl rfl Tryd.func10 (by kernel_rfl) rfl #[.int .i64 (wrap64 (1 + (wrap64 (Int.tmod a0 2)))), .int .i64 a1] rfl (by (try simp only [List.map_toArray, List.map_cons, List.map_nil]); first | done | rfl | (simp only [List.length_drop, List.length_take]; rfl)) ?_; (with_reducible refine (epact_Label.calls (wrap64 (1 + (wrap64 (Int.tmod a0 2)))) a1 t143 t144 _ A8.out).mono ?_); rintro e w41 ⟨rfl, hb⟩; refine ⟨_, rfl, ?_⟩; have n0_ := Aside0.mk (below_step (by repeat (first | (with_reducible first | exact HB.out | apply below_alloc | apply pw_below_drewN | apply below_drew1) | exact HB.out)) hb); clear HB; have HB := n0_; clear n0_; (try clear hb); (try clear hb2); (try clear hk); (try clear hi)))
                      all_goals (first | (exfalso; simp_all; done) | (exfalso; simp_all; omega) | (go_ret; exact ⟨by first | rfl | (simp [errW_none, errW_some] <;> rfl) | (simp [*, errW_none, errW_some] <;> rfl), by repeat (first | (with_reducible first | exact HB.out | apply below_alloc | apply pw_below_drewN | apply below_drew1) | exact HB.out)⟩))
                    · rw [if_neg c38] at H
                      have c38b0 : ((wrap64 (1 + (wrap64 (Int.tmod a0 2)))) == 2) = false := beq_eq_false_iff_ne.mpr c38
                      have c38b1 : ((wrap64 (1 + (wrap64 (Int.tmod a0 2)))) != 2) = true := bne_iff_ne.mpr c38
                      obtain rfl := Option.some.inj H
                      go_enter Tryd.func4, Tryd.ntmps4
                      go_wp2_with (first | ((with_reducible refine gate_callee (f := 8) rfl ?_); refine goesL_ (some 11) rfl rfl Tryd.func8 (by kernel_rfl) rfl #[] rfl (by (try simp only [List.map_toArray, List.map_cons, List.map_nil]); first | done | rfl | (simp only [List.length_drop, List.length_take]; rfl)) ?_; (with_reducible refine (computuslaw07_awake.calls  true _ A3.out).mono ?_); rintro e w42 ⟨rfl, hb⟩; refine ⟨_, rfl, ?_⟩; have n0_ := Aside0.mk (below_step (by repeat (first | (with_reducible first | exact HB.out | apply below_alloc | apply pw_below_drewN | apply below_drew1) | exact HB.out)) hb); clear HB; have HB := n0_; clear n0_; (try clear hb); (try clear hb2); (try clear hk); (try clear hi)) | ((with_reducible refine gate_callee (f := 11) rfl ?_); refine goesL_ (some 19) rfl rfl Tryd.func11 (by kernel_rfl) rfl #[.int .i64 (wrap64 (1 + (wrap64 (Int.tmod a0 2)))), .int .i64 a1] rfl (by (try simp only [List.map_toArray, List.map_cons, List.map_nil]); first | done | rfl | (simp only [List.length_drop, List.length_take]; rfl)) ?_; (with_reducible refine (computusref07_Fails.calls k (wrap64 (1 + (wrap64 (Int.tmod a0 2)))) a1 t140 _ A5.out).mono ?_); rintro e w' ⟨rfl, ⟨nd, rfl⟩⟩; refine ⟨_, rfl, ?_⟩) | ((with_reducible refine gate_callee (f := 9) rfl ?_); refine goesL_ (some 24) rfl rfl Tryd.func9 (by kernel_rfl) rfl #[.int .i64 (wrap64 (1 + (wrap64 (Int.tmod a0 2)))), .int .i64 a1] rfl (by (try simp only [List.map_toArray, List.map_cons, List.map_nil]); first | done | rfl | (simp only [List.length_drop, List.length_take]; rfl)) ?_; (with_reducible refine (epact_Of.calls (wrap64 (1 + (wrap64 (Int.tmod a0 2)))) a1 t141 t142 _ A7.out).mono ?_); rintro e w43 ⟨rfl, hb⟩; refine ⟨_, rfl, ?_⟩; have n0_ := Aside0.mk (below_step (by repeat (first | (with_reducible first | exact HB.out | apply below_alloc | apply pw_below_drewN | apply below_drew1) | exact HB.out)) hb); clear HB; have HB := n0_; clear n0_; (try clear hb); (try clear hb2); (try clear hk); (try clear hi)) | ((with_reducible refine gate_callee (f := 10) rfl ?_); refine goesL_ (some 30) rfl rfl Tryd.func10 (by kernel_rfl) rfl #[.int .i64 (wrap64 (1 + (wrap64 (Int.tmod a0 2)))), .int .i64 a1] rfl (by (try simp only [List.map_toArray, List.map_cons, List.map_nil]); first | done | rfl | (simp only [List.length_drop, List.length_take]; rfl)) ?_; (with_reducible refine (epact_Label.calls (wrap64 (1 + (wrap64 (Int.tmod a0 2)))) a1 t143 t144 _ A8.out).mono ?_); rintro e w44 ⟨rfl, hb⟩; refine ⟨_, rfl, ?_⟩; have n0_ := Aside0.mk (below_step (by repeat (first | (with_reducible first | exact HB.out | apply below_alloc | apply pw_below_drewN | apply below_drew1) | exact HB.out)) hb); clear HB; have HB := n0_; clear n0_; (try clear hb); (try clear hb2); (try clear hk); (try clear hi)))
                      all_goals (first | (exfalso; simp_all; done) | (exfalso; simp_all; omega) | (go_ret; exact ⟨by first | rfl | (simp [errW_none, errW_some] <;> rfl) | (simp [*, errW_none, errW_some] <;> rfl), by repeat (first | (with_reducible first | exact HB.out | apply below_alloc | apply pw_below_drewN | apply below_drew1) | exact HB.out)⟩))
                  · rw [if_neg c37] at H
                    exact absurd H (by simp)
                · rw [if_neg c36] at H
                  exact absurd H (by simp)
              · rw [if_neg c35] at H
                exact absurd H (by simp)
            · rw [if_neg c34] at H
              exact absurd H (by simp)
          · rw [if_neg c33] at H
            exact absurd H (by simp)
        · rw [if_neg c32] at H
          exact absurd H (by simp)
    · rw [if_neg c6] at H
      have c6b0 : (t140 == 0) = false := beq_eq_false_iff_ne.mpr c6
      have c6b1 : (t140 != 0) = true := bne_iff_ne.mpr c6
      obtain rfl := Option.some.inj H
      go_enter Tryd.func4, Tryd.ntmps4
      go_wp2_with (first | ((with_reducible refine gate_callee (f := 8) rfl ?_); refine goesL_ (some 11) rfl rfl Tryd.func8 (by kernel_rfl) rfl #[] rfl (by (try simp only [List.map_toArray, List.map_cons, List.map_nil]); first | done | rfl | (simp only [List.length_drop, List.length_take]; rfl)) ?_; (with_reducible refine (computuslaw07_awake.calls  true _ A3.out).mono ?_); rintro e w45 ⟨rfl, hb⟩; refine ⟨_, rfl, ?_⟩; have n0_ := Aside0.mk (below_step (by repeat (first | (with_reducible first | exact HB.out | apply below_alloc | apply pw_below_drewN | apply below_drew1) | exact HB.out)) hb); clear HB; have HB := n0_; clear n0_; (try clear hb); (try clear hb2); (try clear hk); (try clear hi)) | ((with_reducible refine gate_callee (f := 11) rfl ?_); refine goesL_ (some 19) rfl rfl Tryd.func11 (by kernel_rfl) rfl #[.int .i64 (wrap64 (1 + (wrap64 (Int.tmod a0 2)))), .int .i64 a1] rfl (by (try simp only [List.map_toArray, List.map_cons, List.map_nil]); first | done | rfl | (simp only [List.length_drop, List.length_take]; rfl)) ?_; (with_reducible refine (computusref07_Fails.calls k (wrap64 (1 + (wrap64 (Int.tmod a0 2)))) a1 t140 _ A5.out).mono ?_); rintro e w' ⟨rfl, ⟨nd, rfl⟩⟩; refine ⟨_, rfl, ?_⟩))
      all_goals (first | (exfalso; simp_all; done) | (exfalso; simp_all; omega) | (go_ret; exact ⟨by first | rfl | (simp [errW_none, errW_some] <;> rfl) | (simp [*, errW_none, errW_some] <;> rfl), by repeat (first | (with_reducible first | exact HB.out | apply below_alloc | apply pw_below_drewN | apply below_drew1) | exact HB.out)⟩))
  · replace c4 := Bool.eq_false_iff.mpr c4
    subst c4
    have H1 : (none) = some r := by rw [if_neg (show ¬ (false = true) by decide)] at H; exact H
    clear H
    have H := H1
    clear H1
    exact absurd H (by simp)

def computuslaw07_EpactLabel.Pure : Prop := ∀ (a0 : Int) (a1 : Int), (Lit.int .u8 a0).wf = true → (Lit.int .i64 a1).wf = true → ∃ k, computuslaw07_EpactLabel.f k a0 a1 = some true

end Go.Proofs.YtepmkfbhkifjaaaDoor.Q
