-- Written by wip/tool/qprint.py: the print of the kit, with hand-proved contracts put in. Lean checks it.
import Derived.Test.YtepmkfbhkifjaaaDoorQx0
import Derived.Test.YtepmkfbhkifjaaaDoorQx6
namespace Go.Proofs.YtepmkfbhkifjaaaDoor.Q
open Go.RowKit Go.Proofs.YtepmkfbhkifjaaaDoorW.PrintWords Go.Proofs.YtepmkfbhkifjaaaDoorW.PrintLast Go.Proofs.YtepmkfbhkifjaaaDoorW.PrintMore
attribute [local go_sem] max2_int min2_int max_two min_two max_three min_three max_four min_four   -- for this text's walks alone
set_option linter.unusedVariables false
set_option linter.unusedSimpArgs false

/-! ### computusref06_Solar: function 24 -/
def computusref06_Solar.f (a0 : Int) : Option (Int) := (computusref06_Century.f a0).bind fun t120 => (some (wrap64 ((wrap64 (Int.tdiv (wrap64 (3 * t120)) 4)) - 12)))
set_option maxHeartbeats 8000000 in
set_option maxRecDepth 100000 in
theorem computusref06_Solar.calls (a0 : Int) (r : Int) (w : World) (h : computusref06_Solar.f a0 = some r) :
    Calls Tryd.prog 24 #[.int .i64 a0] w fun e w' => e = .returned (.int .i64 r) ∧ Drawn0 w w' := by
  have H : ((computusref06_Century.f a0).bind fun t120 => (some (wrap64 ((wrap64 (Int.tdiv (wrap64 (3 * t120)) 4)) - 12)))) = some r := h
  clear h
  replace H := Option.bind_eq_some_iff.mp H
  obtain ⟨t120, A20, H⟩ := H
  replace H : (some (wrap64 ((wrap64 (Int.tdiv (wrap64 (3 * t120)) 4)) - 12))) = some r := H
  have A2 := Aside0.mk A20
  clear A20
  obtain rfl := Option.some.inj H
  go_enter Tryd.func24, Tryd.ntmps24
  go_wp2_with (first | ((with_reducible refine gate_callee (f := 31) rfl ?_); refine goesL_ (some 4) rfl rfl Tryd.func31 (by kernel_rfl) rfl #[.int .i64 a0] rfl (by (try simp only [List.map_toArray, List.map_cons, List.map_nil]); first | done | rfl | (simp only [List.length_drop, List.length_take]; rfl)) ?_; (with_reducible refine (computusref06_Century.calls a0 t120 _ A2.out).mono ?_); rintro e w' ⟨rfl, ⟨nd, rfl⟩⟩; refine ⟨_, rfl, ?_⟩))
  go_ret
  exact ⟨by first | rfl | (simp; done) | (simp [*]; done), by repeat (first | exact Drawn0.refl _ | apply Drawn0.step)⟩

/-! ### computusref07_Of: function 14 -/
def computusref07_Of.f (a0 : Int) (a1 : Int) : Option (Int) := (computusref06_Golden.f a1).bind fun t121 => (if a0 = 2 then ((computusref06_Golden.f a1).bind fun t122 => ((computusref06_Lunar.f a1).bind fun t123 => ((computusref06_Solar.f a1).bind fun t124 => ((computusref01_Mod.f (wrap64 ((wrap64 ((wrap64 ((wrap64 (11 * t122)) + 20)) + t123)) - t124)) 30).bind fun t125 => (if t125 = 0 then (some 30) else (some t125)))))) else ((computusref01_Mod.f (wrap64 ((wrap64 (11 * t121)) - 3)) 30).bind fun t126 => (if t126 = 0 then (some 30) else (some t126))))
set_option maxHeartbeats 8000000 in
set_option maxRecDepth 100000 in
theorem computusref07_Of.calls (a0 : Int) (a1 : Int) (r : Int) (w : World) (h : computusref07_Of.f a0 a1 = some r) :
    Calls Tryd.prog 14 #[.int .i64 a0, .int .i64 a1] w fun e w' => e = .returned (.int .i64 r) ∧ Drawn0 w w' := by
  have H : ((computusref06_Golden.f a1).bind fun t121 => (if a0 = 2 then ((computusref06_Golden.f a1).bind fun t122 => ((computusref06_Lunar.f a1).bind fun t123 => ((computusref06_Solar.f a1).bind fun t124 => ((computusref01_Mod.f (wrap64 ((wrap64 ((wrap64 ((wrap64 (11 * t122)) + 20)) + t123)) - t124)) 30).bind fun t125 => (if t125 = 0 then (some 30) else (some t125)))))) else ((computusref01_Mod.f (wrap64 ((wrap64 (11 * t121)) - 3)) 30).bind fun t126 => (if t126 = 0 then (some 30) else (some t126))))) = some r := h
  clear h
  replace H := Option.bind_eq_some_iff.mp H
  obtain ⟨t121, A30, H⟩ := H
  replace H : (if a0 = 2 then ((computusref06_Golden.f a1).bind fun t122 => ((computusref06_Lunar.f a1).bind fun t123 => ((computusref06_Solar.f a1).bind fun t124 => ((computusref01_Mod.f (wrap64 ((wrap64 ((wrap64 ((wrap64 (11 * t122)) + 20)) + t123)) - t124)) 30).bind fun t125 => (if t125 = 0 then (some 30) else (some t125)))))) else ((computusref01_Mod.f (wrap64 ((wrap64 (11 * t121)) - 3)) 30).bind fun t126 => (if t126 = 0 then (some 30) else (some t126)))) = some r := H
  have A3 := Aside0.mk A30
  clear A30
  by_cases c4 : a0 = 2
  · rw [if_pos c4] at H
    have c4b0 : (a0 == 2) = true := beq_iff_eq.mpr c4
    have c4b1 : (a0 != 2) = false := bne_eq_false_iff_eq.mpr c4
    clear c4
    replace H := Option.bind_eq_some_iff.mp H
    obtain ⟨t122, A50, H⟩ := H
    replace H : ((computusref06_Lunar.f a1).bind fun t123 => ((computusref06_Solar.f a1).bind fun t124 => ((computusref01_Mod.f (wrap64 ((wrap64 ((wrap64 ((wrap64 (11 * t122)) + 20)) + t123)) - t124)) 30).bind fun t125 => (if t125 = 0 then (some 30) else (some t125))))) = some r := H
    have A5 := Aside0.mk A50
    clear A50
    replace H := Option.bind_eq_some_iff.mp H
    obtain ⟨t123, A60, H⟩ := H
    replace H : ((computusref06_Solar.f a1).bind fun t124 => ((computusref01_Mod.f (wrap64 ((wrap64 ((wrap64 ((wrap64 (11 * t122)) + 20)) + t123)) - t124)) 30).bind fun t125 => (if t125 = 0 then (some 30) else (some t125)))) = some r := H
    have A6 := Aside0.mk A60
    clear A60
    replace H := Option.bind_eq_some_iff.mp H
    obtain ⟨t124, A70, H⟩ := H
    replace H : ((computusref01_Mod.f (wrap64 ((wrap64 ((wrap64 ((wrap64 (11 * t122)) + 20)) + t123)) - t124)) 30).bind fun t125 => (if t125 = 0 then (some 30) else (some t125))) = some r := H
    have A7 := Aside0.mk A70
    clear A70
    replace H := Option.bind_eq_some_iff.mp H
    obtain ⟨t125, A80, H⟩ := H
    replace H : (if t125 = 0 then (some 30) else (some t125)) = some r := H
    have A8 := Aside0.mk A80
    clear A80
    by_cases c9 : t125 = 0
    · rw [if_pos c9] at H
      have c9b0 : (t125 == 0) = true := beq_iff_eq.mpr c9
      have c9b1 : (t125 != 0) = false := bne_eq_false_iff_eq.mpr c9
      clear c9
      obtain rfl := Option.some.inj H
      go_enter Tryd.func14, Tryd.ntmps14
      go_wp2_with (first | ((with_reducible refine gate_callee (f := 16) rfl ?_); refine goesL_ (some 8) rfl rfl Tryd.func16 (by kernel_rfl) rfl #[.int .i64 a1] rfl (by (try simp only [List.map_toArray, List.map_cons, List.map_nil]); first | done | rfl | (simp only [List.length_drop, List.length_take]; rfl)) ?_; (with_reducible refine (computusref06_Golden.calls a1 t121 _ A3.out).mono ?_); rintro e w' ⟨rfl, ⟨nd, rfl⟩⟩; refine ⟨_, rfl, ?_⟩) | ((with_reducible refine gate_callee (f := 16) rfl ?_); refine goesL_ (some 14) rfl rfl Tryd.func16 (by kernel_rfl) rfl #[.int .i64 a1] rfl (by (try simp only [List.map_toArray, List.map_cons, List.map_nil]); first | done | rfl | (simp only [List.length_drop, List.length_take]; rfl)) ?_; (with_reducible refine (computusref06_Golden.calls a1 t122 _ A5.out).mono ?_); rintro e w' ⟨rfl, ⟨nd, rfl⟩⟩; refine ⟨_, rfl, ?_⟩) | ((with_reducible refine gate_callee (f := 23) rfl ?_); refine goesL_ (some 18) rfl rfl Tryd.func23 (by kernel_rfl) rfl #[.int .i64 a1] rfl (by (try simp only [List.map_toArray, List.map_cons, List.map_nil]); first | done | rfl | (simp only [List.length_drop, List.length_take]; rfl)) ?_; (with_reducible refine (computusref06_Lunar.calls a1 t123 _ A6.out).mono ?_); rintro e w' ⟨rfl, ⟨nd, rfl⟩⟩; refine ⟨_, rfl, ?_⟩) | ((with_reducible refine gate_callee (f := 24) rfl ?_); refine goesL_ (some 21) rfl rfl Tryd.func24 (by kernel_rfl) rfl #[.int .i64 a1] rfl (by (try simp only [List.map_toArray, List.map_cons, List.map_nil]); first | done | rfl | (simp only [List.length_drop, List.length_take]; rfl)) ?_; (with_reducible refine (computusref06_Solar.calls a1 t124 _ A7.out).mono ?_); rintro e w' ⟨rfl, ⟨nd, rfl⟩⟩; refine ⟨_, rfl, ?_⟩) | ((with_reducible refine gate_callee (f := 17) rfl ?_); refine goesL_ (some 24) rfl rfl Tryd.func17 (by kernel_rfl) rfl #[.int .i64 (wrap64 ((wrap64 ((wrap64 ((wrap64 (11 * t122)) + 20)) + t123)) - t124)), .int .i64 30] rfl (by (try simp only [List.map_toArray, List.map_cons, List.map_nil]); first | done | rfl | (simp only [List.length_drop, List.length_take]; rfl)) ?_; (with_reducible refine (computusref01_Mod.calls (wrap64 ((wrap64 ((wrap64 ((wrap64 (11 * t122)) + 20)) + t123)) - t124)) 30 t125 _ A8.out).mono ?_); rintro e w' ⟨rfl, ⟨nd, rfl⟩⟩; refine ⟨_, rfl, ?_⟩))
      go_ret
      exact ⟨by first | rfl | (simp; done) | (simp [*]; done), by repeat (first | exact Drawn0.refl _ | apply Drawn0.step)⟩
    · rw [if_neg c9] at H
      have c9b0 : (t125 == 0) = false := beq_eq_false_iff_ne.mpr c9
      have c9b1 : (t125 != 0) = true := bne_iff_ne.mpr c9
      obtain rfl := Option.some.inj H
      go_enter Tryd.func14, Tryd.ntmps14
      go_wp2_with (first | ((with_reducible refine gate_callee (f := 16) rfl ?_); refine goesL_ (some 8) rfl rfl Tryd.func16 (by kernel_rfl) rfl #[.int .i64 a1] rfl (by (try simp only [List.map_toArray, List.map_cons, List.map_nil]); first | done | rfl | (simp only [List.length_drop, List.length_take]; rfl)) ?_; (with_reducible refine (computusref06_Golden.calls a1 t121 _ A3.out).mono ?_); rintro e w' ⟨rfl, ⟨nd, rfl⟩⟩; refine ⟨_, rfl, ?_⟩) | ((with_reducible refine gate_callee (f := 16) rfl ?_); refine goesL_ (some 14) rfl rfl Tryd.func16 (by kernel_rfl) rfl #[.int .i64 a1] rfl (by (try simp only [List.map_toArray, List.map_cons, List.map_nil]); first | done | rfl | (simp only [List.length_drop, List.length_take]; rfl)) ?_; (with_reducible refine (computusref06_Golden.calls a1 t122 _ A5.out).mono ?_); rintro e w' ⟨rfl, ⟨nd, rfl⟩⟩; refine ⟨_, rfl, ?_⟩) | ((with_reducible refine gate_callee (f := 23) rfl ?_); refine goesL_ (some 18) rfl rfl Tryd.func23 (by kernel_rfl) rfl #[.int .i64 a1] rfl (by (try simp only [List.map_toArray, List.map_cons, List.map_nil]); first | done | rfl | (simp only [List.length_drop, List.length_take]; rfl)) ?_; (with_reducible refine (computusref06_Lunar.calls a1 t123 _ A6.out).mono ?_); rintro e w' ⟨rfl, ⟨nd, rfl⟩⟩; refine ⟨_, rfl, ?_⟩) | ((with_reducible refine gate_callee (f := 24) rfl ?_); refine goesL_ (some 21) rfl rfl Tryd.func24 (by kernel_rfl) rfl #[.int .i64 a1] rfl (by (try simp only [List.map_toArray, List.map_cons, List.map_nil]); first | done | rfl | (simp only [List.length_drop, List.length_take]; rfl)) ?_; (with_reducible refine (computusref06_Solar.calls a1 t124 _ A7.out).mono ?_); rintro e w' ⟨rfl, ⟨nd, rfl⟩⟩; refine ⟨_, rfl, ?_⟩) | ((with_reducible refine gate_callee (f := 17) rfl ?_); refine goesL_ (some 24) rfl rfl Tryd.func17 (by kernel_rfl) rfl #[.int .i64 (wrap64 ((wrap64 ((wrap64 ((wrap64 (11 * t122)) + 20)) + t123)) - t124)), .int .i64 30] rfl (by (try simp only [List.map_toArray, List.map_cons, List.map_nil]); first | done | rfl | (simp only [List.length_drop, List.length_take]; rfl)) ?_; (with_reducible refine (computusref01_Mod.calls (wrap64 ((wrap64 ((wrap64 ((wrap64 (11 * t122)) + 20)) + t123)) - t124)) 30 t125 _ A8.out).mono ?_); rintro e w' ⟨rfl, ⟨nd, rfl⟩⟩; refine ⟨_, rfl, ?_⟩))
      go_ret
      exact ⟨by first | rfl | (simp; done) | (simp [*]; done), by repeat (first | exact Drawn0.refl _ | apply Drawn0.step)⟩
  · rw [if_neg c4] at H
    have c4b0 : (a0 == 2) = false := beq_eq_false_iff_ne.mpr c4
    have c4b1 : (a0 != 2) = true := bne_iff_ne.mpr c4
    replace H := Option.bind_eq_some_iff.mp H
    obtain ⟨t126, A100, H⟩ := H
    replace H : (if t126 = 0 then (some 30) else (some t126)) = some r := H
    have A10 := Aside0.mk A100
    clear A100
    by_cases c11 : t126 = 0
    · rw [if_pos c11] at H
      have c11b0 : (t126 == 0) = true := beq_iff_eq.mpr c11
      have c11b1 : (t126 != 0) = false := bne_eq_false_iff_eq.mpr c11
      clear c11
      obtain rfl := Option.some.inj H
      go_enter Tryd.func14, Tryd.ntmps14
      go_wp2_with (first | ((with_reducible refine gate_callee (f := 16) rfl ?_); refine goesL_ (some 8) rfl rfl Tryd.func16 (by kernel_rfl) rfl #[.int .i64 a1] rfl (by (try simp only [List.map_toArray, List.map_cons, List.map_nil]); first | done | rfl | (simp only [List.length_drop, List.length_take]; rfl)) ?_; (with_reducible refine (computusref06_Golden.calls a1 t121 _ A3.out).mono ?_); rintro e w' ⟨rfl, ⟨nd, rfl⟩⟩; refine ⟨_, rfl, ?_⟩) | ((with_reducible refine gate_callee (f := 17) rfl ?_); refine goesL_ (some 24) rfl rfl Tryd.func17 (by kernel_rfl) rfl #[.int .i64 (wrap64 ((wrap64 (11 * t121)) - 3)), .int .i64 30] rfl (by (try simp only [List.map_toArray, List.map_cons, List.map_nil]); first | done | rfl | (simp only [List.length_drop, List.length_take]; rfl)) ?_; (with_reducible refine (computusref01_Mod.calls (wrap64 ((wrap64 (11 * t121)) - 3)) 30 t126 _ A10.out).mono ?_); rintro e w' ⟨rfl, ⟨nd, rfl⟩⟩; refine ⟨_, rfl, ?_⟩))
      go_ret
      exact ⟨by first | rfl | (simp; done) | (simp [*]; done), by repeat (first | exact Drawn0.refl _ | apply Drawn0.step)⟩
    · rw [if_neg c11] at H
      have c11b0 : (t126 == 0) = false := beq_eq_false_iff_ne.mpr c11
      have c11b1 : (t126 != 0) = true := bne_iff_ne.mpr c11
      obtain rfl := Option.some.inj H
      go_enter Tryd.func14, Tryd.ntmps14
      go_wp2_with (first | ((with_reducible refine gate_callee (f := 16) rfl ?_); refine goesL_ (some 8) rfl rfl Tryd.func16 (by kernel_rfl) rfl #[.int .i64 a1] rfl (by (try simp only [List.map_toArray, List.map_cons, List.map_nil]); first | done | rfl | (simp only [List.length_drop, List.length_take]; rfl)) ?_; (with_reducible refine (computusref06_Golden.calls a1 t121 _ A3.out).mono ?_); rintro e w' ⟨rfl, ⟨nd, rfl⟩⟩; refine ⟨_, rfl, ?_⟩) | ((with_reducible refine gate_callee (f := 17) rfl ?_); refine goesL_ (some 24) rfl rfl Tryd.func17 (by kernel_rfl) rfl #[.int .i64 (wrap64 ((wrap64 (11 * t121)) - 3)), .int .i64 30] rfl (by (try simp only [List.map_toArray, List.map_cons, List.map_nil]); first | done | rfl | (simp only [List.length_drop, List.length_take]; rfl)) ?_; (with_reducible refine (computusref01_Mod.calls (wrap64 ((wrap64 (11 * t121)) - 3)) 30 t126 _ A10.out).mono ?_); rintro e w' ⟨rfl, ⟨nd, rfl⟩⟩; refine ⟨_, rfl, ?_⟩))
      go_ret
      exact ⟨by first | rfl | (simp; done) | (simp [*]; done), by repeat (first | exact Drawn0.refl _ | apply Drawn0.step)⟩

end Go.Proofs.YtepmkfbhkifjaaaDoor.Q
