-- Written by wip/tool/qprint.py: the print of the kit, with hand-proved contracts put in. Lean checks it.
import Derived.Test.YtepmkfbhkifjaaaDoorQx0
import Derived.Test.YtepmkfbhkifjaaaDoorHEpOf
namespace Go.Proofs.YtepmkfbhkifjaaaDoor.Q
open Go.RowKit Go.Proofs.YtepmkfbhkifjaaaDoorW.PrintWords Go.Proofs.YtepmkfbhkifjaaaDoorW.PrintLast Go.Proofs.YtepmkfbhkifjaaaDoorW.PrintMore
attribute [local go_sem] max2_int min2_int max_two min_two max_three min_three max_four min_four   -- for this text's walks alone
set_option linter.unusedVariables false
set_option linter.unusedSimpArgs false

/-! ### computuslaw07_awake: function 8 -/
def computuslaw07_awake.f  : Option (Bool) := (epact_Of.f 2 2000).bind fun bt101 => ((epact_Of.f 1 2000).bind fun bt103 => ((epact_Label.f 2 1916).bind fun bt105 => ((epact_Label.f 2 1582).bind fun bt107 => ((epact_Of.f 3 2000).bind fun bt109 => (if bt101.1 = 24 then (if bt101.2 = 0 then (if bt103.1 = 3 then (if bt103.2 = 0 then (if bt105.1 = 31 then (if bt105.2 = 0 then (if bt107.2 = 1 then (if bt109.2 = 3 then ((epact_Name.f 31).bind fun t111 => (if t111.toList = ([50, 53, 39] : List UInt8) then ((epact_Name.f 30).bind fun t112 => (if t112.toList = ([42] : List UInt8) then ((epact_Name.f 7).bind fun t113 => (if t113.toList = ([55] : List UInt8) then ((epact_Name.f 0).bind fun t114 => (some (t114.toList == ([] : List UInt8)))) else (none))) else (none))) else (none))) else (none)) else (none)) else (none)) else (none)) else (none)) else (none)) else (none)) else (none))))))
set_option maxHeartbeats 8000000 in
set_option maxRecDepth 100000 in
theorem computuslaw07_awake.calls  (r : Bool) (w : World) (h : computuslaw07_awake.f  = some r) :
    Calls Tryd.prog 8 #[] w fun e w' => e = .returned (.bool r) ∧ Below w.heap.size w w' := by
  have HB := Aside0.mk (Below.refl w.heap.size w)
  have H : ((epact_Of.f 2 2000).bind fun bt101 => ((epact_Of.f 1 2000).bind fun bt103 => ((epact_Label.f 2 1916).bind fun bt105 => ((epact_Label.f 2 1582).bind fun bt107 => ((epact_Of.f 3 2000).bind fun bt109 => (if bt101.1 = 24 then (if bt101.2 = 0 then (if bt103.1 = 3 then (if bt103.2 = 0 then (if bt105.1 = 31 then (if bt105.2 = 0 then (if bt107.2 = 1 then (if bt109.2 = 3 then ((epact_Name.f 31).bind fun t111 => (if t111.toList = ([50, 53, 39] : List UInt8) then ((epact_Name.f 30).bind fun t112 => (if t112.toList = ([42] : List UInt8) then ((epact_Name.f 7).bind fun t113 => (if t113.toList = ([55] : List UInt8) then ((epact_Name.f 0).bind fun t114 => (some (t114.toList == ([] : List UInt8)))) else (none))) else (none))) else (none))) else (none)) else (none)) else (none)) else (none)) else (none)) else (none)) else (none)) else (none))))))) = some r := h
  clear h
  replace H := Option.bind_eq_some_iff.mp H
  obtain ⟨⟨t101, t102⟩, A10, H⟩ := H
  replace H : ((epact_Of.f 1 2000).bind fun bt103 => ((epact_Label.f 2 1916).bind fun bt105 => ((epact_Label.f 2 1582).bind fun bt107 => ((epact_Of.f 3 2000).bind fun bt109 => (if t101 = 24 then (if t102 = 0 then (if bt103.1 = 3 then (if bt103.2 = 0 then (if bt105.1 = 31 then (if bt105.2 = 0 then (if bt107.2 = 1 then (if bt109.2 = 3 then ((epact_Name.f 31).bind fun t111 => (if t111.toList = ([50, 53, 39] : List UInt8) then ((epact_Name.f 30).bind fun t112 => (if t112.toList = ([42] : List UInt8) then ((epact_Name.f 7).bind fun t113 => (if t113.toList = ([55] : List UInt8) then ((epact_Name.f 0).bind fun t114 => (some (t114.toList == ([] : List UInt8)))) else (none))) else (none))) else (none))) else (none)) else (none)) else (none)) else (none)) else (none)) else (none)) else (none)) else (none)))))) = some r := H
  have A1 := Aside0.mk A10
  clear A10
  replace H := Option.bind_eq_some_iff.mp H
  obtain ⟨⟨t103, t104⟩, A20, H⟩ := H
  replace H : ((epact_Label.f 2 1916).bind fun bt105 => ((epact_Label.f 2 1582).bind fun bt107 => ((epact_Of.f 3 2000).bind fun bt109 => (if t101 = 24 then (if t102 = 0 then (if t103 = 3 then (if t104 = 0 then (if bt105.1 = 31 then (if bt105.2 = 0 then (if bt107.2 = 1 then (if bt109.2 = 3 then ((epact_Name.f 31).bind fun t111 => (if t111.toList = ([50, 53, 39] : List UInt8) then ((epact_Name.f 30).bind fun t112 => (if t112.toList = ([42] : List UInt8) then ((epact_Name.f 7).bind fun t113 => (if t113.toList = ([55] : List UInt8) then ((epact_Name.f 0).bind fun t114 => (some (t114.toList == ([] : List UInt8)))) else (none))) else (none))) else (none))) else (none)) else (none)) else (none)) else (none)) else (none)) else (none)) else (none)) else (none))))) = some r := H
  have A2 := Aside0.mk A20
  clear A20
  replace H := Option.bind_eq_some_iff.mp H
  obtain ⟨⟨t105, t106⟩, A30, H⟩ := H
  replace H : ((epact_Label.f 2 1582).bind fun bt107 => ((epact_Of.f 3 2000).bind fun bt109 => (if t101 = 24 then (if t102 = 0 then (if t103 = 3 then (if t104 = 0 then (if t105 = 31 then (if t106 = 0 then (if bt107.2 = 1 then (if bt109.2 = 3 then ((epact_Name.f 31).bind fun t111 => (if t111.toList = ([50, 53, 39] : List UInt8) then ((epact_Name.f 30).bind fun t112 => (if t112.toList = ([42] : List UInt8) then ((epact_Name.f 7).bind fun t113 => (if t113.toList = ([55] : List UInt8) then ((epact_Name.f 0).bind fun t114 => (some (t114.toList == ([] : List UInt8)))) else (none))) else (none))) else (none))) else (none)) else (none)) else (none)) else (none)) else (none)) else (none)) else (none)) else (none)))) = some r := H
  have A3 := Aside0.mk A30
  clear A30
  replace H := Option.bind_eq_some_iff.mp H
  obtain ⟨⟨t107, t108⟩, A40, H⟩ := H
  replace H : ((epact_Of.f 3 2000).bind fun bt109 => (if t101 = 24 then (if t102 = 0 then (if t103 = 3 then (if t104 = 0 then (if t105 = 31 then (if t106 = 0 then (if t108 = 1 then (if bt109.2 = 3 then ((epact_Name.f 31).bind fun t111 => (if t111.toList = ([50, 53, 39] : List UInt8) then ((epact_Name.f 30).bind fun t112 => (if t112.toList = ([42] : List UInt8) then ((epact_Name.f 7).bind fun t113 => (if t113.toList = ([55] : List UInt8) then ((epact_Name.f 0).bind fun t114 => (some (t114.toList == ([] : List UInt8)))) else (none))) else (none))) else (none))) else (none)) else (none)) else (none)) else (none)) else (none)) else (none)) else (none)) else (none))) = some r := H
  have A4 := Aside0.mk A40
  clear A40
  replace H := Option.bind_eq_some_iff.mp H
  obtain ⟨⟨t109, t110⟩, A50, H⟩ := H
  replace H : (if t101 = 24 then (if t102 = 0 then (if t103 = 3 then (if t104 = 0 then (if t105 = 31 then (if t106 = 0 then (if t108 = 1 then (if t110 = 3 then ((epact_Name.f 31).bind fun t111 => (if t111.toList = ([50, 53, 39] : List UInt8) then ((epact_Name.f 30).bind fun t112 => (if t112.toList = ([42] : List UInt8) then ((epact_Name.f 7).bind fun t113 => (if t113.toList = ([55] : List UInt8) then ((epact_Name.f 0).bind fun t114 => (some (t114.toList == ([] : List UInt8)))) else (none))) else (none))) else (none))) else (none)) else (none)) else (none)) else (none)) else (none)) else (none)) else (none)) else (none)) = some r := H
  have A5 := Aside0.mk A50
  clear A50
  by_cases c6 : t101 = 24
  · rw [if_pos c6] at H
    have c6b0 : (t101 == 24) = true := beq_iff_eq.mpr c6
    have c6b1 : (t101 != 24) = false := bne_eq_false_iff_eq.mpr c6
    clear c6
    by_cases c7 : t102 = 0
    · rw [if_pos c7] at H
      have c7b0 : (t102 == 0) = true := beq_iff_eq.mpr c7
      have c7b1 : (t102 != 0) = false := bne_eq_false_iff_eq.mpr c7
      clear c7
      by_cases c8 : t103 = 3
      · rw [if_pos c8] at H
        have c8b0 : (t103 == 3) = true := beq_iff_eq.mpr c8
        have c8b1 : (t103 != 3) = false := bne_eq_false_iff_eq.mpr c8
        clear c8
        by_cases c9 : t104 = 0
        · rw [if_pos c9] at H
          have c9b0 : (t104 == 0) = true := beq_iff_eq.mpr c9
          have c9b1 : (t104 != 0) = false := bne_eq_false_iff_eq.mpr c9
          clear c9
          by_cases c10 : t105 = 31
          · rw [if_pos c10] at H
            have c10b0 : (t105 == 31) = true := beq_iff_eq.mpr c10
            have c10b1 : (t105 != 31) = false := bne_eq_false_iff_eq.mpr c10
            clear c10
            by_cases c11 : t106 = 0
            · rw [if_pos c11] at H
              have c11b0 : (t106 == 0) = true := beq_iff_eq.mpr c11
              have c11b1 : (t106 != 0) = false := bne_eq_false_iff_eq.mpr c11
              clear c11
              by_cases c12 : t108 = 1
              · rw [if_pos c12] at H
                have c12b0 : (t108 == 1) = true := beq_iff_eq.mpr c12
                have c12b1 : (t108 != 1) = false := bne_eq_false_iff_eq.mpr c12
                clear c12
                by_cases c13 : t110 = 3
                · rw [if_pos c13] at H
                  have c13b0 : (t110 == 3) = true := beq_iff_eq.mpr c13
                  have c13b1 : (t110 != 3) = false := bne_eq_false_iff_eq.mpr c13
                  clear c13
                  replace H := Option.bind_eq_some_iff.mp H
                  obtain ⟨t111, A140, H⟩ := H
                  replace H : (if t111.toList = ([50, 53, 39] : List UInt8) then ((epact_Name.f 30).bind fun t112 => (if t112.toList = ([42] : List UInt8) then ((epact_Name.f 7).bind fun t113 => (if t113.toList = ([55] : List UInt8) then ((epact_Name.f 0).bind fun t114 => (some (t114.toList == ([] : List UInt8)))) else (none))) else (none))) else (none)) = some r := H
                  have A14 := Aside0.mk A140
                  clear A140
                  by_cases c15 : t111.toList = ([50, 53, 39] : List UInt8)
                  · rw [if_pos c15] at H
                    have c15b0 : (t111.toList == ([50, 53, 39] : List UInt8)) = true := beq_iff_eq.mpr c15
                    have c15b1 : (t111.toList != ([50, 53, 39] : List UInt8)) = false := bne_eq_false_iff_eq.mpr c15
                    clear c15
                    replace H := Option.bind_eq_some_iff.mp H
                    obtain ⟨t112, A160, H⟩ := H
                    replace H : (if t112.toList = ([42] : List UInt8) then ((epact_Name.f 7).bind fun t113 => (if t113.toList = ([55] : List UInt8) then ((epact_Name.f 0).bind fun t114 => (some (t114.toList == ([] : List UInt8)))) else (none))) else (none)) = some r := H
                    have A16 := Aside0.mk A160
                    clear A160
                    by_cases c17 : t112.toList = ([42] : List UInt8)
                    · rw [if_pos c17] at H
                      have c17b0 : (t112.toList == ([42] : List UInt8)) = true := beq_iff_eq.mpr c17
                      have c17b1 : (t112.toList != ([42] : List UInt8)) = false := bne_eq_false_iff_eq.mpr c17
                      clear c17
                      replace H := Option.bind_eq_some_iff.mp H
                      obtain ⟨t113, A180, H⟩ := H
                      replace H : (if t113.toList = ([55] : List UInt8) then ((epact_Name.f 0).bind fun t114 => (some (t114.toList == ([] : List UInt8)))) else (none)) = some r := H
                      have A18 := Aside0.mk A180
                      clear A180
                      by_cases c19 : t113.toList = ([55] : List UInt8)
                      · rw [if_pos c19] at H
                        have c19b0 : (t113.toList == ([55] : List UInt8)) = true := beq_iff_eq.mpr c19
                        have c19b1 : (t113.toList != ([55] : List UInt8)) = false := bne_eq_false_iff_eq.mpr c19
                        clear c19
                        replace H := Option.bind_eq_some_iff.mp H
                        obtain ⟨t114, A200, H⟩ := H
                        replace H : (some (t114.toList == ([] : List UInt8))) = some r := H
                        have A20 := Aside0.mk A200
                        clear A200
                        obtain rfl := Option.some.inj H
                        go_enter Tryd.func8, Tryd.ntmps8
                        go_wp2_with (first | ((with_reducible refine gate_callee (f := 9) rfl ?_); refine goesL_ (some 12) rfl rfl Tryd.func9 (by kernel_rfl) rfl #[.int .i64 2, .int .i64 2000] rfl (by (try simp only [List.map_toArray, List.map_cons, List.map_nil]); first | done | rfl | (simp only [List.length_drop, List.length_take]; rfl)) ?_; (with_reducible refine (epact_Of.calls 2 2000 t101 t102 _ A1.out).mono ?_); rintro e w21 ⟨rfl, hb⟩; refine ⟨_, rfl, ?_⟩; have n0_ := Aside0.mk (below_step (by repeat (first | (with_reducible first | exact HB.out | apply below_alloc | apply pw_below_drewN | apply below_drew1) | exact HB.out)) hb); clear HB; have HB := n0_; clear n0_; (try clear hb); (try clear hb2); (try clear hk); (try clear hi)) | ((with_reducible refine gate_callee (f := 9) rfl ?_); refine goesL_ (some 16) rfl rfl Tryd.func9 (by kernel_rfl) rfl #[.int .i64 1, .int .i64 2000] rfl (by (try simp only [List.map_toArray, List.map_cons, List.map_nil]); first | done | rfl | (simp only [List.length_drop, List.length_take]; rfl)) ?_; (with_reducible refine (epact_Of.calls 1 2000 t103 t104 _ A2.out).mono ?_); rintro e w22 ⟨rfl, hb⟩; refine ⟨_, rfl, ?_⟩; have n0_ := Aside0.mk (below_step (by repeat (first | (with_reducible first | exact HB.out | apply below_alloc | apply pw_below_drewN | apply below_drew1) | exact HB.out)) hb); clear HB; have HB := n0_; clear n0_; (try clear hb); (try clear hb2); (try clear hk); (try clear hi)) | ((with_reducible refine gate_callee (f := 10) rfl ?_); refine goesL_ (some 20) rfl rfl Tryd.func10 (by kernel_rfl) rfl #[.int .i64 2, .int .i64 1916] rfl (by (try simp only [List.map_toArray, List.map_cons, List.map_nil]); first | done | rfl | (simp only [List.length_drop, List.length_take]; rfl)) ?_; (with_reducible refine (epact_Label.calls 2 1916 t105 t106 _ A3.out).mono ?_); rintro e w23 ⟨rfl, hb⟩; refine ⟨_, rfl, ?_⟩; have n0_ := Aside0.mk (below_step (by repeat (first | (with_reducible first | exact HB.out | apply below_alloc | apply pw_below_drewN | apply below_drew1) | exact HB.out)) hb); clear HB; have HB := n0_; clear n0_; (try clear hb); (try clear hb2); (try clear hk); (try clear hi)) | ((with_reducible refine gate_callee (f := 10) rfl ?_); refine goesL_ (some 24) rfl rfl Tryd.func10 (by kernel_rfl) rfl #[.int .i64 2, .int .i64 1582] rfl (by (try simp only [List.map_toArray, List.map_cons, List.map_nil]); first | done | rfl | (simp only [List.length_drop, List.length_take]; rfl)) ?_; (with_reducible refine (epact_Label.calls 2 1582 t107 t108 _ A4.out).mono ?_); rintro e w24 ⟨rfl, hb⟩; refine ⟨_, rfl, ?_⟩; have n0_ := Aside0.mk (below_step (by repeat (first | (with_reducible first | exact HB.out | apply below_alloc | apply pw_below_drewN | apply below_drew1) | exact HB.out)) hb); clear HB; have HB := n0_; clear n0_; (try clear hb); (try clear hb2); (try clear hk); (try clear hi)) | ((with_reducible refine gate_callee (f := 9) rfl ?_); refine goesL_ (some 28) rfl rfl Tryd.func9 (by kernel_rfl) rfl #[.int .i64 3, .int .i64 2000] rfl (by (try simp only [List.map_toArray, List.map_cons, List.map_nil]); first | done | rfl | (simp only [List.length_drop, List.length_take]; rfl)) ?_; (with_reducible refine (epact_Of.calls 3 2000 t109 t110 _ A5.out).mono ?_); rintro e w25 ⟨rfl, hb⟩; refine ⟨_, rfl, ?_⟩; have n0_ := Aside0.mk (below_step (by repeat (first | (with_reducible first | exact HB.out | apply below_alloc | apply pw_below_drewN | apply below_drew1) | exact HB.out)) hb); clear HB; have HB := n0_; clear n0_; (try clear hb); (try clear hb2); (try clear hk); (try clear hi)) | (go_at_call 12; (with_reducible refine (epact_Name.calls 31 t111 _ A14.out).mono ?_); rintro e w26 ⟨rfl, hb⟩; have n0_ := Aside0.mk (below_step (by repeat (first | (with_reducible first | exact HB.out | apply below_alloc | apply pw_below_drewN | apply below_drew1) | exact HB.out)) hb); clear HB; have HB := n0_; clear n0_; (try clear hb); (try clear hb2); (try clear hk); (try clear hi)) | (go_at_call 12; (with_reducible refine (epact_Name.calls 30 t112 _ A16.out).mono ?_); rintro e w27 ⟨rfl, hb⟩; have n0_ := Aside0.mk (below_step (by repeat (first | (with_reducible first | exact HB.out | apply below_alloc | apply pw_below_drewN | apply below_drew1) | exact HB.out)) hb); clear HB; have HB := n0_; clear n0_; (try clear hb); (try clear hb2); (try clear hk); (try clear hi)) | (go_at_call 12; (with_reducible refine (epact_Name.calls 7 t113 _ A18.out).mono ?_); rintro e w28 ⟨rfl, hb⟩; have n0_ := Aside0.mk (below_step (by repeat (first | (with_reducible first | exact HB.out | apply below_alloc | apply pw_below_drewN | apply below_drew1) | exact HB.out)) hb); clear HB; have HB := n0_; clear n0_; (try clear hb); (try clear hb2); (try clear hk); (try clear hi)) | (go_at_call 12; (with_reducible refine (epact_Name.calls 0 t114 _ A20.out).mono ?_); rintro e w29 ⟨rfl, hb⟩; have n0_ := Aside0.mk (below_step (by repeat (first | (with_reducible first | exact HB.out | apply below_alloc | apply pw_below_drewN | apply below_drew1) | exact HB.out)) hb); clear HB; have HB := n0_; clear n0_; (try clear hb); (try clear hb2); (try clear hk); (try clear hi)))
                        go_ret
                        exact ⟨by first | rfl | (simp [errW_none, errW_some] <;> rfl) | (simp [*, errW_none, errW_some] <;> rfl), by repeat (first | (with_reducible first | exact HB.out | apply below_alloc | apply pw_below_drewN | apply below_drew1) | exact HB.out)⟩
                      · rw [if_neg c19] at H
                        exact absurd H (by simp)
                    · rw [if_neg c17] at H
                      exact absurd H (by simp)
                  · rw [if_neg c15] at H
                    exact absurd H (by simp)
                · rw [if_neg c13] at H
                  exact absurd H (by simp)
              · rw [if_neg c12] at H
                exact absurd H (by simp)
            · rw [if_neg c11] at H
              exact absurd H (by simp)
          · rw [if_neg c10] at H
            exact absurd H (by simp)
        · rw [if_neg c9] at H
          exact absurd H (by simp)
      · rw [if_neg c8] at H
        exact absurd H (by simp)
    · rw [if_neg c7] at H
      exact absurd H (by simp)
  · rw [if_neg c6] at H
    exact absurd H (by simp)

end Go.Proofs.YtepmkfbhkifjaaaDoor.Q
