-- Written by wip/tool/qprint.py: the print of the kit, with hand-proved contracts put in. Lean checks it.
import Derived.Test.YtepmkfbhkifjaaaDoorQx0
import Derived.Test.YtepmkfbhkifjaaaDoorQx2
import Derived.Test.YtepmkfbhkifjaaaDoorQx4
import Derived.Test.YtepmkfbhkifjaaaDoorQx6
import Derived.Test.YtepmkfbhkifjaaaDoorHEpOf
namespace Go.Proofs.YtepmkfbhkifjaaaDoor.Q
open Go.RowKit Go.Proofs.YtepmkfbhkifjaaaDoorW.PrintWords Go.Proofs.YtepmkfbhkifjaaaDoorW.PrintLast Go.Proofs.YtepmkfbhkifjaaaDoorW.PrintMore
attribute [local go_sem] max2_int min2_int max_two min_two max_three min_three max_four min_four   -- for this text's walks alone
set_option linter.unusedVariables false
set_option linter.unusedSimpArgs false

/-! ### computuslaw07_EpactDistinct: function 6 -/
def computuslaw07_EpactDistinct.j0 : Nat → Int → Int → Int → Bool → Option (Bool)
  | 0, _, _, _, _ => none
  | k + 1, x1, x2, x7, x40 => if x40 = true then ((computuslaw07_awake.f).bind fun t162 => (some t162)) else ((epact_Label.f x7 x1).bind fun bt163 => ((epact_Label.f x7 x2).bind fun bt165 => ((computusref06_Golden.f x1).bind fun t167 => ((computusref06_Golden.f x2).bind fun t168 => (if ((bt163.1 == bt165.1) == (t167 == t168)) = true then ((epact_Name.f bt163.1).bind fun t169 => ((epact_Name.f bt165.1).bind fun t170 => (some ((t169.toList == t170.toList) == (bt163.1 == bt165.1))))) else (none))))))
def computuslaw07_EpactDistinct.f (k : Nat) (a0 : Int) (a1 : Int) (a2 : Int) : Option (Bool) := (computuslaw07_awake.f).bind fun t159 => (if t159 = true then ((computusref07_Fails.f k (wrap64 (1 + (wrap64 (Int.tmod a0 2)))) a1).bind fun t160 => (if t160 = 0 then ((computusref07_Fails.f k (wrap64 (1 + (wrap64 (Int.tmod a0 2)))) a2).bind fun t161 => (if t161 = 0 then (if (wrap64 (1 + (wrap64 (Int.tmod a0 2)))) = 2 then (computuslaw07_EpactDistinct.j0 k a1 a2 (wrap64 (1 + (wrap64 (Int.tmod a0 2)))) ((wrap64 (Int.tdiv a1 100)) != (wrap64 (Int.tdiv a2 100)))) else (computuslaw07_EpactDistinct.j0 k a1 a2 (wrap64 (1 + (wrap64 (Int.tmod a0 2)))) false)) else (computuslaw07_EpactDistinct.j0 k a1 a2 (wrap64 (1 + (wrap64 (Int.tmod a0 2)))) true))) else (computuslaw07_EpactDistinct.j0 k a1 a2 (wrap64 (1 + (wrap64 (Int.tmod a0 2)))) true))) else (computuslaw07_EpactDistinct.j0 k a1 a2 (wrap64 (1 + (wrap64 (Int.tmod a0 2)))) true))
theorem computuslaw07_EpactDistinct.mono_l : ∀ k, (∀ y0 y1 y2 y3, LeO (computuslaw07_EpactDistinct.j0 k y0 y1 y2 y3) (computuslaw07_EpactDistinct.j0 (k + 1) y0 y1 y2 y3))
  | 0 => fun _ _ _ _ r h => by simp [computuslaw07_EpactDistinct.j0] at h
  | k + 1 => by
    have ih0 := computuslaw07_EpactDistinct.mono_l k
    · intro y0 y1 y2 y3
      unfold computuslaw07_EpactDistinct.j0
      repeat' first
      | (with_reducible exact ih0 _ _ _ _)
      | (with_reducible exact computusref07_Fails.mono _ _ _)
      | (with_reducible exact LeO.refl _)
      | (with_reducible exact LeO.none _)
      | (with_reducible refine LeO.ite ?_ ?_)
      | (with_reducible refine LeO.bind ?_ (fun _ => ?_))
      | exact ih0 _ _ _ _
      | exact computusref07_Fails.mono _ _ _
      | exact LeO.none _
      | refine LeO.ite ?_ ?_
      | refine LeO.bind ?_ (fun _ => ?_)
theorem computuslaw07_EpactDistinct.mono : ∀ a0 a1 a2 k, LeO (computuslaw07_EpactDistinct.f k a0 a1 a2) (computuslaw07_EpactDistinct.f (k + 1) a0 a1 a2) := by
  intro a0 a1 a2 k
  have ih0 := computuslaw07_EpactDistinct.mono_l k
  unfold computuslaw07_EpactDistinct.f
  repeat' first
      | (with_reducible exact ih0 _ _ _ _)
      | (with_reducible exact computusref07_Fails.mono _ _ _)
      | (with_reducible exact LeO.refl _)
      | (with_reducible exact LeO.none _)
      | (with_reducible refine LeO.ite ?_ ?_)
      | (with_reducible refine LeO.bind ?_ (fun _ => ?_))
      | exact ih0 _ _ _ _
      | exact computusref07_Fails.mono _ _ _
      | exact LeO.none _
      | refine LeO.ite ?_ ?_
      | refine LeO.bind ?_ (fun _ => ?_)
set_option maxHeartbeats 8000000 in
set_option maxRecDepth 100000 in
theorem computuslaw07_EpactDistinct.calls (k : Nat) (a0 : Int) (a1 : Int) (a2 : Int) (r : Bool) (w : World) (h : computuslaw07_EpactDistinct.f k a0 a1 a2 = some r) :
    Calls Tryd.prog 6 #[.int .u8 a0, .int .i64 a1, .int .i64 a2] w fun e w' => e = .returned (.bool r) ∧ Below w.heap.size w w' := by
  have HB := Aside0.mk (Below.refl w.heap.size w)
  have H : ((computuslaw07_awake.f).bind fun t159 => (if t159 = true then ((computusref07_Fails.f k (wrap64 (1 + (wrap64 (Int.tmod a0 2)))) a1).bind fun t160 => (if t160 = 0 then ((computusref07_Fails.f k (wrap64 (1 + (wrap64 (Int.tmod a0 2)))) a2).bind fun t161 => (if t161 = 0 then (if (wrap64 (1 + (wrap64 (Int.tmod a0 2)))) = 2 then (computuslaw07_EpactDistinct.j0 k a1 a2 (wrap64 (1 + (wrap64 (Int.tmod a0 2)))) ((wrap64 (Int.tdiv a1 100)) != (wrap64 (Int.tdiv a2 100)))) else (computuslaw07_EpactDistinct.j0 k a1 a2 (wrap64 (1 + (wrap64 (Int.tmod a0 2)))) false)) else (computuslaw07_EpactDistinct.j0 k a1 a2 (wrap64 (1 + (wrap64 (Int.tmod a0 2)))) true))) else (computuslaw07_EpactDistinct.j0 k a1 a2 (wrap64 (1 + (wrap64 (Int.tmod a0 2)))) true))) else (computuslaw07_EpactDistinct.j0 k a1 a2 (wrap64 (1 + (wrap64 (Int.tmod a0 2)))) true))) = some r := h
  clear h
  have HC4 := Aside0.mk H
  clear H
  go_enter Tryd.func6, Tryd.ntmps6
  go_upto_region 2 with (fail)
  go_cut [40] (fun v40 wc => ∃ (kq : Nat) (x40_3 : Bool), v40 = .bool x40_3 ∧ Aside0 (computuslaw07_EpactDistinct.j0 kq a1 a2 (wrap64 (1 + (wrap64 (Int.tmod a0 2)))) x40_3 = some r) ∧ Aside0 (kq ≤ k) ∧ Aside0 (Below w.heap.size w wc))
  case first =>
    have H := HC4.out
    clear HC4
    replace H := Option.bind_eq_some_iff.mp H
    obtain ⟨t159, A50, H⟩ := H
    replace H : (if t159 = true then ((computusref07_Fails.f k (wrap64 (1 + (wrap64 (Int.tmod a0 2)))) a1).bind fun t160 => (if t160 = 0 then ((computusref07_Fails.f k (wrap64 (1 + (wrap64 (Int.tmod a0 2)))) a2).bind fun t161 => (if t161 = 0 then (if (wrap64 (1 + (wrap64 (Int.tmod a0 2)))) = 2 then (computuslaw07_EpactDistinct.j0 k a1 a2 (wrap64 (1 + (wrap64 (Int.tmod a0 2)))) ((wrap64 (Int.tdiv a1 100)) != (wrap64 (Int.tdiv a2 100)))) else (computuslaw07_EpactDistinct.j0 k a1 a2 (wrap64 (1 + (wrap64 (Int.tmod a0 2)))) false)) else (computuslaw07_EpactDistinct.j0 k a1 a2 (wrap64 (1 + (wrap64 (Int.tmod a0 2)))) true))) else (computuslaw07_EpactDistinct.j0 k a1 a2 (wrap64 (1 + (wrap64 (Int.tmod a0 2)))) true))) else (computuslaw07_EpactDistinct.j0 k a1 a2 (wrap64 (1 + (wrap64 (Int.tmod a0 2)))) true)) = some r := H
    have A5 := Aside0.mk A50
    clear A50
    by_cases c6 : t159 = true
    · subst c6
      have H1 : ((computusref07_Fails.f k (wrap64 (1 + (wrap64 (Int.tmod a0 2)))) a1).bind fun t160 => (if t160 = 0 then ((computusref07_Fails.f k (wrap64 (1 + (wrap64 (Int.tmod a0 2)))) a2).bind fun t161 => (if t161 = 0 then (if (wrap64 (1 + (wrap64 (Int.tmod a0 2)))) = 2 then (computuslaw07_EpactDistinct.j0 k a1 a2 (wrap64 (1 + (wrap64 (Int.tmod a0 2)))) ((wrap64 (Int.tdiv a1 100)) != (wrap64 (Int.tdiv a2 100)))) else (computuslaw07_EpactDistinct.j0 k a1 a2 (wrap64 (1 + (wrap64 (Int.tmod a0 2)))) false)) else (computuslaw07_EpactDistinct.j0 k a1 a2 (wrap64 (1 + (wrap64 (Int.tmod a0 2)))) true))) else (computuslaw07_EpactDistinct.j0 k a1 a2 (wrap64 (1 + (wrap64 (Int.tmod a0 2)))) true))) = some r := by rw [if_pos rfl] at H; exact H
      clear H
      have H := H1
      clear H1
      replace H := Option.bind_eq_some_iff.mp H
      obtain ⟨t160, A70, H⟩ := H
      replace H : (if t160 = 0 then ((computusref07_Fails.f k (wrap64 (1 + (wrap64 (Int.tmod a0 2)))) a2).bind fun t161 => (if t161 = 0 then (if (wrap64 (1 + (wrap64 (Int.tmod a0 2)))) = 2 then (computuslaw07_EpactDistinct.j0 k a1 a2 (wrap64 (1 + (wrap64 (Int.tmod a0 2)))) ((wrap64 (Int.tdiv a1 100)) != (wrap64 (Int.tdiv a2 100)))) else (computuslaw07_EpactDistinct.j0 k a1 a2 (wrap64 (1 + (wrap64 (Int.tmod a0 2)))) false)) else (computuslaw07_EpactDistinct.j0 k a1 a2 (wrap64 (1 + (wrap64 (Int.tmod a0 2)))) true))) else (computuslaw07_EpactDistinct.j0 k a1 a2 (wrap64 (1 + (wrap64 (Int.tmod a0 2)))) true)) = some r := H
      have A7 := Aside0.mk A70
      clear A70
      by_cases c8 : t160 = 0
      · rw [if_pos c8] at H
        have c8b0 : (t160 == 0) = true := beq_iff_eq.mpr c8
        have c8b1 : (t160 != 0) = false := bne_eq_false_iff_eq.mpr c8
        clear c8
        (first | rw [c8b0] | (simp only [i64_w, i32_w]; rw [c8b0]) | skip)
        replace H := Option.bind_eq_some_iff.mp H
        obtain ⟨t161, A90, H⟩ := H
        replace H : (if t161 = 0 then (if (wrap64 (1 + (wrap64 (Int.tmod a0 2)))) = 2 then (computuslaw07_EpactDistinct.j0 k a1 a2 (wrap64 (1 + (wrap64 (Int.tmod a0 2)))) ((wrap64 (Int.tdiv a1 100)) != (wrap64 (Int.tdiv a2 100)))) else (computuslaw07_EpactDistinct.j0 k a1 a2 (wrap64 (1 + (wrap64 (Int.tmod a0 2)))) false)) else (computuslaw07_EpactDistinct.j0 k a1 a2 (wrap64 (1 + (wrap64 (Int.tmod a0 2)))) true)) = some r := H
        have A9 := Aside0.mk A90
        clear A90
        by_cases c10 : t161 = 0
        · rw [if_pos c10] at H
          have c10b0 : (t161 == 0) = true := beq_iff_eq.mpr c10
          have c10b1 : (t161 != 0) = false := bne_eq_false_iff_eq.mpr c10
          clear c10
          by_cases c11 : (wrap64 (1 + (wrap64 (Int.tmod a0 2)))) = 2
          · rw [if_pos c11] at H
            have c11b0 : ((wrap64 (1 + (wrap64 (Int.tmod a0 2)))) == 2) = true := beq_iff_eq.mpr c11
            have c11b1 : ((wrap64 (1 + (wrap64 (Int.tmod a0 2)))) != 2) = false := bne_eq_false_iff_eq.mpr c11
            clear c11
            have H' := Aside0.mk H
            clear H
            go_wp2_with (first | ((with_reducible refine gate_callee (f := 8) rfl ?_); refine goesL_ (some 16) rfl rfl Tryd.func8 (by kernel_rfl) rfl #[] rfl (by (try simp only [List.map_toArray, List.map_cons, List.map_nil]); first | done | rfl | (simp only [List.length_drop, List.length_take]; rfl)) ?_; (with_reducible refine (computuslaw07_awake.calls  true _ A5.out).mono ?_); rintro e w12 ⟨rfl, hb⟩; refine ⟨_, rfl, ?_⟩; have n0_ := Aside0.mk (below_step (by repeat (first | (with_reducible first | exact HB.out | apply below_alloc | apply pw_below_drewN | apply below_drew1) | exact HB.out)) hb); clear HB; have HB := n0_; clear n0_; (try clear hb); (try clear hb2); (try clear hk); (try clear hi)) | (go_at_call 11; (with_reducible refine (computusref07_Fails.calls k (wrap64 (1 + (wrap64 (Int.tmod a0 2)))) a1 t160 _ A7.out).mono ?_); rintro e w' ⟨rfl, ⟨nd, rfl⟩⟩) | (go_at_call 11; (with_reducible refine (computusref07_Fails.calls k (wrap64 (1 + (wrap64 (Int.tmod a0 2)))) a2 t161 _ A9.out).mono ?_); rintro e w' ⟨rfl, ⟨nd, rfl⟩⟩))
            go_meet
            case rel => exact ⟨_, (((wrap64 (Int.tdiv a1 100)) != (wrap64 (Int.tdiv a2 100)))), (by first | rfl | (simp; done) | (simp [*]; done)), H', ⟨by first | omega | exact Nat.le_refl _⟩, ⟨by repeat (first | (with_reducible first | exact HB.out | apply below_alloc | apply pw_below_drewN | apply below_drew1) | exact HB.out)⟩⟩
          · rw [if_neg c11] at H
            have c11b0 : ((wrap64 (1 + (wrap64 (Int.tmod a0 2)))) == 2) = false := beq_eq_false_iff_ne.mpr c11
            have c11b1 : ((wrap64 (1 + (wrap64 (Int.tmod a0 2)))) != 2) = true := bne_iff_ne.mpr c11
            have H' := Aside0.mk H
            clear H
            go_wp2_with (first | ((with_reducible refine gate_callee (f := 8) rfl ?_); refine goesL_ (some 16) rfl rfl Tryd.func8 (by kernel_rfl) rfl #[] rfl (by (try simp only [List.map_toArray, List.map_cons, List.map_nil]); first | done | rfl | (simp only [List.length_drop, List.length_take]; rfl)) ?_; (with_reducible refine (computuslaw07_awake.calls  true _ A5.out).mono ?_); rintro e w13 ⟨rfl, hb⟩; refine ⟨_, rfl, ?_⟩; have n0_ := Aside0.mk (below_step (by repeat (first | (with_reducible first | exact HB.out | apply below_alloc | apply pw_below_drewN | apply below_drew1) | exact HB.out)) hb); clear HB; have HB := n0_; clear n0_; (try clear hb); (try clear hb2); (try clear hk); (try clear hi)) | (go_at_call 11; (with_reducible refine (computusref07_Fails.calls k (wrap64 (1 + (wrap64 (Int.tmod a0 2)))) a1 t160 _ A7.out).mono ?_); rintro e w' ⟨rfl, ⟨nd, rfl⟩⟩) | (go_at_call 11; (with_reducible refine (computusref07_Fails.calls k (wrap64 (1 + (wrap64 (Int.tmod a0 2)))) a2 t161 _ A9.out).mono ?_); rintro e w' ⟨rfl, ⟨nd, rfl⟩⟩))
            go_meet
            case rel => exact ⟨_, (false), (by first | rfl | (simp; done) | (simp [*]; done)), H', ⟨by first | omega | exact Nat.le_refl _⟩, ⟨by repeat (first | (with_reducible first | exact HB.out | apply below_alloc | apply pw_below_drewN | apply below_drew1) | exact HB.out)⟩⟩
        · rw [if_neg c10] at H
          have c10b0 : (t161 == 0) = false := beq_eq_false_iff_ne.mpr c10
          have c10b1 : (t161 != 0) = true := bne_iff_ne.mpr c10
          have H' := Aside0.mk H
          clear H
          go_wp2_with (first | ((with_reducible refine gate_callee (f := 8) rfl ?_); refine goesL_ (some 16) rfl rfl Tryd.func8 (by kernel_rfl) rfl #[] rfl (by (try simp only [List.map_toArray, List.map_cons, List.map_nil]); first | done | rfl | (simp only [List.length_drop, List.length_take]; rfl)) ?_; (with_reducible refine (computuslaw07_awake.calls  true _ A5.out).mono ?_); rintro e w14 ⟨rfl, hb⟩; refine ⟨_, rfl, ?_⟩; have n0_ := Aside0.mk (below_step (by repeat (first | (with_reducible first | exact HB.out | apply below_alloc | apply pw_below_drewN | apply below_drew1) | exact HB.out)) hb); clear HB; have HB := n0_; clear n0_; (try clear hb); (try clear hb2); (try clear hk); (try clear hi)) | (go_at_call 11; (with_reducible refine (computusref07_Fails.calls k (wrap64 (1 + (wrap64 (Int.tmod a0 2)))) a1 t160 _ A7.out).mono ?_); rintro e w' ⟨rfl, ⟨nd, rfl⟩⟩) | (go_at_call 11; (with_reducible refine (computusref07_Fails.calls k (wrap64 (1 + (wrap64 (Int.tmod a0 2)))) a2 t161 _ A9.out).mono ?_); rintro e w' ⟨rfl, ⟨nd, rfl⟩⟩))
          go_meet
          case rel => exact ⟨_, (true), (by first | rfl | (simp; done) | (simp [*]; done)), H', ⟨by first | omega | exact Nat.le_refl _⟩, ⟨by repeat (first | (with_reducible first | exact HB.out | apply below_alloc | apply pw_below_drewN | apply below_drew1) | exact HB.out)⟩⟩
      · rw [if_neg c8] at H
        have c8b0 : (t160 == 0) = false := beq_eq_false_iff_ne.mpr c8
        have c8b1 : (t160 != 0) = true := bne_iff_ne.mpr c8
        (first | rw [c8b0] | (simp only [i64_w, i32_w]; rw [c8b0]) | skip)
        have H' := Aside0.mk H
        clear H
        go_wp2_with (first | ((with_reducible refine gate_callee (f := 8) rfl ?_); refine goesL_ (some 16) rfl rfl Tryd.func8 (by kernel_rfl) rfl #[] rfl (by (try simp only [List.map_toArray, List.map_cons, List.map_nil]); first | done | rfl | (simp only [List.length_drop, List.length_take]; rfl)) ?_; (with_reducible refine (computuslaw07_awake.calls  true _ A5.out).mono ?_); rintro e w15 ⟨rfl, hb⟩; refine ⟨_, rfl, ?_⟩; have n0_ := Aside0.mk (below_step (by repeat (first | (with_reducible first | exact HB.out | apply below_alloc | apply pw_below_drewN | apply below_drew1) | exact HB.out)) hb); clear HB; have HB := n0_; clear n0_; (try clear hb); (try clear hb2); (try clear hk); (try clear hi)) | (go_at_call 11; (with_reducible refine (computusref07_Fails.calls k (wrap64 (1 + (wrap64 (Int.tmod a0 2)))) a1 t160 _ A7.out).mono ?_); rintro e w' ⟨rfl, ⟨nd, rfl⟩⟩))
        go_meet
        case rel => exact ⟨_, (true), (by first | rfl | (simp; done) | (simp [*]; done)), H', ⟨by first | omega | exact Nat.le_refl _⟩, ⟨by repeat (first | (with_reducible first | exact HB.out | apply below_alloc | apply pw_below_drewN | apply below_drew1) | exact HB.out)⟩⟩
    · replace c6 := Bool.eq_false_iff.mpr c6
      subst c6
      have H1 : (computuslaw07_EpactDistinct.j0 k a1 a2 (wrap64 (1 + (wrap64 (Int.tmod a0 2)))) true) = some r := by rw [if_neg (show ¬ (false = true) by decide)] at H; exact H
      clear H
      have H := H1
      clear H1
      have H' := Aside0.mk H
      clear H
      go_wp2_with (first | ((with_reducible refine gate_callee (f := 8) rfl ?_); refine goesL_ (some 16) rfl rfl Tryd.func8 (by kernel_rfl) rfl #[] rfl (by (try simp only [List.map_toArray, List.map_cons, List.map_nil]); first | done | rfl | (simp only [List.length_drop, List.length_take]; rfl)) ?_; (with_reducible refine (computuslaw07_awake.calls  false _ A5.out).mono ?_); rintro e w16 ⟨rfl, hb⟩; refine ⟨_, rfl, ?_⟩; have n0_ := Aside0.mk (below_step (by repeat (first | (with_reducible first | exact HB.out | apply below_alloc | apply pw_below_drewN | apply below_drew1) | exact HB.out)) hb); clear HB; have HB := n0_; clear n0_; (try clear hb); (try clear hb2); (try clear hk); (try clear hi)))
      go_meet
      case rel => exact ⟨_, (true), (by first | rfl | (simp; done) | (simp [*]; done)), H', ⟨by first | omega | exact Nat.le_refl _⟩, ⟨by repeat (first | (with_reducible first | exact HB.out | apply below_alloc | apply pw_below_drewN | apply below_drew1) | exact HB.out)⟩⟩
  case rest =>
    clear HC4
    try clear c1
    try clear p2
    try clear c6
    try clear p6
    try clear c8
    try clear c8b0
    try clear c8b1
    try clear c10
    try clear c10b0
    try clear c10b1
    try clear c11
    try clear c11b0
    try clear c11b1
    obtain ⟨kq, x40_3, rfl, HA, HJ3, HB⟩ := hcut
    cases kq with
    | zero => exact absurd HA.out (by simp [computuslaw07_EpactDistinct.j0])
    | succ kj3 =>
      have H := HA.out
      clear HA
      simp only [computuslaw07_EpactDistinct.j0] at H
      by_cases c17 : x40_3 = true
      · subst c17
        have H1 : ((computuslaw07_awake.f).bind fun t162 => (some t162)) = some r := by rw [if_pos rfl] at H; exact H
        clear H
        have H := H1
        clear H1
        replace H := Option.bind_eq_some_iff.mp H
        obtain ⟨t162, A180, H⟩ := H
        replace H : (some t162) = some r := H
        have A18 := Aside0.mk A180
        clear A180
        obtain rfl := Option.some.inj H
        go_wp2_with (first | ((with_reducible refine gate_callee (f := 8) rfl ?_); refine goesL_ (some 41) rfl rfl Tryd.func8 (by kernel_rfl) rfl #[] rfl (by (try simp only [List.map_toArray, List.map_cons, List.map_nil]); first | done | rfl | (simp only [List.length_drop, List.length_take]; rfl)) ?_; (with_reducible refine (computuslaw07_awake.calls  t162 _ A18.out).mono ?_); rintro e w19 ⟨rfl, hb⟩; refine ⟨_, rfl, ?_⟩; have n0_ := Aside0.mk (below_step (by repeat (first | (with_reducible first | exact HB.out | apply below_alloc | apply pw_below_drewN | apply below_drew1) | exact HB.out)) hb); clear HB; have HB := n0_; clear n0_; (try clear hb); (try clear hb2); (try clear hk); (try clear hi)))
        go_ret
        exact ⟨by first | rfl | (simp [errW_none, errW_some] <;> rfl) | (simp [*, errW_none, errW_some] <;> rfl), by repeat (first | (with_reducible first | exact HB.out | apply below_alloc | apply pw_below_drewN | apply below_drew1) | exact HB.out)⟩
      · replace c17 := Bool.eq_false_iff.mpr c17
        subst c17
        have H1 : ((epact_Label.f (wrap64 (1 + (wrap64 (Int.tmod a0 2)))) a1).bind fun bt163 => ((epact_Label.f (wrap64 (1 + (wrap64 (Int.tmod a0 2)))) a2).bind fun bt165 => ((computusref06_Golden.f a1).bind fun t167 => ((computusref06_Golden.f a2).bind fun t168 => (if ((bt163.1 == bt165.1) == (t167 == t168)) = true then ((epact_Name.f bt163.1).bind fun t169 => ((epact_Name.f bt165.1).bind fun t170 => (some ((t169.toList == t170.toList) == (bt163.1 == bt165.1))))) else (none)))))) = some r := by rw [if_neg (show ¬ (false = true) by decide)] at H; exact H
        clear H
        have H := H1
        clear H1
        replace H := Option.bind_eq_some_iff.mp H
        obtain ⟨⟨t163, t164⟩, A200, H⟩ := H
        replace H : ((epact_Label.f (wrap64 (1 + (wrap64 (Int.tmod a0 2)))) a2).bind fun bt165 => ((computusref06_Golden.f a1).bind fun t167 => ((computusref06_Golden.f a2).bind fun t168 => (if ((t163 == bt165.1) == (t167 == t168)) = true then ((epact_Name.f t163).bind fun t169 => ((epact_Name.f bt165.1).bind fun t170 => (some ((t169.toList == t170.toList) == (t163 == bt165.1))))) else (none))))) = some r := H
        have A20 := Aside0.mk A200
        clear A200
        replace H := Option.bind_eq_some_iff.mp H
        obtain ⟨⟨t165, t166⟩, A210, H⟩ := H
        replace H : ((computusref06_Golden.f a1).bind fun t167 => ((computusref06_Golden.f a2).bind fun t168 => (if ((t163 == t165) == (t167 == t168)) = true then ((epact_Name.f t163).bind fun t169 => ((epact_Name.f t165).bind fun t170 => (some ((t169.toList == t170.toList) == (t163 == t165))))) else (none)))) = some r := H
        have A21 := Aside0.mk A210
        clear A210
        replace H := Option.bind_eq_some_iff.mp H
        obtain ⟨t167, A220, H⟩ := H
        replace H : ((computusref06_Golden.f a2).bind fun t168 => (if ((t163 == t165) == (t167 == t168)) = true then ((epact_Name.f t163).bind fun t169 => ((epact_Name.f t165).bind fun t170 => (some ((t169.toList == t170.toList) == (t163 == t165))))) else (none))) = some r := H
        have A22 := Aside0.mk A220
        clear A220
        replace H := Option.bind_eq_some_iff.mp H
        obtain ⟨t168, A230, H⟩ := H
        replace H : (if ((t163 == t165) == (t167 == t168)) = true then ((epact_Name.f t163).bind fun t169 => ((epact_Name.f t165).bind fun t170 => (some ((t169.toList == t170.toList) == (t163 == t165))))) else (none)) = some r := H
        have A23 := Aside0.mk A230
        clear A230
        by_cases c24 : ((t163 == t165) == (t167 == t168)) = true
        · rw [if_pos c24] at H
          have c24b0 : ((t163 == t165) == (t167 == t168)) = true := c24
          (try (have c24b1 : decide ((t163 == t165) = (t167 == t168)) = true := by simpa using c24))
          (try (have c24b2 : ((t163 == t165) == (t167 == t168)) = true := by simpa using c24))
          clear c24
          replace H := Option.bind_eq_some_iff.mp H
          obtain ⟨t169, A250, H⟩ := H
          replace H : ((epact_Name.f t165).bind fun t170 => (some ((t169.toList == t170.toList) == (t163 == t165)))) = some r := H
          have A25 := Aside0.mk A250
          clear A250
          replace H := Option.bind_eq_some_iff.mp H
          obtain ⟨t170, A260, H⟩ := H
          replace H : (some ((t169.toList == t170.toList) == (t163 == t165))) = some r := H
          have A26 := Aside0.mk A260
          clear A260
          obtain rfl := Option.some.inj H
          go_wp2_with (first | ((with_reducible refine gate_callee (f := 10) rfl ?_); refine goesL_ (some 45) rfl rfl Tryd.func10 (by kernel_rfl) rfl #[.int .i64 (wrap64 (1 + (wrap64 (Int.tmod a0 2)))), .int .i64 a1] rfl (by (try simp only [List.map_toArray, List.map_cons, List.map_nil]); first | done | rfl | (simp only [List.length_drop, List.length_take]; rfl)) ?_; (with_reducible refine (epact_Label.calls (wrap64 (1 + (wrap64 (Int.tmod a0 2)))) a1 t163 t164 _ A20.out).mono ?_); rintro e w27 ⟨rfl, hb⟩; refine ⟨_, rfl, ?_⟩; have n0_ := Aside0.mk (below_step (by repeat (first | (with_reducible first | exact HB.out | apply below_alloc | apply pw_below_drewN | apply below_drew1) | exact HB.out)) hb); clear HB; have HB := n0_; clear n0_; (try clear hb); (try clear hb2); (try clear hk); (try clear hi)) | ((with_reducible refine gate_callee (f := 10) rfl ?_); refine goesL_ (some 51) rfl rfl Tryd.func10 (by kernel_rfl) rfl #[.int .i64 (wrap64 (1 + (wrap64 (Int.tmod a0 2)))), .int .i64 a2] rfl (by (try simp only [List.map_toArray, List.map_cons, List.map_nil]); first | done | rfl | (simp only [List.length_drop, List.length_take]; rfl)) ?_; (with_reducible refine (epact_Label.calls (wrap64 (1 + (wrap64 (Int.tmod a0 2)))) a2 t165 t166 _ A21.out).mono ?_); rintro e w28 ⟨rfl, hb⟩; refine ⟨_, rfl, ?_⟩; have n0_ := Aside0.mk (below_step (by repeat (first | (with_reducible first | exact HB.out | apply below_alloc | apply pw_below_drewN | apply below_drew1) | exact HB.out)) hb); clear HB; have HB := n0_; clear n0_; (try clear hb); (try clear hb2); (try clear hk); (try clear hi)) | ((with_reducible refine gate_callee (f := 16) rfl ?_); refine goesL_ (some 58) rfl rfl Tryd.func16 (by kernel_rfl) rfl #[.int .i64 a1] rfl (by (try simp only [List.map_toArray, List.map_cons, List.map_nil]); first | done | rfl | (simp only [List.length_drop, List.length_take]; rfl)) ?_; (with_reducible refine (computusref06_Golden.calls a1 t167 _ A22.out).mono ?_); rintro e w' ⟨rfl, ⟨nd, rfl⟩⟩; refine ⟨_, rfl, ?_⟩) | ((with_reducible refine gate_callee (f := 16) rfl ?_); refine goesL_ (some 60) rfl rfl Tryd.func16 (by kernel_rfl) rfl #[.int .i64 a2] rfl (by (try simp only [List.map_toArray, List.map_cons, List.map_nil]); first | done | rfl | (simp only [List.length_drop, List.length_take]; rfl)) ?_; (with_reducible refine (computusref06_Golden.calls a2 t168 _ A23.out).mono ?_); rintro e w' ⟨rfl, ⟨nd, rfl⟩⟩; refine ⟨_, rfl, ?_⟩) | (go_at_call 12; (with_reducible refine (epact_Name.calls t163 t169 _ A25.out).mono ?_); rintro e w29 ⟨rfl, hb⟩; have n0_ := Aside0.mk (below_step (by repeat (first | (with_reducible first | exact HB.out | apply below_alloc | apply pw_below_drewN | apply below_drew1) | exact HB.out)) hb); clear HB; have HB := n0_; clear n0_; (try clear hb); (try clear hb2); (try clear hk); (try clear hi)) | (go_at_call 12; (with_reducible refine (epact_Name.calls t165 t170 _ A26.out).mono ?_); rintro e w30 ⟨rfl, hb⟩; have n0_ := Aside0.mk (below_step (by repeat (first | (with_reducible first | exact HB.out | apply below_alloc | apply pw_below_drewN | apply below_drew1) | exact HB.out)) hb); clear HB; have HB := n0_; clear n0_; (try clear hb); (try clear hb2); (try clear hk); (try clear hi)))
          go_ret
          exact ⟨by first | rfl | (simp [errW_none, errW_some] <;> rfl) | (simp [*, errW_none, errW_some] <;> rfl), by repeat (first | (with_reducible first | exact HB.out | apply below_alloc | apply pw_below_drewN | apply below_drew1) | exact HB.out)⟩
        · rw [if_neg c24] at H
          exact absurd H (by simp)

def computuslaw07_EpactDistinct.Pure : Prop := ∀ (a0 : Int) (a1 : Int) (a2 : Int), (Lit.int .u8 a0).wf = true → (Lit.int .i64 a1).wf = true → (Lit.int .i64 a2).wf = true → ∃ k, computuslaw07_EpactDistinct.f k a0 a1 a2 = some true

end Go.Proofs.YtepmkfbhkifjaaaDoor.Q
