-- Written by wip/tool/qprint.py: the print of the kit, with hand-proved contracts put in. Lean checks it.
import Derived.Test.YtepmkfbhkifjaaaDoorQx0
import Derived.Test.YtepmkfbhkifjaaaDoorQx2
import Derived.Test.YtepmkfbhkifjaaaDoorQx4
import Derived.Test.YtepmkfbhkifjaaaDoorQx5
import Derived.Test.YtepmkfbhkifjaaaDoorQx7
import Derived.Test.YtepmkfbhkifjaaaDoorQx8
import Derived.Test.YtepmkfbhkifjaaaDoorHEpOf
namespace Go.Proofs.YtepmkfbhkifjaaaDoor.Q
open Go.RowKit Go.Proofs.YtepmkfbhkifjaaaDoorW.PrintWords Go.Proofs.YtepmkfbhkifjaaaDoorW.PrintLast Go.Proofs.YtepmkfbhkifjaaaDoorW.PrintMore
attribute [local go_sem] max2_int min2_int max_two min_two max_three min_three max_four min_four   -- for this text's walks alone
set_option linter.unusedVariables false
set_option linter.unusedSimpArgs false

/-! ### computuslaw07_EpactMatchesReference: function 3 -/
def computuslaw07_EpactMatchesReference.j0 : Nat → Int → Int → Int → Int → Int → Bool → Option (Bool)
  | 0, _, _, _, _, _, _ => none
  | k + 1, x0, x1, x7, x9, x11, x43 => if x43 = true then (none) else (if x11 = 0 then ((computusref07_Of.f x0 x1).bind fun t137 => (if x7 = t137 then ((computusref07_Label.f x0 x1).bind fun t138 => (some (x9 == t138))) else (none))) else (if x7 = 0 then (some (x9 == 0)) else (none)))
def computuslaw07_EpactMatchesReference.f (k : Nat) (a0 : Int) (a1 : Int) (a2 : Int) : Option (Bool) := (computuslaw07_awake.f).bind fun t129 => (if t129 = true then ((epact_Of.f a0 a1).bind fun bt130 => ((epact_Label.f a0 a1).bind fun bt132 => ((computusref07_Fails.f k a0 a1).bind fun t134 => ((epact_Name.f a2).bind fun t135 => ((computusref07_Name.f k a2).bind fun t136 => (if t135.toList = t136.toList then (if bt130.2 = t134 then (computuslaw07_EpactMatchesReference.j0 k a0 a1 bt130.1 bt132.1 t134 (bt132.2 != t134)) else (computuslaw07_EpactMatchesReference.j0 k a0 a1 bt130.1 bt132.1 t134 true)) else (computuslaw07_EpactMatchesReference.j0 k a0 a1 bt130.1 bt132.1 t134 true))))))) else (none))
theorem computuslaw07_EpactMatchesReference.mono_l : ∀ k, (∀ y0 y1 y2 y3 y4 y5, LeO (computuslaw07_EpactMatchesReference.j0 k y0 y1 y2 y3 y4 y5) (computuslaw07_EpactMatchesReference.j0 (k + 1) y0 y1 y2 y3 y4 y5))
  | 0 => fun _ _ _ _ _ _ r h => by simp [computuslaw07_EpactMatchesReference.j0] at h
  | k + 1 => by
    have ih0 := computuslaw07_EpactMatchesReference.mono_l k
    · intro y0 y1 y2 y3 y4 y5
      unfold computuslaw07_EpactMatchesReference.j0
      repeat' first
      | (with_reducible exact ih0 _ _ _ _ _ _)
      | (with_reducible exact computusref07_Fails.mono _ _ _)
      | (with_reducible exact computusref07_Name.mono _ _)
      | (with_reducible exact LeO.refl _)
      | (with_reducible exact LeO.none _)
      | (with_reducible refine LeO.ite ?_ ?_)
      | (with_reducible refine LeO.bind ?_ (fun _ => ?_))
      | exact ih0 _ _ _ _ _ _
      | exact computusref07_Fails.mono _ _ _
      | exact computusref07_Name.mono _ _
      | exact LeO.none _
      | refine LeO.ite ?_ ?_
      | refine LeO.bind ?_ (fun _ => ?_)
theorem computuslaw07_EpactMatchesReference.mono : ∀ a0 a1 a2 k, LeO (computuslaw07_EpactMatchesReference.f k a0 a1 a2) (computuslaw07_EpactMatchesReference.f (k + 1) a0 a1 a2) := by
  intro a0 a1 a2 k
  have ih0 := computuslaw07_EpactMatchesReference.mono_l k
  unfold computuslaw07_EpactMatchesReference.f
  repeat' first
      | (with_reducible exact ih0 _ _ _ _ _ _)
      | (with_reducible exact computusref07_Fails.mono _ _ _)
      | (with_reducible exact computusref07_Name.mono _ _)
      | (with_reducible exact LeO.refl _)
      | (with_reducible exact LeO.none _)
      | (with_reducible refine LeO.ite ?_ ?_)
      | (with_reducible refine LeO.bind ?_ (fun _ => ?_))
      | exact ih0 _ _ _ _ _ _
      | exact computusref07_Fails.mono _ _ _
      | exact computusref07_Name.mono _ _
      | exact LeO.none _
      | refine LeO.ite ?_ ?_
      | refine LeO.bind ?_ (fun _ => ?_)
set_option maxHeartbeats 8000000 in
set_option maxRecDepth 100000 in
theorem computuslaw07_EpactMatchesReference.calls (k : Nat) (a0 : Int) (a1 : Int) (a2 : Int) (r : Bool) (w : World) (h : computuslaw07_EpactMatchesReference.f k a0 a1 a2 = some r) :
    Calls Tryd.prog 3 #[.int .i64 a0, .int .i64 a1, .int .i64 a2] w fun e w' => e = .returned (.bool r) ∧ Below w.heap.size w w' := by
  have HB := Aside0.mk (Below.refl w.heap.size w)
  have H : ((computuslaw07_awake.f).bind fun t129 => (if t129 = true then ((epact_Of.f a0 a1).bind fun bt130 => ((epact_Label.f a0 a1).bind fun bt132 => ((computusref07_Fails.f k a0 a1).bind fun t134 => ((epact_Name.f a2).bind fun t135 => ((computusref07_Name.f k a2).bind fun t136 => (if t135.toList = t136.toList then (if bt130.2 = t134 then (computuslaw07_EpactMatchesReference.j0 k a0 a1 bt130.1 bt132.1 t134 (bt132.2 != t134)) else (computuslaw07_EpactMatchesReference.j0 k a0 a1 bt130.1 bt132.1 t134 true)) else (computuslaw07_EpactMatchesReference.j0 k a0 a1 bt130.1 bt132.1 t134 true))))))) else (none))) = some r := h
  clear h
  replace H := Option.bind_eq_some_iff.mp H
  obtain ⟨t129, A40, H⟩ := H
  replace H : (if t129 = true then ((epact_Of.f a0 a1).bind fun bt130 => ((epact_Label.f a0 a1).bind fun bt132 => ((computusref07_Fails.f k a0 a1).bind fun t134 => ((epact_Name.f a2).bind fun t135 => ((computusref07_Name.f k a2).bind fun t136 => (if t135.toList = t136.toList then (if bt130.2 = t134 then (computuslaw07_EpactMatchesReference.j0 k a0 a1 bt130.1 bt132.1 t134 (bt132.2 != t134)) else (computuslaw07_EpactMatchesReference.j0 k a0 a1 bt130.1 bt132.1 t134 true)) else (computuslaw07_EpactMatchesReference.j0 k a0 a1 bt130.1 bt132.1 t134 true))))))) else (none)) = some r := H
  have A4 := Aside0.mk A40
  clear A40
  by_cases c5 : t129 = true
  · subst c5
    have H1 : ((epact_Of.f a0 a1).bind fun bt130 => ((epact_Label.f a0 a1).bind fun bt132 => ((computusref07_Fails.f k a0 a1).bind fun t134 => ((epact_Name.f a2).bind fun t135 => ((computusref07_Name.f k a2).bind fun t136 => (if t135.toList = t136.toList then (if bt130.2 = t134 then (computuslaw07_EpactMatchesReference.j0 k a0 a1 bt130.1 bt132.1 t134 (bt132.2 != t134)) else (computuslaw07_EpactMatchesReference.j0 k a0 a1 bt130.1 bt132.1 t134 true)) else (computuslaw07_EpactMatchesReference.j0 k a0 a1 bt130.1 bt132.1 t134 true))))))) = some r := by rw [if_pos rfl] at H; exact H
    clear H
    have H := H1
    clear H1
    replace H := Option.bind_eq_some_iff.mp H
    obtain ⟨⟨t130, t131⟩, A60, H⟩ := H
    replace H : ((epact_Label.f a0 a1).bind fun bt132 => ((computusref07_Fails.f k a0 a1).bind fun t134 => ((epact_Name.f a2).bind fun t135 => ((computusref07_Name.f k a2).bind fun t136 => (if t135.toList = t136.toList then (if t131 = t134 then (computuslaw07_EpactMatchesReference.j0 k a0 a1 t130 bt132.1 t134 (bt132.2 != t134)) else (computuslaw07_EpactMatchesReference.j0 k a0 a1 t130 bt132.1 t134 true)) else (computuslaw07_EpactMatchesReference.j0 k a0 a1 t130 bt132.1 t134 true)))))) = some r := H
    have A6 := Aside0.mk A60
    clear A60
    replace H := Option.bind_eq_some_iff.mp H
    obtain ⟨⟨t132, t133⟩, A70, H⟩ := H
    replace H : ((computusref07_Fails.f k a0 a1).bind fun t134 => ((epact_Name.f a2).bind fun t135 => ((computusref07_Name.f k a2).bind fun t136 => (if t135.toList = t136.toList then (if t131 = t134 then (computuslaw07_EpactMatchesReference.j0 k a0 a1 t130 t132 t134 (t133 != t134)) else (computuslaw07_EpactMatchesReference.j0 k a0 a1 t130 t132 t134 true)) else (computuslaw07_EpactMatchesReference.j0 k a0 a1 t130 t132 t134 true))))) = some r := H
    have A7 := Aside0.mk A70
    clear A70
    replace H := Option.bind_eq_some_iff.mp H
    obtain ⟨t134, A80, H⟩ := H
    replace H : ((epact_Name.f a2).bind fun t135 => ((computusref07_Name.f k a2).bind fun t136 => (if t135.toList = t136.toList then (if t131 = t134 then (computuslaw07_EpactMatchesReference.j0 k a0 a1 t130 t132 t134 (t133 != t134)) else (computuslaw07_EpactMatchesReference.j0 k a0 a1 t130 t132 t134 true)) else (computuslaw07_EpactMatchesReference.j0 k a0 a1 t130 t132 t134 true)))) = some r := H
    have A8 := Aside0.mk A80
    clear A80
    have HC9 := Aside0.mk H
    clear H
    go_enter Tryd.func3, Tryd.ntmps3
    go_upto_region 6 with (first | ((with_reducible refine gate_callee (f := 8) rfl ?_); refine goesL_ (some 12) rfl rfl Tryd.func8 (by kernel_rfl) rfl #[] rfl (by (try simp only [List.map_toArray, List.map_cons, List.map_nil]); first | done | rfl | (simp only [List.length_drop, List.length_take]; rfl)) ?_; (with_reducible refine (computuslaw07_awake.calls  true _ A4.out).mono ?_); rintro e w10 ⟨rfl, hb⟩; refine ⟨_, rfl, ?_⟩; have n0_ := Aside0.mk (below_step (by repeat (first | (with_reducible first | exact HB.out | apply below_alloc | apply pw_below_drewN | apply below_drew1) | exact HB.out)) hb); clear HB; have HB := n0_; clear n0_; (try clear hb); (try clear hb2); (try clear hk); (try clear hi)) | ((with_reducible refine gate_callee (f := 9) rfl ?_); refine goesL_ (some 17) rfl rfl Tryd.func9 (by kernel_rfl) rfl #[.int .i64 a0, .int .i64 a1] rfl (by (try simp only [List.map_toArray, List.map_cons, List.map_nil]); first | done | rfl | (simp only [List.length_drop, List.length_take]; rfl)) ?_; (with_reducible refine (epact_Of.calls a0 a1 t130 t131 _ A6.out).mono ?_); rintro e w11 ⟨rfl, hb⟩; refine ⟨_, rfl, ?_⟩; have n0_ := Aside0.mk (below_step (by repeat (first | (with_reducible first | exact HB.out | apply below_alloc | apply pw_below_drewN | apply below_drew1) | exact HB.out)) hb); clear HB; have HB := n0_; clear n0_; (try clear hb); (try clear hb2); (try clear hk); (try clear hi)) | ((with_reducible refine gate_callee (f := 10) rfl ?_); refine goesL_ (some 23) rfl rfl Tryd.func10 (by kernel_rfl) rfl #[.int .i64 a0, .int .i64 a1] rfl (by (try simp only [List.map_toArray, List.map_cons, List.map_nil]); first | done | rfl | (simp only [List.length_drop, List.length_take]; rfl)) ?_; (with_reducible refine (epact_Label.calls a0 a1 t132 t133 _ A7.out).mono ?_); rintro e w12 ⟨rfl, hb⟩; refine ⟨_, rfl, ?_⟩; have n0_ := Aside0.mk (below_step (by repeat (first | (with_reducible first | exact HB.out | apply below_alloc | apply pw_below_drewN | apply below_drew1) | exact HB.out)) hb); clear HB; have HB := n0_; clear n0_; (try clear hb); (try clear hb2); (try clear hk); (try clear hi)) | ((with_reducible refine gate_callee (f := 11) rfl ?_); refine goesL_ (some 28) rfl rfl Tryd.func11 (by kernel_rfl) rfl #[.int .i64 a0, .int .i64 a1] rfl (by (try simp only [List.map_toArray, List.map_cons, List.map_nil]); first | done | rfl | (simp only [List.length_drop, List.length_take]; rfl)) ?_; (with_reducible refine (computusref07_Fails.calls k a0 a1 t134 _ A8.out).mono ?_); rintro e w' ⟨rfl, ⟨nd, rfl⟩⟩; refine ⟨_, rfl, ?_⟩))
    (try simp only [Act.put, List.setIfInBounds_toArray, List.set_cons_zero, List.set_cons_succ])
    go_cut [43] (fun v43 wc => ∃ (kq : Nat) (x43_8 : Bool), v43 = .bool x43_8 ∧ Aside0 (computuslaw07_EpactMatchesReference.j0 kq a0 a1 t130 t132 t134 x43_8 = some r) ∧ Aside0 (kq ≤ k) ∧ Aside0 (Below w.heap.size w wc))
    case first =>
      have H := HC9.out
      clear HC9
      replace H := Option.bind_eq_some_iff.mp H
      obtain ⟨t135, A130, H⟩ := H
      replace H : ((computusref07_Name.f k a2).bind fun t136 => (if t135.toList = t136.toList then (if t131 = t134 then (computuslaw07_EpactMatchesReference.j0 k a0 a1 t130 t132 t134 (t133 != t134)) else (computuslaw07_EpactMatchesReference.j0 k a0 a1 t130 t132 t134 true)) else (computuslaw07_EpactMatchesReference.j0 k a0 a1 t130 t132 t134 true))) = some r := H
      have A13 := Aside0.mk A130
      clear A130
      replace H := Option.bind_eq_some_iff.mp H
      obtain ⟨t136, A140, H⟩ := H
      replace H : (if t135.toList = t136.toList then (if t131 = t134 then (computuslaw07_EpactMatchesReference.j0 k a0 a1 t130 t132 t134 (t133 != t134)) else (computuslaw07_EpactMatchesReference.j0 k a0 a1 t130 t132 t134 true)) else (computuslaw07_EpactMatchesReference.j0 k a0 a1 t130 t132 t134 true)) = some r := H
      have A14 := Aside0.mk A140
      clear A140
      by_cases c15 : t135.toList = t136.toList
      · rw [if_pos c15] at H
        have c15b0 : (t135.toList == t136.toList) = true := beq_iff_eq.mpr c15
        have c15b1 : (t135.toList != t136.toList) = false := bne_eq_false_iff_eq.mpr c15
        clear c15
        (first | rw [c15b0] | (simp only [i64_w, i32_w]; rw [c15b0]) | skip)
        by_cases c16 : t131 = t134
        · rw [if_pos c16] at H
          have c16b0 : (t131 == t134) = true := beq_iff_eq.mpr c16
          have c16b1 : (t131 != t134) = false := bne_eq_false_iff_eq.mpr c16
          clear c16
          have H' := Aside0.mk H
          clear H
          go_wp2_with (first | ((with_reducible refine gate_callee (f := 12) rfl ?_); refine goesL_ (some 30) rfl rfl Tryd.func12 (by kernel_rfl) rfl #[.int .i64 a2] rfl (by (try simp only [List.map_toArray, List.map_cons, List.map_nil]); first | done | rfl | (simp only [List.length_drop, List.length_take]; rfl)) ?_; (with_reducible refine (epact_Name.calls a2 t135 _ A13.out).mono ?_); rintro e w17 ⟨rfl, hb⟩; refine ⟨_, rfl, ?_⟩; have n0_ := Aside0.mk (below_step (by repeat (first | (with_reducible first | exact HB.out | apply below_alloc | apply pw_below_drewN | apply below_drew1) | exact HB.out)) hb); clear HB; have HB := n0_; clear n0_; (try clear hb); (try clear hb2); (try clear hk); (try clear hi)) | ((with_reducible refine gate_callee (f := 13) rfl ?_); refine goesL_ (some 32) rfl rfl Tryd.func13 (by kernel_rfl) rfl #[.int .i64 a2] rfl (by (try simp only [List.map_toArray, List.map_cons, List.map_nil]); first | done | rfl | (simp only [List.length_drop, List.length_take]; rfl)) ?_; (with_reducible refine (computusref07_Name.calls k a2 t136 _ A14.out).mono ?_); rintro e w' ⟨rfl, ⟨nd, rfl⟩⟩; refine ⟨_, rfl, ?_⟩))
          go_meet
          case rel => exact ⟨_, ((t133 != t134)), (by first | rfl | (simp; done) | (simp [*]; done)), H', ⟨by first | omega | exact Nat.le_refl _⟩, ⟨by repeat (first | (with_reducible first | exact HB.out | apply below_alloc | apply pw_below_drewN | apply below_drew1) | exact HB.out)⟩⟩
        · rw [if_neg c16] at H
          have c16b0 : (t131 == t134) = false := beq_eq_false_iff_ne.mpr c16
          have c16b1 : (t131 != t134) = true := bne_iff_ne.mpr c16
          have H' := Aside0.mk H
          clear H
          go_wp2_with (first | ((with_reducible refine gate_callee (f := 12) rfl ?_); refine goesL_ (some 30) rfl rfl Tryd.func12 (by kernel_rfl) rfl #[.int .i64 a2] rfl (by (try simp only [List.map_toArray, List.map_cons, List.map_nil]); first | done | rfl | (simp only [List.length_drop, List.length_take]; rfl)) ?_; (with_reducible refine (epact_Name.calls a2 t135 _ A13.out).mono ?_); rintro e w18 ⟨rfl, hb⟩; refine ⟨_, rfl, ?_⟩; have n0_ := Aside0.mk (below_step (by repeat (first | (with_reducible first | exact HB.out | apply below_alloc | apply pw_below_drewN | apply below_drew1) | exact HB.out)) hb); clear HB; have HB := n0_; clear n0_; (try clear hb); (try clear hb2); (try clear hk); (try clear hi)) | ((with_reducible refine gate_callee (f := 13) rfl ?_); refine goesL_ (some 32) rfl rfl Tryd.func13 (by kernel_rfl) rfl #[.int .i64 a2] rfl (by (try simp only [List.map_toArray, List.map_cons, List.map_nil]); first | done | rfl | (simp only [List.length_drop, List.length_take]; rfl)) ?_; (with_reducible refine (computusref07_Name.calls k a2 t136 _ A14.out).mono ?_); rintro e w' ⟨rfl, ⟨nd, rfl⟩⟩; refine ⟨_, rfl, ?_⟩))
          go_meet
          case rel => exact ⟨_, (true), (by first | rfl | (simp; done) | (simp [*]; done)), H', ⟨by first | omega | exact Nat.le_refl _⟩, ⟨by repeat (first | (with_reducible first | exact HB.out | apply below_alloc | apply pw_below_drewN | apply below_drew1) | exact HB.out)⟩⟩
      · rw [if_neg c15] at H
        have c15b0 : (t135.toList == t136.toList) = false := beq_eq_false_iff_ne.mpr c15
        have c15b1 : (t135.toList != t136.toList) = true := bne_iff_ne.mpr c15
        (first | rw [c15b0] | (simp only [i64_w, i32_w]; rw [c15b0]) | skip)
        have H' := Aside0.mk H
        clear H
        go_wp2_with (first | ((with_reducible refine gate_callee (f := 12) rfl ?_); refine goesL_ (some 30) rfl rfl Tryd.func12 (by kernel_rfl) rfl #[.int .i64 a2] rfl (by (try simp only [List.map_toArray, List.map_cons, List.map_nil]); first | done | rfl | (simp only [List.length_drop, List.length_take]; rfl)) ?_; (with_reducible refine (epact_Name.calls a2 t135 _ A13.out).mono ?_); rintro e w19 ⟨rfl, hb⟩; refine ⟨_, rfl, ?_⟩; have n0_ := Aside0.mk (below_step (by repeat (first | (with_reducible first | exact HB.out | apply below_alloc | apply pw_below_drewN | apply below_drew1) | exact HB.out)) hb); clear HB; have HB := n0_; clear n0_; (try clear hb); (try clear hb2); (try clear hk); (try clear hi)) | ((with_reducible refine gate_callee (f := 13) rfl ?_); refine goesL_ (some 32) rfl rfl Tryd.func13 (by kernel_rfl) rfl #[.int .i64 a2] rfl (by (try simp only [List.map_toArray, List.map_cons, List.map_nil]); first | done | rfl | (simp only [List.length_drop, List.length_take]; rfl)) ?_; (with_reducible refine (computusref07_Name.calls k a2 t136 _ A14.out).mono ?_); rintro e w' ⟨rfl, ⟨nd, rfl⟩⟩; refine ⟨_, rfl, ?_⟩))
        go_meet
        case rel => exact ⟨_, (true), (by first | rfl | (simp; done) | (simp [*]; done)), H', ⟨by first | omega | exact Nat.le_refl _⟩, ⟨by repeat (first | (with_reducible first | exact HB.out | apply below_alloc | apply pw_below_drewN | apply below_drew1) | exact HB.out)⟩⟩
    case rest =>
      clear HC9
      try clear c1
      try clear p2
      try clear c3
      try clear c5
      try clear c8
      try clear c9
      try clear c10
      try clear c11
      try clear c12
      try clear c13
      try clear c15
      try clear c15b0
      try clear c15b1
      try clear c16
      try clear c16b0
      try clear c16b1
      obtain ⟨kq, x43_8, rfl, HA, HJ8, HB⟩ := hcut
      cases kq with
      | zero => exact absurd HA.out (by simp [computuslaw07_EpactMatchesReference.j0])
      | succ kj8 =>
        have H := HA.out
        clear HA
        simp only [computuslaw07_EpactMatchesReference.j0] at H
        by_cases c20 : x43_8 = true
        · subst c20
          have H1 : (none) = some r := by rw [if_pos rfl] at H; exact H
          clear H
          have H := H1
          clear H1
          exact absurd H (by simp)
        · replace c20 := Bool.eq_false_iff.mpr c20
          subst c20
          have H1 : (if t134 = 0 then ((computusref07_Of.f a0 a1).bind fun t137 => (if t130 = t137 then ((computusref07_Label.f a0 a1).bind fun t138 => (some (t132 == t138))) else (none))) else (if t130 = 0 then (some (t132 == 0)) else (none))) = some r := by rw [if_neg (show ¬ (false = true) by decide)] at H; exact H
          clear H
          have H := H1
          clear H1
          by_cases c21 : t134 = 0
          · rw [if_pos c21] at H
            have c21b0 : (t134 == 0) = true := beq_iff_eq.mpr c21
            have c21b1 : (t134 != 0) = false := bne_eq_false_iff_eq.mpr c21
            clear c21
            replace H := Option.bind_eq_some_iff.mp H
            obtain ⟨t137, A220, H⟩ := H
            replace H : (if t130 = t137 then ((computusref07_Label.f a0 a1).bind fun t138 => (some (t132 == t138))) else (none)) = some r := H
            have A22 := Aside0.mk A220
            clear A220
            by_cases c23 : t130 = t137
            · rw [if_pos c23] at H
              have c23b0 : (t130 == t137) = true := beq_iff_eq.mpr c23
              have c23b1 : (t130 != t137) = false := bne_eq_false_iff_eq.mpr c23
              clear c23
              replace H := Option.bind_eq_some_iff.mp H
              obtain ⟨t138, A240, H⟩ := H
              replace H : (some (t132 == t138)) = some r := H
              have A24 := Aside0.mk A240
              clear A240
              obtain rfl := Option.some.inj H
              go_wp2_with (first | ((with_reducible refine gate_callee (f := 14) rfl ?_); refine goesL_ (some 55) rfl rfl Tryd.func14 (by kernel_rfl) rfl #[.int .i64 a0, .int .i64 a1] rfl (by (try simp only [List.map_toArray, List.map_cons, List.map_nil]); first | done | rfl | (simp only [List.length_drop, List.length_take]; rfl)) ?_; (with_reducible refine (computusref07_Of.calls a0 a1 t137 _ A22.out).mono ?_); rintro e w' ⟨rfl, ⟨nd, rfl⟩⟩; refine ⟨_, rfl, ?_⟩) | (go_at_call 15; (with_reducible refine (computusref07_Label.calls a0 a1 t138 _ A24.out).mono ?_); rintro e w' ⟨rfl, ⟨nd, rfl⟩⟩))
              go_ret
              exact ⟨by first | rfl | (simp [errW_none, errW_some] <;> rfl) | (simp [*, errW_none, errW_some] <;> rfl), by repeat (first | (with_reducible first | exact HB.out | apply below_alloc | apply pw_below_drewN | apply below_drew1) | exact HB.out)⟩
            · rw [if_neg c23] at H
              exact absurd H (by simp)
          · rw [if_neg c21] at H
            have c21b0 : (t134 == 0) = false := beq_eq_false_iff_ne.mpr c21
            have c21b1 : (t134 != 0) = true := bne_iff_ne.mpr c21
            by_cases c25 : t130 = 0
            · rw [if_pos c25] at H
              have c25b0 : (t130 == 0) = true := beq_iff_eq.mpr c25
              have c25b1 : (t130 != 0) = false := bne_eq_false_iff_eq.mpr c25
              clear c25
              obtain rfl := Option.some.inj H
              go_wp2
              go_ret
              exact ⟨by first | rfl | (simp [errW_none, errW_some] <;> rfl) | (simp [*, errW_none, errW_some] <;> rfl), by repeat (first | (with_reducible first | exact HB.out | apply below_alloc | apply pw_below_drewN | apply below_drew1) | exact HB.out)⟩
            · rw [if_neg c25] at H
              exact absurd H (by simp)
  · replace c5 := Bool.eq_false_iff.mpr c5
    subst c5
    have H1 : (none) = some r := by rw [if_neg (show ¬ (false = true) by decide)] at H; exact H
    clear H
    have H := H1
    clear H1
    exact absurd H (by simp)

def computuslaw07_EpactMatchesReference.Pure : Prop := ∀ (a0 : Int) (a1 : Int) (a2 : Int), (Lit.int .i64 a0).wf = true → (Lit.int .i64 a1).wf = true → (Lit.int .i64 a2).wf = true → ∃ k, computuslaw07_EpactMatchesReference.f k a0 a1 a2 = some true

end Go.Proofs.YtepmkfbhkifjaaaDoor.Q
