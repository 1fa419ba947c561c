-- Written by wip/tool/qprint.py: the print of the kit, with hand-proved contracts put in. Lean checks it.
import Derived.Test.YtkpicinbckedoaaQx0
import Derived.Test.YtkpicinbckedoaaQx8
import Derived.Test.YtkpicinbckedoaaQx9
import Derived.Test.YtkpicinbckedoaaQx11
import Derived.Test.YtkpicinbckedoaaQx12
namespace Go.Proofs.Ytkpicinbckedoaa.Q
open Go.RowKit Go.Proofs.YtkpicinbckedoaaW.PrintWords Go.Proofs.YtkpicinbckedoaaW.PrintLast Go.Proofs.YtkpicinbckedoaaW.PrintMore
attribute [local go_sem] max2_int min2_int max_two min_two max_three min_three max_four min_four   -- for this text's walks alone
set_option linter.unusedVariables false
set_option linter.unusedSimpArgs false

/-! ### computusref03_ToDay: function 66 -/
def computusref03_ToDay.l0 : Nat → Int → Int → Int → Int → Int → Option (Int × Int)
  | 0, _, _, _, _, _ => none
  | k + 1, x4, x5, x898000, x898001, x898002 => if x5 < x898001 then ((computusref03_Leap.f x898000).bind fun t901 => ((computusref02_Length.f k t901 x5).bind fun t902 => (computusref03_ToDay.l0 k (wrap64 (x4 + t902)) (wrap64 (x5 + 1)) x898000 x898001 x898002))) else (some (wrap64 ((wrap64 (x4 + x898002)) - 1), 0))
def computusref03_ToDay.f (k : Nat) (a0_0 : Int) (a0_1 : Int) (a0_2 : Int) : Option (Int × Int) := (computusref02_In.f a0_0).bind fun t898 => (if t898 = true then ((computusref03_Valid.f k a0_0 a0_1 a0_2).bind fun t899 => (if t899 = true then ((computusref03_First.f a0_0).bind fun t900 => (computusref03_ToDay.l0 k t900 1 a0_0 a0_1 a0_2)) else (some (0, 2)))) else (some (0, 1)))
theorem computusref03_ToDay.mono_l : ∀ k, (∀ y0 y1 y2 y3 y4, LeO (computusref03_ToDay.l0 k y0 y1 y2 y3 y4) (computusref03_ToDay.l0 (k + 1) y0 y1 y2 y3 y4))
  | 0 => fun _ _ _ _ _ r h => by simp [computusref03_ToDay.l0] at h
  | k + 1 => by
    have ih0 := computusref03_ToDay.mono_l k
    · intro y0 y1 y2 y3 y4
      unfold computusref03_ToDay.l0
      repeat' first
      | (with_reducible exact ih0 _ _ _ _ _)
      | (with_reducible exact computusref02_Length.mono _ _ _)
      | (with_reducible exact computusref03_Valid.mono _ _ _ _)
      | (with_reducible exact LeO.refl _)
      | (with_reducible exact LeO.none _)
      | (with_reducible refine LeO.ite ?_ ?_)
      | (with_reducible refine LeO.bind ?_ (fun _ => ?_))
      | exact ih0 _ _ _ _ _
      | exact computusref02_Length.mono _ _ _
      | exact computusref03_Valid.mono _ _ _ _
      | exact LeO.none _
      | refine LeO.ite ?_ ?_
      | refine LeO.bind ?_ (fun _ => ?_)
theorem computusref03_ToDay.mono : ∀ a0 a1 a2 k, LeO (computusref03_ToDay.f k a0 a1 a2) (computusref03_ToDay.f (k + 1) a0 a1 a2) := by
  intro a0 a1 a2 k
  have ih0 := computusref03_ToDay.mono_l k
  unfold computusref03_ToDay.f
  repeat' first
      | (with_reducible exact ih0 _ _ _ _ _)
      | (with_reducible exact computusref02_Length.mono _ _ _)
      | (with_reducible exact computusref03_Valid.mono _ _ _ _)
      | (with_reducible exact LeO.refl _)
      | (with_reducible exact LeO.none _)
      | (with_reducible refine LeO.ite ?_ ?_)
      | (with_reducible refine LeO.bind ?_ (fun _ => ?_))
      | exact ih0 _ _ _ _ _
      | exact computusref02_Length.mono _ _ _
      | exact computusref03_Valid.mono _ _ _ _
      | exact LeO.none _
      | refine LeO.ite ?_ ?_
      | refine LeO.bind ?_ (fun _ => ?_)
set_option maxHeartbeats 8000000 in
set_option maxRecDepth 100000 in
theorem computusref03_ToDay.calls (k : Nat) (a0_0 : Int) (a0_1 : Int) (a0_2 : Int) (r1 : Int) (r2 : Int) (w : World) (h : computusref03_ToDay.f k a0_0 a0_1 a0_2 = some (r1, r2)) :
    Calls Try.prog 66 #[.agg #[.int .i64 a0_0, .int .i64 a0_1, .int .i64 a0_2]] w fun e w' => e = .returned (.tuple #[.int .i64 r1, .int .i64 r2]) ∧ Below w.heap.size w w' := by
  have hu98 := Try.underlying98
  have HB := Aside0.mk (Below.refl w.heap.size w)
  have H : ((computusref02_In.f a0_0).bind fun t898 => (if t898 = true then ((computusref03_Valid.f k a0_0 a0_1 a0_2).bind fun t899 => (if t899 = true then ((computusref03_First.f a0_0).bind fun t900 => (computusref03_ToDay.l0 k t900 1 a0_0 a0_1 a0_2)) else (some (0, 2)))) else (some (0, 1)))) = some (r1, r2) := h
  clear h
  replace H := Option.bind_eq_some_iff.mp H
  obtain ⟨t898, A20, H⟩ := H
  replace H : (if t898 = true then ((computusref03_Valid.f k a0_0 a0_1 a0_2).bind fun t899 => (if t899 = true then ((computusref03_First.f a0_0).bind fun t900 => (computusref03_ToDay.l0 k t900 1 a0_0 a0_1 a0_2)) else (some (0, 2)))) else (some (0, 1))) = some (r1, r2) := H
  have A2 := Aside0.mk A20
  clear A20
  by_cases c3 : t898 = true
  · subst c3
    have H1 : ((computusref03_Valid.f k a0_0 a0_1 a0_2).bind fun t899 => (if t899 = true then ((computusref03_First.f a0_0).bind fun t900 => (computusref03_ToDay.l0 k t900 1 a0_0 a0_1 a0_2)) else (some (0, 2)))) = some (r1, r2) := by rw [if_pos rfl] at H; exact H
    clear H
    have H := H1
    clear H1
    replace H := Option.bind_eq_some_iff.mp H
    obtain ⟨t899, A40, H⟩ := H
    replace H : (if t899 = true then ((computusref03_First.f a0_0).bind fun t900 => (computusref03_ToDay.l0 k t900 1 a0_0 a0_1 a0_2)) else (some (0, 2))) = some (r1, r2) := H
    have A4 := Aside0.mk A40
    clear A40
    by_cases c5 : t899 = true
    · subst c5
      have H1 : ((computusref03_First.f a0_0).bind fun t900 => (computusref03_ToDay.l0 k t900 1 a0_0 a0_1 a0_2)) = some (r1, r2) := by rw [if_pos rfl] at H; exact H
      clear H
      have H := H1
      clear H1
      replace H := Option.bind_eq_some_iff.mp H
      obtain ⟨t900, A60, H⟩ := H
      replace H : (computusref03_ToDay.l0 k t900 1 a0_0 a0_1 a0_2) = some (r1, r2) := H
      have A6 := Aside0.mk A60
      clear A60
      have H' := Aside0.mk H
      clear H
      go_enter Try.func66, Try.ntmps66
      go_wp2_with (first | ((with_reducible refine gate_dst (N := 1) rfl ?_); refine box_event ?hg (N := 1) ?hd (cs := #[.int .i64 a0_0, .int .i64 a0_1, .int .i64 a0_2]) (t := 98) ?hr ?_; (case hd => rfl); (case hg => rfl); (case hr => first | (go_simp; done) | (go_simp; rfl)); intro gb897 hg w7 hbox hb; have n0_ := Aside0.mk (below_step (by repeat (first | (with_reducible first | exact HB.out | apply below_alloc | apply pw_below_drewN | apply below_drew1) | exact HB.out)) hb); have n1_ := Aside0.mk (hbox); have n2_ := Aside0.mk ((by rw [hg]; exact (below_size (by repeat (first | (with_reducible first | exact HB.out | apply below_alloc | apply pw_below_drewN | apply below_drew1) | exact HB.out))) : w.heap.size ≤ gb897)); have n3_ := Aside0.mk ((by rw [hg]; exact (below_size (by repeat (first | (with_reducible first | exact HB.out | apply below_alloc | apply pw_below_drewN | apply below_drew1) | exact HB.out))) : w.heap.size ≤ gb897)); clear HB; have HB := n0_; have BK897 := n1_; have GW897 := n2_; have GE897 := n3_; clear n0_ n1_ n2_ n3_; clear hb hbox hg; have hcz8_0 : w7.cell? ⟨gb897, 0, none⟩ = some (.int .i64 a0_0) := (blk_cell BK897.out 0).trans rfl; have hcz8_1 : w7.cell? ⟨gb897, 1, none⟩ = some (.int .i64 a0_1) := (blk_cell BK897.out 1).trans rfl; have hcz8_2 : w7.cell? ⟨gb897, 2, none⟩ = some (.int .i64 a0_2) := (blk_cell BK897.out 2).trans rfl; have hfz8_0 := blk_frozen BK897.out 0; have hfz8_1 := blk_frozen BK897.out 1; have hfz8_2 := blk_frozen BK897.out 2) | ((with_reducible refine gate_callee (f := 68) rfl ?_); refine goesL_ (some 8) rfl rfl Try.func68 (by kernel_rfl) rfl #[.int .i64 a0_0] rfl (by (try simp only [List.map_toArray, List.map_cons, List.map_nil]); first | done | rfl | (simp only [List.length_drop, List.length_take]; rfl)) ?_; (with_reducible refine (computusref02_In.calls a0_0 true _ A2.out).mono ?_); rintro e w' ⟨rfl, ⟨nd, rfl⟩⟩; refine ⟨_, rfl, ?_⟩) | ((with_reducible refine gate_callee (f := 69) rfl ?_); refine goesL_ (some 11) rfl rfl Try.func69 (by kernel_rfl) rfl #[.agg #[.int .i64 a0_0, .int .i64 a0_1, .int .i64 a0_2]] rfl (by (try simp only [List.map_toArray, List.map_cons, List.map_nil]); first | done | rfl | (simp only [List.length_drop, List.length_take]; rfl)) ?_; (with_reducible refine (computusref03_Valid.calls k a0_0 a0_1 a0_2 true _ A4.out).mono ?_); rintro e w9 ⟨rfl, hb⟩; refine ⟨_, rfl, ?_⟩; have n0_ := Aside0.mk (blk_below (g := gb897) (o := .cells #[.int .i64 a0_0, .int .i64 a0_1, .int .i64 a0_2] 98 (0, 0)) (by (with_reducible repeat (first | refine blk_drewN ?_ _ | refine blk_drew ?_ | refine blk_alloc ?_ _)); exact BK897.out) hb); have n1_ := Aside0.mk (below_step (by repeat (first | (with_reducible first | exact HB.out | apply below_alloc | apply pw_below_drewN | apply below_drew1 | refine below_set ?_ GE897.out) | exact HB.out)) hb); clear BK897; clear HB; have BK897 := n0_; have HB := n1_; clear n0_ n1_; (try clear hb); (try clear hb2); (try clear hk); (try clear hi); have hcz10_0 : w9.cell? ⟨gb897, 0, none⟩ = some (.int .i64 a0_0) := (blk_cell BK897.out 0).trans rfl; have hcz10_1 : w9.cell? ⟨gb897, 1, none⟩ = some (.int .i64 a0_1) := (blk_cell BK897.out 1).trans rfl; have hcz10_2 : w9.cell? ⟨gb897, 2, none⟩ = some (.int .i64 a0_2) := (blk_cell BK897.out 2).trans rfl; have hfz10_0 := blk_frozen BK897.out 0; have hfz10_1 := blk_frozen BK897.out 1; have hfz10_2 := blk_frozen BK897.out 2) | ((with_reducible refine gate_callee (f := 67) rfl ?_); refine goesL_ (some 15) rfl rfl Try.func67 (by kernel_rfl) rfl #[.int .i64 a0_0] rfl (by (try simp only [List.map_toArray, List.map_cons, List.map_nil]); first | done | rfl | (simp only [List.length_drop, List.length_take]; rfl)) ?_; (with_reducible refine (computusref03_First.calls a0_0 t900 _ A6.out).mono ?_); rintro e w' ⟨rfl, ⟨nd, rfl⟩⟩; refine ⟨_, rfl, ?_⟩))
      go_loopg [4, 5] k (fun kq v4 v5 w' => ∃ (x4_1 : Int) (x5_1 : Int), v4 = .int .i64 x4_1 ∧ v5 = .int .i64 x5_1 ∧ Aside0 (computusref03_ToDay.l0 kq x4_1 x5_1 a0_0 a0_1 a0_2 = some (r1, r2)) ∧ Aside0 (kq ≤ k) ∧ Aside0 (w'.heap[gb897]? = some (.cells #[.int .i64 a0_0, .int .i64 a0_1, .int .i64 a0_2] 98 (0, 0))) ∧ Aside0 (Below w.heap.size w w'))
      case atStart => exact ⟨(t900), (1), (by first | rfl | (simp; done) | (simp [*]; done)), (by first | rfl | (simp; done) | (simp [*]; done)), H', ⟨Nat.le_refl _⟩, ⟨by (with_reducible repeat (first | refine blk_drewN ?_ _ | refine blk_drew ?_ | refine blk_alloc ?_ _)); exact BK897.out⟩, ⟨by repeat (first | (with_reducible first | exact HB.out | apply below_alloc | apply pw_below_drewN | apply below_drew1 | refine below_set ?_ GE897.out) | exact HB.out)⟩⟩
      case round =>
        clear H'
        try clear p2
        try clear c3
        try clear c5
        try clear c6
        try clear hcz10_0
        try clear hcz10_1
        try clear hcz10_2
        try clear hcz8_0
        try clear hcz8_1
        try clear hcz8_2
        try clear hfz10_0
        try clear hfz10_1
        try clear hfz10_2
        try clear hfz8_0
        try clear hfz8_1
        try clear hfz8_2
        obtain ⟨x4_1, x5_1, rfl, rfl, HA, HK1, BK897, HB⟩ := hrel
        cases gk with
        | zero => exact absurd HA.out (by simp [computusref03_ToDay.l0])
        | succ k1 =>
          have H := HA.out
          clear HA
          simp only [computusref03_ToDay.l0] at H
          by_cases c11 : x5_1 < a0_1
          · rw [if_pos c11] at H
            have c11b0 : decide (x5_1 < a0_1) = true := decide_eq_true c11
            clear c11
            replace H := Option.bind_eq_some_iff.mp H
            obtain ⟨t901, A120, H⟩ := H
            replace H : ((computusref02_Length.f k1 t901 x5_1).bind fun t902 => (computusref03_ToDay.l0 k1 (wrap64 (x4_1 + t902)) (wrap64 (x5_1 + 1)) a0_0 a0_1 a0_2)) = some (r1, r2) := H
            have A12 := Aside0.mk A120
            clear A120
            replace H := Option.bind_eq_some_iff.mp H
            obtain ⟨t902, A130, H⟩ := H
            replace H : (computusref03_ToDay.l0 k1 (wrap64 (x4_1 + t902)) (wrap64 (x5_1 + 1)) a0_0 a0_1 a0_2) = some (r1, r2) := H
            have A13 := Aside0.mk A130
            clear A130
            have H' := Aside0.mk H
            clear H
            have hcz14_0 : wr.cell? ⟨gb897, 0, none⟩ = some (.int .i64 a0_0) := (blk_cell BK897.out 0).trans rfl
            have hcz14_1 : wr.cell? ⟨gb897, 1, none⟩ = some (.int .i64 a0_1) := (blk_cell BK897.out 1).trans rfl
            have hcz14_2 : wr.cell? ⟨gb897, 2, none⟩ = some (.int .i64 a0_2) := (blk_cell BK897.out 2).trans rfl
            have hfz14_0 := blk_frozen BK897.out 0
            have hfz14_1 := blk_frozen BK897.out 1
            have hfz14_2 := blk_frozen BK897.out 2
            go_wp2_with (first | ((with_reducible refine gate_callee (f := 70) rfl ?_); refine goesL_ (some 25) rfl rfl Try.func70 (by kernel_rfl) rfl #[.int .i64 a0_0] rfl (by (try simp only [List.map_toArray, List.map_cons, List.map_nil]); first | done | rfl | (simp only [List.length_drop, List.length_take]; rfl)) ?_; (with_reducible refine (computusref03_Leap.calls a0_0 t901 _ A12.out).mono ?_); rintro e w' ⟨rfl, ⟨nd, rfl⟩⟩; refine ⟨_, rfl, ?_⟩) | ((with_reducible refine gate_callee (f := 65) rfl ?_); refine goesL_ (some 27) rfl rfl Try.func65 (by kernel_rfl) rfl #[.bool t901, .int .i64 x5_1] rfl (by (try simp only [List.map_toArray, List.map_cons, List.map_nil]); first | done | rfl | (simp only [List.length_drop, List.length_take]; rfl)) ?_; (with_reducible refine (computusref02_Length.calls k1 t901 x5_1 t902 _ A13.out).mono ?_); rintro e w' ⟨rfl, ⟨nd, rfl⟩⟩; refine ⟨_, rfl, ?_⟩))
            go_roundg k1
            case measure => have := HK1.out; omega
            case rel => exact ⟨(wrap64 (x4_1 + t902)), (wrap64 (x5_1 + 1)), (by first | rfl | (simp; done) | (simp [*]; done)), (by first | rfl | (simp; done) | (simp [*]; done)), H', ⟨by have := HK1.out; omega⟩, ⟨by (with_reducible repeat (first | refine blk_drewN ?_ _ | refine blk_drew ?_ | refine blk_alloc ?_ _)); exact BK897.out⟩, ⟨by repeat (first | (with_reducible first | exact HB.out | apply below_alloc | apply pw_below_drewN | apply below_drew1 | refine below_set ?_ GE897.out) | exact HB.out)⟩⟩
          · rw [if_neg c11] at H
            have c11b0 : decide (x5_1 < a0_1) = false := decide_eq_false c11
            clear c11
            simp only [Option.some.injEq, Prod.mk.injEq] at H
            obtain ⟨rfl, rfl⟩ := H
            have hcz15_0 : wr.cell? ⟨gb897, 0, none⟩ = some (.int .i64 a0_0) := (blk_cell BK897.out 0).trans rfl
            have hcz15_1 : wr.cell? ⟨gb897, 1, none⟩ = some (.int .i64 a0_1) := (blk_cell BK897.out 1).trans rfl
            have hcz15_2 : wr.cell? ⟨gb897, 2, none⟩ = some (.int .i64 a0_2) := (blk_cell BK897.out 2).trans rfl
            have hfz15_0 := blk_frozen BK897.out 0
            have hfz15_1 := blk_frozen BK897.out 1
            have hfz15_2 := blk_frozen BK897.out 2
            go_wp2
            go_ret2
            exact ⟨by first | rfl | (simp [errW_none, errW_some] <;> rfl) | (simp [*, errW_none, errW_some] <;> rfl), by repeat (first | (with_reducible first | exact HB.out | apply below_alloc | apply pw_below_drewN | apply below_drew1 | refine below_set ?_ GE897.out) | exact HB.out)⟩
    · replace c5 := Bool.eq_false_iff.mpr c5
      subst c5
      have H1 : (some (0, 2)) = some (r1, r2) := by rw [if_neg (show ¬ (false = true) by decide)] at H; exact H
      clear H
      have H := H1
      clear H1
      simp only [Option.some.injEq, Prod.mk.injEq] at H
      obtain ⟨rfl, rfl⟩ := H
      go_enter Try.func66, Try.ntmps66
      go_wp2_with (first | ((with_reducible refine gate_dst (N := 1) rfl ?_); refine box_event ?hg (N := 1) ?hd (cs := #[.int .i64 a0_0, .int .i64 a0_1, .int .i64 a0_2]) (t := 98) ?hr ?_; (case hd => rfl); (case hg => rfl); (case hr => first | (go_simp; done) | (go_simp; rfl)); intro gb897 hg w16 hbox hb; have n0_ := Aside0.mk (below_step (by repeat (first | (with_reducible first | exact HB.out | apply below_alloc | apply pw_below_drewN | apply below_drew1) | exact HB.out)) hb); have n1_ := Aside0.mk (hbox); have n2_ := Aside0.mk ((by rw [hg]; exact (below_size (by repeat (first | (with_reducible first | exact HB.out | apply below_alloc | apply pw_below_drewN | apply below_drew1) | exact HB.out))) : w.heap.size ≤ gb897)); have n3_ := Aside0.mk ((by rw [hg]; exact (below_size (by repeat (first | (with_reducible first | exact HB.out | apply below_alloc | apply pw_below_drewN | apply below_drew1) | exact HB.out))) : w.heap.size ≤ gb897)); clear HB; have HB := n0_; have BK897 := n1_; have GW897 := n2_; have GE897 := n3_; clear n0_ n1_ n2_ n3_; clear hb hbox hg; have hcz17_0 : w16.cell? ⟨gb897, 0, none⟩ = some (.int .i64 a0_0) := (blk_cell BK897.out 0).trans rfl; have hcz17_1 : w16.cell? ⟨gb897, 1, none⟩ = some (.int .i64 a0_1) := (blk_cell BK897.out 1).trans rfl; have hcz17_2 : w16.cell? ⟨gb897, 2, none⟩ = some (.int .i64 a0_2) := (blk_cell BK897.out 2).trans rfl; have hfz17_0 := blk_frozen BK897.out 0; have hfz17_1 := blk_frozen BK897.out 1; have hfz17_2 := blk_frozen BK897.out 2) | ((with_reducible refine gate_callee (f := 68) rfl ?_); refine goesL_ (some 8) rfl rfl Try.func68 (by kernel_rfl) rfl #[.int .i64 a0_0] rfl (by (try simp only [List.map_toArray, List.map_cons, List.map_nil]); first | done | rfl | (simp only [List.length_drop, List.length_take]; rfl)) ?_; (with_reducible refine (computusref02_In.calls a0_0 true _ A2.out).mono ?_); rintro e w' ⟨rfl, ⟨nd, rfl⟩⟩; refine ⟨_, rfl, ?_⟩) | ((with_reducible refine gate_callee (f := 69) rfl ?_); refine goesL_ (some 11) rfl rfl Try.func69 (by kernel_rfl) rfl #[.agg #[.int .i64 a0_0, .int .i64 a0_1, .int .i64 a0_2]] rfl (by (try simp only [List.map_toArray, List.map_cons, List.map_nil]); first | done | rfl | (simp only [List.length_drop, List.length_take]; rfl)) ?_; (with_reducible refine (computusref03_Valid.calls k a0_0 a0_1 a0_2 false _ A4.out).mono ?_); rintro e w18 ⟨rfl, hb⟩; refine ⟨_, rfl, ?_⟩; have n0_ := Aside0.mk (blk_below (g := gb897) (o := .cells #[.int .i64 a0_0, .int .i64 a0_1, .int .i64 a0_2] 98 (0, 0)) (by (with_reducible repeat (first | refine blk_drewN ?_ _ | refine blk_drew ?_ | refine blk_alloc ?_ _)); exact BK897.out) hb); have n1_ := Aside0.mk (below_step (by repeat (first | (with_reducible first | exact HB.out | apply below_alloc | apply pw_below_drewN | apply below_drew1 | refine below_set ?_ GE897.out) | exact HB.out)) hb); clear BK897; clear HB; have BK897 := n0_; have HB := n1_; clear n0_ n1_; (try clear hb); (try clear hb2); (try clear hk); (try clear hi)))
      go_ret2
      exact ⟨by first | rfl | (simp [errW_none, errW_some] <;> rfl) | (simp [*, errW_none, errW_some] <;> rfl), by repeat (first | (with_reducible first | exact HB.out | apply below_alloc | apply pw_below_drewN | apply below_drew1 | refine below_set ?_ GE897.out) | exact HB.out)⟩
  · replace c3 := Bool.eq_false_iff.mpr c3
    subst c3
    have H1 : (some (0, 1)) = some (r1, r2) := by rw [if_neg (show ¬ (false = true) by decide)] at H; exact H
    clear H
    have H := H1
    clear H1
    simp only [Option.some.injEq, Prod.mk.injEq] at H
    obtain ⟨rfl, rfl⟩ := H
    go_enter Try.func66, Try.ntmps66
    go_wp2_with (first | ((with_reducible refine gate_dst (N := 1) rfl ?_); refine box_event ?hg (N := 1) ?hd (cs := #[.int .i64 a0_0, .int .i64 a0_1, .int .i64 a0_2]) (t := 98) ?hr ?_; (case hd => rfl); (case hg => rfl); (case hr => first | (go_simp; done) | (go_simp; rfl)); intro gb897 hg w19 hbox hb; have n0_ := Aside0.mk (below_step (by repeat (first | (with_reducible first | exact HB.out | apply below_alloc | apply pw_below_drewN | apply below_drew1) | exact HB.out)) hb); have n1_ := Aside0.mk (hbox); have n2_ := Aside0.mk ((by rw [hg]; exact (below_size (by repeat (first | (with_reducible first | exact HB.out | apply below_alloc | apply pw_below_drewN | apply below_drew1) | exact HB.out))) : w.heap.size ≤ gb897)); have n3_ := Aside0.mk ((by rw [hg]; exact (below_size (by repeat (first | (with_reducible first | exact HB.out | apply below_alloc | apply pw_below_drewN | apply below_drew1) | exact HB.out))) : w.heap.size ≤ gb897)); clear HB; have HB := n0_; have BK897 := n1_; have GW897 := n2_; have GE897 := n3_; clear n0_ n1_ n2_ n3_; clear hb hbox hg; have hcz20_0 : w19.cell? ⟨gb897, 0, none⟩ = some (.int .i64 a0_0) := (blk_cell BK897.out 0).trans rfl; have hcz20_1 : w19.cell? ⟨gb897, 1, none⟩ = some (.int .i64 a0_1) := (blk_cell BK897.out 1).trans rfl; have hcz20_2 : w19.cell? ⟨gb897, 2, none⟩ = some (.int .i64 a0_2) := (blk_cell BK897.out 2).trans rfl; have hfz20_0 := blk_frozen BK897.out 0; have hfz20_1 := blk_frozen BK897.out 1; have hfz20_2 := blk_frozen BK897.out 2) | ((with_reducible refine gate_callee (f := 68) rfl ?_); refine goesL_ (some 8) rfl rfl Try.func68 (by kernel_rfl) rfl #[.int .i64 a0_0] rfl (by (try simp only [List.map_toArray, List.map_cons, List.map_nil]); first | done | rfl | (simp only [List.length_drop, List.length_take]; rfl)) ?_; (with_reducible refine (computusref02_In.calls a0_0 false _ A2.out).mono ?_); rintro e w' ⟨rfl, ⟨nd, rfl⟩⟩; refine ⟨_, rfl, ?_⟩))
    go_ret2
    exact ⟨by first | rfl | (simp [errW_none, errW_some] <;> rfl) | (simp [*, errW_none, errW_some] <;> rfl), by repeat (first | (with_reducible first | exact HB.out | apply below_alloc | apply pw_below_drewN | apply below_drew1 | refine below_set ?_ GE897.out) | exact HB.out)⟩

end Go.Proofs.Ytkpicinbckedoaa.Q
