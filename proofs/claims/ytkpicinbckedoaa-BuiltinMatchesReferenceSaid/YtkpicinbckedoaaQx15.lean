-- Written by wip/tool/qprint.py: the print of the kit, with hand-proved contracts put in. Lean checks it.
import Derived.Test.YtkpicinbckedoaaQx0
import Derived.Test.YtkpicinbckedoaaQx9
import Derived.Test.YtkpicinbckedoaaQx14
namespace Go.Proofs.Ytkpicinbckedoaa.Q
open Go.RowKit Go.Proofs.YtkpicinbckedoaaW.PrintWords Go.Proofs.YtkpicinbckedoaaW.PrintLast Go.Proofs.YtkpicinbckedoaaW.PrintMore
attribute [local go_sem] max2_int min2_int max_two min_two max_three min_three max_four min_four   -- for this text's walks alone
set_option linter.unusedVariables false
set_option linter.unusedSimpArgs false

/-! ### computusref16_Check: function 59 -/
mutual
def computusref16_Check.j0 : Nat → Bool → Int → Int → Int → Int → Int → Int → Option (Bool)
  | 0, _, _, _, _, _, _, _ => none
  | k + 1, x45, x907000, x907001, x907002, x907003, x907004, x907005 => if x45 = true then (some false) else (if x907000 = 1 then (if x907004 = 0 then (some (x907005 == 0)) else (some false)) else ((computusref16_ofYear.f k x907001 x907002).bind fun t908 => (if x907000 = 3 then (if x907004 < 0 then (computusref16_Check.j1 k t908 true x907000 x907001 x907002 x907003 x907004 x907005) else (computusref16_Check.j1 k t908 (decide (x907004 > 6)) x907000 x907001 x907002 x907003 x907004 x907005)) else (computusref16_Check.j1 k t908 true x907000 x907001 x907002 x907003 x907004 x907005))))
def computusref16_Check.j1 : Nat → Int → Bool → Int → Int → Int → Int → Int → Int → Option (Bool)
  | 0, _, _, _, _, _, _, _, _ => none
  | k + 1, x3, x74, x907000, x907001, x907002, x907003, x907004, x907005 => if x74 = true then (some false) else (if x907005 ≥ 1 then (if x907005 ≤ 8 then (some (decide ((wrap64 ((wrap64 (x3 + 6)) + (wrap64 (7 * (wrap64 (x907005 - 1)))))) ≤ 365))) else (if x907005 ≤ (-1) then (if x907005 ≥ (-8) then (some (decide ((wrap64 ((wrap64 (x3 - 6)) - (wrap64 (7 * (wrap64 ((wrap64 (-x907005)) - 1)))))) ≥ 1))) else (some false)) else (some false))) else (if x907005 ≤ (-1) then (if x907005 ≥ (-8) then (some (decide ((wrap64 ((wrap64 (x3 - 6)) - (wrap64 (7 * (wrap64 ((wrap64 (-x907005)) - 1)))))) ≥ 1))) else (some false)) else (some false)))
end
def computusref16_Check.f (k : Nat) (a0_0 : Int) (a0_1 : Int) (a0_2 : Int) (a0_3 : Int) (a0_4 : Int) (a0_5 : Int) : Option (Bool) := if a0_0 = 2 then (if a0_1 = 0 then (if a0_2 = 0 then (if a0_4 = 0 then (if a0_5 = 0 then (if a0_3 ≥ (-80) then (some (decide (a0_3 ≤ 250))) else (some false)) else (some false)) else (some false)) else (some false)) else (some false)) else ((computusref08_Exists.f k a0_1 a0_2).bind fun t907 => (if t907 = true then (computusref16_Check.j0 k (a0_3 != 0) a0_0 a0_1 a0_2 a0_3 a0_4 a0_5) else (computusref16_Check.j0 k true a0_0 a0_1 a0_2 a0_3 a0_4 a0_5)))
theorem computusref16_Check.mono_l : ∀ k, (∀ y0 y1 y2 y3 y4 y5 y6, LeO (computusref16_Check.j0 k y0 y1 y2 y3 y4 y5 y6) (computusref16_Check.j0 (k + 1) y0 y1 y2 y3 y4 y5 y6)) ∧ (∀ y0 y1 y2 y3 y4 y5 y6 y7, LeO (computusref16_Check.j1 k y0 y1 y2 y3 y4 y5 y6 y7) (computusref16_Check.j1 (k + 1) y0 y1 y2 y3 y4 y5 y6 y7))
  | 0 => ⟨fun _ _ _ _ _ _ _ r h => by simp [computusref16_Check.j0] at h, fun _ _ _ _ _ _ _ _ r h => by simp [computusref16_Check.j1] at h⟩
  | k + 1 => by
    obtain ⟨ih0, ih1⟩ := computusref16_Check.mono_l k
    refine ⟨?_, ?_⟩
    · intro y0 y1 y2 y3 y4 y5 y6
      unfold computusref16_Check.j0
      repeat' first
      | (with_reducible exact ih0 _ _ _ _ _ _ _)
      | (with_reducible exact ih1 _ _ _ _ _ _ _ _)
      | (with_reducible exact computusref08_Exists.mono _ _ _)
      | (with_reducible exact computusref16_ofYear.mono _ _ _)
      | (with_reducible exact LeO.refl _)
      | (with_reducible exact LeO.none _)
      | (with_reducible refine LeO.ite ?_ ?_)
      | (with_reducible refine LeO.bind ?_ (fun _ => ?_))
      | exact ih0 _ _ _ _ _ _ _
      | exact ih1 _ _ _ _ _ _ _ _
      | exact computusref08_Exists.mono _ _ _
      | exact computusref16_ofYear.mono _ _ _
      | exact LeO.none _
      | refine LeO.ite ?_ ?_
      | refine LeO.bind ?_ (fun _ => ?_)
    · intro y0 y1 y2 y3 y4 y5 y6 y7
      unfold computusref16_Check.j1
      repeat' first
      | (with_reducible exact ih0 _ _ _ _ _ _ _)
      | (with_reducible exact ih1 _ _ _ _ _ _ _ _)
      | (with_reducible exact computusref08_Exists.mono _ _ _)
      | (with_reducible exact computusref16_ofYear.mono _ _ _)
      | (with_reducible exact LeO.refl _)
      | (with_reducible exact LeO.none _)
      | (with_reducible refine LeO.ite ?_ ?_)
      | (with_reducible refine LeO.bind ?_ (fun _ => ?_))
      | exact ih0 _ _ _ _ _ _ _
      | exact ih1 _ _ _ _ _ _ _ _
      | exact computusref08_Exists.mono _ _ _
      | exact computusref16_ofYear.mono _ _ _
      | exact LeO.none _
      | refine LeO.ite ?_ ?_
      | refine LeO.bind ?_ (fun _ => ?_)
theorem computusref16_Check.mono : ∀ a0 a1 a2 a3 a4 a5 k, LeO (computusref16_Check.f k a0 a1 a2 a3 a4 a5) (computusref16_Check.f (k + 1) a0 a1 a2 a3 a4 a5) := by
  intro a0 a1 a2 a3 a4 a5 k
  obtain ⟨ih0, ih1⟩ := computusref16_Check.mono_l k
  unfold computusref16_Check.f
  repeat' first
      | (with_reducible exact ih0 _ _ _ _ _ _ _)
      | (with_reducible exact ih1 _ _ _ _ _ _ _ _)
      | (with_reducible exact computusref08_Exists.mono _ _ _)
      | (with_reducible exact computusref16_ofYear.mono _ _ _)
      | (with_reducible exact LeO.refl _)
      | (with_reducible exact LeO.none _)
      | (with_reducible refine LeO.ite ?_ ?_)
      | (with_reducible refine LeO.bind ?_ (fun _ => ?_))
      | exact ih0 _ _ _ _ _ _ _
      | exact ih1 _ _ _ _ _ _ _ _
      | exact computusref08_Exists.mono _ _ _
      | exact computusref16_ofYear.mono _ _ _
      | exact LeO.none _
      | refine LeO.ite ?_ ?_
      | refine LeO.bind ?_ (fun _ => ?_)
set_option maxHeartbeats 8000000 in
set_option maxRecDepth 100000 in
theorem computusref16_Check.calls (k : Nat) (a0_0 : Int) (a0_1 : Int) (a0_2 : Int) (a0_3 : Int) (a0_4 : Int) (a0_5 : Int) (r : Bool) (w : World) (h : computusref16_Check.f k a0_0 a0_1 a0_2 a0_3 a0_4 a0_5 = some r) :
    Calls Try.prog 59 #[.agg #[.int .i64 a0_0, .int .i64 a0_1, .int .i64 a0_2, .int .i64 a0_3, .int .i64 a0_4, .int .i64 a0_5]] w fun e w' => e = .returned (.bool r) ∧ Below w.heap.size w w' := by
  have hu31 := Try.underlying31
  have HB := Aside0.mk (Below.refl w.heap.size w)
  have H : (if a0_0 = 2 then (if a0_1 = 0 then (if a0_2 = 0 then (if a0_4 = 0 then (if a0_5 = 0 then (if a0_3 ≥ (-80) then (some (decide (a0_3 ≤ 250))) else (some false)) else (some false)) else (some false)) else (some false)) else (some false)) else ((computusref08_Exists.f k a0_1 a0_2).bind fun t907 => (if t907 = true then (computusref16_Check.j0 k (a0_3 != 0) a0_0 a0_1 a0_2 a0_3 a0_4 a0_5) else (computusref16_Check.j0 k true a0_0 a0_1 a0_2 a0_3 a0_4 a0_5)))) = some r := h
  clear h
  by_cases c2 : a0_0 = 2
  · rw [if_pos c2] at H
    have c2b0 : (a0_0 == 2) = true := beq_iff_eq.mpr c2
    have c2b1 : (a0_0 != 2) = false := bne_eq_false_iff_eq.mpr c2
    clear c2
    by_cases c3 : a0_1 = 0
    · rw [if_pos c3] at H
      have c3b0 : (a0_1 == 0) = true := beq_iff_eq.mpr c3
      have c3b1 : (a0_1 != 0) = false := bne_eq_false_iff_eq.mpr c3
      clear c3
      by_cases c4 : a0_2 = 0
      · rw [if_pos c4] at H
        have c4b0 : (a0_2 == 0) = true := beq_iff_eq.mpr c4
        have c4b1 : (a0_2 != 0) = false := bne_eq_false_iff_eq.mpr c4
        clear c4
        by_cases c5 : a0_4 = 0
        · rw [if_pos c5] at H
          have c5b0 : (a0_4 == 0) = true := beq_iff_eq.mpr c5
          have c5b1 : (a0_4 != 0) = false := bne_eq_false_iff_eq.mpr c5
          clear c5
          by_cases c6 : a0_5 = 0
          · rw [if_pos c6] at H
            have c6b0 : (a0_5 == 0) = true := beq_iff_eq.mpr c6
            have c6b1 : (a0_5 != 0) = false := bne_eq_false_iff_eq.mpr c6
            clear c6
            by_cases c7 : a0_3 ≥ (-80)
            · rw [if_pos c7] at H
              have c7b0 : decide ((-80) ≤ a0_3) = true := decide_eq_true c7
              clear c7
              obtain rfl := Option.some.inj H
              go_enter Try.func59, Try.ntmps59
              go_wp2_with (first | ((with_reducible refine gate_dst (N := 1) rfl ?_); refine box_event ?hg (N := 1) ?hd (cs := #[.int .i64 a0_0, .int .i64 a0_1, .int .i64 a0_2, .int .i64 a0_3, .int .i64 a0_4, .int .i64 a0_5]) (t := 31) ?hr ?_; (case hd => rfl); (case hg => rfl); (case hr => first | (go_simp; done) | (go_simp; rfl)); intro gb906 hg w8 hbox hb; have n0_ := Aside0.mk (below_step (by repeat (first | (with_reducible first | exact HB.out | apply below_alloc | apply pw_below_drewN | apply below_drew1) | exact HB.out)) hb); have n1_ := Aside0.mk (hbox); have n2_ := Aside0.mk ((by rw [hg]; exact (below_size (by repeat (first | (with_reducible first | exact HB.out | apply below_alloc | apply pw_below_drewN | apply below_drew1) | exact HB.out))) : w.heap.size ≤ gb906)); have n3_ := Aside0.mk ((by rw [hg]; exact (below_size (by repeat (first | (with_reducible first | exact HB.out | apply below_alloc | apply pw_below_drewN | apply below_drew1) | exact HB.out))) : w.heap.size ≤ gb906)); clear HB; have HB := n0_; have BK906 := n1_; have GW906 := n2_; have GE906 := n3_; clear n0_ n1_ n2_ n3_; clear hb hbox hg; have hcz9_0 : w8.cell? ⟨gb906, 0, none⟩ = some (.int .i64 a0_0) := (blk_cell BK906.out 0).trans rfl; have hcz9_1 : w8.cell? ⟨gb906, 1, none⟩ = some (.int .i64 a0_1) := (blk_cell BK906.out 1).trans rfl; have hcz9_2 : w8.cell? ⟨gb906, 2, none⟩ = some (.int .i64 a0_2) := (blk_cell BK906.out 2).trans rfl; have hcz9_3 : w8.cell? ⟨gb906, 3, none⟩ = some (.int .i64 a0_3) := (blk_cell BK906.out 3).trans rfl; have hcz9_4 : w8.cell? ⟨gb906, 4, none⟩ = some (.int .i64 a0_4) := (blk_cell BK906.out 4).trans rfl; have hcz9_5 : w8.cell? ⟨gb906, 5, none⟩ = some (.int .i64 a0_5) := (blk_cell BK906.out 5).trans rfl; have hfz9_0 := blk_frozen BK906.out 0; have hfz9_1 := blk_frozen BK906.out 1; have hfz9_2 := blk_frozen BK906.out 2; have hfz9_3 := blk_frozen BK906.out 3; have hfz9_4 := blk_frozen BK906.out 4; have hfz9_5 := blk_frozen BK906.out 5))
              go_ret
              exact ⟨by first | rfl | (simp [errW_none, errW_some] <;> rfl) | (simp [*, errW_none, errW_some] <;> rfl), by repeat (first | (with_reducible first | exact HB.out | apply below_alloc | apply pw_below_drewN | apply below_drew1 | refine below_set ?_ GE906.out) | exact HB.out)⟩
            · rw [if_neg c7] at H
              have c7b0 : decide ((-80) ≤ a0_3) = false := decide_eq_false c7
              clear c7
              obtain rfl := Option.some.inj H
              go_enter Try.func59, Try.ntmps59
              go_wp2_with (first | ((with_reducible refine gate_dst (N := 1) rfl ?_); refine box_event ?hg (N := 1) ?hd (cs := #[.int .i64 a0_0, .int .i64 a0_1, .int .i64 a0_2, .int .i64 a0_3, .int .i64 a0_4, .int .i64 a0_5]) (t := 31) ?hr ?_; (case hd => rfl); (case hg => rfl); (case hr => first | (go_simp; done) | (go_simp; rfl)); intro gb906 hg w10 hbox hb; have n0_ := Aside0.mk (below_step (by repeat (first | (with_reducible first | exact HB.out | apply below_alloc | apply pw_below_drewN | apply below_drew1) | exact HB.out)) hb); have n1_ := Aside0.mk (hbox); have n2_ := Aside0.mk ((by rw [hg]; exact (below_size (by repeat (first | (with_reducible first | exact HB.out | apply below_alloc | apply pw_below_drewN | apply below_drew1) | exact HB.out))) : w.heap.size ≤ gb906)); have n3_ := Aside0.mk ((by rw [hg]; exact (below_size (by repeat (first | (with_reducible first | exact HB.out | apply below_alloc | apply pw_below_drewN | apply below_drew1) | exact HB.out))) : w.heap.size ≤ gb906)); clear HB; have HB := n0_; have BK906 := n1_; have GW906 := n2_; have GE906 := n3_; clear n0_ n1_ n2_ n3_; clear hb hbox hg; have hcz11_0 : w10.cell? ⟨gb906, 0, none⟩ = some (.int .i64 a0_0) := (blk_cell BK906.out 0).trans rfl; have hcz11_1 : w10.cell? ⟨gb906, 1, none⟩ = some (.int .i64 a0_1) := (blk_cell BK906.out 1).trans rfl; have hcz11_2 : w10.cell? ⟨gb906, 2, none⟩ = some (.int .i64 a0_2) := (blk_cell BK906.out 2).trans rfl; have hcz11_3 : w10.cell? ⟨gb906, 3, none⟩ = some (.int .i64 a0_3) := (blk_cell BK906.out 3).trans rfl; have hcz11_4 : w10.cell? ⟨gb906, 4, none⟩ = some (.int .i64 a0_4) := (blk_cell BK906.out 4).trans rfl; have hcz11_5 : w10.cell? ⟨gb906, 5, none⟩ = some (.int .i64 a0_5) := (blk_cell BK906.out 5).trans rfl; have hfz11_0 := blk_frozen BK906.out 0; have hfz11_1 := blk_frozen BK906.out 1; have hfz11_2 := blk_frozen BK906.out 2; have hfz11_3 := blk_frozen BK906.out 3; have hfz11_4 := blk_frozen BK906.out 4; have hfz11_5 := blk_frozen BK906.out 5))
              go_ret
              exact ⟨by first | rfl | (simp [errW_none, errW_some] <;> rfl) | (simp [*, errW_none, errW_some] <;> rfl), by repeat (first | (with_reducible first | exact HB.out | apply below_alloc | apply pw_below_drewN | apply below_drew1 | refine below_set ?_ GE906.out) | exact HB.out)⟩
          · rw [if_neg c6] at H
            have c6b0 : (a0_5 == 0) = false := beq_eq_false_iff_ne.mpr c6
            have c6b1 : (a0_5 != 0) = true := bne_iff_ne.mpr c6
            obtain rfl := Option.some.inj H
            go_enter Try.func59, Try.ntmps59
            go_wp2_with (first | ((with_reducible refine gate_dst (N := 1) rfl ?_); refine box_event ?hg (N := 1) ?hd (cs := #[.int .i64 a0_0, .int .i64 a0_1, .int .i64 a0_2, .int .i64 a0_3, .int .i64 a0_4, .int .i64 a0_5]) (t := 31) ?hr ?_; (case hd => rfl); (case hg => rfl); (case hr => first | (go_simp; done) | (go_simp; rfl)); intro gb906 hg w12 hbox hb; have n0_ := Aside0.mk (below_step (by repeat (first | (with_reducible first | exact HB.out | apply below_alloc | apply pw_below_drewN | apply below_drew1) | exact HB.out)) hb); have n1_ := Aside0.mk (hbox); have n2_ := Aside0.mk ((by rw [hg]; exact (below_size (by repeat (first | (with_reducible first | exact HB.out | apply below_alloc | apply pw_below_drewN | apply below_drew1) | exact HB.out))) : w.heap.size ≤ gb906)); have n3_ := Aside0.mk ((by rw [hg]; exact (below_size (by repeat (first | (with_reducible first | exact HB.out | apply below_alloc | apply pw_below_drewN | apply below_drew1) | exact HB.out))) : w.heap.size ≤ gb906)); clear HB; have HB := n0_; have BK906 := n1_; have GW906 := n2_; have GE906 := n3_; clear n0_ n1_ n2_ n3_; clear hb hbox hg; have hcz13_0 : w12.cell? ⟨gb906, 0, none⟩ = some (.int .i64 a0_0) := (blk_cell BK906.out 0).trans rfl; have hcz13_1 : w12.cell? ⟨gb906, 1, none⟩ = some (.int .i64 a0_1) := (blk_cell BK906.out 1).trans rfl; have hcz13_2 : w12.cell? ⟨gb906, 2, none⟩ = some (.int .i64 a0_2) := (blk_cell BK906.out 2).trans rfl; have hcz13_3 : w12.cell? ⟨gb906, 3, none⟩ = some (.int .i64 a0_3) := (blk_cell BK906.out 3).trans rfl; have hcz13_4 : w12.cell? ⟨gb906, 4, none⟩ = some (.int .i64 a0_4) := (blk_cell BK906.out 4).trans rfl; have hcz13_5 : w12.cell? ⟨gb906, 5, none⟩ = some (.int .i64 a0_5) := (blk_cell BK906.out 5).trans rfl; have hfz13_0 := blk_frozen BK906.out 0; have hfz13_1 := blk_frozen BK906.out 1; have hfz13_2 := blk_frozen BK906.out 2; have hfz13_3 := blk_frozen BK906.out 3; have hfz13_4 := blk_frozen BK906.out 4; have hfz13_5 := blk_frozen BK906.out 5))
            go_ret
            exact ⟨by first | rfl | (simp [errW_none, errW_some] <;> rfl) | (simp [*, errW_none, errW_some] <;> rfl), by repeat (first | (with_reducible first | exact HB.out | apply below_alloc | apply pw_below_drewN | apply below_drew1 | refine below_set ?_ GE906.out) | exact HB.out)⟩
        · rw [if_neg c5] at H
          have c5b0 : (a0_4 == 0) = false := beq_eq_false_iff_ne.mpr c5
          have c5b1 : (a0_4 != 0) = true := bne_iff_ne.mpr c5
          obtain rfl := Option.some.inj H
          go_enter Try.func59, Try.ntmps59
          go_wp2_with (first | ((with_reducible refine gate_dst (N := 1) rfl ?_); refine box_event ?hg (N := 1) ?hd (cs := #[.int .i64 a0_0, .int .i64 a0_1, .int .i64 a0_2, .int .i64 a0_3, .int .i64 a0_4, .int .i64 a0_5]) (t := 31) ?hr ?_; (case hd => rfl); (case hg => rfl); (case hr => first | (go_simp; done) | (go_simp; rfl)); intro gb906 hg w14 hbox hb; have n0_ := Aside0.mk (below_step (by repeat (first | (with_reducible first | exact HB.out | apply below_alloc | apply pw_below_drewN | apply below_drew1) | exact HB.out)) hb); have n1_ := Aside0.mk (hbox); have n2_ := Aside0.mk ((by rw [hg]; exact (below_size (by repeat (first | (with_reducible first | exact HB.out | apply below_alloc | apply pw_below_drewN | apply below_drew1) | exact HB.out))) : w.heap.size ≤ gb906)); have n3_ := Aside0.mk ((by rw [hg]; exact (below_size (by repeat (first | (with_reducible first | exact HB.out | apply below_alloc | apply pw_below_drewN | apply below_drew1) | exact HB.out))) : w.heap.size ≤ gb906)); clear HB; have HB := n0_; have BK906 := n1_; have GW906 := n2_; have GE906 := n3_; clear n0_ n1_ n2_ n3_; clear hb hbox hg; have hcz15_0 : w14.cell? ⟨gb906, 0, none⟩ = some (.int .i64 a0_0) := (blk_cell BK906.out 0).trans rfl; have hcz15_1 : w14.cell? ⟨gb906, 1, none⟩ = some (.int .i64 a0_1) := (blk_cell BK906.out 1).trans rfl; have hcz15_2 : w14.cell? ⟨gb906, 2, none⟩ = some (.int .i64 a0_2) := (blk_cell BK906.out 2).trans rfl; have hcz15_3 : w14.cell? ⟨gb906, 3, none⟩ = some (.int .i64 a0_3) := (blk_cell BK906.out 3).trans rfl; have hcz15_4 : w14.cell? ⟨gb906, 4, none⟩ = some (.int .i64 a0_4) := (blk_cell BK906.out 4).trans rfl; have hcz15_5 : w14.cell? ⟨gb906, 5, none⟩ = some (.int .i64 a0_5) := (blk_cell BK906.out 5).trans rfl; have hfz15_0 := blk_frozen BK906.out 0; have hfz15_1 := blk_frozen BK906.out 1; have hfz15_2 := blk_frozen BK906.out 2; have hfz15_3 := blk_frozen BK906.out 3; have hfz15_4 := blk_frozen BK906.out 4; have hfz15_5 := blk_frozen BK906.out 5))
          go_ret
          exact ⟨by first | rfl | (simp [errW_none, errW_some] <;> rfl) | (simp [*, errW_none, errW_some] <;> rfl), by repeat (first | (with_reducible first | exact HB.out | apply below_alloc | apply pw_below_drewN | apply below_drew1 | refine below_set ?_ GE906.out) | exact HB.out)⟩
      · rw [if_neg c4] at H
        have c4b0 : (a0_2 == 0) = false := beq_eq_false_iff_ne.mpr c4
        have c4b1 : (a0_2 != 0) = true := bne_iff_ne.mpr c4
        obtain rfl := Option.some.inj H
        go_enter Try.func59, Try.ntmps59
        go_wp2_with (first | ((with_reducible refine gate_dst (N := 1) rfl ?_); refine box_event ?hg (N := 1) ?hd (cs := #[.int .i64 a0_0, .int .i64 a0_1, .int .i64 a0_2, .int .i64 a0_3, .int .i64 a0_4, .int .i64 a0_5]) (t := 31) ?hr ?_; (case hd => rfl); (case hg => rfl); (case hr => first | (go_simp; done) | (go_simp; rfl)); intro gb906 hg w16 hbox hb; have n0_ := Aside0.mk (below_step (by repeat (first | (with_reducible first | exact HB.out | apply below_alloc | apply pw_below_drewN | apply below_drew1) | exact HB.out)) hb); have n1_ := Aside0.mk (hbox); have n2_ := Aside0.mk ((by rw [hg]; exact (below_size (by repeat (first | (with_reducible first | exact HB.out | apply below_alloc | apply pw_below_drewN | apply below_drew1) | exact HB.out))) : w.heap.size ≤ gb906)); have n3_ := Aside0.mk ((by rw [hg]; exact (below_size (by repeat (first | (with_reducible first | exact HB.out | apply below_alloc | apply pw_below_drewN | apply below_drew1) | exact HB.out))) : w.heap.size ≤ gb906)); clear HB; have HB := n0_; have BK906 := n1_; have GW906 := n2_; have GE906 := n3_; clear n0_ n1_ n2_ n3_; clear hb hbox hg; have hcz17_0 : w16.cell? ⟨gb906, 0, none⟩ = some (.int .i64 a0_0) := (blk_cell BK906.out 0).trans rfl; have hcz17_1 : w16.cell? ⟨gb906, 1, none⟩ = some (.int .i64 a0_1) := (blk_cell BK906.out 1).trans rfl; have hcz17_2 : w16.cell? ⟨gb906, 2, none⟩ = some (.int .i64 a0_2) := (blk_cell BK906.out 2).trans rfl; have hcz17_3 : w16.cell? ⟨gb906, 3, none⟩ = some (.int .i64 a0_3) := (blk_cell BK906.out 3).trans rfl; have hcz17_4 : w16.cell? ⟨gb906, 4, none⟩ = some (.int .i64 a0_4) := (blk_cell BK906.out 4).trans rfl; have hcz17_5 : w16.cell? ⟨gb906, 5, none⟩ = some (.int .i64 a0_5) := (blk_cell BK906.out 5).trans rfl; have hfz17_0 := blk_frozen BK906.out 0; have hfz17_1 := blk_frozen BK906.out 1; have hfz17_2 := blk_frozen BK906.out 2; have hfz17_3 := blk_frozen BK906.out 3; have hfz17_4 := blk_frozen BK906.out 4; have hfz17_5 := blk_frozen BK906.out 5))
        go_ret
        exact ⟨by first | rfl | (simp [errW_none, errW_some] <;> rfl) | (simp [*, errW_none, errW_some] <;> rfl), by repeat (first | (with_reducible first | exact HB.out | apply below_alloc | apply pw_below_drewN | apply below_drew1 | refine below_set ?_ GE906.out) | exact HB.out)⟩
    · rw [if_neg c3] at H
      have c3b0 : (a0_1 == 0) = false := beq_eq_false_iff_ne.mpr c3
      have c3b1 : (a0_1 != 0) = true := bne_iff_ne.mpr c3
      obtain rfl := Option.some.inj H
      go_enter Try.func59, Try.ntmps59
      go_wp2_with (first | ((with_reducible refine gate_dst (N := 1) rfl ?_); refine box_event ?hg (N := 1) ?hd (cs := #[.int .i64 a0_0, .int .i64 a0_1, .int .i64 a0_2, .int .i64 a0_3, .int .i64 a0_4, .int .i64 a0_5]) (t := 31) ?hr ?_; (case hd => rfl); (case hg => rfl); (case hr => first | (go_simp; done) | (go_simp; rfl)); intro gb906 hg w18 hbox hb; have n0_ := Aside0.mk (below_step (by repeat (first | (with_reducible first | exact HB.out | apply below_alloc | apply pw_below_drewN | apply below_drew1) | exact HB.out)) hb); have n1_ := Aside0.mk (hbox); have n2_ := Aside0.mk ((by rw [hg]; exact (below_size (by repeat (first | (with_reducible first | exact HB.out | apply below_alloc | apply pw_below_drewN | apply below_drew1) | exact HB.out))) : w.heap.size ≤ gb906)); have n3_ := Aside0.mk ((by rw [hg]; exact (below_size (by repeat (first | (with_reducible first | exact HB.out | apply below_alloc | apply pw_below_drewN | apply below_drew1) | exact HB.out))) : w.heap.size ≤ gb906)); clear HB; have HB := n0_; have BK906 := n1_; have GW906 := n2_; have GE906 := n3_; clear n0_ n1_ n2_ n3_; clear hb hbox hg; have hcz19_0 : w18.cell? ⟨gb906, 0, none⟩ = some (.int .i64 a0_0) := (blk_cell BK906.out 0).trans rfl; have hcz19_1 : w18.cell? ⟨gb906, 1, none⟩ = some (.int .i64 a0_1) := (blk_cell BK906.out 1).trans rfl; have hcz19_2 : w18.cell? ⟨gb906, 2, none⟩ = some (.int .i64 a0_2) := (blk_cell BK906.out 2).trans rfl; have hcz19_3 : w18.cell? ⟨gb906, 3, none⟩ = some (.int .i64 a0_3) := (blk_cell BK906.out 3).trans rfl; have hcz19_4 : w18.cell? ⟨gb906, 4, none⟩ = some (.int .i64 a0_4) := (blk_cell BK906.out 4).trans rfl; have hcz19_5 : w18.cell? ⟨gb906, 5, none⟩ = some (.int .i64 a0_5) := (blk_cell BK906.out 5).trans rfl; have hfz19_0 := blk_frozen BK906.out 0; have hfz19_1 := blk_frozen BK906.out 1; have hfz19_2 := blk_frozen BK906.out 2; have hfz19_3 := blk_frozen BK906.out 3; have hfz19_4 := blk_frozen BK906.out 4; have hfz19_5 := blk_frozen BK906.out 5))
      go_ret
      exact ⟨by first | rfl | (simp [errW_none, errW_some] <;> rfl) | (simp [*, errW_none, errW_some] <;> rfl), by repeat (first | (with_reducible first | exact HB.out | apply below_alloc | apply pw_below_drewN | apply below_drew1 | refine below_set ?_ GE906.out) | exact HB.out)⟩
  · rw [if_neg c2] at H
    have c2b0 : (a0_0 == 2) = false := beq_eq_false_iff_ne.mpr c2
    have c2b1 : (a0_0 != 2) = true := bne_iff_ne.mpr c2
    have HC20 := Aside0.mk H
    clear H
    go_enter Try.func59, Try.ntmps59
    go_upto_region 3 with (first | ((with_reducible refine gate_dst (N := 1) rfl ?_); refine box_event ?hg (N := 1) ?hd (cs := #[.int .i64 a0_0, .int .i64 a0_1, .int .i64 a0_2, .int .i64 a0_3, .int .i64 a0_4, .int .i64 a0_5]) (t := 31) ?hr ?_; (case hd => rfl); (case hg => rfl); (case hr => first | (go_simp; done) | (go_simp; rfl)); intro gb906 hg w21 hbox hb; have n0_ := Aside0.mk (below_step (by repeat (first | (with_reducible first | exact HB.out | apply below_alloc | apply pw_below_drewN | apply below_drew1) | exact HB.out)) hb); have n1_ := Aside0.mk (hbox); have n2_ := Aside0.mk ((by rw [hg]; exact (below_size (by repeat (first | (with_reducible first | exact HB.out | apply below_alloc | apply pw_below_drewN | apply below_drew1) | exact HB.out))) : w.heap.size ≤ gb906)); have n3_ := Aside0.mk ((by rw [hg]; exact (below_size (by repeat (first | (with_reducible first | exact HB.out | apply below_alloc | apply pw_below_drewN | apply below_drew1) | exact HB.out))) : w.heap.size ≤ gb906)); clear HB; have HB := n0_; have BK906 := n1_; have GW906 := n2_; have GE906 := n3_; clear n0_ n1_ n2_ n3_; clear hb hbox hg; have hcz22_0 : w21.cell? ⟨gb906, 0, none⟩ = some (.int .i64 a0_0) := (blk_cell BK906.out 0).trans rfl; have hcz22_1 : w21.cell? ⟨gb906, 1, none⟩ = some (.int .i64 a0_1) := (blk_cell BK906.out 1).trans rfl; have hcz22_2 : w21.cell? ⟨gb906, 2, none⟩ = some (.int .i64 a0_2) := (blk_cell BK906.out 2).trans rfl; have hcz22_3 : w21.cell? ⟨gb906, 3, none⟩ = some (.int .i64 a0_3) := (blk_cell BK906.out 3).trans rfl; have hcz22_4 : w21.cell? ⟨gb906, 4, none⟩ = some (.int .i64 a0_4) := (blk_cell BK906.out 4).trans rfl; have hcz22_5 : w21.cell? ⟨gb906, 5, none⟩ = some (.int .i64 a0_5) := (blk_cell BK906.out 5).trans rfl; have hfz22_0 := blk_frozen BK906.out 0; have hfz22_1 := blk_frozen BK906.out 1; have hfz22_2 := blk_frozen BK906.out 2; have hfz22_3 := blk_frozen BK906.out 3; have hfz22_4 := blk_frozen BK906.out 4; have hfz22_5 := blk_frozen BK906.out 5))
    (try simp only [Act.put, List.setIfInBounds_toArray, List.set_cons_zero, List.set_cons_succ])
    go_cut [45] (fun v45 wc => ∃ (kq : Nat) (x45_19 : Bool), v45 = .bool x45_19 ∧ Aside0 (computusref16_Check.j0 kq x45_19 a0_0 a0_1 a0_2 a0_3 a0_4 a0_5 = some r) ∧ Aside0 (kq ≤ k) ∧ Aside0 (wc.heap[gb906]? = some (.cells #[.int .i64 a0_0, .int .i64 a0_1, .int .i64 a0_2, .int .i64 a0_3, .int .i64 a0_4, .int .i64 a0_5] 31 (0, 0))) ∧ Aside0 (Below w.heap.size w wc))
    case first =>
      have H := HC20.out
      clear HC20
      replace H := Option.bind_eq_some_iff.mp H
      obtain ⟨t907, A230, H⟩ := H
      replace H : (if t907 = true then (computusref16_Check.j0 k (a0_3 != 0) a0_0 a0_1 a0_2 a0_3 a0_4 a0_5) else (computusref16_Check.j0 k true a0_0 a0_1 a0_2 a0_3 a0_4 a0_5)) = some r := H
      have A23 := Aside0.mk A230
      clear A230
      by_cases c24 : t907 = true
      · subst c24
        have H1 : (computusref16_Check.j0 k (a0_3 != 0) a0_0 a0_1 a0_2 a0_3 a0_4 a0_5) = some r := by rw [if_pos rfl] at H; exact H
        clear H
        have H := H1
        clear H1
        have H' := Aside0.mk H
        clear H
        have hcz25_0 : w21.cell? ⟨gb906, 0, none⟩ = some (.int .i64 a0_0) := (blk_cell BK906.out 0).trans rfl
        have hcz25_1 : w21.cell? ⟨gb906, 1, none⟩ = some (.int .i64 a0_1) := (blk_cell BK906.out 1).trans rfl
        have hcz25_2 : w21.cell? ⟨gb906, 2, none⟩ = some (.int .i64 a0_2) := (blk_cell BK906.out 2).trans rfl
        have hcz25_3 : w21.cell? ⟨gb906, 3, none⟩ = some (.int .i64 a0_3) := (blk_cell BK906.out 3).trans rfl
        have hcz25_4 : w21.cell? ⟨gb906, 4, none⟩ = some (.int .i64 a0_4) := (blk_cell BK906.out 4).trans rfl
        have hcz25_5 : w21.cell? ⟨gb906, 5, none⟩ = some (.int .i64 a0_5) := (blk_cell BK906.out 5).trans rfl
        have hfz25_0 := blk_frozen BK906.out 0
        have hfz25_1 := blk_frozen BK906.out 1
        have hfz25_2 := blk_frozen BK906.out 2
        have hfz25_3 := blk_frozen BK906.out 3
        have hfz25_4 := blk_frozen BK906.out 4
        have hfz25_5 := blk_frozen BK906.out 5
        go_wp2_with (first | ((with_reducible refine gate_callee (f := 63) rfl ?_); refine goesL_ (some 39) rfl rfl Try.func63 (by kernel_rfl) rfl #[.int .i64 a0_1, .int .i64 a0_2] rfl (by (try simp only [List.map_toArray, List.map_cons, List.map_nil]); first | done | rfl | (simp only [List.length_drop, List.length_take]; rfl)) ?_; (with_reducible refine (computusref08_Exists.calls k a0_1 a0_2 true _ A23.out).mono ?_); rintro e w' ⟨rfl, ⟨nd, rfl⟩⟩; refine ⟨_, rfl, ?_⟩))
        go_meet
        case rel => exact ⟨_, ((a0_3 != 0)), (by first | rfl | (simp; done) | (simp [*]; done)), H', ⟨by first | omega | exact Nat.le_refl _⟩, ⟨by (with_reducible repeat (first | refine blk_drewN ?_ _ | refine blk_drew ?_ | refine blk_alloc ?_ _)); exact BK906.out⟩, ⟨by repeat (first | (with_reducible first | exact HB.out | apply below_alloc | apply pw_below_drewN | apply below_drew1 | refine below_set ?_ GE906.out) | exact HB.out)⟩⟩
      · replace c24 := Bool.eq_false_iff.mpr c24
        subst c24
        have H1 : (computusref16_Check.j0 k true a0_0 a0_1 a0_2 a0_3 a0_4 a0_5) = some r := by rw [if_neg (show ¬ (false = true) by decide)] at H; exact H
        clear H
        have H := H1
        clear H1
        have H' := Aside0.mk H
        clear H
        have hcz26_0 : w21.cell? ⟨gb906, 0, none⟩ = some (.int .i64 a0_0) := (blk_cell BK906.out 0).trans rfl
        have hcz26_1 : w21.cell? ⟨gb906, 1, none⟩ = some (.int .i64 a0_1) := (blk_cell BK906.out 1).trans rfl
        have hcz26_2 : w21.cell? ⟨gb906, 2, none⟩ = some (.int .i64 a0_2) := (blk_cell BK906.out 2).trans rfl
        have hcz26_3 : w21.cell? ⟨gb906, 3, none⟩ = some (.int .i64 a0_3) := (blk_cell BK906.out 3).trans rfl
        have hcz26_4 : w21.cell? ⟨gb906, 4, none⟩ = some (.int .i64 a0_4) := (blk_cell BK906.out 4).trans rfl
        have hcz26_5 : w21.cell? ⟨gb906, 5, none⟩ = some (.int .i64 a0_5) := (blk_cell BK906.out 5).trans rfl
        have hfz26_0 := blk_frozen BK906.out 0
        have hfz26_1 := blk_frozen BK906.out 1
        have hfz26_2 := blk_frozen BK906.out 2
        have hfz26_3 := blk_frozen BK906.out 3
        have hfz26_4 := blk_frozen BK906.out 4
        have hfz26_5 := blk_frozen BK906.out 5
        go_wp2_with (first | ((with_reducible refine gate_callee (f := 63) rfl ?_); refine goesL_ (some 39) rfl rfl Try.func63 (by kernel_rfl) rfl #[.int .i64 a0_1, .int .i64 a0_2] rfl (by (try simp only [List.map_toArray, List.map_cons, List.map_nil]); first | done | rfl | (simp only [List.length_drop, List.length_take]; rfl)) ?_; (with_reducible refine (computusref08_Exists.calls k a0_1 a0_2 false _ A23.out).mono ?_); rintro e w' ⟨rfl, ⟨nd, rfl⟩⟩; refine ⟨_, rfl, ?_⟩))
        go_meet
        case rel => exact ⟨_, (true), (by first | rfl | (simp; done) | (simp [*]; done)), H', ⟨by first | omega | exact Nat.le_refl _⟩, ⟨by (with_reducible repeat (first | refine blk_drewN ?_ _ | refine blk_drew ?_ | refine blk_alloc ?_ _)); exact BK906.out⟩, ⟨by repeat (first | (with_reducible first | exact HB.out | apply below_alloc | apply pw_below_drewN | apply below_drew1 | refine below_set ?_ GE906.out) | exact HB.out)⟩⟩
    case rest =>
      clear HC20
      try clear c2
      try clear c2b0
      try clear c2b1
      try clear p2
      try clear c3
      try clear c3b0
      try clear c3b1
      try clear c4
      try clear c4b0
      try clear c4b1
      try clear c5
      try clear c5b0
      try clear c5b1
      try clear c6
      try clear c6b0
      try clear c6b1
      try clear c7
      try clear c7b0
      try clear c24
      try clear hcz11_0
      try clear hcz11_1
      try clear hcz11_2
      try clear hcz11_3
      try clear hcz11_4
      try clear hcz11_5
      try clear hcz13_0
      try clear hcz13_1
      try clear hcz13_2
      try clear hcz13_3
      try clear hcz13_4
      try clear hcz13_5
      try clear hcz15_0
      try clear hcz15_1
      try clear hcz15_2
      try clear hcz15_3
      try clear hcz15_4
      try clear hcz15_5
      try clear hcz17_0
      try clear hcz17_1
      try clear hcz17_2
      try clear hcz17_3
      try clear hcz17_4
      try clear hcz17_5
      try clear hcz19_0
      try clear hcz19_1
      try clear hcz19_2
      try clear hcz19_3
      try clear hcz19_4
      try clear hcz19_5
      try clear hcz22_0
      try clear hcz22_1
      try clear hcz22_2
      try clear hcz22_3
      try clear hcz22_4
      try clear hcz22_5
      try clear hcz25_0
      try clear hcz25_1
      try clear hcz25_2
      try clear hcz25_3
      try clear hcz25_4
      try clear hcz25_5
      try clear hcz26_0
      try clear hcz26_1
      try clear hcz26_2
      try clear hcz26_3
      try clear hcz26_4
      try clear hcz26_5
      try clear hcz9_0
      try clear hcz9_1
      try clear hcz9_2
      try clear hcz9_3
      try clear hcz9_4
      try clear hcz9_5
      try clear hfz11_0
      try clear hfz11_1
      try clear hfz11_2
      try clear hfz11_3
      try clear hfz11_4
      try clear hfz11_5
      try clear hfz13_0
      try clear hfz13_1
      try clear hfz13_2
      try clear hfz13_3
      try clear hfz13_4
      try clear hfz13_5
      try clear hfz15_0
      try clear hfz15_1
      try clear hfz15_2
      try clear hfz15_3
      try clear hfz15_4
      try clear hfz15_5
      try clear hfz17_0
      try clear hfz17_1
      try clear hfz17_2
      try clear hfz17_3
      try clear hfz17_4
      try clear hfz17_5
      try clear hfz19_0
      try clear hfz19_1
      try clear hfz19_2
      try clear hfz19_3
      try clear hfz19_4
      try clear hfz19_5
      try clear hfz22_0
      try clear hfz22_1
      try clear hfz22_2
      try clear hfz22_3
      try clear hfz22_4
      try clear hfz22_5
      try clear hfz25_0
      try clear hfz25_1
      try clear hfz25_2
      try clear hfz25_3
      try clear hfz25_4
      try clear hfz25_5
      try clear hfz26_0
      try clear hfz26_1
      try clear hfz26_2
      try clear hfz26_3
      try clear hfz26_4
      try clear hfz26_5
      try clear hfz9_0
      try clear hfz9_1
      try clear hfz9_2
      try clear hfz9_3
      try clear hfz9_4
      try clear hfz9_5
      obtain ⟨kq, x45_19, rfl, HA, HJ19, BK906, HB⟩ := hcut
      cases kq with
      | zero => exact absurd HA.out (by simp [computusref16_Check.j0])
      | succ kj19 =>
        have H := HA.out
        clear HA
        simp only [computusref16_Check.j0] at H
        by_cases c27 : x45_19 = true
        · subst c27
          have H1 : (some false) = some r := by rw [if_pos rfl] at H; exact H
          clear H
          have H := H1
          clear H1
          obtain rfl := Option.some.inj H
          go_wp2
          go_ret
          exact ⟨by first | rfl | (simp [errW_none, errW_some] <;> rfl) | (simp [*, errW_none, errW_some] <;> rfl), by repeat (first | (with_reducible first | exact HB.out | apply below_alloc | apply pw_below_drewN | apply below_drew1 | refine below_set ?_ GE906.out) | exact HB.out)⟩
        · replace c27 := Bool.eq_false_iff.mpr c27
          subst c27
          have H1 : (if a0_0 = 1 then (if a0_4 = 0 then (some (a0_5 == 0)) else (some false)) else ((computusref16_ofYear.f kj19 a0_1 a0_2).bind fun t908 => (if a0_0 = 3 then (if a0_4 < 0 then (computusref16_Check.j1 kj19 t908 true a0_0 a0_1 a0_2 a0_3 a0_4 a0_5) else (computusref16_Check.j1 kj19 t908 (decide (a0_4 > 6)) a0_0 a0_1 a0_2 a0_3 a0_4 a0_5)) else (computusref16_Check.j1 kj19 t908 true a0_0 a0_1 a0_2 a0_3 a0_4 a0_5)))) = some r := by rw [if_neg (show ¬ (false = true) by decide)] at H; exact H
          clear H
          have H := H1
          clear H1
          by_cases c28 : a0_0 = 1
          · rw [if_pos c28] at H
            have c28b0 : (a0_0 == 1) = true := beq_iff_eq.mpr c28
            have c28b1 : (a0_0 != 1) = false := bne_eq_false_iff_eq.mpr c28
            clear c28
            by_cases c29 : a0_4 = 0
            · rw [if_pos c29] at H
              have c29b0 : (a0_4 == 0) = true := beq_iff_eq.mpr c29
              have c29b1 : (a0_4 != 0) = false := bne_eq_false_iff_eq.mpr c29
              clear c29
              obtain rfl := Option.some.inj H
              have hcz30_0 : wc.cell? ⟨gb906, 0, none⟩ = some (.int .i64 a0_0) := (blk_cell BK906.out 0).trans rfl
              have hcz30_1 : wc.cell? ⟨gb906, 1, none⟩ = some (.int .i64 a0_1) := (blk_cell BK906.out 1).trans rfl
              have hcz30_2 : wc.cell? ⟨gb906, 2, none⟩ = some (.int .i64 a0_2) := (blk_cell BK906.out 2).trans rfl
              have hcz30_3 : wc.cell? ⟨gb906, 3, none⟩ = some (.int .i64 a0_3) := (blk_cell BK906.out 3).trans rfl
              have hcz30_4 : wc.cell? ⟨gb906, 4, none⟩ = some (.int .i64 a0_4) := (blk_cell BK906.out 4).trans rfl
              have hcz30_5 : wc.cell? ⟨gb906, 5, none⟩ = some (.int .i64 a0_5) := (blk_cell BK906.out 5).trans rfl
              have hfz30_0 := blk_frozen BK906.out 0
              have hfz30_1 := blk_frozen BK906.out 1
              have hfz30_2 := blk_frozen BK906.out 2
              have hfz30_3 := blk_frozen BK906.out 3
              have hfz30_4 := blk_frozen BK906.out 4
              have hfz30_5 := blk_frozen BK906.out 5
              go_wp2
              go_ret
              exact ⟨by first | rfl | (simp [errW_none, errW_some] <;> rfl) | (simp [*, errW_none, errW_some] <;> rfl), by repeat (first | (with_reducible first | exact HB.out | apply below_alloc | apply pw_below_drewN | apply below_drew1 | refine below_set ?_ GE906.out) | exact HB.out)⟩
            · rw [if_neg c29] at H
              have c29b0 : (a0_4 == 0) = false := beq_eq_false_iff_ne.mpr c29
              have c29b1 : (a0_4 != 0) = true := bne_iff_ne.mpr c29
              obtain rfl := Option.some.inj H
              have hcz31_0 : wc.cell? ⟨gb906, 0, none⟩ = some (.int .i64 a0_0) := (blk_cell BK906.out 0).trans rfl
              have hcz31_1 : wc.cell? ⟨gb906, 1, none⟩ = some (.int .i64 a0_1) := (blk_cell BK906.out 1).trans rfl
              have hcz31_2 : wc.cell? ⟨gb906, 2, none⟩ = some (.int .i64 a0_2) := (blk_cell BK906.out 2).trans rfl
              have hcz31_3 : wc.cell? ⟨gb906, 3, none⟩ = some (.int .i64 a0_3) := (blk_cell BK906.out 3).trans rfl
              have hcz31_4 : wc.cell? ⟨gb906, 4, none⟩ = some (.int .i64 a0_4) := (blk_cell BK906.out 4).trans rfl
              have hcz31_5 : wc.cell? ⟨gb906, 5, none⟩ = some (.int .i64 a0_5) := (blk_cell BK906.out 5).trans rfl
              have hfz31_0 := blk_frozen BK906.out 0
              have hfz31_1 := blk_frozen BK906.out 1
              have hfz31_2 := blk_frozen BK906.out 2
              have hfz31_3 := blk_frozen BK906.out 3
              have hfz31_4 := blk_frozen BK906.out 4
              have hfz31_5 := blk_frozen BK906.out 5
              go_wp2
              go_ret
              exact ⟨by first | rfl | (simp [errW_none, errW_some] <;> rfl) | (simp [*, errW_none, errW_some] <;> rfl), by repeat (first | (with_reducible first | exact HB.out | apply below_alloc | apply pw_below_drewN | apply below_drew1 | refine below_set ?_ GE906.out) | exact HB.out)⟩
          · rw [if_neg c28] at H
            have c28b0 : (a0_0 == 1) = false := beq_eq_false_iff_ne.mpr c28
            have c28b1 : (a0_0 != 1) = true := bne_iff_ne.mpr c28
            replace H := Option.bind_eq_some_iff.mp H
            obtain ⟨t908, A320, H⟩ := H
            replace H : (if a0_0 = 3 then (if a0_4 < 0 then (computusref16_Check.j1 kj19 t908 true a0_0 a0_1 a0_2 a0_3 a0_4 a0_5) else (computusref16_Check.j1 kj19 t908 (decide (a0_4 > 6)) a0_0 a0_1 a0_2 a0_3 a0_4 a0_5)) else (computusref16_Check.j1 kj19 t908 true a0_0 a0_1 a0_2 a0_3 a0_4 a0_5)) = some r := H
            have A32 := Aside0.mk A320
            clear A320
            have HC33 := Aside0.mk H
            clear H
            have hcz34_0 : wc.cell? ⟨gb906, 0, none⟩ = some (.int .i64 a0_0) := (blk_cell BK906.out 0).trans rfl
            have hcz34_1 : wc.cell? ⟨gb906, 1, none⟩ = some (.int .i64 a0_1) := (blk_cell BK906.out 1).trans rfl
            have hcz34_2 : wc.cell? ⟨gb906, 2, none⟩ = some (.int .i64 a0_2) := (blk_cell BK906.out 2).trans rfl
            have hcz34_3 : wc.cell? ⟨gb906, 3, none⟩ = some (.int .i64 a0_3) := (blk_cell BK906.out 3).trans rfl
            have hcz34_4 : wc.cell? ⟨gb906, 4, none⟩ = some (.int .i64 a0_4) := (blk_cell BK906.out 4).trans rfl
            have hcz34_5 : wc.cell? ⟨gb906, 5, none⟩ = some (.int .i64 a0_5) := (blk_cell BK906.out 5).trans rfl
            have hfz34_0 := blk_frozen BK906.out 0
            have hfz34_1 := blk_frozen BK906.out 1
            have hfz34_2 := blk_frozen BK906.out 2
            have hfz34_3 := blk_frozen BK906.out 3
            have hfz34_4 := blk_frozen BK906.out 4
            have hfz34_5 := blk_frozen BK906.out 5
            go_upto_region 8 with (first | ((with_reducible refine gate_callee (f := 64) rfl ?_); refine goesL_ (some 61) rfl rfl Try.func64 (by kernel_rfl) rfl #[.int .i64 a0_1, .int .i64 a0_2] rfl (by (try simp only [List.map_toArray, List.map_cons, List.map_nil]); first | done | rfl | (simp only [List.length_drop, List.length_take]; rfl)) ?_; (with_reducible refine (computusref16_ofYear.calls kj19 a0_1 a0_2 t908 _ A32.out).mono ?_); rintro e w35 ⟨rfl, hb⟩; refine ⟨_, rfl, ?_⟩; have n0_ := Aside0.mk (blk_below (g := gb906) (o := .cells #[.int .i64 a0_0, .int .i64 a0_1, .int .i64 a0_2, .int .i64 a0_3, .int .i64 a0_4, .int .i64 a0_5] 31 (0, 0)) (by (with_reducible repeat (first | refine blk_drewN ?_ _ | refine blk_drew ?_ | refine blk_alloc ?_ _)); exact BK906.out) hb); have n1_ := Aside0.mk (below_step (by repeat (first | (with_reducible first | exact HB.out | apply below_alloc | apply pw_below_drewN | apply below_drew1 | refine below_set ?_ GE906.out) | exact HB.out)) hb); clear BK906; clear HB; have BK906 := n0_; have HB := n1_; clear n0_ n1_; (try clear hb); (try clear hb2); (try clear hk); (try clear hi)))
            (try simp only [Act.put, List.setIfInBounds_toArray, List.set_cons_zero, List.set_cons_succ])
            go_cut [74] (fun v74 wc => ∃ (kq : Nat) (x74_32 : Bool), v74 = .bool x74_32 ∧ Aside0 (computusref16_Check.j1 kq t908 x74_32 a0_0 a0_1 a0_2 a0_3 a0_4 a0_5 = some r) ∧ Aside0 (kq ≤ kj19) ∧ Aside0 (wc.heap[gb906]? = some (.cells #[.int .i64 a0_0, .int .i64 a0_1, .int .i64 a0_2, .int .i64 a0_3, .int .i64 a0_4, .int .i64 a0_5] 31 (0, 0))) ∧ Aside0 (Below w.heap.size w wc))
            case first =>
              have H := HC33.out
              clear HC33
              by_cases c36 : a0_0 = 3
              · rw [if_pos c36] at H
                have c36b0 : (a0_0 == 3) = true := beq_iff_eq.mpr c36
                have c36b1 : (a0_0 != 3) = false := bne_eq_false_iff_eq.mpr c36
                clear c36
                (first | rw [c36b0] | (simp only [i64_w, i32_w]; rw [c36b0]) | skip)
                by_cases c37 : a0_4 < 0
                · rw [if_pos c37] at H
                  have c37b0 : decide (a0_4 < 0) = true := decide_eq_true c37
                  clear c37
                  have H' := Aside0.mk H
                  clear H
                  have hcz38_0 : w35.cell? ⟨gb906, 0, none⟩ = some (.int .i64 a0_0) := (blk_cell BK906.out 0).trans rfl
                  have hcz38_1 : w35.cell? ⟨gb906, 1, none⟩ = some (.int .i64 a0_1) := (blk_cell BK906.out 1).trans rfl
                  have hcz38_2 : w35.cell? ⟨gb906, 2, none⟩ = some (.int .i64 a0_2) := (blk_cell BK906.out 2).trans rfl
                  have hcz38_3 : w35.cell? ⟨gb906, 3, none⟩ = some (.int .i64 a0_3) := (blk_cell BK906.out 3).trans rfl
                  have hcz38_4 : w35.cell? ⟨gb906, 4, none⟩ = some (.int .i64 a0_4) := (blk_cell BK906.out 4).trans rfl
                  have hcz38_5 : w35.cell? ⟨gb906, 5, none⟩ = some (.int .i64 a0_5) := (blk_cell BK906.out 5).trans rfl
                  have hfz38_0 := blk_frozen BK906.out 0
                  have hfz38_1 := blk_frozen BK906.out 1
                  have hfz38_2 := blk_frozen BK906.out 2
                  have hfz38_3 := blk_frozen BK906.out 3
                  have hfz38_4 := blk_frozen BK906.out 4
                  have hfz38_5 := blk_frozen BK906.out 5
                  go_wp2
                  go_meet
                  case rel => exact ⟨_, (true), (by first | rfl | (simp; done) | (simp [*]; done)), H', ⟨by have := HJ19.out; first | omega | exact Nat.le_refl _⟩, ⟨by (with_reducible repeat (first | refine blk_drewN ?_ _ | refine blk_drew ?_ | refine blk_alloc ?_ _)); exact BK906.out⟩, ⟨by repeat (first | (with_reducible first | exact HB.out | apply below_alloc | apply pw_below_drewN | apply below_drew1 | refine below_set ?_ GE906.out) | exact HB.out)⟩⟩
                · rw [if_neg c37] at H
                  have c37b0 : decide (a0_4 < 0) = false := decide_eq_false c37
                  clear c37
                  have H' := Aside0.mk H
                  clear H
                  have hcz39_0 : w35.cell? ⟨gb906, 0, none⟩ = some (.int .i64 a0_0) := (blk_cell BK906.out 0).trans rfl
                  have hcz39_1 : w35.cell? ⟨gb906, 1, none⟩ = some (.int .i64 a0_1) := (blk_cell BK906.out 1).trans rfl
                  have hcz39_2 : w35.cell? ⟨gb906, 2, none⟩ = some (.int .i64 a0_2) := (blk_cell BK906.out 2).trans rfl
                  have hcz39_3 : w35.cell? ⟨gb906, 3, none⟩ = some (.int .i64 a0_3) := (blk_cell BK906.out 3).trans rfl
                  have hcz39_4 : w35.cell? ⟨gb906, 4, none⟩ = some (.int .i64 a0_4) := (blk_cell BK906.out 4).trans rfl
                  have hcz39_5 : w35.cell? ⟨gb906, 5, none⟩ = some (.int .i64 a0_5) := (blk_cell BK906.out 5).trans rfl
                  have hfz39_0 := blk_frozen BK906.out 0
                  have hfz39_1 := blk_frozen BK906.out 1
                  have hfz39_2 := blk_frozen BK906.out 2
                  have hfz39_3 := blk_frozen BK906.out 3
                  have hfz39_4 := blk_frozen BK906.out 4
                  have hfz39_5 := blk_frozen BK906.out 5
                  go_wp2
                  go_meet
                  case rel => exact ⟨_, (decide (a0_4 > 6)), (by first | rfl | (simp; done) | (simp [*]; done)), H', ⟨by have := HJ19.out; first | omega | exact Nat.le_refl _⟩, ⟨by (with_reducible repeat (first | refine blk_drewN ?_ _ | refine blk_drew ?_ | refine blk_alloc ?_ _)); exact BK906.out⟩, ⟨by repeat (first | (with_reducible first | exact HB.out | apply below_alloc | apply pw_below_drewN | apply below_drew1 | refine below_set ?_ GE906.out) | exact HB.out)⟩⟩
              · rw [if_neg c36] at H
                have c36b0 : (a0_0 == 3) = false := beq_eq_false_iff_ne.mpr c36
                have c36b1 : (a0_0 != 3) = true := bne_iff_ne.mpr c36
                (first | rw [c36b0] | (simp only [i64_w, i32_w]; rw [c36b0]) | skip)
                have H' := Aside0.mk H
                clear H
                have hcz40_0 : w35.cell? ⟨gb906, 0, none⟩ = some (.int .i64 a0_0) := (blk_cell BK906.out 0).trans rfl
                have hcz40_1 : w35.cell? ⟨gb906, 1, none⟩ = some (.int .i64 a0_1) := (blk_cell BK906.out 1).trans rfl
                have hcz40_2 : w35.cell? ⟨gb906, 2, none⟩ = some (.int .i64 a0_2) := (blk_cell BK906.out 2).trans rfl
                have hcz40_3 : w35.cell? ⟨gb906, 3, none⟩ = some (.int .i64 a0_3) := (blk_cell BK906.out 3).trans rfl
                have hcz40_4 : w35.cell? ⟨gb906, 4, none⟩ = some (.int .i64 a0_4) := (blk_cell BK906.out 4).trans rfl
                have hcz40_5 : w35.cell? ⟨gb906, 5, none⟩ = some (.int .i64 a0_5) := (blk_cell BK906.out 5).trans rfl
                have hfz40_0 := blk_frozen BK906.out 0
                have hfz40_1 := blk_frozen BK906.out 1
                have hfz40_2 := blk_frozen BK906.out 2
                have hfz40_3 := blk_frozen BK906.out 3
                have hfz40_4 := blk_frozen BK906.out 4
                have hfz40_5 := blk_frozen BK906.out 5
                go_wp2
                go_meet
                case rel => exact ⟨_, (true), (by first | rfl | (simp; done) | (simp [*]; done)), H', ⟨by have := HJ19.out; first | omega | exact Nat.le_refl _⟩, ⟨by (with_reducible repeat (first | refine blk_drewN ?_ _ | refine blk_drew ?_ | refine blk_alloc ?_ _)); exact BK906.out⟩, ⟨by repeat (first | (with_reducible first | exact HB.out | apply below_alloc | apply pw_below_drewN | apply below_drew1 | refine below_set ?_ GE906.out) | exact HB.out)⟩⟩
            case rest =>
              clear HC33
              try clear c2
              try clear c2b0
              try clear c2b1
              try clear p2
              try clear c3
              try clear c3b0
              try clear c3b1
              try clear c4
              try clear c4b0
              try clear c4b1
              try clear c5
              try clear c5b0
              try clear c5b1
              try clear c6
              try clear c6b0
              try clear c6b1
              try clear c7
              try clear c7b0
              try clear c24
              try clear c27
              try clear c28
              try clear c28b0
              try clear c28b1
              try clear c29
              try clear c29b0
              try clear c29b1
              try clear c36
              try clear c36b0
              try clear c36b1
              try clear c37
              try clear c37b0
              try clear hcz11_0
              try clear hcz11_1
              try clear hcz11_2
              try clear hcz11_3
              try clear hcz11_4
              try clear hcz11_5
              try clear hcz13_0
              try clear hcz13_1
              try clear hcz13_2
              try clear hcz13_3
              try clear hcz13_4
              try clear hcz13_5
              try clear hcz15_0
              try clear hcz15_1
              try clear hcz15_2
              try clear hcz15_3
              try clear hcz15_4
              try clear hcz15_5
              try clear hcz17_0
              try clear hcz17_1
              try clear hcz17_2
              try clear hcz17_3
              try clear hcz17_4
              try clear hcz17_5
              try clear hcz19_0
              try clear hcz19_1
              try clear hcz19_2
              try clear hcz19_3
              try clear hcz19_4
              try clear hcz19_5
              try clear hcz22_0
              try clear hcz22_1
              try clear hcz22_2
              try clear hcz22_3
              try clear hcz22_4
              try clear hcz22_5
              try clear hcz25_0
              try clear hcz25_1
              try clear hcz25_2
              try clear hcz25_3
              try clear hcz25_4
              try clear hcz25_5
              try clear hcz26_0
              try clear hcz26_1
              try clear hcz26_2
              try clear hcz26_3
              try clear hcz26_4
              try clear hcz26_5
              try clear hcz30_0
              try clear hcz30_1
              try clear hcz30_2
              try clear hcz30_3
              try clear hcz30_4
              try clear hcz30_5
              try clear hcz31_0
              try clear hcz31_1
              try clear hcz31_2
              try clear hcz31_3
              try clear hcz31_4
              try clear hcz31_5
              try clear hcz34_0
              try clear hcz34_1
              try clear hcz34_2
              try clear hcz34_3
              try clear hcz34_4
              try clear hcz34_5
              try clear hcz38_0
              try clear hcz38_1
              try clear hcz38_2
              try clear hcz38_3
              try clear hcz38_4
              try clear hcz38_5
              try clear hcz39_0
              try clear hcz39_1
              try clear hcz39_2
              try clear hcz39_3
              try clear hcz39_4
              try clear hcz39_5
              try clear hcz40_0
              try clear hcz40_1
              try clear hcz40_2
              try clear hcz40_3
              try clear hcz40_4
              try clear hcz40_5
              try clear hcz9_0
              try clear hcz9_1
              try clear hcz9_2
              try clear hcz9_3
              try clear hcz9_4
              try clear hcz9_5
              try clear hfz11_0
              try clear hfz11_1
              try clear hfz11_2
              try clear hfz11_3
              try clear hfz11_4
              try clear hfz11_5
              try clear hfz13_0
              try clear hfz13_1
              try clear hfz13_2
              try clear hfz13_3
              try clear hfz13_4
              try clear hfz13_5
              try clear hfz15_0
              try clear hfz15_1
              try clear hfz15_2
              try clear hfz15_3
              try clear hfz15_4
              try clear hfz15_5
              try clear hfz17_0
              try clear hfz17_1
              try clear hfz17_2
              try clear hfz17_3
              try clear hfz17_4
              try clear hfz17_5
              try clear hfz19_0
              try clear hfz19_1
              try clear hfz19_2
              try clear hfz19_3
              try clear hfz19_4
              try clear hfz19_5
              try clear hfz22_0
              try clear hfz22_1
              try clear hfz22_2
              try clear hfz22_3
              try clear hfz22_4
              try clear hfz22_5
              try clear hfz25_0
              try clear hfz25_1
              try clear hfz25_2
              try clear hfz25_3
              try clear hfz25_4
              try clear hfz25_5
              try clear hfz26_0
              try clear hfz26_1
              try clear hfz26_2
              try clear hfz26_3
              try clear hfz26_4
              try clear hfz26_5
              try clear hfz30_0
              try clear hfz30_1
              try clear hfz30_2
              try clear hfz30_3
              try clear hfz30_4
              try clear hfz30_5
              try clear hfz31_0
              try clear hfz31_1
              try clear hfz31_2
              try clear hfz31_3
              try clear hfz31_4
              try clear hfz31_5
              try clear hfz34_0
              try clear hfz34_1
              try clear hfz34_2
              try clear hfz34_3
              try clear hfz34_4
              try clear hfz34_5
              try clear hfz38_0
              try clear hfz38_1
              try clear hfz38_2
              try clear hfz38_3
              try clear hfz38_4
              try clear hfz38_5
              try clear hfz39_0
              try clear hfz39_1
              try clear hfz39_2
              try clear hfz39_3
              try clear hfz39_4
              try clear hfz39_5
              try clear hfz40_0
              try clear hfz40_1
              try clear hfz40_2
              try clear hfz40_3
              try clear hfz40_4
              try clear hfz40_5
              try clear hfz9_0
              try clear hfz9_1
              try clear hfz9_2
              try clear hfz9_3
              try clear hfz9_4
              try clear hfz9_5
              try clear p2
              obtain ⟨kq, x74_32, rfl, HA, HJ32, BK906, HB⟩ := hcut
              cases kq with
              | zero => exact absurd HA.out (by simp [computusref16_Check.j1])
              | succ kj32 =>
                have H := HA.out
                clear HA
                simp only [computusref16_Check.j1] at H
                by_cases c41 : x74_32 = true
                · subst c41
                  have H1 : (some false) = some r := by rw [if_pos rfl] at H; exact H
                  clear H
                  have H := H1
                  clear H1
                  obtain rfl := Option.some.inj H
                  go_wp2
                  go_ret
                  exact ⟨by first | rfl | (simp [errW_none, errW_some] <;> rfl) | (simp [*, errW_none, errW_some] <;> rfl), by repeat (first | (with_reducible first | exact HB.out | apply below_alloc | apply pw_below_drewN | apply below_drew1 | refine below_set ?_ GE906.out) | exact HB.out)⟩
                · replace c41 := Bool.eq_false_iff.mpr c41
                  subst c41
                  have H1 : (if a0_5 ≥ 1 then (if a0_5 ≤ 8 then (some (decide ((wrap64 ((wrap64 (t908 + 6)) + (wrap64 (7 * (wrap64 (a0_5 - 1)))))) ≤ 365))) else (if a0_5 ≤ (-1) then (if a0_5 ≥ (-8) then (some (decide ((wrap64 ((wrap64 (t908 - 6)) - (wrap64 (7 * (wrap64 ((wrap64 (-a0_5)) - 1)))))) ≥ 1))) else (some false)) else (some false))) else (if a0_5 ≤ (-1) then (if a0_5 ≥ (-8) then (some (decide ((wrap64 ((wrap64 (t908 - 6)) - (wrap64 (7 * (wrap64 ((wrap64 (-a0_5)) - 1)))))) ≥ 1))) else (some false)) else (some false))) = some r := by rw [if_neg (show ¬ (false = true) by decide)] at H; exact H
                  clear H
                  have H := H1
                  clear H1
                  by_cases c42 : a0_5 ≥ 1
                  · rw [if_pos c42] at H
                    have c42b0 : decide (1 ≤ a0_5) = true := decide_eq_true c42
                    clear c42
                    by_cases c43 : a0_5 ≤ 8
                    · rw [if_pos c43] at H
                      have c43b0 : decide (a0_5 ≤ 8) = true := decide_eq_true c43
                      clear c43
                      obtain rfl := Option.some.inj H
                      have hcz44_0 : wc.cell? ⟨gb906, 0, none⟩ = some (.int .i64 a0_0) := (blk_cell BK906.out 0).trans rfl
                      have hcz44_1 : wc.cell? ⟨gb906, 1, none⟩ = some (.int .i64 a0_1) := (blk_cell BK906.out 1).trans rfl
                      have hcz44_2 : wc.cell? ⟨gb906, 2, none⟩ = some (.int .i64 a0_2) := (blk_cell BK906.out 2).trans rfl
                      have hcz44_3 : wc.cell? ⟨gb906, 3, none⟩ = some (.int .i64 a0_3) := (blk_cell BK906.out 3).trans rfl
                      have hcz44_4 : wc.cell? ⟨gb906, 4, none⟩ = some (.int .i64 a0_4) := (blk_cell BK906.out 4).trans rfl
                      have hcz44_5 : wc.cell? ⟨gb906, 5, none⟩ = some (.int .i64 a0_5) := (blk_cell BK906.out 5).trans rfl
                      have hfz44_0 := blk_frozen BK906.out 0
                      have hfz44_1 := blk_frozen BK906.out 1
                      have hfz44_2 := blk_frozen BK906.out 2
                      have hfz44_3 := blk_frozen BK906.out 3
                      have hfz44_4 := blk_frozen BK906.out 4
                      have hfz44_5 := blk_frozen BK906.out 5
                      go_wp2
                      go_ret
                      exact ⟨by first | rfl | (simp [errW_none, errW_some] <;> rfl) | (simp [*, errW_none, errW_some] <;> rfl), by repeat (first | (with_reducible first | exact HB.out | apply below_alloc | apply pw_below_drewN | apply below_drew1 | refine below_set ?_ GE906.out) | exact HB.out)⟩
                    · rw [if_neg c43] at H
                      have c43b0 : decide (a0_5 ≤ 8) = false := decide_eq_false c43
                      clear c43
                      by_cases c45 : a0_5 ≤ (-1)
                      · rw [if_pos c45] at H
                        have c45b0 : decide (a0_5 ≤ (-1)) = true := decide_eq_true c45
                        clear c45
                        by_cases c46 : a0_5 ≥ (-8)
                        · rw [if_pos c46] at H
                          have c46b0 : decide ((-8) ≤ a0_5) = true := decide_eq_true c46
                          clear c46
                          obtain rfl := Option.some.inj H
                          have hcz47_0 : wc.cell? ⟨gb906, 0, none⟩ = some (.int .i64 a0_0) := (blk_cell BK906.out 0).trans rfl
                          have hcz47_1 : wc.cell? ⟨gb906, 1, none⟩ = some (.int .i64 a0_1) := (blk_cell BK906.out 1).trans rfl
                          have hcz47_2 : wc.cell? ⟨gb906, 2, none⟩ = some (.int .i64 a0_2) := (blk_cell BK906.out 2).trans rfl
                          have hcz47_3 : wc.cell? ⟨gb906, 3, none⟩ = some (.int .i64 a0_3) := (blk_cell BK906.out 3).trans rfl
                          have hcz47_4 : wc.cell? ⟨gb906, 4, none⟩ = some (.int .i64 a0_4) := (blk_cell BK906.out 4).trans rfl
                          have hcz47_5 : wc.cell? ⟨gb906, 5, none⟩ = some (.int .i64 a0_5) := (blk_cell BK906.out 5).trans rfl
                          have hfz47_0 := blk_frozen BK906.out 0
                          have hfz47_1 := blk_frozen BK906.out 1
                          have hfz47_2 := blk_frozen BK906.out 2
                          have hfz47_3 := blk_frozen BK906.out 3
                          have hfz47_4 := blk_frozen BK906.out 4
                          have hfz47_5 := blk_frozen BK906.out 5
                          go_wp2
                          go_ret
                          exact ⟨by first | rfl | (simp [errW_none, errW_some] <;> rfl) | (simp [*, errW_none, errW_some] <;> rfl), by repeat (first | (with_reducible first | exact HB.out | apply below_alloc | apply pw_below_drewN | apply below_drew1 | refine below_set ?_ GE906.out) | exact HB.out)⟩
                        · rw [if_neg c46] at H
                          have c46b0 : decide ((-8) ≤ a0_5) = false := decide_eq_false c46
                          clear c46
                          obtain rfl := Option.some.inj H
                          have hcz48_0 : wc.cell? ⟨gb906, 0, none⟩ = some (.int .i64 a0_0) := (blk_cell BK906.out 0).trans rfl
                          have hcz48_1 : wc.cell? ⟨gb906, 1, none⟩ = some (.int .i64 a0_1) := (blk_cell BK906.out 1).trans rfl
                          have hcz48_2 : wc.cell? ⟨gb906, 2, none⟩ = some (.int .i64 a0_2) := (blk_cell BK906.out 2).trans rfl
                          have hcz48_3 : wc.cell? ⟨gb906, 3, none⟩ = some (.int .i64 a0_3) := (blk_cell BK906.out 3).trans rfl
                          have hcz48_4 : wc.cell? ⟨gb906, 4, none⟩ = some (.int .i64 a0_4) := (blk_cell BK906.out 4).trans rfl
                          have hcz48_5 : wc.cell? ⟨gb906, 5, none⟩ = some (.int .i64 a0_5) := (blk_cell BK906.out 5).trans rfl
                          have hfz48_0 := blk_frozen BK906.out 0
                          have hfz48_1 := blk_frozen BK906.out 1
                          have hfz48_2 := blk_frozen BK906.out 2
                          have hfz48_3 := blk_frozen BK906.out 3
                          have hfz48_4 := blk_frozen BK906.out 4
                          have hfz48_5 := blk_frozen BK906.out 5
                          go_wp2
                          go_ret
                          exact ⟨by first | rfl | (simp [errW_none, errW_some] <;> rfl) | (simp [*, errW_none, errW_some] <;> rfl), by repeat (first | (with_reducible first | exact HB.out | apply below_alloc | apply pw_below_drewN | apply below_drew1 | refine below_set ?_ GE906.out) | exact HB.out)⟩
                      · rw [if_neg c45] at H
                        have c45b0 : decide (a0_5 ≤ (-1)) = false := decide_eq_false c45
                        clear c45
                        obtain rfl := Option.some.inj H
                        have hcz49_0 : wc.cell? ⟨gb906, 0, none⟩ = some (.int .i64 a0_0) := (blk_cell BK906.out 0).trans rfl
                        have hcz49_1 : wc.cell? ⟨gb906, 1, none⟩ = some (.int .i64 a0_1) := (blk_cell BK906.out 1).trans rfl
                        have hcz49_2 : wc.cell? ⟨gb906, 2, none⟩ = some (.int .i64 a0_2) := (blk_cell BK906.out 2).trans rfl
                        have hcz49_3 : wc.cell? ⟨gb906, 3, none⟩ = some (.int .i64 a0_3) := (blk_cell BK906.out 3).trans rfl
                        have hcz49_4 : wc.cell? ⟨gb906, 4, none⟩ = some (.int .i64 a0_4) := (blk_cell BK906.out 4).trans rfl
                        have hcz49_5 : wc.cell? ⟨gb906, 5, none⟩ = some (.int .i64 a0_5) := (blk_cell BK906.out 5).trans rfl
                        have hfz49_0 := blk_frozen BK906.out 0
                        have hfz49_1 := blk_frozen BK906.out 1
                        have hfz49_2 := blk_frozen BK906.out 2
                        have hfz49_3 := blk_frozen BK906.out 3
                        have hfz49_4 := blk_frozen BK906.out 4
                        have hfz49_5 := blk_frozen BK906.out 5
                        go_wp2
                        go_ret
                        exact ⟨by first | rfl | (simp [errW_none, errW_some] <;> rfl) | (simp [*, errW_none, errW_some] <;> rfl), by repeat (first | (with_reducible first | exact HB.out | apply below_alloc | apply pw_below_drewN | apply below_drew1 | refine below_set ?_ GE906.out) | exact HB.out)⟩
                  · rw [if_neg c42] at H
                    have c42b0 : decide (1 ≤ a0_5) = false := decide_eq_false c42
                    clear c42
                    by_cases c50 : a0_5 ≤ (-1)
                    · rw [if_pos c50] at H
                      have c50b0 : decide (a0_5 ≤ (-1)) = true := decide_eq_true c50
                      clear c50
                      by_cases c51 : a0_5 ≥ (-8)
                      · rw [if_pos c51] at H
                        have c51b0 : decide ((-8) ≤ a0_5) = true := decide_eq_true c51
                        clear c51
                        obtain rfl := Option.some.inj H
                        have hcz52_0 : wc.cell? ⟨gb906, 0, none⟩ = some (.int .i64 a0_0) := (blk_cell BK906.out 0).trans rfl
                        have hcz52_1 : wc.cell? ⟨gb906, 1, none⟩ = some (.int .i64 a0_1) := (blk_cell BK906.out 1).trans rfl
                        have hcz52_2 : wc.cell? ⟨gb906, 2, none⟩ = some (.int .i64 a0_2) := (blk_cell BK906.out 2).trans rfl
                        have hcz52_3 : wc.cell? ⟨gb906, 3, none⟩ = some (.int .i64 a0_3) := (blk_cell BK906.out 3).trans rfl
                        have hcz52_4 : wc.cell? ⟨gb906, 4, none⟩ = some (.int .i64 a0_4) := (blk_cell BK906.out 4).trans rfl
                        have hcz52_5 : wc.cell? ⟨gb906, 5, none⟩ = some (.int .i64 a0_5) := (blk_cell BK906.out 5).trans rfl
                        have hfz52_0 := blk_frozen BK906.out 0
                        have hfz52_1 := blk_frozen BK906.out 1
                        have hfz52_2 := blk_frozen BK906.out 2
                        have hfz52_3 := blk_frozen BK906.out 3
                        have hfz52_4 := blk_frozen BK906.out 4
                        have hfz52_5 := blk_frozen BK906.out 5
                        go_wp2
                        go_ret
                        exact ⟨by first | rfl | (simp [errW_none, errW_some] <;> rfl) | (simp [*, errW_none, errW_some] <;> rfl), by repeat (first | (with_reducible first | exact HB.out | apply below_alloc | apply pw_below_drewN | apply below_drew1 | refine below_set ?_ GE906.out) | exact HB.out)⟩
                      · rw [if_neg c51] at H
                        have c51b0 : decide ((-8) ≤ a0_5) = false := decide_eq_false c51
                        clear c51
                        obtain rfl := Option.some.inj H
                        have hcz53_0 : wc.cell? ⟨gb906, 0, none⟩ = some (.int .i64 a0_0) := (blk_cell BK906.out 0).trans rfl
                        have hcz53_1 : wc.cell? ⟨gb906, 1, none⟩ = some (.int .i64 a0_1) := (blk_cell BK906.out 1).trans rfl
                        have hcz53_2 : wc.cell? ⟨gb906, 2, none⟩ = some (.int .i64 a0_2) := (blk_cell BK906.out 2).trans rfl
                        have hcz53_3 : wc.cell? ⟨gb906, 3, none⟩ = some (.int .i64 a0_3) := (blk_cell BK906.out 3).trans rfl
                        have hcz53_4 : wc.cell? ⟨gb906, 4, none⟩ = some (.int .i64 a0_4) := (blk_cell BK906.out 4).trans rfl
                        have hcz53_5 : wc.cell? ⟨gb906, 5, none⟩ = some (.int .i64 a0_5) := (blk_cell BK906.out 5).trans rfl
                        have hfz53_0 := blk_frozen BK906.out 0
                        have hfz53_1 := blk_frozen BK906.out 1
                        have hfz53_2 := blk_frozen BK906.out 2
                        have hfz53_3 := blk_frozen BK906.out 3
                        have hfz53_4 := blk_frozen BK906.out 4
                        have hfz53_5 := blk_frozen BK906.out 5
                        go_wp2
                        go_ret
                        exact ⟨by first | rfl | (simp [errW_none, errW_some] <;> rfl) | (simp [*, errW_none, errW_some] <;> rfl), by repeat (first | (with_reducible first | exact HB.out | apply below_alloc | apply pw_below_drewN | apply below_drew1 | refine below_set ?_ GE906.out) | exact HB.out)⟩
                    · rw [if_neg c50] at H
                      have c50b0 : decide (a0_5 ≤ (-1)) = false := decide_eq_false c50
                      clear c50
                      obtain rfl := Option.some.inj H
                      have hcz54_0 : wc.cell? ⟨gb906, 0, none⟩ = some (.int .i64 a0_0) := (blk_cell BK906.out 0).trans rfl
                      have hcz54_1 : wc.cell? ⟨gb906, 1, none⟩ = some (.int .i64 a0_1) := (blk_cell BK906.out 1).trans rfl
                      have hcz54_2 : wc.cell? ⟨gb906, 2, none⟩ = some (.int .i64 a0_2) := (blk_cell BK906.out 2).trans rfl
                      have hcz54_3 : wc.cell? ⟨gb906, 3, none⟩ = some (.int .i64 a0_3) := (blk_cell BK906.out 3).trans rfl
                      have hcz54_4 : wc.cell? ⟨gb906, 4, none⟩ = some (.int .i64 a0_4) := (blk_cell BK906.out 4).trans rfl
                      have hcz54_5 : wc.cell? ⟨gb906, 5, none⟩ = some (.int .i64 a0_5) := (blk_cell BK906.out 5).trans rfl
                      have hfz54_0 := blk_frozen BK906.out 0
                      have hfz54_1 := blk_frozen BK906.out 1
                      have hfz54_2 := blk_frozen BK906.out 2
                      have hfz54_3 := blk_frozen BK906.out 3
                      have hfz54_4 := blk_frozen BK906.out 4
                      have hfz54_5 := blk_frozen BK906.out 5
                      go_wp2
                      go_ret
                      exact ⟨by first | rfl | (simp [errW_none, errW_some] <;> rfl) | (simp [*, errW_none, errW_some] <;> rfl), by repeat (first | (with_reducible first | exact HB.out | apply below_alloc | apply pw_below_drewN | apply below_drew1 | refine below_set ?_ GE906.out) | exact HB.out)⟩

end Go.Proofs.Ytkpicinbckedoaa.Q
