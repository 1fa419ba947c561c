-- Written by wip/tool/qprint.py: the print of the kit, with hand-proved contracts put in. Lean checks it.
import Derived.Test.YtkpicinbckedoaaQx0
import Derived.Test.YtkpicinbckedoaaQx16
import Derived.Test.YtkpicinbckedoaaQx17
namespace Go.Proofs.Ytkpicinbckedoaa.Q
open Go.RowKit Go.Proofs.YtkpicinbckedoaaW.PrintWords Go.Proofs.YtkpicinbckedoaaW.PrintLast Go.Proofs.YtkpicinbckedoaaW.PrintMore
attribute [local go_sem] max2_int min2_int max_two min_two max_three min_three max_four min_four   -- for this text's walks alone
set_option linter.unusedVariables false
set_option linter.unusedSimpArgs false

/-! ### computusref17_Check: function 10 -/
mutual
def computusref17_Check.j0 : Nat → Bool → Int → List (S33) → List (S35) → Option (Bool)
  | 0, _, _, _, _ => none
  | k + 1, x33, x916000, x916001, x916002 => if x33 = true then (some false) else (computusref17_Check.l0 k ([] : List ByteArray) 0 x916000 x916001 x916002)
def computusref17_Check.l0 : Nat → List ByteArray → Int → Int → List (S33) → List (S35) → Option (Bool)
  | 0, _, _, _, _, _ => none
  | k + 1, x3, x4, x916000, x916001, x916002 => if x4 < (x916001.length : Int) then (if 0 ≤ x4 then ((computusref17_Season.f k ((rd_T33 x916001 x4).f0) ((rd_T33 x916001 x4).f1) ((rd_T33 x916001 x4).f2) ((rd_T33 x916001 x4).f3.f0) ((rd_T33 x916001 x4).f3.f1) ((rd_T33 x916001 x4).f3.f2) ((rd_T33 x916001 x4).f3.f3) ((rd_T33 x916001 x4).f3.f4) ((rd_T33 x916001 x4).f3.f5)).bind fun t917 => (if t917 = true then (if x3.length < 8796093022208 then (computusref17_Check.l0 k (x3 ++ [(rd_T33 x916001 x4).f0]) (wrap64 (x4 + 1)) x916000 x916001 x916002) else (none)) else (some false))) else (none)) else (computusref17_Check.l1 k x3 0 x916000 x916001 x916002)
def computusref17_Check.l1 : Nat → List ByteArray → Int → Int → List (S33) → List (S35) → Option (Bool)
  | 0, _, _, _, _, _ => none
  | k + 1, x3, x5, x916000, x916001, x916002 => if x5 < (x916002.length : Int) then (if 0 ≤ x5 then ((computusref17_Feast.f k ((rd_T35 x916002 x5).f0) ((rd_T35 x916002 x5).f1) ((rd_T35 x916002 x5).f2) ((rd_T35 x916002 x5).f3.f0) ((rd_T35 x916002 x5).f3.f1) ((rd_T35 x916002 x5).f3.f2) ((rd_T35 x916002 x5).f3.f3) ((rd_T35 x916002 x5).f3.f4) ((rd_T35 x916002 x5).f3.f5)).bind fun t923 => (if t923 = true then (if x3.length < 8796093022208 then (computusref17_Check.l1 k (x3 ++ [(rd_T35 x916002 x5).f0]) (wrap64 (x5 + 1)) x916000 x916001 x916002) else (none)) else (some false))) else (none)) else (computusref17_Check.l2 k x3 0)
def computusref17_Check.l2 : Nat → List ByteArray → Int → Option (Bool)
  | 0, _, _ => none
  | k + 1, x3, x6 => if x6 < (x3.length : Int) then (computusref17_Check.l3 k x3 x6 0) else (some true)
def computusref17_Check.l3 : Nat → List ByteArray → Int → Int → Option (Bool)
  | 0, _, _, _ => none
  | k + 1, x3, x6, x7 => if x7 < x6 then (if 0 ≤ x6 then (if x6 < (x3.length : Int) then (if 0 ≤ x7 then (if x7 < (x3.length : Int) then (if (rdOf ByteArray.empty x3 x6).toList = (rdOf ByteArray.empty x3 x7).toList then (some false) else (computusref17_Check.l3 k x3 x6 (wrap64 (x7 + 1)))) else (none)) else (none)) else (none)) else (none)) else (computusref17_Check.l2 k x3 (wrap64 (x6 + 1)))
end
def computusref17_Check.f (k : Nat) (a0_0 : Int) (l0_1 : List (S33)) (l0_2 : List (S35)) : Option (Bool) := if a0_0 < 0 then (computusref17_Check.j0 k true a0_0 l0_1 l0_2) else (if a0_0 > 9 then (computusref17_Check.j0 k true a0_0 l0_1 l0_2) else (if (l0_1.length : Int) < 1 then (computusref17_Check.j0 k true a0_0 l0_1 l0_2) else (if (l0_1.length : Int) > 20 then (computusref17_Check.j0 k true a0_0 l0_1 l0_2) else (computusref17_Check.j0 k (decide ((l0_2.length : Int) > 400)) a0_0 l0_1 l0_2))))
theorem computusref17_Check.mono_l : ∀ k, (∀ y0 y1 y2 y3, LeO (computusref17_Check.j0 k y0 y1 y2 y3) (computusref17_Check.j0 (k + 1) y0 y1 y2 y3)) ∧ (∀ y0 y1 y2 y3 y4, LeO (computusref17_Check.l0 k y0 y1 y2 y3 y4) (computusref17_Check.l0 (k + 1) y0 y1 y2 y3 y4)) ∧ (∀ y0 y1 y2 y3 y4, LeO (computusref17_Check.l1 k y0 y1 y2 y3 y4) (computusref17_Check.l1 (k + 1) y0 y1 y2 y3 y4)) ∧ (∀ y0 y1, LeO (computusref17_Check.l2 k y0 y1) (computusref17_Check.l2 (k + 1) y0 y1)) ∧ (∀ y0 y1 y2, LeO (computusref17_Check.l3 k y0 y1 y2) (computusref17_Check.l3 (k + 1) y0 y1 y2))
  | 0 => ⟨fun _ _ _ _ r h => by simp [computusref17_Check.j0] at h, fun _ _ _ _ _ r h => by simp [computusref17_Check.l0] at h, fun _ _ _ _ _ r h => by simp [computusref17_Check.l1] at h, fun _ _ r h => by simp [computusref17_Check.l2] at h, fun _ _ _ r h => by simp [computusref17_Check.l3] at h⟩
  | k + 1 => by
    obtain ⟨ih0, ih1, ih2, ih3, ih4⟩ := computusref17_Check.mono_l k
    refine ⟨?_, ?_, ?_, ?_, ?_⟩
    · intro y0 y1 y2 y3
      unfold computusref17_Check.j0
      repeat' first
      | (with_reducible exact ih0 _ _ _ _)
      | (with_reducible exact ih1 _ _ _ _ _)
      | (with_reducible exact ih2 _ _ _ _ _)
      | (with_reducible exact ih3 _ _)
      | (with_reducible exact ih4 _ _ _)
      | (with_reducible exact computusref17_Feast.mono _ _ _ _ _ _ _ _ _ _)
      | (with_reducible exact computusref17_Season.mono _ _ _ _ _ _ _ _ _ _)
      | (with_reducible exact LeO.refl _)
      | (with_reducible exact LeO.none _)
      | (with_reducible refine LeO.ite ?_ ?_)
      | (with_reducible refine LeO.bind ?_ (fun _ => ?_))
      | exact ih0 _ _ _ _
      | exact ih1 _ _ _ _ _
      | exact ih2 _ _ _ _ _
      | exact ih3 _ _
      | exact ih4 _ _ _
      | exact computusref17_Feast.mono _ _ _ _ _ _ _ _ _ _
      | exact computusref17_Season.mono _ _ _ _ _ _ _ _ _ _
      | exact LeO.none _
      | refine LeO.ite ?_ ?_
      | refine LeO.bind ?_ (fun _ => ?_)
    · intro y0 y1 y2 y3 y4
      unfold computusref17_Check.l0
      repeat' first
      | (with_reducible exact ih0 _ _ _ _)
      | (with_reducible exact ih1 _ _ _ _ _)
      | (with_reducible exact ih2 _ _ _ _ _)
      | (with_reducible exact ih3 _ _)
      | (with_reducible exact ih4 _ _ _)
      | (with_reducible exact computusref17_Feast.mono _ _ _ _ _ _ _ _ _ _)
      | (with_reducible exact computusref17_Season.mono _ _ _ _ _ _ _ _ _ _)
      | (with_reducible exact LeO.refl _)
      | (with_reducible exact LeO.none _)
      | (with_reducible refine LeO.ite ?_ ?_)
      | (with_reducible refine LeO.bind ?_ (fun _ => ?_))
      | exact ih0 _ _ _ _
      | exact ih1 _ _ _ _ _
      | exact ih2 _ _ _ _ _
      | exact ih3 _ _
      | exact ih4 _ _ _
      | exact computusref17_Feast.mono _ _ _ _ _ _ _ _ _ _
      | exact computusref17_Season.mono _ _ _ _ _ _ _ _ _ _
      | exact LeO.none _
      | refine LeO.ite ?_ ?_
      | refine LeO.bind ?_ (fun _ => ?_)
    · intro y0 y1 y2 y3 y4
      unfold computusref17_Check.l1
      repeat' first
      | (with_reducible exact ih0 _ _ _ _)
      | (with_reducible exact ih1 _ _ _ _ _)
      | (with_reducible exact ih2 _ _ _ _ _)
      | (with_reducible exact ih3 _ _)
      | (with_reducible exact ih4 _ _ _)
      | (with_reducible exact computusref17_Feast.mono _ _ _ _ _ _ _ _ _ _)
      | (with_reducible exact computusref17_Season.mono _ _ _ _ _ _ _ _ _ _)
      | (with_reducible exact LeO.refl _)
      | (with_reducible exact LeO.none _)
      | (with_reducible refine LeO.ite ?_ ?_)
      | (with_reducible refine LeO.bind ?_ (fun _ => ?_))
      | exact ih0 _ _ _ _
      | exact ih1 _ _ _ _ _
      | exact ih2 _ _ _ _ _
      | exact ih3 _ _
      | exact ih4 _ _ _
      | exact computusref17_Feast.mono _ _ _ _ _ _ _ _ _ _
      | exact computusref17_Season.mono _ _ _ _ _ _ _ _ _ _
      | exact LeO.none _
      | refine LeO.ite ?_ ?_
      | refine LeO.bind ?_ (fun _ => ?_)
    · intro y0 y1
      unfold computusref17_Check.l2
      repeat' first
      | (with_reducible exact ih0 _ _ _ _)
      | (with_reducible exact ih1 _ _ _ _ _)
      | (with_reducible exact ih2 _ _ _ _ _)
      | (with_reducible exact ih3 _ _)
      | (with_reducible exact ih4 _ _ _)
      | (with_reducible exact computusref17_Feast.mono _ _ _ _ _ _ _ _ _ _)
      | (with_reducible exact computusref17_Season.mono _ _ _ _ _ _ _ _ _ _)
      | (with_reducible exact LeO.refl _)
      | (with_reducible exact LeO.none _)
      | (with_reducible refine LeO.ite ?_ ?_)
      | (with_reducible refine LeO.bind ?_ (fun _ => ?_))
      | exact ih0 _ _ _ _
      | exact ih1 _ _ _ _ _
      | exact ih2 _ _ _ _ _
      | exact ih3 _ _
      | exact ih4 _ _ _
      | exact computusref17_Feast.mono _ _ _ _ _ _ _ _ _ _
      | exact computusref17_Season.mono _ _ _ _ _ _ _ _ _ _
      | exact LeO.none _
      | refine LeO.ite ?_ ?_
      | refine LeO.bind ?_ (fun _ => ?_)
    · intro y0 y1 y2
      unfold computusref17_Check.l3
      repeat' first
      | (with_reducible exact ih0 _ _ _ _)
      | (with_reducible exact ih1 _ _ _ _ _)
      | (with_reducible exact ih2 _ _ _ _ _)
      | (with_reducible exact ih3 _ _)
      | (with_reducible exact ih4 _ _ _)
      | (with_reducible exact computusref17_Feast.mono _ _ _ _ _ _ _ _ _ _)
      | (with_reducible exact computusref17_Season.mono _ _ _ _ _ _ _ _ _ _)
      | (with_reducible exact LeO.refl _)
      | (with_reducible exact LeO.none _)
      | (with_reducible refine LeO.ite ?_ ?_)
      | (with_reducible refine LeO.bind ?_ (fun _ => ?_))
      | exact ih0 _ _ _ _
      | exact ih1 _ _ _ _ _
      | exact ih2 _ _ _ _ _
      | exact ih3 _ _
      | exact ih4 _ _ _
      | exact computusref17_Feast.mono _ _ _ _ _ _ _ _ _ _
      | exact computusref17_Season.mono _ _ _ _ _ _ _ _ _ _
      | exact LeO.none _
      | refine LeO.ite ?_ ?_
      | refine LeO.bind ?_ (fun _ => ?_)
theorem computusref17_Check.mono : ∀ a0 a1 a2 k, LeO (computusref17_Check.f k a0 a1 a2) (computusref17_Check.f (k + 1) a0 a1 a2) := by
  intro a0 a1 a2 k
  obtain ⟨ih0, ih1, ih2, ih3, ih4⟩ := computusref17_Check.mono_l k
  unfold computusref17_Check.f
  repeat' first
      | (with_reducible exact ih0 _ _ _ _)
      | (with_reducible exact ih1 _ _ _ _ _)
      | (with_reducible exact ih2 _ _ _ _ _)
      | (with_reducible exact ih3 _ _)
      | (with_reducible exact ih4 _ _ _)
      | (with_reducible exact computusref17_Feast.mono _ _ _ _ _ _ _ _ _ _)
      | (with_reducible exact computusref17_Season.mono _ _ _ _ _ _ _ _ _ _)
      | (with_reducible exact LeO.refl _)
      | (with_reducible exact LeO.none _)
      | (with_reducible refine LeO.ite ?_ ?_)
      | (with_reducible refine LeO.bind ?_ (fun _ => ?_))
      | exact ih0 _ _ _ _
      | exact ih1 _ _ _ _ _
      | exact ih2 _ _ _ _ _
      | exact ih3 _ _
      | exact ih4 _ _ _
      | exact computusref17_Feast.mono _ _ _ _ _ _ _ _ _ _
      | exact computusref17_Season.mono _ _ _ _ _ _ _ _ _ _
      | exact LeO.none _
      | refine LeO.ite ?_ ?_
      | refine LeO.bind ?_ (fun _ => ?_)
set_option maxHeartbeats 8000000 in
set_option maxRecDepth 100000 in
theorem computusref17_Check.calls (k : Nat) (a0_0 : Int) (A0_1 : Option Addr) (c0_1 : Nat) (l0_1 : List (S33)) (A0_2 : Option Addr) (c0_2 : Nat) (l0_2 : List (S35)) (r : Bool) (w : World) (hr0_1 : Kd.C k33 w A0_1 l0_1.length l0_1) (hc0_1 : l0_1.length ≤ c0_1) (hr0_2 : Kd.C k35 w A0_2 l0_2.length l0_2) (hc0_2 : l0_2.length ≤ c0_2) (h : computusref17_Check.f k a0_0 l0_1 l0_2 = some r) :
    Calls Try.prog 10 #[.agg #[.int .i64 a0_0, .slice A0_1 l0_1.length c0_1, .slice A0_2 l0_2.length c0_2]] w fun e w' => e = .returned (.bool r) ∧ Below w.heap.size w w' := by
  have hu26 := Try.underlying26
  have hu33 := Try.underlying33
  have hu35 := Try.underlying35
  have HR0_1 := Aside0.mk hr0_1
  have HC0_1 := Aside0.mk hc0_1
  clear hr0_1 hc0_1
  have HR0_2 := Aside0.mk hr0_2
  have HC0_2 := Aside0.mk hc0_2
  clear hr0_2 hc0_2
  have HB := Aside0.mk (Below.refl w.heap.size w)
  have H : (if a0_0 < 0 then (computusref17_Check.j0 k true a0_0 l0_1 l0_2) else (if a0_0 > 9 then (computusref17_Check.j0 k true a0_0 l0_1 l0_2) else (if (l0_1.length : Int) < 1 then (computusref17_Check.j0 k true a0_0 l0_1 l0_2) else (if (l0_1.length : Int) > 20 then (computusref17_Check.j0 k true a0_0 l0_1 l0_2) else (computusref17_Check.j0 k (decide ((l0_2.length : Int) > 400)) a0_0 l0_1 l0_2))))) = some r := h
  clear h
  have HC2 := Aside0.mk H
  clear H
  go_enter Try.func10, Try.ntmps10
  go_upto_region 1 with (first | ((with_reducible refine gate_dst (N := 1) rfl ?_); (try (refine gate_guard (by rfl) ?_; dsimp only)); refine box_event ?hg (N := 1) ?hd (cs := #[.int .i64 a0_0, .slice A0_1 l0_1.length c0_1, .slice A0_2 l0_2.length c0_2]) (t := 26) ?hr ?_; (case hd => rfl); (case hg => rfl); (case hr => first | (go_simp; done) | (go_simp; rfl)); intro gb915 hg w3 hbox hb; have n0_ := Aside0.mk (below_step (by repeat (first | (with_reducible first | exact HB.out | apply below_alloc | apply pw_below_drewN | apply below_drew1) | exact HB.out)) hb); have n1_ := Aside0.mk (hbox); have n2_ := Aside0.mk ((by rw [hg]; exact (below_size (by repeat (first | (with_reducible first | exact HB.out | apply below_alloc | apply pw_below_drewN | apply below_drew1) | exact HB.out))) : w.heap.size ≤ gb915)); have n3_ := Aside0.mk ((by rw [hg]; exact (below_size (by repeat (first | (with_reducible first | exact HB.out | apply below_alloc | apply pw_below_drewN | apply below_drew1) | exact HB.out))) : w.heap.size ≤ gb915)); clear HB; have HB := n0_; have BK915 := n1_; have GW915 := n2_; have GE915 := n3_; clear n0_ n1_ n2_ n3_; clear hb hbox hg))
  repeat (go_quiet (first | ((with_reducible refine gate_dst (N := 1) rfl ?_); (try (refine gate_guard (by rfl) ?_; dsimp only)); refine box_event ?hg (N := 1) ?hd (cs := #[.int .i64 a0_0, .slice A0_1 l0_1.length c0_1, .slice A0_2 l0_2.length c0_2]) (t := 26) ?hr ?_; (case hd => rfl); (case hg => rfl); (case hr => first | (go_simp; done) | (go_simp; rfl)); intro gb915 hg w3 hbox hb; have n0_ := Aside0.mk (below_step (by repeat (first | (with_reducible first | exact HB.out | apply below_alloc | apply pw_below_drewN | apply below_drew1) | exact HB.out)) hb); have n1_ := Aside0.mk (hbox); have n2_ := Aside0.mk ((by rw [hg]; exact (below_size (by repeat (first | (with_reducible first | exact HB.out | apply below_alloc | apply pw_below_drewN | apply below_drew1) | exact HB.out))) : w.heap.size ≤ gb915)); have n3_ := Aside0.mk ((by rw [hg]; exact (below_size (by repeat (first | (with_reducible first | exact HB.out | apply below_alloc | apply pw_below_drewN | apply below_drew1) | exact HB.out))) : w.heap.size ≤ gb915)); clear HB; have HB := n0_; have BK915 := n1_; have GW915 := n2_; have GE915 := n3_; clear n0_ n1_ n2_ n3_; clear hb hbox hg)); go_upto_region 1 with (first | ((with_reducible refine gate_dst (N := 1) rfl ?_); (try (refine gate_guard (by rfl) ?_; dsimp only)); refine box_event ?hg (N := 1) ?hd (cs := #[.int .i64 a0_0, .slice A0_1 l0_1.length c0_1, .slice A0_2 l0_2.length c0_2]) (t := 26) ?hr ?_; (case hd => rfl); (case hg => rfl); (case hr => first | (go_simp; done) | (go_simp; rfl)); intro gb915 hg w3 hbox hb; have n0_ := Aside0.mk (below_step (by repeat (first | (with_reducible first | exact HB.out | apply below_alloc | apply pw_below_drewN | apply below_drew1) | exact HB.out)) hb); have n1_ := Aside0.mk (hbox); have n2_ := Aside0.mk ((by rw [hg]; exact (below_size (by repeat (first | (with_reducible first | exact HB.out | apply below_alloc | apply pw_below_drewN | apply below_drew1) | exact HB.out))) : w.heap.size ≤ gb915)); have n3_ := Aside0.mk ((by rw [hg]; exact (below_size (by repeat (first | (with_reducible first | exact HB.out | apply below_alloc | apply pw_below_drewN | apply below_drew1) | exact HB.out))) : w.heap.size ≤ gb915)); clear HB; have HB := n0_; have BK915 := n1_; have GW915 := n2_; have GE915 := n3_; clear n0_ n1_ n2_ n3_; clear hb hbox hg)))
  (try simp only [Act.put, List.setIfInBounds_toArray, List.set_cons_zero, List.set_cons_succ])
  go_cut [33] (fun v33 wc => ∃ (kq : Nat) (x33_1 : Bool), v33 = .bool x33_1 ∧ Aside0 (computusref17_Check.j0 kq x33_1 a0_0 l0_1 l0_2 = some r) ∧ Aside0 (kq ≤ k) ∧ Aside0 (wc.heap[gb915]? = some (.cells #[.int .i64 a0_0, (.slice A0_1 l0_1.length c0_1), (.slice A0_2 l0_2.length c0_2)] 26 (0, 0))) ∧ Aside0 (Below w.heap.size w wc))
  case first =>
    have H := HC2.out
    clear HC2
    by_cases c4 : a0_0 < 0
    · rw [if_pos c4] at H
      have c4b0 : decide (a0_0 < 0) = true := decide_eq_true c4
      clear c4
      (first | rw [c4b0] | (simp only [i64_w, i32_w]; rw [c4b0]) | skip)
      have H' := Aside0.mk H
      clear H
      have hcz5_0 : w3.cell? ⟨gb915, 0, none⟩ = some (.int .i64 a0_0) := (blk_cell BK915.out 0).trans rfl
      have hcz5_1 : w3.cell? ⟨gb915, 1, none⟩ = some (.slice A0_1 l0_1.length c0_1) := (blk_cell BK915.out 1).trans rfl
      have hcz5_2 : w3.cell? ⟨gb915, 2, none⟩ = some (.slice A0_2 l0_2.length c0_2) := (blk_cell BK915.out 2).trans rfl
      have hfz5_0 := blk_frozen BK915.out 0
      have hfz5_1 := blk_frozen BK915.out 1
      have hfz5_2 := blk_frozen BK915.out 2
      go_wp2
      repeat (go_quiet (fail); try go_wp2)
      go_meet
      case rel => exact ⟨_, (true), (by first | rfl | (simp; done) | (simp [*]; done)), H', ⟨by first | omega | exact Nat.le_refl _⟩, ⟨by (with_reducible repeat (first | refine blk_drewN ?_ _ | refine blk_drew ?_ | refine blk_alloc ?_ _)); exact BK915.out⟩, ⟨by repeat (first | (with_reducible first | exact HB.out | apply below_alloc | apply pw_below_drewN | apply below_drew1 | refine below_set ?_ GE915.out) | exact HB.out)⟩⟩
    · rw [if_neg c4] at H
      have c4b0 : decide (a0_0 < 0) = false := decide_eq_false c4
      clear c4
      (first | rw [c4b0] | (simp only [i64_w, i32_w]; rw [c4b0]) | skip)
      by_cases c6 : a0_0 > 9
      · rw [if_pos c6] at H
        have c6b0 : decide (9 < a0_0) = true := decide_eq_true c6
        clear c6
        have H' := Aside0.mk H
        clear H
        have hcz7_0 : w3.cell? ⟨gb915, 0, none⟩ = some (.int .i64 a0_0) := (blk_cell BK915.out 0).trans rfl
        have hcz7_1 : w3.cell? ⟨gb915, 1, none⟩ = some (.slice A0_1 l0_1.length c0_1) := (blk_cell BK915.out 1).trans rfl
        have hcz7_2 : w3.cell? ⟨gb915, 2, none⟩ = some (.slice A0_2 l0_2.length c0_2) := (blk_cell BK915.out 2).trans rfl
        have hfz7_0 := blk_frozen BK915.out 0
        have hfz7_1 := blk_frozen BK915.out 1
        have hfz7_2 := blk_frozen BK915.out 2
        go_wp2
        repeat (go_quiet (fail); try go_wp2)
        go_meet
        case rel => exact ⟨_, (true), (by first | rfl | (simp; done) | (simp [*]; done)), H', ⟨by first | omega | exact Nat.le_refl _⟩, ⟨by (with_reducible repeat (first | refine blk_drewN ?_ _ | refine blk_drew ?_ | refine blk_alloc ?_ _)); exact BK915.out⟩, ⟨by repeat (first | (with_reducible first | exact HB.out | apply below_alloc | apply pw_below_drewN | apply below_drew1 | refine below_set ?_ GE915.out) | exact HB.out)⟩⟩
      · rw [if_neg c6] at H
        have c6b0 : decide (9 < a0_0) = false := decide_eq_false c6
        clear c6
        by_cases c8 : (l0_1.length : Int) < 1
        · rw [if_pos c8] at H
          have c8b0 : decide ((l0_1.length : Int) < 1) = true := decide_eq_true c8
          have c8b1 : decide (l0_1.length < 1) = true := decide_eq_true (by omega)
          clear c8
          have H' := Aside0.mk H
          clear H
          have hcz9_0 : w3.cell? ⟨gb915, 0, none⟩ = some (.int .i64 a0_0) := (blk_cell BK915.out 0).trans rfl
          have hcz9_1 : w3.cell? ⟨gb915, 1, none⟩ = some (.slice A0_1 l0_1.length c0_1) := (blk_cell BK915.out 1).trans rfl
          have hcz9_2 : w3.cell? ⟨gb915, 2, none⟩ = some (.slice A0_2 l0_2.length c0_2) := (blk_cell BK915.out 2).trans rfl
          have hfz9_0 := blk_frozen BK915.out 0
          have hfz9_1 := blk_frozen BK915.out 1
          have hfz9_2 := blk_frozen BK915.out 2
          go_wp2
          repeat (go_quiet (fail); try go_wp2)
          go_meet
          case rel => exact ⟨_, (true), (by first | rfl | (simp; done) | (simp [*]; done)), H', ⟨by first | omega | exact Nat.le_refl _⟩, ⟨by (with_reducible repeat (first | refine blk_drewN ?_ _ | refine blk_drew ?_ | refine blk_alloc ?_ _)); exact BK915.out⟩, ⟨by repeat (first | (with_reducible first | exact HB.out | apply below_alloc | apply pw_below_drewN | apply below_drew1 | refine below_set ?_ GE915.out) | exact HB.out)⟩⟩
        · rw [if_neg c8] at H
          have c8b0 : decide ((l0_1.length : Int) < 1) = false := decide_eq_false c8
          have c8b1 : decide (l0_1.length < 1) = false := decide_eq_false (by omega)
          clear c8
          by_cases c10 : (l0_1.length : Int) > 20
          · rw [if_pos c10] at H
            have c10b0 : decide (20 < (l0_1.length : Int)) = true := decide_eq_true c10
            have c10b1 : decide (20 < l0_1.length) = true := decide_eq_true (by omega)
            clear c10
            have H' := Aside0.mk H
            clear H
            have hcz11_0 : w3.cell? ⟨gb915, 0, none⟩ = some (.int .i64 a0_0) := (blk_cell BK915.out 0).trans rfl
            have hcz11_1 : w3.cell? ⟨gb915, 1, none⟩ = some (.slice A0_1 l0_1.length c0_1) := (blk_cell BK915.out 1).trans rfl
            have hcz11_2 : w3.cell? ⟨gb915, 2, none⟩ = some (.slice A0_2 l0_2.length c0_2) := (blk_cell BK915.out 2).trans rfl
            have hfz11_0 := blk_frozen BK915.out 0
            have hfz11_1 := blk_frozen BK915.out 1
            have hfz11_2 := blk_frozen BK915.out 2
            go_wp2
            repeat (go_quiet (fail); try go_wp2)
            go_meet
            case rel => exact ⟨_, (true), (by first | rfl | (simp; done) | (simp [*]; done)), H', ⟨by first | omega | exact Nat.le_refl _⟩, ⟨by (with_reducible repeat (first | refine blk_drewN ?_ _ | refine blk_drew ?_ | refine blk_alloc ?_ _)); exact BK915.out⟩, ⟨by repeat (first | (with_reducible first | exact HB.out | apply below_alloc | apply pw_below_drewN | apply below_drew1 | refine below_set ?_ GE915.out) | exact HB.out)⟩⟩
          · rw [if_neg c10] at H
            have c10b0 : decide (20 < (l0_1.length : Int)) = false := decide_eq_false c10
            have c10b1 : decide (20 < l0_1.length) = false := decide_eq_false (by omega)
            clear c10
            have H' := Aside0.mk H
            clear H
            have hcz12_0 : w3.cell? ⟨gb915, 0, none⟩ = some (.int .i64 a0_0) := (blk_cell BK915.out 0).trans rfl
            have hcz12_1 : w3.cell? ⟨gb915, 1, none⟩ = some (.slice A0_1 l0_1.length c0_1) := (blk_cell BK915.out 1).trans rfl
            have hcz12_2 : w3.cell? ⟨gb915, 2, none⟩ = some (.slice A0_2 l0_2.length c0_2) := (blk_cell BK915.out 2).trans rfl
            have hfz12_0 := blk_frozen BK915.out 0
            have hfz12_1 := blk_frozen BK915.out 1
            have hfz12_2 := blk_frozen BK915.out 2
            go_wp2
            repeat (go_quiet (fail); try go_wp2)
            go_meet
            case rel => exact ⟨_, (decide ((l0_2.length : Int) > 400)), (by first | rfl | (simp; done) | (simp [*]; done)), H', ⟨by first | omega | exact Nat.le_refl _⟩, ⟨by (with_reducible repeat (first | refine blk_drewN ?_ _ | refine blk_drew ?_ | refine blk_alloc ?_ _)); exact BK915.out⟩, ⟨by repeat (first | (with_reducible first | exact HB.out | apply below_alloc | apply pw_below_drewN | apply below_drew1 | refine below_set ?_ GE915.out) | exact HB.out)⟩⟩
  case rest =>
    clear HC2
    try clear c1
    try clear p2
    try clear c4
    try clear c4b0
    try clear c6
    try clear c6b0
    try clear c8
    try clear c8b0
    try clear c8b1
    try clear c10
    try clear c10b0
    try clear c10b1
    try clear hcz11_0
    try clear hcz11_1
    try clear hcz11_2
    try clear hcz12_0
    try clear hcz12_1
    try clear hcz12_2
    try clear hcz5_0
    try clear hcz5_1
    try clear hcz5_2
    try clear hcz7_0
    try clear hcz7_1
    try clear hcz7_2
    try clear hcz9_0
    try clear hcz9_1
    try clear hcz9_2
    try clear hfz11_0
    try clear hfz11_1
    try clear hfz11_2
    try clear hfz12_0
    try clear hfz12_1
    try clear hfz12_2
    try clear hfz5_0
    try clear hfz5_1
    try clear hfz5_2
    try clear hfz7_0
    try clear hfz7_1
    try clear hfz7_2
    try clear hfz9_0
    try clear hfz9_1
    try clear hfz9_2
    obtain ⟨kq, x33_1, rfl, HA, HJ1, BK915, HB⟩ := hcut
    cases kq with
    | zero => exact absurd HA.out (by simp [computusref17_Check.j0])
    | succ kj1 =>
      have H := HA.out
      clear HA
      simp only [computusref17_Check.j0] at H
      by_cases c13 : x33_1 = true
      · subst c13
        have H1 : (some false) = some r := by rw [if_pos rfl] at H; exact H
        clear H
        have H := H1
        clear H1
        obtain rfl := Option.some.inj H
        go_wp2
        repeat (go_quiet (fail); try go_wp2)
        go_ret
        exact ⟨by first | rfl | (simp [errW_none, errW_some] <;> rfl) | (simp [*, errW_none, errW_some] <;> rfl), by repeat (first | (with_reducible first | exact HB.out | apply below_alloc | apply pw_below_drewN | apply below_drew1 | refine below_set ?_ GE915.out) | exact HB.out)⟩
      · replace c13 := Bool.eq_false_iff.mpr c13
        subst c13
        have H1 : (computusref17_Check.l0 kj1 ([] : List ByteArray) 0 a0_0 l0_1 l0_2) = some r := by rw [if_neg (show ¬ (false = true) by decide)] at H; exact H
        clear H
        have H := H1
        clear H1
        have H' := Aside0.mk H
        clear H
        go_wp2
        repeat (go_quiet (fail); try go_wp2)
        go_loopg [3, 4] kj1 (fun kq v3 v4 w' => ∃ (x3_2 : List ByteArray) (x4_2 : Int), v4 = .int .i64 x4_2 ∧ Aside0 (computusref17_Check.l0 kq x3_2 x4_2 a0_0 l0_1 l0_2 = some r) ∧ Aside0 (kq ≤ kj1) ∧ Aside0 (Kd.R Kd.string 9 w' w.heap.size (fun _ => True) v3 x3_2) ∧ Aside0 (w'.heap[gb915]? = some (.cells #[.int .i64 a0_0, (.slice A0_1 l0_1.length c0_1), (.slice A0_2 l0_2.length c0_2)] 26 (0, 0))) ∧ Aside0 (Below w.heap.size w w'))
        case atStart => exact ⟨(([] : List ByteArray)), (0), (by first | rfl | (simp; done) | (simp [*]; done)), H', ⟨Nat.le_refl _⟩, ⟨by first | exact Kd.R_nil _ _ _ _ _ | exact Kd.N_nil _ _ _ _ _ | exact Kd.V_nil _ _ _ _ _ | exact Kd.Q_nil _ _ _ _ _ | exact Kd.S_nil _ _ _ _ _⟩, ⟨by (with_reducible repeat (first | refine blk_drewN ?_ _ | refine blk_drew ?_ | refine blk_alloc ?_ _)); exact BK915.out⟩, ⟨by repeat (first | (with_reducible first | exact HB.out | apply below_alloc | apply pw_below_drewN | apply below_drew1 | refine below_set ?_ GE915.out) | exact HB.out)⟩⟩
        case round =>
          clear H'
          try clear c1
          try clear p2
          try clear c4
          try clear c4b0
          try clear c6
          try clear c6b0
          try clear c8
          try clear c8b0
          try clear c8b1
          try clear c10
          try clear c10b0
          try clear c10b1
          try clear c13
          try clear hcz11_0
          try clear hcz11_1
          try clear hcz11_2
          try clear hcz12_0
          try clear hcz12_1
          try clear hcz12_2
          try clear hcz5_0
          try clear hcz5_1
          try clear hcz5_2
          try clear hcz7_0
          try clear hcz7_1
          try clear hcz7_2
          try clear hcz9_0
          try clear hcz9_1
          try clear hcz9_2
          try clear hfz11_0
          try clear hfz11_1
          try clear hfz11_2
          try clear hfz12_0
          try clear hfz12_1
          try clear hfz12_2
          try clear hfz5_0
          try clear hfz5_1
          try clear hfz5_2
          try clear hfz7_0
          try clear hfz7_1
          try clear hfz7_2
          try clear hfz9_0
          try clear hfz9_1
          try clear hfz9_2
          try clear p2
          obtain ⟨x3_2, x4_2, rfl, HA, HK2, HO_3, BK915, HB⟩ := hrel
          cases gk with
          | zero => exact absurd HA.out (by simp [computusref17_Check.l0])
          | succ k2 =>
            have H := HA.out
            clear HA
            simp only [computusref17_Check.l0] at H
            by_cases c14 : x4_2 < (l0_1.length : Int)
            · rw [if_pos c14] at H
              have c14b0 : decide (x4_2 < (l0_1.length : Int)) = true := decide_eq_true c14
              clear c14
              by_cases c15 : 0 ≤ x4_2
              · rw [if_pos c15] at H
                have c15b0 : decide (0 ≤ x4_2) = true := decide_eq_true c15
                clear c15
                replace H := Option.bind_eq_some_iff.mp H
                obtain ⟨t917, A160, H⟩ := H
                replace H : (if t917 = true then (if x3_2.length < 8796093022208 then (computusref17_Check.l0 k2 (x3_2 ++ [(rd_T33 l0_1 x4_2).f0]) (wrap64 (x4_2 + 1)) a0_0 l0_1 l0_2) else (none)) else (some false)) = some r := H
                have A16 := Aside0.mk A160
                clear A160
                by_cases c17 : t917 = true
                · subst c17
                  have H1 : (if x3_2.length < 8796093022208 then (computusref17_Check.l0 k2 (x3_2 ++ [(rd_T33 l0_1 x4_2).f0]) (wrap64 (x4_2 + 1)) a0_0 l0_1 l0_2) else (none)) = some r := by rw [if_pos rfl] at H; exact H
                  clear H
                  have H := H1
                  clear H1
                  by_cases c18 : x3_2.length < 8796093022208
                  · rw [if_pos c18] at H
                    have LMc18 := Aside0.mk c18
                    clear c18
                    obtain ⟨y919, hy919⟩ : ∃ y_ : List ByteArray, y_ = (x3_2 ++ [(rd_T33 l0_1 x4_2).f0]) := ⟨_, rfl⟩
                    replace H : (computusref17_Check.l0 k2 y919 (wrap64 (x4_2 + 1)) a0_0 l0_1 l0_2) = some r := by first | (rw [hy919]; with_reducible exact H) | (have H2_ := (Option.bind_some _ _).symm.trans H; rw [hy919]; with_reducible exact H2_) | (have H2_ := (Option.bind_some _ _).symm.trans H; with_reducible exact H2_) | with_reducible exact H | (rw [hy919]; exact H) | exact H
                    have Ny919 := Aside0.mk hy919
                    clear hy919
                    have H' := Aside0.mk H
                    clear H
                    have hcz19_0 : wr.cell? ⟨gb915, 0, none⟩ = some (.int .i64 a0_0) := (blk_cell BK915.out 0).trans rfl
                    have hcz19_1 : wr.cell? ⟨gb915, 1, none⟩ = some (.slice A0_1 l0_1.length c0_1) := (blk_cell BK915.out 1).trans rfl
                    have hcz19_2 : wr.cell? ⟨gb915, 2, none⟩ = some (.slice A0_2 l0_2.length c0_2) := (blk_cell BK915.out 2).trans rfl
                    have hfz19_0 := blk_frozen BK915.out 0
                    have hfz19_1 := blk_frozen BK915.out 1
                    have hfz19_2 := blk_frozen BK915.out 2
                    have p916 : 0 ≤ (x4_2 : Int) := of_decide_eq_true (by first | (with_reducible assumption) | assumption)
                    have q916 : x4_2 < (l0_1.length : Int) := of_decide_eq_true (by first | (with_reducible assumption) | assumption)
                    obtain ⟨ad916, e916, hx916_0, hx916_1, hx916_2, hx916_3, hx916_4, hx916_5, hx916_6, hx916_7, hx916_8⟩ := at_T33 HR0_1.out x4_2 p916 q916
                    cases e916
                    replace hx916_0 := (HB.out.cell (World.block_lt_of_cell? w _ hx916_0)).trans hx916_0
                    replace hx916_1 := (HB.out.cell (World.block_lt_of_cell? w _ hx916_1)).trans hx916_1
                    replace hx916_2 := (HB.out.cell (World.block_lt_of_cell? w _ hx916_2)).trans hx916_2
                    replace hx916_3 := (HB.out.cell (World.block_lt_of_cell? w _ hx916_3)).trans hx916_3
                    replace hx916_4 := (HB.out.cell (World.block_lt_of_cell? w _ hx916_4)).trans hx916_4
                    replace hx916_5 := (HB.out.cell (World.block_lt_of_cell? w _ hx916_5)).trans hx916_5
                    replace hx916_6 := (HB.out.cell (World.block_lt_of_cell? w _ hx916_6)).trans hx916_6
                    replace hx916_7 := (HB.out.cell (World.block_lt_of_cell? w _ hx916_7)).trans hx916_7
                    replace hx916_8 := (HB.out.cell (World.block_lt_of_cell? w _ hx916_8)).trans hx916_8
                    replace p916 := eq_true p916
                    replace q916 := eq_true q916
                    go_wp2_with (first | (go_at_call 35; (with_reducible refine (computusref17_Season.calls k2 ((rd_T33 l0_1 x4_2).f0) ((rd_T33 l0_1 x4_2).f1) ((rd_T33 l0_1 x4_2).f2) ((rd_T33 l0_1 x4_2).f3.f0) ((rd_T33 l0_1 x4_2).f3.f1) ((rd_T33 l0_1 x4_2).f3.f2) ((rd_T33 l0_1 x4_2).f3.f3) ((rd_T33 l0_1 x4_2).f3.f4) ((rd_T33 l0_1 x4_2).f3.f5) true _ A16.out).mono ?_); rintro e w20 ⟨rfl, hb⟩; have n0_ := Aside0.mk (Kd.R_below (by (with_reducible repeat (first | apply Kd.R_alloc | apply Kd.R_drewN | apply Kd.R_drew)); exact HO_3.out) hb); have n1_ := Aside0.mk (blk_below (g := gb915) (o := .cells #[.int .i64 a0_0, .slice (some ad916) l0_1.length c0_1, .slice A0_2 l0_2.length c0_2] 26 (0, 0)) (by (with_reducible repeat (first | refine blk_drewN ?_ _ | refine blk_drew ?_ | refine blk_alloc ?_ _)); exact BK915.out) hb); have n2_ := Aside0.mk (below_step (by repeat (first | (with_reducible first | exact HB.out | apply below_alloc | apply pw_below_drewN | apply below_drew1 | refine below_set ?_ GE915.out) | exact HB.out)) hb); clear HO_3; clear BK915; clear HB; have HO_3 := n0_; have BK915 := n1_; have HB := n2_; clear n0_ n1_ n2_; (try clear hb); (try clear hb2); (try clear hk); (try clear hi); have hcz21_0 : w20.cell? ⟨gb915, 0, none⟩ = some (.int .i64 a0_0) := (blk_cell BK915.out 0).trans rfl; have hcz21_1 : w20.cell? ⟨gb915, 1, none⟩ = some (.slice (some ad916) l0_1.length c0_1) := (blk_cell BK915.out 1).trans rfl; have hcz21_2 : w20.cell? ⟨gb915, 2, none⟩ = some (.slice A0_2 l0_2.length c0_2) := (blk_cell BK915.out 2).trans rfl; have hfz21_0 := blk_frozen BK915.out 0; have hfz21_1 := blk_frozen BK915.out 1; have hfz21_2 := blk_frozen BK915.out 2; have p918 : 0 ≤ (x4_2 : Int) := of_decide_eq_true (by first | (with_reducible assumption) | assumption); have q918 : x4_2 < (l0_1.length : Int) := of_decide_eq_true (by first | (with_reducible assumption) | assumption); obtain ⟨ad918, e918, hx918_0, hx918_1, hx918_2, hx918_3, hx918_4, hx918_5, hx918_6, hx918_7, hx918_8⟩ := at_T33 HR0_1.out x4_2 p918 q918; obtain rfl : ad916 = ad918 := (by injection e918); replace hx918_0 := (HB.out.cell (World.block_lt_of_cell? w _ hx918_0)).trans hx918_0; replace hx918_1 := (HB.out.cell (World.block_lt_of_cell? w _ hx918_1)).trans hx918_1; replace hx918_2 := (HB.out.cell (World.block_lt_of_cell? w _ hx918_2)).trans hx918_2; replace hx918_3 := (HB.out.cell (World.block_lt_of_cell? w _ hx918_3)).trans hx918_3; replace hx918_4 := (HB.out.cell (World.block_lt_of_cell? w _ hx918_4)).trans hx918_4; replace hx918_5 := (HB.out.cell (World.block_lt_of_cell? w _ hx918_5)).trans hx918_5; replace hx918_6 := (HB.out.cell (World.block_lt_of_cell? w _ hx918_6)).trans hx918_6; replace hx918_7 := (HB.out.cell (World.block_lt_of_cell? w _ hx918_7)).trans hx918_7; replace hx918_8 := (HB.out.cell (World.block_lt_of_cell? w _ hx918_8)).trans hx918_8; replace p918 := eq_true p918; replace q918 := eq_true q918) | ((with_reducible refine gate_builtin (b := .append) (xs := #[.tmp 48, .tmp 55]) rfl ?_); (try (refine gate_guard (by rfl) ?_; dsimp only)); at_builtin; refine Kd.R_append Kd.string (w0 := w) w.heap.size rfl (.tmp 48) (.tmp 55) 28 9 (.string ⟨#[]⟩) 16 rfl Try.underlying28 info9 rfl (by decide) (by omega) u3 x3_2 ((rd_T33 l0_1 x4_2).f0) [.string ((rd_T33 l0_1 x4_2).f0)] (fun _ => True) (fun _ => False) rfl rfl ?aP (fun _ hk => hk.elim) ?aF ?aO ?aB ?aS ?aL ?_; (case aP => exact rfl); (case aB => exact (by repeat (first | (with_reducible first | exact HB.out | apply below_alloc | apply pw_below_drewN | apply below_drew1 | refine below_set ?_ GE915.out) | exact HB.out))); (case aF => exact (fun _ _ => trivial)); (case aO => exact (by (with_reducible repeat (first | apply Kd.R_alloc | apply Kd.R_drewN | apply Kd.R_drew)); exact HO_3.out)); (case aS => exact (below_size (by repeat (first | (with_reducible first | exact HB.out | apply below_alloc | apply pw_below_drewN | apply below_drew1 | refine below_set ?_ GE915.out) | exact HB.out)))); (case aL => have := LMc18.out; omega); intro v920 w22 ho hb hg hat; rw [← Ny919.out] at ho; have n0_ := Aside0.mk (blk_grown (g := gb915) (o := .cells #[.int .i64 a0_0, .slice (some ad916) l0_1.length c0_1, .slice A0_2 l0_2.length c0_2] 26 (0, 0)) (by (with_reducible repeat (first | refine blk_drewN ?_ _ | refine blk_drew ?_ | refine blk_alloc ?_ _)); exact BK915.out) hg (Kd.R_ne HO_3.out BK915.out (by decide))); have n1_ := Aside0.mk (hb); have n2_ := Aside0.mk (ho); clear BK915; clear HB; clear HO_3; have BK915 := n0_; have HB := n1_; have HO921 := n2_; clear n0_ n1_ n2_; clear ho hb hg hat))
                    repeat (go_quiet (first | (go_at_call 35; (with_reducible refine (computusref17_Season.calls k2 ((rd_T33 l0_1 x4_2).f0) ((rd_T33 l0_1 x4_2).f1) ((rd_T33 l0_1 x4_2).f2) ((rd_T33 l0_1 x4_2).f3.f0) ((rd_T33 l0_1 x4_2).f3.f1) ((rd_T33 l0_1 x4_2).f3.f2) ((rd_T33 l0_1 x4_2).f3.f3) ((rd_T33 l0_1 x4_2).f3.f4) ((rd_T33 l0_1 x4_2).f3.f5) true _ A16.out).mono ?_); rintro e w20 ⟨rfl, hb⟩; have n0_ := Aside0.mk (Kd.R_below (by (with_reducible repeat (first | apply Kd.R_alloc | apply Kd.R_drewN | apply Kd.R_drew)); exact HO_3.out) hb); have n1_ := Aside0.mk (blk_below (g := gb915) (o := .cells #[.int .i64 a0_0, .slice (some ad916) l0_1.length c0_1, .slice A0_2 l0_2.length c0_2] 26 (0, 0)) (by (with_reducible repeat (first | refine blk_drewN ?_ _ | refine blk_drew ?_ | refine blk_alloc ?_ _)); exact BK915.out) hb); have n2_ := Aside0.mk (below_step (by repeat (first | (with_reducible first | exact HB.out | apply below_alloc | apply pw_below_drewN | apply below_drew1 | refine below_set ?_ GE915.out) | exact HB.out)) hb); clear HO_3; clear BK915; clear HB; have HO_3 := n0_; have BK915 := n1_; have HB := n2_; clear n0_ n1_ n2_; (try clear hb); (try clear hb2); (try clear hk); (try clear hi); have hcz21_0 : w20.cell? ⟨gb915, 0, none⟩ = some (.int .i64 a0_0) := (blk_cell BK915.out 0).trans rfl; have hcz21_1 : w20.cell? ⟨gb915, 1, none⟩ = some (.slice (some ad916) l0_1.length c0_1) := (blk_cell BK915.out 1).trans rfl; have hcz21_2 : w20.cell? ⟨gb915, 2, none⟩ = some (.slice A0_2 l0_2.length c0_2) := (blk_cell BK915.out 2).trans rfl; have hfz21_0 := blk_frozen BK915.out 0; have hfz21_1 := blk_frozen BK915.out 1; have hfz21_2 := blk_frozen BK915.out 2; have p918 : 0 ≤ (x4_2 : Int) := of_decide_eq_true (by first | (with_reducible assumption) | assumption); have q918 : x4_2 < (l0_1.length : Int) := of_decide_eq_true (by first | (with_reducible assumption) | assumption); obtain ⟨ad918, e918, hx918_0, hx918_1, hx918_2, hx918_3, hx918_4, hx918_5, hx918_6, hx918_7, hx918_8⟩ := at_T33 HR0_1.out x4_2 p918 q918; obtain rfl : ad916 = ad918 := (by injection e918); replace hx918_0 := (HB.out.cell (World.block_lt_of_cell? w _ hx918_0)).trans hx918_0; replace hx918_1 := (HB.out.cell (World.block_lt_of_cell? w _ hx918_1)).trans hx918_1; replace hx918_2 := (HB.out.cell (World.block_lt_of_cell? w _ hx918_2)).trans hx918_2; replace hx918_3 := (HB.out.cell (World.block_lt_of_cell? w _ hx918_3)).trans hx918_3; replace hx918_4 := (HB.out.cell (World.block_lt_of_cell? w _ hx918_4)).trans hx918_4; replace hx918_5 := (HB.out.cell (World.block_lt_of_cell? w _ hx918_5)).trans hx918_5; replace hx918_6 := (HB.out.cell (World.block_lt_of_cell? w _ hx918_6)).trans hx918_6; replace hx918_7 := (HB.out.cell (World.block_lt_of_cell? w _ hx918_7)).trans hx918_7; replace hx918_8 := (HB.out.cell (World.block_lt_of_cell? w _ hx918_8)).trans hx918_8; replace p918 := eq_true p918; replace q918 := eq_true q918) | ((with_reducible refine gate_builtin (b := .append) (xs := #[.tmp 48, .tmp 55]) rfl ?_); (try (refine gate_guard (by rfl) ?_; dsimp only)); at_builtin; refine Kd.R_append Kd.string (w0 := w) w.heap.size rfl (.tmp 48) (.tmp 55) 28 9 (.string ⟨#[]⟩) 16 rfl Try.underlying28 info9 rfl (by decide) (by omega) u3 x3_2 ((rd_T33 l0_1 x4_2).f0) [.string ((rd_T33 l0_1 x4_2).f0)] (fun _ => True) (fun _ => False) rfl rfl ?aP (fun _ hk => hk.elim) ?aF ?aO ?aB ?aS ?aL ?_; (case aP => exact rfl); (case aB => exact (by repeat (first | (with_reducible first | exact HB.out | apply below_alloc | apply pw_below_drewN | apply below_drew1 | refine below_set ?_ GE915.out) | exact HB.out))); (case aF => exact (fun _ _ => trivial)); (case aO => exact (by (with_reducible repeat (first | apply Kd.R_alloc | apply Kd.R_drewN | apply Kd.R_drew)); exact HO_3.out)); (case aS => exact (below_size (by repeat (first | (with_reducible first | exact HB.out | apply below_alloc | apply pw_below_drewN | apply below_drew1 | refine below_set ?_ GE915.out) | exact HB.out)))); (case aL => have := LMc18.out; omega); intro v920 w22 ho hb hg hat; rw [← Ny919.out] at ho; have n0_ := Aside0.mk (blk_grown (g := gb915) (o := .cells #[.int .i64 a0_0, .slice (some ad916) l0_1.length c0_1, .slice A0_2 l0_2.length c0_2] 26 (0, 0)) (by (with_reducible repeat (first | refine blk_drewN ?_ _ | refine blk_drew ?_ | refine blk_alloc ?_ _)); exact BK915.out) hg (Kd.R_ne HO_3.out BK915.out (by decide))); have n1_ := Aside0.mk (hb); have n2_ := Aside0.mk (ho); clear BK915; clear HB; clear HO_3; have BK915 := n0_; have HB := n1_; have HO921 := n2_; clear n0_ n1_ n2_; clear ho hb hg hat)); try go_wp2_with (first | (go_at_call 35; (with_reducible refine (computusref17_Season.calls k2 ((rd_T33 l0_1 x4_2).f0) ((rd_T33 l0_1 x4_2).f1) ((rd_T33 l0_1 x4_2).f2) ((rd_T33 l0_1 x4_2).f3.f0) ((rd_T33 l0_1 x4_2).f3.f1) ((rd_T33 l0_1 x4_2).f3.f2) ((rd_T33 l0_1 x4_2).f3.f3) ((rd_T33 l0_1 x4_2).f3.f4) ((rd_T33 l0_1 x4_2).f3.f5) true _ A16.out).mono ?_); rintro e w20 ⟨rfl, hb⟩; have n0_ := Aside0.mk (Kd.R_below (by (with_reducible repeat (first | apply Kd.R_alloc | apply Kd.R_drewN | apply Kd.R_drew)); exact HO_3.out) hb); have n1_ := Aside0.mk (blk_below (g := gb915) (o := .cells #[.int .i64 a0_0, .slice (some ad916) l0_1.length c0_1, .slice A0_2 l0_2.length c0_2] 26 (0, 0)) (by (with_reducible repeat (first | refine blk_drewN ?_ _ | refine blk_drew ?_ | refine blk_alloc ?_ _)); exact BK915.out) hb); have n2_ := Aside0.mk (below_step (by repeat (first | (with_reducible first | exact HB.out | apply below_alloc | apply pw_below_drewN | apply below_drew1 | refine below_set ?_ GE915.out) | exact HB.out)) hb); clear HO_3; clear BK915; clear HB; have HO_3 := n0_; have BK915 := n1_; have HB := n2_; clear n0_ n1_ n2_; (try clear hb); (try clear hb2); (try clear hk); (try clear hi); have hcz21_0 : w20.cell? ⟨gb915, 0, none⟩ = some (.int .i64 a0_0) := (blk_cell BK915.out 0).trans rfl; have hcz21_1 : w20.cell? ⟨gb915, 1, none⟩ = some (.slice (some ad916) l0_1.length c0_1) := (blk_cell BK915.out 1).trans rfl; have hcz21_2 : w20.cell? ⟨gb915, 2, none⟩ = some (.slice A0_2 l0_2.length c0_2) := (blk_cell BK915.out 2).trans rfl; have hfz21_0 := blk_frozen BK915.out 0; have hfz21_1 := blk_frozen BK915.out 1; have hfz21_2 := blk_frozen BK915.out 2; have p918 : 0 ≤ (x4_2 : Int) := of_decide_eq_true (by first | (with_reducible assumption) | assumption); have q918 : x4_2 < (l0_1.length : Int) := of_decide_eq_true (by first | (with_reducible assumption) | assumption); obtain ⟨ad918, e918, hx918_0, hx918_1, hx918_2, hx918_3, hx918_4, hx918_5, hx918_6, hx918_7, hx918_8⟩ := at_T33 HR0_1.out x4_2 p918 q918; obtain rfl : ad916 = ad918 := (by injection e918); replace hx918_0 := (HB.out.cell (World.block_lt_of_cell? w _ hx918_0)).trans hx918_0; replace hx918_1 := (HB.out.cell (World.block_lt_of_cell? w _ hx918_1)).trans hx918_1; replace hx918_2 := (HB.out.cell (World.block_lt_of_cell? w _ hx918_2)).trans hx918_2; replace hx918_3 := (HB.out.cell (World.block_lt_of_cell? w _ hx918_3)).trans hx918_3; replace hx918_4 := (HB.out.cell (World.block_lt_of_cell? w _ hx918_4)).trans hx918_4; replace hx918_5 := (HB.out.cell (World.block_lt_of_cell? w _ hx918_5)).trans hx918_5; replace hx918_6 := (HB.out.cell (World.block_lt_of_cell? w _ hx918_6)).trans hx918_6; replace hx918_7 := (HB.out.cell (World.block_lt_of_cell? w _ hx918_7)).trans hx918_7; replace hx918_8 := (HB.out.cell (World.block_lt_of_cell? w _ hx918_8)).trans hx918_8; replace p918 := eq_true p918; replace q918 := eq_true q918) | ((with_reducible refine gate_builtin (b := .append) (xs := #[.tmp 48, .tmp 55]) rfl ?_); (try (refine gate_guard (by rfl) ?_; dsimp only)); at_builtin; refine Kd.R_append Kd.string (w0 := w) w.heap.size rfl (.tmp 48) (.tmp 55) 28 9 (.string ⟨#[]⟩) 16 rfl Try.underlying28 info9 rfl (by decide) (by omega) u3 x3_2 ((rd_T33 l0_1 x4_2).f0) [.string ((rd_T33 l0_1 x4_2).f0)] (fun _ => True) (fun _ => False) rfl rfl ?aP (fun _ hk => hk.elim) ?aF ?aO ?aB ?aS ?aL ?_; (case aP => exact rfl); (case aB => exact (by repeat (first | (with_reducible first | exact HB.out | apply below_alloc | apply pw_below_drewN | apply below_drew1 | refine below_set ?_ GE915.out) | exact HB.out))); (case aF => exact (fun _ _ => trivial)); (case aO => exact (by (with_reducible repeat (first | apply Kd.R_alloc | apply Kd.R_drewN | apply Kd.R_drew)); exact HO_3.out)); (case aS => exact (below_size (by repeat (first | (with_reducible first | exact HB.out | apply below_alloc | apply pw_below_drewN | apply below_drew1 | refine below_set ?_ GE915.out) | exact HB.out)))); (case aL => have := LMc18.out; omega); intro v920 w22 ho hb hg hat; rw [← Ny919.out] at ho; have n0_ := Aside0.mk (blk_grown (g := gb915) (o := .cells #[.int .i64 a0_0, .slice (some ad916) l0_1.length c0_1, .slice A0_2 l0_2.length c0_2] 26 (0, 0)) (by (with_reducible repeat (first | refine blk_drewN ?_ _ | refine blk_drew ?_ | refine blk_alloc ?_ _)); exact BK915.out) hg (Kd.R_ne HO_3.out BK915.out (by decide))); have n1_ := Aside0.mk (hb); have n2_ := Aside0.mk (ho); clear BK915; clear HB; clear HO_3; have BK915 := n0_; have HB := n1_; have HO921 := n2_; clear n0_ n1_ n2_; clear ho hb hg hat)))
                    go_roundg k2
                    case measure => have := HJ1.out; have := HK2.out; omega
                    case rel => exact ⟨(y919), (wrap64 (x4_2 + 1)), (by first | rfl | (simp; done) | (simp [*]; done)), H', ⟨by have := HJ1.out; have := HK2.out; omega⟩, ⟨by (with_reducible repeat (first | apply Kd.R_alloc | apply Kd.R_drewN | apply Kd.R_drew)); exact HO921.out⟩, ⟨by (with_reducible repeat (first | refine blk_drewN ?_ _ | refine blk_drew ?_ | refine blk_alloc ?_ _)); exact BK915.out⟩, ⟨by repeat (first | (with_reducible first | exact HB.out | apply below_alloc | apply pw_below_drewN | apply below_drew1 | refine below_set ?_ GE915.out) | exact HB.out)⟩⟩
                  · rw [if_neg c18] at H
                    exact absurd H (by simp)
                · replace c17 := Bool.eq_false_iff.mpr c17
                  subst c17
                  have H1 : (some false) = some r := by rw [if_neg (show ¬ (false = true) by decide)] at H; exact H
                  clear H
                  have H := H1
                  clear H1
                  obtain rfl := Option.some.inj H
                  have hcz23_0 : wr.cell? ⟨gb915, 0, none⟩ = some (.int .i64 a0_0) := (blk_cell BK915.out 0).trans rfl
                  have hcz23_1 : wr.cell? ⟨gb915, 1, none⟩ = some (.slice A0_1 l0_1.length c0_1) := (blk_cell BK915.out 1).trans rfl
                  have hcz23_2 : wr.cell? ⟨gb915, 2, none⟩ = some (.slice A0_2 l0_2.length c0_2) := (blk_cell BK915.out 2).trans rfl
                  have hfz23_0 := blk_frozen BK915.out 0
                  have hfz23_1 := blk_frozen BK915.out 1
                  have hfz23_2 := blk_frozen BK915.out 2
                  have p916 : 0 ≤ (x4_2 : Int) := of_decide_eq_true (by first | (with_reducible assumption) | assumption)
                  have q916 : x4_2 < (l0_1.length : Int) := of_decide_eq_true (by first | (with_reducible assumption) | assumption)
                  obtain ⟨ad916, e916, hx916_0, hx916_1, hx916_2, hx916_3, hx916_4, hx916_5, hx916_6, hx916_7, hx916_8⟩ := at_T33 HR0_1.out x4_2 p916 q916
                  cases e916
                  replace hx916_0 := (HB.out.cell (World.block_lt_of_cell? w _ hx916_0)).trans hx916_0
                  replace hx916_1 := (HB.out.cell (World.block_lt_of_cell? w _ hx916_1)).trans hx916_1
                  replace hx916_2 := (HB.out.cell (World.block_lt_of_cell? w _ hx916_2)).trans hx916_2
                  replace hx916_3 := (HB.out.cell (World.block_lt_of_cell? w _ hx916_3)).trans hx916_3
                  replace hx916_4 := (HB.out.cell (World.block_lt_of_cell? w _ hx916_4)).trans hx916_4
                  replace hx916_5 := (HB.out.cell (World.block_lt_of_cell? w _ hx916_5)).trans hx916_5
                  replace hx916_6 := (HB.out.cell (World.block_lt_of_cell? w _ hx916_6)).trans hx916_6
                  replace hx916_7 := (HB.out.cell (World.block_lt_of_cell? w _ hx916_7)).trans hx916_7
                  replace hx916_8 := (HB.out.cell (World.block_lt_of_cell? w _ hx916_8)).trans hx916_8
                  replace p916 := eq_true p916
                  replace q916 := eq_true q916
                  go_wp2_with (first | (go_at_call 35; (with_reducible refine (computusref17_Season.calls k2 ((rd_T33 l0_1 x4_2).f0) ((rd_T33 l0_1 x4_2).f1) ((rd_T33 l0_1 x4_2).f2) ((rd_T33 l0_1 x4_2).f3.f0) ((rd_T33 l0_1 x4_2).f3.f1) ((rd_T33 l0_1 x4_2).f3.f2) ((rd_T33 l0_1 x4_2).f3.f3) ((rd_T33 l0_1 x4_2).f3.f4) ((rd_T33 l0_1 x4_2).f3.f5) false _ A16.out).mono ?_); rintro e w24 ⟨rfl, hb⟩; have n0_ := Aside0.mk (Kd.R_below (by (with_reducible repeat (first | apply Kd.R_alloc | apply Kd.R_drewN | apply Kd.R_drew)); exact HO_3.out) hb); have n1_ := Aside0.mk (blk_below (g := gb915) (o := .cells #[.int .i64 a0_0, .slice (some ad916) l0_1.length c0_1, .slice A0_2 l0_2.length c0_2] 26 (0, 0)) (by (with_reducible repeat (first | refine blk_drewN ?_ _ | refine blk_drew ?_ | refine blk_alloc ?_ _)); exact BK915.out) hb); have n2_ := Aside0.mk (below_step (by repeat (first | (with_reducible first | exact HB.out | apply below_alloc | apply pw_below_drewN | apply below_drew1 | refine below_set ?_ GE915.out) | exact HB.out)) hb); clear HO_3; clear BK915; clear HB; have HO_3 := n0_; have BK915 := n1_; have HB := n2_; clear n0_ n1_ n2_; (try clear hb); (try clear hb2); (try clear hk); (try clear hi)))
                  repeat (go_quiet (first | (go_at_call 35; (with_reducible refine (computusref17_Season.calls k2 ((rd_T33 l0_1 x4_2).f0) ((rd_T33 l0_1 x4_2).f1) ((rd_T33 l0_1 x4_2).f2) ((rd_T33 l0_1 x4_2).f3.f0) ((rd_T33 l0_1 x4_2).f3.f1) ((rd_T33 l0_1 x4_2).f3.f2) ((rd_T33 l0_1 x4_2).f3.f3) ((rd_T33 l0_1 x4_2).f3.f4) ((rd_T33 l0_1 x4_2).f3.f5) false _ A16.out).mono ?_); rintro e w24 ⟨rfl, hb⟩; have n0_ := Aside0.mk (Kd.R_below (by (with_reducible repeat (first | apply Kd.R_alloc | apply Kd.R_drewN | apply Kd.R_drew)); exact HO_3.out) hb); have n1_ := Aside0.mk (blk_below (g := gb915) (o := .cells #[.int .i64 a0_0, .slice (some ad916) l0_1.length c0_1, .slice A0_2 l0_2.length c0_2] 26 (0, 0)) (by (with_reducible repeat (first | refine blk_drewN ?_ _ | refine blk_drew ?_ | refine blk_alloc ?_ _)); exact BK915.out) hb); have n2_ := Aside0.mk (below_step (by repeat (first | (with_reducible first | exact HB.out | apply below_alloc | apply pw_below_drewN | apply below_drew1 | refine below_set ?_ GE915.out) | exact HB.out)) hb); clear HO_3; clear BK915; clear HB; have HO_3 := n0_; have BK915 := n1_; have HB := n2_; clear n0_ n1_ n2_; (try clear hb); (try clear hb2); (try clear hk); (try clear hi))); try go_wp2_with (first | (go_at_call 35; (with_reducible refine (computusref17_Season.calls k2 ((rd_T33 l0_1 x4_2).f0) ((rd_T33 l0_1 x4_2).f1) ((rd_T33 l0_1 x4_2).f2) ((rd_T33 l0_1 x4_2).f3.f0) ((rd_T33 l0_1 x4_2).f3.f1) ((rd_T33 l0_1 x4_2).f3.f2) ((rd_T33 l0_1 x4_2).f3.f3) ((rd_T33 l0_1 x4_2).f3.f4) ((rd_T33 l0_1 x4_2).f3.f5) false _ A16.out).mono ?_); rintro e w24 ⟨rfl, hb⟩; have n0_ := Aside0.mk (Kd.R_below (by (with_reducible repeat (first | apply Kd.R_alloc | apply Kd.R_drewN | apply Kd.R_drew)); exact HO_3.out) hb); have n1_ := Aside0.mk (blk_below (g := gb915) (o := .cells #[.int .i64 a0_0, .slice (some ad916) l0_1.length c0_1, .slice A0_2 l0_2.length c0_2] 26 (0, 0)) (by (with_reducible repeat (first | refine blk_drewN ?_ _ | refine blk_drew ?_ | refine blk_alloc ?_ _)); exact BK915.out) hb); have n2_ := Aside0.mk (below_step (by repeat (first | (with_reducible first | exact HB.out | apply below_alloc | apply pw_below_drewN | apply below_drew1 | refine below_set ?_ GE915.out) | exact HB.out)) hb); clear HO_3; clear BK915; clear HB; have HO_3 := n0_; have BK915 := n1_; have HB := n2_; clear n0_ n1_ n2_; (try clear hb); (try clear hb2); (try clear hk); (try clear hi))))
                  go_ret
                  exact ⟨by first | rfl | (simp [errW_none, errW_some] <;> rfl) | (simp [*, errW_none, errW_some] <;> rfl), by repeat (first | (with_reducible first | exact HB.out | apply below_alloc | apply pw_below_drewN | apply below_drew1 | refine below_set ?_ GE915.out) | exact HB.out)⟩
              · rw [if_neg c15] at H
                exact absurd H (by simp)
            · rw [if_neg c14] at H
              have c14b0 : decide (x4_2 < (l0_1.length : Int)) = false := decide_eq_false c14
              clear c14
              have H' := Aside0.mk H
              clear H
              have hcz25_0 : wr.cell? ⟨gb915, 0, none⟩ = some (.int .i64 a0_0) := (blk_cell BK915.out 0).trans rfl
              have hcz25_1 : wr.cell? ⟨gb915, 1, none⟩ = some (.slice A0_1 l0_1.length c0_1) := (blk_cell BK915.out 1).trans rfl
              have hcz25_2 : wr.cell? ⟨gb915, 2, none⟩ = some (.slice A0_2 l0_2.length c0_2) := (blk_cell BK915.out 2).trans rfl
              have hfz25_0 := blk_frozen BK915.out 0
              have hfz25_1 := blk_frozen BK915.out 1
              have hfz25_2 := blk_frozen BK915.out 2
              go_wp2
              repeat (go_quiet (fail); try go_wp2)
              go_loopg [3, 5] k2 (fun kq v3 v5 w' => ∃ (x3_3 : List ByteArray) (x5_3 : Int), v5 = .int .i64 x5_3 ∧ Aside0 (computusref17_Check.l1 kq x3_3 x5_3 a0_0 l0_1 l0_2 = some r) ∧ Aside0 (kq ≤ k2) ∧ Aside0 (Kd.R Kd.string 9 w' w.heap.size (fun _ => True) v3 x3_3) ∧ Aside0 (w'.heap[gb915]? = some (.cells #[.int .i64 a0_0, (.slice A0_1 l0_1.length c0_1), (.slice A0_2 l0_2.length c0_2)] 26 (0, 0))) ∧ Aside0 (Below w.heap.size w w'))
              case atStart => exact ⟨(x3_2), (0), (by first | rfl | (simp; done) | (simp [*]; done)), H', ⟨Nat.le_refl _⟩, ⟨by (with_reducible repeat (first | apply Kd.R_alloc | apply Kd.R_drewN | apply Kd.R_drew)); exact HO_3.out⟩, ⟨by (with_reducible repeat (first | refine blk_drewN ?_ _ | refine blk_drew ?_ | refine blk_alloc ?_ _)); exact BK915.out⟩, ⟨by repeat (first | (with_reducible first | exact HB.out | apply below_alloc | apply pw_below_drewN | apply below_drew1 | refine below_set ?_ GE915.out) | exact HB.out)⟩⟩
              case round =>
                clear H'
                try clear c1
                try clear p2
                try clear c4
                try clear c4b0
                try clear c6
                try clear c6b0
                try clear p6
                try clear c8
                try clear c8b0
                try clear c8b1
                try clear p9
                try clear q9
                try clear hx9
                try clear c10
                try clear c10b0
                try clear c10b1
                try clear c13
                try clear c14
                try clear c14b0
                try clear c15
                try clear c15b0
                try clear c17
                try clear c18
                try clear hcz11_0
                try clear hcz11_1
                try clear hcz11_2
                try clear hcz12_0
                try clear hcz12_1
                try clear hcz12_2
                try clear hcz19_0
                try clear hcz19_1
                try clear hcz19_2
                try clear hcz21_0
                try clear hcz21_1
                try clear hcz21_2
                try clear hcz23_0
                try clear hcz23_1
                try clear hcz23_2
                try clear hcz25_0
                try clear hcz25_1
                try clear hcz25_2
                try clear hcz5_0
                try clear hcz5_1
                try clear hcz5_2
                try clear hcz7_0
                try clear hcz7_1
                try clear hcz7_2
                try clear hcz9_0
                try clear hcz9_1
                try clear hcz9_2
                try clear hfz11_0
                try clear hfz11_1
                try clear hfz11_2
                try clear hfz12_0
                try clear hfz12_1
                try clear hfz12_2
                try clear hfz19_0
                try clear hfz19_1
                try clear hfz19_2
                try clear hfz21_0
                try clear hfz21_1
                try clear hfz21_2
                try clear hfz23_0
                try clear hfz23_1
                try clear hfz23_2
                try clear hfz25_0
                try clear hfz25_1
                try clear hfz25_2
                try clear hfz5_0
                try clear hfz5_1
                try clear hfz5_2
                try clear hfz7_0
                try clear hfz7_1
                try clear hfz7_2
                try clear hfz9_0
                try clear hfz9_1
                try clear hfz9_2
                try clear hx916_0
                try clear hx916_1
                try clear hx916_2
                try clear hx916_3
                try clear hx916_4
                try clear hx916_5
                try clear hx916_6
                try clear hx916_7
                try clear hx916_8
                try clear hx918_0
                try clear hx918_1
                try clear hx918_2
                try clear hx918_3
                try clear hx918_4
                try clear hx918_5
                try clear hx918_6
                try clear hx918_7
                try clear hx918_8
                try clear p2
                try clear p916
                try clear p918
                try clear q916
                try clear q918
                obtain ⟨x3_3, x5_3, rfl, HA, HK3, HO_3, BK915, HB⟩ := hrel
                cases gk with
                | zero => exact absurd HA.out (by simp [computusref17_Check.l1])
                | succ k3 =>
                  have H := HA.out
                  clear HA
                  simp only [computusref17_Check.l1] at H
                  by_cases c26 : x5_3 < (l0_2.length : Int)
                  · rw [if_pos c26] at H
                    have c26b0 : decide (x5_3 < (l0_2.length : Int)) = true := decide_eq_true c26
                    clear c26
                    by_cases c27 : 0 ≤ x5_3
                    · rw [if_pos c27] at H
                      have c27b0 : decide (0 ≤ x5_3) = true := decide_eq_true c27
                      clear c27
                      replace H := Option.bind_eq_some_iff.mp H
                      obtain ⟨t923, A280, H⟩ := H
                      replace H : (if t923 = true then (if x3_3.length < 8796093022208 then (computusref17_Check.l1 k3 (x3_3 ++ [(rd_T35 l0_2 x5_3).f0]) (wrap64 (x5_3 + 1)) a0_0 l0_1 l0_2) else (none)) else (some false)) = some r := H
                      have A28 := Aside0.mk A280
                      clear A280
                      by_cases c29 : t923 = true
                      · subst c29
                        have H1 : (if x3_3.length < 8796093022208 then (computusref17_Check.l1 k3 (x3_3 ++ [(rd_T35 l0_2 x5_3).f0]) (wrap64 (x5_3 + 1)) a0_0 l0_1 l0_2) else (none)) = some r := by rw [if_pos rfl] at H; exact H
                        clear H
                        have H := H1
                        clear H1
                        by_cases c30 : x3_3.length < 8796093022208
                        · rw [if_pos c30] at H
                          have LMc30 := Aside0.mk c30
                          clear c30
                          obtain ⟨y925, hy925⟩ : ∃ y_ : List ByteArray, y_ = (x3_3 ++ [(rd_T35 l0_2 x5_3).f0]) := ⟨_, rfl⟩
                          replace H : (computusref17_Check.l1 k3 y925 (wrap64 (x5_3 + 1)) a0_0 l0_1 l0_2) = some r := by first | (rw [hy925]; with_reducible exact H) | (have H2_ := (Option.bind_some _ _).symm.trans H; rw [hy925]; with_reducible exact H2_) | (have H2_ := (Option.bind_some _ _).symm.trans H; with_reducible exact H2_) | with_reducible exact H | (rw [hy925]; exact H) | exact H
                          have Ny925 := Aside0.mk hy925
                          clear hy925
                          have H' := Aside0.mk H
                          clear H
                          have hcz31_0 : wr.cell? ⟨gb915, 0, none⟩ = some (.int .i64 a0_0) := (blk_cell BK915.out 0).trans rfl
                          have hcz31_1 : wr.cell? ⟨gb915, 1, none⟩ = some (.slice A0_1 l0_1.length c0_1) := (blk_cell BK915.out 1).trans rfl
                          have hcz31_2 : wr.cell? ⟨gb915, 2, none⟩ = some (.slice A0_2 l0_2.length c0_2) := (blk_cell BK915.out 2).trans rfl
                          have hfz31_0 := blk_frozen BK915.out 0
                          have hfz31_1 := blk_frozen BK915.out 1
                          have hfz31_2 := blk_frozen BK915.out 2
                          have p922 : 0 ≤ (x5_3 : Int) := of_decide_eq_true (by first | (with_reducible assumption) | assumption)
                          have q922 : x5_3 < (l0_2.length : Int) := of_decide_eq_true (by first | (with_reducible assumption) | assumption)
                          obtain ⟨ad922, e922, hx922_0, hx922_1, hx922_2, hx922_3, hx922_4, hx922_5, hx922_6, hx922_7, hx922_8⟩ := at_T35 HR0_2.out x5_3 p922 q922
                          cases e922
                          replace hx922_0 := (HB.out.cell (World.block_lt_of_cell? w _ hx922_0)).trans hx922_0
                          replace hx922_1 := (HB.out.cell (World.block_lt_of_cell? w _ hx922_1)).trans hx922_1
                          replace hx922_2 := (HB.out.cell (World.block_lt_of_cell? w _ hx922_2)).trans hx922_2
                          replace hx922_3 := (HB.out.cell (World.block_lt_of_cell? w _ hx922_3)).trans hx922_3
                          replace hx922_4 := (HB.out.cell (World.block_lt_of_cell? w _ hx922_4)).trans hx922_4
                          replace hx922_5 := (HB.out.cell (World.block_lt_of_cell? w _ hx922_5)).trans hx922_5
                          replace hx922_6 := (HB.out.cell (World.block_lt_of_cell? w _ hx922_6)).trans hx922_6
                          replace hx922_7 := (HB.out.cell (World.block_lt_of_cell? w _ hx922_7)).trans hx922_7
                          replace hx922_8 := (HB.out.cell (World.block_lt_of_cell? w _ hx922_8)).trans hx922_8
                          replace p922 := eq_true p922
                          replace q922 := eq_true q922
                          go_wp2_with (first | (go_at_call 36; (with_reducible refine (computusref17_Feast.calls k3 ((rd_T35 l0_2 x5_3).f0) ((rd_T35 l0_2 x5_3).f1) ((rd_T35 l0_2 x5_3).f2) ((rd_T35 l0_2 x5_3).f3.f0) ((rd_T35 l0_2 x5_3).f3.f1) ((rd_T35 l0_2 x5_3).f3.f2) ((rd_T35 l0_2 x5_3).f3.f3) ((rd_T35 l0_2 x5_3).f3.f4) ((rd_T35 l0_2 x5_3).f3.f5) true _ A28.out).mono ?_); rintro e w32 ⟨rfl, hb⟩; have n0_ := Aside0.mk (Kd.R_below (by (with_reducible repeat (first | apply Kd.R_alloc | apply Kd.R_drewN | apply Kd.R_drew)); exact HO_3.out) hb); have n1_ := Aside0.mk (blk_below (g := gb915) (o := .cells #[.int .i64 a0_0, .slice A0_1 l0_1.length c0_1, .slice (some ad922) l0_2.length c0_2] 26 (0, 0)) (by (with_reducible repeat (first | refine blk_drewN ?_ _ | refine blk_drew ?_ | refine blk_alloc ?_ _)); exact BK915.out) hb); have n2_ := Aside0.mk (below_step (by repeat (first | (with_reducible first | exact HB.out | apply below_alloc | apply pw_below_drewN | apply below_drew1 | refine below_set ?_ GE915.out) | exact HB.out)) hb); clear HO_3; clear BK915; clear HB; have HO_3 := n0_; have BK915 := n1_; have HB := n2_; clear n0_ n1_ n2_; (try clear hb); (try clear hb2); (try clear hk); (try clear hi); have hcz33_0 : w32.cell? ⟨gb915, 0, none⟩ = some (.int .i64 a0_0) := (blk_cell BK915.out 0).trans rfl; have hcz33_1 : w32.cell? ⟨gb915, 1, none⟩ = some (.slice A0_1 l0_1.length c0_1) := (blk_cell BK915.out 1).trans rfl; have hcz33_2 : w32.cell? ⟨gb915, 2, none⟩ = some (.slice (some ad922) l0_2.length c0_2) := (blk_cell BK915.out 2).trans rfl; have hfz33_0 := blk_frozen BK915.out 0; have hfz33_1 := blk_frozen BK915.out 1; have hfz33_2 := blk_frozen BK915.out 2; have p924 : 0 ≤ (x5_3 : Int) := of_decide_eq_true (by first | (with_reducible assumption) | assumption); have q924 : x5_3 < (l0_2.length : Int) := of_decide_eq_true (by first | (with_reducible assumption) | assumption); obtain ⟨ad924, e924, hx924_0, hx924_1, hx924_2, hx924_3, hx924_4, hx924_5, hx924_6, hx924_7, hx924_8⟩ := at_T35 HR0_2.out x5_3 p924 q924; obtain rfl : ad922 = ad924 := (by injection e924); replace hx924_0 := (HB.out.cell (World.block_lt_of_cell? w _ hx924_0)).trans hx924_0; replace hx924_1 := (HB.out.cell (World.block_lt_of_cell? w _ hx924_1)).trans hx924_1; replace hx924_2 := (HB.out.cell (World.block_lt_of_cell? w _ hx924_2)).trans hx924_2; replace hx924_3 := (HB.out.cell (World.block_lt_of_cell? w _ hx924_3)).trans hx924_3; replace hx924_4 := (HB.out.cell (World.block_lt_of_cell? w _ hx924_4)).trans hx924_4; replace hx924_5 := (HB.out.cell (World.block_lt_of_cell? w _ hx924_5)).trans hx924_5; replace hx924_6 := (HB.out.cell (World.block_lt_of_cell? w _ hx924_6)).trans hx924_6; replace hx924_7 := (HB.out.cell (World.block_lt_of_cell? w _ hx924_7)).trans hx924_7; replace hx924_8 := (HB.out.cell (World.block_lt_of_cell? w _ hx924_8)).trans hx924_8; replace p924 := eq_true p924; replace q924 := eq_true q924) | ((with_reducible refine gate_builtin (b := .append) (xs := #[.tmp 71, .tmp 78]) rfl ?_); (try (refine gate_guard (by rfl) ?_; dsimp only)); at_builtin; refine Kd.R_append Kd.string (w0 := w) w.heap.size rfl (.tmp 71) (.tmp 78) 28 9 (.string ⟨#[]⟩) 16 rfl Try.underlying28 info9 rfl (by decide) (by omega) u3 x3_3 ((rd_T35 l0_2 x5_3).f0) [.string ((rd_T35 l0_2 x5_3).f0)] (fun _ => True) (fun _ => False) rfl rfl ?aP (fun _ hk => hk.elim) ?aF ?aO ?aB ?aS ?aL ?_; (case aP => exact rfl); (case aB => exact (by repeat (first | (with_reducible first | exact HB.out | apply below_alloc | apply pw_below_drewN | apply below_drew1 | refine below_set ?_ GE915.out) | exact HB.out))); (case aF => exact (fun _ _ => trivial)); (case aO => exact (by (with_reducible repeat (first | apply Kd.R_alloc | apply Kd.R_drewN | apply Kd.R_drew)); exact HO_3.out)); (case aS => exact (below_size (by repeat (first | (with_reducible first | exact HB.out | apply below_alloc | apply pw_below_drewN | apply below_drew1 | refine below_set ?_ GE915.out) | exact HB.out)))); (case aL => have := LMc30.out; omega); intro v926 w34 ho hb hg hat; rw [← Ny925.out] at ho; have n0_ := Aside0.mk (blk_grown (g := gb915) (o := .cells #[.int .i64 a0_0, .slice A0_1 l0_1.length c0_1, .slice (some ad922) l0_2.length c0_2] 26 (0, 0)) (by (with_reducible repeat (first | refine blk_drewN ?_ _ | refine blk_drew ?_ | refine blk_alloc ?_ _)); exact BK915.out) hg (Kd.R_ne HO_3.out BK915.out (by decide))); have n1_ := Aside0.mk (hb); have n2_ := Aside0.mk (ho); clear BK915; clear HB; clear HO_3; have BK915 := n0_; have HB := n1_; have HO927 := n2_; clear n0_ n1_ n2_; clear ho hb hg hat))
                          repeat (go_quiet (first | (go_at_call 36; (with_reducible refine (computusref17_Feast.calls k3 ((rd_T35 l0_2 x5_3).f0) ((rd_T35 l0_2 x5_3).f1) ((rd_T35 l0_2 x5_3).f2) ((rd_T35 l0_2 x5_3).f3.f0) ((rd_T35 l0_2 x5_3).f3.f1) ((rd_T35 l0_2 x5_3).f3.f2) ((rd_T35 l0_2 x5_3).f3.f3) ((rd_T35 l0_2 x5_3).f3.f4) ((rd_T35 l0_2 x5_3).f3.f5) true _ A28.out).mono ?_); rintro e w32 ⟨rfl, hb⟩; have n0_ := Aside0.mk (Kd.R_below (by (with_reducible repeat (first | apply Kd.R_alloc | apply Kd.R_drewN | apply Kd.R_drew)); exact HO_3.out) hb); have n1_ := Aside0.mk (blk_below (g := gb915) (o := .cells #[.int .i64 a0_0, .slice A0_1 l0_1.length c0_1, .slice (some ad922) l0_2.length c0_2] 26 (0, 0)) (by (with_reducible repeat (first | refine blk_drewN ?_ _ | refine blk_drew ?_ | refine blk_alloc ?_ _)); exact BK915.out) hb); have n2_ := Aside0.mk (below_step (by repeat (first | (with_reducible first | exact HB.out | apply below_alloc | apply pw_below_drewN | apply below_drew1 | refine below_set ?_ GE915.out) | exact HB.out)) hb); clear HO_3; clear BK915; clear HB; have HO_3 := n0_; have BK915 := n1_; have HB := n2_; clear n0_ n1_ n2_; (try clear hb); (try clear hb2); (try clear hk); (try clear hi); have hcz33_0 : w32.cell? ⟨gb915, 0, none⟩ = some (.int .i64 a0_0) := (blk_cell BK915.out 0).trans rfl; have hcz33_1 : w32.cell? ⟨gb915, 1, none⟩ = some (.slice A0_1 l0_1.length c0_1) := (blk_cell BK915.out 1).trans rfl; have hcz33_2 : w32.cell? ⟨gb915, 2, none⟩ = some (.slice (some ad922) l0_2.length c0_2) := (blk_cell BK915.out 2).trans rfl; have hfz33_0 := blk_frozen BK915.out 0; have hfz33_1 := blk_frozen BK915.out 1; have hfz33_2 := blk_frozen BK915.out 2; have p924 : 0 ≤ (x5_3 : Int) := of_decide_eq_true (by first | (with_reducible assumption) | assumption); have q924 : x5_3 < (l0_2.length : Int) := of_decide_eq_true (by first | (with_reducible assumption) | assumption); obtain ⟨ad924, e924, hx924_0, hx924_1, hx924_2, hx924_3, hx924_4, hx924_5, hx924_6, hx924_7, hx924_8⟩ := at_T35 HR0_2.out x5_3 p924 q924; obtain rfl : ad922 = ad924 := (by injection e924); replace hx924_0 := (HB.out.cell (World.block_lt_of_cell? w _ hx924_0)).trans hx924_0; replace hx924_1 := (HB.out.cell (World.block_lt_of_cell? w _ hx924_1)).trans hx924_1; replace hx924_2 := (HB.out.cell (World.block_lt_of_cell? w _ hx924_2)).trans hx924_2; replace hx924_3 := (HB.out.cell (World.block_lt_of_cell? w _ hx924_3)).trans hx924_3; replace hx924_4 := (HB.out.cell (World.block_lt_of_cell? w _ hx924_4)).trans hx924_4; replace hx924_5 := (HB.out.cell (World.block_lt_of_cell? w _ hx924_5)).trans hx924_5; replace hx924_6 := (HB.out.cell (World.block_lt_of_cell? w _ hx924_6)).trans hx924_6; replace hx924_7 := (HB.out.cell (World.block_lt_of_cell? w _ hx924_7)).trans hx924_7; replace hx924_8 := (HB.out.cell (World.block_lt_of_cell? w _ hx924_8)).trans hx924_8; replace p924 := eq_true p924; replace q924 := eq_true q924) | ((with_reducible refine gate_builtin (b := .append) (xs := #[.tmp 71, .tmp 78]) rfl ?_); (try (refine gate_guard (by rfl) ?_; dsimp only)); at_builtin; refine Kd.R_append Kd.string (w0 := w) w.heap.size rfl (.tmp 71) (.tmp 78) 28 9 (.string ⟨#[]⟩) 16 rfl Try.underlying28 info9 rfl (by decide) (by omega) u3 x3_3 ((rd_T35 l0_2 x5_3).f0) [.string ((rd_T35 l0_2 x5_3).f0)] (fun _ => True) (fun _ => False) rfl rfl ?aP (fun _ hk => hk.elim) ?aF ?aO ?aB ?aS ?aL ?_; (case aP => exact rfl); (case aB => exact (by repeat (first | (with_reducible first | exact HB.out | apply below_alloc | apply pw_below_drewN | apply below_drew1 | refine below_set ?_ GE915.out) | exact HB.out))); (case aF => exact (fun _ _ => trivial)); (case aO => exact (by (with_reducible repeat (first | apply Kd.R_alloc | apply Kd.R_drewN | apply Kd.R_drew)); exact HO_3.out)); (case aS => exact (below_size (by repeat (first | (with_reducible first | exact HB.out | apply below_alloc | apply pw_below_drewN | apply below_drew1 | refine below_set ?_ GE915.out) | exact HB.out)))); (case aL => have := LMc30.out; omega); intro v926 w34 ho hb hg hat; rw [← Ny925.out] at ho; have n0_ := Aside0.mk (blk_grown (g := gb915) (o := .cells #[.int .i64 a0_0, .slice A0_1 l0_1.length c0_1, .slice (some ad922) l0_2.length c0_2] 26 (0, 0)) (by (with_reducible repeat (first | refine blk_drewN ?_ _ | refine blk_drew ?_ | refine blk_alloc ?_ _)); exact BK915.out) hg (Kd.R_ne HO_3.out BK915.out (by decide))); have n1_ := Aside0.mk (hb); have n2_ := Aside0.mk (ho); clear BK915; clear HB; clear HO_3; have BK915 := n0_; have HB := n1_; have HO927 := n2_; clear n0_ n1_ n2_; clear ho hb hg hat)); try go_wp2_with (first | (go_at_call 36; (with_reducible refine (computusref17_Feast.calls k3 ((rd_T35 l0_2 x5_3).f0) ((rd_T35 l0_2 x5_3).f1) ((rd_T35 l0_2 x5_3).f2) ((rd_T35 l0_2 x5_3).f3.f0) ((rd_T35 l0_2 x5_3).f3.f1) ((rd_T35 l0_2 x5_3).f3.f2) ((rd_T35 l0_2 x5_3).f3.f3) ((rd_T35 l0_2 x5_3).f3.f4) ((rd_T35 l0_2 x5_3).f3.f5) true _ A28.out).mono ?_); rintro e w32 ⟨rfl, hb⟩; have n0_ := Aside0.mk (Kd.R_below (by (with_reducible repeat (first | apply Kd.R_alloc | apply Kd.R_drewN | apply Kd.R_drew)); exact HO_3.out) hb); have n1_ := Aside0.mk (blk_below (g := gb915) (o := .cells #[.int .i64 a0_0, .slice A0_1 l0_1.length c0_1, .slice (some ad922) l0_2.length c0_2] 26 (0, 0)) (by (with_reducible repeat (first | refine blk_drewN ?_ _ | refine blk_drew ?_ | refine blk_alloc ?_ _)); exact BK915.out) hb); have n2_ := Aside0.mk (below_step (by repeat (first | (with_reducible first | exact HB.out | apply below_alloc | apply pw_below_drewN | apply below_drew1 | refine below_set ?_ GE915.out) | exact HB.out)) hb); clear HO_3; clear BK915; clear HB; have HO_3 := n0_; have BK915 := n1_; have HB := n2_; clear n0_ n1_ n2_; (try clear hb); (try clear hb2); (try clear hk); (try clear hi); have hcz33_0 : w32.cell? ⟨gb915, 0, none⟩ = some (.int .i64 a0_0) := (blk_cell BK915.out 0).trans rfl; have hcz33_1 : w32.cell? ⟨gb915, 1, none⟩ = some (.slice A0_1 l0_1.length c0_1) := (blk_cell BK915.out 1).trans rfl; have hcz33_2 : w32.cell? ⟨gb915, 2, none⟩ = some (.slice (some ad922) l0_2.length c0_2) := (blk_cell BK915.out 2).trans rfl; have hfz33_0 := blk_frozen BK915.out 0; have hfz33_1 := blk_frozen BK915.out 1; have hfz33_2 := blk_frozen BK915.out 2; have p924 : 0 ≤ (x5_3 : Int) := of_decide_eq_true (by first | (with_reducible assumption) | assumption); have q924 : x5_3 < (l0_2.length : Int) := of_decide_eq_true (by first | (with_reducible assumption) | assumption); obtain ⟨ad924, e924, hx924_0, hx924_1, hx924_2, hx924_3, hx924_4, hx924_5, hx924_6, hx924_7, hx924_8⟩ := at_T35 HR0_2.out x5_3 p924 q924; obtain rfl : ad922 = ad924 := (by injection e924); replace hx924_0 := (HB.out.cell (World.block_lt_of_cell? w _ hx924_0)).trans hx924_0; replace hx924_1 := (HB.out.cell (World.block_lt_of_cell? w _ hx924_1)).trans hx924_1; replace hx924_2 := (HB.out.cell (World.block_lt_of_cell? w _ hx924_2)).trans hx924_2; replace hx924_3 := (HB.out.cell (World.block_lt_of_cell? w _ hx924_3)).trans hx924_3; replace hx924_4 := (HB.out.cell (World.block_lt_of_cell? w _ hx924_4)).trans hx924_4; replace hx924_5 := (HB.out.cell (World.block_lt_of_cell? w _ hx924_5)).trans hx924_5; replace hx924_6 := (HB.out.cell (World.block_lt_of_cell? w _ hx924_6)).trans hx924_6; replace hx924_7 := (HB.out.cell (World.block_lt_of_cell? w _ hx924_7)).trans hx924_7; replace hx924_8 := (HB.out.cell (World.block_lt_of_cell? w _ hx924_8)).trans hx924_8; replace p924 := eq_true p924; replace q924 := eq_true q924) | ((with_reducible refine gate_builtin (b := .append) (xs := #[.tmp 71, .tmp 78]) rfl ?_); (try (refine gate_guard (by rfl) ?_; dsimp only)); at_builtin; refine Kd.R_append Kd.string (w0 := w) w.heap.size rfl (.tmp 71) (.tmp 78) 28 9 (.string ⟨#[]⟩) 16 rfl Try.underlying28 info9 rfl (by decide) (by omega) u3 x3_3 ((rd_T35 l0_2 x5_3).f0) [.string ((rd_T35 l0_2 x5_3).f0)] (fun _ => True) (fun _ => False) rfl rfl ?aP (fun _ hk => hk.elim) ?aF ?aO ?aB ?aS ?aL ?_; (case aP => exact rfl); (case aB => exact (by repeat (first | (with_reducible first | exact HB.out | apply below_alloc | apply pw_below_drewN | apply below_drew1 | refine below_set ?_ GE915.out) | exact HB.out))); (case aF => exact (fun _ _ => trivial)); (case aO => exact (by (with_reducible repeat (first | apply Kd.R_alloc | apply Kd.R_drewN | apply Kd.R_drew)); exact HO_3.out)); (case aS => exact (below_size (by repeat (first | (with_reducible first | exact HB.out | apply below_alloc | apply pw_below_drewN | apply below_drew1 | refine below_set ?_ GE915.out) | exact HB.out)))); (case aL => have := LMc30.out; omega); intro v926 w34 ho hb hg hat; rw [← Ny925.out] at ho; have n0_ := Aside0.mk (blk_grown (g := gb915) (o := .cells #[.int .i64 a0_0, .slice A0_1 l0_1.length c0_1, .slice (some ad922) l0_2.length c0_2] 26 (0, 0)) (by (with_reducible repeat (first | refine blk_drewN ?_ _ | refine blk_drew ?_ | refine blk_alloc ?_ _)); exact BK915.out) hg (Kd.R_ne HO_3.out BK915.out (by decide))); have n1_ := Aside0.mk (hb); have n2_ := Aside0.mk (ho); clear BK915; clear HB; clear HO_3; have BK915 := n0_; have HB := n1_; have HO927 := n2_; clear n0_ n1_ n2_; clear ho hb hg hat)))
                          go_roundg k3
                          case measure => have := HJ1.out; have := HK2.out; have := HK3.out; omega
                          case rel => exact ⟨(y925), (wrap64 (x5_3 + 1)), (by first | rfl | (simp; done) | (simp [*]; done)), H', ⟨by have := HJ1.out; have := HK2.out; have := HK3.out; omega⟩, ⟨by (with_reducible repeat (first | apply Kd.R_alloc | apply Kd.R_drewN | apply Kd.R_drew)); exact HO927.out⟩, ⟨by (with_reducible repeat (first | refine blk_drewN ?_ _ | refine blk_drew ?_ | refine blk_alloc ?_ _)); exact BK915.out⟩, ⟨by repeat (first | (with_reducible first | exact HB.out | apply below_alloc | apply pw_below_drewN | apply below_drew1 | refine below_set ?_ GE915.out) | exact HB.out)⟩⟩
                        · rw [if_neg c30] at H
                          exact absurd H (by simp)
                      · replace c29 := Bool.eq_false_iff.mpr c29
                        subst c29
                        have H1 : (some false) = some r := by rw [if_neg (show ¬ (false = true) by decide)] at H; exact H
                        clear H
                        have H := H1
                        clear H1
                        obtain rfl := Option.some.inj H
                        have hcz35_0 : wr.cell? ⟨gb915, 0, none⟩ = some (.int .i64 a0_0) := (blk_cell BK915.out 0).trans rfl
                        have hcz35_1 : wr.cell? ⟨gb915, 1, none⟩ = some (.slice A0_1 l0_1.length c0_1) := (blk_cell BK915.out 1).trans rfl
                        have hcz35_2 : wr.cell? ⟨gb915, 2, none⟩ = some (.slice A0_2 l0_2.length c0_2) := (blk_cell BK915.out 2).trans rfl
                        have hfz35_0 := blk_frozen BK915.out 0
                        have hfz35_1 := blk_frozen BK915.out 1
                        have hfz35_2 := blk_frozen BK915.out 2
                        have p922 : 0 ≤ (x5_3 : Int) := of_decide_eq_true (by first | (with_reducible assumption) | assumption)
                        have q922 : x5_3 < (l0_2.length : Int) := of_decide_eq_true (by first | (with_reducible assumption) | assumption)
                        obtain ⟨ad922, e922, hx922_0, hx922_1, hx922_2, hx922_3, hx922_4, hx922_5, hx922_6, hx922_7, hx922_8⟩ := at_T35 HR0_2.out x5_3 p922 q922
                        cases e922
                        replace hx922_0 := (HB.out.cell (World.block_lt_of_cell? w _ hx922_0)).trans hx922_0
                        replace hx922_1 := (HB.out.cell (World.block_lt_of_cell? w _ hx922_1)).trans hx922_1
                        replace hx922_2 := (HB.out.cell (World.block_lt_of_cell? w _ hx922_2)).trans hx922_2
                        replace hx922_3 := (HB.out.cell (World.block_lt_of_cell? w _ hx922_3)).trans hx922_3
                        replace hx922_4 := (HB.out.cell (World.block_lt_of_cell? w _ hx922_4)).trans hx922_4
                        replace hx922_5 := (HB.out.cell (World.block_lt_of_cell? w _ hx922_5)).trans hx922_5
                        replace hx922_6 := (HB.out.cell (World.block_lt_of_cell? w _ hx922_6)).trans hx922_6
                        replace hx922_7 := (HB.out.cell (World.block_lt_of_cell? w _ hx922_7)).trans hx922_7
                        replace hx922_8 := (HB.out.cell (World.block_lt_of_cell? w _ hx922_8)).trans hx922_8
                        replace p922 := eq_true p922
                        replace q922 := eq_true q922
                        go_wp2_with (first | (go_at_call 36; (with_reducible refine (computusref17_Feast.calls k3 ((rd_T35 l0_2 x5_3).f0) ((rd_T35 l0_2 x5_3).f1) ((rd_T35 l0_2 x5_3).f2) ((rd_T35 l0_2 x5_3).f3.f0) ((rd_T35 l0_2 x5_3).f3.f1) ((rd_T35 l0_2 x5_3).f3.f2) ((rd_T35 l0_2 x5_3).f3.f3) ((rd_T35 l0_2 x5_3).f3.f4) ((rd_T35 l0_2 x5_3).f3.f5) false _ A28.out).mono ?_); rintro e w36 ⟨rfl, hb⟩; have n0_ := Aside0.mk (Kd.R_below (by (with_reducible repeat (first | apply Kd.R_alloc | apply Kd.R_drewN | apply Kd.R_drew)); exact HO_3.out) hb); have n1_ := Aside0.mk (blk_below (g := gb915) (o := .cells #[.int .i64 a0_0, .slice A0_1 l0_1.length c0_1, .slice (some ad922) l0_2.length c0_2] 26 (0, 0)) (by (with_reducible repeat (first | refine blk_drewN ?_ _ | refine blk_drew ?_ | refine blk_alloc ?_ _)); exact BK915.out) hb); have n2_ := Aside0.mk (below_step (by repeat (first | (with_reducible first | exact HB.out | apply below_alloc | apply pw_below_drewN | apply below_drew1 | refine below_set ?_ GE915.out) | exact HB.out)) hb); clear HO_3; clear BK915; clear HB; have HO_3 := n0_; have BK915 := n1_; have HB := n2_; clear n0_ n1_ n2_; (try clear hb); (try clear hb2); (try clear hk); (try clear hi)))
                        repeat (go_quiet (first | (go_at_call 36; (with_reducible refine (computusref17_Feast.calls k3 ((rd_T35 l0_2 x5_3).f0) ((rd_T35 l0_2 x5_3).f1) ((rd_T35 l0_2 x5_3).f2) ((rd_T35 l0_2 x5_3).f3.f0) ((rd_T35 l0_2 x5_3).f3.f1) ((rd_T35 l0_2 x5_3).f3.f2) ((rd_T35 l0_2 x5_3).f3.f3) ((rd_T35 l0_2 x5_3).f3.f4) ((rd_T35 l0_2 x5_3).f3.f5) false _ A28.out).mono ?_); rintro e w36 ⟨rfl, hb⟩; have n0_ := Aside0.mk (Kd.R_below (by (with_reducible repeat (first | apply Kd.R_alloc | apply Kd.R_drewN | apply Kd.R_drew)); exact HO_3.out) hb); have n1_ := Aside0.mk (blk_below (g := gb915) (o := .cells #[.int .i64 a0_0, .slice A0_1 l0_1.length c0_1, .slice (some ad922) l0_2.length c0_2] 26 (0, 0)) (by (with_reducible repeat (first | refine blk_drewN ?_ _ | refine blk_drew ?_ | refine blk_alloc ?_ _)); exact BK915.out) hb); have n2_ := Aside0.mk (below_step (by repeat (first | (with_reducible first | exact HB.out | apply below_alloc | apply pw_below_drewN | apply below_drew1 | refine below_set ?_ GE915.out) | exact HB.out)) hb); clear HO_3; clear BK915; clear HB; have HO_3 := n0_; have BK915 := n1_; have HB := n2_; clear n0_ n1_ n2_; (try clear hb); (try clear hb2); (try clear hk); (try clear hi))); try go_wp2_with (first | (go_at_call 36; (with_reducible refine (computusref17_Feast.calls k3 ((rd_T35 l0_2 x5_3).f0) ((rd_T35 l0_2 x5_3).f1) ((rd_T35 l0_2 x5_3).f2) ((rd_T35 l0_2 x5_3).f3.f0) ((rd_T35 l0_2 x5_3).f3.f1) ((rd_T35 l0_2 x5_3).f3.f2) ((rd_T35 l0_2 x5_3).f3.f3) ((rd_T35 l0_2 x5_3).f3.f4) ((rd_T35 l0_2 x5_3).f3.f5) false _ A28.out).mono ?_); rintro e w36 ⟨rfl, hb⟩; have n0_ := Aside0.mk (Kd.R_below (by (with_reducible repeat (first | apply Kd.R_alloc | apply Kd.R_drewN | apply Kd.R_drew)); exact HO_3.out) hb); have n1_ := Aside0.mk (blk_below (g := gb915) (o := .cells #[.int .i64 a0_0, .slice A0_1 l0_1.length c0_1, .slice (some ad922) l0_2.length c0_2] 26 (0, 0)) (by (with_reducible repeat (first | refine blk_drewN ?_ _ | refine blk_drew ?_ | refine blk_alloc ?_ _)); exact BK915.out) hb); have n2_ := Aside0.mk (below_step (by repeat (first | (with_reducible first | exact HB.out | apply below_alloc | apply pw_below_drewN | apply below_drew1 | refine below_set ?_ GE915.out) | exact HB.out)) hb); clear HO_3; clear BK915; clear HB; have HO_3 := n0_; have BK915 := n1_; have HB := n2_; clear n0_ n1_ n2_; (try clear hb); (try clear hb2); (try clear hk); (try clear hi))))
                        go_ret
                        exact ⟨by first | rfl | (simp [errW_none, errW_some] <;> rfl) | (simp [*, errW_none, errW_some] <;> rfl), by repeat (first | (with_reducible first | exact HB.out | apply below_alloc | apply pw_below_drewN | apply below_drew1 | refine below_set ?_ GE915.out) | exact HB.out)⟩
                    · rw [if_neg c27] at H
                      exact absurd H (by simp)
                  · rw [if_neg c26] at H
                    have c26b0 : decide (x5_3 < (l0_2.length : Int)) = false := decide_eq_false c26
                    clear c26
                    have H' := Aside0.mk H
                    clear H
                    have hcz37_0 : wr.cell? ⟨gb915, 0, none⟩ = some (.int .i64 a0_0) := (blk_cell BK915.out 0).trans rfl
                    have hcz37_1 : wr.cell? ⟨gb915, 1, none⟩ = some (.slice A0_1 l0_1.length c0_1) := (blk_cell BK915.out 1).trans rfl
                    have hcz37_2 : wr.cell? ⟨gb915, 2, none⟩ = some (.slice A0_2 l0_2.length c0_2) := (blk_cell BK915.out 2).trans rfl
                    have hfz37_0 := blk_frozen BK915.out 0
                    have hfz37_1 := blk_frozen BK915.out 1
                    have hfz37_2 := blk_frozen BK915.out 2
                    go_wp2
                    repeat (go_quiet (fail); try go_wp2)
                    go_loopg [6] k3 (fun kq v6 w' => ∃ (x6_4 : Int), v6 = .int .i64 x6_4 ∧ Aside0 (computusref17_Check.l2 kq x3_3 x6_4 = some r) ∧ Aside0 (kq ≤ k3) ∧ Aside0 (Kd.R Kd.string 9 w' w.heap.size (fun _ => True) u3 x3_3) ∧ Aside0 (w'.heap[gb915]? = some (.cells #[.int .i64 a0_0, (.slice A0_1 l0_1.length c0_1), (.slice A0_2 l0_2.length c0_2)] 26 (0, 0))) ∧ Aside0 (Below w.heap.size w w'))
                    case atStart => exact ⟨(0), (by first | rfl | (simp; done) | (simp [*]; done)), H', ⟨Nat.le_refl _⟩, ⟨by (with_reducible repeat (first | apply Kd.R_alloc | apply Kd.R_drewN | apply Kd.R_drew)); exact HO_3.out⟩, ⟨by (with_reducible repeat (first | refine blk_drewN ?_ _ | refine blk_drew ?_ | refine blk_alloc ?_ _)); exact BK915.out⟩, ⟨by repeat (first | (with_reducible first | exact HB.out | apply below_alloc | apply pw_below_drewN | apply below_drew1 | refine below_set ?_ GE915.out) | exact HB.out)⟩⟩
                    case round =>
                      clear H'
                      try clear c1
                      try clear c2
                      try clear p2
                      try clear c3
                      try clear c4
                      try clear c4b0
                      try clear c6
                      try clear c6b0
                      try clear p6
                      try clear c8
                      try clear c8b0
                      try clear c8b1
                      try clear p9
                      try clear q9
                      try clear hx9
                      try clear c10
                      try clear c10b0
                      try clear c10b1
                      try clear c13
                      try clear c14
                      try clear c14b0
                      try clear c15
                      try clear c15b0
                      try clear c17
                      try clear c18
                      try clear c26
                      try clear c26b0
                      try clear c27
                      try clear c27b0
                      try clear c29
                      try clear c30
                      try clear hcz11_0
                      try clear hcz11_1
                      try clear hcz11_2
                      try clear hcz12_0
                      try clear hcz12_1
                      try clear hcz12_2
                      try clear hcz19_0
                      try clear hcz19_1
                      try clear hcz19_2
                      try clear hcz21_0
                      try clear hcz21_1
                      try clear hcz21_2
                      try clear hcz23_0
                      try clear hcz23_1
                      try clear hcz23_2
                      try clear hcz25_0
                      try clear hcz25_1
                      try clear hcz25_2
                      try clear hcz31_0
                      try clear hcz31_1
                      try clear hcz31_2
                      try clear hcz33_0
                      try clear hcz33_1
                      try clear hcz33_2
                      try clear hcz35_0
                      try clear hcz35_1
                      try clear hcz35_2
                      try clear hcz37_0
                      try clear hcz37_1
                      try clear hcz37_2
                      try clear hcz5_0
                      try clear hcz5_1
                      try clear hcz5_2
                      try clear hcz7_0
                      try clear hcz7_1
                      try clear hcz7_2
                      try clear hcz9_0
                      try clear hcz9_1
                      try clear hcz9_2
                      try clear hfz11_0
                      try clear hfz11_1
                      try clear hfz11_2
                      try clear hfz12_0
                      try clear hfz12_1
                      try clear hfz12_2
                      try clear hfz19_0
                      try clear hfz19_1
                      try clear hfz19_2
                      try clear hfz21_0
                      try clear hfz21_1
                      try clear hfz21_2
                      try clear hfz23_0
                      try clear hfz23_1
                      try clear hfz23_2
                      try clear hfz25_0
                      try clear hfz25_1
                      try clear hfz25_2
                      try clear hfz31_0
                      try clear hfz31_1
                      try clear hfz31_2
                      try clear hfz33_0
                      try clear hfz33_1
                      try clear hfz33_2
                      try clear hfz35_0
                      try clear hfz35_1
                      try clear hfz35_2
                      try clear hfz37_0
                      try clear hfz37_1
                      try clear hfz37_2
                      try clear hfz5_0
                      try clear hfz5_1
                      try clear hfz5_2
                      try clear hfz7_0
                      try clear hfz7_1
                      try clear hfz7_2
                      try clear hfz9_0
                      try clear hfz9_1
                      try clear hfz9_2
                      try clear hx916_0
                      try clear hx916_1
                      try clear hx916_2
                      try clear hx916_3
                      try clear hx916_4
                      try clear hx916_5
                      try clear hx916_6
                      try clear hx916_7
                      try clear hx916_8
                      try clear hx918_0
                      try clear hx918_1
                      try clear hx918_2
                      try clear hx918_3
                      try clear hx918_4
                      try clear hx918_5
                      try clear hx918_6
                      try clear hx918_7
                      try clear hx918_8
                      try clear hx922_0
                      try clear hx922_1
                      try clear hx922_2
                      try clear hx922_3
                      try clear hx922_4
                      try clear hx922_5
                      try clear hx922_6
                      try clear hx922_7
                      try clear hx922_8
                      try clear hx924_0
                      try clear hx924_1
                      try clear hx924_2
                      try clear hx924_3
                      try clear hx924_4
                      try clear hx924_5
                      try clear hx924_6
                      try clear hx924_7
                      try clear hx924_8
                      try clear p2
                      try clear p6
                      try clear p9
                      try clear p916
                      try clear p918
                      try clear p922
                      try clear p924
                      try clear q9
                      try clear q916
                      try clear q918
                      try clear q922
                      try clear q924
                      obtain ⟨x6_4, rfl, HA, HK4, HO_3, BK915, HB⟩ := hrel
                      cases gk with
                      | zero => exact absurd HA.out (by simp [computusref17_Check.l2])
                      | succ k4 =>
                        have H := HA.out
                        clear HA
                        simp only [computusref17_Check.l2] at H
                        by_cases c38 : x6_4 < (x3_3.length : Int)
                        · rw [if_pos c38] at H
                          have c38b0 : decide (x6_4 < (x3_3.length : Int)) = true := decide_eq_true c38
                          clear c38
                          have H' := Aside0.mk H
                          clear H
                          obtain ⟨Ao39, co39, eo39⟩ := Kd.R_slice HO_3.out
                          subst eo39
                          go_wp2
                          repeat (go_quiet (fail); try go_wp2)
                          go_loopg [7] k4 (fun kq v7 w' => ∃ (x7_5 : Int), v7 = .int .i64 x7_5 ∧ Aside0 (computusref17_Check.l3 kq x3_3 x6_4 x7_5 = some r) ∧ Aside0 (kq ≤ k4) ∧ Aside0 (Kd.R Kd.string 9 w' w.heap.size (fun _ => True) (.slice Ao39 x3_3.length co39) x3_3) ∧ Aside0 (w'.heap[gb915]? = some (.cells #[.int .i64 a0_0, (.slice A0_1 l0_1.length c0_1), (.slice A0_2 l0_2.length c0_2)] 26 (0, 0))) ∧ Aside0 (Below w.heap.size w w'))
                          case atStart => exact ⟨(0), (by first | rfl | (simp; done) | (simp [*]; done)), H', ⟨Nat.le_refl _⟩, ⟨by (with_reducible repeat (first | apply Kd.R_alloc | apply Kd.R_drewN | apply Kd.R_drew)); exact HO_3.out⟩, ⟨by (with_reducible repeat (first | refine blk_drewN ?_ _ | refine blk_drew ?_ | refine blk_alloc ?_ _)); exact BK915.out⟩, ⟨by repeat (first | (with_reducible first | exact HB.out | apply below_alloc | apply pw_below_drewN | apply below_drew1 | refine below_set ?_ GE915.out) | exact HB.out)⟩⟩
                          case round =>
                            clear H'
                            try clear c1
                            try clear c2
                            try clear p2
                            try clear c3
                            try clear c4
                            try clear c4b0
                            try clear c6
                            try clear c6b0
                            try clear p6
                            try clear c8
                            try clear c8b0
                            try clear c8b1
                            try clear p9
                            try clear q9
                            try clear hx9
                            try clear c10
                            try clear c10b0
                            try clear c10b1
                            try clear c13
                            try clear c14
                            try clear c14b0
                            try clear c15
                            try clear c15b0
                            try clear c17
                            try clear c18
                            try clear c26
                            try clear c26b0
                            try clear c27
                            try clear c27b0
                            try clear c29
                            try clear c30
                            try clear c38
                            try clear c38b0
                            try clear hcz11_0
                            try clear hcz11_1
                            try clear hcz11_2
                            try clear hcz12_0
                            try clear hcz12_1
                            try clear hcz12_2
                            try clear hcz19_0
                            try clear hcz19_1
                            try clear hcz19_2
                            try clear hcz21_0
                            try clear hcz21_1
                            try clear hcz21_2
                            try clear hcz23_0
                            try clear hcz23_1
                            try clear hcz23_2
                            try clear hcz25_0
                            try clear hcz25_1
                            try clear hcz25_2
                            try clear hcz31_0
                            try clear hcz31_1
                            try clear hcz31_2
                            try clear hcz33_0
                            try clear hcz33_1
                            try clear hcz33_2
                            try clear hcz35_0
                            try clear hcz35_1
                            try clear hcz35_2
                            try clear hcz37_0
                            try clear hcz37_1
                            try clear hcz37_2
                            try clear hcz5_0
                            try clear hcz5_1
                            try clear hcz5_2
                            try clear hcz7_0
                            try clear hcz7_1
                            try clear hcz7_2
                            try clear hcz9_0
                            try clear hcz9_1
                            try clear hcz9_2
                            try clear hfz11_0
                            try clear hfz11_1
                            try clear hfz11_2
                            try clear hfz12_0
                            try clear hfz12_1
                            try clear hfz12_2
                            try clear hfz19_0
                            try clear hfz19_1
                            try clear hfz19_2
                            try clear hfz21_0
                            try clear hfz21_1
                            try clear hfz21_2
                            try clear hfz23_0
                            try clear hfz23_1
                            try clear hfz23_2
                            try clear hfz25_0
                            try clear hfz25_1
                            try clear hfz25_2
                            try clear hfz31_0
                            try clear hfz31_1
                            try clear hfz31_2
                            try clear hfz33_0
                            try clear hfz33_1
                            try clear hfz33_2
                            try clear hfz35_0
                            try clear hfz35_1
                            try clear hfz35_2
                            try clear hfz37_0
                            try clear hfz37_1
                            try clear hfz37_2
                            try clear hfz5_0
                            try clear hfz5_1
                            try clear hfz5_2
                            try clear hfz7_0
                            try clear hfz7_1
                            try clear hfz7_2
                            try clear hfz9_0
                            try clear hfz9_1
                            try clear hfz9_2
                            try clear hx916_0
                            try clear hx916_1
                            try clear hx916_2
                            try clear hx916_3
                            try clear hx916_4
                            try clear hx916_5
                            try clear hx916_6
                            try clear hx916_7
                            try clear hx916_8
                            try clear hx918_0
                            try clear hx918_1
                            try clear hx918_2
                            try clear hx918_3
                            try clear hx918_4
                            try clear hx918_5
                            try clear hx918_6
                            try clear hx918_7
                            try clear hx918_8
                            try clear hx922_0
                            try clear hx922_1
                            try clear hx922_2
                            try clear hx922_3
                            try clear hx922_4
                            try clear hx922_5
                            try clear hx922_6
                            try clear hx922_7
                            try clear hx922_8
                            try clear hx924_0
                            try clear hx924_1
                            try clear hx924_2
                            try clear hx924_3
                            try clear hx924_4
                            try clear hx924_5
                            try clear hx924_6
                            try clear hx924_7
                            try clear hx924_8
                            try clear p2
                            try clear p6
                            try clear p9
                            try clear p916
                            try clear p918
                            try clear p922
                            try clear p924
                            try clear q9
                            try clear q916
                            try clear q918
                            try clear q922
                            try clear q924
                            obtain ⟨x7_5, rfl, HA, HK5, HO_3, BK915, HB⟩ := hrel
                            cases gk with
                            | zero => exact absurd HA.out (by simp [computusref17_Check.l3])
                            | succ k5 =>
                              have H := HA.out
                              clear HA
                              simp only [computusref17_Check.l3] at H
                              by_cases c40 : x7_5 < x6_4
                              · rw [if_pos c40] at H
                                have c40b0 : decide (x7_5 < x6_4) = true := decide_eq_true c40
                                clear c40
                                by_cases c41 : 0 ≤ x6_4
                                · rw [if_pos c41] at H
                                  have c41b0 : decide (0 ≤ x6_4) = true := decide_eq_true c41
                                  clear c41
                                  by_cases c42 : x6_4 < (x3_3.length : Int)
                                  · rw [if_pos c42] at H
                                    have c42b0 : decide (x6_4 < (x3_3.length : Int)) = true := decide_eq_true c42
                                    clear c42
                                    by_cases c43 : 0 ≤ x7_5
                                    · rw [if_pos c43] at H
                                      have c43b0 : decide (0 ≤ x7_5) = true := decide_eq_true c43
                                      clear c43
                                      by_cases c44 : x7_5 < (x3_3.length : Int)
                                      · rw [if_pos c44] at H
                                        have c44b0 : decide (x7_5 < (x3_3.length : Int)) = true := decide_eq_true c44
                                        clear c44
                                        by_cases c45 : (rdOf ByteArray.empty x3_3 x6_4).toList = (rdOf ByteArray.empty x3_3 x7_5).toList
                                        · rw [if_pos c45] at H
                                          have c45b0 : ((rdOf ByteArray.empty x3_3 x6_4).toList == (rdOf ByteArray.empty x3_3 x7_5).toList) = true := beq_iff_eq.mpr c45
                                          have c45b1 : ((rdOf ByteArray.empty x3_3 x6_4).toList != (rdOf ByteArray.empty x3_3 x7_5).toList) = false := bne_eq_false_iff_eq.mpr c45
                                          clear c45
                                          obtain rfl := Option.some.inj H
                                          have p928 : 0 ≤ (x6_4 : Int) := of_decide_eq_true (by first | (with_reducible assumption) | assumption)
                                          have q928 : x6_4 < (x3_3.length : Int) := of_decide_eq_true (by first | (with_reducible assumption) | assumption)
                                          obtain ⟨ad928, e928, hx928_0⟩ := Kd.at_string (Kd.R_reads' HO_3.out).2.2 x6_4 p928 q928
                                          cases e928
                                          replace p928 := eq_true p928
                                          replace q928 := eq_true q928
                                          have p929 : 0 ≤ (x7_5 : Int) := of_decide_eq_true (by first | (with_reducible assumption) | assumption)
                                          have q929 : x7_5 < (x3_3.length : Int) := of_decide_eq_true (by first | (with_reducible assumption) | assumption)
                                          obtain ⟨ad929, e929, hx929_0⟩ := Kd.at_string (Kd.R_reads' HO_3.out).2.2 x7_5 p929 q929
                                          obtain rfl : ad928 = ad929 := (by injection e929)
                                          replace p929 := eq_true p929
                                          replace q929 := eq_true q929
                                          go_wp2
                                          repeat (go_quiet (fail); try go_wp2)
                                          go_ret
                                          exact ⟨by first | rfl | (simp [errW_none, errW_some] <;> rfl) | (simp [*, errW_none, errW_some] <;> rfl), by repeat (first | (with_reducible first | exact HB.out | apply below_alloc | apply pw_below_drewN | apply below_drew1 | refine below_set ?_ GE915.out) | exact HB.out)⟩
                                        · rw [if_neg c45] at H
                                          have c45b0 : ((rdOf ByteArray.empty x3_3 x6_4).toList == (rdOf ByteArray.empty x3_3 x7_5).toList) = false := beq_eq_false_iff_ne.mpr c45
                                          have c45b1 : ((rdOf ByteArray.empty x3_3 x6_4).toList != (rdOf ByteArray.empty x3_3 x7_5).toList) = true := bne_iff_ne.mpr c45
                                          have H' := Aside0.mk H
                                          clear H
                                          have p928 : 0 ≤ (x6_4 : Int) := of_decide_eq_true (by first | (with_reducible assumption) | assumption)
                                          have q928 : x6_4 < (x3_3.length : Int) := of_decide_eq_true (by first | (with_reducible assumption) | assumption)
                                          obtain ⟨ad928, e928, hx928_0⟩ := Kd.at_string (Kd.R_reads' HO_3.out).2.2 x6_4 p928 q928
                                          cases e928
                                          replace p928 := eq_true p928
                                          replace q928 := eq_true q928
                                          have p929 : 0 ≤ (x7_5 : Int) := of_decide_eq_true (by first | (with_reducible assumption) | assumption)
                                          have q929 : x7_5 < (x3_3.length : Int) := of_decide_eq_true (by first | (with_reducible assumption) | assumption)
                                          obtain ⟨ad929, e929, hx929_0⟩ := Kd.at_string (Kd.R_reads' HO_3.out).2.2 x7_5 p929 q929
                                          obtain rfl : ad928 = ad929 := (by injection e929)
                                          replace p929 := eq_true p929
                                          replace q929 := eq_true q929
                                          go_wp2
                                          repeat (go_quiet (fail); try go_wp2)
                                          go_roundg k5
                                          case measure => have := HJ1.out; have := HK2.out; have := HK3.out; have := HK4.out; have := HK5.out; omega
                                          case rel => exact ⟨(wrap64 (x7_5 + 1)), (by first | rfl | (simp; done) | (simp [*]; done)), H', ⟨by have := HJ1.out; have := HK2.out; have := HK3.out; have := HK4.out; have := HK5.out; omega⟩, ⟨by (with_reducible repeat (first | apply Kd.R_alloc | apply Kd.R_drewN | apply Kd.R_drew)); exact HO_3.out⟩, ⟨by (with_reducible repeat (first | refine blk_drewN ?_ _ | refine blk_drew ?_ | refine blk_alloc ?_ _)); exact BK915.out⟩, ⟨by repeat (first | (with_reducible first | exact HB.out | apply below_alloc | apply pw_below_drewN | apply below_drew1 | refine below_set ?_ GE915.out) | exact HB.out)⟩⟩
                                      · rw [if_neg c44] at H
                                        exact absurd H (by simp)
                                    · rw [if_neg c43] at H
                                      exact absurd H (by simp)
                                  · rw [if_neg c42] at H
                                    exact absurd H (by simp)
                                · rw [if_neg c41] at H
                                  exact absurd H (by simp)
                              · rw [if_neg c40] at H
                                have c40b0 : decide (x7_5 < x6_4) = false := decide_eq_false c40
                                clear c40
                                have H' := Aside0.mk H
                                clear H
                                go_wp2
                                repeat (go_quiet (fail); try go_wp2)
                                go_roundg k5
                                case measure => have := HJ1.out; have := HK2.out; have := HK3.out; have := HK4.out; have := HK5.out; omega
                                case rel => exact ⟨(wrap64 (x6_4 + 1)), (by first | rfl | (simp; done) | (simp [*]; done)), H', ⟨by have := HJ1.out; have := HK2.out; have := HK3.out; have := HK4.out; have := HK5.out; omega⟩, ⟨by (with_reducible repeat (first | apply Kd.R_alloc | apply Kd.R_drewN | apply Kd.R_drew)); exact HO_3.out⟩, ⟨by (with_reducible repeat (first | refine blk_drewN ?_ _ | refine blk_drew ?_ | refine blk_alloc ?_ _)); exact BK915.out⟩, ⟨by repeat (first | (with_reducible first | exact HB.out | apply below_alloc | apply pw_below_drewN | apply below_drew1 | refine below_set ?_ GE915.out) | exact HB.out)⟩⟩
                        · rw [if_neg c38] at H
                          have c38b0 : decide (x6_4 < (x3_3.length : Int)) = false := decide_eq_false c38
                          clear c38
                          obtain rfl := Option.some.inj H
                          obtain ⟨Ao46, co46, eo46⟩ := Kd.R_slice HO_3.out
                          subst eo46
                          go_wp2
                          repeat (go_quiet (fail); try go_wp2)
                          go_ret
                          exact ⟨by first | rfl | (simp [errW_none, errW_some] <;> rfl) | (simp [*, errW_none, errW_some] <;> rfl), by repeat (first | (with_reducible first | exact HB.out | apply below_alloc | apply pw_below_drewN | apply below_drew1 | refine below_set ?_ GE915.out) | exact HB.out)⟩

end Go.Proofs.Ytkpicinbckedoaa.Q
