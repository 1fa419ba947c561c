-- Written by wip/tool/qprint.py: the print of the kit, with hand-proved contracts put in. Lean checks it.
import Derived.Test.YtkpicinbckedoaaQx0
import Derived.Test.YtkpicinbckedoaaQx1
import Derived.Test.YtkpicinbckedoaaQx2
namespace Go.Proofs.Ytkpicinbckedoaa.Q
open Go.RowKit Go.Proofs.YtkpicinbckedoaaW.PrintWords Go.Proofs.YtkpicinbckedoaaW.PrintLast Go.Proofs.YtkpicinbckedoaaW.PrintMore
attribute [local go_sem] max2_int min2_int max_two min_two max_three min_three max_four min_four   -- for this text's walks alone
set_option linter.unusedVariables false
set_option linter.unusedSimpArgs false

attribute [local go_sem high] eqA33 eqA35
/-! ### computusref17_Same: function 26 -/
mutual
def computusref17_Same.j0 : Nat → Bool → Int → List (S33) → List (S35) → Int → List (S33) → List (S35) → Option (Bool)
  | 0, _, _, _, _, _, _, _ => none
  | k + 1, x29, x883000, x883001, x883002, x884000, x884001, x884002 => if x29 = true then (some false) else (computusref17_Same.l0 k 0 x883000 x883001 x883002 x884000 x884001 x884002)
def computusref17_Same.l0 : Nat → Int → Int → List (S33) → List (S35) → Int → List (S33) → List (S35) → Option (Bool)
  | 0, _, _, _, _, _, _, _ => none
  | k + 1, x5, x883000, x883001, x883002, x884000, x884001, x884002 => if x5 < (x883001.length : Int) then (if 0 ≤ x5 then (if x5 < (x884001.length : Int) then (if (!((((rd_T33 x883001 x5).f0).toList) == (((rd_T33 x884001 x5).f0).toList)) || (!(((rd_T33 x883001 x5).f1) == ((rd_T33 x884001 x5).f1)) || (!(((rd_T33 x883001 x5).f2) == ((rd_T33 x884001 x5).f2)) || ((!(((rd_T33 x883001 x5).f3.f0) == ((rd_T33 x884001 x5).f3.f0)) || (!(((rd_T33 x883001 x5).f3.f1) == ((rd_T33 x884001 x5).f3.f1)) || (!(((rd_T33 x883001 x5).f3.f2) == ((rd_T33 x884001 x5).f3.f2)) || (!(((rd_T33 x883001 x5).f3.f3) == ((rd_T33 x884001 x5).f3.f3)) || (!(((rd_T33 x883001 x5).f3.f4) == ((rd_T33 x884001 x5).f3.f4)) || (!(((rd_T33 x883001 x5).f3.f5) == ((rd_T33 x884001 x5).f3.f5)))))))))))) = true then (some false) else (computusref17_Same.l0 k (wrap64 (x5 + 1)) x883000 x883001 x883002 x884000 x884001 x884002)) else (none)) else (none)) else (computusref17_Same.l1 k 0 x883000 x883001 x883002 x884000 x884001 x884002)
def computusref17_Same.l1 : Nat → Int → Int → List (S33) → List (S35) → Int → List (S33) → List (S35) → Option (Bool)
  | 0, _, _, _, _, _, _, _ => none
  | k + 1, x6, x883000, x883001, x883002, x884000, x884001, x884002 => if x6 < (x883002.length : Int) then (if 0 ≤ x6 then (if x6 < (x884002.length : Int) then (if (!((((rd_T35 x883002 x6).f0).toList) == (((rd_T35 x884002 x6).f0).toList)) || (!(((rd_T35 x883002 x6).f1) == ((rd_T35 x884002 x6).f1)) || (!(((rd_T35 x883002 x6).f2) == ((rd_T35 x884002 x6).f2)) || ((!(((rd_T35 x883002 x6).f3.f0) == ((rd_T35 x884002 x6).f3.f0)) || (!(((rd_T35 x883002 x6).f3.f1) == ((rd_T35 x884002 x6).f3.f1)) || (!(((rd_T35 x883002 x6).f3.f2) == ((rd_T35 x884002 x6).f3.f2)) || (!(((rd_T35 x883002 x6).f3.f3) == ((rd_T35 x884002 x6).f3.f3)) || (!(((rd_T35 x883002 x6).f3.f4) == ((rd_T35 x884002 x6).f3.f4)) || (!(((rd_T35 x883002 x6).f3.f5) == ((rd_T35 x884002 x6).f3.f5)))))))))))) = true then (some false) else (computusref17_Same.l1 k (wrap64 (x6 + 1)) x883000 x883001 x883002 x884000 x884001 x884002)) else (none)) else (none)) else (some true)
end
def computusref17_Same.f (k : Nat) (a0_0 : Int) (l0_1 : List (S33)) (l0_2 : List (S35)) (a1_0 : Int) (l1_1 : List (S33)) (l1_2 : List (S35)) : Option (Bool) := if a0_0 = a1_0 then (if (l0_1.length : Int) = (l1_1.length : Int) then (computusref17_Same.j0 k ((l0_2.length : Int) != (l1_2.length : Int)) a0_0 l0_1 l0_2 a1_0 l1_1 l1_2) else (computusref17_Same.j0 k true a0_0 l0_1 l0_2 a1_0 l1_1 l1_2)) else (computusref17_Same.j0 k true a0_0 l0_1 l0_2 a1_0 l1_1 l1_2)
theorem computusref17_Same.mono_l : ∀ k, (∀ y0 y1 y2 y3 y4 y5 y6, LeO (computusref17_Same.j0 k y0 y1 y2 y3 y4 y5 y6) (computusref17_Same.j0 (k + 1) y0 y1 y2 y3 y4 y5 y6)) ∧ (∀ y0 y1 y2 y3 y4 y5 y6, LeO (computusref17_Same.l0 k y0 y1 y2 y3 y4 y5 y6) (computusref17_Same.l0 (k + 1) y0 y1 y2 y3 y4 y5 y6)) ∧ (∀ y0 y1 y2 y3 y4 y5 y6, LeO (computusref17_Same.l1 k y0 y1 y2 y3 y4 y5 y6) (computusref17_Same.l1 (k + 1) y0 y1 y2 y3 y4 y5 y6))
  | 0 => ⟨fun _ _ _ _ _ _ _ r h => by simp [computusref17_Same.j0] at h, fun _ _ _ _ _ _ _ r h => by simp [computusref17_Same.l0] at h, fun _ _ _ _ _ _ _ r h => by simp [computusref17_Same.l1] at h⟩
  | k + 1 => by
    obtain ⟨ih0, ih1, ih2⟩ := computusref17_Same.mono_l k
    refine ⟨?_, ?_, ?_⟩
    · intro y0 y1 y2 y3 y4 y5 y6
      unfold computusref17_Same.j0
      repeat' first
      | (with_reducible exact ih0 _ _ _ _ _ _ _)
      | (with_reducible exact ih1 _ _ _ _ _ _ _)
      | (with_reducible exact ih2 _ _ _ _ _ _ _)
      | (with_reducible exact LeO.refl _)
      | (with_reducible exact LeO.none _)
      | (with_reducible refine LeO.ite ?_ ?_)
      | (with_reducible refine LeO.bind ?_ (fun _ => ?_))
      | exact ih0 _ _ _ _ _ _ _
      | exact ih1 _ _ _ _ _ _ _
      | exact ih2 _ _ _ _ _ _ _
      | exact LeO.none _
      | refine LeO.ite ?_ ?_
      | refine LeO.bind ?_ (fun _ => ?_)
    · intro y0 y1 y2 y3 y4 y5 y6
      unfold computusref17_Same.l0
      repeat' first
      | (with_reducible exact ih0 _ _ _ _ _ _ _)
      | (with_reducible exact ih1 _ _ _ _ _ _ _)
      | (with_reducible exact ih2 _ _ _ _ _ _ _)
      | (with_reducible exact LeO.refl _)
      | (with_reducible exact LeO.none _)
      | (with_reducible refine LeO.ite ?_ ?_)
      | (with_reducible refine LeO.bind ?_ (fun _ => ?_))
      | exact ih0 _ _ _ _ _ _ _
      | exact ih1 _ _ _ _ _ _ _
      | exact ih2 _ _ _ _ _ _ _
      | exact LeO.none _
      | refine LeO.ite ?_ ?_
      | refine LeO.bind ?_ (fun _ => ?_)
    · intro y0 y1 y2 y3 y4 y5 y6
      unfold computusref17_Same.l1
      repeat' first
      | (with_reducible exact ih0 _ _ _ _ _ _ _)
      | (with_reducible exact ih1 _ _ _ _ _ _ _)
      | (with_reducible exact ih2 _ _ _ _ _ _ _)
      | (with_reducible exact LeO.refl _)
      | (with_reducible exact LeO.none _)
      | (with_reducible refine LeO.ite ?_ ?_)
      | (with_reducible refine LeO.bind ?_ (fun _ => ?_))
      | exact ih0 _ _ _ _ _ _ _
      | exact ih1 _ _ _ _ _ _ _
      | exact ih2 _ _ _ _ _ _ _
      | exact LeO.none _
      | refine LeO.ite ?_ ?_
      | refine LeO.bind ?_ (fun _ => ?_)
theorem computusref17_Same.mono : ∀ a0 a1 a2 a3 a4 a5 k, LeO (computusref17_Same.f k a0 a1 a2 a3 a4 a5) (computusref17_Same.f (k + 1) a0 a1 a2 a3 a4 a5) := by
  intro a0 a1 a2 a3 a4 a5 k
  obtain ⟨ih0, ih1, ih2⟩ := computusref17_Same.mono_l k
  unfold computusref17_Same.f
  repeat' first
      | (with_reducible exact ih0 _ _ _ _ _ _ _)
      | (with_reducible exact ih1 _ _ _ _ _ _ _)
      | (with_reducible exact ih2 _ _ _ _ _ _ _)
      | (with_reducible exact LeO.refl _)
      | (with_reducible exact LeO.none _)
      | (with_reducible refine LeO.ite ?_ ?_)
      | (with_reducible refine LeO.bind ?_ (fun _ => ?_))
      | exact ih0 _ _ _ _ _ _ _
      | exact ih1 _ _ _ _ _ _ _
      | exact ih2 _ _ _ _ _ _ _
      | exact LeO.none _
      | refine LeO.ite ?_ ?_
      | refine LeO.bind ?_ (fun _ => ?_)
set_option maxHeartbeats 8000000 in
set_option maxRecDepth 100000 in
theorem computusref17_Same.calls (k : Nat) (a0_0 : Int) (A0_1 : Option Addr) (c0_1 : Nat) (l0_1 : List (S33)) (A0_2 : Option Addr) (c0_2 : Nat) (l0_2 : List (S35)) (a1_0 : Int) (A1_1 : Option Addr) (c1_1 : Nat) (l1_1 : List (S33)) (A1_2 : Option Addr) (c1_2 : Nat) (l1_2 : List (S35)) (r : Bool) (w : World) (hr0_1 : Kd.C k33 w A0_1 l0_1.length l0_1) (hc0_1 : l0_1.length ≤ c0_1) (hr0_2 : Kd.C k35 w A0_2 l0_2.length l0_2) (hc0_2 : l0_2.length ≤ c0_2) (hr1_1 : Kd.C k33 w A1_1 l1_1.length l1_1) (hc1_1 : l1_1.length ≤ c1_1) (hr1_2 : Kd.C k35 w A1_2 l1_2.length l1_2) (hc1_2 : l1_2.length ≤ c1_2) (h : computusref17_Same.f k a0_0 l0_1 l0_2 a1_0 l1_1 l1_2 = some r) :
    Calls Try.prog 26 #[.agg #[.int .i64 a0_0, .slice A0_1 l0_1.length c0_1, .slice A0_2 l0_2.length c0_2], .agg #[.int .i64 a1_0, .slice A1_1 l1_1.length c1_1, .slice A1_2 l1_2.length c1_2]] w fun e w' => e = .returned (.bool r) ∧ Below w.heap.size w w' := by
  have hu26 := Try.underlying26
  have hu33 := Try.underlying33
  have hu35 := Try.underlying35
  have HR0_1 := Aside0.mk hr0_1
  have HC0_1 := Aside0.mk hc0_1
  clear hr0_1 hc0_1
  have HR0_2 := Aside0.mk hr0_2
  have HC0_2 := Aside0.mk hc0_2
  clear hr0_2 hc0_2
  have HR1_1 := Aside0.mk hr1_1
  have HC1_1 := Aside0.mk hc1_1
  clear hr1_1 hc1_1
  have HR1_2 := Aside0.mk hr1_2
  have HC1_2 := Aside0.mk hc1_2
  clear hr1_2 hc1_2
  have HB := Aside0.mk (Below.refl w.heap.size w)
  have H : (if a0_0 = a1_0 then (if (l0_1.length : Int) = (l1_1.length : Int) then (computusref17_Same.j0 k ((l0_2.length : Int) != (l1_2.length : Int)) a0_0 l0_1 l0_2 a1_0 l1_1 l1_2) else (computusref17_Same.j0 k true a0_0 l0_1 l0_2 a1_0 l1_1 l1_2)) else (computusref17_Same.j0 k true a0_0 l0_1 l0_2 a1_0 l1_1 l1_2)) = some r := h
  clear h
  have HC3 := Aside0.mk H
  clear H
  go_enter Try.func26, Try.ntmps26
  go_upto_region 1 with (first | ((with_reducible refine gate_dst (N := 2) rfl ?_); (try (refine gate_guard (by rfl) ?_; dsimp only)); refine box_event ?hg (N := 2) ?hd (cs := #[.int .i64 a0_0, .slice A0_1 l0_1.length c0_1, .slice A0_2 l0_2.length c0_2]) (t := 26) ?hr ?_; (case hd => rfl); (case hg => rfl); (case hr => first | (go_simp; done) | (go_simp; rfl)); intro gb882 hg w4 hbox hb; have n0_ := Aside0.mk (below_step (by repeat (first | (with_reducible first | exact HB.out | apply below_alloc | apply pw_below_drewN | apply below_drew1) | exact HB.out)) hb); have n1_ := Aside0.mk (hbox); have n2_ := Aside0.mk ((by rw [hg]; exact (below_size (by repeat (first | (with_reducible first | exact HB.out | apply below_alloc | apply pw_below_drewN | apply below_drew1) | exact HB.out))) : w.heap.size ≤ gb882)); have n3_ := Aside0.mk ((by rw [hg]; exact (below_size (by repeat (first | (with_reducible first | exact HB.out | apply below_alloc | apply pw_below_drewN | apply below_drew1) | exact HB.out))) : w.heap.size ≤ gb882)); clear HB; have HB := n0_; have BK882 := n1_; have GW882 := n2_; have GE882 := n3_; clear n0_ n1_ n2_ n3_; clear hb hbox hg) | ((with_reducible refine gate_dst (N := 3) rfl ?_); (try (refine gate_guard (by rfl) ?_; dsimp only)); refine box_event ?hg (N := 3) ?hd (cs := #[.int .i64 a1_0, .slice A1_1 l1_1.length c1_1, .slice A1_2 l1_2.length c1_2]) (t := 26) ?hr ?_; (case hd => rfl); (case hg => rfl); (case hr => first | (go_simp; done) | (go_simp; rfl)); intro gb883 hg w5 hbox hb; have n0_ := Aside0.mk (blk_below (g := gb882) (o := .cells #[.int .i64 a0_0, .slice A0_1 l0_1.length c0_1, .slice A0_2 l0_2.length c0_2] 26 (0, 0)) (by (with_reducible repeat (first | refine blk_drewN ?_ _ | refine blk_drew ?_ | refine blk_alloc ?_ _)); exact BK882.out) hb); have n1_ := Aside0.mk (below_step (by repeat (first | (with_reducible first | exact HB.out | apply below_alloc | apply pw_below_drewN | apply below_drew1 | refine below_set ?_ GE882.out) | exact HB.out)) hb); have n2_ := Aside0.mk (hbox); have n3_ := Aside0.mk ((by rw [hg]; exact (below_size (by repeat (first | (with_reducible first | exact HB.out | apply below_alloc | apply pw_below_drewN | apply below_drew1 | refine below_set ?_ GE882.out) | exact HB.out))) : w.heap.size ≤ gb883)); have n4_ := Aside0.mk ((by rw [hg]; exact (below_size (by repeat (first | (with_reducible first | exact HB.out | apply below_alloc | apply pw_below_drewN | apply below_drew1 | refine below_set ?_ GE882.out) | exact HB.out))) : w.heap.size ≤ gb883)); have n5_ := Aside0.mk ((by rw [hg]; exact Nat.ne_of_lt (blk_lt (g := gb882) (o := .cells #[.int .i64 a0_0, .slice A0_1 l0_1.length c0_1, .slice A0_2 l0_2.length c0_2] 26 (0, 0)) (by (with_reducible repeat (first | refine blk_drewN ?_ _ | refine blk_drew ?_ | refine blk_alloc ?_ _)); exact BK882.out)) : gb882 ≠ gb883)); have n6_ := Aside0.mk ((by rw [hg]; exact Nat.ne_of_gt (blk_lt (g := gb882) (o := .cells #[.int .i64 a0_0, .slice A0_1 l0_1.length c0_1, .slice A0_2 l0_2.length c0_2] 26 (0, 0)) (by (with_reducible repeat (first | refine blk_drewN ?_ _ | refine blk_drew ?_ | refine blk_alloc ?_ _)); exact BK882.out)) : gb883 ≠ gb882)); clear BK882; clear HB; have BK882 := n0_; have HB := n1_; have BK883 := n2_; have GW883 := n3_; have GE883 := n4_; have NB882_883 := n5_; have NB883_882 := n6_; clear n0_ n1_ n2_ n3_ n4_ n5_ n6_; clear hb hbox hg))
  repeat (go_quiet (first | ((with_reducible refine gate_dst (N := 2) rfl ?_); (try (refine gate_guard (by rfl) ?_; dsimp only)); refine box_event ?hg (N := 2) ?hd (cs := #[.int .i64 a0_0, .slice A0_1 l0_1.length c0_1, .slice A0_2 l0_2.length c0_2]) (t := 26) ?hr ?_; (case hd => rfl); (case hg => rfl); (case hr => first | (go_simp; done) | (go_simp; rfl)); intro gb882 hg w4 hbox hb; have n0_ := Aside0.mk (below_step (by repeat (first | (with_reducible first | exact HB.out | apply below_alloc | apply pw_below_drewN | apply below_drew1) | exact HB.out)) hb); have n1_ := Aside0.mk (hbox); have n2_ := Aside0.mk ((by rw [hg]; exact (below_size (by repeat (first | (with_reducible first | exact HB.out | apply below_alloc | apply pw_below_drewN | apply below_drew1) | exact HB.out))) : w.heap.size ≤ gb882)); have n3_ := Aside0.mk ((by rw [hg]; exact (below_size (by repeat (first | (with_reducible first | exact HB.out | apply below_alloc | apply pw_below_drewN | apply below_drew1) | exact HB.out))) : w.heap.size ≤ gb882)); clear HB; have HB := n0_; have BK882 := n1_; have GW882 := n2_; have GE882 := n3_; clear n0_ n1_ n2_ n3_; clear hb hbox hg) | ((with_reducible refine gate_dst (N := 3) rfl ?_); (try (refine gate_guard (by rfl) ?_; dsimp only)); refine box_event ?hg (N := 3) ?hd (cs := #[.int .i64 a1_0, .slice A1_1 l1_1.length c1_1, .slice A1_2 l1_2.length c1_2]) (t := 26) ?hr ?_; (case hd => rfl); (case hg => rfl); (case hr => first | (go_simp; done) | (go_simp; rfl)); intro gb883 hg w5 hbox hb; have n0_ := Aside0.mk (blk_below (g := gb882) (o := .cells #[.int .i64 a0_0, .slice A0_1 l0_1.length c0_1, .slice A0_2 l0_2.length c0_2] 26 (0, 0)) (by (with_reducible repeat (first | refine blk_drewN ?_ _ | refine blk_drew ?_ | refine blk_alloc ?_ _)); exact BK882.out) hb); have n1_ := Aside0.mk (below_step (by repeat (first | (with_reducible first | exact HB.out | apply below_alloc | apply pw_below_drewN | apply below_drew1 | refine below_set ?_ GE882.out) | exact HB.out)) hb); have n2_ := Aside0.mk (hbox); have n3_ := Aside0.mk ((by rw [hg]; exact (below_size (by repeat (first | (with_reducible first | exact HB.out | apply below_alloc | apply pw_below_drewN | apply below_drew1 | refine below_set ?_ GE882.out) | exact HB.out))) : w.heap.size ≤ gb883)); have n4_ := Aside0.mk ((by rw [hg]; exact (below_size (by repeat (first | (with_reducible first | exact HB.out | apply below_alloc | apply pw_below_drewN | apply below_drew1 | refine below_set ?_ GE882.out) | exact HB.out))) : w.heap.size ≤ gb883)); have n5_ := Aside0.mk ((by rw [hg]; exact Nat.ne_of_lt (blk_lt (g := gb882) (o := .cells #[.int .i64 a0_0, .slice A0_1 l0_1.length c0_1, .slice A0_2 l0_2.length c0_2] 26 (0, 0)) (by (with_reducible repeat (first | refine blk_drewN ?_ _ | refine blk_drew ?_ | refine blk_alloc ?_ _)); exact BK882.out)) : gb882 ≠ gb883)); have n6_ := Aside0.mk ((by rw [hg]; exact Nat.ne_of_gt (blk_lt (g := gb882) (o := .cells #[.int .i64 a0_0, .slice A0_1 l0_1.length c0_1, .slice A0_2 l0_2.length c0_2] 26 (0, 0)) (by (with_reducible repeat (first | refine blk_drewN ?_ _ | refine blk_drew ?_ | refine blk_alloc ?_ _)); exact BK882.out)) : gb883 ≠ gb882)); clear BK882; clear HB; have BK882 := n0_; have HB := n1_; have BK883 := n2_; have GW883 := n3_; have GE883 := n4_; have NB882_883 := n5_; have NB883_882 := n6_; clear n0_ n1_ n2_ n3_ n4_ n5_ n6_; clear hb hbox hg)); go_upto_region 1 with (first | ((with_reducible refine gate_dst (N := 2) rfl ?_); (try (refine gate_guard (by rfl) ?_; dsimp only)); refine box_event ?hg (N := 2) ?hd (cs := #[.int .i64 a0_0, .slice A0_1 l0_1.length c0_1, .slice A0_2 l0_2.length c0_2]) (t := 26) ?hr ?_; (case hd => rfl); (case hg => rfl); (case hr => first | (go_simp; done) | (go_simp; rfl)); intro gb882 hg w4 hbox hb; have n0_ := Aside0.mk (below_step (by repeat (first | (with_reducible first | exact HB.out | apply below_alloc | apply pw_below_drewN | apply below_drew1) | exact HB.out)) hb); have n1_ := Aside0.mk (hbox); have n2_ := Aside0.mk ((by rw [hg]; exact (below_size (by repeat (first | (with_reducible first | exact HB.out | apply below_alloc | apply pw_below_drewN | apply below_drew1) | exact HB.out))) : w.heap.size ≤ gb882)); have n3_ := Aside0.mk ((by rw [hg]; exact (below_size (by repeat (first | (with_reducible first | exact HB.out | apply below_alloc | apply pw_below_drewN | apply below_drew1) | exact HB.out))) : w.heap.size ≤ gb882)); clear HB; have HB := n0_; have BK882 := n1_; have GW882 := n2_; have GE882 := n3_; clear n0_ n1_ n2_ n3_; clear hb hbox hg) | ((with_reducible refine gate_dst (N := 3) rfl ?_); (try (refine gate_guard (by rfl) ?_; dsimp only)); refine box_event ?hg (N := 3) ?hd (cs := #[.int .i64 a1_0, .slice A1_1 l1_1.length c1_1, .slice A1_2 l1_2.length c1_2]) (t := 26) ?hr ?_; (case hd => rfl); (case hg => rfl); (case hr => first | (go_simp; done) | (go_simp; rfl)); intro gb883 hg w5 hbox hb; have n0_ := Aside0.mk (blk_below (g := gb882) (o := .cells #[.int .i64 a0_0, .slice A0_1 l0_1.length c0_1, .slice A0_2 l0_2.length c0_2] 26 (0, 0)) (by (with_reducible repeat (first | refine blk_drewN ?_ _ | refine blk_drew ?_ | refine blk_alloc ?_ _)); exact BK882.out) hb); have n1_ := Aside0.mk (below_step (by repeat (first | (with_reducible first | exact HB.out | apply below_alloc | apply pw_below_drewN | apply below_drew1 | refine below_set ?_ GE882.out) | exact HB.out)) hb); have n2_ := Aside0.mk (hbox); have n3_ := Aside0.mk ((by rw [hg]; exact (below_size (by repeat (first | (with_reducible first | exact HB.out | apply below_alloc | apply pw_below_drewN | apply below_drew1 | refine below_set ?_ GE882.out) | exact HB.out))) : w.heap.size ≤ gb883)); have n4_ := Aside0.mk ((by rw [hg]; exact (below_size (by repeat (first | (with_reducible first | exact HB.out | apply below_alloc | apply pw_below_drewN | apply below_drew1 | refine below_set ?_ GE882.out) | exact HB.out))) : w.heap.size ≤ gb883)); have n5_ := Aside0.mk ((by rw [hg]; exact Nat.ne_of_lt (blk_lt (g := gb882) (o := .cells #[.int .i64 a0_0, .slice A0_1 l0_1.length c0_1, .slice A0_2 l0_2.length c0_2] 26 (0, 0)) (by (with_reducible repeat (first | refine blk_drewN ?_ _ | refine blk_drew ?_ | refine blk_alloc ?_ _)); exact BK882.out)) : gb882 ≠ gb883)); have n6_ := Aside0.mk ((by rw [hg]; exact Nat.ne_of_gt (blk_lt (g := gb882) (o := .cells #[.int .i64 a0_0, .slice A0_1 l0_1.length c0_1, .slice A0_2 l0_2.length c0_2] 26 (0, 0)) (by (with_reducible repeat (first | refine blk_drewN ?_ _ | refine blk_drew ?_ | refine blk_alloc ?_ _)); exact BK882.out)) : gb883 ≠ gb882)); clear BK882; clear HB; have BK882 := n0_; have HB := n1_; have BK883 := n2_; have GW883 := n3_; have GE883 := n4_; have NB882_883 := n5_; have NB883_882 := n6_; clear n0_ n1_ n2_ n3_ n4_ n5_ n6_; clear hb hbox hg)))
  (try simp only [Act.put, List.setIfInBounds_toArray, List.set_cons_zero, List.set_cons_succ])
  go_cut [29] (fun v29 wc => ∃ (kq : Nat) (x29_2 : Bool), v29 = .bool x29_2 ∧ Aside0 (computusref17_Same.j0 kq x29_2 a0_0 l0_1 l0_2 a1_0 l1_1 l1_2 = some r) ∧ Aside0 (kq ≤ k) ∧ Aside0 (wc.heap[gb882]? = some (.cells #[.int .i64 a0_0, (.slice A0_1 l0_1.length c0_1), (.slice A0_2 l0_2.length c0_2)] 26 (0, 0))) ∧ Aside0 (wc.heap[gb883]? = some (.cells #[.int .i64 a1_0, (.slice A1_1 l1_1.length c1_1), (.slice A1_2 l1_2.length c1_2)] 26 (0, 0))) ∧ Aside0 (Below w.heap.size w wc))
  case first =>
    have H := HC3.out
    clear HC3
    by_cases c6 : a0_0 = a1_0
    · rw [if_pos c6] at H
      have c6b0 : (a0_0 == a1_0) = true := beq_iff_eq.mpr c6
      have c6b1 : (a0_0 != a1_0) = false := bne_eq_false_iff_eq.mpr c6
      clear c6
      (first | rw [c6b0] | (simp only [i64_w, i32_w]; rw [c6b0]) | skip)
      by_cases c7 : (l0_1.length : Int) = (l1_1.length : Int)
      · rw [if_pos c7] at H
        have c7b0 : ((l0_1.length : Int) == (l1_1.length : Int)) = true := beq_iff_eq.mpr c7
        have c7b1 : ((l0_1.length : Int) != (l1_1.length : Int)) = false := bne_eq_false_iff_eq.mpr c7
        have c7b2 : (l0_1.length == l1_1.length) = true := by first | simpa using c7 | (simp at c7 ⊢; omega)
        clear c7
        have H' := Aside0.mk H
        clear H
        have hnb8 := NB882_883.out
        have hnc8 := NB883_882.out
        have hcz9_0 : w5.cell? ⟨gb882, 0, none⟩ = some (.int .i64 a0_0) := (blk_cell BK882.out 0).trans rfl
        have hcz9_1 : w5.cell? ⟨gb882, 1, none⟩ = some (.slice A0_1 l0_1.length c0_1) := (blk_cell BK882.out 1).trans rfl
        have hcz9_2 : w5.cell? ⟨gb882, 2, none⟩ = some (.slice A0_2 l0_2.length c0_2) := (blk_cell BK882.out 2).trans rfl
        have hfz9_0 := blk_frozen BK882.out 0
        have hfz9_1 := blk_frozen BK882.out 1
        have hfz9_2 := blk_frozen BK882.out 2
        have hcz10_0 : w5.cell? ⟨gb883, 0, none⟩ = some (.int .i64 a1_0) := (blk_cell BK883.out 0).trans rfl
        have hcz10_1 : w5.cell? ⟨gb883, 1, none⟩ = some (.slice A1_1 l1_1.length c1_1) := (blk_cell BK883.out 1).trans rfl
        have hcz10_2 : w5.cell? ⟨gb883, 2, none⟩ = some (.slice A1_2 l1_2.length c1_2) := (blk_cell BK883.out 2).trans rfl
        have hfz10_0 := blk_frozen BK883.out 0
        have hfz10_1 := blk_frozen BK883.out 1
        have hfz10_2 := blk_frozen BK883.out 2
        go_wp2
        repeat (go_quiet (fail); try go_wp2)
        go_meet
        case rel => exact ⟨_, (((l0_2.length : Int) != (l1_2.length : Int))), (by first | rfl | (simp; done) | (simp [*]; done)), H', ⟨by first | omega | exact Nat.le_refl _⟩, ⟨by (with_reducible repeat (first | refine blk_drewN ?_ _ | refine blk_drew ?_ | refine blk_alloc ?_ _)); exact BK882.out⟩, ⟨by (with_reducible repeat (first | refine blk_drewN ?_ _ | refine blk_drew ?_ | refine blk_alloc ?_ _)); exact BK883.out⟩, ⟨by repeat (first | (with_reducible first | exact HB.out | apply below_alloc | apply pw_below_drewN | apply below_drew1 | refine below_set ?_ GE882.out | refine below_set ?_ GE883.out) | exact HB.out)⟩⟩
      · rw [if_neg c7] at H
        have c7b0 : ((l0_1.length : Int) == (l1_1.length : Int)) = false := beq_eq_false_iff_ne.mpr c7
        have c7b1 : ((l0_1.length : Int) != (l1_1.length : Int)) = true := bne_iff_ne.mpr c7
        have c7b2 : (l0_1.length == l1_1.length) = false := by first | simpa using c7 | (simp at c7 ⊢; omega)
        have H' := Aside0.mk H
        clear H
        have hnb11 := NB882_883.out
        have hnc11 := NB883_882.out
        have hcz12_0 : w5.cell? ⟨gb882, 0, none⟩ = some (.int .i64 a0_0) := (blk_cell BK882.out 0).trans rfl
        have hcz12_1 : w5.cell? ⟨gb882, 1, none⟩ = some (.slice A0_1 l0_1.length c0_1) := (blk_cell BK882.out 1).trans rfl
        have hcz12_2 : w5.cell? ⟨gb882, 2, none⟩ = some (.slice A0_2 l0_2.length c0_2) := (blk_cell BK882.out 2).trans rfl
        have hfz12_0 := blk_frozen BK882.out 0
        have hfz12_1 := blk_frozen BK882.out 1
        have hfz12_2 := blk_frozen BK882.out 2
        have hcz13_0 : w5.cell? ⟨gb883, 0, none⟩ = some (.int .i64 a1_0) := (blk_cell BK883.out 0).trans rfl
        have hcz13_1 : w5.cell? ⟨gb883, 1, none⟩ = some (.slice A1_1 l1_1.length c1_1) := (blk_cell BK883.out 1).trans rfl
        have hcz13_2 : w5.cell? ⟨gb883, 2, none⟩ = some (.slice A1_2 l1_2.length c1_2) := (blk_cell BK883.out 2).trans rfl
        have hfz13_0 := blk_frozen BK883.out 0
        have hfz13_1 := blk_frozen BK883.out 1
        have hfz13_2 := blk_frozen BK883.out 2
        go_wp2
        repeat (go_quiet (fail); try go_wp2)
        go_meet
        case rel => exact ⟨_, (true), (by first | rfl | (simp; done) | (simp [*]; done)), H', ⟨by first | omega | exact Nat.le_refl _⟩, ⟨by (with_reducible repeat (first | refine blk_drewN ?_ _ | refine blk_drew ?_ | refine blk_alloc ?_ _)); exact BK882.out⟩, ⟨by (with_reducible repeat (first | refine blk_drewN ?_ _ | refine blk_drew ?_ | refine blk_alloc ?_ _)); exact BK883.out⟩, ⟨by repeat (first | (with_reducible first | exact HB.out | apply below_alloc | apply pw_below_drewN | apply below_drew1 | refine below_set ?_ GE882.out | refine below_set ?_ GE883.out) | exact HB.out)⟩⟩
    · rw [if_neg c6] at H
      have c6b0 : (a0_0 == a1_0) = false := beq_eq_false_iff_ne.mpr c6
      have c6b1 : (a0_0 != a1_0) = true := bne_iff_ne.mpr c6
      (first | rw [c6b0] | (simp only [i64_w, i32_w]; rw [c6b0]) | skip)
      have H' := Aside0.mk H
      clear H
      have hnb14 := NB882_883.out
      have hnc14 := NB883_882.out
      have hcz15_0 : w5.cell? ⟨gb882, 0, none⟩ = some (.int .i64 a0_0) := (blk_cell BK882.out 0).trans rfl
      have hcz15_1 : w5.cell? ⟨gb882, 1, none⟩ = some (.slice A0_1 l0_1.length c0_1) := (blk_cell BK882.out 1).trans rfl
      have hcz15_2 : w5.cell? ⟨gb882, 2, none⟩ = some (.slice A0_2 l0_2.length c0_2) := (blk_cell BK882.out 2).trans rfl
      have hfz15_0 := blk_frozen BK882.out 0
      have hfz15_1 := blk_frozen BK882.out 1
      have hfz15_2 := blk_frozen BK882.out 2
      have hcz16_0 : w5.cell? ⟨gb883, 0, none⟩ = some (.int .i64 a1_0) := (blk_cell BK883.out 0).trans rfl
      have hcz16_1 : w5.cell? ⟨gb883, 1, none⟩ = some (.slice A1_1 l1_1.length c1_1) := (blk_cell BK883.out 1).trans rfl
      have hcz16_2 : w5.cell? ⟨gb883, 2, none⟩ = some (.slice A1_2 l1_2.length c1_2) := (blk_cell BK883.out 2).trans rfl
      have hfz16_0 := blk_frozen BK883.out 0
      have hfz16_1 := blk_frozen BK883.out 1
      have hfz16_2 := blk_frozen BK883.out 2
      go_wp2
      repeat (go_quiet (fail); try go_wp2)
      go_meet
      case rel => exact ⟨_, (true), (by first | rfl | (simp; done) | (simp [*]; done)), H', ⟨by first | omega | exact Nat.le_refl _⟩, ⟨by (with_reducible repeat (first | refine blk_drewN ?_ _ | refine blk_drew ?_ | refine blk_alloc ?_ _)); exact BK882.out⟩, ⟨by (with_reducible repeat (first | refine blk_drewN ?_ _ | refine blk_drew ?_ | refine blk_alloc ?_ _)); exact BK883.out⟩, ⟨by repeat (first | (with_reducible first | exact HB.out | apply below_alloc | apply pw_below_drewN | apply below_drew1 | refine below_set ?_ GE882.out | refine below_set ?_ GE883.out) | exact HB.out)⟩⟩
  case rest =>
    clear HC3
    try clear c1
    try clear c2
    try clear p2
    try clear c6
    try clear c6b0
    try clear c6b1
    try clear c7
    try clear c7b0
    try clear c7b1
    try clear c7b2
    try clear c8
    try clear c11
    try clear c14
    try clear hcz10_0
    try clear hcz10_1
    try clear hcz10_2
    try clear hcz12_0
    try clear hcz12_1
    try clear hcz12_2
    try clear hcz13_0
    try clear hcz13_1
    try clear hcz13_2
    try clear hcz15_0
    try clear hcz15_1
    try clear hcz15_2
    try clear hcz16_0
    try clear hcz16_1
    try clear hcz16_2
    try clear hcz9_0
    try clear hcz9_1
    try clear hcz9_2
    try clear hfz10_0
    try clear hfz10_1
    try clear hfz10_2
    try clear hfz12_0
    try clear hfz12_1
    try clear hfz12_2
    try clear hfz13_0
    try clear hfz13_1
    try clear hfz13_2
    try clear hfz15_0
    try clear hfz15_1
    try clear hfz15_2
    try clear hfz16_0
    try clear hfz16_1
    try clear hfz16_2
    try clear hfz9_0
    try clear hfz9_1
    try clear hfz9_2
    obtain ⟨kq, x29_2, rfl, HA, HJ2, BK882, BK883, HB⟩ := hcut
    cases kq with
    | zero => exact absurd HA.out (by simp [computusref17_Same.j0])
    | succ kj2 =>
      have H := HA.out
      clear HA
      simp only [computusref17_Same.j0] at H
      by_cases c17 : x29_2 = true
      · subst c17
        have H1 : (some false) = some r := by rw [if_pos rfl] at H; exact H
        clear H
        have H := H1
        clear H1
        obtain rfl := Option.some.inj H
        go_wp2
        repeat (go_quiet (fail); try go_wp2)
        go_ret
        exact ⟨by first | rfl | (simp [errW_none, errW_some] <;> rfl) | (simp [*, errW_none, errW_some] <;> rfl), by repeat (first | (with_reducible first | exact HB.out | apply below_alloc | apply pw_below_drewN | apply below_drew1 | refine below_set ?_ GE882.out | refine below_set ?_ GE883.out) | exact HB.out)⟩
      · replace c17 := Bool.eq_false_iff.mpr c17
        subst c17
        have H1 : (computusref17_Same.l0 kj2 0 a0_0 l0_1 l0_2 a1_0 l1_1 l1_2) = some r := by rw [if_neg (show ¬ (false = true) by decide)] at H; exact H
        clear H
        have H := H1
        clear H1
        have H' := Aside0.mk H
        clear H
        go_wp2
        repeat (go_quiet (fail); try go_wp2)
        go_loopg [5] kj2 (fun kq v5 w' => ∃ (x5_2 : Int), v5 = .int .i64 x5_2 ∧ Aside0 (computusref17_Same.l0 kq x5_2 a0_0 l0_1 l0_2 a1_0 l1_1 l1_2 = some r) ∧ Aside0 (kq ≤ kj2) ∧ Aside0 (w'.heap[gb882]? = some (.cells #[.int .i64 a0_0, (.slice A0_1 l0_1.length c0_1), (.slice A0_2 l0_2.length c0_2)] 26 (0, 0))) ∧ Aside0 (w'.heap[gb883]? = some (.cells #[.int .i64 a1_0, (.slice A1_1 l1_1.length c1_1), (.slice A1_2 l1_2.length c1_2)] 26 (0, 0))) ∧ Aside0 (Below w.heap.size w w'))
        case atStart => exact ⟨(0), (by first | rfl | (simp; done) | (simp [*]; done)), H', ⟨Nat.le_refl _⟩, ⟨by (with_reducible repeat (first | refine blk_drewN ?_ _ | refine blk_drew ?_ | refine blk_alloc ?_ _)); exact BK882.out⟩, ⟨by (with_reducible repeat (first | refine blk_drewN ?_ _ | refine blk_drew ?_ | refine blk_alloc ?_ _)); exact BK883.out⟩, ⟨by repeat (first | (with_reducible first | exact HB.out | apply below_alloc | apply pw_below_drewN | apply below_drew1 | refine below_set ?_ GE882.out | refine below_set ?_ GE883.out) | exact HB.out)⟩⟩
        case round =>
          clear H'
          try clear c1
          try clear c2
          try clear p2
          try clear c6
          try clear c6b0
          try clear c6b1
          try clear c7
          try clear c7b0
          try clear c7b1
          try clear c7b2
          try clear c8
          try clear c11
          try clear c14
          try clear c17
          try clear hcz10_0
          try clear hcz10_1
          try clear hcz10_2
          try clear hcz12_0
          try clear hcz12_1
          try clear hcz12_2
          try clear hcz13_0
          try clear hcz13_1
          try clear hcz13_2
          try clear hcz15_0
          try clear hcz15_1
          try clear hcz15_2
          try clear hcz16_0
          try clear hcz16_1
          try clear hcz16_2
          try clear hcz9_0
          try clear hcz9_1
          try clear hcz9_2
          try clear hfz10_0
          try clear hfz10_1
          try clear hfz10_2
          try clear hfz12_0
          try clear hfz12_1
          try clear hfz12_2
          try clear hfz13_0
          try clear hfz13_1
          try clear hfz13_2
          try clear hfz15_0
          try clear hfz15_1
          try clear hfz15_2
          try clear hfz16_0
          try clear hfz16_1
          try clear hfz16_2
          try clear hfz9_0
          try clear hfz9_1
          try clear hfz9_2
          try clear p2
          obtain ⟨x5_2, rfl, HA, HK2, BK882, BK883, HB⟩ := hrel
          cases gk with
          | zero => exact absurd HA.out (by simp [computusref17_Same.l0])
          | succ k2 =>
            have H := HA.out
            clear HA
            simp only [computusref17_Same.l0] at H
            by_cases c18 : x5_2 < (l0_1.length : Int)
            · rw [if_pos c18] at H
              have c18b0 : decide (x5_2 < (l0_1.length : Int)) = true := decide_eq_true c18
              clear c18
              by_cases c19 : 0 ≤ x5_2
              · rw [if_pos c19] at H
                have c19b0 : decide (0 ≤ x5_2) = true := decide_eq_true c19
                clear c19
                by_cases c20 : x5_2 < (l1_1.length : Int)
                · rw [if_pos c20] at H
                  have c20b0 : decide (x5_2 < (l1_1.length : Int)) = true := decide_eq_true c20
                  clear c20
                  by_cases c21 : (!((((rd_T33 l0_1 x5_2).f0).toList) == (((rd_T33 l1_1 x5_2).f0).toList)) || (!(((rd_T33 l0_1 x5_2).f1) == ((rd_T33 l1_1 x5_2).f1)) || (!(((rd_T33 l0_1 x5_2).f2) == ((rd_T33 l1_1 x5_2).f2)) || ((!(((rd_T33 l0_1 x5_2).f3.f0) == ((rd_T33 l1_1 x5_2).f3.f0)) || (!(((rd_T33 l0_1 x5_2).f3.f1) == ((rd_T33 l1_1 x5_2).f3.f1)) || (!(((rd_T33 l0_1 x5_2).f3.f2) == ((rd_T33 l1_1 x5_2).f3.f2)) || (!(((rd_T33 l0_1 x5_2).f3.f3) == ((rd_T33 l1_1 x5_2).f3.f3)) || (!(((rd_T33 l0_1 x5_2).f3.f4) == ((rd_T33 l1_1 x5_2).f3.f4)) || (!(((rd_T33 l0_1 x5_2).f3.f5) == ((rd_T33 l1_1 x5_2).f3.f5)))))))))))) = true
                  · rw [if_pos c21] at H
                    have c21b0 : (!((((rd_T33 l0_1 x5_2).f0).toList) == (((rd_T33 l1_1 x5_2).f0).toList)) || (!(((rd_T33 l0_1 x5_2).f1) == ((rd_T33 l1_1 x5_2).f1)) || (!(((rd_T33 l0_1 x5_2).f2) == ((rd_T33 l1_1 x5_2).f2)) || ((!(((rd_T33 l0_1 x5_2).f3.f0) == ((rd_T33 l1_1 x5_2).f3.f0)) || (!(((rd_T33 l0_1 x5_2).f3.f1) == ((rd_T33 l1_1 x5_2).f3.f1)) || (!(((rd_T33 l0_1 x5_2).f3.f2) == ((rd_T33 l1_1 x5_2).f3.f2)) || (!(((rd_T33 l0_1 x5_2).f3.f3) == ((rd_T33 l1_1 x5_2).f3.f3)) || (!(((rd_T33 l0_1 x5_2).f3.f4) == ((rd_T33 l1_1 x5_2).f3.f4)) || (!(((rd_T33 l0_1 x5_2).f3.f5) == ((rd_T33 l1_1 x5_2).f3.f5)))))))))))) = true := c21
                    clear c21
                    obtain rfl := Option.some.inj H
                    have hnb22 := NB882_883.out
                    have hnc22 := NB883_882.out
                    have hcz23_0 : wr.cell? ⟨gb882, 0, none⟩ = some (.int .i64 a0_0) := (blk_cell BK882.out 0).trans rfl
                    have hcz23_1 : wr.cell? ⟨gb882, 1, none⟩ = some (.slice A0_1 l0_1.length c0_1) := (blk_cell BK882.out 1).trans rfl
                    have hcz23_2 : wr.cell? ⟨gb882, 2, none⟩ = some (.slice A0_2 l0_2.length c0_2) := (blk_cell BK882.out 2).trans rfl
                    have hfz23_0 := blk_frozen BK882.out 0
                    have hfz23_1 := blk_frozen BK882.out 1
                    have hfz23_2 := blk_frozen BK882.out 2
                    have p884 : 0 ≤ (x5_2 : Int) := of_decide_eq_true (by first | (with_reducible assumption) | assumption)
                    have q884 : x5_2 < (l0_1.length : Int) := of_decide_eq_true (by first | (with_reducible assumption) | assumption)
                    obtain ⟨ad884, e884, hx884_0, hx884_1, hx884_2, hx884_3, hx884_4, hx884_5, hx884_6, hx884_7, hx884_8⟩ := at_T33 HR0_1.out x5_2 p884 q884
                    cases e884
                    replace hx884_0 := (HB.out.cell (World.block_lt_of_cell? w _ hx884_0)).trans hx884_0
                    replace hx884_1 := (HB.out.cell (World.block_lt_of_cell? w _ hx884_1)).trans hx884_1
                    replace hx884_2 := (HB.out.cell (World.block_lt_of_cell? w _ hx884_2)).trans hx884_2
                    replace hx884_3 := (HB.out.cell (World.block_lt_of_cell? w _ hx884_3)).trans hx884_3
                    replace hx884_4 := (HB.out.cell (World.block_lt_of_cell? w _ hx884_4)).trans hx884_4
                    replace hx884_5 := (HB.out.cell (World.block_lt_of_cell? w _ hx884_5)).trans hx884_5
                    replace hx884_6 := (HB.out.cell (World.block_lt_of_cell? w _ hx884_6)).trans hx884_6
                    replace hx884_7 := (HB.out.cell (World.block_lt_of_cell? w _ hx884_7)).trans hx884_7
                    replace hx884_8 := (HB.out.cell (World.block_lt_of_cell? w _ hx884_8)).trans hx884_8
                    replace p884 := eq_true p884
                    replace q884 := eq_true q884
                    have hcz24_0 : wr.cell? ⟨gb883, 0, none⟩ = some (.int .i64 a1_0) := (blk_cell BK883.out 0).trans rfl
                    have hcz24_1 : wr.cell? ⟨gb883, 1, none⟩ = some (.slice A1_1 l1_1.length c1_1) := (blk_cell BK883.out 1).trans rfl
                    have hcz24_2 : wr.cell? ⟨gb883, 2, none⟩ = some (.slice A1_2 l1_2.length c1_2) := (blk_cell BK883.out 2).trans rfl
                    have hfz24_0 := blk_frozen BK883.out 0
                    have hfz24_1 := blk_frozen BK883.out 1
                    have hfz24_2 := blk_frozen BK883.out 2
                    have p885 : 0 ≤ (x5_2 : Int) := of_decide_eq_true (by first | (with_reducible assumption) | assumption)
                    have q885 : x5_2 < (l1_1.length : Int) := of_decide_eq_true (by first | (with_reducible assumption) | assumption)
                    obtain ⟨ad885, e885, hx885_0, hx885_1, hx885_2, hx885_3, hx885_4, hx885_5, hx885_6, hx885_7, hx885_8⟩ := at_T33 HR1_1.out x5_2 p885 q885
                    cases e885
                    replace hx885_0 := (HB.out.cell (World.block_lt_of_cell? w _ hx885_0)).trans hx885_0
                    replace hx885_1 := (HB.out.cell (World.block_lt_of_cell? w _ hx885_1)).trans hx885_1
                    replace hx885_2 := (HB.out.cell (World.block_lt_of_cell? w _ hx885_2)).trans hx885_2
                    replace hx885_3 := (HB.out.cell (World.block_lt_of_cell? w _ hx885_3)).trans hx885_3
                    replace hx885_4 := (HB.out.cell (World.block_lt_of_cell? w _ hx885_4)).trans hx885_4
                    replace hx885_5 := (HB.out.cell (World.block_lt_of_cell? w _ hx885_5)).trans hx885_5
                    replace hx885_6 := (HB.out.cell (World.block_lt_of_cell? w _ hx885_6)).trans hx885_6
                    replace hx885_7 := (HB.out.cell (World.block_lt_of_cell? w _ hx885_7)).trans hx885_7
                    replace hx885_8 := (HB.out.cell (World.block_lt_of_cell? w _ hx885_8)).trans hx885_8
                    replace p885 := eq_true p885
                    replace q885 := eq_true q885
                    go_wp2
                    repeat (go_quiet (fail); try go_wp2)
                    go_ret
                    exact ⟨by first | rfl | (simp [errW_none, errW_some] <;> rfl) | (simp [*, errW_none, errW_some] <;> rfl), by repeat (first | (with_reducible first | exact HB.out | apply below_alloc | apply pw_below_drewN | apply below_drew1 | refine below_set ?_ GE882.out | refine below_set ?_ GE883.out) | exact HB.out)⟩
                  · rw [if_neg c21] at H
                    have c21b0 : (!((((rd_T33 l0_1 x5_2).f0).toList) == (((rd_T33 l1_1 x5_2).f0).toList)) || (!(((rd_T33 l0_1 x5_2).f1) == ((rd_T33 l1_1 x5_2).f1)) || (!(((rd_T33 l0_1 x5_2).f2) == ((rd_T33 l1_1 x5_2).f2)) || ((!(((rd_T33 l0_1 x5_2).f3.f0) == ((rd_T33 l1_1 x5_2).f3.f0)) || (!(((rd_T33 l0_1 x5_2).f3.f1) == ((rd_T33 l1_1 x5_2).f3.f1)) || (!(((rd_T33 l0_1 x5_2).f3.f2) == ((rd_T33 l1_1 x5_2).f3.f2)) || (!(((rd_T33 l0_1 x5_2).f3.f3) == ((rd_T33 l1_1 x5_2).f3.f3)) || (!(((rd_T33 l0_1 x5_2).f3.f4) == ((rd_T33 l1_1 x5_2).f3.f4)) || (!(((rd_T33 l0_1 x5_2).f3.f5) == ((rd_T33 l1_1 x5_2).f3.f5)))))))))))) = false := by simpa using c21
                    clear c21
                    have H' := Aside0.mk H
                    clear H
                    have hnb25 := NB882_883.out
                    have hnc25 := NB883_882.out
                    have hcz26_0 : wr.cell? ⟨gb882, 0, none⟩ = some (.int .i64 a0_0) := (blk_cell BK882.out 0).trans rfl
                    have hcz26_1 : wr.cell? ⟨gb882, 1, none⟩ = some (.slice A0_1 l0_1.length c0_1) := (blk_cell BK882.out 1).trans rfl
                    have hcz26_2 : wr.cell? ⟨gb882, 2, none⟩ = some (.slice A0_2 l0_2.length c0_2) := (blk_cell BK882.out 2).trans rfl
                    have hfz26_0 := blk_frozen BK882.out 0
                    have hfz26_1 := blk_frozen BK882.out 1
                    have hfz26_2 := blk_frozen BK882.out 2
                    have p884 : 0 ≤ (x5_2 : Int) := of_decide_eq_true (by first | (with_reducible assumption) | assumption)
                    have q884 : x5_2 < (l0_1.length : Int) := of_decide_eq_true (by first | (with_reducible assumption) | assumption)
                    obtain ⟨ad884, e884, hx884_0, hx884_1, hx884_2, hx884_3, hx884_4, hx884_5, hx884_6, hx884_7, hx884_8⟩ := at_T33 HR0_1.out x5_2 p884 q884
                    cases e884
                    replace hx884_0 := (HB.out.cell (World.block_lt_of_cell? w _ hx884_0)).trans hx884_0
                    replace hx884_1 := (HB.out.cell (World.block_lt_of_cell? w _ hx884_1)).trans hx884_1
                    replace hx884_2 := (HB.out.cell (World.block_lt_of_cell? w _ hx884_2)).trans hx884_2
                    replace hx884_3 := (HB.out.cell (World.block_lt_of_cell? w _ hx884_3)).trans hx884_3
                    replace hx884_4 := (HB.out.cell (World.block_lt_of_cell? w _ hx884_4)).trans hx884_4
                    replace hx884_5 := (HB.out.cell (World.block_lt_of_cell? w _ hx884_5)).trans hx884_5
                    replace hx884_6 := (HB.out.cell (World.block_lt_of_cell? w _ hx884_6)).trans hx884_6
                    replace hx884_7 := (HB.out.cell (World.block_lt_of_cell? w _ hx884_7)).trans hx884_7
                    replace hx884_8 := (HB.out.cell (World.block_lt_of_cell? w _ hx884_8)).trans hx884_8
                    replace p884 := eq_true p884
                    replace q884 := eq_true q884
                    have hcz27_0 : wr.cell? ⟨gb883, 0, none⟩ = some (.int .i64 a1_0) := (blk_cell BK883.out 0).trans rfl
                    have hcz27_1 : wr.cell? ⟨gb883, 1, none⟩ = some (.slice A1_1 l1_1.length c1_1) := (blk_cell BK883.out 1).trans rfl
                    have hcz27_2 : wr.cell? ⟨gb883, 2, none⟩ = some (.slice A1_2 l1_2.length c1_2) := (blk_cell BK883.out 2).trans rfl
                    have hfz27_0 := blk_frozen BK883.out 0
                    have hfz27_1 := blk_frozen BK883.out 1
                    have hfz27_2 := blk_frozen BK883.out 2
                    have p885 : 0 ≤ (x5_2 : Int) := of_decide_eq_true (by first | (with_reducible assumption) | assumption)
                    have q885 : x5_2 < (l1_1.length : Int) := of_decide_eq_true (by first | (with_reducible assumption) | assumption)
                    obtain ⟨ad885, e885, hx885_0, hx885_1, hx885_2, hx885_3, hx885_4, hx885_5, hx885_6, hx885_7, hx885_8⟩ := at_T33 HR1_1.out x5_2 p885 q885
                    cases e885
                    replace hx885_0 := (HB.out.cell (World.block_lt_of_cell? w _ hx885_0)).trans hx885_0
                    replace hx885_1 := (HB.out.cell (World.block_lt_of_cell? w _ hx885_1)).trans hx885_1
                    replace hx885_2 := (HB.out.cell (World.block_lt_of_cell? w _ hx885_2)).trans hx885_2
                    replace hx885_3 := (HB.out.cell (World.block_lt_of_cell? w _ hx885_3)).trans hx885_3
                    replace hx885_4 := (HB.out.cell (World.block_lt_of_cell? w _ hx885_4)).trans hx885_4
                    replace hx885_5 := (HB.out.cell (World.block_lt_of_cell? w _ hx885_5)).trans hx885_5
                    replace hx885_6 := (HB.out.cell (World.block_lt_of_cell? w _ hx885_6)).trans hx885_6
                    replace hx885_7 := (HB.out.cell (World.block_lt_of_cell? w _ hx885_7)).trans hx885_7
                    replace hx885_8 := (HB.out.cell (World.block_lt_of_cell? w _ hx885_8)).trans hx885_8
                    replace p885 := eq_true p885
                    replace q885 := eq_true q885
                    go_wp2
                    repeat (go_quiet (fail); try go_wp2)
                    go_roundg k2
                    case measure => have := HJ2.out; have := HK2.out; omega
                    case rel => exact ⟨(wrap64 (x5_2 + 1)), (by first | rfl | (simp; done) | (simp [*]; done)), H', ⟨by have := HJ2.out; have := HK2.out; omega⟩, ⟨by (with_reducible repeat (first | refine blk_drewN ?_ _ | refine blk_drew ?_ | refine blk_alloc ?_ _)); exact BK882.out⟩, ⟨by (with_reducible repeat (first | refine blk_drewN ?_ _ | refine blk_drew ?_ | refine blk_alloc ?_ _)); exact BK883.out⟩, ⟨by repeat (first | (with_reducible first | exact HB.out | apply below_alloc | apply pw_below_drewN | apply below_drew1 | refine below_set ?_ GE882.out | refine below_set ?_ GE883.out) | exact HB.out)⟩⟩
                · rw [if_neg c20] at H
                  exact absurd H (by simp)
              · rw [if_neg c19] at H
                exact absurd H (by simp)
            · rw [if_neg c18] at H
              have c18b0 : decide (x5_2 < (l0_1.length : Int)) = false := decide_eq_false c18
              clear c18
              have H' := Aside0.mk H
              clear H
              have hnb28 := NB882_883.out
              have hnc28 := NB883_882.out
              have hcz29_0 : wr.cell? ⟨gb882, 0, none⟩ = some (.int .i64 a0_0) := (blk_cell BK882.out 0).trans rfl
              have hcz29_1 : wr.cell? ⟨gb882, 1, none⟩ = some (.slice A0_1 l0_1.length c0_1) := (blk_cell BK882.out 1).trans rfl
              have hcz29_2 : wr.cell? ⟨gb882, 2, none⟩ = some (.slice A0_2 l0_2.length c0_2) := (blk_cell BK882.out 2).trans rfl
              have hfz29_0 := blk_frozen BK882.out 0
              have hfz29_1 := blk_frozen BK882.out 1
              have hfz29_2 := blk_frozen BK882.out 2
              go_wp2
              repeat (go_quiet (fail); try go_wp2)
              go_loopg [6] k2 (fun kq v6 w' => ∃ (x6_3 : Int), v6 = .int .i64 x6_3 ∧ Aside0 (computusref17_Same.l1 kq x6_3 a0_0 l0_1 l0_2 a1_0 l1_1 l1_2 = some r) ∧ Aside0 (kq ≤ k2) ∧ Aside0 (w'.heap[gb882]? = some (.cells #[.int .i64 a0_0, (.slice A0_1 l0_1.length c0_1), (.slice A0_2 l0_2.length c0_2)] 26 (0, 0))) ∧ Aside0 (w'.heap[gb883]? = some (.cells #[.int .i64 a1_0, (.slice A1_1 l1_1.length c1_1), (.slice A1_2 l1_2.length c1_2)] 26 (0, 0))) ∧ Aside0 (Below w.heap.size w w'))
              case atStart => exact ⟨(0), (by first | rfl | (simp; done) | (simp [*]; done)), H', ⟨Nat.le_refl _⟩, ⟨by (with_reducible repeat (first | refine blk_drewN ?_ _ | refine blk_drew ?_ | refine blk_alloc ?_ _)); exact BK882.out⟩, ⟨by (with_reducible repeat (first | refine blk_drewN ?_ _ | refine blk_drew ?_ | refine blk_alloc ?_ _)); exact BK883.out⟩, ⟨by repeat (first | (with_reducible first | exact HB.out | apply below_alloc | apply pw_below_drewN | apply below_drew1 | refine below_set ?_ GE882.out | refine below_set ?_ GE883.out) | exact HB.out)⟩⟩
              case round =>
                clear H'
                try clear c1
                try clear c2
                try clear p2
                try clear c6
                try clear c6b0
                try clear c6b1
                try clear p6
                try clear c7
                try clear c7b0
                try clear c7b1
                try clear c7b2
                try clear c8
                try clear p8
                try clear q8
                try clear hx8
                try clear c11
                try clear c14
                try clear c17
                try clear c18
                try clear c18b0
                try clear c19
                try clear c19b0
                try clear c20
                try clear c20b0
                try clear c21
                try clear c21b0
                try clear c22
                try clear c25
                try clear c26
                try clear c28
                try clear hcz10_0
                try clear hcz10_1
                try clear hcz10_2
                try clear hcz12_0
                try clear hcz12_1
                try clear hcz12_2
                try clear hcz13_0
                try clear hcz13_1
                try clear hcz13_2
                try clear hcz15_0
                try clear hcz15_1
                try clear hcz15_2
                try clear hcz16_0
                try clear hcz16_1
                try clear hcz16_2
                try clear hcz23_0
                try clear hcz23_1
                try clear hcz23_2
                try clear hcz24_0
                try clear hcz24_1
                try clear hcz24_2
                try clear hcz26_0
                try clear hcz26_1
                try clear hcz26_2
                try clear hcz27_0
                try clear hcz27_1
                try clear hcz27_2
                try clear hcz29_0
                try clear hcz29_1
                try clear hcz29_2
                try clear hcz9_0
                try clear hcz9_1
                try clear hcz9_2
                try clear hfz10_0
                try clear hfz10_1
                try clear hfz10_2
                try clear hfz12_0
                try clear hfz12_1
                try clear hfz12_2
                try clear hfz13_0
                try clear hfz13_1
                try clear hfz13_2
                try clear hfz15_0
                try clear hfz15_1
                try clear hfz15_2
                try clear hfz16_0
                try clear hfz16_1
                try clear hfz16_2
                try clear hfz23_0
                try clear hfz23_1
                try clear hfz23_2
                try clear hfz24_0
                try clear hfz24_1
                try clear hfz24_2
                try clear hfz26_0
                try clear hfz26_1
                try clear hfz26_2
                try clear hfz27_0
                try clear hfz27_1
                try clear hfz27_2
                try clear hfz29_0
                try clear hfz29_1
                try clear hfz29_2
                try clear hfz9_0
                try clear hfz9_1
                try clear hfz9_2
                try clear hx884_0
                try clear hx884_1
                try clear hx884_2
                try clear hx884_3
                try clear hx884_4
                try clear hx884_5
                try clear hx884_6
                try clear hx884_7
                try clear hx884_8
                try clear hx885_0
                try clear hx885_1
                try clear hx885_2
                try clear hx885_3
                try clear hx885_4
                try clear hx885_5
                try clear hx885_6
                try clear hx885_7
                try clear hx885_8
                try clear p2
                try clear p884
                try clear p885
                try clear q884
                try clear q885
                obtain ⟨x6_3, rfl, HA, HK3, BK882, BK883, HB⟩ := hrel
                cases gk with
                | zero => exact absurd HA.out (by simp [computusref17_Same.l1])
                | succ k3 =>
                  have H := HA.out
                  clear HA
                  simp only [computusref17_Same.l1] at H
                  by_cases c30 : x6_3 < (l0_2.length : Int)
                  · rw [if_pos c30] at H
                    have c30b0 : decide (x6_3 < (l0_2.length : Int)) = true := decide_eq_true c30
                    clear c30
                    by_cases c31 : 0 ≤ x6_3
                    · rw [if_pos c31] at H
                      have c31b0 : decide (0 ≤ x6_3) = true := decide_eq_true c31
                      clear c31
                      by_cases c32 : x6_3 < (l1_2.length : Int)
                      · rw [if_pos c32] at H
                        have c32b0 : decide (x6_3 < (l1_2.length : Int)) = true := decide_eq_true c32
                        clear c32
                        by_cases c33 : (!((((rd_T35 l0_2 x6_3).f0).toList) == (((rd_T35 l1_2 x6_3).f0).toList)) || (!(((rd_T35 l0_2 x6_3).f1) == ((rd_T35 l1_2 x6_3).f1)) || (!(((rd_T35 l0_2 x6_3).f2) == ((rd_T35 l1_2 x6_3).f2)) || ((!(((rd_T35 l0_2 x6_3).f3.f0) == ((rd_T35 l1_2 x6_3).f3.f0)) || (!(((rd_T35 l0_2 x6_3).f3.f1) == ((rd_T35 l1_2 x6_3).f3.f1)) || (!(((rd_T35 l0_2 x6_3).f3.f2) == ((rd_T35 l1_2 x6_3).f3.f2)) || (!(((rd_T35 l0_2 x6_3).f3.f3) == ((rd_T35 l1_2 x6_3).f3.f3)) || (!(((rd_T35 l0_2 x6_3).f3.f4) == ((rd_T35 l1_2 x6_3).f3.f4)) || (!(((rd_T35 l0_2 x6_3).f3.f5) == ((rd_T35 l1_2 x6_3).f3.f5)))))))))))) = true
                        · rw [if_pos c33] at H
                          have c33b0 : (!((((rd_T35 l0_2 x6_3).f0).toList) == (((rd_T35 l1_2 x6_3).f0).toList)) || (!(((rd_T35 l0_2 x6_3).f1) == ((rd_T35 l1_2 x6_3).f1)) || (!(((rd_T35 l0_2 x6_3).f2) == ((rd_T35 l1_2 x6_3).f2)) || ((!(((rd_T35 l0_2 x6_3).f3.f0) == ((rd_T35 l1_2 x6_3).f3.f0)) || (!(((rd_T35 l0_2 x6_3).f3.f1) == ((rd_T35 l1_2 x6_3).f3.f1)) || (!(((rd_T35 l0_2 x6_3).f3.f2) == ((rd_T35 l1_2 x6_3).f3.f2)) || (!(((rd_T35 l0_2 x6_3).f3.f3) == ((rd_T35 l1_2 x6_3).f3.f3)) || (!(((rd_T35 l0_2 x6_3).f3.f4) == ((rd_T35 l1_2 x6_3).f3.f4)) || (!(((rd_T35 l0_2 x6_3).f3.f5) == ((rd_T35 l1_2 x6_3).f3.f5)))))))))))) = true := c33
                          clear c33
                          obtain rfl := Option.some.inj H
                          have hnb34 := NB882_883.out
                          have hnc34 := NB883_882.out
                          have hcz35_0 : wr.cell? ⟨gb882, 0, none⟩ = some (.int .i64 a0_0) := (blk_cell BK882.out 0).trans rfl
                          have hcz35_1 : wr.cell? ⟨gb882, 1, none⟩ = some (.slice A0_1 l0_1.length c0_1) := (blk_cell BK882.out 1).trans rfl
                          have hcz35_2 : wr.cell? ⟨gb882, 2, none⟩ = some (.slice A0_2 l0_2.length c0_2) := (blk_cell BK882.out 2).trans rfl
                          have hfz35_0 := blk_frozen BK882.out 0
                          have hfz35_1 := blk_frozen BK882.out 1
                          have hfz35_2 := blk_frozen BK882.out 2
                          have p886 : 0 ≤ (x6_3 : Int) := of_decide_eq_true (by first | (with_reducible assumption) | assumption)
                          have q886 : x6_3 < (l0_2.length : Int) := of_decide_eq_true (by first | (with_reducible assumption) | assumption)
                          obtain ⟨ad886, e886, hx886_0, hx886_1, hx886_2, hx886_3, hx886_4, hx886_5, hx886_6, hx886_7, hx886_8⟩ := at_T35 HR0_2.out x6_3 p886 q886
                          cases e886
                          replace hx886_0 := (HB.out.cell (World.block_lt_of_cell? w _ hx886_0)).trans hx886_0
                          replace hx886_1 := (HB.out.cell (World.block_lt_of_cell? w _ hx886_1)).trans hx886_1
                          replace hx886_2 := (HB.out.cell (World.block_lt_of_cell? w _ hx886_2)).trans hx886_2
                          replace hx886_3 := (HB.out.cell (World.block_lt_of_cell? w _ hx886_3)).trans hx886_3
                          replace hx886_4 := (HB.out.cell (World.block_lt_of_cell? w _ hx886_4)).trans hx886_4
                          replace hx886_5 := (HB.out.cell (World.block_lt_of_cell? w _ hx886_5)).trans hx886_5
                          replace hx886_6 := (HB.out.cell (World.block_lt_of_cell? w _ hx886_6)).trans hx886_6
                          replace hx886_7 := (HB.out.cell (World.block_lt_of_cell? w _ hx886_7)).trans hx886_7
                          replace hx886_8 := (HB.out.cell (World.block_lt_of_cell? w _ hx886_8)).trans hx886_8
                          replace p886 := eq_true p886
                          replace q886 := eq_true q886
                          have hcz36_0 : wr.cell? ⟨gb883, 0, none⟩ = some (.int .i64 a1_0) := (blk_cell BK883.out 0).trans rfl
                          have hcz36_1 : wr.cell? ⟨gb883, 1, none⟩ = some (.slice A1_1 l1_1.length c1_1) := (blk_cell BK883.out 1).trans rfl
                          have hcz36_2 : wr.cell? ⟨gb883, 2, none⟩ = some (.slice A1_2 l1_2.length c1_2) := (blk_cell BK883.out 2).trans rfl
                          have hfz36_0 := blk_frozen BK883.out 0
                          have hfz36_1 := blk_frozen BK883.out 1
                          have hfz36_2 := blk_frozen BK883.out 2
                          have p887 : 0 ≤ (x6_3 : Int) := of_decide_eq_true (by first | (with_reducible assumption) | assumption)
                          have q887 : x6_3 < (l1_2.length : Int) := of_decide_eq_true (by first | (with_reducible assumption) | assumption)
                          obtain ⟨ad887, e887, hx887_0, hx887_1, hx887_2, hx887_3, hx887_4, hx887_5, hx887_6, hx887_7, hx887_8⟩ := at_T35 HR1_2.out x6_3 p887 q887
                          cases e887
                          replace hx887_0 := (HB.out.cell (World.block_lt_of_cell? w _ hx887_0)).trans hx887_0
                          replace hx887_1 := (HB.out.cell (World.block_lt_of_cell? w _ hx887_1)).trans hx887_1
                          replace hx887_2 := (HB.out.cell (World.block_lt_of_cell? w _ hx887_2)).trans hx887_2
                          replace hx887_3 := (HB.out.cell (World.block_lt_of_cell? w _ hx887_3)).trans hx887_3
                          replace hx887_4 := (HB.out.cell (World.block_lt_of_cell? w _ hx887_4)).trans hx887_4
                          replace hx887_5 := (HB.out.cell (World.block_lt_of_cell? w _ hx887_5)).trans hx887_5
                          replace hx887_6 := (HB.out.cell (World.block_lt_of_cell? w _ hx887_6)).trans hx887_6
                          replace hx887_7 := (HB.out.cell (World.block_lt_of_cell? w _ hx887_7)).trans hx887_7
                          replace hx887_8 := (HB.out.cell (World.block_lt_of_cell? w _ hx887_8)).trans hx887_8
                          replace p887 := eq_true p887
                          replace q887 := eq_true q887
                          go_wp2
                          repeat (go_quiet (fail); try go_wp2)
                          go_ret
                          exact ⟨by first | rfl | (simp [errW_none, errW_some] <;> rfl) | (simp [*, errW_none, errW_some] <;> rfl), by repeat (first | (with_reducible first | exact HB.out | apply below_alloc | apply pw_below_drewN | apply below_drew1 | refine below_set ?_ GE882.out | refine below_set ?_ GE883.out) | exact HB.out)⟩
                        · rw [if_neg c33] at H
                          have c33b0 : (!((((rd_T35 l0_2 x6_3).f0).toList) == (((rd_T35 l1_2 x6_3).f0).toList)) || (!(((rd_T35 l0_2 x6_3).f1) == ((rd_T35 l1_2 x6_3).f1)) || (!(((rd_T35 l0_2 x6_3).f2) == ((rd_T35 l1_2 x6_3).f2)) || ((!(((rd_T35 l0_2 x6_3).f3.f0) == ((rd_T35 l1_2 x6_3).f3.f0)) || (!(((rd_T35 l0_2 x6_3).f3.f1) == ((rd_T35 l1_2 x6_3).f3.f1)) || (!(((rd_T35 l0_2 x6_3).f3.f2) == ((rd_T35 l1_2 x6_3).f3.f2)) || (!(((rd_T35 l0_2 x6_3).f3.f3) == ((rd_T35 l1_2 x6_3).f3.f3)) || (!(((rd_T35 l0_2 x6_3).f3.f4) == ((rd_T35 l1_2 x6_3).f3.f4)) || (!(((rd_T35 l0_2 x6_3).f3.f5) == ((rd_T35 l1_2 x6_3).f3.f5)))))))))))) = false := by simpa using c33
                          clear c33
                          have H' := Aside0.mk H
                          clear H
                          have hnb37 := NB882_883.out
                          have hnc37 := NB883_882.out
                          have hcz38_0 : wr.cell? ⟨gb882, 0, none⟩ = some (.int .i64 a0_0) := (blk_cell BK882.out 0).trans rfl
                          have hcz38_1 : wr.cell? ⟨gb882, 1, none⟩ = some (.slice A0_1 l0_1.length c0_1) := (blk_cell BK882.out 1).trans rfl
                          have hcz38_2 : wr.cell? ⟨gb882, 2, none⟩ = some (.slice A0_2 l0_2.length c0_2) := (blk_cell BK882.out 2).trans rfl
                          have hfz38_0 := blk_frozen BK882.out 0
                          have hfz38_1 := blk_frozen BK882.out 1
                          have hfz38_2 := blk_frozen BK882.out 2
                          have p886 : 0 ≤ (x6_3 : Int) := of_decide_eq_true (by first | (with_reducible assumption) | assumption)
                          have q886 : x6_3 < (l0_2.length : Int) := of_decide_eq_true (by first | (with_reducible assumption) | assumption)
                          obtain ⟨ad886, e886, hx886_0, hx886_1, hx886_2, hx886_3, hx886_4, hx886_5, hx886_6, hx886_7, hx886_8⟩ := at_T35 HR0_2.out x6_3 p886 q886
                          cases e886
                          replace hx886_0 := (HB.out.cell (World.block_lt_of_cell? w _ hx886_0)).trans hx886_0
                          replace hx886_1 := (HB.out.cell (World.block_lt_of_cell? w _ hx886_1)).trans hx886_1
                          replace hx886_2 := (HB.out.cell (World.block_lt_of_cell? w _ hx886_2)).trans hx886_2
                          replace hx886_3 := (HB.out.cell (World.block_lt_of_cell? w _ hx886_3)).trans hx886_3
                          replace hx886_4 := (HB.out.cell (World.block_lt_of_cell? w _ hx886_4)).trans hx886_4
                          replace hx886_5 := (HB.out.cell (World.block_lt_of_cell? w _ hx886_5)).trans hx886_5
                          replace hx886_6 := (HB.out.cell (World.block_lt_of_cell? w _ hx886_6)).trans hx886_6
                          replace hx886_7 := (HB.out.cell (World.block_lt_of_cell? w _ hx886_7)).trans hx886_7
                          replace hx886_8 := (HB.out.cell (World.block_lt_of_cell? w _ hx886_8)).trans hx886_8
                          replace p886 := eq_true p886
                          replace q886 := eq_true q886
                          have hcz39_0 : wr.cell? ⟨gb883, 0, none⟩ = some (.int .i64 a1_0) := (blk_cell BK883.out 0).trans rfl
                          have hcz39_1 : wr.cell? ⟨gb883, 1, none⟩ = some (.slice A1_1 l1_1.length c1_1) := (blk_cell BK883.out 1).trans rfl
                          have hcz39_2 : wr.cell? ⟨gb883, 2, none⟩ = some (.slice A1_2 l1_2.length c1_2) := (blk_cell BK883.out 2).trans rfl
                          have hfz39_0 := blk_frozen BK883.out 0
                          have hfz39_1 := blk_frozen BK883.out 1
                          have hfz39_2 := blk_frozen BK883.out 2
                          have p887 : 0 ≤ (x6_3 : Int) := of_decide_eq_true (by first | (with_reducible assumption) | assumption)
                          have q887 : x6_3 < (l1_2.length : Int) := of_decide_eq_true (by first | (with_reducible assumption) | assumption)
                          obtain ⟨ad887, e887, hx887_0, hx887_1, hx887_2, hx887_3, hx887_4, hx887_5, hx887_6, hx887_7, hx887_8⟩ := at_T35 HR1_2.out x6_3 p887 q887
                          cases e887
                          replace hx887_0 := (HB.out.cell (World.block_lt_of_cell? w _ hx887_0)).trans hx887_0
                          replace hx887_1 := (HB.out.cell (World.block_lt_of_cell? w _ hx887_1)).trans hx887_1
                          replace hx887_2 := (HB.out.cell (World.block_lt_of_cell? w _ hx887_2)).trans hx887_2
                          replace hx887_3 := (HB.out.cell (World.block_lt_of_cell? w _ hx887_3)).trans hx887_3
                          replace hx887_4 := (HB.out.cell (World.block_lt_of_cell? w _ hx887_4)).trans hx887_4
                          replace hx887_5 := (HB.out.cell (World.block_lt_of_cell? w _ hx887_5)).trans hx887_5
                          replace hx887_6 := (HB.out.cell (World.block_lt_of_cell? w _ hx887_6)).trans hx887_6
                          replace hx887_7 := (HB.out.cell (World.block_lt_of_cell? w _ hx887_7)).trans hx887_7
                          replace hx887_8 := (HB.out.cell (World.block_lt_of_cell? w _ hx887_8)).trans hx887_8
                          replace p887 := eq_true p887
                          replace q887 := eq_true q887
                          go_wp2
                          repeat (go_quiet (fail); try go_wp2)
                          go_roundg k3
                          case measure => have := HJ2.out; have := HK2.out; have := HK3.out; omega
                          case rel => exact ⟨(wrap64 (x6_3 + 1)), (by first | rfl | (simp; done) | (simp [*]; done)), H', ⟨by have := HJ2.out; have := HK2.out; have := HK3.out; omega⟩, ⟨by (with_reducible repeat (first | refine blk_drewN ?_ _ | refine blk_drew ?_ | refine blk_alloc ?_ _)); exact BK882.out⟩, ⟨by (with_reducible repeat (first | refine blk_drewN ?_ _ | refine blk_drew ?_ | refine blk_alloc ?_ _)); exact BK883.out⟩, ⟨by repeat (first | (with_reducible first | exact HB.out | apply below_alloc | apply pw_below_drewN | apply below_drew1 | refine below_set ?_ GE882.out | refine below_set ?_ GE883.out) | exact HB.out)⟩⟩
                      · rw [if_neg c32] at H
                        exact absurd H (by simp)
                    · rw [if_neg c31] at H
                      exact absurd H (by simp)
                  · rw [if_neg c30] at H
                    have c30b0 : decide (x6_3 < (l0_2.length : Int)) = false := decide_eq_false c30
                    clear c30
                    obtain rfl := Option.some.inj H
                    have hnb40 := NB882_883.out
                    have hnc40 := NB883_882.out
                    have hcz41_0 : wr.cell? ⟨gb882, 0, none⟩ = some (.int .i64 a0_0) := (blk_cell BK882.out 0).trans rfl
                    have hcz41_1 : wr.cell? ⟨gb882, 1, none⟩ = some (.slice A0_1 l0_1.length c0_1) := (blk_cell BK882.out 1).trans rfl
                    have hcz41_2 : wr.cell? ⟨gb882, 2, none⟩ = some (.slice A0_2 l0_2.length c0_2) := (blk_cell BK882.out 2).trans rfl
                    have hfz41_0 := blk_frozen BK882.out 0
                    have hfz41_1 := blk_frozen BK882.out 1
                    have hfz41_2 := blk_frozen BK882.out 2
                    go_wp2
                    repeat (go_quiet (fail); try go_wp2)
                    go_ret
                    exact ⟨by first | rfl | (simp [errW_none, errW_some] <;> rfl) | (simp [*, errW_none, errW_some] <;> rfl), by repeat (first | (with_reducible first | exact HB.out | apply below_alloc | apply pw_below_drewN | apply below_drew1 | refine below_set ?_ GE882.out | refine below_set ?_ GE883.out) | exact HB.out)⟩

end Go.Proofs.Ytkpicinbckedoaa.Q
