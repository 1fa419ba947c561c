/- What is proved: what the statement OccurrenceSplitsSaid needs, part 6 of 7; the last part proves the statement. No condition. -/
import Derived.Test.YtopfjjdkffdjpaaZOSs4
set_option linter.unusedVariables false
set_option linter.unusedSimpArgs false
section
namespace Go.Proofs.Ytopfjjdkffdjpaa.Q
open Go.RowKit Go.Proofs.YtopfjjdkffdjpaaW.PrintWords Go.Proofs.YtopfjjdkffdjpaaW.PrintLast Go.Proofs.YtopfjjdkffdjpaaW.PrintMore
attribute [local go_sem] max2_int min2_int max_two min_two max_three min_three max_four min_four
section
attribute [local go_sem high] eqA44
mutual
def computuslaw21_OccurrenceSplits.j0 : Nat → Int → Int → Bool → Int → List (S66) → List (S68) → Option (Bool)
 | 0, _, _, _, _, _, _ => none
 | k + 1, x1, x2, x26, x599000, x599001, x599002 => if x26 = true then ((computuslaw21_awake.f k).bind fun t602 => (some t602)) else ((computusref19_Of.f k x599000 x599001 x599002 x1 x2).bind fun t603 => ((computuslaw21_forward.f k t603).bind fun t606 => ((occurrence_Resolve.f x599000 x599001 x599002 t606).bind fun bt609 => (computuslaw21_OccurrenceSplits.l0 k t603 0 0 x599000 x599001 x599002 bt609.1 bt609.2.1 bt609.2.2.1 bt609.2.2.2.1 bt609.2.2.2.2.1 bt609.2.2.2.2.2.1 bt609.2.2.2.2.2.2 bt609.1 bt609.2.1 bt609.2.2.1 bt609.2.2.2.1))))
def computuslaw21_OccurrenceSplits.l0 : Nat → List (S44) → Int → Int → Int → List (S66) → List (S68) → Int → Int → Int → ByteArray → List Int → List Int → List Int → Int → Int → Int → ByteArray → Option (Bool)
 | 0, _, _, _, _, _, _, _, _, _, _, _, _, _, _, _, _, _ => none
 | k + 1, x7, x10, x11, x599000, x599001, x599002, x623000, x623001, x623002, x623003, x623004, x623005, x623006, x624000, x624001, x624002, x624003 => if x11 < (x7.length : Int) then (if 0 ≤ x11 then ((computusref20_Precedes.f ((rd_T44 x7 x11).f0) ((rd_T44 x7 x11).f1) ((rd_T44 x7 x11).f2) ((rd_T44 x7 x11).f3) x624000 x624001 x624002 x624003).bind fun t625 => (if t625 = true then (none) else (if (((rd_T44 x7 x11).f0) == x624000 && (((rd_T44 x7 x11).f1) == x624001 && (((rd_T44 x7 x11).f2) == x624002 && ((((rd_T44 x7 x11).f3).toList) == x624003.toList)))) = true then (if ((rd_T44 x7 x11).f0) = 2 then ((computuslaw21_times.f k x623000 x623001 x623002 x623003 x623004 x623005 x623006 ((rd_T44 x7 x11).f1)).bind fun t629 => (if t629 = 0 then (computuslaw21_OccurrenceSplits.l0 k x7 (wrap64 (x10 + 1)) (wrap64 (x11 + 1)) x599000 x599001 x599002 x623000 x623001 x623002 x623003 x623004 x623005 x623006 x624000 x624001 x624002 x624003) else (none))) else (computuslaw21_OccurrenceSplits.l0 k x7 (wrap64 (x10 + 1)) (wrap64 (x11 + 1)) x599000 x599001 x599002 x623000 x623001 x623002 x623003 x623004 x623005 x623006 x624000 x624001 x624002 x624003)) else (if ((rd_T44 x7 x11).f0) = 2 then ((computuslaw21_times.f k x623000 x623001 x623002 x623003 x623004 x623005 x623006 ((rd_T44 x7 x11).f1)).bind fun t632 => (if t632 = 1 then ((computuslaw21_listed.f k x599000 x599001 x599002 x623000 x623001 x623002 x623003 x623004 x623005 x623006 ((rd_T44 x7 x11).f1)).bind fun t634 => (if t634 = true then (computuslaw21_OccurrenceSplits.l0 k x7 x10 (wrap64 (x11 + 1)) x599000 x599001 x599002 x623000 x623001 x623002 x623003 x623004 x623005 x623006 x624000 x624001 x624002 x624003) else (none))) else (none))) else (computuslaw21_OccurrenceSplits.l0 k x7 x10 (wrap64 (x11 + 1)) x599000 x599001 x599002 x623000 x623001 x623002 x623003 x623004 x623005 x623006 x624000 x624001 x624002 x624003))))) else (none)) else (if x624000 = 2 then (if x10 = 1 then (some ((wrap64 ((wrap64 ((x623004.length : Int) + (x623005.length : Int))) + (x623006.length : Int))) == (wrap64 ((wrap64 ((x7.length : Int) - 1)) - 1)))) else (none)) else (if x10 = 1 then (some ((wrap64 ((wrap64 ((x623004.length : Int) + (x623005.length : Int))) + (x623006.length : Int))) == (wrap64 ((x7.length : Int) - 1)))) else (none)))
end
def computuslaw21_OccurrenceSplits.f (k : Nat) (a0_0 : Int) (l0_1 : List (S66)) (l0_2 : List (S68)) (a1 : Int) (a2 : Int) : Option (Bool) := (computuslaw21_awake.f k).bind fun t599 => (if t599 = true then ((computusref17_Right.f k a0_0 l0_1 l0_2).bind fun t600 => (if t600 = true then ((computusref18_Fails.f k a0_0 l0_1 l0_2 a1 a2).bind fun t601 => (computuslaw21_OccurrenceSplits.j0 k a1 a2 (t601 != 0) a0_0 l0_1 l0_2)) else (computuslaw21_OccurrenceSplits.j0 k a1 a2 true a0_0 l0_1 l0_2))) else (computuslaw21_OccurrenceSplits.j0 k a1 a2 true a0_0 l0_1 l0_2))
theorem computuslaw21_OccurrenceSplits.mono_l : ∀ k, (∀ y0 y1 y2 y3 y4 y5, LeO (computuslaw21_OccurrenceSplits.j0 k y0 y1 y2 y3 y4 y5) (computuslaw21_OccurrenceSplits.j0 (k + 1) y0 y1 y2 y3 y4 y5)) ∧ (∀ y0 y1 y2 y3 y4 y5 y6 y7 y8 y9 y10 y11 y12 y13 y14 y15 y16, LeO (computuslaw21_OccurrenceSplits.l0 k y0 y1 y2 y3 y4 y5 y6 y7 y8 y9 y10 y11 y12 y13 y14 y15 y16) (computuslaw21_OccurrenceSplits.l0 (k + 1) y0 y1 y2 y3 y4 y5 y6 y7 y8 y9 y10 y11 y12 y13 y14 y15 y16))
 | 0 => ⟨fun _ _ _ _ _ _ r h => by simp [computuslaw21_OccurrenceSplits.j0] at h, fun _ _ _ _ _ _ _ _ _ _ _ _ _ _ _ _ _ r h => by simp [computuslaw21_OccurrenceSplits.l0] at h⟩
 | k + 1 => by
  obtain ⟨ih0, ih1⟩ := computuslaw21_OccurrenceSplits.mono_l k
  refine ⟨?_, ?_⟩
  ·intro y0 y1 y2 y3 y4 y5
   unfold computuslaw21_OccurrenceSplits.j0
   repeat' first | (with_reducible first | exact ih0 _ _ _ _ _ _ | exact ih1 _ _ _ _ _ _ _ _ _ _ _ _ _ _ _ _ _ | exact computuslaw21_awake.mono _ | exact computuslaw21_forward.mono _ _ | exact computuslaw21_listed.mono _ _ _ _ _ _ _ _ _ _ _ _ | exact computuslaw21_times.mono _ _ _ _ _ _ _ _ _ | exact computusref17_Right.mono _ _ _ _ | exact computusref18_Fails.mono _ _ _ _ _ _ | exact computusref19_Of.mono _ _ _ _ _ _ | exact LeO.refl _ | exact LeO.none _ | refine LeO.ite ?_ ?_ | refine LeO.bind ?_ (fun _ => ?_)) | exact LeO.none _ | refine LeO.ite ?_ ?_ | refine LeO.bind ?_ (fun _ => ?_)
  ·intro y0 y1 y2 y3 y4 y5 y6 y7 y8 y9 y10 y11 y12 y13 y14 y15 y16
   unfold computuslaw21_OccurrenceSplits.l0
   repeat' first | (with_reducible first | exact ih0 _ _ _ _ _ _ | exact ih1 _ _ _ _ _ _ _ _ _ _ _ _ _ _ _ _ _ | exact computuslaw21_awake.mono _ | exact computuslaw21_forward.mono _ _ | exact computuslaw21_listed.mono _ _ _ _ _ _ _ _ _ _ _ _ | exact computuslaw21_times.mono _ _ _ _ _ _ _ _ _ | exact computusref17_Right.mono _ _ _ _ | exact computusref18_Fails.mono _ _ _ _ _ _ | exact computusref19_Of.mono _ _ _ _ _ _ | exact LeO.refl _ | exact LeO.none _ | refine LeO.ite ?_ ?_ | refine LeO.bind ?_ (fun _ => ?_)) | exact LeO.none _ | refine LeO.ite ?_ ?_ | refine LeO.bind ?_ (fun _ => ?_)
theorem computuslaw21_OccurrenceSplits.mono : ∀ a0 a1 a2 a3 a4 k, LeO (computuslaw21_OccurrenceSplits.f k a0 a1 a2 a3 a4) (computuslaw21_OccurrenceSplits.f (k + 1) a0 a1 a2 a3 a4) := by
 intro a0 a1 a2 a3 a4 k
 obtain ⟨ih0, ih1⟩ := computuslaw21_OccurrenceSplits.mono_l k
 unfold computuslaw21_OccurrenceSplits.f
 repeat' first | (with_reducible first | exact ih0 _ _ _ _ _ _ | exact ih1 _ _ _ _ _ _ _ _ _ _ _ _ _ _ _ _ _ | exact computuslaw21_awake.mono _ | exact computuslaw21_forward.mono _ _ | exact computuslaw21_listed.mono _ _ _ _ _ _ _ _ _ _ _ _ | exact computuslaw21_times.mono _ _ _ _ _ _ _ _ _ | exact computusref17_Right.mono _ _ _ _ | exact computusref18_Fails.mono _ _ _ _ _ _ | exact computusref19_Of.mono _ _ _ _ _ _ | exact LeO.refl _ | exact LeO.none _ | refine LeO.ite ?_ ?_ | refine LeO.bind ?_ (fun _ => ?_)) | exact LeO.none _ | refine LeO.ite ?_ ?_ | refine LeO.bind ?_ (fun _ => ?_)
def computuslaw21_OccurrenceSplits.T14 : Bool × List (List Nat × List Nat) := (true, [([], []), ([], []), ([0, 1], [0, 1]), ([2], [2]), ([3], [3]), ([4], [4]), ([5], [5]), ([6], [6]), ([6], [6]), ([6], [6]), ([8, 9, 6], [6, 8, 9]), ([10, 6], [6, 10]), ([11, 6], [6, 11]), ([7, 12, 6, 6], [6, 7, 12]), ([13, 6], [6, 13]), ([6, 14], [6, 14])])
def computuslaw21_OccurrenceSplits.B14 : List Nat := [0, 0, 3, 7, 15, 31, 63, 127, 127, 127, 895, 1919, 3967, 8191, 16383, 32767]
theorem computuslaw21_OccurrenceSplits.tab14 : rtab .any (opsOf Try.f5 14) = computuslaw21_OccurrenceSplits.T14 := by kernel_rfl
theorem computuslaw21_OccurrenceSplits.bits14 : waitsOk computuslaw21_OccurrenceSplits.T14.2 computuslaw21_OccurrenceSplits.B14 = true := by kernel_rfl
def computuslaw21_OccurrenceSplits.T16 : Bool × List (List Nat × List Nat) := (true, [([], []), ([], []), ([0, 1], [0, 1]), ([2], [2]), ([3], [3]), ([4], [4]), ([5], [5]), ([6], [6]), ([6], [6]), ([6], [6]), ([8, 9, 6], [6, 8, 9]), ([10, 6], [6, 10]), ([11, 6], [6, 11]), ([7, 12, 6, 6], [6, 7, 12]), ([13, 6], [6, 13]), ([14, 13, 6], [6, 14]), ([15], [15]), ([15], [15]), ([15], [15]), ([15], [15]), ([18, 19, 15], [15, 18, 19]), ([20, 15], [15, 20]), ([21, 15], [15, 21]), ([16, 17, 22, 15, 15], [15, 16, 17, 22]), ([23, 15], [15, 23]), ([15, 24, 6], [6, 15, 24]), ([6, 25], [6, 25])])
def computuslaw21_OccurrenceSplits.B16 : List Nat := [0, 0, 3, 7, 15, 31, 63, 127, 127, 127, 895, 1919, 3967, 8191, 16383, 32767, 65535, 65535, 65535, 65535, 851967, 1900543, 3997695, 8388607, 16777215, 33554431, 67108863]
theorem computuslaw21_OccurrenceSplits.tab16 : rtab .any (opsOf Try.f5 16) = computuslaw21_OccurrenceSplits.T16 := by kernel_rfl
theorem computuslaw21_OccurrenceSplits.bits16 : waitsOk computuslaw21_OccurrenceSplits.T16.2 computuslaw21_OccurrenceSplits.B16 = true := by kernel_rfl
set_option maxHeartbeats 8000000 in
set_option maxRecDepth 100000 in
theorem computuslaw21_OccurrenceSplits.calls (k : Nat) (a0_0 : Int) (A0_1 : Option Addr) (c0_1 : Nat) (l0_1 : List (S66)) (A0_2 : Option Addr) (c0_2 : Nat) (l0_2 : List (S68)) (a1 : Int) (a2 : Int) (r : Bool) (w : World) (hr0_1 : Kd.C k66 w A0_1 l0_1.length l0_1) (hc0_1 : l0_1.length ≤ c0_1) (hr0_2 : Kd.C k68 w A0_2 l0_2.length l0_2) (hc0_2 : l0_2.length ≤ c0_2) (h : computuslaw21_OccurrenceSplits.f k a0_0 l0_1 l0_2 a1 a2 = some r) :
  Calls Try.prog 5 #[.agg #[.int .i64 a0_0, .slice A0_1 l0_1.length c0_1, .slice A0_2 l0_2.length c0_2], .int .i64 a1, .int .i64 a2] w fun e w' => e = .returned (.bool r) ∧ Below w.heap.size w w' := by
 have hu36 := Try.underlying36
 have hu42 := Try.underlying42
 have hu44 := Try.underlying44
 have HR0_1 := Aside0.mk hr0_1
 have HC0_1 := Aside0.mk hc0_1
 clear hr0_1 hc0_1
 have HR0_2 := Aside0.mk hr0_2
 have HC0_2 := Aside0.mk hc0_2
 clear hr0_2 hc0_2
 have HB := Aside0.mk (Below.refl w.heap.size w)
 have H := h
 clear h
 unfold computuslaw21_OccurrenceSplits.f at H
 have HC4 := Aside0.mk H
 clear H
 go_enter Try.func5, Try.ntmps5
 go_upto_region 1 with (first | ((with_reducible refine gate_dst (N := 3) rfl ?_); (try (refine gate_guard (by rfl) ?_; dsimp only)); refine bx_ (w := w) (N := 3) (cs := #[.int .i64 a0_0, .slice A0_1 l0_1.length c0_1, .slice A0_2 l0_2.length c0_2]) (t := 36) ?_; intro gb598 w5 BK598 n0_ GW598 GE598; clear HB; have HB := n0_; clear n0_))
 (try simp only [Act.put, sA_, sZ_, sS_])
 go_cut [26] (fun v26 wc => ∃ (kq : Nat) (x26_3 : Bool), v26 = .bool x26_3 ∧ Aside0 (computuslaw21_OccurrenceSplits.j0 kq a1 a2 x26_3 a0_0 l0_1 l0_2 = some r) ∧ Aside0 (kq ≤ k) ∧ Aside0 (wc.heap[gb598]? = some (.cells #[.int .i64 a0_0, (.slice A0_1 l0_1.length c0_1), (.slice A0_2 l0_2.length c0_2)] 36 (0, 0))) ∧ Aside0 (Below w.heap.size w wc))
 case first =>
  have H := HC4.out
  clear HC4
  obtain ⟨t599, A6, H⟩ := bs_ H
  by_cases c7 : t599 = true
  rotate_left
  ·replace c7 := Bool.eq_false_iff.mpr c7
   subst c7
   replace H := if_ H
   have H' := Aside0.mk H
   clear H
   go_wp2_with (first | ((with_reducible refine gate_callee (f := 13) rfl ?_); refine gl_ (some 13) Try.func13 #[] ?_; (with_reducible refine (computuslaw21_awake.calls k  false _ A6.out).mono ?_); rintro e w19 ⟨rfl, hb⟩; refine ⟨_, rfl, ?_⟩; have n0_ := Aside0.mk (blk_below (g := gb598) (o := .cells #[.int .i64 a0_0, .slice A0_1 l0_1.length c0_1, .slice A0_2 l0_2.length c0_2] 36 (0, 0)) (bk_ BK598.out) hb); have n1_ := bt_ hb; clear BK598; clear HB; have BK598 := n0_; have HB := n1_; clear n0_ n1_; (try clear hb); (try clear hb2); (try clear hk); (try clear hi)))
   go_meet
   case rel => exact ⟨_, (true), rs_, H', ⟨by first | omega | exact Nat.le_refl _⟩, ⟨bk_ BK598.out⟩, ⟨bh_⟩⟩
  subst c7
  replace H := it_ H
  obtain ⟨t600, A8, H⟩ := bs_ H
  by_cases c9 : t600 = true
  rotate_left
  ·replace c9 := Bool.eq_false_iff.mpr c9
   subst c9
   replace H := if_ H
   have H' := Aside0.mk H
   clear H
   go_wp2_with (first | ((with_reducible refine gate_callee (f := 13) rfl ?_); refine gl_ (some 13) Try.func13 #[] ?_; (with_reducible refine (computuslaw21_awake.calls k  true _ A6.out).mono ?_); rintro e w16 ⟨rfl, hb⟩; refine ⟨_, rfl, ?_⟩; have n0_ := Aside0.mk (blk_below (g := gb598) (o := .cells #[.int .i64 a0_0, .slice A0_1 l0_1.length c0_1, .slice A0_2 l0_2.length c0_2] 36 (0, 0)) (bk_ BK598.out) hb); have n1_ := bt_ hb; clear BK598; clear HB; have BK598 := n0_; have HB := n1_; clear n0_ n1_; (try clear hb); (try clear hb2); (try clear hk); (try clear hi); obtain ⟨hcz17_0, hcz17_1, hcz17_2⟩ := cz3_ BK598.out; obtain ⟨hfz17_0, hfz17_1, hfz17_2⟩ := fz3_ BK598.out) | (go_at_call 14; (with_reducible refine (computusref17_Right.calls k a0_0 _ _ l0_1 _ _ l0_2 false _ ?side1 ?side2 ?side3 ?side4 A8.out).mono ?_); (case side1 => repeat (first | exact (Kd.C_below HR0_1.out HB.out) | (with_reducible refine Kd.C_alloc ?_ _) | (with_reducible refine Kd.C_drewN ?_ _) | (with_reducible refine Kd.C_drew ?_))); (case side2 => exact HC0_1.out); (case side3 => repeat (first | exact (Kd.C_below HR0_2.out HB.out) | (with_reducible refine Kd.C_alloc ?_ _) | (with_reducible refine Kd.C_drewN ?_ _) | (with_reducible refine Kd.C_drew ?_))); (case side4 => exact HC0_2.out); rintro e w18 ⟨rfl, hb⟩; have n0_ := Aside0.mk (blk_below (g := gb598) (o := .cells #[.int .i64 a0_0, .slice A0_1 l0_1.length c0_1, .slice A0_2 l0_2.length c0_2] 36 (0, 0)) (bk_ BK598.out) hb); have n1_ := bt_ hb; clear BK598; clear HB; have BK598 := n0_; have HB := n1_; clear n0_ n1_; (try clear hb); (try clear hb2); (try clear hk); (try clear hi)))
   go_meet
   case rel => exact ⟨_, (true), rs_, H', ⟨by first | omega | exact Nat.le_refl _⟩, ⟨bk_ BK598.out⟩, ⟨bh_⟩⟩
  subst c9
  replace H := it_ H
  obtain ⟨t601, A10, H⟩ := bs_ H
  have H' := Aside0.mk H
  clear H
  go_wp2_with (first | ((with_reducible refine gate_callee (f := 13) rfl ?_); refine gl_ (some 13) Try.func13 #[] ?_; (with_reducible refine (computuslaw21_awake.calls k  true _ A6.out).mono ?_); rintro e w11 ⟨rfl, hb⟩; refine ⟨_, rfl, ?_⟩; have n0_ := Aside0.mk (blk_below (g := gb598) (o := .cells #[.int .i64 a0_0, .slice A0_1 l0_1.length c0_1, .slice A0_2 l0_2.length c0_2] 36 (0, 0)) (bk_ BK598.out) hb); have n1_ := bt_ hb; clear BK598; clear HB; have BK598 := n0_; have HB := n1_; clear n0_ n1_; (try clear hb); (try clear hb2); (try clear hk); (try clear hi); obtain ⟨hcz12_0, hcz12_1, hcz12_2⟩ := cz3_ BK598.out; obtain ⟨hfz12_0, hfz12_1, hfz12_2⟩ := fz3_ BK598.out) | (go_at_call 14; (with_reducible refine (computusref17_Right.calls k a0_0 _ _ l0_1 _ _ l0_2 true _ ?side1 ?side2 ?side3 ?side4 A8.out).mono ?_); (case side1 => repeat (first | exact (Kd.C_below HR0_1.out HB.out) | (with_reducible refine Kd.C_alloc ?_ _) | (with_reducible refine Kd.C_drewN ?_ _) | (with_reducible refine Kd.C_drew ?_))); (case side2 => exact HC0_1.out); (case side3 => repeat (first | exact (Kd.C_below HR0_2.out HB.out) | (with_reducible refine Kd.C_alloc ?_ _) | (with_reducible refine Kd.C_drewN ?_ _) | (with_reducible refine Kd.C_drew ?_))); (case side4 => exact HC0_2.out); rintro e w13 ⟨rfl, hb⟩; have n0_ := Aside0.mk (blk_below (g := gb598) (o := .cells #[.int .i64 a0_0, .slice A0_1 l0_1.length c0_1, .slice A0_2 l0_2.length c0_2] 36 (0, 0)) (bk_ BK598.out) hb); have n1_ := bt_ hb; clear BK598; clear HB; have BK598 := n0_; have HB := n1_; clear n0_ n1_; (try clear hb); (try clear hb2); (try clear hk); (try clear hi); obtain ⟨hcz14_0, hcz14_1, hcz14_2⟩ := cz3_ BK598.out; obtain ⟨hfz14_0, hfz14_1, hfz14_2⟩ := fz3_ BK598.out) | (go_at_call 15; (with_reducible refine (computusref18_Fails.calls k a0_0 _ _ l0_1 _ _ l0_2 a1 a2 t601 _ ?side1 ?side2 ?side3 ?side4 A10.out).mono ?_); (case side1 => repeat (first | exact (Kd.C_below HR0_1.out HB.out) | (with_reducible refine Kd.C_alloc ?_ _) | (with_reducible refine Kd.C_drewN ?_ _) | (with_reducible refine Kd.C_drew ?_))); (case side2 => exact HC0_1.out); (case side3 => repeat (first | exact (Kd.C_below HR0_2.out HB.out) | (with_reducible refine Kd.C_alloc ?_ _) | (with_reducible refine Kd.C_drewN ?_ _) | (with_reducible refine Kd.C_drew ?_))); (case side4 => exact HC0_2.out); rintro e w15 ⟨rfl, hb⟩; have n0_ := Aside0.mk (blk_below (g := gb598) (o := .cells #[.int .i64 a0_0, .slice A0_1 l0_1.length c0_1, .slice A0_2 l0_2.length c0_2] 36 (0, 0)) (bk_ BK598.out) hb); have n1_ := bt_ hb; clear BK598; clear HB; have BK598 := n0_; have HB := n1_; clear n0_ n1_; (try clear hb); (try clear hb2); (try clear hk); (try clear hi)))
  go_meet
  case rel => exact ⟨_, ((t601 != 0)), rs_, H', ⟨by first | omega | exact Nat.le_refl _⟩, ⟨bk_ BK598.out⟩, ⟨bh_⟩⟩
 case rest =>
  clear HC4
  try clear c1
  try clear p2
  try clear c5
  try clear c7
  try clear c9
  try clear c13
  try clear hcz12_0
  try clear hcz12_1
  try clear hcz12_2
  try clear hcz14_0
  try clear hcz14_1
  try clear hcz14_2
  try clear hcz17_0
  try clear hcz17_1
  try clear hcz17_2
  try clear hfz12_0
  try clear hfz12_1
  try clear hfz12_2
  try clear hfz14_0
  try clear hfz14_1
  try clear hfz14_2
  try clear hfz17_0
  try clear hfz17_1
  try clear hfz17_2
  obtain ⟨kq, x26_3, rfl, HA, HJ3, BK598, HB⟩ := hcut
  cases kq with
  | zero => exact absurd HA.out (by simp [computuslaw21_OccurrenceSplits.j0])
  | succ kj3 =>
   have H := HA.out
   clear HA
   simp only [computuslaw21_OccurrenceSplits.j0] at H
   by_cases c20 : x26_3 = true
   ·subst c20
    replace H := it_ H
    obtain ⟨t602, A21, H⟩ := bs_ H
    obtain rfl := Option.some.inj H
    go_wp2_with (first | ((with_reducible refine gate_callee (f := 13) rfl ?_); refine gl_ (some 27) Try.func13 #[] ?_; (with_reducible refine (computuslaw21_awake.calls kj3  t602 _ A21.out).mono ?_); rintro e w22 ⟨rfl, hb⟩; refine ⟨_, rfl, ?_⟩; have n0_ := Aside0.mk (blk_below (g := gb598) (o := .cells #[.int .i64 a0_0, .slice A0_1 l0_1.length c0_1, .slice A0_2 l0_2.length c0_2] 36 (0, 0)) (bk_ BK598.out) hb); have n1_ := bt_ hb; clear BK598; clear HB; have BK598 := n0_; have HB := n1_; clear n0_ n1_; (try clear hb); (try clear hb2); (try clear hk); (try clear hi)))
    go_ret
    exact rt_
   replace c20 := Bool.eq_false_iff.mpr c20
   subst c20
   replace H := if_ H
   obtain ⟨t603, A23, H⟩ := bs_ H
   obtain ⟨t606, A24, H⟩ := bs_ H
   obtain ⟨⟨t609, t610, t611, t612, t613, t616, t619⟩, A25, H⟩ := bs_ H
   dsimp only at H
   have H' := Aside0.mk H
   clear H
   obtain ⟨hcz26_0, hcz26_1, hcz26_2⟩ := cz3_ BK598.out
   obtain ⟨hfz26_0, hfz26_1, hfz26_2⟩ := fz3_ BK598.out
   try go_wp2_with (first | ((with_reducible refine gate_callee (f := 16) rfl ?_); refine gl_ (some 31) Try.func16 #[.agg #[.int .i64 a0_0, .slice A0_1 l0_1.length c0_1, .slice A0_2 l0_2.length c0_2], .int .i64 a1, .int .i64 a2] ?_; (with_reducible refine (computusref19_Of.calls kj3 a0_0 _ _ l0_1 _ _ l0_2 a1 a2 t603 _ ?side1 ?side2 ?side3 ?side4 A23.out).mono ?_); (case side1 => repeat (first | exact (Kd.C_below HR0_1.out HB.out) | (with_reducible refine Kd.C_alloc ?_ _) | (with_reducible refine Kd.C_drewN ?_ _) | (with_reducible refine Kd.C_drew ?_))); (case side2 => exact HC0_1.out); (case side3 => repeat (first | exact (Kd.C_below HR0_2.out HB.out) | (with_reducible refine Kd.C_alloc ?_ _) | (with_reducible refine Kd.C_drewN ?_ _) | (with_reducible refine Kd.C_drew ?_))); (case side4 => exact HC0_2.out); rintro e w27 ⟨v604, rfl, ho0, hb⟩; refine ⟨_, rfl, ?_⟩; have n0_ := Aside0.mk (Kd.R_lower ho0 bz_); have n1_ := Aside0.mk (blk_below (g := gb598) (o := .cells #[.int .i64 a0_0, .slice A0_1 l0_1.length c0_1, .slice A0_2 l0_2.length c0_2] 36 (0, 0)) (bk_ BK598.out) hb); have n2_ := bt_ hb; clear BK598; clear HB; have HO605 := n0_; have BK598 := n1_; have HB := n2_; clear n0_ n1_ n2_; (try clear hb); (try clear hb2); (try clear hk); (try clear hi); (try clear ho0); obtain ⟨Ao28, co28, eo28⟩ := Kd.R_slice HO605.out; subst eo28))
   have n0_ := Aside0.mk (Kd.R_drew HO605.out)
   have n1_ := Aside0.mk (blk_drew BK598.out)
   have n2_ := Aside0.mk (below_drew1 HB.out)
   clear HO605
   clear BK598
   clear HB
   have HO605 := n0_
   have BK598 := n1_
   have HB := n2_
   clear n0_ n1_ n2_
   refine start_ (n := 6) (S := fun w' => w'.cell? ⟨gb598, 0, none⟩ = some (.int .i64 a0_0) ∧ w'.cell? ⟨gb598, 1, none⟩ = some (.slice A0_1 l0_1.length c0_1) ∧ w'.cell? ⟨gb598, 2, none⟩ = some (.slice A0_2 l0_2.length c0_2)) (ds := []) #[false, false, false, false, false, false] (by kernel_rfl) rfl rfl ⟨(blk_cell BK598.out 0).trans rfl, (blk_cell BK598.out 1).trans rfl, (blk_cell BK598.out 2).trans rfl⟩ (fun hHeld => ?_)
   generalize w27.drew = w29 at HO605 BK598 HB hHeld ⊢
   refine pure_ (i := 1) (N := some 33) (v := ?_) (a' := ?_) (bf_ 6 2) rfl rfl (by kernel_rfl) (fun _ _ _ h => h) (Or.inl ⟨by rfl, ?_⟩) ?_ ?_
   rotate_left
   ·intro w'
    go_simp
    with_reducible rfl
   rotate_left
   ·simp only [Act.put, sA_, sZ_, sS_, i64_w, i32_w]
    rfl
   refine take_ (i := 0) (N := some 32) (v := ?_) (a' := ?_) (bf_ 6 3) rfl rfl (by kernel_rfl) (fun _ _ _ h => h) (Or.inl ⟨by rfl, ?_⟩) hHeld ?_ ?_
   rotate_left
   ·rintro w' ⟨s0, s1, s2⟩
    go_simp
    with_reducible rfl
   rotate_left
   ·simp only [Act.put, sA_, sZ_, sS_, i64_w, i32_w]
    rfl
   refine join_ (σ := Value × Value × Value × Value × Nat) 1 #[true, true, true, true, true, false] (fun s_ => [(34, s_.1), (35, .agg #[.int .i64 t609, .int .i64 t610, .int .i64 t611, .string t612, s_.2.1, s_.2.2.1, s_.2.2.2.1]), (8, .pointer (some ⟨s_.2.2.2.2, 0, none⟩))]) (fun s_ w' => (w'.cell? ⟨gb598, 0, none⟩ = some (.int .i64 a0_0) ∧ w'.cell? ⟨gb598, 1, none⟩ = some (.slice A0_1 l0_1.length c0_1) ∧ w'.cell? ⟨gb598, 2, none⟩ = some (.slice A0_2 l0_2.length c0_2)) ∧ (Kd.R k44 44 w' w.heap.size (fun _ => True) (.slice Ao28 t603.length co28) t603) ∧ (Kd.R k28 28 w' w.heap.size (fun _ => True) s_.1 t606) ∧ (Kd.R (Kd.int .i64) 3 w' w.heap.size (fun k_ => some k_ ≠ (s_.2.2.1 : Value).ownBlock ∧ some k_ ≠ (s_.2.2.2.1 : Value).ownBlock) s_.2.1 t613) ∧ (Kd.R (Kd.int .i64) 3 w' w.heap.size (fun k_ => some k_ ≠ (s_.2.1 : Value).ownBlock ∧ some k_ ≠ (s_.2.2.2.1 : Value).ownBlock) s_.2.2.1 t616) ∧ (Kd.R (Kd.int .i64) 3 w' w.heap.size (fun k_ => some k_ ≠ (s_.2.1 : Value).ownBlock ∧ some k_ ≠ (s_.2.2.1 : Value).ownBlock) s_.2.2.2.1 t619) ∧ (w'.heap[gb598]? = some (.cells #[.int .i64 a0_0, .slice A0_1 l0_1.length c0_1, .slice A0_2 l0_2.length c0_2] 36 (0, 0))) ∧ (w'.heap[s_.2.2.2.2]? = some (.cells #[.int .i64 0, .int .i64 0, .int .i64 0, .string (⟨#[]⟩ : ByteArray), .slice none 0 0, .slice none 0 0, .slice none 0 0] 42 (0, 0))) ∧ (w.heap.size ≤ s_.2.2.2.2) ∧ (w.heap.size ≤ s_.2.2.2.2) ∧ (gb598 ≠ s_.2.2.2.2) ∧ (s_.2.2.2.2 ≠ gb598) ∧ (Below w.heap.size w w')) ?_ ?_
   rotate_left
   ·intro hCont
    refine two_ (i := 2) (j := 4) (Ni := some 34) (Nj := some 8) #[true, true, true, false, false, false] #[true, true, false, false, true, false] rfl rfl rfl rfl (by kernel_rfl) (by decide) (by decide) (fun K hK => ?_) (fun K hK => ?_)
    ·skip
     refine goes_ Try.func18 (by kernel_rfl) rfl #[.slice Ao28 t603.length co28] (by rfl) rfl rfl (by (try simp only [List.map_toArray, List.map_cons, List.map_nil]); first | done | rfl | (simp only [List.length_drop, List.length_take]; rfl)) ?_
     with_reducible refine (computuslaw21_forward.calls kj3 _ _ t603 t606 _ ?side1 ?side2 A24.out).mono ?_
     (case side1 => repeat (first | exact (Kd.R_reads' HO605.out).2.2 | (with_reducible refine Kd.C_alloc ?_ _) | (with_reducible refine Kd.C_drewN ?_ _) | (with_reducible refine Kd.C_drew ?_)))
     (case side2 => exact (Kd.R_reads' HO605.out).2.1)
     rintro e w30 ⟨v607, rfl, ho0, hb⟩
     refine ⟨_, rfl, ?_⟩
     have n0_ := Aside0.mk (Kd.R_below (rk_ HO605.out) hb)
     have n1_ := Aside0.mk (Kd.R_lower ho0 bz_)
     have n2_ := Aside0.mk (blk_below (g := gb598) (o := .cells #[.int .i64 a0_0, .slice A0_1 l0_1.length c0_1, .slice A0_2 l0_2.length c0_2] 36 (0, 0)) (bk_ BK598.out) hb)
     have n3_ := bt_ hb
     clear HO605
     clear BK598
     clear HB
     have HO605 := n0_
     have HO608 := n1_
     have BK598 := n2_
     have HB := n3_
     clear n0_ n1_ n2_ n3_
     (try clear hb)
     (try clear hb2)
     (try clear hk)
     (try clear hi)
     (try clear ho0)
     obtain ⟨Ao31, co31, eo31⟩ := Kd.R_slice HO608.out
     (first | subst eo31 | (injection eo31 with f1_ f2_ f3_; have f4_ := f1_.symm; have f5_ := f3_.symm; clear f1_ f2_ f3_; subst f4_; subst f5_))
     refine hK.out _ _ (by first | exact ⟨(blk_cell BK598.out 0).trans rfl, (blk_cell BK598.out 1).trans rfl, (blk_cell BK598.out 2).trans rfl⟩ | exact hHeld) (fun hHeld => ?_)
     clear hK K
     refine norm_ (a' := ?_) ?_ ?_
     rotate_left
     ·show Act.put _ (some 34) _ = _
      simp only [Act.put, sA_, sZ_, sS_, i64_w, i32_w]
      rfl
     refine two_ (i := 3) (j := 4) (Ni := some 35) (Nj := some 8) #[true, true, true, true, false, false] #[true, true, true, false, true, false] rfl rfl rfl rfl (by kernel_rfl) (by decide) (by decide) (fun K hK => ?_) (fun K hK => ?_)
     ·skip
      refine goes_ Try.func17 (by kernel_rfl) rfl #[.agg #[.int .i64 a0_0, .slice A0_1 l0_1.length c0_1, .slice A0_2 l0_2.length c0_2], .slice Ao31 t606.length co31] (by rfl) rfl rfl (by (try simp only [List.map_toArray, List.map_cons, List.map_nil]); first | done | rfl | (simp only [List.length_drop, List.length_take]; rfl)) ?_
      with_reducible refine (occurrence_Resolve.calls a0_0 _ _ l0_1 _ _ l0_2 _ _ t606 t609 t610 t611 t612 t613 t616 t619 _ ?side1 ?side2 ?side3 ?side4 ?side5 ?side6 A25.out).mono ?_
      (case side1 => repeat (first | exact (Kd.C_below HR0_1.out HB.out) | (with_reducible refine Kd.C_alloc ?_ _) | (with_reducible refine Kd.C_drewN ?_ _) | (with_reducible refine Kd.C_drew ?_)))
      (case side2 => exact HC0_1.out)
      (case side3 => repeat (first | exact (Kd.C_below HR0_2.out HB.out) | (with_reducible refine Kd.C_alloc ?_ _) | (with_reducible refine Kd.C_drewN ?_ _) | (with_reducible refine Kd.C_drew ?_)))
      (case side4 => exact HC0_2.out)
      (case side5 => repeat (first | exact (Kd.R_reads' HO608.out).2.2 | (with_reducible refine Kd.C_alloc ?_ _) | (with_reducible refine Kd.C_drewN ?_ _) | (with_reducible refine Kd.C_drew ?_)))
      (case side6 => exact (Kd.R_reads' HO608.out).2.1)
      rintro e w32 ⟨v614, v617, v620, rfl, ho0, ho1, ho2, hb⟩
      refine ⟨_, rfl, ?_⟩
      have n0_ := Aside0.mk (Kd.R_below (rk_ HO605.out) hb)
      have n1_ := Aside0.mk (Kd.R_below (rk_ HO608.out) hb)
      have n2_ := Aside0.mk (Kd.R_lower ho0 bz_)
      have n3_ := Aside0.mk (Kd.R_lower ho1 bz_)
      have n4_ := Aside0.mk (Kd.R_lower ho2 bz_)
      have n5_ := Aside0.mk (blk_below (g := gb598) (o := .cells #[.int .i64 a0_0, .slice A0_1 l0_1.length c0_1, .slice A0_2 l0_2.length c0_2] 36 (0, 0)) (bk_ BK598.out) hb)
      have n6_ := bt_ hb
      clear HO605
      clear HO608
      clear BK598
      clear HB
      have HO605 := n0_
      have HO608 := n1_
      have HO615 := n2_
      have HO618 := n3_
      have HO621 := n4_
      have BK598 := n5_
      have HB := n6_
      clear n0_ n1_ n2_ n3_ n4_ n5_ n6_
      (try clear hb)
      (try clear hb2)
      (try clear hk)
      (try clear hi)
      (try clear ho0)
      (try clear ho1)
      (try clear ho2)
      refine hK.out _ _ (by first | exact ⟨(blk_cell BK598.out 0).trans rfl, (blk_cell BK598.out 1).trans rfl, (blk_cell BK598.out 2).trans rfl⟩ | exact hHeld) (fun hHeld => ?_)
      clear hK K
      refine norm_ (a' := ?_) ?_ ?_
      rotate_left
      ·show Act.put _ (some 35) _ = _
       simp only [Act.put, sA_, sZ_, sS_, i64_w, i32_w]
       rfl
      refine one_ (i := 4) (N := some 8) (bf_ 6 31) rfl rfl (by kernel_rfl) (by decide) (fun K hK => ?_)
      refine box_step ?hg (N := 8) ?hd (cs := #[.int .i64 0, .int .i64 0, .int .i64 0, .string (⟨#[]⟩ : ByteArray), .slice none 0 0, .slice none 0 0, .slice none 0 0]) (t := 42) ?hr ?_; (case hd => rfl); (case hg => rfl); (case hr => first | (go_simp; done) | (go_simp; rfl))
      intro gb622 hg w33 hbox hb
      have n0_ := Aside0.mk (Kd.R_below (rk_ HO605.out) hb)
      have n1_ := Aside0.mk (Kd.R_below (rk_ HO608.out) hb)
      have n2_ := Aside0.mk (Kd.R_below (rk_ HO615.out) hb)
      have n3_ := Aside0.mk (Kd.R_below (rk_ HO618.out) hb)
      have n4_ := Aside0.mk (Kd.R_below (rk_ HO621.out) hb)
      have n5_ := Aside0.mk (blk_below (g := gb598) (o := .cells #[.int .i64 a0_0, .slice A0_1 l0_1.length c0_1, .slice A0_2 l0_2.length c0_2] 36 (0, 0)) (bk_ BK598.out) hb)
      have n6_ := bt_ hb
      have n7_ := Aside0.mk (hbox)
      have n8_ := Aside0.mk ((by rw [hg]; exact bz_ : w.heap.size ≤ gb622))
      have n9_ := Aside0.mk ((by rw [hg]; exact bz_ : w.heap.size ≤ gb622))
      have n10_ := Aside0.mk ((by rw [hg]; exact Nat.ne_of_lt (blk_lt (g := gb598) (o := .cells #[.int .i64 a0_0, .slice A0_1 l0_1.length c0_1, .slice A0_2 l0_2.length c0_2] 36 (0, 0)) (bk_ BK598.out)) : gb598 ≠ gb622))
      have n11_ := Aside0.mk ((by rw [hg]; exact Nat.ne_of_gt (blk_lt (g := gb598) (o := .cells #[.int .i64 a0_0, .slice A0_1 l0_1.length c0_1, .slice A0_2 l0_2.length c0_2] 36 (0, 0)) (bk_ BK598.out)) : gb622 ≠ gb598))
      clear HO605
      clear HO608
      clear HO615
      clear HO618
      clear HO621
      clear BK598
      clear HB
      have HO605 := n0_
      have HO608 := n1_
      have HO615 := n2_
      have HO618 := n3_
      have HO621 := n4_
      have BK598 := n5_
      have HB := n6_
      have BK622 := n7_
      have GW622 := n8_
      have GE622 := n9_
      have NB598_622 := n10_
      have NB622_598 := n11_
      clear n0_ n1_ n2_ n3_ n4_ n5_ n6_ n7_ n8_ n9_ n10_ n11_
      clear hb hbox hg
      refine hK.out _ _ (by first | exact ⟨(blk_cell BK598.out 0).trans rfl, (blk_cell BK598.out 1).trans rfl, (blk_cell BK598.out 2).trans rfl⟩ | exact hHeld) (fun hHeld => ?_)
      clear hK K
      refine norm_ (a' := ?_) ?_ ?_
      rotate_left
      ·show Act.put _ (some 8) _ = _
       simp only [Act.put, sA_, sZ_, sS_, i64_w, i32_w]
       rfl
      exact norm_ (by simp only [putAll, Act.put, sA_, sZ_, sS_]) (hCont (.slice Ao31 t606.length co31, v614, v617, v620, gb622) _ ⟨hHeld, (rk_ HO605.out), (rk_ HO608.out), (rk_ HO615.out), (rk_ HO618.out), (rk_ HO621.out), (bk_ BK598.out), (bk_ BK622.out), GW622.out, GE622.out, NB598_622.out, NB622_598.out, bh_⟩)
     ·skip
      refine box_step ?hg (N := 8) ?hd (cs := #[.int .i64 0, .int .i64 0, .int .i64 0, .string (⟨#[]⟩ : ByteArray), .slice none 0 0, .slice none 0 0, .slice none 0 0]) (t := 42) ?hr ?_; (case hd => rfl); (case hg => rfl); (case hr => first | (go_simp; done) | (go_simp; rfl))
      intro gb622 hg w31 hbox hb
      have n0_ := Aside0.mk (Kd.R_below (rk_ HO605.out) hb)
      have n1_ := Aside0.mk (Kd.R_below (rk_ HO608.out) hb)
      have n2_ := Aside0.mk (blk_below (g := gb598) (o := .cells #[.int .i64 a0_0, .slice A0_1 l0_1.length c0_1, .slice A0_2 l0_2.length c0_2] 36 (0, 0)) (bk_ BK598.out) hb)
      have n3_ := bt_ hb
      have n4_ := Aside0.mk (hbox)
      have n5_ := Aside0.mk ((by rw [hg]; exact bz_ : w.heap.size ≤ gb622))
      have n6_ := Aside0.mk ((by rw [hg]; exact bz_ : w.heap.size ≤ gb622))
      have n7_ := Aside0.mk ((by rw [hg]; exact Nat.ne_of_lt (blk_lt (g := gb598) (o := .cells #[.int .i64 a0_0, .slice A0_1 l0_1.length c0_1, .slice A0_2 l0_2.length c0_2] 36 (0, 0)) (bk_ BK598.out)) : gb598 ≠ gb622))
      have n8_ := Aside0.mk ((by rw [hg]; exact Nat.ne_of_gt (blk_lt (g := gb598) (o := .cells #[.int .i64 a0_0, .slice A0_1 l0_1.length c0_1, .slice A0_2 l0_2.length c0_2] 36 (0, 0)) (bk_ BK598.out)) : gb622 ≠ gb598))
      clear HO605
      clear HO608
      clear BK598
      clear HB
      have HO605 := n0_
      have HO608 := n1_
      have BK598 := n2_
      have HB := n3_
      have BK622 := n4_
      have GW622 := n5_
      have GE622 := n6_
      have NB598_622 := n7_
      have NB622_598 := n8_
      clear n0_ n1_ n2_ n3_ n4_ n5_ n6_ n7_ n8_
      clear hb hbox hg
      obtain ⟨Ao32, co32, eo32⟩ := Kd.R_slice HO608.out
      (first | subst eo32 | (injection eo32 with f1_ f2_ f3_; have f4_ := f1_.symm; have f5_ := f3_.symm; clear f1_ f2_ f3_; subst f4_; subst f5_))
      refine hK.out _ _ (by first | exact ⟨(blk_cell BK598.out 0).trans rfl, (blk_cell BK598.out 1).trans rfl, (blk_cell BK598.out 2).trans rfl⟩ | exact hHeld) (fun hHeld => ?_)
      clear hK K
      refine norm_ (a' := ?_) ?_ ?_
      rotate_left
      ·show Act.put _ (some 8) _ = _
       simp only [Act.put, sA_, sZ_, sS_, i64_w, i32_w]
       rfl
      refine one_ (i := 3) (N := some 35) (bf_ 6 31) rfl rfl (by kernel_rfl) (by decide) (fun K hK => ?_)
      refine goes_ Try.func17 (by kernel_rfl) rfl #[.agg #[.int .i64 a0_0, .slice A0_1 l0_1.length c0_1, .slice A0_2 l0_2.length c0_2], .slice Ao32 t606.length co32] (by rfl) rfl rfl (by (try simp only [List.map_toArray, List.map_cons, List.map_nil]); first | done | rfl | (simp only [List.length_drop, List.length_take]; rfl)) ?_
      with_reducible refine (occurrence_Resolve.calls a0_0 _ _ l0_1 _ _ l0_2 _ _ t606 t609 t610 t611 t612 t613 t616 t619 _ ?side1 ?side2 ?side3 ?side4 ?side5 ?side6 A25.out).mono ?_
      (case side1 => repeat (first | exact (Kd.C_below HR0_1.out HB.out) | (with_reducible refine Kd.C_alloc ?_ _) | (with_reducible refine Kd.C_drewN ?_ _) | (with_reducible refine Kd.C_drew ?_)))
      (case side2 => exact HC0_1.out)
      (case side3 => repeat (first | exact (Kd.C_below HR0_2.out HB.out) | (with_reducible refine Kd.C_alloc ?_ _) | (with_reducible refine Kd.C_drewN ?_ _) | (with_reducible refine Kd.C_drew ?_)))
      (case side4 => exact HC0_2.out)
      (case side5 => repeat (first | exact (Kd.R_reads' HO608.out).2.2 | (with_reducible refine Kd.C_alloc ?_ _) | (with_reducible refine Kd.C_drewN ?_ _) | (with_reducible refine Kd.C_drew ?_)))
      (case side6 => exact (Kd.R_reads' HO608.out).2.1)
      rintro e w33 ⟨v614, v617, v620, rfl, ho0, ho1, ho2, hb⟩
      refine ⟨_, rfl, ?_⟩
      have n0_ := Aside0.mk (Kd.R_below (rk_ HO605.out) hb)
      have n1_ := Aside0.mk (Kd.R_below (rk_ HO608.out) hb)
      have n2_ := Aside0.mk (Kd.R_lower ho0 bz_)
      have n3_ := Aside0.mk (Kd.R_lower ho1 bz_)
      have n4_ := Aside0.mk (Kd.R_lower ho2 bz_)
      have n5_ := Aside0.mk (blk_below (g := gb598) (o := .cells #[.int .i64 a0_0, .slice A0_1 l0_1.length c0_1, .slice A0_2 l0_2.length c0_2] 36 (0, 0)) (bk_ BK598.out) hb)
      have n6_ := Aside0.mk (blk_below (g := gb622) (o := .cells #[.int .i64 0, .int .i64 0, .int .i64 0, .string (⟨#[]⟩ : ByteArray), .slice none 0 0, .slice none 0 0, .slice none 0 0] 42 (0, 0)) (bk_ BK622.out) hb)
      have n7_ := bt_ hb
      clear HO605
      clear HO608
      clear BK598
      clear BK622
      clear HB
      have HO605 := n0_
      have HO608 := n1_
      have HO615 := n2_
      have HO618 := n3_
      have HO621 := n4_
      have BK598 := n5_
      have BK622 := n6_
      have HB := n7_
      clear n0_ n1_ n2_ n3_ n4_ n5_ n6_ n7_
      (try clear hb)
      (try clear hb2)
      (try clear hk)
      (try clear hi)
      (try clear ho0)
      (try clear ho1)
      (try clear ho2)
      refine hK.out _ _ (by first | exact ⟨(blk_cell BK598.out 0).trans rfl, (blk_cell BK598.out 1).trans rfl, (blk_cell BK598.out 2).trans rfl⟩ | exact hHeld) (fun hHeld => ?_)
      clear hK K
      refine norm_ (a' := ?_) ?_ ?_
      rotate_left
      ·show Act.put _ (some 35) _ = _
       simp only [Act.put, sA_, sZ_, sS_, i64_w, i32_w]
       rfl
      exact norm_ (by simp only [putAll, Act.put, sA_, sZ_, sS_]) (hCont (.slice Ao32 t606.length co32, v614, v617, v620, gb622) _ ⟨hHeld, (rk_ HO605.out), (rk_ HO608.out), (rk_ HO615.out), (rk_ HO618.out), (rk_ HO621.out), (bk_ BK598.out), (bk_ BK622.out), GW622.out, GE622.out, NB598_622.out, NB622_598.out, bh_⟩)
    ·skip
     refine box_step ?hg (N := 8) ?hd (cs := #[.int .i64 0, .int .i64 0, .int .i64 0, .string (⟨#[]⟩ : ByteArray), .slice none 0 0, .slice none 0 0, .slice none 0 0]) (t := 42) ?hr ?_; (case hd => rfl); (case hg => rfl); (case hr => first | (go_simp; done) | (go_simp; rfl))
     intro gb622 hg w30 hbox hb
     have n0_ := Aside0.mk (Kd.R_below (rk_ HO605.out) hb)
     have n1_ := Aside0.mk (blk_below (g := gb598) (o := .cells #[.int .i64 a0_0, .slice A0_1 l0_1.length c0_1, .slice A0_2 l0_2.length c0_2] 36 (0, 0)) (bk_ BK598.out) hb)
     have n2_ := bt_ hb
     have n3_ := Aside0.mk (hbox)
     have n4_ := Aside0.mk ((by rw [hg]; exact bz_ : w.heap.size ≤ gb622))
     have n5_ := Aside0.mk ((by rw [hg]; exact bz_ : w.heap.size ≤ gb622))
     have n6_ := Aside0.mk ((by rw [hg]; exact Nat.ne_of_lt (blk_lt (g := gb598) (o := .cells #[.int .i64 a0_0, .slice A0_1 l0_1.length c0_1, .slice A0_2 l0_2.length c0_2] 36 (0, 0)) (bk_ BK598.out)) : gb598 ≠ gb622))
     have n7_ := Aside0.mk ((by rw [hg]; exact Nat.ne_of_gt (blk_lt (g := gb598) (o := .cells #[.int .i64 a0_0, .slice A0_1 l0_1.length c0_1, .slice A0_2 l0_2.length c0_2] 36 (0, 0)) (bk_ BK598.out)) : gb622 ≠ gb598))
     clear HO605
     clear BK598
     clear HB
     have HO605 := n0_
     have BK598 := n1_
     have HB := n2_
     have BK622 := n3_
     have GW622 := n4_
     have GE622 := n5_
     have NB598_622 := n6_
     have NB622_598 := n7_
     clear n0_ n1_ n2_ n3_ n4_ n5_ n6_ n7_
     clear hb hbox hg
     refine hK.out _ _ (by first | exact ⟨(blk_cell BK598.out 0).trans rfl, (blk_cell BK598.out 1).trans rfl, (blk_cell BK598.out 2).trans rfl⟩ | exact hHeld) (fun hHeld => ?_)
     clear hK K
     refine norm_ (a' := ?_) ?_ ?_
     rotate_left
     ·show Act.put _ (some 8) _ = _
      simp only [Act.put, sA_, sZ_, sS_, i64_w, i32_w]
      rfl
     refine one_ (i := 2) (N := some 34) (bf_ 6 23) rfl rfl (by kernel_rfl) (by decide) (fun K hK => ?_)
     refine goes_ Try.func18 (by kernel_rfl) rfl #[.slice Ao28 t603.length co28] (by rfl) rfl rfl (by (try simp only [List.map_toArray, List.map_cons, List.map_nil]); first | done | rfl | (simp only [List.length_drop, List.length_take]; rfl)) ?_
     with_reducible refine (computuslaw21_forward.calls kj3 _ _ t603 t606 _ ?side1 ?side2 A24.out).mono ?_
     (case side1 => repeat (first | exact (Kd.R_reads' HO605.out).2.2 | (with_reducible refine Kd.C_alloc ?_ _) | (with_reducible refine Kd.C_drewN ?_ _) | (with_reducible refine Kd.C_drew ?_)))
     (case side2 => exact (Kd.R_reads' HO605.out).2.1)
     rintro e w31 ⟨v607, rfl, ho0, hb⟩
     refine ⟨_, rfl, ?_⟩
     have n0_ := Aside0.mk (Kd.R_below (rk_ HO605.out) hb)
     have n1_ := Aside0.mk (Kd.R_lower ho0 bz_)
     have n2_ := Aside0.mk (blk_below (g := gb598) (o := .cells #[.int .i64 a0_0, .slice A0_1 l0_1.length c0_1, .slice A0_2 l0_2.length c0_2] 36 (0, 0)) (bk_ BK598.out) hb)
     have n3_ := Aside0.mk (blk_below (g := gb622) (o := .cells #[.int .i64 0, .int .i64 0, .int .i64 0, .string (⟨#[]⟩ : ByteArray), .slice none 0 0, .slice none 0 0, .slice none 0 0] 42 (0, 0)) (bk_ BK622.out) hb)
     have n4_ := bt_ hb
     clear HO605
     clear BK598
     clear BK622
     clear HB
     have HO605 := n0_
     have HO608 := n1_
     have BK598 := n2_
     have BK622 := n3_
     have HB := n4_
     clear n0_ n1_ n2_ n3_ n4_
     (try clear hb)
     (try clear hb2)
     (try clear hk)
     (try clear hi)
     (try clear ho0)
     obtain ⟨Ao32, co32, eo32⟩ := Kd.R_slice HO608.out
     (first | subst eo32 | (injection eo32 with f1_ f2_ f3_; have f4_ := f1_.symm; have f5_ := f3_.symm; clear f1_ f2_ f3_; subst f4_; subst f5_))
     refine hK.out _ _ (by first | exact ⟨(blk_cell BK598.out 0).trans rfl, (blk_cell BK598.out 1).trans rfl, (blk_cell BK598.out 2).trans rfl⟩ | exact hHeld) (fun hHeld => ?_)
     clear hK K
     refine norm_ (a' := ?_) ?_ ?_
     rotate_left
     ·show Act.put _ (some 34) _ = _
      simp only [Act.put, sA_, sZ_, sS_, i64_w, i32_w]
      rfl
     refine one_ (i := 3) (N := some 35) (bf_ 6 31) rfl rfl (by kernel_rfl) (by decide) (fun K hK => ?_)
     refine goes_ Try.func17 (by kernel_rfl) rfl #[.agg #[.int .i64 a0_0, .slice A0_1 l0_1.length c0_1, .slice A0_2 l0_2.length c0_2], .slice Ao32 t606.length co32] (by rfl) rfl rfl (by (try simp only [List.map_toArray, List.map_cons, List.map_nil]); first | done | rfl | (simp only [List.length_drop, List.length_take]; rfl)) ?_
     with_reducible refine (occurrence_Resolve.calls a0_0 _ _ l0_1 _ _ l0_2 _ _ t606 t609 t610 t611 t612 t613 t616 t619 _ ?side1 ?side2 ?side3 ?side4 ?side5 ?side6 A25.out).mono ?_
     (case side1 => repeat (first | exact (Kd.C_below HR0_1.out HB.out) | (with_reducible refine Kd.C_alloc ?_ _) | (with_reducible refine Kd.C_drewN ?_ _) | (with_reducible refine Kd.C_drew ?_)))
     (case side2 => exact HC0_1.out)
     (case side3 => repeat (first | exact (Kd.C_below HR0_2.out HB.out) | (with_reducible refine Kd.C_alloc ?_ _) | (with_reducible refine Kd.C_drewN ?_ _) | (with_reducible refine Kd.C_drew ?_)))
     (case side4 => exact HC0_2.out)
     (case side5 => repeat (first | exact (Kd.R_reads' HO608.out).2.2 | (with_reducible refine Kd.C_alloc ?_ _) | (with_reducible refine Kd.C_drewN ?_ _) | (with_reducible refine Kd.C_drew ?_)))
     (case side6 => exact (Kd.R_reads' HO608.out).2.1)
     rintro e w33 ⟨v614, v617, v620, rfl, ho0, ho1, ho2, hb⟩
     refine ⟨_, rfl, ?_⟩
     have n0_ := Aside0.mk (Kd.R_below (rk_ HO605.out) hb)
     have n1_ := Aside0.mk (Kd.R_below (rk_ HO608.out) hb)
     have n2_ := Aside0.mk (Kd.R_lower ho0 bz_)
     have n3_ := Aside0.mk (Kd.R_lower ho1 bz_)
     have n4_ := Aside0.mk (Kd.R_lower ho2 bz_)
     have n5_ := Aside0.mk (blk_below (g := gb598) (o := .cells #[.int .i64 a0_0, .slice A0_1 l0_1.length c0_1, .slice A0_2 l0_2.length c0_2] 36 (0, 0)) (bk_ BK598.out) hb)
     have n6_ := Aside0.mk (blk_below (g := gb622) (o := .cells #[.int .i64 0, .int .i64 0, .int .i64 0, .string (⟨#[]⟩ : ByteArray), .slice none 0 0, .slice none 0 0, .slice none 0 0] 42 (0, 0)) (bk_ BK622.out) hb)
     have n7_ := bt_ hb
     clear HO605
     clear HO608
     clear BK598
     clear BK622
     clear HB
     have HO605 := n0_
     have HO608 := n1_
     have HO615 := n2_
     have HO618 := n3_
     have HO621 := n4_
     have BK598 := n5_
     have BK622 := n6_
     have HB := n7_
     clear n0_ n1_ n2_ n3_ n4_ n5_ n6_ n7_
     (try clear hb)
     (try clear hb2)
     (try clear hk)
     (try clear hi)
     (try clear ho0)
     (try clear ho1)
     (try clear ho2)
     refine hK.out _ _ (by first | exact ⟨(blk_cell BK598.out 0).trans rfl, (blk_cell BK598.out 1).trans rfl, (blk_cell BK598.out 2).trans rfl⟩ | exact hHeld) (fun hHeld => ?_)
     clear hK K
     refine norm_ (a' := ?_) ?_ ?_
     rotate_left
     ·show Act.put _ (some 35) _ = _
      simp only [Act.put, sA_, sZ_, sS_, i64_w, i32_w]
      rfl
     exact norm_ (by simp only [putAll, Act.put, sA_, sZ_, sS_]) (hCont (.slice Ao32 t606.length co32, v614, v617, v620, gb622) _ ⟨hHeld, (rk_ HO605.out), (rk_ HO608.out), (rk_ HO615.out), (rk_ HO618.out), (rk_ HO621.out), (bk_ BK598.out), (bk_ BK622.out), GW622.out, GE622.out, NB598_622.out, NB622_598.out, bh_⟩)
   rintro ⟨v607, v614, v617, v620, gb622⟩ w34 ⟨hS_, h0_, h1_, h2_, h3_, h4_, h5_, h6_, h7_, h8_, h9_, h10_, h11_⟩
   have n0_ : Aside0 (Kd.R k44 44 w34 w.heap.size (fun _ => True) (.slice Ao28 t603.length co28) t603) := ⟨h0_⟩
   have n1_ : Aside0 (Kd.R k28 28 w34 w.heap.size (fun _ => True) v607 t606) := ⟨h1_⟩
   have n2_ : Aside0 (Kd.R (Kd.int .i64) 3 w34 w.heap.size (fun k_ => some k_ ≠ (v617 : Value).ownBlock ∧ some k_ ≠ (v620 : Value).ownBlock) v614 t613) := ⟨h2_⟩
   have n3_ : Aside0 (Kd.R (Kd.int .i64) 3 w34 w.heap.size (fun k_ => some k_ ≠ (v614 : Value).ownBlock ∧ some k_ ≠ (v620 : Value).ownBlock) v617 t616) := ⟨h3_⟩
   have n4_ : Aside0 (Kd.R (Kd.int .i64) 3 w34 w.heap.size (fun k_ => some k_ ≠ (v614 : Value).ownBlock ∧ some k_ ≠ (v617 : Value).ownBlock) v620 t619) := ⟨h4_⟩
   have n5_ : Aside0 (w34.heap[gb598]? = some (.cells #[.int .i64 a0_0, .slice A0_1 l0_1.length c0_1, .slice A0_2 l0_2.length c0_2] 36 (0, 0))) := ⟨h5_⟩
   have n6_ : Aside0 (w34.heap[gb622]? = some (.cells #[.int .i64 0, .int .i64 0, .int .i64 0, .string (⟨#[]⟩ : ByteArray), .slice none 0 0, .slice none 0 0, .slice none 0 0] 42 (0, 0))) := ⟨h6_⟩
   have n7_ : Aside0 (w.heap.size ≤ gb622) := ⟨h7_⟩
   have n8_ : Aside0 (w.heap.size ≤ gb622) := ⟨h8_⟩
   have n9_ : Aside0 (gb598 ≠ gb622) := ⟨h9_⟩
   have n10_ : Aside0 (gb622 ≠ gb598) := ⟨h10_⟩
   have n11_ : Aside0 (Below w.heap.size w w34) := ⟨h11_⟩
   clear HO605
   clear BK598
   clear HB
   clear h0_ h1_ h2_ h3_ h4_ h5_ h6_ h7_ h8_ h9_ h10_ h11_
   have HO605 := n0_
   have HO608 := n1_
   have HO615 := n2_
   have HO618 := n3_
   have HO621 := n4_
   have BK598 := n5_
   have BK622 := n6_
   have GW622 := n7_
   have GE622 := n8_
   have NB598_622 := n9_
   have NB622_598 := n10_
   have HB := n11_
   clear n0_ n1_ n2_ n3_ n4_ n5_ n6_ n7_ n8_ n9_ n10_ n11_
   have hHeld : w34.cell? ⟨gb598, 0, none⟩ = some (.int .i64 a0_0) ∧ w34.cell? ⟨gb598, 1, none⟩ = some (.slice A0_1 l0_1.length c0_1) ∧ w34.cell? ⟨gb598, 2, none⟩ = some (.slice A0_2 l0_2.length c0_2) := hS_
   obtain ⟨Ao39, co39, eo39⟩ := Kd.R_slice HO615.out
   (first | subst eo39 | (injection eo39 with f1_ f2_ f3_; have f4_ := f1_.symm; have f5_ := f3_.symm; clear f1_ f2_ f3_; subst f4_; subst f5_))
   obtain ⟨Ao41, co41, eo41⟩ := Kd.R_slice HO618.out
   (first | subst eo41 | (injection eo41 with f1_ f2_ f3_; have f4_ := f1_.symm; have f5_ := f3_.symm; clear f1_ f2_ f3_; subst f4_; subst f5_))
   obtain ⟨Ao43, co43, eo43⟩ := Kd.R_slice HO621.out
   (first | subst eo43 | (injection eo43 with f1_ f2_ f3_; have f4_ := f1_.symm; have f5_ := f3_.symm; clear f1_ f2_ f3_; subst f4_; subst f5_))
   refine norm_ (a' := ?_) ?_ ?_
   rotate_left
   ·simp only [putAll, Act.put, sA_, sZ_, sS_]
    rfl
   refine one_ (i := 5) (N := none) (bf_ 6 63) rfl rfl (by kernel_rfl) (by decide) (fun K hK => ?_)
   have hs35 : w34.cell? ⟨gb622, 0, none⟩ = some (.int .i64 0) := (blk_cell BK622.out 0).trans rfl
   have hfs35 := blk_frozen BK622.out 0
   have hns35_0 := NB598_622.out
   have hms35_0 := NB622_598.out
   have hs36 : w34.cell? ⟨gb622, 1, none⟩ = some (.int .i64 0) := (blk_cell BK622.out 1).trans rfl
   have hfs36 := blk_frozen BK622.out 1
   have hns36_0 := NB598_622.out
   have hms36_0 := NB622_598.out
   have hs37 : w34.cell? ⟨gb622, 2, none⟩ = some (.int .i64 0) := (blk_cell BK622.out 2).trans rfl
   have hfs37 := blk_frozen BK622.out 2
   have hns37_0 := NB598_622.out
   have hms37_0 := NB622_598.out
   have hs38 : w34.cell? ⟨gb622, 3, none⟩ = some (.string (⟨#[]⟩ : ByteArray)) := (blk_cell BK622.out 3).trans rfl
   have hfs38 := blk_frozen BK622.out 3
   have hns38_0 := NB598_622.out
   have hms38_0 := NB622_598.out
   have hs40 : w34.cell? ⟨gb622, 4, none⟩ = some (.slice none 0 0) := (blk_cell BK622.out 4).trans rfl
   have hfs40 := blk_frozen BK622.out 4
   have hns40_0 := NB598_622.out
   have hms40_0 := NB622_598.out
   have hs42 : w34.cell? ⟨gb622, 5, none⟩ = some (.slice none 0 0) := (blk_cell BK622.out 5).trans rfl
   have hfs42 := blk_frozen BK622.out 5
   have hns42_0 := NB598_622.out
   have hms42_0 := NB622_598.out
   have hs44 : w34.cell? ⟨gb622, 6, none⟩ = some (.slice none 0 0) := (blk_cell BK622.out 6).trans rfl
   have hfs44 := blk_frozen BK622.out 6
   have hns44_0 := NB598_622.out
   have hms44_0 := NB622_598.out
   refine skip_ (w1 := ?_) (by rfl) rfl ?_ ?_
   rotate_left
   ·go_simp
    rfl
   refine hK.out _ _ ⟨((cell_far (p := ⟨gb622, _, none⟩) NB598_622.out _).trans (((cell_far (p := ⟨gb622, _, none⟩) NB598_622.out _).trans (((cell_far (p := ⟨gb622, _, none⟩) NB598_622.out _).trans (((cell_far (p := ⟨gb622, _, none⟩) NB598_622.out _).trans (((cell_far (p := ⟨gb622, _, none⟩) NB598_622.out _).trans (((cell_far (p := ⟨gb622, _, none⟩) NB598_622.out _).trans (((cell_far (p := ⟨gb622, _, none⟩) NB598_622.out _).trans (hHeld.1)))))))))))))), ((cell_far (p := ⟨gb622, _, none⟩) NB598_622.out _).trans (((cell_far (p := ⟨gb622, _, none⟩) NB598_622.out _).trans (((cell_far (p := ⟨gb622, _, none⟩) NB598_622.out _).trans (((cell_far (p := ⟨gb622, _, none⟩) NB598_622.out _).trans (((cell_far (p := ⟨gb622, _, none⟩) NB598_622.out _).trans (((cell_far (p := ⟨gb622, _, none⟩) NB598_622.out _).trans (((cell_far (p := ⟨gb622, _, none⟩) NB598_622.out _).trans (hHeld.2.1)))))))))))))), ((cell_far (p := ⟨gb622, _, none⟩) NB598_622.out _).trans (((cell_far (p := ⟨gb622, _, none⟩) NB598_622.out _).trans (((cell_far (p := ⟨gb622, _, none⟩) NB598_622.out _).trans (((cell_far (p := ⟨gb622, _, none⟩) NB598_622.out _).trans (((cell_far (p := ⟨gb622, _, none⟩) NB598_622.out _).trans (((cell_far (p := ⟨gb622, _, none⟩) NB598_622.out _).trans (((cell_far (p := ⟨gb622, _, none⟩) NB598_622.out _).trans (hHeld.2.2))))))))))))))⟩ (fun hHeld => ?_)
   clear hK K
   refine done_ (by kernel_rfl) ?_
   have hnb45 := NB622_598.out
   have hnc45 := NB598_622.out
   obtain ⟨hcz46_0, hcz46_1, hcz46_2, hcz46_3, hcz46_4, hcz46_5, hcz46_6⟩ := cz7_ BK622.out
   obtain ⟨hfz46_0, hfz46_1, hfz46_2, hfz46_3, hfz46_4, hfz46_5, hfz46_6⟩ := fz7_ BK622.out
   try go_wp2_with (first | ((with_reducible refine gate_dst (N := 9) rfl ?_); (try (refine gate_guard (by rfl) ?_; dsimp only)); refine box_event ?hg (N := 9) ?hd (cs := #[.int .i64 0, .int .i64 0, .int .i64 0, .string (⟨#[]⟩ : ByteArray)]) (t := 44) ?hr ?_; (case hd => rfl); (case hg => rfl); (case hr => first | (go_simp; done) | (go_simp; rfl)); intro gb623 hg w47 hbox hb; have n0_ := Aside0.mk (Kd.R_below (Kd.R_elderB (by (with_reducible repeat (first | apply Kd.R_alloc | apply Kd.R_drewN | apply Kd.R_drew)); exact (Kd.R_mono (Kd.R_far (p := ⟨gb622, 6, none⟩) (Kd.R_far (p := ⟨gb622, 5, none⟩) (Kd.R_far (p := ⟨gb622, 4, none⟩) (Kd.R_far (p := ⟨gb622, 3, none⟩) (Kd.R_far (p := ⟨gb622, 2, none⟩) (Kd.R_far (p := ⟨gb622, 1, none⟩) (Kd.R_far (p := ⟨gb622, 0, none⟩) (Kd.R_types HO605.out BK622.out (by decide)) (fun _ hk => hk.2) (.int .i64 t609)) (fun _ hk => hk.2) (.int .i64 t610)) (fun _ hk => hk.2) (.int .i64 t611)) (fun _ hk => hk.2) (.string t612)) (fun _ hk => hk.2) (.slice Ao39 t613.length co39)) (fun _ hk => hk.2) (.slice Ao41 t616.length co41)) (fun _ hk => hk.2) (.slice Ao43 t619.length co43)) (fun _ h_ => h_.1))) gb623 (Nat.le_of_eq hg.symm)) hb); have n1_ := Aside0.mk (Kd.R_below (by (with_reducible repeat (first | apply Kd.R_alloc | apply Kd.R_drewN | apply Kd.R_drew)); exact (Kd.R_mono (Kd.R_far (p := ⟨gb622, 6, none⟩) (Kd.R_far (p := ⟨gb622, 5, none⟩) (Kd.R_far (p := ⟨gb622, 4, none⟩) (Kd.R_far (p := ⟨gb622, 3, none⟩) (Kd.R_far (p := ⟨gb622, 2, none⟩) (Kd.R_far (p := ⟨gb622, 1, none⟩) (Kd.R_far (p := ⟨gb622, 0, none⟩) (Kd.R_types HO608.out BK622.out (by decide)) (fun _ hk => hk.2) (.int .i64 t609)) (fun _ hk => hk.2) (.int .i64 t610)) (fun _ hk => hk.2) (.int .i64 t611)) (fun _ hk => hk.2) (.string t612)) (fun _ hk => hk.2) (.slice Ao39 t613.length co39)) (fun _ hk => hk.2) (.slice Ao41 t616.length co41)) (fun _ hk => hk.2) (.slice Ao43 t619.length co43)) (fun _ h_ => h_.1))) hb); have n2_ := Aside0.mk (Kd.R_below (by (with_reducible repeat (first | apply Kd.R_alloc | apply Kd.R_drewN | apply Kd.R_drew)); exact (Kd.R_mono (Kd.R_far (p := ⟨gb622, 6, none⟩) (Kd.R_far (p := ⟨gb622, 5, none⟩) (Kd.R_far (p := ⟨gb622, 4, none⟩) (Kd.R_far (p := ⟨gb622, 3, none⟩) (Kd.R_far (p := ⟨gb622, 2, none⟩) (Kd.R_far (p := ⟨gb622, 1, none⟩) (Kd.R_far (p := ⟨gb622, 0, none⟩) (Kd.R_types HO615.out BK622.out (by decide)) (fun _ hk => hk.2) (.int .i64 t609)) (fun _ hk => hk.2) (.int .i64 t610)) (fun _ hk => hk.2) (.int .i64 t611)) (fun _ hk => hk.2) (.string t612)) (fun _ hk => hk.2) (.slice Ao39 t613.length co39)) (fun _ hk => hk.2) (.slice Ao41 t616.length co41)) (fun _ hk => hk.2) (.slice Ao43 t619.length co43)) (fun _ h_ => h_.1))) hb); have n3_ := Aside0.mk (Kd.R_below (by (with_reducible repeat (first | apply Kd.R_alloc | apply Kd.R_drewN | apply Kd.R_drew)); exact (Kd.R_mono (Kd.R_far (p := ⟨gb622, 6, none⟩) (Kd.R_far (p := ⟨gb622, 5, none⟩) (Kd.R_far (p := ⟨gb622, 4, none⟩) (Kd.R_far (p := ⟨gb622, 3, none⟩) (Kd.R_far (p := ⟨gb622, 2, none⟩) (Kd.R_far (p := ⟨gb622, 1, none⟩) (Kd.R_far (p := ⟨gb622, 0, none⟩) (Kd.R_types HO618.out BK622.out (by decide)) (fun _ hk => hk.2) (.int .i64 t609)) (fun _ hk => hk.2) (.int .i64 t610)) (fun _ hk => hk.2) (.int .i64 t611)) (fun _ hk => hk.2) (.string t612)) (fun _ hk => hk.2) (.slice Ao39 t613.length co39)) (fun _ hk => hk.2) (.slice Ao41 t616.length co41)) (fun _ hk => hk.2) (.slice Ao43 t619.length co43)) (fun _ h_ => h_.1))) hb); have n4_ := Aside0.mk (Kd.R_below (by (with_reducible repeat (first | apply Kd.R_alloc | apply Kd.R_drewN | apply Kd.R_drew)); exact (Kd.R_mono (Kd.R_far (p := ⟨gb622, 6, none⟩) (Kd.R_far (p := ⟨gb622, 5, none⟩) (Kd.R_far (p := ⟨gb622, 4, none⟩) (Kd.R_far (p := ⟨gb622, 3, none⟩) (Kd.R_far (p := ⟨gb622, 2, none⟩) (Kd.R_far (p := ⟨gb622, 1, none⟩) (Kd.R_far (p := ⟨gb622, 0, none⟩) (Kd.R_types HO621.out BK622.out (by decide)) (fun _ hk => hk.2) (.int .i64 t609)) (fun _ hk => hk.2) (.int .i64 t610)) (fun _ hk => hk.2) (.int .i64 t611)) (fun _ hk => hk.2) (.string t612)) (fun _ hk => hk.2) (.slice Ao39 t613.length co39)) (fun _ hk => hk.2) (.slice Ao41 t616.length co41)) (fun _ hk => hk.2) (.slice Ao43 t619.length co43)) (fun _ h_ => h_.1))) hb); have n5_ := Aside0.mk (blk_below (g := gb598) (o := .cells #[.int .i64 a0_0, .slice A0_1 l0_1.length c0_1, .slice A0_2 l0_2.length c0_2] 36 (0, 0)) (by refine bp_ ?_; refine blk_far ?_ NB598_622.out _; refine bp_ ?_; refine blk_far ?_ NB598_622.out _; refine bp_ ?_; refine blk_far ?_ NB598_622.out _; refine bp_ ?_; refine blk_far ?_ NB598_622.out _; refine bp_ ?_; refine blk_far ?_ NB598_622.out _; refine bp_ ?_; refine blk_far ?_ NB598_622.out _; refine bp_ ?_; refine blk_far ?_ NB598_622.out _; exact bk_ BK598.out) hb); have n6_ := Aside0.mk (blk_below (g := gb622) (o := .cells #[.int .i64 t609, .int .i64 t610, .int .i64 t611, .string t612, .slice Ao39 t613.length co39, .slice Ao41 t616.length co41, .slice Ao43 t619.length co43] 42 (0, 0)) (by refine bp_ ?_; refine blk_put (cs := #[.int .i64 t609, .int .i64 t610, .int .i64 t611, .string t612, .slice Ao39 t613.length co39, .slice Ao41 t616.length co41, .slice none 0 0]) ?_ 6 _ rfl; refine bp_ ?_; refine blk_put (cs := #[.int .i64 t609, .int .i64 t610, .int .i64 t611, .string t612, .slice Ao39 t613.length co39, .slice none 0 0, .slice none 0 0]) ?_ 5 _ rfl; refine bp_ ?_; refine blk_put (cs := #[.int .i64 t609, .int .i64 t610, .int .i64 t611, .string t612, .slice none 0 0, .slice none 0 0, .slice none 0 0]) ?_ 4 _ rfl; refine bp_ ?_; refine blk_put (cs := #[.int .i64 t609, .int .i64 t610, .int .i64 t611, .string (⟨#[]⟩ : ByteArray), .slice none 0 0, .slice none 0 0, .slice none 0 0]) ?_ 3 _ rfl; refine bp_ ?_; refine blk_put (cs := #[.int .i64 t609, .int .i64 t610, .int .i64 0, .string (⟨#[]⟩ : ByteArray), .slice none 0 0, .slice none 0 0, .slice none 0 0]) ?_ 2 _ rfl; refine bp_ ?_; refine blk_put (cs := #[.int .i64 t609, .int .i64 0, .int .i64 0, .string (⟨#[]⟩ : ByteArray), .slice none 0 0, .slice none 0 0, .slice none 0 0]) ?_ 1 _ rfl; refine bp_ ?_; refine blk_put (cs := #[.int .i64 0, .int .i64 0, .int .i64 0, .string (⟨#[]⟩ : ByteArray), .slice none 0 0, .slice none 0 0, .slice none 0 0]) ?_ 0 _ rfl; exact bk_ BK622.out) hb); have n7_ := bt_ hb; have n8_ := Aside0.mk (hbox); have n9_ := Aside0.mk ((by rw [hg]; exact bz_ : w.heap.size ≤ gb623)); have n10_ := Aside0.mk ((by rw [hg]; exact bz_ : w.heap.size ≤ gb623)); have n11_ := Aside0.mk ((by rw [hg]; exact Nat.ne_of_lt (blk_lt (g := gb598) (o := .cells #[.int .i64 a0_0, .slice A0_1 l0_1.length c0_1, .slice A0_2 l0_2.length c0_2] 36 (0, 0)) (by refine bp_ ?_; refine blk_far ?_ NB598_622.out _; refine bp_ ?_; refine blk_far ?_ NB598_622.out _; refine bp_ ?_; refine blk_far ?_ NB598_622.out _; refine bp_ ?_; refine blk_far ?_ NB598_622.out _; refine bp_ ?_; refine blk_far ?_ NB598_622.out _; refine bp_ ?_; refine blk_far ?_ NB598_622.out _; refine bp_ ?_; refine blk_far ?_ NB598_622.out _; exact bk_ BK598.out)) : gb598 ≠ gb623)); have n12_ := Aside0.mk ((by rw [hg]; exact Nat.ne_of_gt (blk_lt (g := gb598) (o := .cells #[.int .i64 a0_0, .slice A0_1 l0_1.length c0_1, .slice A0_2 l0_2.length c0_2] 36 (0, 0)) (by refine bp_ ?_; refine blk_far ?_ NB598_622.out _; refine bp_ ?_; refine blk_far ?_ NB598_622.out _; refine bp_ ?_; refine blk_far ?_ NB598_622.out _; refine bp_ ?_; refine blk_far ?_ NB598_622.out _; refine bp_ ?_; refine blk_far ?_ NB598_622.out _; refine bp_ ?_; refine blk_far ?_ NB598_622.out _; refine bp_ ?_; refine blk_far ?_ NB598_622.out _; exact bk_ BK598.out)) : gb623 ≠ gb598)); have n13_ := Aside0.mk ((by rw [hg]; exact Nat.ne_of_lt (blk_lt (g := gb622) (o := .cells #[.int .i64 t609, .int .i64 t610, .int .i64 t611, .string t612, .slice Ao39 t613.length co39, .slice Ao41 t616.length co41, .slice Ao43 t619.length co43] 42 (0, 0)) (by refine bp_ ?_; refine blk_put (cs := #[.int .i64 t609, .int .i64 t610, .int .i64 t611, .string t612, .slice Ao39 t613.length co39, .slice Ao41 t616.length co41, .slice none 0 0]) ?_ 6 _ rfl; refine bp_ ?_; refine blk_put (cs := #[.int .i64 t609, .int .i64 t610, .int .i64 t611, .string t612, .slice Ao39 t613.length co39, .slice none 0 0, .slice none 0 0]) ?_ 5 _ rfl; refine bp_ ?_; refine blk_put (cs := #[.int .i64 t609, .int .i64 t610, .int .i64 t611, .string t612, .slice none 0 0, .slice none 0 0, .slice none 0 0]) ?_ 4 _ rfl; refine bp_ ?_; refine blk_put (cs := #[.int .i64 t609, .int .i64 t610, .int .i64 t611, .string (⟨#[]⟩ : ByteArray), .slice none 0 0, .slice none 0 0, .slice none 0 0]) ?_ 3 _ rfl; refine bp_ ?_; refine blk_put (cs := #[.int .i64 t609, .int .i64 t610, .int .i64 0, .string (⟨#[]⟩ : ByteArray), .slice none 0 0, .slice none 0 0, .slice none 0 0]) ?_ 2 _ rfl; refine bp_ ?_; refine blk_put (cs := #[.int .i64 t609, .int .i64 0, .int .i64 0, .string (⟨#[]⟩ : ByteArray), .slice none 0 0, .slice none 0 0, .slice none 0 0]) ?_ 1 _ rfl; refine bp_ ?_; refine blk_put (cs := #[.int .i64 0, .int .i64 0, .int .i64 0, .string (⟨#[]⟩ : ByteArray), .slice none 0 0, .slice none 0 0, .slice none 0 0]) ?_ 0 _ rfl; exact bk_ BK622.out)) : gb622 ≠ gb623)); have n14_ := Aside0.mk ((by rw [hg]; exact Nat.ne_of_gt (blk_lt (g := gb622) (o := .cells #[.int .i64 t609, .int .i64 t610, .int .i64 t611, .string t612, .slice Ao39 t613.length co39, .slice Ao41 t616.length co41, .slice Ao43 t619.length co43] 42 (0, 0)) (by refine bp_ ?_; refine blk_put (cs := #[.int .i64 t609, .int .i64 t610, .int .i64 t611, .string t612, .slice Ao39 t613.length co39, .slice Ao41 t616.length co41, .slice none 0 0]) ?_ 6 _ rfl; refine bp_ ?_; refine blk_put (cs := #[.int .i64 t609, .int .i64 t610, .int .i64 t611, .string t612, .slice Ao39 t613.length co39, .slice none 0 0, .slice none 0 0]) ?_ 5 _ rfl; refine bp_ ?_; refine blk_put (cs := #[.int .i64 t609, .int .i64 t610, .int .i64 t611, .string t612, .slice none 0 0, .slice none 0 0, .slice none 0 0]) ?_ 4 _ rfl; refine bp_ ?_; refine blk_put (cs := #[.int .i64 t609, .int .i64 t610, .int .i64 t611, .string (⟨#[]⟩ : ByteArray), .slice none 0 0, .slice none 0 0, .slice none 0 0]) ?_ 3 _ rfl; refine bp_ ?_; refine blk_put (cs := #[.int .i64 t609, .int .i64 t610, .int .i64 0, .string (⟨#[]⟩ : ByteArray), .slice none 0 0, .slice none 0 0, .slice none 0 0]) ?_ 2 _ rfl; refine bp_ ?_; refine blk_put (cs := #[.int .i64 t609, .int .i64 0, .int .i64 0, .string (⟨#[]⟩ : ByteArray), .slice none 0 0, .slice none 0 0, .slice none 0 0]) ?_ 1 _ rfl; refine bp_ ?_; refine blk_put (cs := #[.int .i64 0, .int .i64 0, .int .i64 0, .string (⟨#[]⟩ : ByteArray), .slice none 0 0, .slice none 0 0, .slice none 0 0]) ?_ 0 _ rfl; exact bk_ BK622.out)) : gb623 ≠ gb622)); clear HO605; clear HO608; clear HO615; clear HO618; clear HO621; clear BK598; clear BK622; clear HB; have HO605 := n0_; have HO608 := n1_; have HO615 := n2_; have HO618 := n3_; have HO621 := n4_; have BK598 := n5_; have BK622 := n6_; have HB := n7_; have BK623 := n8_; have GW623 := n9_; have GE623 := n10_; have NB598_623 := n11_; have NB623_598 := n12_; have NB622_623 := n13_; have NB623_622 := n14_; clear n0_ n1_ n2_ n3_ n4_ n5_ n6_ n7_ n8_ n9_ n10_ n11_ n12_ n13_ n14_; clear hb hbox hg; have hnb48 := NB623_598.out; have hnc48 := NB598_623.out; have hnb49 := NB623_622.out; have hnc49 := NB622_623.out; obtain ⟨hcz50_0, hcz50_1, hcz50_2, hcz50_3⟩ := cz4_ BK623.out; obtain ⟨hfz50_0, hfz50_1, hfz50_2, hfz50_3⟩ := fz4_ BK623.out))
   go_loopg [10, 11] kj3 (fun kq v10 v11 w' => ∃ (x10_2 : Int) (x11_2 : Int), v10 = .int .i64 x10_2 ∧ v11 = .int .i64 x11_2 ∧ Aside0 (computuslaw21_OccurrenceSplits.l0 kq t603 x10_2 x11_2 a0_0 l0_1 l0_2 t609 t610 t611 t612 t613 t616 t619 t609 t610 t611 t612 = some r) ∧ Aside0 (kq ≤ kj3) ∧ Aside0 (Kd.R k44 44 w' w.heap.size (fun k_ => k_ ≠ gb623) (.slice Ao28 t603.length co28) t603) ∧ Aside0 (Kd.R (Kd.int .i64) 3 w' w.heap.size (fun k_ => some k_ ≠ ((.slice Ao41 t616.length co41) : Value).ownBlock ∧ some k_ ≠ ((.slice Ao43 t619.length co43) : Value).ownBlock) (.slice Ao39 t613.length co39) t613) ∧ Aside0 (Kd.R (Kd.int .i64) 3 w' w.heap.size (fun k_ => some k_ ≠ ((.slice Ao39 t613.length co39) : Value).ownBlock ∧ some k_ ≠ ((.slice Ao43 t619.length co43) : Value).ownBlock) (.slice Ao41 t616.length co41) t616) ∧ Aside0 (Kd.R (Kd.int .i64) 3 w' w.heap.size (fun k_ => some k_ ≠ ((.slice Ao39 t613.length co39) : Value).ownBlock ∧ some k_ ≠ ((.slice Ao41 t616.length co41) : Value).ownBlock) (.slice Ao43 t619.length co43) t619) ∧ Aside0 (w'.heap[gb598]? = some (.cells #[.int .i64 a0_0, (.slice A0_1 l0_1.length c0_1), (.slice A0_2 l0_2.length c0_2)] 36 (0, 0))) ∧ Aside0 (w'.heap[gb622]? = some (.cells #[.int .i64 t609, .int .i64 t610, .int .i64 t611, .string t612, (.slice Ao39 t613.length co39), (.slice Ao41 t616.length co41), (.slice Ao43 t619.length co43)] 42 (0, 0))) ∧ Aside0 (w'.heap[gb623]? = some (.cells #[.int .i64 t609, .int .i64 t610, .int .i64 t611, .string t612] 44 (0, 0))) ∧ Aside0 (Below w.heap.size w w'))
   case atStart => exact ⟨(0), (0), rs_, rs_, H', ⟨Nat.le_refl _⟩, ⟨by (with_reducible repeat (first | apply Kd.R_alloc | apply Kd.R_drewN | apply Kd.R_drew)); exact Kd.R_mono (Kd.R_far (p := ⟨gb623, 3, none⟩) (Kd.R_far (p := ⟨gb623, 2, none⟩) (Kd.R_far (p := ⟨gb623, 1, none⟩) (Kd.R_far (p := ⟨gb623, 0, none⟩) (Kd.R_mono HO605.out (fun k_ hk => (⟨hk, hk.2⟩ : _ ∧ k_ ≠ gb623))) (fun _ hk => hk.2) (.int .i64 t609)) (fun _ hk => hk.2) (.int .i64 t610)) (fun _ hk => hk.2) (.int .i64 t611)) (fun _ hk => hk.2) (.string t612)) (fun _ hk => hk.1.2)⟩, ⟨by (with_reducible repeat (first | apply Kd.R_alloc | apply Kd.R_drewN | apply Kd.R_drew)); exact Kd.R_mono (Kd.R_far (p := ⟨gb623, 3, none⟩) (Kd.R_far (p := ⟨gb623, 2, none⟩) (Kd.R_far (p := ⟨gb623, 1, none⟩) (Kd.R_far (p := ⟨gb623, 0, none⟩) (Kd.R_types HO615.out BK623.out (by decide)) (fun _ hk => hk.2) (.int .i64 t609)) (fun _ hk => hk.2) (.int .i64 t610)) (fun _ hk => hk.2) (.int .i64 t611)) (fun _ hk => hk.2) (.string t612)) (fun _ hk => ⟨hk.1.1, hk.1.2⟩)⟩, ⟨by (with_reducible repeat (first | apply Kd.R_alloc | apply Kd.R_drewN | apply Kd.R_drew)); exact Kd.R_mono (Kd.R_far (p := ⟨gb623, 3, none⟩) (Kd.R_far (p := ⟨gb623, 2, none⟩) (Kd.R_far (p := ⟨gb623, 1, none⟩) (Kd.R_far (p := ⟨gb623, 0, none⟩) (Kd.R_types HO618.out BK623.out (by decide)) (fun _ hk => hk.2) (.int .i64 t609)) (fun _ hk => hk.2) (.int .i64 t610)) (fun _ hk => hk.2) (.int .i64 t611)) (fun _ hk => hk.2) (.string t612)) (fun _ hk => ⟨hk.1.1, hk.1.2⟩)⟩, ⟨by (with_reducible repeat (first | apply Kd.R_alloc | apply Kd.R_drewN | apply Kd.R_drew)); exact Kd.R_mono (Kd.R_far (p := ⟨gb623, 3, none⟩) (Kd.R_far (p := ⟨gb623, 2, none⟩) (Kd.R_far (p := ⟨gb623, 1, none⟩) (Kd.R_far (p := ⟨gb623, 0, none⟩) (Kd.R_types HO621.out BK623.out (by decide)) (fun _ hk => hk.2) (.int .i64 t609)) (fun _ hk => hk.2) (.int .i64 t610)) (fun _ hk => hk.2) (.int .i64 t611)) (fun _ hk => hk.2) (.string t612)) (fun _ hk => ⟨hk.1.1, hk.1.2⟩)⟩, ⟨by refine bp_ ?_; refine blk_far ?_ NB598_623.out _; refine bp_ ?_; refine blk_far ?_ NB598_623.out _; refine bp_ ?_; refine blk_far ?_ NB598_623.out _; refine bp_ ?_; refine blk_far ?_ NB598_623.out _; exact bk_ BK598.out⟩, ⟨by refine bp_ ?_; refine blk_far ?_ NB622_623.out _; refine bp_ ?_; refine blk_far ?_ NB622_623.out _; refine bp_ ?_; refine blk_far ?_ NB622_623.out _; refine bp_ ?_; refine blk_far ?_ NB622_623.out _; exact bk_ BK622.out⟩, ⟨by refine bp_ ?_; refine blk_put (cs := #[.int .i64 t609, .int .i64 t610, .int .i64 t611, .string (⟨#[]⟩ : ByteArray)]) ?_ 3 _ rfl; refine bp_ ?_; refine blk_put (cs := #[.int .i64 t609, .int .i64 t610, .int .i64 0, .string (⟨#[]⟩ : ByteArray)]) ?_ 2 _ rfl; refine bp_ ?_; refine blk_put (cs := #[.int .i64 t609, .int .i64 0, .int .i64 0, .string (⟨#[]⟩ : ByteArray)]) ?_ 1 _ rfl; refine bp_ ?_; refine blk_put (cs := #[.int .i64 0, .int .i64 0, .int .i64 0, .string (⟨#[]⟩ : ByteArray)]) ?_ 0 _ rfl; exact bk_ BK623.out⟩, ⟨bh_⟩⟩
   case round =>
    clear H'
    try clear c1
    try clear c2
    try clear p2
    try clear c4
    try clear c5
    try clear c7
    try clear c9
    try clear c13
    try clear c16
    try clear c17
    try clear c18
    try clear c20
    try clear c45
    try clear c48
    try clear c49
    try clear hcz12_0
    try clear hcz12_1
    try clear hcz12_2
    try clear hcz14_0
    try clear hcz14_1
    try clear hcz14_2
    try clear hcz17_0
    try clear hcz17_1
    try clear hcz17_2
    try clear hcz26_0
    try clear hcz26_1
    try clear hcz26_2
    try clear hcz46_0
    try clear hcz46_1
    try clear hcz46_2
    try clear hcz46_3
    try clear hcz46_4
    try clear hcz46_5
    try clear hcz46_6
    try clear hcz50_0
    try clear hcz50_1
    try clear hcz50_2
    try clear hcz50_3
    try clear hfz12_0
    try clear hfz12_1
    try clear hfz12_2
    try clear hfz14_0
    try clear hfz14_1
    try clear hfz14_2
    try clear hfz17_0
    try clear hfz17_1
    try clear hfz17_2
    try clear hfz26_0
    try clear hfz26_1
    try clear hfz26_2
    try clear hfz46_0
    try clear hfz46_1
    try clear hfz46_2
    try clear hfz46_3
    try clear hfz46_4
    try clear hfz46_5
    try clear hfz46_6
    try clear hfz50_0
    try clear hfz50_1
    try clear hfz50_2
    try clear hfz50_3
    try clear p2
    obtain ⟨x10_2, x11_2, rfl, rfl, HA, HK2, HO_7, HO_623004, HO_623005, HO_623006, BK598, BK622, BK623, HB⟩ := hrel
    cases gk with
    | zero => exact absurd HA.out (by simp [computuslaw21_OccurrenceSplits.l0])
    | succ k2 =>
     have H := HA.out
     clear HA
     simp only [computuslaw21_OccurrenceSplits.l0] at H
     by_cases c51 : x11_2 < (t603.length : Int)
     rotate_left
     ·rw [if_neg c51] at H
      have c51b0 : decide (x11_2 < (t603.length : Int)) = false := decide_eq_false c51
      clear c51
      by_cases c83 : t609 = 2
      rotate_left
      ·rw [if_neg c83] at H
       have c83b0 : (t609 == 2) = false := beq_eq_false_iff_ne.mpr c83
       have c83b1 : (t609 != 2) = true := bne_iff_ne.mpr c83
       by_cases c90 : x10_2 = 1
       rotate_left
       ·rw [if_neg c90] at H
        exact absurd H (by simp)
       rw [if_pos c90] at H
       have c90b0 : (x10_2 == 1) = true := beq_iff_eq.mpr c90
       have c90b1 : (x10_2 != 1) = false := bne_eq_false_iff_eq.mpr c90
       clear c90
       obtain rfl := Option.some.inj H
       have hnb91 := NB623_598.out
       have hnc91 := NB598_623.out
       have hnb92 := NB623_622.out
       have hnc92 := NB622_623.out
       obtain ⟨hcz93_0, hcz93_1, hcz93_2, hcz93_3⟩ := cz4_ BK623.out
       obtain ⟨hfz93_0, hfz93_1, hfz93_2, hfz93_3⟩ := fz4_ BK623.out
       have hnb94 := NB622_598.out
       have hnc94 := NB598_622.out
       obtain ⟨hcz95_0, hcz95_1, hcz95_2, hcz95_3, hcz95_4, hcz95_5, hcz95_6⟩ := cz7_ BK622.out
       obtain ⟨hfz95_0, hfz95_1, hfz95_2, hfz95_3, hfz95_4, hfz95_5, hfz95_6⟩ := fz7_ BK622.out
       go_wp2
       go_ret
       exact rt_
      rw [if_pos c83] at H
      have c83b0 : (t609 == 2) = true := beq_iff_eq.mpr c83
      have c83b1 : (t609 != 2) = false := bne_eq_false_iff_eq.mpr c83
      clear c83
      by_cases c84 : x10_2 = 1
      rotate_left
      ·rw [if_neg c84] at H
       exact absurd H (by simp)
      rw [if_pos c84] at H
      have c84b0 : (x10_2 == 1) = true := beq_iff_eq.mpr c84
      have c84b1 : (x10_2 != 1) = false := bne_eq_false_iff_eq.mpr c84
      clear c84
      obtain rfl := Option.some.inj H
      have hnb85 := NB623_598.out
      have hnc85 := NB598_623.out
      have hnb86 := NB623_622.out
      have hnc86 := NB622_623.out
      obtain ⟨hcz87_0, hcz87_1, hcz87_2, hcz87_3⟩ := cz4_ BK623.out
      obtain ⟨hfz87_0, hfz87_1, hfz87_2, hfz87_3⟩ := fz4_ BK623.out
      have hnb88 := NB622_598.out
      have hnc88 := NB598_622.out
      obtain ⟨hcz89_0, hcz89_1, hcz89_2, hcz89_3, hcz89_4, hcz89_5, hcz89_6⟩ := cz7_ BK622.out
      obtain ⟨hfz89_0, hfz89_1, hfz89_2, hfz89_3, hfz89_4, hfz89_5, hfz89_6⟩ := fz7_ BK622.out
      go_wp2
      go_ret
      exact rt_
     rw [if_pos c51] at H
     have c51b0 : decide (x11_2 < (t603.length : Int)) = true := decide_eq_true c51
     clear c51
     by_cases c52 : 0 ≤ x11_2
     rotate_left
     ·rw [if_neg c52] at H
      exact absurd H (by simp)
     rw [if_pos c52] at H
     have c52b0 : decide (0 ≤ x11_2) = true := decide_eq_true c52
     clear c52
     obtain ⟨t625, A53, H⟩ := bs_ H
     by_cases c54 : t625 = true
     ·subst c54
      replace H := it_ H
      exact absurd H (by simp)
     replace c54 := Bool.eq_false_iff.mpr c54
     subst c54
     replace H := if_ H
     by_cases c55 : (((rd_T44 t603 x11_2).f0) == t609 && (((rd_T44 t603 x11_2).f1) == t610 && (((rd_T44 t603 x11_2).f2) == t611 && ((((rd_T44 t603 x11_2).f3).toList) == t612.toList)))) = true
     ·rw [if_pos c55] at H
      have c55b0 : (((rd_T44 t603 x11_2).f0) == t609 && (((rd_T44 t603 x11_2).f1) == t610 && (((rd_T44 t603 x11_2).f2) == t611 && ((((rd_T44 t603 x11_2).f3).toList) == t612.toList)))) = true := c55
      (try (have c55b1 : decide (((rd_T44 t603 x11_2).f0) = t609 && (((rd_T44 t603 x11_2).f1) == t610 && (((rd_T44 t603 x11_2).f2) == t611 && ((((rd_T44 t603 x11_2).f3).toList) == t612.toList)))) = true := by simpa using c55))
      (try (have c55b2 : (((rd_T44 t603 x11_2).f0) == t609 && (((rd_T44 t603 x11_2).f1) == t610 && (((rd_T44 t603 x11_2).f2) == t611 && ((((rd_T44 t603 x11_2).f3).toList) == t612.toList)))) = true := by simpa using c55))
      clear c55
      by_cases c56 : ((rd_T44 t603 x11_2).f0) = 2
      rotate_left
      ·rw [if_neg c56] at H
       have c56b0 : (((rd_T44 t603 x11_2).f0) == 2) = false := beq_eq_false_iff_ne.mpr c56
       have c56b1 : (((rd_T44 t603 x11_2).f0) != 2) = true := bne_iff_ne.mpr c56
       have H' := Aside0.mk H
       clear H
       try go_wp2
       have n0_ := Aside0.mk (Kd.R_drew HO_7.out)
       have n1_ := Aside0.mk (Kd.R_drew HO_623004.out)
       have n2_ := Aside0.mk (Kd.R_drew HO_623005.out)
       have n3_ := Aside0.mk (Kd.R_drew HO_623006.out)
       have n4_ := Aside0.mk (blk_drew BK598.out)
       have n5_ := Aside0.mk (blk_drew BK622.out)
       have n6_ := Aside0.mk (blk_drew BK623.out)
       have n7_ := Aside0.mk (below_drew1 HB.out)
       clear HO_7
       clear HO_623004
       clear HO_623005
       clear HO_623006
       clear BK598
       clear BK622
       clear BK623
       clear HB
       have HO_7 := n0_
       have HO_623004 := n1_
       have HO_623005 := n2_
       have HO_623006 := n3_
       have BK598 := n4_
       have BK622 := n5_
       have BK623 := n6_
       have HB := n7_
       clear n0_ n1_ n2_ n3_ n4_ n5_ n6_ n7_
       have p624 : 0 ≤ (x11_2 : Int) := of_decide_eq_true as_
       have q624 : x11_2 < (t603.length : Int) := of_decide_eq_true as_
       obtain ⟨ad624, e624, hx624_0, hx624_1, hx624_2, hx624_3⟩ := at_T44 (Kd.R_reads' HO_7.out).2.2 x11_2 p624 q624
       cases e624
       replace p624 := eq_true p624
       replace q624 := eq_true q624
       refine start_ (n := 6) (S := fun w' => w'.cell? ⟨gb623, 0, none⟩ = some (.int .i64 t609) ∧ w'.cell? ⟨gb623, 1, none⟩ = some (.int .i64 t610) ∧ w'.cell? ⟨gb623, 2, none⟩ = some (.int .i64 t611) ∧ w'.cell? ⟨gb623, 3, none⟩ = some (.string t612) ∧ w'.cell? (ad624.add ((x11_2).toNat * 4)) = some (.int .i64 ((rd_T44 t603 x11_2).f0)) ∧ w'.cell? ⟨(ad624.add ((x11_2).toNat * 4)).block, (ad624.add ((x11_2).toNat * 4)).off + 1, none⟩ = some (.int .i64 ((rd_T44 t603 x11_2).f1)) ∧ w'.cell? ⟨(ad624.add ((x11_2).toNat * 4)).block, (ad624.add ((x11_2).toNat * 4)).off + 2, none⟩ = some (.int .i64 ((rd_T44 t603 x11_2).f2)) ∧ w'.cell? ⟨(ad624.add ((x11_2).toNat * 4)).block, (ad624.add ((x11_2).toNat * 4)).off + 3, none⟩ = some (.string ((rd_T44 t603 x11_2).f3))) (ds := []) #[false, false, false, false, false, false] (by kernel_rfl) rfl rfl ⟨(blk_cell BK623.out 0).trans rfl, (blk_cell BK623.out 1).trans rfl, (blk_cell BK623.out 2).trans rfl, (blk_cell BK623.out 3).trans rfl, hx624_0, hx624_1, hx624_2, hx624_3⟩ (fun hHeld => ?_)
       generalize wr.drew = w64 at HO_7 HO_623004 HO_623005 HO_623006 BK598 BK622 BK623 HB hx624_0 hx624_1 hx624_2 hx624_3 hHeld ⊢
       refine pure_ (i := 0) (N := some 55) (v := ?_) (a' := ?_) (bf_ 6 1) rfl rfl (by kernel_rfl) (fun _ _ _ h => h) (Or.inl ⟨by rfl, ?_⟩) ?_ ?_
       rotate_left
       ·intro w'
        go_simp
        with_reducible rfl
       rotate_left
       ·simp only [Act.put, sA_, sZ_, sS_, i64_w, i32_w]
        rfl
       refine pure_ (i := 1) (N := some 56) (v := ?_) (a' := ?_) (bf_ 6 3) rfl rfl (by kernel_rfl) (fun _ _ _ h => h) (Or.inl ⟨by rfl, ?_⟩) ?_ ?_
       rotate_left
       ·intro w'
        go_simp
        with_reducible rfl
       rotate_left
       ·simp only [Act.put, sA_, sZ_, sS_, i64_w, i32_w]
        rfl
       refine pure_ (i := 2) (N := some 57) (v := ?_) (a' := ?_) (bf_ 6 7) rfl rfl (by kernel_rfl) (fun _ _ _ h => h) (Or.inl ⟨by rfl, ?_⟩) ?_ ?_
       rotate_left
       ·intro w'
        go_simp
        with_reducible rfl
       rotate_left
       ·simp only [Act.put, sA_, sZ_, sS_, i64_w, i32_w]
        rfl
       refine take_ (i := 3) (N := some 58) (v := ?_) (a' := ?_) (bf_ 6 15) rfl rfl (by kernel_rfl) (fun _ _ _ h => h) (Or.inl ⟨by rfl, ?_⟩) hHeld ?_ ?_
       rotate_left
       ·rintro w' ⟨s0, s1, s2, s3, s4, s5, s6, s7⟩
        go_simp
        with_reducible rfl
       rotate_left
       ·simp only [Act.put, sA_, sZ_, sS_, i64_w, i32_w]
        rfl
       refine take_ (i := 4) (N := some 59) (v := ?_) (a' := ?_) (bf_ 6 31) rfl rfl (by kernel_rfl) (fun _ _ _ h => h) (Or.inl ⟨by rfl, ?_⟩) hHeld ?_ ?_
       rotate_left
       ·rintro w' ⟨s0, s1, s2, s3, s4, s5, s6, s7⟩
        go_simp
        with_reducible rfl
       rotate_left
       ·simp only [Act.put, sA_, sZ_, sS_, i64_w, i32_w]
        rfl
       refine one_ (i := 5) (N := some 60) (bf_ 6 63) rfl rfl (by kernel_rfl) (by decide) (fun K hK => ?_)
       refine goes_ Try.func24 (by kernel_rfl) rfl #[.agg #[.int .i64 ((rd_T44 t603 x11_2).f0), .int .i64 ((rd_T44 t603 x11_2).f1), .int .i64 ((rd_T44 t603 x11_2).f2), .string ((rd_T44 t603 x11_2).f3)], .agg #[.int .i64 t609, .int .i64 t610, .int .i64 t611, .string t612]] (by rfl) rfl rfl (by (try simp only [List.map_toArray, List.map_cons, List.map_nil]); first | done | rfl | (simp only [List.length_drop, List.length_take]; rfl)) ?_
       with_reducible refine (computusref20_Precedes.calls ((rd_T44 t603 x11_2).f0) ((rd_T44 t603 x11_2).f1) ((rd_T44 t603 x11_2).f2) ((rd_T44 t603 x11_2).f3) t609 t610 t611 t612 false _ A53.out).mono ?_
       rintro e w65 ⟨rfl, hb⟩
       have HS4_ := (hb.cell (World.block_lt_of_cell? _ _ (hHeld.2.2.2.2.1))).trans (hHeld.2.2.2.2.1)
       have HS5_ := (hb.cell (World.block_lt_of_cell? _ _ (hHeld.2.2.2.2.2.1))).trans (hHeld.2.2.2.2.2.1)
       have HS6_ := (hb.cell (World.block_lt_of_cell? _ _ (hHeld.2.2.2.2.2.2.1))).trans (hHeld.2.2.2.2.2.2.1)
       have HS7_ := (hb.cell (World.block_lt_of_cell? _ _ (hHeld.2.2.2.2.2.2.2))).trans (hHeld.2.2.2.2.2.2.2)
       refine ⟨_, rfl, ?_⟩
       have n0_ := Aside0.mk (Kd.R_below (rk_ HO_7.out) hb)
       have n1_ := Aside0.mk (Kd.R_below (rk_ HO_623004.out) hb)
       have n2_ := Aside0.mk (Kd.R_below (rk_ HO_623005.out) hb)
       have n3_ := Aside0.mk (Kd.R_below (rk_ HO_623006.out) hb)
       have n4_ := Aside0.mk (blk_below (g := gb598) (o := .cells #[.int .i64 a0_0, .slice A0_1 l0_1.length c0_1, .slice A0_2 l0_2.length c0_2] 36 (0, 0)) (bk_ BK598.out) hb)
       have n5_ := Aside0.mk (blk_below (g := gb622) (o := .cells #[.int .i64 t609, .int .i64 t610, .int .i64 t611, .string t612, .slice Ao39 t613.length co39, .slice Ao41 t616.length co41, .slice Ao43 t619.length co43] 42 (0, 0)) (bk_ BK622.out) hb)
       have n6_ := Aside0.mk (blk_below (g := gb623) (o := .cells #[.int .i64 t609, .int .i64 t610, .int .i64 t611, .string t612] 44 (0, 0)) (bk_ BK623.out) hb)
       have n7_ := bt_ hb
       clear HO_7
       clear HO_623004
       clear HO_623005
       clear HO_623006
       clear BK598
       clear BK622
       clear BK623
       clear HB
       have HO_7 := n0_
       have HO_623004 := n1_
       have HO_623005 := n2_
       have HO_623006 := n3_
       have BK598 := n4_
       have BK622 := n5_
       have BK623 := n6_
       have HB := n7_
       clear n0_ n1_ n2_ n3_ n4_ n5_ n6_ n7_
       (try clear hb)
       (try clear hb2)
       (try clear hk)
       (try clear hi)
       refine hK.out _ _ (by first | exact ⟨(blk_cell BK623.out 0).trans rfl, (blk_cell BK623.out 1).trans rfl, (blk_cell BK623.out 2).trans rfl, (blk_cell BK623.out 3).trans rfl, HS4_, HS5_, HS6_, HS7_⟩ | exact hHeld) (fun hHeld => ?_)
       clear hK K
       refine norm_ (a' := ?_) ?_ ?_
       rotate_left
       ·show Act.put _ (some 60) _ = _
        simp only [Act.put, sA_, sZ_, sS_, i64_w, i32_w]
        rfl
       refine done_ (by kernel_rfl) ?_
       try go_wp2
       have n0_ := Aside0.mk (Kd.R_drew HO_7.out)
       have n1_ := Aside0.mk (Kd.R_drew HO_623004.out)
       have n2_ := Aside0.mk (Kd.R_drew HO_623005.out)
       have n3_ := Aside0.mk (Kd.R_drew HO_623006.out)
       have n4_ := Aside0.mk (blk_drew BK598.out)
       have n5_ := Aside0.mk (blk_drew BK622.out)
       have n6_ := Aside0.mk (blk_drew BK623.out)
       have n7_ := Aside0.mk (below_drew1 HB.out)
       clear HO_7
       clear HO_623004
       clear HO_623005
       clear HO_623006
       clear BK598
       clear BK622
       clear BK623
       clear HB
       have HO_7 := n0_
       have HO_623004 := n1_
       have HO_623005 := n2_
       have HO_623006 := n3_
       have BK598 := n4_
       have BK622 := n5_
       have BK623 := n6_
       have HB := n7_
       clear n0_ n1_ n2_ n3_ n4_ n5_ n6_ n7_
       have p626 : 0 ≤ (x11_2 : Int) := of_decide_eq_true as_
       have q626 : x11_2 < (t603.length : Int) := of_decide_eq_true as_
       obtain ⟨ad626, e626, hx626_0, hx626_1, hx626_2, hx626_3⟩ := at_T44 (Kd.R_reads' HO_7.out).2.2 x11_2 p626 q626
       obtain rfl : ad624 = ad626 := (by injection e626)
       replace p626 := eq_true p626
       replace q626 := eq_true q626
       refine start_ (n := 6) (S := fun w' => w'.cell? ⟨gb623, 0, none⟩ = some (.int .i64 t609) ∧ w'.cell? ⟨gb623, 1, none⟩ = some (.int .i64 t610) ∧ w'.cell? ⟨gb623, 2, none⟩ = some (.int .i64 t611) ∧ w'.cell? ⟨gb623, 3, none⟩ = some (.string t612) ∧ w'.cell? (ad624.add ((x11_2).toNat * 4)) = some (.int .i64 ((rd_T44 t603 x11_2).f0)) ∧ w'.cell? ⟨(ad624.add ((x11_2).toNat * 4)).block, (ad624.add ((x11_2).toNat * 4)).off + 1, none⟩ = some (.int .i64 ((rd_T44 t603 x11_2).f1)) ∧ w'.cell? ⟨(ad624.add ((x11_2).toNat * 4)).block, (ad624.add ((x11_2).toNat * 4)).off + 2, none⟩ = some (.int .i64 ((rd_T44 t603 x11_2).f2)) ∧ w'.cell? ⟨(ad624.add ((x11_2).toNat * 4)).block, (ad624.add ((x11_2).toNat * 4)).off + 3, none⟩ = some (.string ((rd_T44 t603 x11_2).f3))) (ds := []) #[false, false, false, false, false, false] (by kernel_rfl) rfl rfl ⟨(blk_cell BK623.out 0).trans rfl, (blk_cell BK623.out 1).trans rfl, (blk_cell BK623.out 2).trans rfl, (blk_cell BK623.out 3).trans rfl, hx626_0, hx626_1, hx626_2, hx626_3⟩ (fun hHeld => ?_)
       generalize w65.drew = w66 at HO_7 HO_623004 HO_623005 HO_623006 BK598 BK622 BK623 HB hx626_0 hx626_1 hx626_2 hx626_3 hHeld ⊢
       refine pure_ (i := 0) (N := some 61) (v := ?_) (a' := ?_) (bf_ 6 1) rfl rfl (by kernel_rfl) (fun _ _ _ h => h) (Or.inl ⟨by rfl, ?_⟩) ?_ ?_
       rotate_left
       ·intro w'
        go_simp
        with_reducible rfl
       rotate_left
       ·simp only [Act.put, sA_, sZ_, sS_, i64_w, i32_w]
        rfl
       refine pure_ (i := 1) (N := some 62) (v := ?_) (a' := ?_) (bf_ 6 3) rfl rfl (by kernel_rfl) (fun _ _ _ h => h) (Or.inl ⟨by rfl, ?_⟩) ?_ ?_
       rotate_left
       ·intro w'
        go_simp
        with_reducible rfl
       rotate_left
       ·simp only [Act.put, sA_, sZ_, sS_, i64_w, i32_w]
        rfl
       refine pure_ (i := 2) (N := some 63) (v := ?_) (a' := ?_) (bf_ 6 7) rfl rfl (by kernel_rfl) (fun _ _ _ h => h) (Or.inl ⟨by rfl, ?_⟩) ?_ ?_
       rotate_left
       ·intro w'
        go_simp
        with_reducible rfl
       rotate_left
       ·simp only [Act.put, sA_, sZ_, sS_, i64_w, i32_w]
        rfl
       refine take_ (i := 3) (N := some 64) (v := ?_) (a' := ?_) (bf_ 6 15) rfl rfl (by kernel_rfl) (fun _ _ _ h => h) (Or.inl ⟨by rfl, ?_⟩) hHeld ?_ ?_
       rotate_left
       ·rintro w' ⟨s0, s1, s2, s3, s4, s5, s6, s7⟩
        go_simp
        with_reducible rfl
       rotate_left
       ·simp only [Act.put, sA_, sZ_, sS_, i64_w, i32_w]
        rfl
       refine take_ (i := 4) (N := some 65) (v := ?_) (a' := ?_) (bf_ 6 31) rfl rfl (by kernel_rfl) (fun _ _ _ h => h) (Or.inl ⟨by rfl, ?_⟩) hHeld ?_ ?_
       rotate_left
       ·rintro w' ⟨s0, s1, s2, s3, s4, s5, s6, s7⟩
        go_simp
        with_reducible rfl
       rotate_left
       ·simp only [Act.put, sA_, sZ_, sS_, i64_w, i32_w]
        rfl
       refine pure_ (i := 5) (N := some 66) (v := ?_) (a' := ?_) (bf_ 6 63) rfl rfl (by kernel_rfl) (fun _ _ _ h => h) (Or.inl ⟨by rfl, ?_⟩) ?_ ?_
       rotate_left
       ·intro w'
        go_simp
        with_reducible rfl
       rotate_left
       ·simp only [Act.put, sA_, sZ_, sS_, i64_w, i32_w]
        rfl
       refine done_ (by kernel_rfl) ?_
       try go_wp2
       have n0_ := Aside0.mk (Kd.R_drew HO_7.out)
       have n1_ := Aside0.mk (Kd.R_drew HO_623004.out)
       have n2_ := Aside0.mk (Kd.R_drew HO_623005.out)
       have n3_ := Aside0.mk (Kd.R_drew HO_623006.out)
       have n4_ := Aside0.mk (blk_drew BK598.out)
       have n5_ := Aside0.mk (blk_drew BK622.out)
       have n6_ := Aside0.mk (blk_drew BK623.out)
       have n7_ := Aside0.mk (below_drew1 HB.out)
       clear HO_7
       clear HO_623004
       clear HO_623005
       clear HO_623006
       clear BK598
       clear BK622
       clear BK623
       clear HB
       have HO_7 := n0_
       have HO_623004 := n1_
       have HO_623005 := n2_
       have HO_623006 := n3_
       have BK598 := n4_
       have BK622 := n5_
       have BK623 := n6_
       have HB := n7_
       clear n0_ n1_ n2_ n3_ n4_ n5_ n6_ n7_
       have p627 : 0 ≤ (x11_2 : Int) := of_decide_eq_true as_
       have q627 : x11_2 < (t603.length : Int) := of_decide_eq_true as_
       obtain ⟨ad627, e627, hx627_0, hx627_1, hx627_2, hx627_3⟩ := at_T44 (Kd.R_reads' HO_7.out).2.2 x11_2 p627 q627
       obtain rfl : ad624 = ad627 := (by injection e627)
       replace p627 := eq_true p627
       replace q627 := eq_true q627
       refine start_ (n := 16) (S := fun w' => w'.cell? (ad624.add ((x11_2).toNat * 4)) = some (.int .i64 ((rd_T44 t603 x11_2).f0)) ∧ w'.cell? ⟨(ad624.add ((x11_2).toNat * 4)).block, (ad624.add ((x11_2).toNat * 4)).off + 1, none⟩ = some (.int .i64 ((rd_T44 t603 x11_2).f1)) ∧ w'.cell? ⟨(ad624.add ((x11_2).toNat * 4)).block, (ad624.add ((x11_2).toNat * 4)).off + 2, none⟩ = some (.int .i64 ((rd_T44 t603 x11_2).f2)) ∧ w'.cell? ⟨(ad624.add ((x11_2).toNat * 4)).block, (ad624.add ((x11_2).toNat * 4)).off + 3, none⟩ = some (.string ((rd_T44 t603 x11_2).f3))) (ds := []) #[false, false, false, false, false, false, false, false, false, false, false, false, false, false, false, false] (by kernel_rfl) rfl rfl ⟨hx627_0, hx627_1, hx627_2, hx627_3⟩ (fun hHeld => ?_); refine with_tabW computuslaw21_OccurrenceSplits.tab14 computuslaw21_OccurrenceSplits.bits14 (fun HT_ HW_ => ?_)
       generalize w66.drew = w67 at HO_7 HO_623004 HO_623005 HO_623006 BK598 BK622 BK623 HB hx627_0 hx627_1 hx627_2 hx627_3 hHeld ⊢
       refine pure_ (i := 0) (N := some 69) (v := ?_) (a' := ?_) (bf_ 16 1) rfl rfl (any_of HT_.out (by kernel_rfl)) (fun _ _ _ h => h) (Or.inl ⟨by rfl, ?_⟩) ?_ ?_
       rotate_left
       ·intro w'
        go_simp
        with_reducible rfl
       rotate_left
       ·simp only [Act.put, sA_, sZ_, sS_, i64_w, i32_w]
        rfl
       refine pure_ (i := 1) (N := some 70) (v := ?_) (a' := ?_) (bf_ 16 3) rfl rfl (any_of HT_.out (by kernel_rfl)) (fun _ _ _ h => h) (Or.inl ⟨by rfl, ?_⟩) ?_ ?_
       rotate_left
       ·intro w'
        go_simp
        with_reducible rfl
       rotate_left
       ·simp only [Act.put, sA_, sZ_, sS_, i64_w, i32_w]
        rfl
       refine pure_ (i := 2) (N := some 71) (v := ?_) (a' := ?_) (bf_ 16 7) rfl rfl (any_of HT_.out (by kernel_rfl)) (fun _ _ _ h => h) (Or.inl ⟨by rfl, ?_⟩) ?_ ?_
       rotate_left
       ·intro w'
        go_simp
        with_reducible rfl
       rotate_left
       ·simp only [Act.put, sA_, sZ_, sS_, i64_w, i32_w]
        rfl
       refine pure_ (i := 3) (N := some 72) (v := ?_) (a' := ?_) (bf_ 16 15) rfl rfl (any_of HT_.out (by kernel_rfl)) (fun _ _ _ h => h) (Or.inl ⟨by rfl, ?_⟩) ?_ ?_
       rotate_left
       ·intro w'
        go_simp
        with_reducible rfl
       rotate_left
       ·simp only [Act.put, sA_, sZ_, sS_, i64_w, i32_w]
        rfl
       refine take_ (i := 4) (N := some 73) (v := ?_) (a' := ?_) (bf_ 16 31) rfl rfl (take_ofW HT_.out HW_.out (by kernel_rfl)) (fun _ _ _ h => h) (Or.inl ⟨by rfl, ?_⟩) hHeld ?_ ?_
       rotate_left
       ·rintro w' ⟨s0, s1, s2, s3⟩
        go_simp
        with_reducible rfl
       rotate_left
       ·simp only [Act.put, sA_, sZ_, sS_, i64_w, i32_w]
        rfl
       refine pure_ (i := 5) (N := some 74) (v := ?_) (a' := ?_) (bf_ 16 63) rfl rfl (any_of HT_.out (by kernel_rfl)) (fun _ _ _ h => h) (Or.inl ⟨by rfl, ?_⟩) ?_ ?_
       rotate_left
       ·intro w'
        go_simp
        with_reducible rfl
       rotate_left
       ·simp only [Act.put, sA_, sZ_, sS_, i64_w, i32_w]
        rfl
       refine pure_ (i := 6) (N := some 75) (v := ?_) (a' := ?_) (bf_ 16 127) rfl rfl (any_of HT_.out (by kernel_rfl)) (fun _ _ _ h => h) (Or.inl ⟨by rfl, ?_⟩) ?_ ?_
       rotate_left
       ·intro w'
        go_simp
        with_reducible rfl
       rotate_left
       ·simp only [Act.put, sA_, sZ_, sS_, i64_w, i32_w]
        rfl
       refine pure_ (i := 7) (N := some 76) (v := undef) (a' := ?_) (bf_ 16 255) rfl rfl (any_of HT_.out (by kernel_rfl)) (fun _ _ _ h => h) (Or.inr ⟨by rfl, rfl⟩) ?_ ?_
       rotate_left
       ·simp only [Act.put, sA_, sZ_, sS_, i64_w, i32_w]
        rfl
       refine pure_ (i := 8) (N := some 77) (v := undef) (a' := ?_) (bf_ 16 511) rfl rfl (any_of HT_.out (by kernel_rfl)) (fun _ _ _ h => h) (Or.inr ⟨by rfl, rfl⟩) ?_ ?_
       rotate_left
       ·simp only [Act.put, sA_, sZ_, sS_, i64_w, i32_w]
        rfl
       refine pure_ (i := 9) (N := some 78) (v := undef) (a' := ?_) (bf_ 16 1023) rfl rfl (any_of HT_.out (by kernel_rfl)) (fun _ _ _ h => h) (Or.inr ⟨by rfl, rfl⟩) ?_ ?_
       rotate_left
       ·simp only [Act.put, sA_, sZ_, sS_, i64_w, i32_w]
        rfl
       refine pure_ (i := 10) (N := some 79) (v := undef) (a' := ?_) (bf_ 16 2047) rfl rfl (any_of HT_.out (by kernel_rfl)) (fun _ _ _ h => h) (Or.inr ⟨by rfl, rfl⟩) ?_ ?_
       rotate_left
       ·simp only [Act.put, sA_, sZ_, sS_, i64_w, i32_w]
        rfl
       refine pure_ (i := 11) (N := some 80) (v := undef) (a' := ?_) (bf_ 16 4095) rfl rfl (any_of HT_.out (by kernel_rfl)) (fun _ _ _ h => h) (Or.inr ⟨by rfl, rfl⟩) ?_ ?_
       rotate_left
       ·simp only [Act.put, sA_, sZ_, sS_, i64_w, i32_w]
        rfl
       refine pure_ (i := 12) (N := some 81) (v := undef) (a' := ?_) (bf_ 16 8191) rfl rfl (any_of HT_.out (by kernel_rfl)) (fun _ _ _ h => h) (Or.inr ⟨by rfl, rfl⟩) ?_ ?_
       rotate_left
       ·simp only [Act.put, sA_, sZ_, sS_, i64_w, i32_w]
        rfl
       refine pure_ (i := 13) (N := some 82) (v := undef) (a' := ?_) (bf_ 16 16383) rfl rfl (any_of HT_.out (by kernel_rfl)) (fun _ _ _ h => h) (Or.inr ⟨by rfl, rfl⟩) ?_ ?_
       rotate_left
       ·simp only [Act.put, sA_, sZ_, sS_, i64_w, i32_w]
        rfl
       refine pure_ (i := 14) (N := some 83) (v := undef) (a' := ?_) (bf_ 16 32767) rfl rfl (any_of HT_.out (by kernel_rfl)) (fun _ _ _ h => h) (Or.inr ⟨by rfl, rfl⟩) ?_ ?_
       rotate_left
       ·simp only [Act.put, sA_, sZ_, sS_, i64_w, i32_w]
        rfl
       refine pure_ (i := 15) (N := some 84) (v := ?_) (a' := ?_) (bf_ 16 65535) rfl rfl (any_of HT_.out (by kernel_rfl)) (fun _ _ _ h => h) (Or.inl ⟨by rfl, ?_⟩) ?_ ?_
       rotate_left
       ·intro w'
        go_simp
        with_reducible rfl
       rotate_left
       ·simp only [Act.put, sA_, sZ_, sS_, i64_w, i32_w]
        rfl
       refine done_ (done_of HT_.out (by kernel_rfl)) ?_
       try go_wp2
       go_roundg k2
       case measure => have := HJ3.out; have := HK2.out; omega
       case rel => exact ⟨(wrap64 (x10_2 + 1)), (wrap64 (x11_2 + 1)), rs_, rs_, H', ⟨by have := HJ3.out; have := HK2.out; omega⟩, ⟨rk_ HO_7.out⟩, ⟨rk_ HO_623004.out⟩, ⟨rk_ HO_623005.out⟩, ⟨rk_ HO_623006.out⟩, ⟨bk_ BK598.out⟩, ⟨bk_ BK622.out⟩, ⟨bk_ BK623.out⟩, ⟨bh_⟩⟩
      rw [if_pos c56] at H
      have c56b0 : (((rd_T44 t603 x11_2).f0) == 2) = true := beq_iff_eq.mpr c56
      have c56b1 : (((rd_T44 t603 x11_2).f0) != 2) = false := bne_eq_false_iff_eq.mpr c56
      clear c56
      obtain ⟨t629, A57, H⟩ := bs_ H
      by_cases c58 : t629 = 0
      rotate_left
      ·rw [if_neg c58] at H
       exact absurd H (by simp)
      rw [if_pos c58] at H
      have c58b0 : (t629 == 0) = true := beq_iff_eq.mpr c58
      have c58b1 : (t629 != 0) = false := bne_eq_false_iff_eq.mpr c58
      clear c58
      have H' := Aside0.mk H
      clear H
      try go_wp2
      have n0_ := Aside0.mk (Kd.R_drew HO_7.out)
      have n1_ := Aside0.mk (Kd.R_drew HO_623004.out)
      have n2_ := Aside0.mk (Kd.R_drew HO_623005.out)
      have n3_ := Aside0.mk (Kd.R_drew HO_623006.out)
      have n4_ := Aside0.mk (blk_drew BK598.out)
      have n5_ := Aside0.mk (blk_drew BK622.out)
      have n6_ := Aside0.mk (blk_drew BK623.out)
      have n7_ := Aside0.mk (below_drew1 HB.out)
      clear HO_7
      clear HO_623004
      clear HO_623005
      clear HO_623006
      clear BK598
      clear BK622
      clear BK623
      clear HB
      have HO_7 := n0_
      have HO_623004 := n1_
      have HO_623005 := n2_
      have HO_623006 := n3_
      have BK598 := n4_
      have BK622 := n5_
      have BK623 := n6_
      have HB := n7_
      clear n0_ n1_ n2_ n3_ n4_ n5_ n6_ n7_
      have p624 : 0 ≤ (x11_2 : Int) := of_decide_eq_true as_
      have q624 : x11_2 < (t603.length : Int) := of_decide_eq_true as_
      obtain ⟨ad624, e624, hx624_0, hx624_1, hx624_2, hx624_3⟩ := at_T44 (Kd.R_reads' HO_7.out).2.2 x11_2 p624 q624
      cases e624
      replace p624 := eq_true p624
      replace q624 := eq_true q624
      refine start_ (n := 6) (S := fun w' => w'.cell? ⟨gb623, 0, none⟩ = some (.int .i64 t609) ∧ w'.cell? ⟨gb623, 1, none⟩ = some (.int .i64 t610) ∧ w'.cell? ⟨gb623, 2, none⟩ = some (.int .i64 t611) ∧ w'.cell? ⟨gb623, 3, none⟩ = some (.string t612) ∧ w'.cell? (ad624.add ((x11_2).toNat * 4)) = some (.int .i64 ((rd_T44 t603 x11_2).f0)) ∧ w'.cell? ⟨(ad624.add ((x11_2).toNat * 4)).block, (ad624.add ((x11_2).toNat * 4)).off + 1, none⟩ = some (.int .i64 ((rd_T44 t603 x11_2).f1)) ∧ w'.cell? ⟨(ad624.add ((x11_2).toNat * 4)).block, (ad624.add ((x11_2).toNat * 4)).off + 2, none⟩ = some (.int .i64 ((rd_T44 t603 x11_2).f2)) ∧ w'.cell? ⟨(ad624.add ((x11_2).toNat * 4)).block, (ad624.add ((x11_2).toNat * 4)).off + 3, none⟩ = some (.string ((rd_T44 t603 x11_2).f3))) (ds := []) #[false, false, false, false, false, false] (by kernel_rfl) rfl rfl ⟨(blk_cell BK623.out 0).trans rfl, (blk_cell BK623.out 1).trans rfl, (blk_cell BK623.out 2).trans rfl, (blk_cell BK623.out 3).trans rfl, hx624_0, hx624_1, hx624_2, hx624_3⟩ (fun hHeld => ?_)
      generalize wr.drew = w59 at HO_7 HO_623004 HO_623005 HO_623006 BK598 BK622 BK623 HB hx624_0 hx624_1 hx624_2 hx624_3 hHeld ⊢
      refine pure_ (i := 0) (N := some 55) (v := ?_) (a' := ?_) (bf_ 6 1) rfl rfl (by kernel_rfl) (fun _ _ _ h => h) (Or.inl ⟨by rfl, ?_⟩) ?_ ?_
      rotate_left
      ·intro w'
       go_simp
       with_reducible rfl
      rotate_left
      ·simp only [Act.put, sA_, sZ_, sS_, i64_w, i32_w]
       rfl
      refine pure_ (i := 1) (N := some 56) (v := ?_) (a' := ?_) (bf_ 6 3) rfl rfl (by kernel_rfl) (fun _ _ _ h => h) (Or.inl ⟨by rfl, ?_⟩) ?_ ?_
      rotate_left
      ·intro w'
       go_simp
       with_reducible rfl
      rotate_left
      ·simp only [Act.put, sA_, sZ_, sS_, i64_w, i32_w]
       rfl
      refine pure_ (i := 2) (N := some 57) (v := ?_) (a' := ?_) (bf_ 6 7) rfl rfl (by kernel_rfl) (fun _ _ _ h => h) (Or.inl ⟨by rfl, ?_⟩) ?_ ?_
      rotate_left
      ·intro w'
       go_simp
       with_reducible rfl
      rotate_left
      ·simp only [Act.put, sA_, sZ_, sS_, i64_w, i32_w]
       rfl
      refine take_ (i := 3) (N := some 58) (v := ?_) (a' := ?_) (bf_ 6 15) rfl rfl (by kernel_rfl) (fun _ _ _ h => h) (Or.inl ⟨by rfl, ?_⟩) hHeld ?_ ?_
      rotate_left
      ·rintro w' ⟨s0, s1, s2, s3, s4, s5, s6, s7⟩
       go_simp
       with_reducible rfl
      rotate_left
      ·simp only [Act.put, sA_, sZ_, sS_, i64_w, i32_w]
       rfl
      refine take_ (i := 4) (N := some 59) (v := ?_) (a' := ?_) (bf_ 6 31) rfl rfl (by kernel_rfl) (fun _ _ _ h => h) (Or.inl ⟨by rfl, ?_⟩) hHeld ?_ ?_
      rotate_left
      ·rintro w' ⟨s0, s1, s2, s3, s4, s5, s6, s7⟩
       go_simp
       with_reducible rfl
      rotate_left
      ·simp only [Act.put, sA_, sZ_, sS_, i64_w, i32_w]
       rfl
      refine one_ (i := 5) (N := some 60) (bf_ 6 63) rfl rfl (by kernel_rfl) (by decide) (fun K hK => ?_)
      refine goes_ Try.func24 (by kernel_rfl) rfl #[.agg #[.int .i64 ((rd_T44 t603 x11_2).f0), .int .i64 ((rd_T44 t603 x11_2).f1), .int .i64 ((rd_T44 t603 x11_2).f2), .string ((rd_T44 t603 x11_2).f3)], .agg #[.int .i64 t609, .int .i64 t610, .int .i64 t611, .string t612]] (by rfl) rfl rfl (by (try simp only [List.map_toArray, List.map_cons, List.map_nil]); first | done | rfl | (simp only [List.length_drop, List.length_take]; rfl)) ?_
      with_reducible refine (computusref20_Precedes.calls ((rd_T44 t603 x11_2).f0) ((rd_T44 t603 x11_2).f1) ((rd_T44 t603 x11_2).f2) ((rd_T44 t603 x11_2).f3) t609 t610 t611 t612 false _ A53.out).mono ?_
      rintro e w60 ⟨rfl, hb⟩
      have HS4_ := (hb.cell (World.block_lt_of_cell? _ _ (hHeld.2.2.2.2.1))).trans (hHeld.2.2.2.2.1)
      have HS5_ := (hb.cell (World.block_lt_of_cell? _ _ (hHeld.2.2.2.2.2.1))).trans (hHeld.2.2.2.2.2.1)
      have HS6_ := (hb.cell (World.block_lt_of_cell? _ _ (hHeld.2.2.2.2.2.2.1))).trans (hHeld.2.2.2.2.2.2.1)
      have HS7_ := (hb.cell (World.block_lt_of_cell? _ _ (hHeld.2.2.2.2.2.2.2))).trans (hHeld.2.2.2.2.2.2.2)
      refine ⟨_, rfl, ?_⟩
      have n0_ := Aside0.mk (Kd.R_below (rk_ HO_7.out) hb)
      have n1_ := Aside0.mk (Kd.R_below (rk_ HO_623004.out) hb)
      have n2_ := Aside0.mk (Kd.R_below (rk_ HO_623005.out) hb)
      have n3_ := Aside0.mk (Kd.R_below (rk_ HO_623006.out) hb)
      have n4_ := Aside0.mk (blk_below (g := gb598) (o := .cells #[.int .i64 a0_0, .slice A0_1 l0_1.length c0_1, .slice A0_2 l0_2.length c0_2] 36 (0, 0)) (bk_ BK598.out) hb)
      have n5_ := Aside0.mk (blk_below (g := gb622) (o := .cells #[.int .i64 t609, .int .i64 t610, .int .i64 t611, .string t612, .slice Ao39 t613.length co39, .slice Ao41 t616.length co41, .slice Ao43 t619.length co43] 42 (0, 0)) (bk_ BK622.out) hb)
      have n6_ := Aside0.mk (blk_below (g := gb623) (o := .cells #[.int .i64 t609, .int .i64 t610, .int .i64 t611, .string t612] 44 (0, 0)) (bk_ BK623.out) hb)
      have n7_ := bt_ hb
      clear HO_7
      clear HO_623004
      clear HO_623005
      clear HO_623006
      clear BK598
      clear BK622
      clear BK623
      clear HB
      have HO_7 := n0_
      have HO_623004 := n1_
      have HO_623005 := n2_
      have HO_623006 := n3_
      have BK598 := n4_
      have BK622 := n5_
      have BK623 := n6_
      have HB := n7_
      clear n0_ n1_ n2_ n3_ n4_ n5_ n6_ n7_
      (try clear hb)
      (try clear hb2)
      (try clear hk)
      (try clear hi)
      refine hK.out _ _ (by first | exact ⟨(blk_cell BK623.out 0).trans rfl, (blk_cell BK623.out 1).trans rfl, (blk_cell BK623.out 2).trans rfl, (blk_cell BK623.out 3).trans rfl, HS4_, HS5_, HS6_, HS7_⟩ | exact hHeld) (fun hHeld => ?_)
      clear hK K
      refine norm_ (a' := ?_) ?_ ?_
      rotate_left
      ·show Act.put _ (some 60) _ = _
       simp only [Act.put, sA_, sZ_, sS_, i64_w, i32_w]
       rfl
      refine done_ (by kernel_rfl) ?_
      try go_wp2
      have n0_ := Aside0.mk (Kd.R_drew HO_7.out)
      have n1_ := Aside0.mk (Kd.R_drew HO_623004.out)
      have n2_ := Aside0.mk (Kd.R_drew HO_623005.out)
      have n3_ := Aside0.mk (Kd.R_drew HO_623006.out)
      have n4_ := Aside0.mk (blk_drew BK598.out)
      have n5_ := Aside0.mk (blk_drew BK622.out)
      have n6_ := Aside0.mk (blk_drew BK623.out)
      have n7_ := Aside0.mk (below_drew1 HB.out)
      clear HO_7
      clear HO_623004
      clear HO_623005
      clear HO_623006
      clear BK598
      clear BK622
      clear BK623
      clear HB
      have HO_7 := n0_
      have HO_623004 := n1_
      have HO_623005 := n2_
      have HO_623006 := n3_
      have BK598 := n4_
      have BK622 := n5_
      have BK623 := n6_
      have HB := n7_
      clear n0_ n1_ n2_ n3_ n4_ n5_ n6_ n7_
      have p626 : 0 ≤ (x11_2 : Int) := of_decide_eq_true as_
      have q626 : x11_2 < (t603.length : Int) := of_decide_eq_true as_
      obtain ⟨ad626, e626, hx626_0, hx626_1, hx626_2, hx626_3⟩ := at_T44 (Kd.R_reads' HO_7.out).2.2 x11_2 p626 q626
      obtain rfl : ad624 = ad626 := (by injection e626)
      replace p626 := eq_true p626
      replace q626 := eq_true q626
      refine start_ (n := 6) (S := fun w' => w'.cell? ⟨gb623, 0, none⟩ = some (.int .i64 t609) ∧ w'.cell? ⟨gb623, 1, none⟩ = some (.int .i64 t610) ∧ w'.cell? ⟨gb623, 2, none⟩ = some (.int .i64 t611) ∧ w'.cell? ⟨gb623, 3, none⟩ = some (.string t612) ∧ w'.cell? (ad624.add ((x11_2).toNat * 4)) = some (.int .i64 ((rd_T44 t603 x11_2).f0)) ∧ w'.cell? ⟨(ad624.add ((x11_2).toNat * 4)).block, (ad624.add ((x11_2).toNat * 4)).off + 1, none⟩ = some (.int .i64 ((rd_T44 t603 x11_2).f1)) ∧ w'.cell? ⟨(ad624.add ((x11_2).toNat * 4)).block, (ad624.add ((x11_2).toNat * 4)).off + 2, none⟩ = some (.int .i64 ((rd_T44 t603 x11_2).f2)) ∧ w'.cell? ⟨(ad624.add ((x11_2).toNat * 4)).block, (ad624.add ((x11_2).toNat * 4)).off + 3, none⟩ = some (.string ((rd_T44 t603 x11_2).f3))) (ds := []) #[false, false, false, false, false, false] (by kernel_rfl) rfl rfl ⟨(blk_cell BK623.out 0).trans rfl, (blk_cell BK623.out 1).trans rfl, (blk_cell BK623.out 2).trans rfl, (blk_cell BK623.out 3).trans rfl, hx626_0, hx626_1, hx626_2, hx626_3⟩ (fun hHeld => ?_)
      generalize w60.drew = w61 at HO_7 HO_623004 HO_623005 HO_623006 BK598 BK622 BK623 HB hx626_0 hx626_1 hx626_2 hx626_3 hHeld ⊢
      refine pure_ (i := 0) (N := some 61) (v := ?_) (a' := ?_) (bf_ 6 1) rfl rfl (by kernel_rfl) (fun _ _ _ h => h) (Or.inl ⟨by rfl, ?_⟩) ?_ ?_
      rotate_left
      ·intro w'
       go_simp
       with_reducible rfl
      rotate_left
      ·simp only [Act.put, sA_, sZ_, sS_, i64_w, i32_w]
       rfl
      refine pure_ (i := 1) (N := some 62) (v := ?_) (a' := ?_) (bf_ 6 3) rfl rfl (by kernel_rfl) (fun _ _ _ h => h) (Or.inl ⟨by rfl, ?_⟩) ?_ ?_
      rotate_left
      ·intro w'
       go_simp
       with_reducible rfl
      rotate_left
      ·simp only [Act.put, sA_, sZ_, sS_, i64_w, i32_w]
       rfl
      refine pure_ (i := 2) (N := some 63) (v := ?_) (a' := ?_) (bf_ 6 7) rfl rfl (by kernel_rfl) (fun _ _ _ h => h) (Or.inl ⟨by rfl, ?_⟩) ?_ ?_
      rotate_left
      ·intro w'
       go_simp
       with_reducible rfl
      rotate_left
      ·simp only [Act.put, sA_, sZ_, sS_, i64_w, i32_w]
       rfl
      refine take_ (i := 3) (N := some 64) (v := ?_) (a' := ?_) (bf_ 6 15) rfl rfl (by kernel_rfl) (fun _ _ _ h => h) (Or.inl ⟨by rfl, ?_⟩) hHeld ?_ ?_
      rotate_left
      ·rintro w' ⟨s0, s1, s2, s3, s4, s5, s6, s7⟩
       go_simp
       with_reducible rfl
      rotate_left
      ·simp only [Act.put, sA_, sZ_, sS_, i64_w, i32_w]
       rfl
      refine take_ (i := 4) (N := some 65) (v := ?_) (a' := ?_) (bf_ 6 31) rfl rfl (by kernel_rfl) (fun _ _ _ h => h) (Or.inl ⟨by rfl, ?_⟩) hHeld ?_ ?_
      rotate_left
      ·rintro w' ⟨s0, s1, s2, s3, s4, s5, s6, s7⟩
       go_simp
       with_reducible rfl
      rotate_left
      ·simp only [Act.put, sA_, sZ_, sS_, i64_w, i32_w]
       rfl
      refine pure_ (i := 5) (N := some 66) (v := ?_) (a' := ?_) (bf_ 6 63) rfl rfl (by kernel_rfl) (fun _ _ _ h => h) (Or.inl ⟨by rfl, ?_⟩) ?_ ?_
      rotate_left
      ·intro w'
       go_simp
       with_reducible rfl
      rotate_left
      ·simp only [Act.put, sA_, sZ_, sS_, i64_w, i32_w]
       rfl
      refine done_ (by kernel_rfl) ?_
      try go_wp2
      have n0_ := Aside0.mk (Kd.R_drew HO_7.out)
      have n1_ := Aside0.mk (Kd.R_drew HO_623004.out)
      have n2_ := Aside0.mk (Kd.R_drew HO_623005.out)
      have n3_ := Aside0.mk (Kd.R_drew HO_623006.out)
      have n4_ := Aside0.mk (blk_drew BK598.out)
      have n5_ := Aside0.mk (blk_drew BK622.out)
      have n6_ := Aside0.mk (blk_drew BK623.out)
      have n7_ := Aside0.mk (below_drew1 HB.out)
      clear HO_7
      clear HO_623004
      clear HO_623005
      clear HO_623006
      clear BK598
      clear BK622
      clear BK623
      clear HB
      have HO_7 := n0_
      have HO_623004 := n1_
      have HO_623005 := n2_
      have HO_623006 := n3_
      have BK598 := n4_
      have BK622 := n5_
      have BK623 := n6_
      have HB := n7_
      clear n0_ n1_ n2_ n3_ n4_ n5_ n6_ n7_
      have p627 : 0 ≤ (x11_2 : Int) := of_decide_eq_true as_
      have q627 : x11_2 < (t603.length : Int) := of_decide_eq_true as_
      obtain ⟨ad627, e627, hx627_0, hx627_1, hx627_2, hx627_3⟩ := at_T44 (Kd.R_reads' HO_7.out).2.2 x11_2 p627 q627
      obtain rfl : ad624 = ad627 := (by injection e627)
      replace p627 := eq_true p627
      replace q627 := eq_true q627
      have p628 : 0 ≤ (x11_2 : Int) := of_decide_eq_true as_
      have q628 : x11_2 < (t603.length : Int) := of_decide_eq_true as_
      obtain ⟨ad628, e628, hx628_0, hx628_1, hx628_2, hx628_3⟩ := at_T44 (Kd.R_reads' HO_7.out).2.2 x11_2 p628 q628
      obtain rfl : ad624 = ad628 := (by injection e628)
      replace p628 := eq_true p628
      replace q628 := eq_true q628
      refine start_ (n := 16) (S := fun w' => w'.cell? ⟨gb622, 0, none⟩ = some (.int .i64 t609) ∧ w'.cell? ⟨gb622, 1, none⟩ = some (.int .i64 t610) ∧ w'.cell? ⟨gb622, 2, none⟩ = some (.int .i64 t611) ∧ w'.cell? ⟨gb622, 3, none⟩ = some (.string t612) ∧ w'.cell? ⟨gb622, 4, none⟩ = some (.slice Ao39 t613.length co39) ∧ w'.cell? ⟨gb622, 5, none⟩ = some (.slice Ao41 t616.length co41) ∧ w'.cell? ⟨gb622, 6, none⟩ = some (.slice Ao43 t619.length co43) ∧ w'.cell? (ad624.add ((x11_2).toNat * 4)) = some (.int .i64 ((rd_T44 t603 x11_2).f0)) ∧ w'.cell? ⟨(ad624.add ((x11_2).toNat * 4)).block, (ad624.add ((x11_2).toNat * 4)).off + 1, none⟩ = some (.int .i64 ((rd_T44 t603 x11_2).f1)) ∧ w'.cell? ⟨(ad624.add ((x11_2).toNat * 4)).block, (ad624.add ((x11_2).toNat * 4)).off + 2, none⟩ = some (.int .i64 ((rd_T44 t603 x11_2).f2)) ∧ w'.cell? ⟨(ad624.add ((x11_2).toNat * 4)).block, (ad624.add ((x11_2).toNat * 4)).off + 3, none⟩ = some (.string ((rd_T44 t603 x11_2).f3)) ∧ w'.cell? (ad624.add ((x11_2).toNat * 4)) = some (.int .i64 ((rd_T44 t603 x11_2).f0)) ∧ w'.cell? ⟨(ad624.add ((x11_2).toNat * 4)).block, (ad624.add ((x11_2).toNat * 4)).off + 1, none⟩ = some (.int .i64 ((rd_T44 t603 x11_2).f1)) ∧ w'.cell? ⟨(ad624.add ((x11_2).toNat * 4)).block, (ad624.add ((x11_2).toNat * 4)).off + 2, none⟩ = some (.int .i64 ((rd_T44 t603 x11_2).f2)) ∧ w'.cell? ⟨(ad624.add ((x11_2).toNat * 4)).block, (ad624.add ((x11_2).toNat * 4)).off + 3, none⟩ = some (.string ((rd_T44 t603 x11_2).f3))) (ds := []) #[false, false, false, false, false, false, false, false, false, false, false, false, false, false, false, false] (by kernel_rfl) rfl rfl ⟨(blk_cell BK622.out 0).trans rfl, (blk_cell BK622.out 1).trans rfl, (blk_cell BK622.out 2).trans rfl, (blk_cell BK622.out 3).trans rfl, (blk_cell BK622.out 4).trans rfl, (blk_cell BK622.out 5).trans rfl, (blk_cell BK622.out 6).trans rfl, hx627_0, hx627_1, hx627_2, hx627_3, hx628_0, hx628_1, hx628_2, hx628_3⟩ (fun hHeld => ?_); refine with_tabW computuslaw21_OccurrenceSplits.tab14 computuslaw21_OccurrenceSplits.bits14 (fun HT_ HW_ => ?_)
      generalize w61.drew = w62 at HO_7 HO_623004 HO_623005 HO_623006 BK598 BK622 BK623 HB hx627_0 hx627_1 hx627_2 hx627_3 hx628_0 hx628_1 hx628_2 hx628_3 hHeld ⊢
      refine pure_ (i := 0) (N := some 69) (v := ?_) (a' := ?_) (bf_ 16 1) rfl rfl (any_of HT_.out (by kernel_rfl)) (fun _ _ _ h => h) (Or.inl ⟨by rfl, ?_⟩) ?_ ?_
      rotate_left
      ·intro w'
       go_simp
       with_reducible rfl
      rotate_left
      ·simp only [Act.put, sA_, sZ_, sS_, i64_w, i32_w]
       rfl
      refine pure_ (i := 1) (N := some 70) (v := ?_) (a' := ?_) (bf_ 16 3) rfl rfl (any_of HT_.out (by kernel_rfl)) (fun _ _ _ h => h) (Or.inl ⟨by rfl, ?_⟩) ?_ ?_
      rotate_left
      ·intro w'
       go_simp
       with_reducible rfl
      rotate_left
      ·simp only [Act.put, sA_, sZ_, sS_, i64_w, i32_w]
       rfl
      refine pure_ (i := 2) (N := some 71) (v := ?_) (a' := ?_) (bf_ 16 7) rfl rfl (any_of HT_.out (by kernel_rfl)) (fun _ _ _ h => h) (Or.inl ⟨by rfl, ?_⟩) ?_ ?_
      rotate_left
      ·intro w'
       go_simp
       with_reducible rfl
      rotate_left
      ·simp only [Act.put, sA_, sZ_, sS_, i64_w, i32_w]
       rfl
      refine pure_ (i := 3) (N := some 72) (v := ?_) (a' := ?_) (bf_ 16 15) rfl rfl (any_of HT_.out (by kernel_rfl)) (fun _ _ _ h => h) (Or.inl ⟨by rfl, ?_⟩) ?_ ?_
      rotate_left
      ·intro w'
       go_simp
       with_reducible rfl
      rotate_left
      ·simp only [Act.put, sA_, sZ_, sS_, i64_w, i32_w]
       rfl
      refine take_ (i := 4) (N := some 73) (v := ?_) (a' := ?_) (bf_ 16 31) rfl rfl (take_ofW HT_.out HW_.out (by kernel_rfl)) (fun _ _ _ h => h) (Or.inl ⟨by rfl, ?_⟩) hHeld ?_ ?_
      rotate_left
      ·rintro w' ⟨s0, s1, s2, s3, s4, s5, s6, s7, s8, s9, s10, s11, s12, s13, s14⟩
       go_simp
       with_reducible rfl
      rotate_left
      ·simp only [Act.put, sA_, sZ_, sS_, i64_w, i32_w]
       rfl
      refine pure_ (i := 5) (N := some 74) (v := ?_) (a' := ?_) (bf_ 16 63) rfl rfl (any_of HT_.out (by kernel_rfl)) (fun _ _ _ h => h) (Or.inl ⟨by rfl, ?_⟩) ?_ ?_
      rotate_left
      ·intro w'
       go_simp
       with_reducible rfl
      rotate_left
      ·simp only [Act.put, sA_, sZ_, sS_, i64_w, i32_w]
       rfl
      refine pure_ (i := 6) (N := some 75) (v := ?_) (a' := ?_) (bf_ 16 127) rfl rfl (any_of HT_.out (by kernel_rfl)) (fun _ _ _ h => h) (Or.inl ⟨by rfl, ?_⟩) ?_ ?_
      rotate_left
      ·intro w'
       go_simp
       with_reducible rfl
      rotate_left
      ·simp only [Act.put, sA_, sZ_, sS_, i64_w, i32_w]
       rfl
      refine pure_ (i := 8) (N := some 77) (v := ?_) (a' := ?_) (bf_ 16 383) rfl rfl (any_of HT_.out (by kernel_rfl)) (fun _ _ _ h => h) (Or.inl ⟨by rfl, ?_⟩) ?_ ?_
      rotate_left
      ·intro w'
       go_simp
       with_reducible rfl
      rotate_left
      ·simp only [Act.put, sA_, sZ_, sS_, i64_w, i32_w]
       rfl
      refine pure_ (i := 9) (N := some 78) (v := ?_) (a' := ?_) (bf_ 16 895) rfl rfl (any_of HT_.out (by kernel_rfl)) (fun _ _ _ h => h) (Or.inl ⟨by rfl, ?_⟩) ?_ ?_
      rotate_left
      ·intro w'
       go_simp
       with_reducible rfl
      rotate_left
      ·simp only [Act.put, sA_, sZ_, sS_, i64_w, i32_w]
       rfl
      refine pure_ (i := 10) (N := some 79) (v := ?_) (a' := ?_) (bf_ 16 1919) rfl rfl (any_of HT_.out (by kernel_rfl)) (fun _ _ _ h => h) (Or.inl ⟨by rfl, ?_⟩) ?_ ?_
      rotate_left
      ·intro w'
       go_simp
       with_reducible rfl
      rotate_left
      ·simp only [Act.put, sA_, sZ_, sS_, i64_w, i32_w]
       rfl
      refine pure_ (i := 11) (N := some 80) (v := ?_) (a' := ?_) (bf_ 16 3967) rfl rfl (any_of HT_.out (by kernel_rfl)) (fun _ _ _ h => h) (Or.inl ⟨by rfl, ?_⟩) ?_ ?_
      rotate_left
      ·intro w'
       go_simp
       with_reducible rfl
      rotate_left
      ·simp only [Act.put, sA_, sZ_, sS_, i64_w, i32_w]
       rfl
      refine take_ (i := 7) (N := some 76) (v := ?_) (a' := ?_) (bf_ 16 4095) rfl rfl (take_ofW HT_.out HW_.out (by kernel_rfl)) (fun _ _ _ h => h) (Or.inl ⟨by rfl, ?_⟩) hHeld ?_ ?_
      rotate_left
      ·rintro w' ⟨s0, s1, s2, s3, s4, s5, s6, s7, s8, s9, s10, s11, s12, s13, s14⟩
       go_simp
       with_reducible rfl
      rotate_left
      ·simp only [Act.put, sA_, sZ_, sS_, i64_w, i32_w]
       rfl
      refine take_ (i := 12) (N := some 81) (v := ?_) (a' := ?_) (bf_ 16 8191) rfl rfl (take_ofW HT_.out HW_.out (by kernel_rfl)) (fun _ _ _ h => h) (Or.inl ⟨by rfl, ?_⟩) hHeld ?_ ?_
      rotate_left
      ·rintro w' ⟨s0, s1, s2, s3, s4, s5, s6, s7, s8, s9, s10, s11, s12, s13, s14⟩
       go_simp
       with_reducible rfl
      rotate_left
      ·simp only [Act.put, sA_, sZ_, sS_, i64_w, i32_w]
       rfl
      refine one_ (i := 13) (N := some 82) (bf_ 16 16383) rfl rfl (one_of HT_.out (by kernel_rfl)) (by decide) (fun K hK => ?_)
      refine goes_ Try.func25 (by kernel_rfl) rfl #[.agg #[.int .i64 t609, .int .i64 t610, .int .i64 t611, .string t612, .slice Ao39 t613.length co39, .slice Ao41 t616.length co41, .slice Ao43 t619.length co43], .int .i64 ((rd_T44 t603 x11_2).f1)] (by rfl) rfl rfl (by (try simp only [List.map_toArray, List.map_cons, List.map_nil]); first | done | rfl | (simp only [List.length_drop, List.length_take]; rfl)) ?_
      with_reducible refine (computuslaw21_times.calls k2 t609 t610 t611 t612 _ _ t613 _ _ t616 _ _ t619 ((rd_T44 t603 x11_2).f1) t629 _ ?side1 ?side2 ?side3 ?side4 ?side5 ?side6 A57.out).mono ?_
      (case side1 => repeat (first | exact (Kd.R_reads' HO_623004.out).2.2 | (with_reducible refine Kd.C_alloc ?_ _) | (with_reducible refine Kd.C_drewN ?_ _) | (with_reducible refine Kd.C_drew ?_)))
      (case side2 => exact (Kd.R_reads' HO_623004.out).2.1)
      (case side3 => repeat (first | exact (Kd.R_reads' HO_623005.out).2.2 | (with_reducible refine Kd.C_alloc ?_ _) | (with_reducible refine Kd.C_drewN ?_ _) | (with_reducible refine Kd.C_drew ?_)))
      (case side4 => exact (Kd.R_reads' HO_623005.out).2.1)
      (case side5 => repeat (first | exact (Kd.R_reads' HO_623006.out).2.2 | (with_reducible refine Kd.C_alloc ?_ _) | (with_reducible refine Kd.C_drewN ?_ _) | (with_reducible refine Kd.C_drew ?_)))
      (case side6 => exact (Kd.R_reads' HO_623006.out).2.1)
      rintro e w63 ⟨rfl, hb⟩
      have HS7_ := (hb.cell (World.block_lt_of_cell? _ _ (hHeld.2.2.2.2.2.2.2.1))).trans (hHeld.2.2.2.2.2.2.2.1)
      have HS8_ := (hb.cell (World.block_lt_of_cell? _ _ (hHeld.2.2.2.2.2.2.2.2.1))).trans (hHeld.2.2.2.2.2.2.2.2.1)
      have HS9_ := (hb.cell (World.block_lt_of_cell? _ _ (hHeld.2.2.2.2.2.2.2.2.2.1))).trans (hHeld.2.2.2.2.2.2.2.2.2.1)
      have HS10_ := (hb.cell (World.block_lt_of_cell? _ _ (hHeld.2.2.2.2.2.2.2.2.2.2.1))).trans (hHeld.2.2.2.2.2.2.2.2.2.2.1)
      have HS11_ := (hb.cell (World.block_lt_of_cell? _ _ (hHeld.2.2.2.2.2.2.2.2.2.2.2.1))).trans (hHeld.2.2.2.2.2.2.2.2.2.2.2.1)
      have HS12_ := (hb.cell (World.block_lt_of_cell? _ _ (hHeld.2.2.2.2.2.2.2.2.2.2.2.2.1))).trans (hHeld.2.2.2.2.2.2.2.2.2.2.2.2.1)
      have HS13_ := (hb.cell (World.block_lt_of_cell? _ _ (hHeld.2.2.2.2.2.2.2.2.2.2.2.2.2.1))).trans (hHeld.2.2.2.2.2.2.2.2.2.2.2.2.2.1)
      have HS14_ := (hb.cell (World.block_lt_of_cell? _ _ (hHeld.2.2.2.2.2.2.2.2.2.2.2.2.2.2))).trans (hHeld.2.2.2.2.2.2.2.2.2.2.2.2.2.2)
      refine ⟨_, rfl, ?_⟩
      have n0_ := Aside0.mk (Kd.R_below (rk_ HO_7.out) hb)
      have n1_ := Aside0.mk (Kd.R_below (rk_ HO_623004.out) hb)
      have n2_ := Aside0.mk (Kd.R_below (rk_ HO_623005.out) hb)
      have n3_ := Aside0.mk (Kd.R_below (rk_ HO_623006.out) hb)
      have n4_ := Aside0.mk (blk_below (g := gb598) (o := .cells #[.int .i64 a0_0, .slice A0_1 l0_1.length c0_1, .slice A0_2 l0_2.length c0_2] 36 (0, 0)) (bk_ BK598.out) hb)
      have n5_ := Aside0.mk (blk_below (g := gb622) (o := .cells #[.int .i64 t609, .int .i64 t610, .int .i64 t611, .string t612, .slice Ao39 t613.length co39, .slice Ao41 t616.length co41, .slice Ao43 t619.length co43] 42 (0, 0)) (bk_ BK622.out) hb)
      have n6_ := Aside0.mk (blk_below (g := gb623) (o := .cells #[.int .i64 t609, .int .i64 t610, .int .i64 t611, .string t612] 44 (0, 0)) (bk_ BK623.out) hb)
      have n7_ := bt_ hb
      clear HO_7
      clear HO_623004
      clear HO_623005
      clear HO_623006
      clear BK598
      clear BK622
      clear BK623
      clear HB
      have HO_7 := n0_
      have HO_623004 := n1_
      have HO_623005 := n2_
      have HO_623006 := n3_
      have BK598 := n4_
      have BK622 := n5_
      have BK623 := n6_
      have HB := n7_
      clear n0_ n1_ n2_ n3_ n4_ n5_ n6_ n7_
      (try clear hb)
      (try clear hb2)
      (try clear hk)
      (try clear hi)
      refine hK.out _ _ (by first | exact ⟨(blk_cell BK622.out 0).trans rfl, (blk_cell BK622.out 1).trans rfl, (blk_cell BK622.out 2).trans rfl, (blk_cell BK622.out 3).trans rfl, (blk_cell BK622.out 4).trans rfl, (blk_cell BK622.out 5).trans rfl, (blk_cell BK622.out 6).trans rfl, HS7_, HS8_, HS9_, HS10_, HS11_, HS12_, HS13_, HS14_⟩ | exact hHeld) (fun hHeld => ?_)
      clear hK K
      refine norm_ (a' := ?_) ?_ ?_
      rotate_left
      ·show Act.put _ (some 82) _ = _
       simp only [Act.put, sA_, sZ_, sS_, i64_w, i32_w]
       rfl
      refine pure_ (i := 14) (N := some 83) (v := ?_) (a' := ?_) (bf_ 16 32767) rfl rfl (any_of HT_.out (by kernel_rfl)) (fun _ _ _ h => h) (Or.inl ⟨by rfl, ?_⟩) ?_ ?_
      rotate_left
      ·intro w'
       go_simp
       with_reducible rfl
      rotate_left
      ·simp only [Act.put, sA_, sZ_, sS_, i64_w, i32_w]
       rfl
      refine pure_ (i := 15) (N := some 84) (v := ?_) (a' := ?_) (bf_ 16 65535) rfl rfl (any_of HT_.out (by kernel_rfl)) (fun _ _ _ h => h) (Or.inl ⟨by rfl, ?_⟩) ?_ ?_
      rotate_left
      ·intro w'
       go_simp
       with_reducible rfl
      rotate_left
      ·simp only [Act.put, sA_, sZ_, sS_, i64_w, i32_w]
       rfl
      refine done_ (done_of HT_.out (by kernel_rfl)) ?_
      try go_wp2
      go_roundg k2
      case measure => have := HJ3.out; have := HK2.out; omega
      case rel => exact ⟨(wrap64 (x10_2 + 1)), (wrap64 (x11_2 + 1)), rs_, rs_, H', ⟨by have := HJ3.out; have := HK2.out; omega⟩, ⟨rk_ HO_7.out⟩, ⟨rk_ HO_623004.out⟩, ⟨rk_ HO_623005.out⟩, ⟨rk_ HO_623006.out⟩, ⟨bk_ BK598.out⟩, ⟨bk_ BK622.out⟩, ⟨bk_ BK623.out⟩, ⟨bh_⟩⟩
     rw [if_neg c55] at H
     have c55b0 : (((rd_T44 t603 x11_2).f0) == t609 && (((rd_T44 t603 x11_2).f1) == t610 && (((rd_T44 t603 x11_2).f2) == t611 && ((((rd_T44 t603 x11_2).f3).toList) == t612.toList)))) = false := by simpa using c55
     (try (have c55b1 : decide (((rd_T44 t603 x11_2).f0) = t609 && (((rd_T44 t603 x11_2).f1) == t610 && (((rd_T44 t603 x11_2).f2) == t611 && ((((rd_T44 t603 x11_2).f3).toList) == t612.toList)))) = false := by simpa using c55))
     (try (have c55b2 : (((rd_T44 t603 x11_2).f0) == t609 && (((rd_T44 t603 x11_2).f1) == t610 && (((rd_T44 t603 x11_2).f2) == t611 && ((((rd_T44 t603 x11_2).f3).toList) == t612.toList)))) = false := by simpa using c55))
     (try (have c55b3 : ¬ (((rd_T44 t603 x11_2).f0) = t609 && (((rd_T44 t603 x11_2).f1) == t610 && (((rd_T44 t603 x11_2).f2) == t611 && ((((rd_T44 t603 x11_2).f3).toList) == t612.toList)))) := by simpa using c55))
     clear c55
     by_cases c68 : ((rd_T44 t603 x11_2).f0) = 2
     rotate_left
     ·rw [if_neg c68] at H
      have c68b0 : (((rd_T44 t603 x11_2).f0) == 2) = false := beq_eq_false_iff_ne.mpr c68
      have c68b1 : (((rd_T44 t603 x11_2).f0) != 2) = true := bne_iff_ne.mpr c68
      have H' := Aside0.mk H
      clear H
      try go_wp2
      have n0_ := Aside0.mk (Kd.R_drew HO_7.out)
      have n1_ := Aside0.mk (Kd.R_drew HO_623004.out)
      have n2_ := Aside0.mk (Kd.R_drew HO_623005.out)
      have n3_ := Aside0.mk (Kd.R_drew HO_623006.out)
      have n4_ := Aside0.mk (blk_drew BK598.out)
      have n5_ := Aside0.mk (blk_drew BK622.out)
      have n6_ := Aside0.mk (blk_drew BK623.out)
      have n7_ := Aside0.mk (below_drew1 HB.out)
      clear HO_7
      clear HO_623004
      clear HO_623005
      clear HO_623006
      clear BK598
      clear BK622
      clear BK623
      clear HB
      have HO_7 := n0_
      have HO_623004 := n1_
      have HO_623005 := n2_
      have HO_623006 := n3_
      have BK598 := n4_
      have BK622 := n5_
      have BK623 := n6_
      have HB := n7_
      clear n0_ n1_ n2_ n3_ n4_ n5_ n6_ n7_
      have p624 : 0 ≤ (x11_2 : Int) := of_decide_eq_true as_
      have q624 : x11_2 < (t603.length : Int) := of_decide_eq_true as_
      obtain ⟨ad624, e624, hx624_0, hx624_1, hx624_2, hx624_3⟩ := at_T44 (Kd.R_reads' HO_7.out).2.2 x11_2 p624 q624
      cases e624
      replace p624 := eq_true p624
      replace q624 := eq_true q624
      refine start_ (n := 6) (S := fun w' => w'.cell? ⟨gb623, 0, none⟩ = some (.int .i64 t609) ∧ w'.cell? ⟨gb623, 1, none⟩ = some (.int .i64 t610) ∧ w'.cell? ⟨gb623, 2, none⟩ = some (.int .i64 t611) ∧ w'.cell? ⟨gb623, 3, none⟩ = some (.string t612) ∧ w'.cell? (ad624.add ((x11_2).toNat * 4)) = some (.int .i64 ((rd_T44 t603 x11_2).f0)) ∧ w'.cell? ⟨(ad624.add ((x11_2).toNat * 4)).block, (ad624.add ((x11_2).toNat * 4)).off + 1, none⟩ = some (.int .i64 ((rd_T44 t603 x11_2).f1)) ∧ w'.cell? ⟨(ad624.add ((x11_2).toNat * 4)).block, (ad624.add ((x11_2).toNat * 4)).off + 2, none⟩ = some (.int .i64 ((rd_T44 t603 x11_2).f2)) ∧ w'.cell? ⟨(ad624.add ((x11_2).toNat * 4)).block, (ad624.add ((x11_2).toNat * 4)).off + 3, none⟩ = some (.string ((rd_T44 t603 x11_2).f3))) (ds := []) #[false, false, false, false, false, false] (by kernel_rfl) rfl rfl ⟨(blk_cell BK623.out 0).trans rfl, (blk_cell BK623.out 1).trans rfl, (blk_cell BK623.out 2).trans rfl, (blk_cell BK623.out 3).trans rfl, hx624_0, hx624_1, hx624_2, hx624_3⟩ (fun hHeld => ?_)
      generalize wr.drew = w79 at HO_7 HO_623004 HO_623005 HO_623006 BK598 BK622 BK623 HB hx624_0 hx624_1 hx624_2 hx624_3 hHeld ⊢
      refine pure_ (i := 0) (N := some 55) (v := ?_) (a' := ?_) (bf_ 6 1) rfl rfl (by kernel_rfl) (fun _ _ _ h => h) (Or.inl ⟨by rfl, ?_⟩) ?_ ?_
      rotate_left
      ·intro w'
       go_simp
       with_reducible rfl
      rotate_left
      ·simp only [Act.put, sA_, sZ_, sS_, i64_w, i32_w]
       rfl
      refine pure_ (i := 1) (N := some 56) (v := ?_) (a' := ?_) (bf_ 6 3) rfl rfl (by kernel_rfl) (fun _ _ _ h => h) (Or.inl ⟨by rfl, ?_⟩) ?_ ?_
      rotate_left
      ·intro w'
       go_simp
       with_reducible rfl
      rotate_left
      ·simp only [Act.put, sA_, sZ_, sS_, i64_w, i32_w]
       rfl
      refine pure_ (i := 2) (N := some 57) (v := ?_) (a' := ?_) (bf_ 6 7) rfl rfl (by kernel_rfl) (fun _ _ _ h => h) (Or.inl ⟨by rfl, ?_⟩) ?_ ?_
      rotate_left
      ·intro w'
       go_simp
       with_reducible rfl
      rotate_left
      ·simp only [Act.put, sA_, sZ_, sS_, i64_w, i32_w]
       rfl
      refine take_ (i := 3) (N := some 58) (v := ?_) (a' := ?_) (bf_ 6 15) rfl rfl (by kernel_rfl) (fun _ _ _ h => h) (Or.inl ⟨by rfl, ?_⟩) hHeld ?_ ?_
      rotate_left
      ·rintro w' ⟨s0, s1, s2, s3, s4, s5, s6, s7⟩
       go_simp
       with_reducible rfl
      rotate_left
      ·simp only [Act.put, sA_, sZ_, sS_, i64_w, i32_w]
       rfl
      refine take_ (i := 4) (N := some 59) (v := ?_) (a' := ?_) (bf_ 6 31) rfl rfl (by kernel_rfl) (fun _ _ _ h => h) (Or.inl ⟨by rfl, ?_⟩) hHeld ?_ ?_
      rotate_left
      ·rintro w' ⟨s0, s1, s2, s3, s4, s5, s6, s7⟩
       go_simp
       with_reducible rfl
      rotate_left
      ·simp only [Act.put, sA_, sZ_, sS_, i64_w, i32_w]
       rfl
      refine one_ (i := 5) (N := some 60) (bf_ 6 63) rfl rfl (by kernel_rfl) (by decide) (fun K hK => ?_)
      refine goes_ Try.func24 (by kernel_rfl) rfl #[.agg #[.int .i64 ((rd_T44 t603 x11_2).f0), .int .i64 ((rd_T44 t603 x11_2).f1), .int .i64 ((rd_T44 t603 x11_2).f2), .string ((rd_T44 t603 x11_2).f3)], .agg #[.int .i64 t609, .int .i64 t610, .int .i64 t611, .string t612]] (by rfl) rfl rfl (by (try simp only [List.map_toArray, List.map_cons, List.map_nil]); first | done | rfl | (simp only [List.length_drop, List.length_take]; rfl)) ?_
      with_reducible refine (computusref20_Precedes.calls ((rd_T44 t603 x11_2).f0) ((rd_T44 t603 x11_2).f1) ((rd_T44 t603 x11_2).f2) ((rd_T44 t603 x11_2).f3) t609 t610 t611 t612 false _ A53.out).mono ?_
      rintro e w80 ⟨rfl, hb⟩
      have HS4_ := (hb.cell (World.block_lt_of_cell? _ _ (hHeld.2.2.2.2.1))).trans (hHeld.2.2.2.2.1)
      have HS5_ := (hb.cell (World.block_lt_of_cell? _ _ (hHeld.2.2.2.2.2.1))).trans (hHeld.2.2.2.2.2.1)
      have HS6_ := (hb.cell (World.block_lt_of_cell? _ _ (hHeld.2.2.2.2.2.2.1))).trans (hHeld.2.2.2.2.2.2.1)
      have HS7_ := (hb.cell (World.block_lt_of_cell? _ _ (hHeld.2.2.2.2.2.2.2))).trans (hHeld.2.2.2.2.2.2.2)
      refine ⟨_, rfl, ?_⟩
      have n0_ := Aside0.mk (Kd.R_below (rk_ HO_7.out) hb)
      have n1_ := Aside0.mk (Kd.R_below (rk_ HO_623004.out) hb)
      have n2_ := Aside0.mk (Kd.R_below (rk_ HO_623005.out) hb)
      have n3_ := Aside0.mk (Kd.R_below (rk_ HO_623006.out) hb)
      have n4_ := Aside0.mk (blk_below (g := gb598) (o := .cells #[.int .i64 a0_0, .slice A0_1 l0_1.length c0_1, .slice A0_2 l0_2.length c0_2] 36 (0, 0)) (bk_ BK598.out) hb)
      have n5_ := Aside0.mk (blk_below (g := gb622) (o := .cells #[.int .i64 t609, .int .i64 t610, .int .i64 t611, .string t612, .slice Ao39 t613.length co39, .slice Ao41 t616.length co41, .slice Ao43 t619.length co43] 42 (0, 0)) (bk_ BK622.out) hb)
      have n6_ := Aside0.mk (blk_below (g := gb623) (o := .cells #[.int .i64 t609, .int .i64 t610, .int .i64 t611, .string t612] 44 (0, 0)) (bk_ BK623.out) hb)
      have n7_ := bt_ hb
      clear HO_7
      clear HO_623004
      clear HO_623005
      clear HO_623006
      clear BK598
      clear BK622
      clear BK623
      clear HB
      have HO_7 := n0_
      have HO_623004 := n1_
      have HO_623005 := n2_
      have HO_623006 := n3_
      have BK598 := n4_
      have BK622 := n5_
      have BK623 := n6_
      have HB := n7_
      clear n0_ n1_ n2_ n3_ n4_ n5_ n6_ n7_
      (try clear hb)
      (try clear hb2)
      (try clear hk)
      (try clear hi)
      refine hK.out _ _ (by first | exact ⟨(blk_cell BK623.out 0).trans rfl, (blk_cell BK623.out 1).trans rfl, (blk_cell BK623.out 2).trans rfl, (blk_cell BK623.out 3).trans rfl, HS4_, HS5_, HS6_, HS7_⟩ | exact hHeld) (fun hHeld => ?_)
      clear hK K
      refine norm_ (a' := ?_) ?_ ?_
      rotate_left
      ·show Act.put _ (some 60) _ = _
       simp only [Act.put, sA_, sZ_, sS_, i64_w, i32_w]
       rfl
      refine done_ (by kernel_rfl) ?_
      try go_wp2
      have n0_ := Aside0.mk (Kd.R_drew HO_7.out)
      have n1_ := Aside0.mk (Kd.R_drew HO_623004.out)
      have n2_ := Aside0.mk (Kd.R_drew HO_623005.out)
      have n3_ := Aside0.mk (Kd.R_drew HO_623006.out)
      have n4_ := Aside0.mk (blk_drew BK598.out)
      have n5_ := Aside0.mk (blk_drew BK622.out)
      have n6_ := Aside0.mk (blk_drew BK623.out)
      have n7_ := Aside0.mk (below_drew1 HB.out)
      clear HO_7
      clear HO_623004
      clear HO_623005
      clear HO_623006
      clear BK598
      clear BK622
      clear BK623
      clear HB
      have HO_7 := n0_
      have HO_623004 := n1_
      have HO_623005 := n2_
      have HO_623006 := n3_
      have BK598 := n4_
      have BK622 := n5_
      have BK623 := n6_
      have HB := n7_
      clear n0_ n1_ n2_ n3_ n4_ n5_ n6_ n7_
      have p626 : 0 ≤ (x11_2 : Int) := of_decide_eq_true as_
      have q626 : x11_2 < (t603.length : Int) := of_decide_eq_true as_
      obtain ⟨ad626, e626, hx626_0, hx626_1, hx626_2, hx626_3⟩ := at_T44 (Kd.R_reads' HO_7.out).2.2 x11_2 p626 q626
      obtain rfl : ad624 = ad626 := (by injection e626)
      replace p626 := eq_true p626
      replace q626 := eq_true q626
      refine start_ (n := 6) (S := fun w' => w'.cell? ⟨gb623, 0, none⟩ = some (.int .i64 t609) ∧ w'.cell? ⟨gb623, 1, none⟩ = some (.int .i64 t610) ∧ w'.cell? ⟨gb623, 2, none⟩ = some (.int .i64 t611) ∧ w'.cell? ⟨gb623, 3, none⟩ = some (.string t612) ∧ w'.cell? (ad624.add ((x11_2).toNat * 4)) = some (.int .i64 ((rd_T44 t603 x11_2).f0)) ∧ w'.cell? ⟨(ad624.add ((x11_2).toNat * 4)).block, (ad624.add ((x11_2).toNat * 4)).off + 1, none⟩ = some (.int .i64 ((rd_T44 t603 x11_2).f1)) ∧ w'.cell? ⟨(ad624.add ((x11_2).toNat * 4)).block, (ad624.add ((x11_2).toNat * 4)).off + 2, none⟩ = some (.int .i64 ((rd_T44 t603 x11_2).f2)) ∧ w'.cell? ⟨(ad624.add ((x11_2).toNat * 4)).block, (ad624.add ((x11_2).toNat * 4)).off + 3, none⟩ = some (.string ((rd_T44 t603 x11_2).f3))) (ds := []) #[false, false, false, false, false, false] (by kernel_rfl) rfl rfl ⟨(blk_cell BK623.out 0).trans rfl, (blk_cell BK623.out 1).trans rfl, (blk_cell BK623.out 2).trans rfl, (blk_cell BK623.out 3).trans rfl, hx626_0, hx626_1, hx626_2, hx626_3⟩ (fun hHeld => ?_)
      generalize w80.drew = w81 at HO_7 HO_623004 HO_623005 HO_623006 BK598 BK622 BK623 HB hx626_0 hx626_1 hx626_2 hx626_3 hHeld ⊢
      refine pure_ (i := 0) (N := some 61) (v := ?_) (a' := ?_) (bf_ 6 1) rfl rfl (by kernel_rfl) (fun _ _ _ h => h) (Or.inl ⟨by rfl, ?_⟩) ?_ ?_
      rotate_left
      ·intro w'
       go_simp
       with_reducible rfl
      rotate_left
      ·simp only [Act.put, sA_, sZ_, sS_, i64_w, i32_w]
       rfl
      refine pure_ (i := 1) (N := some 62) (v := ?_) (a' := ?_) (bf_ 6 3) rfl rfl (by kernel_rfl) (fun _ _ _ h => h) (Or.inl ⟨by rfl, ?_⟩) ?_ ?_
      rotate_left
      ·intro w'
       go_simp
       with_reducible rfl
      rotate_left
      ·simp only [Act.put, sA_, sZ_, sS_, i64_w, i32_w]
       rfl
      refine pure_ (i := 2) (N := some 63) (v := ?_) (a' := ?_) (bf_ 6 7) rfl rfl (by kernel_rfl) (fun _ _ _ h => h) (Or.inl ⟨by rfl, ?_⟩) ?_ ?_
      rotate_left
      ·intro w'
       go_simp
       with_reducible rfl
      rotate_left
      ·simp only [Act.put, sA_, sZ_, sS_, i64_w, i32_w]
       rfl
      refine take_ (i := 3) (N := some 64) (v := ?_) (a' := ?_) (bf_ 6 15) rfl rfl (by kernel_rfl) (fun _ _ _ h => h) (Or.inl ⟨by rfl, ?_⟩) hHeld ?_ ?_
      rotate_left
      ·rintro w' ⟨s0, s1, s2, s3, s4, s5, s6, s7⟩
       go_simp
       with_reducible rfl
      rotate_left
      ·simp only [Act.put, sA_, sZ_, sS_, i64_w, i32_w]
       rfl
      refine take_ (i := 4) (N := some 65) (v := ?_) (a' := ?_) (bf_ 6 31) rfl rfl (by kernel_rfl) (fun _ _ _ h => h) (Or.inl ⟨by rfl, ?_⟩) hHeld ?_ ?_
      rotate_left
      ·rintro w' ⟨s0, s1, s2, s3, s4, s5, s6, s7⟩
       go_simp
       with_reducible rfl
      rotate_left
      ·simp only [Act.put, sA_, sZ_, sS_, i64_w, i32_w]
       rfl
      refine pure_ (i := 5) (N := some 66) (v := ?_) (a' := ?_) (bf_ 6 63) rfl rfl (by kernel_rfl) (fun _ _ _ h => h) (Or.inl ⟨by rfl, ?_⟩) ?_ ?_
      rotate_left
      ·intro w'
       go_simp
       with_reducible rfl
      rotate_left
      ·simp only [Act.put, sA_, sZ_, sS_, i64_w, i32_w]
       rfl
      refine done_ (by kernel_rfl) ?_
      try go_wp2
      have n0_ := Aside0.mk (Kd.R_drew HO_7.out)
      have n1_ := Aside0.mk (Kd.R_drew HO_623004.out)
      have n2_ := Aside0.mk (Kd.R_drew HO_623005.out)
      have n3_ := Aside0.mk (Kd.R_drew HO_623006.out)
      have n4_ := Aside0.mk (blk_drew BK598.out)
      have n5_ := Aside0.mk (blk_drew BK622.out)
      have n6_ := Aside0.mk (blk_drew BK623.out)
      have n7_ := Aside0.mk (below_drew1 HB.out)
      clear HO_7
      clear HO_623004
      clear HO_623005
      clear HO_623006
      clear BK598
      clear BK622
      clear BK623
      clear HB
      have HO_7 := n0_
      have HO_623004 := n1_
      have HO_623005 := n2_
      have HO_623006 := n3_
      have BK598 := n4_
      have BK622 := n5_
      have BK623 := n6_
      have HB := n7_
      clear n0_ n1_ n2_ n3_ n4_ n5_ n6_ n7_
      have p630 : 0 ≤ (x11_2 : Int) := of_decide_eq_true as_
      have q630 : x11_2 < (t603.length : Int) := of_decide_eq_true as_
      obtain ⟨ad630, e630, hx630_0, hx630_1, hx630_2, hx630_3⟩ := at_T44 (Kd.R_reads' HO_7.out).2.2 x11_2 p630 q630
      obtain rfl : ad624 = ad630 := (by injection e630)
      replace p630 := eq_true p630
      replace q630 := eq_true q630
      refine start_ (n := 27) (S := fun w' => w'.cell? (ad624.add ((x11_2).toNat * 4)) = some (.int .i64 ((rd_T44 t603 x11_2).f0)) ∧ w'.cell? ⟨(ad624.add ((x11_2).toNat * 4)).block, (ad624.add ((x11_2).toNat * 4)).off + 1, none⟩ = some (.int .i64 ((rd_T44 t603 x11_2).f1)) ∧ w'.cell? ⟨(ad624.add ((x11_2).toNat * 4)).block, (ad624.add ((x11_2).toNat * 4)).off + 2, none⟩ = some (.int .i64 ((rd_T44 t603 x11_2).f2)) ∧ w'.cell? ⟨(ad624.add ((x11_2).toNat * 4)).block, (ad624.add ((x11_2).toNat * 4)).off + 3, none⟩ = some (.string ((rd_T44 t603 x11_2).f3))) (ds := []) #[false, false, false, false, false, false, false, false, false, false, false, false, false, false, false, false, false, false, false, false, false, false, false, false, false, false, false] (by kernel_rfl) rfl rfl ⟨hx630_0, hx630_1, hx630_2, hx630_3⟩ (fun hHeld => ?_); refine with_tabW computuslaw21_OccurrenceSplits.tab16 computuslaw21_OccurrenceSplits.bits16 (fun HT_ HW_ => ?_)
      generalize w81.drew = w82 at HO_7 HO_623004 HO_623005 HO_623006 BK598 BK622 BK623 HB hx630_0 hx630_1 hx630_2 hx630_3 hHeld ⊢
      refine pure_ (i := 0) (N := some 85) (v := ?_) (a' := ?_) (bf_ 27 1) rfl rfl (any_of HT_.out (by kernel_rfl)) (fun _ _ _ h => h) (Or.inl ⟨by rfl, ?_⟩) ?_ ?_
      rotate_left
      ·intro w'
       go_simp
       with_reducible rfl
      rotate_left
      ·simp only [Act.put, sA_, sZ_, sS_, i64_w, i32_w]
       rfl
      refine pure_ (i := 1) (N := some 86) (v := ?_) (a' := ?_) (bf_ 27 3) rfl rfl (any_of HT_.out (by kernel_rfl)) (fun _ _ _ h => h) (Or.inl ⟨by rfl, ?_⟩) ?_ ?_
      rotate_left
      ·intro w'
       go_simp
       with_reducible rfl
      rotate_left
      ·simp only [Act.put, sA_, sZ_, sS_, i64_w, i32_w]
       rfl
      refine pure_ (i := 2) (N := some 87) (v := ?_) (a' := ?_) (bf_ 27 7) rfl rfl (any_of HT_.out (by kernel_rfl)) (fun _ _ _ h => h) (Or.inl ⟨by rfl, ?_⟩) ?_ ?_
      rotate_left
      ·intro w'
       go_simp
       with_reducible rfl
      rotate_left
      ·simp only [Act.put, sA_, sZ_, sS_, i64_w, i32_w]
       rfl
      refine pure_ (i := 3) (N := some 88) (v := ?_) (a' := ?_) (bf_ 27 15) rfl rfl (any_of HT_.out (by kernel_rfl)) (fun _ _ _ h => h) (Or.inl ⟨by rfl, ?_⟩) ?_ ?_
      rotate_left
      ·intro w'
       go_simp
       with_reducible rfl
      rotate_left
      ·simp only [Act.put, sA_, sZ_, sS_, i64_w, i32_w]
       rfl
      refine take_ (i := 4) (N := some 89) (v := ?_) (a' := ?_) (bf_ 27 31) rfl rfl (take_ofW HT_.out HW_.out (by kernel_rfl)) (fun _ _ _ h => h) (Or.inl ⟨by rfl, ?_⟩) hHeld ?_ ?_
      rotate_left
      ·rintro w' ⟨s0, s1, s2, s3⟩
       go_simp
       with_reducible rfl
      rotate_left
      ·simp only [Act.put, sA_, sZ_, sS_, i64_w, i32_w]
       rfl
      refine pure_ (i := 5) (N := some 90) (v := ?_) (a' := ?_) (bf_ 27 63) rfl rfl (any_of HT_.out (by kernel_rfl)) (fun _ _ _ h => h) (Or.inl ⟨by rfl, ?_⟩) ?_ ?_
      rotate_left
      ·intro w'
       go_simp
       with_reducible rfl
      rotate_left
      ·simp only [Act.put, sA_, sZ_, sS_, i64_w, i32_w]
       rfl
      refine pure_ (i := 6) (N := some 91) (v := ?_) (a' := ?_) (bf_ 27 127) rfl rfl (any_of HT_.out (by kernel_rfl)) (fun _ _ _ h => h) (Or.inl ⟨by rfl, ?_⟩) ?_ ?_
      rotate_left
      ·intro w'
       go_simp
       with_reducible rfl
      rotate_left
      ·simp only [Act.put, sA_, sZ_, sS_, i64_w, i32_w]
       rfl
      refine pure_ (i := 7) (N := some 92) (v := undef) (a' := ?_) (bf_ 27 255) rfl rfl (any_of HT_.out (by kernel_rfl)) (fun _ _ _ h => h) (Or.inr ⟨by rfl, rfl⟩) ?_ ?_
      rotate_left
      ·simp only [Act.put, sA_, sZ_, sS_, i64_w, i32_w]
       rfl
      refine pure_ (i := 8) (N := some 93) (v := undef) (a' := ?_) (bf_ 27 511) rfl rfl (any_of HT_.out (by kernel_rfl)) (fun _ _ _ h => h) (Or.inr ⟨by rfl, rfl⟩) ?_ ?_
      rotate_left
      ·simp only [Act.put, sA_, sZ_, sS_, i64_w, i32_w]
       rfl
      refine pure_ (i := 9) (N := some 94) (v := undef) (a' := ?_) (bf_ 27 1023) rfl rfl (any_of HT_.out (by kernel_rfl)) (fun _ _ _ h => h) (Or.inr ⟨by rfl, rfl⟩) ?_ ?_
      rotate_left
      ·simp only [Act.put, sA_, sZ_, sS_, i64_w, i32_w]
       rfl
      refine pure_ (i := 10) (N := some 95) (v := undef) (a' := ?_) (bf_ 27 2047) rfl rfl (any_of HT_.out (by kernel_rfl)) (fun _ _ _ h => h) (Or.inr ⟨by rfl, rfl⟩) ?_ ?_
      rotate_left
      ·simp only [Act.put, sA_, sZ_, sS_, i64_w, i32_w]
       rfl
      refine pure_ (i := 11) (N := some 96) (v := undef) (a' := ?_) (bf_ 27 4095) rfl rfl (any_of HT_.out (by kernel_rfl)) (fun _ _ _ h => h) (Or.inr ⟨by rfl, rfl⟩) ?_ ?_
      rotate_left
      ·simp only [Act.put, sA_, sZ_, sS_, i64_w, i32_w]
       rfl
      refine pure_ (i := 12) (N := some 97) (v := undef) (a' := ?_) (bf_ 27 8191) rfl rfl (any_of HT_.out (by kernel_rfl)) (fun _ _ _ h => h) (Or.inr ⟨by rfl, rfl⟩) ?_ ?_
      rotate_left
      ·simp only [Act.put, sA_, sZ_, sS_, i64_w, i32_w]
       rfl
      refine pure_ (i := 13) (N := some 98) (v := undef) (a' := ?_) (bf_ 27 16383) rfl rfl (any_of HT_.out (by kernel_rfl)) (fun _ _ _ h => h) (Or.inr ⟨by rfl, rfl⟩) ?_ ?_
      rotate_left
      ·simp only [Act.put, sA_, sZ_, sS_, i64_w, i32_w]
       rfl
      refine pure_ (i := 14) (N := some 99) (v := undef) (a' := ?_) (bf_ 27 32767) rfl rfl (any_of HT_.out (by kernel_rfl)) (fun _ _ _ h => h) (Or.inr ⟨by rfl, rfl⟩) ?_ ?_
      rotate_left
      ·simp only [Act.put, sA_, sZ_, sS_, i64_w, i32_w]
       rfl
      refine pure_ (i := 15) (N := some 100) (v := undef) (a' := ?_) (bf_ 27 65535) rfl rfl (any_of HT_.out (by kernel_rfl)) (fun _ _ _ h => h) (Or.inr ⟨by rfl, rfl⟩) ?_ ?_
      rotate_left
      ·simp only [Act.put, sA_, sZ_, sS_, i64_w, i32_w]
       rfl
      refine pure_ (i := 16) (N := some 101) (v := undef) (a' := ?_) (bf_ 27 131071) rfl rfl (any_of HT_.out (by kernel_rfl)) (fun _ _ _ h => h) (Or.inr ⟨by rfl, rfl⟩) ?_ ?_
      rotate_left
      ·simp only [Act.put, sA_, sZ_, sS_, i64_w, i32_w]
       rfl
      refine pure_ (i := 17) (N := some 102) (v := undef) (a' := ?_) (bf_ 27 262143) rfl rfl (any_of HT_.out (by kernel_rfl)) (fun _ _ _ h => h) (Or.inr ⟨by rfl, rfl⟩) ?_ ?_
      rotate_left
      ·simp only [Act.put, sA_, sZ_, sS_, i64_w, i32_w]
       rfl
      refine pure_ (i := 18) (N := some 103) (v := undef) (a' := ?_) (bf_ 27 524287) rfl rfl (any_of HT_.out (by kernel_rfl)) (fun _ _ _ h => h) (Or.inr ⟨by rfl, rfl⟩) ?_ ?_
      rotate_left
      ·simp only [Act.put, sA_, sZ_, sS_, i64_w, i32_w]
       rfl
      refine pure_ (i := 19) (N := some 104) (v := undef) (a' := ?_) (bf_ 27 1048575) rfl rfl (any_of HT_.out (by kernel_rfl)) (fun _ _ _ h => h) (Or.inr ⟨by rfl, rfl⟩) ?_ ?_
      rotate_left
      ·simp only [Act.put, sA_, sZ_, sS_, i64_w, i32_w]
       rfl
      refine pure_ (i := 20) (N := some 105) (v := undef) (a' := ?_) (bf_ 27 2097151) rfl rfl (any_of HT_.out (by kernel_rfl)) (fun _ _ _ h => h) (Or.inr ⟨by rfl, rfl⟩) ?_ ?_
      rotate_left
      ·simp only [Act.put, sA_, sZ_, sS_, i64_w, i32_w]
       rfl
      refine pure_ (i := 21) (N := some 106) (v := undef) (a' := ?_) (bf_ 27 4194303) rfl rfl (any_of HT_.out (by kernel_rfl)) (fun _ _ _ h => h) (Or.inr ⟨by rfl, rfl⟩) ?_ ?_
      rotate_left
      ·simp only [Act.put, sA_, sZ_, sS_, i64_w, i32_w]
       rfl
      refine pure_ (i := 22) (N := some 107) (v := undef) (a' := ?_) (bf_ 27 8388607) rfl rfl (any_of HT_.out (by kernel_rfl)) (fun _ _ _ h => h) (Or.inr ⟨by rfl, rfl⟩) ?_ ?_
      rotate_left
      ·simp only [Act.put, sA_, sZ_, sS_, i64_w, i32_w]
       rfl
      refine pure_ (i := 23) (N := some 108) (v := undef) (a' := ?_) (bf_ 27 16777215) rfl rfl (any_of HT_.out (by kernel_rfl)) (fun _ _ _ h => h) (Or.inr ⟨by rfl, rfl⟩) ?_ ?_
      rotate_left
      ·simp only [Act.put, sA_, sZ_, sS_, i64_w, i32_w]
       rfl
      refine pure_ (i := 24) (N := some 109) (v := undef) (a' := ?_) (bf_ 27 33554431) rfl rfl (any_of HT_.out (by kernel_rfl)) (fun _ _ _ h => h) (Or.inr ⟨by rfl, rfl⟩) ?_ ?_
      rotate_left
      ·simp only [Act.put, sA_, sZ_, sS_, i64_w, i32_w]
       rfl
      refine pure_ (i := 25) (N := some 110) (v := undef) (a' := ?_) (bf_ 27 67108863) rfl rfl (any_of HT_.out (by kernel_rfl)) (fun _ _ _ h => h) (Or.inr ⟨by rfl, rfl⟩) ?_ ?_
      rotate_left
      ·simp only [Act.put, sA_, sZ_, sS_, i64_w, i32_w]
       rfl
      refine pure_ (i := 26) (N := some 111) (v := ?_) (a' := ?_) (bf_ 27 134217727) rfl rfl (any_of HT_.out (by kernel_rfl)) (fun _ _ _ h => h) (Or.inl ⟨by rfl, ?_⟩) ?_ ?_
      rotate_left
      ·intro w'
       go_simp
       with_reducible rfl
      rotate_left
      ·simp only [Act.put, sA_, sZ_, sS_, i64_w, i32_w]
       rfl
      refine done_ (done_of HT_.out (by kernel_rfl)) ?_
      try go_wp2
      go_roundg k2
      case measure => have := HJ3.out; have := HK2.out; omega
      case rel => exact ⟨(x10_2), (wrap64 (x11_2 + 1)), rs_, rs_, H', ⟨by have := HJ3.out; have := HK2.out; omega⟩, ⟨rk_ HO_7.out⟩, ⟨rk_ HO_623004.out⟩, ⟨rk_ HO_623005.out⟩, ⟨rk_ HO_623006.out⟩, ⟨bk_ BK598.out⟩, ⟨bk_ BK622.out⟩, ⟨bk_ BK623.out⟩, ⟨bh_⟩⟩
     rw [if_pos c68] at H
     have c68b0 : (((rd_T44 t603 x11_2).f0) == 2) = true := beq_iff_eq.mpr c68
     have c68b1 : (((rd_T44 t603 x11_2).f0) != 2) = false := bne_eq_false_iff_eq.mpr c68
     clear c68
     obtain ⟨t632, A69, H⟩ := bs_ H
     by_cases c70 : t632 = 1
     rotate_left
     ·rw [if_neg c70] at H
      exact absurd H (by simp)
     rw [if_pos c70] at H
     have c70b0 : (t632 == 1) = true := beq_iff_eq.mpr c70
     have c70b1 : (t632 != 1) = false := bne_eq_false_iff_eq.mpr c70
     clear c70
     obtain ⟨t634, A71, H⟩ := bs_ H
     by_cases c72 : t634 = true
     rotate_left
     ·replace c72 := Bool.eq_false_iff.mpr c72
      subst c72
      replace H := if_ H
      exact absurd H (by simp)
     subst c72
     replace H := it_ H
     have H' := Aside0.mk H
     clear H
     try go_wp2
     have n0_ := Aside0.mk (Kd.R_drew HO_7.out)
     have n1_ := Aside0.mk (Kd.R_drew HO_623004.out)
     have n2_ := Aside0.mk (Kd.R_drew HO_623005.out)
     have n3_ := Aside0.mk (Kd.R_drew HO_623006.out)
     have n4_ := Aside0.mk (blk_drew BK598.out)
     have n5_ := Aside0.mk (blk_drew BK622.out)
     have n6_ := Aside0.mk (blk_drew BK623.out)
     have n7_ := Aside0.mk (below_drew1 HB.out)
     clear HO_7
     clear HO_623004
     clear HO_623005
     clear HO_623006
     clear BK598
     clear BK622
     clear BK623
     clear HB
     have HO_7 := n0_
     have HO_623004 := n1_
     have HO_623005 := n2_
     have HO_623006 := n3_
     have BK598 := n4_
     have BK622 := n5_
     have BK623 := n6_
     have HB := n7_
     clear n0_ n1_ n2_ n3_ n4_ n5_ n6_ n7_
     have p624 : 0 ≤ (x11_2 : Int) := of_decide_eq_true as_
     have q624 : x11_2 < (t603.length : Int) := of_decide_eq_true as_
     obtain ⟨ad624, e624, hx624_0, hx624_1, hx624_2, hx624_3⟩ := at_T44 (Kd.R_reads' HO_7.out).2.2 x11_2 p624 q624
     cases e624
     replace p624 := eq_true p624
     replace q624 := eq_true q624
     refine start_ (n := 6) (S := fun w' => w'.cell? ⟨gb623, 0, none⟩ = some (.int .i64 t609) ∧ w'.cell? ⟨gb623, 1, none⟩ = some (.int .i64 t610) ∧ w'.cell? ⟨gb623, 2, none⟩ = some (.int .i64 t611) ∧ w'.cell? ⟨gb623, 3, none⟩ = some (.string t612) ∧ w'.cell? (ad624.add ((x11_2).toNat * 4)) = some (.int .i64 ((rd_T44 t603 x11_2).f0)) ∧ w'.cell? ⟨(ad624.add ((x11_2).toNat * 4)).block, (ad624.add ((x11_2).toNat * 4)).off + 1, none⟩ = some (.int .i64 ((rd_T44 t603 x11_2).f1)) ∧ w'.cell? ⟨(ad624.add ((x11_2).toNat * 4)).block, (ad624.add ((x11_2).toNat * 4)).off + 2, none⟩ = some (.int .i64 ((rd_T44 t603 x11_2).f2)) ∧ w'.cell? ⟨(ad624.add ((x11_2).toNat * 4)).block, (ad624.add ((x11_2).toNat * 4)).off + 3, none⟩ = some (.string ((rd_T44 t603 x11_2).f3))) (ds := []) #[false, false, false, false, false, false] (by kernel_rfl) rfl rfl ⟨(blk_cell BK623.out 0).trans rfl, (blk_cell BK623.out 1).trans rfl, (blk_cell BK623.out 2).trans rfl, (blk_cell BK623.out 3).trans rfl, hx624_0, hx624_1, hx624_2, hx624_3⟩ (fun hHeld => ?_)
     generalize wr.drew = w73 at HO_7 HO_623004 HO_623005 HO_623006 BK598 BK622 BK623 HB hx624_0 hx624_1 hx624_2 hx624_3 hHeld ⊢
     refine pure_ (i := 0) (N := some 55) (v := ?_) (a' := ?_) (bf_ 6 1) rfl rfl (by kernel_rfl) (fun _ _ _ h => h) (Or.inl ⟨by rfl, ?_⟩) ?_ ?_
     rotate_left
     ·intro w'
      go_simp
      with_reducible rfl
     rotate_left
     ·simp only [Act.put, sA_, sZ_, sS_, i64_w, i32_w]
      rfl
     refine pure_ (i := 1) (N := some 56) (v := ?_) (a' := ?_) (bf_ 6 3) rfl rfl (by kernel_rfl) (fun _ _ _ h => h) (Or.inl ⟨by rfl, ?_⟩) ?_ ?_
     rotate_left
     ·intro w'
      go_simp
      with_reducible rfl
     rotate_left
     ·simp only [Act.put, sA_, sZ_, sS_, i64_w, i32_w]
      rfl
     refine pure_ (i := 2) (N := some 57) (v := ?_) (a' := ?_) (bf_ 6 7) rfl rfl (by kernel_rfl) (fun _ _ _ h => h) (Or.inl ⟨by rfl, ?_⟩) ?_ ?_
     rotate_left
     ·intro w'
      go_simp
      with_reducible rfl
     rotate_left
     ·simp only [Act.put, sA_, sZ_, sS_, i64_w, i32_w]
      rfl
     refine take_ (i := 3) (N := some 58) (v := ?_) (a' := ?_) (bf_ 6 15) rfl rfl (by kernel_rfl) (fun _ _ _ h => h) (Or.inl ⟨by rfl, ?_⟩) hHeld ?_ ?_
     rotate_left
     ·rintro w' ⟨s0, s1, s2, s3, s4, s5, s6, s7⟩
      go_simp
      with_reducible rfl
     rotate_left
     ·simp only [Act.put, sA_, sZ_, sS_, i64_w, i32_w]
      rfl
     refine take_ (i := 4) (N := some 59) (v := ?_) (a' := ?_) (bf_ 6 31) rfl rfl (by kernel_rfl) (fun _ _ _ h => h) (Or.inl ⟨by rfl, ?_⟩) hHeld ?_ ?_
     rotate_left
     ·rintro w' ⟨s0, s1, s2, s3, s4, s5, s6, s7⟩
      go_simp
      with_reducible rfl
     rotate_left
     ·simp only [Act.put, sA_, sZ_, sS_, i64_w, i32_w]
      rfl
     refine one_ (i := 5) (N := some 60) (bf_ 6 63) rfl rfl (by kernel_rfl) (by decide) (fun K hK => ?_)
     refine goes_ Try.func24 (by kernel_rfl) rfl #[.agg #[.int .i64 ((rd_T44 t603 x11_2).f0), .int .i64 ((rd_T44 t603 x11_2).f1), .int .i64 ((rd_T44 t603 x11_2).f2), .string ((rd_T44 t603 x11_2).f3)], .agg #[.int .i64 t609, .int .i64 t610, .int .i64 t611, .string t612]] (by rfl) rfl rfl (by (try simp only [List.map_toArray, List.map_cons, List.map_nil]); first | done | rfl | (simp only [List.length_drop, List.length_take]; rfl)) ?_
     with_reducible refine (computusref20_Precedes.calls ((rd_T44 t603 x11_2).f0) ((rd_T44 t603 x11_2).f1) ((rd_T44 t603 x11_2).f2) ((rd_T44 t603 x11_2).f3) t609 t610 t611 t612 false _ A53.out).mono ?_
     rintro e w74 ⟨rfl, hb⟩
     have HS4_ := (hb.cell (World.block_lt_of_cell? _ _ (hHeld.2.2.2.2.1))).trans (hHeld.2.2.2.2.1)
     have HS5_ := (hb.cell (World.block_lt_of_cell? _ _ (hHeld.2.2.2.2.2.1))).trans (hHeld.2.2.2.2.2.1)
     have HS6_ := (hb.cell (World.block_lt_of_cell? _ _ (hHeld.2.2.2.2.2.2.1))).trans (hHeld.2.2.2.2.2.2.1)
     have HS7_ := (hb.cell (World.block_lt_of_cell? _ _ (hHeld.2.2.2.2.2.2.2))).trans (hHeld.2.2.2.2.2.2.2)
     refine ⟨_, rfl, ?_⟩
     have n0_ := Aside0.mk (Kd.R_below (rk_ HO_7.out) hb)
     have n1_ := Aside0.mk (Kd.R_below (rk_ HO_623004.out) hb)
     have n2_ := Aside0.mk (Kd.R_below (rk_ HO_623005.out) hb)
     have n3_ := Aside0.mk (Kd.R_below (rk_ HO_623006.out) hb)
     have n4_ := Aside0.mk (blk_below (g := gb598) (o := .cells #[.int .i64 a0_0, .slice A0_1 l0_1.length c0_1, .slice A0_2 l0_2.length c0_2] 36 (0, 0)) (bk_ BK598.out) hb)
     have n5_ := Aside0.mk (blk_below (g := gb622) (o := .cells #[.int .i64 t609, .int .i64 t610, .int .i64 t611, .string t612, .slice Ao39 t613.length co39, .slice Ao41 t616.length co41, .slice Ao43 t619.length co43] 42 (0, 0)) (bk_ BK622.out) hb)
     have n6_ := Aside0.mk (blk_below (g := gb623) (o := .cells #[.int .i64 t609, .int .i64 t610, .int .i64 t611, .string t612] 44 (0, 0)) (bk_ BK623.out) hb)
     have n7_ := bt_ hb
     clear HO_7
     clear HO_623004
     clear HO_623005
     clear HO_623006
     clear BK598
     clear BK622
     clear BK623
     clear HB
     have HO_7 := n0_
     have HO_623004 := n1_
     have HO_623005 := n2_
     have HO_623006 := n3_
     have BK598 := n4_
     have BK622 := n5_
     have BK623 := n6_
     have HB := n7_
     clear n0_ n1_ n2_ n3_ n4_ n5_ n6_ n7_
     (try clear hb)
     (try clear hb2)
     (try clear hk)
     (try clear hi)
     refine hK.out _ _ (by first | exact ⟨(blk_cell BK623.out 0).trans rfl, (blk_cell BK623.out 1).trans rfl, (blk_cell BK623.out 2).trans rfl, (blk_cell BK623.out 3).trans rfl, HS4_, HS5_, HS6_, HS7_⟩ | exact hHeld) (fun hHeld => ?_)
     clear hK K
     refine norm_ (a' := ?_) ?_ ?_
     rotate_left
     ·show Act.put _ (some 60) _ = _
      simp only [Act.put, sA_, sZ_, sS_, i64_w, i32_w]
      rfl
     refine done_ (by kernel_rfl) ?_
     try go_wp2
     have n0_ := Aside0.mk (Kd.R_drew HO_7.out)
     have n1_ := Aside0.mk (Kd.R_drew HO_623004.out)
     have n2_ := Aside0.mk (Kd.R_drew HO_623005.out)
     have n3_ := Aside0.mk (Kd.R_drew HO_623006.out)
     have n4_ := Aside0.mk (blk_drew BK598.out)
     have n5_ := Aside0.mk (blk_drew BK622.out)
     have n6_ := Aside0.mk (blk_drew BK623.out)
     have n7_ := Aside0.mk (below_drew1 HB.out)
     clear HO_7
     clear HO_623004
     clear HO_623005
     clear HO_623006
     clear BK598
     clear BK622
     clear BK623
     clear HB
     have HO_7 := n0_
     have HO_623004 := n1_
     have HO_623005 := n2_
     have HO_623006 := n3_
     have BK598 := n4_
     have BK622 := n5_
     have BK623 := n6_
     have HB := n7_
     clear n0_ n1_ n2_ n3_ n4_ n5_ n6_ n7_
     have p626 : 0 ≤ (x11_2 : Int) := of_decide_eq_true as_
     have q626 : x11_2 < (t603.length : Int) := of_decide_eq_true as_
     obtain ⟨ad626, e626, hx626_0, hx626_1, hx626_2, hx626_3⟩ := at_T44 (Kd.R_reads' HO_7.out).2.2 x11_2 p626 q626
     obtain rfl : ad624 = ad626 := (by injection e626)
     replace p626 := eq_true p626
     replace q626 := eq_true q626
     refine start_ (n := 6) (S := fun w' => w'.cell? ⟨gb623, 0, none⟩ = some (.int .i64 t609) ∧ w'.cell? ⟨gb623, 1, none⟩ = some (.int .i64 t610) ∧ w'.cell? ⟨gb623, 2, none⟩ = some (.int .i64 t611) ∧ w'.cell? ⟨gb623, 3, none⟩ = some (.string t612) ∧ w'.cell? (ad624.add ((x11_2).toNat * 4)) = some (.int .i64 ((rd_T44 t603 x11_2).f0)) ∧ w'.cell? ⟨(ad624.add ((x11_2).toNat * 4)).block, (ad624.add ((x11_2).toNat * 4)).off + 1, none⟩ = some (.int .i64 ((rd_T44 t603 x11_2).f1)) ∧ w'.cell? ⟨(ad624.add ((x11_2).toNat * 4)).block, (ad624.add ((x11_2).toNat * 4)).off + 2, none⟩ = some (.int .i64 ((rd_T44 t603 x11_2).f2)) ∧ w'.cell? ⟨(ad624.add ((x11_2).toNat * 4)).block, (ad624.add ((x11_2).toNat * 4)).off + 3, none⟩ = some (.string ((rd_T44 t603 x11_2).f3))) (ds := []) #[false, false, false, false, false, false] (by kernel_rfl) rfl rfl ⟨(blk_cell BK623.out 0).trans rfl, (blk_cell BK623.out 1).trans rfl, (blk_cell BK623.out 2).trans rfl, (blk_cell BK623.out 3).trans rfl, hx626_0, hx626_1, hx626_2, hx626_3⟩ (fun hHeld => ?_)
     generalize w74.drew = w75 at HO_7 HO_623004 HO_623005 HO_623006 BK598 BK622 BK623 HB hx626_0 hx626_1 hx626_2 hx626_3 hHeld ⊢
     refine pure_ (i := 0) (N := some 61) (v := ?_) (a' := ?_) (bf_ 6 1) rfl rfl (by kernel_rfl) (fun _ _ _ h => h) (Or.inl ⟨by rfl, ?_⟩) ?_ ?_
     rotate_left
     ·intro w'
      go_simp
      with_reducible rfl
     rotate_left
     ·simp only [Act.put, sA_, sZ_, sS_, i64_w, i32_w]
      rfl
     refine pure_ (i := 1) (N := some 62) (v := ?_) (a' := ?_) (bf_ 6 3) rfl rfl (by kernel_rfl) (fun _ _ _ h => h) (Or.inl ⟨by rfl, ?_⟩) ?_ ?_
     rotate_left
     ·intro w'
      go_simp
      with_reducible rfl
     rotate_left
     ·simp only [Act.put, sA_, sZ_, sS_, i64_w, i32_w]
      rfl
     refine pure_ (i := 2) (N := some 63) (v := ?_) (a' := ?_) (bf_ 6 7) rfl rfl (by kernel_rfl) (fun _ _ _ h => h) (Or.inl ⟨by rfl, ?_⟩) ?_ ?_
     rotate_left
     ·intro w'
      go_simp
      with_reducible rfl
     rotate_left
     ·simp only [Act.put, sA_, sZ_, sS_, i64_w, i32_w]
      rfl
     refine take_ (i := 3) (N := some 64) (v := ?_) (a' := ?_) (bf_ 6 15) rfl rfl (by kernel_rfl) (fun _ _ _ h => h) (Or.inl ⟨by rfl, ?_⟩) hHeld ?_ ?_
     rotate_left
     ·rintro w' ⟨s0, s1, s2, s3, s4, s5, s6, s7⟩
      go_simp
      with_reducible rfl
     rotate_left
     ·simp only [Act.put, sA_, sZ_, sS_, i64_w, i32_w]
      rfl
     refine take_ (i := 4) (N := some 65) (v := ?_) (a' := ?_) (bf_ 6 31) rfl rfl (by kernel_rfl) (fun _ _ _ h => h) (Or.inl ⟨by rfl, ?_⟩) hHeld ?_ ?_
     rotate_left
     ·rintro w' ⟨s0, s1, s2, s3, s4, s5, s6, s7⟩
      go_simp
      with_reducible rfl
     rotate_left
     ·simp only [Act.put, sA_, sZ_, sS_, i64_w, i32_w]
      rfl
     refine pure_ (i := 5) (N := some 66) (v := ?_) (a' := ?_) (bf_ 6 63) rfl rfl (by kernel_rfl) (fun _ _ _ h => h) (Or.inl ⟨by rfl, ?_⟩) ?_ ?_
     rotate_left
     ·intro w'
      go_simp
      with_reducible rfl
     rotate_left
     ·simp only [Act.put, sA_, sZ_, sS_, i64_w, i32_w]
      rfl
     refine done_ (by kernel_rfl) ?_
     try go_wp2
     have n0_ := Aside0.mk (Kd.R_drew HO_7.out)
     have n1_ := Aside0.mk (Kd.R_drew HO_623004.out)
     have n2_ := Aside0.mk (Kd.R_drew HO_623005.out)
     have n3_ := Aside0.mk (Kd.R_drew HO_623006.out)
     have n4_ := Aside0.mk (blk_drew BK598.out)
     have n5_ := Aside0.mk (blk_drew BK622.out)
     have n6_ := Aside0.mk (blk_drew BK623.out)
     have n7_ := Aside0.mk (below_drew1 HB.out)
     clear HO_7
     clear HO_623004
     clear HO_623005
     clear HO_623006
     clear BK598
     clear BK622
     clear BK623
     clear HB
     have HO_7 := n0_
     have HO_623004 := n1_
     have HO_623005 := n2_
     have HO_623006 := n3_
     have BK598 := n4_
     have BK622 := n5_
     have BK623 := n6_
     have HB := n7_
     clear n0_ n1_ n2_ n3_ n4_ n5_ n6_ n7_
     have p630 : 0 ≤ (x11_2 : Int) := of_decide_eq_true as_
     have q630 : x11_2 < (t603.length : Int) := of_decide_eq_true as_
     obtain ⟨ad630, e630, hx630_0, hx630_1, hx630_2, hx630_3⟩ := at_T44 (Kd.R_reads' HO_7.out).2.2 x11_2 p630 q630
     obtain rfl : ad624 = ad630 := (by injection e630)
     replace p630 := eq_true p630
     replace q630 := eq_true q630
     have p631 : 0 ≤ (x11_2 : Int) := of_decide_eq_true as_
     have q631 : x11_2 < (t603.length : Int) := of_decide_eq_true as_
     obtain ⟨ad631, e631, hx631_0, hx631_1, hx631_2, hx631_3⟩ := at_T44 (Kd.R_reads' HO_7.out).2.2 x11_2 p631 q631
     obtain rfl : ad624 = ad631 := (by injection e631)
     replace p631 := eq_true p631
     replace q631 := eq_true q631
     have p633 : 0 ≤ (x11_2 : Int) := of_decide_eq_true as_
     have q633 : x11_2 < (t603.length : Int) := of_decide_eq_true as_
     obtain ⟨ad633, e633, hx633_0, hx633_1, hx633_2, hx633_3⟩ := at_T44 (Kd.R_reads' HO_7.out).2.2 x11_2 p633 q633
     obtain rfl : ad624 = ad633 := (by injection e633)
     replace p633 := eq_true p633
     replace q633 := eq_true q633
     refine start_ (n := 27) (S := fun w' => w'.cell? ⟨gb622, 0, none⟩ = some (.int .i64 t609) ∧ w'.cell? ⟨gb622, 1, none⟩ = some (.int .i64 t610) ∧ w'.cell? ⟨gb622, 2, none⟩ = some (.int .i64 t611) ∧ w'.cell? ⟨gb622, 3, none⟩ = some (.string t612) ∧ w'.cell? ⟨gb622, 4, none⟩ = some (.slice Ao39 t613.length co39) ∧ w'.cell? ⟨gb622, 5, none⟩ = some (.slice Ao41 t616.length co41) ∧ w'.cell? ⟨gb622, 6, none⟩ = some (.slice Ao43 t619.length co43) ∧ w'.cell? ⟨gb598, 0, none⟩ = some (.int .i64 a0_0) ∧ w'.cell? ⟨gb598, 1, none⟩ = some (.slice A0_1 l0_1.length c0_1) ∧ w'.cell? ⟨gb598, 2, none⟩ = some (.slice A0_2 l0_2.length c0_2) ∧ w'.cell? (ad624.add ((x11_2).toNat * 4)) = some (.int .i64 ((rd_T44 t603 x11_2).f0)) ∧ w'.cell? ⟨(ad624.add ((x11_2).toNat * 4)).block, (ad624.add ((x11_2).toNat * 4)).off + 1, none⟩ = some (.int .i64 ((rd_T44 t603 x11_2).f1)) ∧ w'.cell? ⟨(ad624.add ((x11_2).toNat * 4)).block, (ad624.add ((x11_2).toNat * 4)).off + 2, none⟩ = some (.int .i64 ((rd_T44 t603 x11_2).f2)) ∧ w'.cell? ⟨(ad624.add ((x11_2).toNat * 4)).block, (ad624.add ((x11_2).toNat * 4)).off + 3, none⟩ = some (.string ((rd_T44 t603 x11_2).f3)) ∧ w'.cell? (ad624.add ((x11_2).toNat * 4)) = some (.int .i64 ((rd_T44 t603 x11_2).f0)) ∧ w'.cell? ⟨(ad624.add ((x11_2).toNat * 4)).block, (ad624.add ((x11_2).toNat * 4)).off + 1, none⟩ = some (.int .i64 ((rd_T44 t603 x11_2).f1)) ∧ w'.cell? ⟨(ad624.add ((x11_2).toNat * 4)).block, (ad624.add ((x11_2).toNat * 4)).off + 2, none⟩ = some (.int .i64 ((rd_T44 t603 x11_2).f2)) ∧ w'.cell? ⟨(ad624.add ((x11_2).toNat * 4)).block, (ad624.add ((x11_2).toNat * 4)).off + 3, none⟩ = some (.string ((rd_T44 t603 x11_2).f3)) ∧ w'.cell? (ad624.add ((x11_2).toNat * 4)) = some (.int .i64 ((rd_T44 t603 x11_2).f0)) ∧ w'.cell? ⟨(ad624.add ((x11_2).toNat * 4)).block, (ad624.add ((x11_2).toNat * 4)).off + 1, none⟩ = some (.int .i64 ((rd_T44 t603 x11_2).f1)) ∧ w'.cell? ⟨(ad624.add ((x11_2).toNat * 4)).block, (ad624.add ((x11_2).toNat * 4)).off + 2, none⟩ = some (.int .i64 ((rd_T44 t603 x11_2).f2)) ∧ w'.cell? ⟨(ad624.add ((x11_2).toNat * 4)).block, (ad624.add ((x11_2).toNat * 4)).off + 3, none⟩ = some (.string ((rd_T44 t603 x11_2).f3))) (ds := []) #[false, false, false, false, false, false, false, false, false, false, false, false, false, false, false, false, false, false, false, false, false, false, false, false, false, false, false] (by kernel_rfl) rfl rfl ⟨(blk_cell BK622.out 0).trans rfl, (blk_cell BK622.out 1).trans rfl, (blk_cell BK622.out 2).trans rfl, (blk_cell BK622.out 3).trans rfl, (blk_cell BK622.out 4).trans rfl, (blk_cell BK622.out 5).trans rfl, (blk_cell BK622.out 6).trans rfl, (blk_cell BK598.out 0).trans rfl, (blk_cell BK598.out 1).trans rfl, (blk_cell BK598.out 2).trans rfl, hx630_0, hx630_1, hx630_2, hx630_3, hx631_0, hx631_1, hx631_2, hx631_3, hx633_0, hx633_1, hx633_2, hx633_3⟩ (fun hHeld => ?_); refine with_tabW computuslaw21_OccurrenceSplits.tab16 computuslaw21_OccurrenceSplits.bits16 (fun HT_ HW_ => ?_)
     generalize w75.drew = w76 at HO_7 HO_623004 HO_623005 HO_623006 BK598 BK622 BK623 HB hx630_0 hx630_1 hx630_2 hx630_3 hx631_0 hx631_1 hx631_2 hx631_3 hx633_0 hx633_1 hx633_2 hx633_3 hHeld ⊢
     refine pure_ (i := 0) (N := some 85) (v := ?_) (a' := ?_) (bf_ 27 1) rfl rfl (any_of HT_.out (by kernel_rfl)) (fun _ _ _ h => h) (Or.inl ⟨by rfl, ?_⟩) ?_ ?_
     rotate_left
     ·intro w'
      go_simp
      with_reducible rfl
     rotate_left
     ·simp only [Act.put, sA_, sZ_, sS_, i64_w, i32_w]
      rfl
     refine pure_ (i := 1) (N := some 86) (v := ?_) (a' := ?_) (bf_ 27 3) rfl rfl (any_of HT_.out (by kernel_rfl)) (fun _ _ _ h => h) (Or.inl ⟨by rfl, ?_⟩) ?_ ?_
     rotate_left
     ·intro w'
      go_simp
      with_reducible rfl
     rotate_left
     ·simp only [Act.put, sA_, sZ_, sS_, i64_w, i32_w]
      rfl
     refine pure_ (i := 2) (N := some 87) (v := ?_) (a' := ?_) (bf_ 27 7) rfl rfl (any_of HT_.out (by kernel_rfl)) (fun _ _ _ h => h) (Or.inl ⟨by rfl, ?_⟩) ?_ ?_
     rotate_left
     ·intro w'
      go_simp
      with_reducible rfl
     rotate_left
     ·simp only [Act.put, sA_, sZ_, sS_, i64_w, i32_w]
      rfl
     refine pure_ (i := 3) (N := some 88) (v := ?_) (a' := ?_) (bf_ 27 15) rfl rfl (any_of HT_.out (by kernel_rfl)) (fun _ _ _ h => h) (Or.inl ⟨by rfl, ?_⟩) ?_ ?_
     rotate_left
     ·intro w'
      go_simp
      with_reducible rfl
     rotate_left
     ·simp only [Act.put, sA_, sZ_, sS_, i64_w, i32_w]
      rfl
     refine take_ (i := 4) (N := some 89) (v := ?_) (a' := ?_) (bf_ 27 31) rfl rfl (take_ofW HT_.out HW_.out (by kernel_rfl)) (fun _ _ _ h => h) (Or.inl ⟨by rfl, ?_⟩) hHeld ?_ ?_
     rotate_left
     ·rintro w' ⟨s0, s1, s2, s3, s4, s5, s6, s7, s8, s9, s10, s11, s12, s13, s14, s15, s16, s17, s18, s19, s20, s21⟩
      go_simp
      with_reducible rfl
     rotate_left
     ·simp only [Act.put, sA_, sZ_, sS_, i64_w, i32_w]
      rfl
     refine pure_ (i := 5) (N := some 90) (v := ?_) (a' := ?_) (bf_ 27 63) rfl rfl (any_of HT_.out (by kernel_rfl)) (fun _ _ _ h => h) (Or.inl ⟨by rfl, ?_⟩) ?_ ?_
     rotate_left
     ·intro w'
      go_simp
      with_reducible rfl
     rotate_left
     ·simp only [Act.put, sA_, sZ_, sS_, i64_w, i32_w]
      rfl
     refine pure_ (i := 6) (N := some 91) (v := ?_) (a' := ?_) (bf_ 27 127) rfl rfl (any_of HT_.out (by kernel_rfl)) (fun _ _ _ h => h) (Or.inl ⟨by rfl, ?_⟩) ?_ ?_
     rotate_left
     ·intro w'
      go_simp
      with_reducible rfl
     rotate_left
     ·simp only [Act.put, sA_, sZ_, sS_, i64_w, i32_w]
      rfl
     refine pure_ (i := 8) (N := some 93) (v := ?_) (a' := ?_) (bf_ 27 383) rfl rfl (any_of HT_.out (by kernel_rfl)) (fun _ _ _ h => h) (Or.inl ⟨by rfl, ?_⟩) ?_ ?_
     rotate_left
     ·intro w'
      go_simp
      with_reducible rfl
     rotate_left
     ·simp only [Act.put, sA_, sZ_, sS_, i64_w, i32_w]
      rfl
     refine pure_ (i := 9) (N := some 94) (v := ?_) (a' := ?_) (bf_ 27 895) rfl rfl (any_of HT_.out (by kernel_rfl)) (fun _ _ _ h => h) (Or.inl ⟨by rfl, ?_⟩) ?_ ?_
     rotate_left
     ·intro w'
      go_simp
      with_reducible rfl
     rotate_left
     ·simp only [Act.put, sA_, sZ_, sS_, i64_w, i32_w]
      rfl
     refine pure_ (i := 10) (N := some 95) (v := ?_) (a' := ?_) (bf_ 27 1919) rfl rfl (any_of HT_.out (by kernel_rfl)) (fun _ _ _ h => h) (Or.inl ⟨by rfl, ?_⟩) ?_ ?_
     rotate_left
     ·intro w'
      go_simp
      with_reducible rfl
     rotate_left
     ·simp only [Act.put, sA_, sZ_, sS_, i64_w, i32_w]
      rfl
     refine pure_ (i := 11) (N := some 96) (v := ?_) (a' := ?_) (bf_ 27 3967) rfl rfl (any_of HT_.out (by kernel_rfl)) (fun _ _ _ h => h) (Or.inl ⟨by rfl, ?_⟩) ?_ ?_
     rotate_left
     ·intro w'
      go_simp
      with_reducible rfl
     rotate_left
     ·simp only [Act.put, sA_, sZ_, sS_, i64_w, i32_w]
      rfl
     refine take_ (i := 7) (N := some 92) (v := ?_) (a' := ?_) (bf_ 27 4095) rfl rfl (take_ofW HT_.out HW_.out (by kernel_rfl)) (fun _ _ _ h => h) (Or.inl ⟨by rfl, ?_⟩) hHeld ?_ ?_
     rotate_left
     ·rintro w' ⟨s0, s1, s2, s3, s4, s5, s6, s7, s8, s9, s10, s11, s12, s13, s14, s15, s16, s17, s18, s19, s20, s21⟩
      go_simp
      with_reducible rfl
     rotate_left
     ·simp only [Act.put, sA_, sZ_, sS_, i64_w, i32_w]
      rfl
     refine take_ (i := 12) (N := some 97) (v := ?_) (a' := ?_) (bf_ 27 8191) rfl rfl (take_ofW HT_.out HW_.out (by kernel_rfl)) (fun _ _ _ h => h) (Or.inl ⟨by rfl, ?_⟩) hHeld ?_ ?_
     rotate_left
     ·rintro w' ⟨s0, s1, s2, s3, s4, s5, s6, s7, s8, s9, s10, s11, s12, s13, s14, s15, s16, s17, s18, s19, s20, s21⟩
      go_simp
      with_reducible rfl
     rotate_left
     ·simp only [Act.put, sA_, sZ_, sS_, i64_w, i32_w]
      rfl
     refine one_ (i := 13) (N := some 98) (bf_ 27 16383) rfl rfl (one_of HT_.out (by kernel_rfl)) (by decide) (fun K hK => ?_)
     refine goes_ Try.func25 (by kernel_rfl) rfl #[.agg #[.int .i64 t609, .int .i64 t610, .int .i64 t611, .string t612, .slice Ao39 t613.length co39, .slice Ao41 t616.length co41, .slice Ao43 t619.length co43], .int .i64 ((rd_T44 t603 x11_2).f1)] (by rfl) rfl rfl (by (try simp only [List.map_toArray, List.map_cons, List.map_nil]); first | done | rfl | (simp only [List.length_drop, List.length_take]; rfl)) ?_
     with_reducible refine (computuslaw21_times.calls k2 t609 t610 t611 t612 _ _ t613 _ _ t616 _ _ t619 ((rd_T44 t603 x11_2).f1) t632 _ ?side1 ?side2 ?side3 ?side4 ?side5 ?side6 A69.out).mono ?_
     (case side1 => repeat (first | exact (Kd.R_reads' HO_623004.out).2.2 | (with_reducible refine Kd.C_alloc ?_ _) | (with_reducible refine Kd.C_drewN ?_ _) | (with_reducible refine Kd.C_drew ?_)))
     (case side2 => exact (Kd.R_reads' HO_623004.out).2.1)
     (case side3 => repeat (first | exact (Kd.R_reads' HO_623005.out).2.2 | (with_reducible refine Kd.C_alloc ?_ _) | (with_reducible refine Kd.C_drewN ?_ _) | (with_reducible refine Kd.C_drew ?_)))
     (case side4 => exact (Kd.R_reads' HO_623005.out).2.1)
     (case side5 => repeat (first | exact (Kd.R_reads' HO_623006.out).2.2 | (with_reducible refine Kd.C_alloc ?_ _) | (with_reducible refine Kd.C_drewN ?_ _) | (with_reducible refine Kd.C_drew ?_)))
     (case side6 => exact (Kd.R_reads' HO_623006.out).2.1)
     rintro e w77 ⟨rfl, hb⟩
     have HS10_ := (hb.cell (World.block_lt_of_cell? _ _ (hHeld.2.2.2.2.2.2.2.2.2.2.1))).trans (hHeld.2.2.2.2.2.2.2.2.2.2.1)
     have HS11_ := (hb.cell (World.block_lt_of_cell? _ _ (hHeld.2.2.2.2.2.2.2.2.2.2.2.1))).trans (hHeld.2.2.2.2.2.2.2.2.2.2.2.1)
     have HS12_ := (hb.cell (World.block_lt_of_cell? _ _ (hHeld.2.2.2.2.2.2.2.2.2.2.2.2.1))).trans (hHeld.2.2.2.2.2.2.2.2.2.2.2.2.1)
     have HS13_ := (hb.cell (World.block_lt_of_cell? _ _ (hHeld.2.2.2.2.2.2.2.2.2.2.2.2.2.1))).trans (hHeld.2.2.2.2.2.2.2.2.2.2.2.2.2.1)
     have HS14_ := (hb.cell (World.block_lt_of_cell? _ _ (hHeld.2.2.2.2.2.2.2.2.2.2.2.2.2.2.1))).trans (hHeld.2.2.2.2.2.2.2.2.2.2.2.2.2.2.1)
     have HS15_ := (hb.cell (World.block_lt_of_cell? _ _ (hHeld.2.2.2.2.2.2.2.2.2.2.2.2.2.2.2.1))).trans (hHeld.2.2.2.2.2.2.2.2.2.2.2.2.2.2.2.1)
     have HS16_ := (hb.cell (World.block_lt_of_cell? _ _ (hHeld.2.2.2.2.2.2.2.2.2.2.2.2.2.2.2.2.1))).trans (hHeld.2.2.2.2.2.2.2.2.2.2.2.2.2.2.2.2.1)
     have HS17_ := (hb.cell (World.block_lt_of_cell? _ _ (hHeld.2.2.2.2.2.2.2.2.2.2.2.2.2.2.2.2.2.1))).trans (hHeld.2.2.2.2.2.2.2.2.2.2.2.2.2.2.2.2.2.1)
     have HS18_ := (hb.cell (World.block_lt_of_cell? _ _ (hHeld.2.2.2.2.2.2.2.2.2.2.2.2.2.2.2.2.2.2.1))).trans (hHeld.2.2.2.2.2.2.2.2.2.2.2.2.2.2.2.2.2.2.1)
     have HS19_ := (hb.cell (World.block_lt_of_cell? _ _ (hHeld.2.2.2.2.2.2.2.2.2.2.2.2.2.2.2.2.2.2.2.1))).trans (hHeld.2.2.2.2.2.2.2.2.2.2.2.2.2.2.2.2.2.2.2.1)
     have HS20_ := (hb.cell (World.block_lt_of_cell? _ _ (hHeld.2.2.2.2.2.2.2.2.2.2.2.2.2.2.2.2.2.2.2.2.1))).trans (hHeld.2.2.2.2.2.2.2.2.2.2.2.2.2.2.2.2.2.2.2.2.1)
     have HS21_ := (hb.cell (World.block_lt_of_cell? _ _ (hHeld.2.2.2.2.2.2.2.2.2.2.2.2.2.2.2.2.2.2.2.2.2))).trans (hHeld.2.2.2.2.2.2.2.2.2.2.2.2.2.2.2.2.2.2.2.2.2)
     refine ⟨_, rfl, ?_⟩
     have n0_ := Aside0.mk (Kd.R_below (rk_ HO_7.out) hb)
     have n1_ := Aside0.mk (Kd.R_below (rk_ HO_623004.out) hb)
     have n2_ := Aside0.mk (Kd.R_below (rk_ HO_623005.out) hb)
     have n3_ := Aside0.mk (Kd.R_below (rk_ HO_623006.out) hb)
     have n4_ := Aside0.mk (blk_below (g := gb598) (o := .cells #[.int .i64 a0_0, .slice A0_1 l0_1.length c0_1, .slice A0_2 l0_2.length c0_2] 36 (0, 0)) (bk_ BK598.out) hb)
     have n5_ := Aside0.mk (blk_below (g := gb622) (o := .cells #[.int .i64 t609, .int .i64 t610, .int .i64 t611, .string t612, .slice Ao39 t613.length co39, .slice Ao41 t616.length co41, .slice Ao43 t619.length co43] 42 (0, 0)) (bk_ BK622.out) hb)
     have n6_ := Aside0.mk (blk_below (g := gb623) (o := .cells #[.int .i64 t609, .int .i64 t610, .int .i64 t611, .string t612] 44 (0, 0)) (bk_ BK623.out) hb)
     have n7_ := bt_ hb
     clear HO_7
     clear HO_623004
     clear HO_623005
     clear HO_623006
     clear BK598
     clear BK622
     clear BK623
     clear HB
     have HO_7 := n0_
     have HO_623004 := n1_
     have HO_623005 := n2_
     have HO_623006 := n3_
     have BK598 := n4_
     have BK622 := n5_
     have BK623 := n6_
     have HB := n7_
     clear n0_ n1_ n2_ n3_ n4_ n5_ n6_ n7_
     (try clear hb)
     (try clear hb2)
     (try clear hk)
     (try clear hi)
     refine hK.out _ _ (by first | exact ⟨(blk_cell BK622.out 0).trans rfl, (blk_cell BK622.out 1).trans rfl, (blk_cell BK622.out 2).trans rfl, (blk_cell BK622.out 3).trans rfl, (blk_cell BK622.out 4).trans rfl, (blk_cell BK622.out 5).trans rfl, (blk_cell BK622.out 6).trans rfl, (blk_cell BK598.out 0).trans rfl, (blk_cell BK598.out 1).trans rfl, (blk_cell BK598.out 2).trans rfl, HS10_, HS11_, HS12_, HS13_, HS14_, HS15_, HS16_, HS17_, HS18_, HS19_, HS20_, HS21_⟩ | exact hHeld) (fun hHeld => ?_)
     clear hK K
     refine norm_ (a' := ?_) ?_ ?_
     rotate_left
     ·show Act.put _ (some 98) _ = _
      simp only [Act.put, sA_, sZ_, sS_, i64_w, i32_w]
      rfl
     refine pure_ (i := 14) (N := some 99) (v := ?_) (a' := ?_) (bf_ 27 32767) rfl rfl (any_of HT_.out (by kernel_rfl)) (fun _ _ _ h => h) (Or.inl ⟨by rfl, ?_⟩) ?_ ?_
     rotate_left
     ·intro w'
      go_simp
      with_reducible rfl
     rotate_left
     ·simp only [Act.put, sA_, sZ_, sS_, i64_w, i32_w]
      rfl
     refine pure_ (i := 15) (N := some 100) (v := ?_) (a' := ?_) (bf_ 27 65535) rfl rfl (any_of HT_.out (by kernel_rfl)) (fun _ _ _ h => h) (Or.inl ⟨by rfl, ?_⟩) ?_ ?_
     rotate_left
     ·intro w'
      go_simp
      with_reducible rfl
     rotate_left
     ·simp only [Act.put, sA_, sZ_, sS_, i64_w, i32_w]
      rfl
     refine pure_ (i := 18) (N := some 103) (v := ?_) (a' := ?_) (bf_ 27 327679) rfl rfl (any_of HT_.out (by kernel_rfl)) (fun _ _ _ h => h) (Or.inl ⟨by rfl, ?_⟩) ?_ ?_
     rotate_left
     ·intro w'
      go_simp
      with_reducible rfl
     rotate_left
     ·simp only [Act.put, sA_, sZ_, sS_, i64_w, i32_w]
      rfl
     refine pure_ (i := 19) (N := some 104) (v := ?_) (a' := ?_) (bf_ 27 851967) rfl rfl (any_of HT_.out (by kernel_rfl)) (fun _ _ _ h => h) (Or.inl ⟨by rfl, ?_⟩) ?_ ?_
     rotate_left
     ·intro w'
      go_simp
      with_reducible rfl
     rotate_left
     ·simp only [Act.put, sA_, sZ_, sS_, i64_w, i32_w]
      rfl
     refine pure_ (i := 20) (N := some 105) (v := ?_) (a' := ?_) (bf_ 27 1900543) rfl rfl (any_of HT_.out (by kernel_rfl)) (fun _ _ _ h => h) (Or.inl ⟨by rfl, ?_⟩) ?_ ?_
     rotate_left
     ·intro w'
      go_simp
      with_reducible rfl
     rotate_left
     ·simp only [Act.put, sA_, sZ_, sS_, i64_w, i32_w]
      rfl
     refine pure_ (i := 21) (N := some 106) (v := ?_) (a' := ?_) (bf_ 27 3997695) rfl rfl (any_of HT_.out (by kernel_rfl)) (fun _ _ _ h => h) (Or.inl ⟨by rfl, ?_⟩) ?_ ?_
     rotate_left
     ·intro w'
      go_simp
      with_reducible rfl
     rotate_left
     ·simp only [Act.put, sA_, sZ_, sS_, i64_w, i32_w]
      rfl
     refine take_ (i := 16) (N := some 101) (v := ?_) (a' := ?_) (bf_ 27 4063231) rfl rfl (take_ofW HT_.out HW_.out (by kernel_rfl)) (fun _ _ _ h => h) (Or.inl ⟨by rfl, ?_⟩) hHeld ?_ ?_
     rotate_left
     ·rintro w' ⟨s0, s1, s2, s3, s4, s5, s6, s7, s8, s9, s10, s11, s12, s13, s14, s15, s16, s17, s18, s19, s20, s21⟩
      go_simp
      with_reducible rfl
     rotate_left
     ·simp only [Act.put, sA_, sZ_, sS_, i64_w, i32_w]
      rfl
     refine take_ (i := 17) (N := some 102) (v := ?_) (a' := ?_) (bf_ 27 4194303) rfl rfl (take_ofW HT_.out HW_.out (by kernel_rfl)) (fun _ _ _ h => h) (Or.inl ⟨by rfl, ?_⟩) hHeld ?_ ?_
     rotate_left
     ·rintro w' ⟨s0, s1, s2, s3, s4, s5, s6, s7, s8, s9, s10, s11, s12, s13, s14, s15, s16, s17, s18, s19, s20, s21⟩
      go_simp
      with_reducible rfl
     rotate_left
     ·simp only [Act.put, sA_, sZ_, sS_, i64_w, i32_w]
      rfl
     refine take_ (i := 22) (N := some 107) (v := ?_) (a' := ?_) (bf_ 27 8388607) rfl rfl (take_ofW HT_.out HW_.out (by kernel_rfl)) (fun _ _ _ h => h) (Or.inl ⟨by rfl, ?_⟩) hHeld ?_ ?_
     rotate_left
     ·rintro w' ⟨s0, s1, s2, s3, s4, s5, s6, s7, s8, s9, s10, s11, s12, s13, s14, s15, s16, s17, s18, s19, s20, s21⟩
      go_simp
      with_reducible rfl
     rotate_left
     ·simp only [Act.put, sA_, sZ_, sS_, i64_w, i32_w]
      rfl
     refine one_ (i := 23) (N := some 108) (bf_ 27 16777215) rfl rfl (one_of HT_.out (by kernel_rfl)) (by decide) (fun K hK => ?_)
     refine goes_ Try.func26 (by kernel_rfl) rfl #[.agg #[.int .i64 a0_0, .slice A0_1 l0_1.length c0_1, .slice A0_2 l0_2.length c0_2], .agg #[.int .i64 t609, .int .i64 t610, .int .i64 t611, .string t612, .slice Ao39 t613.length co39, .slice Ao41 t616.length co41, .slice Ao43 t619.length co43], .int .i64 ((rd_T44 t603 x11_2).f1)] (by rfl) rfl rfl (by (try simp only [List.map_toArray, List.map_cons, List.map_nil]); first | done | rfl | (simp only [List.length_drop, List.length_take]; rfl)) ?_
     with_reducible refine (computuslaw21_listed.calls k2 a0_0 _ _ l0_1 _ _ l0_2 t609 t610 t611 t612 _ _ t613 _ _ t616 _ _ t619 ((rd_T44 t603 x11_2).f1) true _ ?side1 ?side2 ?side3 ?side4 ?side5 ?side6 ?side7 ?side8 ?side9 ?side10 A71.out).mono ?_
     (case side1 => repeat (first | exact (Kd.C_below HR0_1.out HB.out) | (with_reducible refine Kd.C_alloc ?_ _) | (with_reducible refine Kd.C_drewN ?_ _) | (with_reducible refine Kd.C_drew ?_)))
     (case side2 => exact HC0_1.out)
     (case side3 => repeat (first | exact (Kd.C_below HR0_2.out HB.out) | (with_reducible refine Kd.C_alloc ?_ _) | (with_reducible refine Kd.C_drewN ?_ _) | (with_reducible refine Kd.C_drew ?_)))
     (case side4 => exact HC0_2.out)
     (case side5 => repeat (first | exact (Kd.R_reads' HO_623004.out).2.2 | (with_reducible refine Kd.C_alloc ?_ _) | (with_reducible refine Kd.C_drewN ?_ _) | (with_reducible refine Kd.C_drew ?_)))
     (case side6 => exact (Kd.R_reads' HO_623004.out).2.1)
     (case side7 => repeat (first | exact (Kd.R_reads' HO_623005.out).2.2 | (with_reducible refine Kd.C_alloc ?_ _) | (with_reducible refine Kd.C_drewN ?_ _) | (with_reducible refine Kd.C_drew ?_)))
     (case side8 => exact (Kd.R_reads' HO_623005.out).2.1)
     (case side9 => repeat (first | exact (Kd.R_reads' HO_623006.out).2.2 | (with_reducible refine Kd.C_alloc ?_ _) | (with_reducible refine Kd.C_drewN ?_ _) | (with_reducible refine Kd.C_drew ?_)))
     (case side10 => exact (Kd.R_reads' HO_623006.out).2.1)
     rintro e w78 ⟨rfl, hb⟩
     have HS10_ := (hb.cell (World.block_lt_of_cell? _ _ (hHeld.2.2.2.2.2.2.2.2.2.2.1))).trans (hHeld.2.2.2.2.2.2.2.2.2.2.1)
     have HS11_ := (hb.cell (World.block_lt_of_cell? _ _ (hHeld.2.2.2.2.2.2.2.2.2.2.2.1))).trans (hHeld.2.2.2.2.2.2.2.2.2.2.2.1)
     have HS12_ := (hb.cell (World.block_lt_of_cell? _ _ (hHeld.2.2.2.2.2.2.2.2.2.2.2.2.1))).trans (hHeld.2.2.2.2.2.2.2.2.2.2.2.2.1)
     have HS13_ := (hb.cell (World.block_lt_of_cell? _ _ (hHeld.2.2.2.2.2.2.2.2.2.2.2.2.2.1))).trans (hHeld.2.2.2.2.2.2.2.2.2.2.2.2.2.1)
     have HS14_ := (hb.cell (World.block_lt_of_cell? _ _ (hHeld.2.2.2.2.2.2.2.2.2.2.2.2.2.2.1))).trans (hHeld.2.2.2.2.2.2.2.2.2.2.2.2.2.2.1)
     have HS15_ := (hb.cell (World.block_lt_of_cell? _ _ (hHeld.2.2.2.2.2.2.2.2.2.2.2.2.2.2.2.1))).trans (hHeld.2.2.2.2.2.2.2.2.2.2.2.2.2.2.2.1)
     have HS16_ := (hb.cell (World.block_lt_of_cell? _ _ (hHeld.2.2.2.2.2.2.2.2.2.2.2.2.2.2.2.2.1))).trans (hHeld.2.2.2.2.2.2.2.2.2.2.2.2.2.2.2.2.1)
     have HS17_ := (hb.cell (World.block_lt_of_cell? _ _ (hHeld.2.2.2.2.2.2.2.2.2.2.2.2.2.2.2.2.2.1))).trans (hHeld.2.2.2.2.2.2.2.2.2.2.2.2.2.2.2.2.2.1)
     have HS18_ := (hb.cell (World.block_lt_of_cell? _ _ (hHeld.2.2.2.2.2.2.2.2.2.2.2.2.2.2.2.2.2.2.1))).trans (hHeld.2.2.2.2.2.2.2.2.2.2.2.2.2.2.2.2.2.2.1)
     have HS19_ := (hb.cell (World.block_lt_of_cell? _ _ (hHeld.2.2.2.2.2.2.2.2.2.2.2.2.2.2.2.2.2.2.2.1))).trans (hHeld.2.2.2.2.2.2.2.2.2.2.2.2.2.2.2.2.2.2.2.1)
     have HS20_ := (hb.cell (World.block_lt_of_cell? _ _ (hHeld.2.2.2.2.2.2.2.2.2.2.2.2.2.2.2.2.2.2.2.2.1))).trans (hHeld.2.2.2.2.2.2.2.2.2.2.2.2.2.2.2.2.2.2.2.2.1)
     have HS21_ := (hb.cell (World.block_lt_of_cell? _ _ (hHeld.2.2.2.2.2.2.2.2.2.2.2.2.2.2.2.2.2.2.2.2.2))).trans (hHeld.2.2.2.2.2.2.2.2.2.2.2.2.2.2.2.2.2.2.2.2.2)
     refine ⟨_, rfl, ?_⟩
     have n0_ := Aside0.mk (Kd.R_below (rk_ HO_7.out) hb)
     have n1_ := Aside0.mk (Kd.R_below (rk_ HO_623004.out) hb)
     have n2_ := Aside0.mk (Kd.R_below (rk_ HO_623005.out) hb)
     have n3_ := Aside0.mk (Kd.R_below (rk_ HO_623006.out) hb)
     have n4_ := Aside0.mk (blk_below (g := gb598) (o := .cells #[.int .i64 a0_0, .slice A0_1 l0_1.length c0_1, .slice A0_2 l0_2.length c0_2] 36 (0, 0)) (bk_ BK598.out) hb)
     have n5_ := Aside0.mk (blk_below (g := gb622) (o := .cells #[.int .i64 t609, .int .i64 t610, .int .i64 t611, .string t612, .slice Ao39 t613.length co39, .slice Ao41 t616.length co41, .slice Ao43 t619.length co43] 42 (0, 0)) (bk_ BK622.out) hb)
     have n6_ := Aside0.mk (blk_below (g := gb623) (o := .cells #[.int .i64 t609, .int .i64 t610, .int .i64 t611, .string t612] 44 (0, 0)) (bk_ BK623.out) hb)
     have n7_ := bt_ hb
     clear HO_7
     clear HO_623004
     clear HO_623005
     clear HO_623006
     clear BK598
     clear BK622
     clear BK623
     clear HB
     have HO_7 := n0_
     have HO_623004 := n1_
     have HO_623005 := n2_
     have HO_623006 := n3_
     have BK598 := n4_
     have BK622 := n5_
     have BK623 := n6_
     have HB := n7_
     clear n0_ n1_ n2_ n3_ n4_ n5_ n6_ n7_
     (try clear hb)
     (try clear hb2)
     (try clear hk)
     (try clear hi)
     refine hK.out _ _ (by first | exact ⟨(blk_cell BK622.out 0).trans rfl, (blk_cell BK622.out 1).trans rfl, (blk_cell BK622.out 2).trans rfl, (blk_cell BK622.out 3).trans rfl, (blk_cell BK622.out 4).trans rfl, (blk_cell BK622.out 5).trans rfl, (blk_cell BK622.out 6).trans rfl, (blk_cell BK598.out 0).trans rfl, (blk_cell BK598.out 1).trans rfl, (blk_cell BK598.out 2).trans rfl, HS10_, HS11_, HS12_, HS13_, HS14_, HS15_, HS16_, HS17_, HS18_, HS19_, HS20_, HS21_⟩ | exact hHeld) (fun hHeld => ?_)
     clear hK K
     refine norm_ (a' := ?_) ?_ ?_
     rotate_left
     ·show Act.put _ (some 108) _ = _
      simp only [Act.put, sA_, sZ_, sS_, i64_w, i32_w]
      rfl
     refine pure_ (i := 24) (N := some 109) (v := ?_) (a' := ?_) (bf_ 27 33554431) rfl rfl (any_of HT_.out (by kernel_rfl)) (fun _ _ _ h => h) (Or.inl ⟨by rfl, ?_⟩) ?_ ?_
     rotate_left
     ·intro w'
      go_simp
      with_reducible rfl
     rotate_left
     ·simp only [Act.put, sA_, sZ_, sS_, i64_w, i32_w]
      rfl
     refine pure_ (i := 25) (N := some 110) (v := ?_) (a' := ?_) (bf_ 27 67108863) rfl rfl (any_of HT_.out (by kernel_rfl)) (fun _ _ _ h => h) (Or.inl ⟨by rfl, ?_⟩) ?_ ?_
     rotate_left
     ·intro w'
      go_simp
      with_reducible rfl
     rotate_left
     ·simp only [Act.put, sA_, sZ_, sS_, i64_w, i32_w]
      rfl
     refine pure_ (i := 26) (N := some 111) (v := ?_) (a' := ?_) (bf_ 27 134217727) rfl rfl (any_of HT_.out (by kernel_rfl)) (fun _ _ _ h => h) (Or.inl ⟨by rfl, ?_⟩) ?_ ?_
     rotate_left
     ·intro w'
      go_simp
      with_reducible rfl
     rotate_left
     ·simp only [Act.put, sA_, sZ_, sS_, i64_w, i32_w]
      rfl
     refine done_ (done_of HT_.out (by kernel_rfl)) ?_
     try go_wp2
     go_roundg k2
     case measure => have := HJ3.out; have := HK2.out; omega
     case rel => exact ⟨(x10_2), (wrap64 (x11_2 + 1)), rs_, rs_, H', ⟨by have := HJ3.out; have := HK2.out; omega⟩, ⟨rk_ HO_7.out⟩, ⟨rk_ HO_623004.out⟩, ⟨rk_ HO_623005.out⟩, ⟨rk_ HO_623006.out⟩, ⟨bk_ BK598.out⟩, ⟨bk_ BK622.out⟩, ⟨bk_ BK623.out⟩, ⟨bh_⟩⟩
def computuslaw21_OccurrenceSplits.Pure : Prop := ∀ (a0_0 : Int) (l0_1 : List (S66)) (l0_2 : List (S68)) (a1 : Int) (a2 : Int), (Lit.int .i64 a0_0).wf = true → l0_1.length ≤ maxLen → (∀ x ∈ l0_1, wf66 x) → l0_2.length ≤ maxLen → (∀ x ∈ l0_2, wf68 x) → (Lit.int .i64 a1).wf = true → (Lit.int .i64 a2).wf = true → ∃ k, computuslaw21_OccurrenceSplits.f k a0_0 l0_1 l0_2 a1 a2 = some true
end
end Go.Proofs.Ytopfjjdkffdjpaa.Q
end
section
/- What is proved: plain arithmetic of the two calendars. -/
namespace Go.Proofs.Ytopfjjdkffdjpaa.Cal
/-- Is the year a leap year? (1: Julian; else Gregorian) -/
def lp (c y : Int) : Bool := if c = 1 then decide (y % 4 = 0) else (decide (y % 4 = 0) && (!decide (y % 100 = 0) || decide (y % 400 = 0)))
/-- The length of a month. -/
def mlen (b : Bool) (m : Int) : Int := if m = 2 then (if b then 29 else 28) else if m = 4 ∨ m = 6 ∨ m = 9 ∨ m = 11 then 30 else if 1 ≤ m ∧ m ≤ 12 then 31 else 0
/-- The days before month m. -/
def cum (b : Bool) : Nat → Int
 | 0 => 0
 | 1 => 0
 | m + 2 => cum b (m + 1) + mlen b ((m + 1 : Nat) : Int)
/-- The number of 1 January. -/
def fst (c y : Int) : Int := if c = 1 then 365 * (y - 1) + (y - 1) / 4 - 1 else 365 * (y - 1) + (y - 1) / 4 - (y - 1) / 100 + (y - 1) / 400 + 1
def ylen (c y : Int) : Int := if lp c y then 366 else 365
theorem fst_next (c y : Int) : fst c (y + 1) = fst c y + ylen c y := by
 unfold fst ylen lp
 by_cases hc : c = 1
 ·rw [if_pos hc, if_pos hc, if_pos hc]
  by_cases h : y % 4 = 0
  ·rw [decide_eq_true h, if_pos rfl]; omega
  ·rw [decide_eq_false h, if_neg (by simp)]; omega
 ·rw [if_neg hc, if_neg hc, if_neg hc]
  by_cases h : y % 4 = 0
  ·by_cases h1 : y % 100 = 0
   ·by_cases h2 : y % 400 = 0
    ·rw [decide_eq_true h, decide_eq_true h2, Bool.or_true, Bool.and_true, if_pos rfl]; omega
    ·rw [decide_eq_true h1, decide_eq_false h2, Bool.not_true, Bool.or_false, Bool.and_false, if_neg (by simp)]; omega
   ·rw [decide_eq_true h, decide_eq_false h1, Bool.not_false, Bool.true_or, Bool.and_true, if_pos rfl]; omega
  ·rw [decide_eq_false h, Bool.false_and, if_neg (by simp)]; omega
theorem ylen_le (c y : Int) : 365 ≤ ylen c y ∧ ylen c y ≤ 366 := by unfold ylen; split <;> omega
theorem fst_mono (c : Int) {a b : Int} (h : a ≤ b) : fst c a + 365 * (b - a) ≤ fst c b := by
 obtain ⟨n, rfl⟩ : ∃ n : Nat, b = a + n := ⟨(b - a).toNat, by omega⟩
 induction n with
 | zero => simp
 | succ n ih =>
  have h1 := fst_next c (a + n)
  have h2 := ylen_le c (a + n)
  have h3 := ih (by omega)
  rw [show a + ((n + 1 : Nat) : Int) = a + n + 1 by omega, h1]
  omega
theorem year_one {c a b n : Int} (h1 : fst c a ≤ n) (h2 : n < fst c (a + 1)) (h3 : fst c b ≤ n) (h4 : n < fst c (b + 1)) : a = b := by
 rcases Int.lt_trichotomy a b with h | h | h
 ·have := fst_mono c (show a + 1 ≤ b by omega); omega
 ·exact h
 ·have := fst_mono c (show b + 1 ≤ a by omega); omega
theorem fst_bounds (c : Int) {y : Int} (h0 : -10 ≤ y) (h1 : y ≤ 1000000010) : -5000 ≤ fst c y ∧ fst c y ≤ 370000000000 := by unfold fst; split <;> omega
theorem fst_pos {y : Int} (h : 1583 ≤ y) : 577000 ≤ fst 2 y := by unfold fst; rw [if_neg (by omega)]; omega
theorem mlen_range (b : Bool) {m : Int} (h : 1 ≤ m ∧ m ≤ 12) : 28 ≤ mlen b m ∧ mlen b m ≤ 31 := by
 unfold mlen
 split
 ·split <;> omega
 ·split
  ·omega
  ·first | omega | (rw [if_pos h]; omega)
theorem mlen_zero (b : Bool) {m : Int} (h : ¬ (1 ≤ m ∧ m ≤ 12)) : mlen b m = 0 := by
 unfold mlen
 rw [if_neg (by omega), if_neg (by omega), if_neg h]
theorem mlen_nonneg (b : Bool) (m : Int) : 0 ≤ mlen b m ∧ mlen b m ≤ 31 := by
 by_cases h : 1 ≤ m ∧ m ≤ 12
 ·have := mlen_range b h; omega
 ·rw [mlen_zero b h]; omega
theorem cum_succ (b : Bool) {m : Nat} (h : 1 ≤ m) : cum b (m + 1) = cum b m + mlen b (m : Int) := by
 obtain ⟨k, rfl⟩ : ∃ k, m = k + 1 := ⟨m - 1, by omega⟩
 rfl
theorem cum_all : ∀ b : Bool, cum b 13 = if b then 366 else 365 := by decide
theorem cum_tab : ∀ b : Bool, ∀ m : Nat, m < 14 → 0 ≤ cum b m ∧ cum b m ≤ 366 := by decide
theorem cum_mono (b : Bool) {m k : Nat} (h1 : 1 ≤ m) (h : m ≤ k) : cum b m ≤ cum b k := by
 obtain ⟨n, rfl⟩ : ∃ n : Nat, k = m + n := ⟨k - m, by omega⟩
 induction n with
 | zero => simp
 | succ n ih =>
  have := cum_succ b (m := m + n) (by omega)
  have h3 := (mlen_nonneg b ((m + n : Nat) : Int)).1
  have h4 := ih (by omega)
  rw [show m + (n + 1) = m + n + 1 by omega, this]
  omega
/-- A date of a calendar. -/
structure Date where
 y : Int
 m : Int
 d : Int
 deriving DecidableEq
def Ok (c : Int) (x : Date) : Prop := 1 ≤ x.y ∧ x.y ≤ 1000000000 ∧ 1 ≤ x.m ∧ x.m ≤ 12 ∧ 1 ≤ x.d ∧ x.d ≤ mlen (lp c x.y) x.m
instance (c : Int) (x : Date) : Decidable (Ok c x) := by unfold Ok; infer_instance
/-- The number of a date. -/
def num (c : Int) (x : Date) : Int := fst c x.y + cum (lp c x.y) x.m.toNat + x.d - 1
theorem num_year {c : Int} {x : Date} (h : Ok c x) : fst c x.y ≤ num c x ∧ num c x < fst c (x.y + 1) := by
 obtain ⟨h1, h2, h3, h4, h5, h6⟩ := h
 unfold num
 have e := fst_next c x.y
 obtain ⟨k, hk⟩ : ∃ k : Nat, x.m = (k : Int) := ⟨x.m.toNat, by omega⟩
 have h7 := cum_tab (lp c x.y) k (by omega)
 have h8 := cum_succ (lp c x.y) (m := k) (by omega)
 have h9 := cum_mono (lp c x.y) (m := k + 1) (k := 13) (by omega) (by omega)
 have h10 := cum_all (lp c x.y)
 rw [hk] at h6 ⊢
 rw [Int.toNat_natCast]
 unfold ylen at e
 cases hb : lp c x.y
 ·rw [hb] at e h10 h9 h8 h7 h6
  simp at e h10
  omega
 ·rw [hb] at e h10 h9 h8 h7 h6
  simp at e h10
  omega
theorem md_one (b : Bool) {m k : Nat} {d e : Int} (hm : 1 ≤ m ∧ m ≤ 12) (hk : 1 ≤ k ∧ k ≤ 12) (hd : 1 ≤ d ∧ d ≤ mlen b (m : Int)) (he : 1 ≤ e ∧ e ≤ mlen b (k : Int)) (h : cum b m + d = cum b k + e) : m = k ∧ d = e := by
 have hmk : m = k := by
  rcases Nat.lt_trichotomy m k with h1 | h1 | h1
  ·have h2 := cum_succ b hm.1
   have h3 := cum_mono b (m := m + 1) (k := k) (by omega) (by omega)
   omega
  ·exact h1
  ·have h2 := cum_succ b hk.1
   have h3 := cum_mono b (m := k + 1) (k := m) (by omega) (by omega)
   omega
 subst hmk
 exact ⟨rfl, by omega⟩
theorem num_inj {c : Int} {x z : Date} (hx : Ok c x) (hz : Ok c z) (h : num c x = num c z) : x = z := by
 have h1 := num_year hx
 have h2 := num_year hz
 have hy : x.y = z.y := year_one (c := c) (n := num c x) h1.1 h1.2 (by omega) (by omega)
 obtain ⟨a1, a2, a3, a4, a5, a6⟩ := hx
 obtain ⟨b1, b2, b3, b4, b5, b6⟩ := hz
 obtain ⟨y, m, d⟩ := x
 obtain ⟨y2, m2, d2⟩ := z
 simp only at hy a1 a2 a3 a4 a5 a6 b1 b2 b3 b4 b5 b6
 subst hy
 obtain ⟨k, rfl⟩ : ∃ k : Nat, m = (k : Int) := ⟨m.toNat, by omega⟩
 obtain ⟨k2, rfl⟩ : ∃ k : Nat, m2 = (k : Int) := ⟨m2.toNat, by omega⟩
 unfold num at h
 simp only [Int.toNat_natCast] at h
 obtain ⟨e1, e2⟩ := md_one (lp c y) (m := k) (k := k2) (d := d) (e := d2) (by omega) (by omega) ⟨a5, a6⟩ ⟨b5, b6⟩ (by omega)
 subst e1
 subst e2
 rfl
/-- The month and day of a day of the year (0 is 1 January). -/
def mdGo (b : Bool) : Nat → Int → Int → Int × Int
 | 0, m, r => (m, r + 1)
 | k + 1, m, r => if mlen b m ≤ r then mdGo b k (m + 1) (r - mlen b m) else (m, r + 1)
theorem mdGo_spec (b : Bool) : ∀ (k m : Nat) (r : Int), m + k = 12 → 1 ≤ m → 0 ≤ r → cum b m + r < cum b 13 →
  1 ≤ (mdGo b k (m : Int) r).1 ∧ (mdGo b k (m : Int) r).1 ≤ 12 ∧ 1 ≤ (mdGo b k (m : Int) r).2 ∧ (mdGo b k (m : Int) r).2 ≤ mlen b (mdGo b k (m : Int) r).1 ∧ cum b (mdGo b k (m : Int) r).1.toNat + (mdGo b k (m : Int) r).2 = cum b m + r + 1
 | 0, m, r, hk, h1, h0, h => by
  have h2 := cum_succ b h1
  obtain rfl : m = 12 := by omega
  rw [mdGo]
  have h3 : cum b (12 + 1) = cum b 13 := rfl
  refine ⟨by simp, by simp, by simp; omega, ?_, by simp; omega⟩
  show r + 1 ≤ mlen b ((12 : Nat) : Int)
  omega
 | k + 1, m, r, hk, h1, h0, h => by
  rw [mdGo]
  by_cases hr : mlen b (m : Int) ≤ r
  ·rw [if_pos hr]
   have h2 := cum_succ b h1
   have h3 := mdGo_spec b k (m + 1) (r - mlen b (m : Int)) (by omega) (by omega) (by omega) (by omega)
   rw [show ((m + 1 : Nat) : Int) = (m : Int) + 1 by omega] at h3
   refine ⟨h3.1, h3.2.1, h3.2.2.1, h3.2.2.2.1, ?_⟩
   rw [h3.2.2.2.2]
   omega
  ·rw [if_neg hr]
   refine ⟨by simp; omega, by simp; omega, by simp; omega, by simp; omega, by simp; omega⟩
/-- The date with a number, of which the year is known. -/
def dateIn (c y n : Int) : Date := ⟨y, (mdGo (lp c y) 11 1 (n - fst c y)).1, (mdGo (lp c y) 11 1 (n - fst c y)).2⟩
theorem dateIn_ok {c y n : Int} (hy : 1 ≤ y ∧ y ≤ 1000000000) (h1 : fst c y ≤ n) (h2 : n < fst c (y + 1)) : Ok c (dateIn c y n) ∧ num c (dateIn c y n) = n := by
 have e := fst_next c y
 have h3 := mdGo_spec (lp c y) 11 1 (n - fst c y) rfl (by omega) (by omega) (by
  have h4 := cum_all (lp c y)
  have h5 : cum (lp c y) 1 = 0 := rfl
  unfold ylen at e
  cases hb : lp c y <;> rw [hb] at e h4 h5 <;> simp at e h4 <;> omega)
 obtain ⟨a, b, d, f, g⟩ := h3
 refine ⟨⟨hy.1, hy.2, a, b, d, f⟩, ?_⟩
 unfold num dateIn
 simp only
 have h5 : cum (lp c y) 1 = 0 := rfl
 rw [h5] at g
 have g2 : cum (lp c y) (mdGo (lp c y) 11 1 (n - fst c y)).1.toNat + (mdGo (lp c y) 11 1 (n - fst c y)).2 = 0 + (n - fst c y) + 1 := g
 omega
/-- The year of a day. -/
def yr (c n : Int) : Int :=
 if c = 1 then 4 * ((n + 1) / 1461) + min ((n + 1) % 1461 / 365) 3 + 1
 else 400 * ((n - 1) / 146097) + 100 * min ((n - 1) % 146097 / 36524) 3 + 4 * (((n - 1) % 146097 - 36524 * min ((n - 1) % 146097 / 36524) 3) / 1461) + min ((((n - 1) % 146097 - 36524 * min ((n - 1) % 146097 / 36524) 3) % 1461) / 365) 3 + 1
theorem yr_spec (c n : Int) : fst c (yr c n) ≤ n ∧ n < fst c (yr c n + 1) := by
 unfold fst yr
 by_cases hc : c = 1
 ·rw [if_pos hc, if_pos hc, if_pos hc]
  omega
 ·rw [if_neg hc, if_neg hc, if_neg hc]
  generalize hq : (n - 1) / 146097 = q
  generalize hr : (n - 1) % 146097 = r
  have h1 : n - 1 = 146097 * q + r ∧ 0 ≤ r ∧ r < 146097 := by omega
  generalize hs : min (r / 36524) 3 = s
  have h2 : 0 ≤ s ∧ s ≤ 3 ∧ 36524 * s ≤ r ∧ (r < 36524 * s + 36524 ∨ s = 3) := by omega
  generalize ht : (r - 36524 * s) / 1461 = t
  have h3 : 0 ≤ t ∧ t ≤ 24 ∧ 1461 * t ≤ r - 36524 * s ∧ r - 36524 * s < 1461 * t + 1461 := by omega
  generalize hu : (r - 36524 * s) % 1461 = u
  have h4 : r - 36524 * s = 1461 * t + u := by omega
  generalize hv : min (u / 365) 3 = v
  have h5 : 0 ≤ v ∧ v ≤ 3 ∧ 365 * v ≤ u ∧ (u < 365 * v + 365 ∨ v = 3) := by omega
  have e1 : (400 * q + 100 * s + 4 * t + v + 1 - 1) / 4 = 100 * q + 25 * s + t := by omega
  have e2 : (400 * q + 100 * s + 4 * t + v + 1 - 1) / 100 = 4 * q + s := by omega
  have e3 : (400 * q + 100 * s + 4 * t + v + 1 - 1) / 400 = q := by omega
  rw [e1, e2, e3]
  constructor
  ·omega
  ·rcases Int.lt_or_le v 3 with hv3 | hv3
   ·have f1 : (400 * q + 100 * s + 4 * t + v + 1 + 1 - 1) / 4 = 100 * q + 25 * s + t := by omega
    have f2 : (400 * q + 100 * s + 4 * t + v + 1 + 1 - 1) / 100 = 4 * q + s := by omega
    have f3 : (400 * q + 100 * s + 4 * t + v + 1 + 1 - 1) / 400 = q := by omega
    rw [f1, f2, f3]
    omega
   ·obtain rfl : v = 3 := by omega
    have f1 : (400 * q + 100 * s + 4 * t + 3 + 1 + 1 - 1) / 4 = 100 * q + 25 * s + t + 1 := by omega
    rw [f1]
    rcases Int.lt_or_le t 24 with ht3 | ht3
    ·have f2 : (400 * q + 100 * s + 4 * t + 3 + 1 + 1 - 1) / 100 = 4 * q + s := by omega
     have f3 : (400 * q + 100 * s + 4 * t + 3 + 1 + 1 - 1) / 400 = q := by omega
     rw [f2, f3]
     omega
    ·obtain rfl : t = 24 := by omega
     have f2 : (400 * q + 100 * s + 4 * 24 + 3 + 1 + 1 - 1) / 100 = 4 * q + s + 1 := by omega
     rw [f2]
     rcases Int.lt_or_le s 3 with hs3 | hs3
     ·have f3 : (400 * q + 100 * s + 4 * 24 + 3 + 1 + 1 - 1) / 400 = q := by omega
      rw [f3]
      omega
     ·obtain rfl : s = 3 := by omega
      have f3 : (400 * q + 100 * 3 + 4 * 24 + 3 + 1 + 1 - 1) / 400 = q + 1 := by omega
      rw [f3]
      omega
theorem yr_of {c y n : Int} (h1 : fst c y ≤ n) (h2 : n < fst c (y + 1)) : yr c n = y := year_one (c := c) (yr_spec c n).1 (yr_spec c n).2 h1 h2
/-- The date with a number. -/
def date (c n : Int) : Date := dateIn c (yr c n) n
/-- The days of the years in range. -/
def inDays (c n : Int) : Prop := fst c 1 ≤ n ∧ n < fst c 1000000001
theorem yr_range {c n : Int} (h : inDays c n) : 1 ≤ yr c n ∧ yr c n ≤ 1000000000 := by
 have h1 := yr_spec c n
 constructor
 ·rcases Int.lt_or_le (yr c n) 1 with h2 | h2
  ·have := fst_mono c (show yr c n + 1 ≤ 1 by omega)
   have := h.1
   omega
  ·exact h2
 ·rcases Int.lt_or_le 1000000000 (yr c n) with h2 | h2
  ·have := fst_mono c (show (1000000001 : Int) ≤ yr c n by omega)
   have := h.2
   omega
  ·omega
theorem date_ok {c n : Int} (h : inDays c n) : Ok c (date c n) ∧ num c (date c n) = n := dateIn_ok (yr_range h) (yr_spec c n).1 (yr_spec c n).2
theorem date_num {c : Int} {x : Date} (h : Ok c x) : date c (num c x) = x ∧ inDays c (num c x) := by
 have h1 := num_year h
 have h2 : inDays c (num c x) := ⟨by have := fst_mono c (show (1 : Int) ≤ x.y from h.1); have := h.1; omega, by have := fst_mono c (show x.y + 1 ≤ 1000000001 by have := h.2.1; omega); have := h.2.1; omega⟩
 have h3 := date_ok h2
 exact ⟨num_inj h3.1 h h3.2, h2⟩
end Go.Proofs.Ytopfjjdkffdjpaa.Cal
end
section
/- What is proved: the reference's functions of dates, as0 plain arithmetic of the calendar. -/
namespace Go.Proofs.Ytopfjjdkffdjpaa.Q
open Go.RowKit Go.Proofs.YtopfjjdkffdjpaaW.PrintWords Go.Proofs.YtopfjjdkffdjpaaW.PrintLast Go.Proofs.Ytopfjjdkffdjpaa.Cal
theorem wq (n : Int) (h : -9223372036854775808 ≤ n ∧ n ≤ 9223372036854775807) : wrap64 n = n := by unfold wrap64; omega
theorem Ev.fin {α : Type} {g : Nat → Option α} {r : α} (h : ∀ k, g (k + 1) = some r) : Ev g r := Ev.step h (Ev.now r)
theorem Ev.def_ {α : Type} {o : Option α} {r : α} (h : o = some r) : Ev (fun _ => o) r := ⟨0, fun _ _ => h⟩
theorem modq4 (n : Int) (h : -1000000000000000 ≤ n ∧ n ≤ 1000000000000000) : computusref01_Mod.f n 4 = some (n % 4) := by
 have hd := Int.tmod_def n 4
 have h2 := Int.tmod_lt_of_pos n (b := 4) (by omega)
 have h3 := Int.lt_tmod_of_pos n (b := 4) (by omega)
 have hs := Int.tmod_nonneg (a := n) 4
 have ht : n < 0 → n.tmod 4 ≤ 0 := fun h => by
  have h4 := Int.tmod_nonneg (a := -n) 4 (by omega)
  rw [Int.neg_tmod] at h4
  omega
 unfold computusref01_Mod.f computusref01_Div.f
 rw [if_neg (by omega), wq (n.tdiv 4) (by omega), wq (n.tdiv 4 * 4) (by omega)]
 by_cases he : n.tdiv 4 * 4 = n
 ·rw [if_pos he]
  simp only [Option.bind_some]
  rw [wq (4 * n.tdiv 4) (by omega), wq _ (by omega)]
  congr 1; omega
 ·rw [if_neg he]
  by_cases hn : n < 0
  ·rw [decide_eq_true hn, decide_eq_false (by omega), if_pos (by decide)]
   simp only [Option.bind_some]
   have := ht hn
   rw [wq (n.tdiv 4 - 1) (by omega), wq (4 * (n.tdiv 4 - 1)) (by omega), wq _ (by omega)]
   congr 1; omega
  ·rw [decide_eq_false hn, decide_eq_false (by omega), if_neg (by decide)]
   simp only [Option.bind_some]
   have := hs (by omega)
   rw [wq (4 * n.tdiv 4) (by omega), wq _ (by omega)]
   congr 1; omega
theorem modq7 (n : Int) (h : -1000000000000000 ≤ n ∧ n ≤ 1000000000000000) : computusref01_Mod.f n 7 = some (n % 7) := by
 have hd := Int.tmod_def n 7
 have h2 := Int.tmod_lt_of_pos n (b := 7) (by omega)
 have h3 := Int.lt_tmod_of_pos n (b := 7) (by omega)
 have hs := Int.tmod_nonneg (a := n) 7
 have ht : n < 0 → n.tmod 7 ≤ 0 := fun h => by
  have h4 := Int.tmod_nonneg (a := -n) 7 (by omega)
  rw [Int.neg_tmod] at h4
  omega
 unfold computusref01_Mod.f computusref01_Div.f
 rw [if_neg (by omega), wq (n.tdiv 7) (by omega), wq (n.tdiv 7 * 7) (by omega)]
 by_cases he : n.tdiv 7 * 7 = n
 ·rw [if_pos he]
  simp only [Option.bind_some]
  rw [wq (7 * n.tdiv 7) (by omega), wq _ (by omega)]
  congr 1; omega
 ·rw [if_neg he]
  by_cases hn : n < 0
  ·rw [decide_eq_true hn, decide_eq_false (by omega), if_pos (by decide)]
   simp only [Option.bind_some]
   have := ht hn
   rw [wq (n.tdiv 7 - 1) (by omega), wq (7 * (n.tdiv 7 - 1)) (by omega), wq _ (by omega)]
   congr 1; omega
  ·rw [decide_eq_false hn, decide_eq_false (by omega), if_neg (by decide)]
   simp only [Option.bind_some]
   have := hs (by omega)
   rw [wq (7 * n.tdiv 7) (by omega), wq _ (by omega)]
   congr 1; omega
theorem modq30 (n : Int) (h : -1000000000000000 ≤ n ∧ n ≤ 1000000000000000) : computusref01_Mod.f n 30 = some (n % 30) := by
 have hd := Int.tmod_def n 30
 have h2 := Int.tmod_lt_of_pos n (b := 30) (by omega)
 have h3 := Int.lt_tmod_of_pos n (b := 30) (by omega)
 have hs := Int.tmod_nonneg (a := n) 30
 have ht : n < 0 → n.tmod 30 ≤ 0 := fun h => by
  have h4 := Int.tmod_nonneg (a := -n) 30 (by omega)
  rw [Int.neg_tmod] at h4
  omega
 unfold computusref01_Mod.f computusref01_Div.f
 rw [if_neg (by omega), wq (n.tdiv 30) (by omega), wq (n.tdiv 30 * 30) (by omega)]
 by_cases he : n.tdiv 30 * 30 = n
 ·rw [if_pos he]
  simp only [Option.bind_some]
  rw [wq (30 * n.tdiv 30) (by omega), wq _ (by omega)]
  congr 1; omega
 ·rw [if_neg he]
  by_cases hn : n < 0
  ·rw [decide_eq_true hn, decide_eq_false (by omega), if_pos (by decide)]
   simp only [Option.bind_some]
   have := ht hn
   rw [wq (n.tdiv 30 - 1) (by omega), wq (30 * (n.tdiv 30 - 1)) (by omega), wq _ (by omega)]
   congr 1; omega
  ·rw [decide_eq_false hn, decide_eq_false (by omega), if_neg (by decide)]
   simp only [Option.bind_some]
   have := hs (by omega)
   rw [wq (30 * n.tdiv 30) (by omega), wq _ (by omega)]
   congr 1; omega
theorem modq100 (n : Int) (h : -1000000000000000 ≤ n ∧ n ≤ 1000000000000000) : computusref01_Mod.f n 100 = some (n % 100) := by
 have hd := Int.tmod_def n 100
 have h2 := Int.tmod_lt_of_pos n (b := 100) (by omega)
 have h3 := Int.lt_tmod_of_pos n (b := 100) (by omega)
 have hs := Int.tmod_nonneg (a := n) 100
 have ht : n < 0 → n.tmod 100 ≤ 0 := fun h => by
  have h4 := Int.tmod_nonneg (a := -n) 100 (by omega)
  rw [Int.neg_tmod] at h4
  omega
 unfold computusref01_Mod.f computusref01_Div.f
 rw [if_neg (by omega), wq (n.tdiv 100) (by omega), wq (n.tdiv 100 * 100) (by omega)]
 by_cases he : n.tdiv 100 * 100 = n
 ·rw [if_pos he]
  simp only [Option.bind_some]
  rw [wq (100 * n.tdiv 100) (by omega), wq _ (by omega)]
  congr 1; omega
 ·rw [if_neg he]
  by_cases hn : n < 0
  ·rw [decide_eq_true hn, decide_eq_false (by omega), if_pos (by decide)]
   simp only [Option.bind_some]
   have := ht hn
   rw [wq (n.tdiv 100 - 1) (by omega), wq (100 * (n.tdiv 100 - 1)) (by omega), wq _ (by omega)]
   congr 1; omega
  ·rw [decide_eq_false hn, decide_eq_false (by omega), if_neg (by decide)]
   simp only [Option.bind_some]
   have := hs (by omega)
   rw [wq (100 * n.tdiv 100) (by omega), wq _ (by omega)]
   congr 1; omega
theorem modq400 (n : Int) (h : -1000000000000000 ≤ n ∧ n ≤ 1000000000000000) : computusref01_Mod.f n 400 = some (n % 400) := by
 have hd := Int.tmod_def n 400
 have h2 := Int.tmod_lt_of_pos n (b := 400) (by omega)
 have h3 := Int.lt_tmod_of_pos n (b := 400) (by omega)
 have hs := Int.tmod_nonneg (a := n) 400
 have ht : n < 0 → n.tmod 400 ≤ 0 := fun h => by
  have h4 := Int.tmod_nonneg (a := -n) 400 (by omega)
  rw [Int.neg_tmod] at h4
  omega
 unfold computusref01_Mod.f computusref01_Div.f
 rw [if_neg (by omega), wq (n.tdiv 400) (by omega), wq (n.tdiv 400 * 400) (by omega)]
 by_cases he : n.tdiv 400 * 400 = n
 ·rw [if_pos he]
  simp only [Option.bind_some]
  rw [wq (400 * n.tdiv 400) (by omega), wq _ (by omega)]
  congr 1; omega
 ·rw [if_neg he]
  by_cases hn : n < 0
  ·rw [decide_eq_true hn, decide_eq_false (by omega), if_pos (by decide)]
   simp only [Option.bind_some]
   have := ht hn
   rw [wq (n.tdiv 400 - 1) (by omega), wq (400 * (n.tdiv 400 - 1)) (by omega), wq _ (by omega)]
   congr 1; omega
  ·rw [decide_eq_false hn, decide_eq_false (by omega), if_neg (by decide)]
   simp only [Option.bind_some]
   have := hs (by omega)
   rw [wq (400 * n.tdiv 400) (by omega), wq _ (by omega)]
   congr 1; omega
theorem leapq (y : Int) (h : 1 ≤ y ∧ y ≤ 1000000010) : computusref03_Leap.f y = some (lp 2 y) := by
 unfold computusref03_Leap.f lp
 rw [modq400 y (by omega), modq4 y (by omega), modq100 y (by omega), if_neg (by omega)]
 simp only [Option.bind_some]
 by_cases h4 : y % 400 = 0
 ·rw [if_pos h4, decide_eq_true h4, decide_eq_true (show y % 4 = 0 by omega)]
  simp
 ·rw [if_neg h4, decide_eq_false h4]
  by_cases h2 : y % 4 = 0
  ·rw [if_pos h2, decide_eq_true h2]
   by_cases h3 : y % 100 = 0
   ·simp [h3]
   ·simp [h3]
  ·rw [if_neg h2, decide_eq_false h2]
   simp
theorem len_ev (b : Bool) (m : Int) : Ev (fun k => computusref02_Length.f k b m) (mlen b m) := by
 have h1 : ∀ m : Int, (m = 1 ∨ m = 3 ∨ m = 5 ∨ m = 7 ∨ m = 8 ∨ m = 10 ∨ m = 12) → Ev (fun k => computusref02_Length.j0 k b m true) (mlen b m) := fun m hm => by
  refine Ev.fin fun k => ?_
  simp only [computusref02_Length.j0]
  unfold mlen
  rw [if_pos trivial, if_neg (by omega), if_neg (by omega), if_pos (by omega)]
 have h2 : ∀ m : Int, ¬ (m = 1 ∨ m = 3 ∨ m = 5 ∨ m = 7 ∨ m = 8 ∨ m = 10 ∨ m = 12) → Ev (fun k => computusref02_Length.j0 k b m false) (mlen b m) := fun m hm => by
  have j1 : ∀ m : Int, (m = 4 ∨ m = 6 ∨ m = 9 ∨ m = 11) → Ev (fun k => computusref02_Length.j1 k b m true) (mlen b m) := fun m hm => by
   refine Ev.fin fun k => ?_
   simp only [computusref02_Length.j1]
   unfold mlen
   rw [if_pos trivial, if_neg (by omega), if_pos (by omega)]
  have j2 : ∀ m : Int, ¬ (m = 1 ∨ m = 3 ∨ m = 5 ∨ m = 7 ∨ m = 8 ∨ m = 10 ∨ m = 12) → ¬ (m = 4 ∨ m = 6 ∨ m = 9 ∨ m = 11) → Ev (fun k => computusref02_Length.j1 k b m false) (mlen b m) := fun m h0 hm => by
   refine Ev.fin fun k => ?_
   simp only [computusref02_Length.j1]
   unfold mlen
   rw [if_neg (by simp)]
   by_cases h2 : m = 2
   ·rw [if_pos h2, if_pos h2]
    cases b <;> rfl
   ·rw [if_neg h2, if_neg h2, if_neg hm, if_neg (by omega)]
  by_cases h4 : m = 4
  ·refine Ev.step (fun k => ?_) (j1 m (.inl h4))
   simp only [computusref02_Length.j0]
   rw [if_neg (by simp), if_pos h4, beq_iff_eq.mpr h4]
  ·by_cases h6 : m = 6
   ·refine Ev.step (fun k => ?_) (j1 m (by omega))
    simp only [computusref02_Length.j0]
    rw [if_neg (by simp), if_neg h4, if_pos h6, beq_iff_eq.mpr h6]
   ·by_cases h9 : m = 9
    ·refine Ev.step (fun k => ?_) (j1 m (by omega))
     simp only [computusref02_Length.j0]
     rw [if_neg (by simp), if_neg h4, if_neg h6, if_pos h9, beq_iff_eq.mpr h9]
    ·by_cases h11 : m = 11
     ·refine Ev.step (fun k => ?_) (j1 m (by omega))
      simp only [computusref02_Length.j0]
      rw [if_neg (by simp), if_neg h4, if_neg h6, if_neg h9, beq_iff_eq.mpr h11]
     ·refine Ev.step (fun k => ?_) (j2 m hm (by omega))
      simp only [computusref02_Length.j0]
      rw [if_neg (by simp), if_neg h4, if_neg h6, if_neg h9, beq_eq_false_iff_ne.mpr h11]
 unfold computusref02_Length.f
 by_cases a1 : m = 1
 ·exact Ev.congr (fun k => by rw [if_pos a1, beq_iff_eq.mpr a1]) (h1 m (by omega))
 by_cases a3 : m = 3
 ·exact Ev.congr (fun k => by rw [if_neg a1, if_pos a3, beq_iff_eq.mpr a3]) (h1 m (by omega))
 by_cases a5 : m = 5
 ·exact Ev.congr (fun k => by rw [if_neg a1, if_neg a3, if_pos a5, beq_iff_eq.mpr a5]) (h1 m (by omega))
 by_cases a7 : m = 7
 ·exact Ev.congr (fun k => by rw [if_neg a1, if_neg a3, if_neg a5, if_pos a7, beq_iff_eq.mpr a7]) (h1 m (by omega))
 by_cases a8 : m = 8
 ·exact Ev.congr (fun k => by rw [if_neg a1, if_neg a3, if_neg a5, if_neg a7, if_pos a8, beq_iff_eq.mpr a8]) (h1 m (by omega))
 by_cases a10 : m = 10
 ·exact Ev.congr (fun k => by rw [if_neg a1, if_neg a3, if_neg a5, if_neg a7, if_neg a8, if_pos a10, beq_iff_eq.mpr a10]) (h1 m (by omega))
 by_cases a12 : m = 12
 ·exact Ev.congr (fun k => by rw [if_neg a1, if_neg a3, if_neg a5, if_neg a7, if_neg a8, if_neg a10, beq_iff_eq.mpr a12]) (h1 m (by omega))
 ·exact Ev.congr (fun k => by rw [if_neg a1, if_neg a3, if_neg a5, if_neg a7, if_neg a8, if_neg a10, beq_eq_false_iff_ne.mpr a12]) (h2 m (by omega))
theorem firstq (y : Int) (h : 1 ≤ y ∧ y ≤ 1000000010) : computusref03_First.f y = some (fst 2 y) := by
 unfold computusref03_First.f fst
 rw [if_neg (by omega), wq (y - 1) (by omega), Int.tdiv_eq_ediv_of_nonneg (by omega), Int.tdiv_eq_ediv_of_nonneg (by omega), Int.tdiv_eq_ediv_of_nonneg (by omega), wq (365 * (y - 1)) (by omega), wq ((y - 1) / 4) (by omega), wq ((y - 1) / 100) (by omega), wq ((y - 1) / 400) (by omega), wq (365 * (y - 1) + (y - 1) / 4) (by omega), wq (365 * (y - 1) + (y - 1) / 4 - (y - 1) / 100) (by omega), wq (365 * (y - 1) + (y - 1) / 4 - (y - 1) / 100 + (y - 1) / 400) (by omega), wq _ (by omega)]
theorem inq (y : Int) (h : 1 ≤ y ∧ y ≤ 1000000000) : computusref02_In.f y = some true := by
 unfold computusref02_In.f
 rw [if_pos (by omega), decide_eq_true h.2]
theorem validq (x : Date) (h : Ok 2 x) : Ev (fun k => computusref03_Valid.f k x.y x.m x.d) true := by
 obtain ⟨h1, h2, h3, h4, h5, h6⟩ := h
 unfold computusref03_Valid.f
 rw [inq x.y ⟨h1, h2⟩, leapq x.y (by omega)]
 simp only [Option.bind_some, if_true]
 refine Ev.congr (fun k => if_pos h5) ?_
 refine Ev.bind (len_ev (lp 2 x.y) x.m) ?_
 rw [decide_eq_true h6]
 exact Ev.now true
theorem todayl (x : Date) (h : Ok 2 x) : ∀ (n m : Nat), (m : Int) + n = x.m → 1 ≤ m → Ev (fun k => computusref03_ToDay.l0 k (fst 2 x.y + cum (lp 2 x.y) m) (m : Int) x.y x.m x.d) (num 2 x, 0)
 | 0, m, hm, h1 => Ev.fin fun k => by
  obtain ⟨y1, y2, y3, y4, y5, y6⟩ := h
  have hb := fst_bounds 2 (y := x.y) (by omega) (by omega)
  have hc := cum_tab (lp 2 x.y) m (by omega)
  have hl := mlen_nonneg (lp 2 x.y) x.m
  simp only [computusref03_ToDay.l0]
  rw [if_neg (by omega), wq (fst 2 x.y + cum (lp 2 x.y) m + x.d) (by omega), wq _ (by omega)]
  have e : x.m.toNat = m := by omega
  unfold num
  rw [e]
 | n + 1, m, hm, h1 => by
  have h0 := h
  obtain ⟨y1, y2, y3, y4, y5, y6⟩ := h
  have hb := fst_bounds 2 (y := x.y) (by omega) (by omega)
  have hc := cum_tab (lp 2 x.y) m (by omega)
  have hl := mlen_nonneg (lp 2 x.y) m
  have e := todayl x h0 n (m + 1) (by omega) (by omega)
  refine Ev.step (f := fun k => (computusref02_Length.f k (lp 2 x.y) (m : Int)).bind fun t => computusref03_ToDay.l0 k (wrap64 (fst 2 x.y + cum (lp 2 x.y) m + t)) (wrap64 ((m : Int) + 1)) x.y x.m x.d) (fun k => ?_) ?_
  ·simp only [computusref03_ToDay.l0]
   rw [if_pos (by omega), leapq x.y (by omega)]
   rfl
  ·refine Ev.bind (len_ev _ _) ?_
   rw [wq (fst 2 x.y + cum (lp 2 x.y) m + mlen (lp 2 x.y) (m : Int)) (by omega), wq ((m : Int) + 1) (by omega)]
   rw [cum_succ (lp 2 x.y) h1] at e
   rw [show ((m + 1 : Nat) : Int) = (m : Int) + 1 by omega, ← Int.add_assoc] at e
   exact e
theorem today_ev (x : Date) (h : Ok 2 x) : Ev (fun k => computusref03_ToDay.f k x.y x.m x.d) (num 2 x, 0) := by
 have h0 := h
 obtain ⟨h1, h2, h3, h4, h5, h6⟩ := h
 unfold computusref03_ToDay.f
 rw [inq x.y ⟨h1, h2⟩, firstq x.y (by omega)]
 simp only [Option.bind_some, if_true]
 refine Ev.bind (validq x h0) ?_
 simp only [if_true]
 have e := todayl x h0 (x.m.toNat - 1) 1 (by omega) (by omega)
 have c1 : cum (lp 2 x.y) 1 = 0 := rfl
 rw [c1, Int.add_zero] at e
 exact e
theorem fromday_md (y : Int) (hy : 1 ≤ y ∧ y ≤ 1000000000) : ∀ (q m : Nat) (r : Int), m + q = 12 → 1 ≤ m → 0 ≤ r → cum (lp 2 y) m + r < cum (lp 2 y) 13 →
  Ev (fun k => computusref03_FromDay.l1 k y y (m : Int) (r + 1)) (y, (mdGo (lp 2 y) q (m : Int) r).1, (mdGo (lp 2 y) q (m : Int) r).2, 0)
 | q, m, r, hq, h1, h0, hr => by
  have hl := mlen_nonneg (lp 2 y) m
  have h13 : cum (lp 2 y) 13 ≤ 366 := (cum_tab (lp 2 y) 13 (by omega)).2
  have hcm := (cum_tab (lp 2 y) m (by omega)).1
  have hs := cum_succ (lp 2 y) h1
  have start : ∀ (f : Nat → Option (Int × Int × Int × Int)) (R : Int × Int × Int × Int), Ev (fun k => if r + 1 > mlen (lp 2 y) (m : Int) then (computusref02_Length.f k (lp 2 y) (m : Int)).bind fun t => computusref03_FromDay.l1 k y y (wrap64 ((m : Int) + 1)) (wrap64 (r + 1 - t)) else some (y, (m : Int), r + 1, 0)) R → Ev (fun k => computusref03_FromDay.l1 k y y (m : Int) (r + 1)) R := fun _ R e => by
   refine Ev.step (f := fun k => (computusref02_Length.f k (lp 2 y) (m : Int)).bind fun t => if r + 1 > t then (computusref02_Length.f k (lp 2 y) (m : Int)).bind fun t => computusref03_FromDay.l1 k y y (wrap64 ((m : Int) + 1)) (wrap64 (r + 1 - t)) else some (y, (m : Int), r + 1, 0)) (fun k => ?_) (Ev.bind (len_ev _ _) e)
   simp only [computusref03_FromDay.l1]
   rw [leapq y (by omega)]
   rfl
  cases q with
  | zero =>
   obtain rfl : m = 12 := by omega
   have h12 : cum (lp 2 y) (12 + 1) = cum (lp 2 y) 13 := rfl
   refine start (fun _ => none) _ (Ev.congr (fun k => if_neg (by omega)) ?_)
   exact Ev.now _
  | succ q =>
   rw [mdGo]
   by_cases hc : mlen (lp 2 y) (m : Int) ≤ r
   ·rw [if_pos hc]
    have e := fromday_md y hy q (m + 1) (r - mlen (lp 2 y) (m : Int)) (by omega) (by omega) (by omega) (by omega)
    rw [show ((m + 1 : Nat) : Int) = (m : Int) + 1 by omega] at e
    refine start (fun _ => none) _ (Ev.congr (fun k => if_pos (by omega)) ?_)
    refine Ev.bind (len_ev _ _) ?_
    rw [wq ((m : Int) + 1) (by omega), wq (r + 1 - mlen (lp 2 y) (m : Int)) (by omega), show r + 1 - mlen (lp 2 y) (m : Int) = r - mlen (lp 2 y) (m : Int) + 1 by omega]
    exact e
   ·rw [if_neg hc]
    refine start (fun _ => none) _ (Ev.congr (fun k => if_neg (by omega)) ?_)
    exact Ev.now _
theorem fromday_l0 (n : Int) (hn : 0 ≤ n ∧ n ≤ 400000000000) : ∀ (s : Nat) (lo hi : Int), hi - lo ≤ s → 1 ≤ lo → lo ≤ hi → hi ≤ 1000000000 → fst 2 lo ≤ n → n < fst 2 (hi + 1) → Ev (fun k => computusref03_FromDay.l0 k n lo hi) ((date 2 n).y, (date 2 n).m, (date 2 n).d, 0)
 | s, lo, hi, hs, h1, h2, h3, h4, h5 => by
  by_cases he : lo < hi
  ·have hmid : wrap64 (Int.tdiv (wrap64 (wrap64 (lo + hi) + 1)) 2) = (lo + hi + 1) / 2 := by
    rw [wq (lo + hi) (by omega), wq (lo + hi + 1) (by omega), Int.tdiv_eq_ediv_of_nonneg (by omega), wq _ (by omega)]
   cases s with
   | zero => omega
   | succ s =>
    by_cases hc : fst 2 ((lo + hi + 1) / 2) ≤ n
    ·refine Ev.step (fun k => ?_) (fromday_l0 n hn s ((lo + hi + 1) / 2) hi (by omega) (by omega) (by omega) h3 hc h5)
     simp only [computusref03_FromDay.l0]
     rw [if_pos he, hmid, firstq _ (by omega)]
     simp only [Option.bind_some]
     rw [if_pos hc]
    ·refine Ev.step (fun k => ?_) (fromday_l0 n hn s lo ((lo + hi + 1) / 2 - 1) (by omega) h1 (by omega) (by omega) h4 (by rw [show (lo + hi + 1) / 2 - 1 + 1 = (lo + hi + 1) / 2 by omega]; omega))
     simp only [computusref03_FromDay.l0]
     rw [if_pos he, hmid, firstq _ (by omega)]
     simp only [Option.bind_some]
     rw [if_neg hc, wq ((lo + hi + 1) / 2 - 1) (by omega)]
  ·obtain rfl : lo = hi := by omega
   have hb := fst_bounds 2 (y := lo) (by omega) (by omega)
   have hy : yr 2 n = lo := yr_of h4 h5
   have hyl := fst_next 2 lo
   have e := fromday_md lo ⟨h1, h3⟩ 11 1 (n - fst 2 lo) rfl (by omega) (by omega) (by
    have c1 : cum (lp 2 lo) 1 = 0 := rfl
    have c13 := cum_all (lp 2 lo)
    unfold ylen at hyl
    cases hb : lp 2 lo <;> rw [hb] at hyl c1 c13 <;> simp at hyl c13 <;> omega)
   refine Ev.step (fun k => ?_) (f := fun k => computusref03_FromDay.l1 k lo lo 1 (n - fst 2 lo + 1)) ?_
   ·simp only [computusref03_FromDay.l0]
    rw [if_neg he, firstq _ (by omega)]
    simp only [Option.bind_some]
    rw [wq (n - fst 2 lo) (by omega), wq _ (by omega)]
   ·have : date 2 n = ⟨lo, (mdGo (lp 2 lo) 11 1 (n - fst 2 lo)).1, (mdGo (lp 2 lo) 11 1 (n - fst 2 lo)).2⟩ := by
     unfold date dateIn
     rw [hy]
    rw [this]
    exact e
theorem fst_ends : fst 2 1 = 1 ∧ fst 2 1000000001 = 365242500001 := by constructor <;> decide
theorem fromday_ev (n : Int) (h : inDays 2 n) : Ev (fun k => computusref03_FromDay.f k n) ((date 2 n).y, (date 2 n).m, (date 2 n).d, 0) := by
 obtain ⟨h1, h2⟩ := h
 have he := fst_ends
 unfold computusref03_FromDay.f
 rw [firstq 1000000001 (by omega)]
 refine Ev.congr (fun k => if_neg (by omega)) ?_
 simp only [Option.bind_some]
 rw [decide_eq_false (by omega)]
 refine Ev.step (fun k => ?_) (fromday_l0 n (by omega) 1000000000 1 1000000000 (by omega) (by omega) (by omega) (by omega) h1 h2)
 simp only [computusref03_FromDay.j0]
 rw [if_neg (by simp)]
theorem today05_ev (x : Date) (h : Ok 2 x) : Ev (fun k => computusref05_ToDay.f k 2 x.y x.m x.d) (num 2 x, 0) := by
 unfold computusref05_ToDay.f
 refine Ev.congr (fun k => by rw [if_neg (by omega), if_pos rfl]) ?_
 exact Ev.bind (today_ev x h) (Ev.now _)
theorem fromday05_ev (n : Int) (h : inDays 2 n) : Ev (fun k => computusref05_FromDay.f k 2 n) ((date 2 n).y, (date 2 n).m, (date 2 n).d, 0) := by
 unfold computusref05_FromDay.f
 refine Ev.congr (fun k => by rw [if_neg (by omega), if_pos rfl]) ?_
 exact Ev.bind (fromday_ev n h) (Ev.now _)
theorem ofq (n : Int) (h : -1000000000000000 ≤ n ∧ n ≤ 1000000000000000) : computusref04_Of.f n = some (n % 7) := by
 unfold computusref04_Of.f
 rw [modq7 n h]
 rfl
end Go.Proofs.Ytopfjjdkffdjpaa.Q
end
section
/- What is proved: the reference's Easter and the days of its anchors: they end, and their numbers are not negative. -/
namespace Go.Proofs.Ytopfjjdkffdjpaa.Q
open Go.RowKit Go.Proofs.YtopfjjdkffdjpaaW.PrintWords Go.Proofs.YtopfjjdkffdjpaaW.PrintLast Go.Proofs.Ytopfjjdkffdjpaa.Cal
section
variable {y : Int} (h0 : 1 ≤ y) (h1 : y ≤ 1000000000)
include h0 h1
theorem goldenq : computusref06_Golden.f y = some (y % 19 + 1) := by
 unfold computusref06_Golden.f
 rw [Int.tdiv_eq_ediv_of_nonneg (by omega), wq (y / 19) (by omega), wq (19 * (y / 19)) (by omega), wq (y - 19 * (y / 19)) (by omega), wq _ (by omega)]
 congr 2
 omega
theorem centuryq : computusref06_Century.f y = some (y / 100 + 1) := by
 unfold computusref06_Century.f
 rw [Int.tdiv_eq_ediv_of_nonneg (by omega), wq (y / 100) (by omega), wq _ (by omega)]
theorem lunarq : computusref06_Lunar.f y = some ((8 * (y / 100 + 1) + 5) / 25 - 5) := by
 unfold computusref06_Lunar.f
 rw [centuryq h0 h1]
 simp only [Option.bind_some]
 rw [wq (8 * (y / 100 + 1)) (by omega), wq (8 * (y / 100 + 1) + 5) (by omega), Int.tdiv_eq_ediv_of_nonneg (by omega), wq ((8 * (y / 100 + 1) + 5) / 25) (by omega), wq _ (by omega)]
theorem solarq : computusref06_Solar.f y = some (3 * (y / 100 + 1) / 4 - 12) := by
 unfold computusref06_Solar.f
 rw [centuryq h0 h1]
 simp only [Option.bind_some]
 rw [wq (3 * (y / 100 + 1)) (by omega), Int.tdiv_eq_ediv_of_nonneg (by omega), wq (3 * (y / 100 + 1) / 4) (by omega), wq _ (by omega)]
theorem label_some : ∃ v, computusref07_Label.f 2 y = some v := by
 have hof : ∃ v, computusref07_Of.f 2 y = some v := by
  unfold computusref07_Of.f
  rw [goldenq h0 h1, lunarq h0 h1, solarq h0 h1]
  simp only [Option.bind_some, if_true]
  rw [wq (11 * (y % 19 + 1)) (by omega), wq (11 * (y % 19 + 1) + 20) (by omega), wq (11 * (y % 19 + 1) + 20 + ((8 * (y / 100 + 1) + 5) / 25 - 5)) (by omega), wq _ (by omega), modq30 _ (by omega)]
  simp only [Option.bind_some]
  split <;> exact ⟨_, rfl⟩
 obtain ⟨v, hv⟩ := hof
 unfold computusref07_Label.f
 rw [hv, goldenq h0 h1]
 simp only [Option.bind_some]
 split
 ·split <;> exact ⟨_, rfl⟩
 ·exact ⟨_, rfl⟩
end
/-- The days that a new moon of the year's table may fall on, thirteen days ahead of the full moon. -/
theorem position_all : ∀ d : Fin 50, (d.val < 24 → (computusref08_Position.f 800 3 ((d.val : Int) + 8)).isSome = true) ∧ (d.val < 20 → (computusref08_Position.f 800 4 ((d.val : Int) + 1)).isSome = true) := by decide +kernel
theorem position_ev (m d : Int) (h : (m = 3 ∧ 8 ≤ d ∧ d ≤ 31) ∨ (m = 4 ∧ 1 ≤ d ∧ d ≤ 20)) : ∃ p, Ev (fun k => computusref08_Position.f k m d) p := by
 have : (computusref08_Position.f 800 m d).isSome = true := by
  rcases h with ⟨rfl, h1, h2⟩ | ⟨rfl, h1, h2⟩
  ·have := (position_all ⟨(d - 8).toNat, by omega⟩).1 (by show (d - 8).toNat < 24; omega)
   have e : (((d - 8).toNat : Nat) : Int) + 8 = d := by omega
   rwa [e] at this
  ·have := (position_all ⟨(d - 1).toNat, by omega⟩).2 (by show (d - 1).toNat < 20; omega)
   have e : (((d - 1).toNat : Nat) : Int) + 1 = d := by omega
   rwa [e] at this
 obtain ⟨p, hp⟩ := Option.isSome_iff_exists.1 this
 exact ⟨p, Ev.of (by intro k; apply computusref08_Position.mono) hp⟩
theorem bears_ev (m d v : Int) (h : (m = 3 ∧ 8 ≤ d ∧ d ≤ 31) ∨ (m = 4 ∧ 1 ≤ d ∧ d ≤ 20)) : ∃ b, Ev (fun k => computusref08_Bears.f k m d v) b := by
 obtain ⟨p, hp⟩ := position_ev m d h
 have : ∃ b, (if p.2.2 = true then (if (Int.tmod p.1 2) = 0 then (if v = (wrap64 (30 - p.2.1)) then (some true) else (if v = 31 then (some (p.2.1 == 5)) else (some false))) else (if p.2.1 ≤ 4 then (if v = (wrap64 (30 - p.2.1)) then (some true) else (if v = 31 then (some (p.2.1 == 4)) else (some false))) else (if p.2.1 = 5 then (if v = 25 then (some true) else (some (v == 24))) else (some (v == (wrap64 (29 - p.2.1))))))) else (some false) : Option Bool) = some b := by
  repeat' split
  all_goals exact ⟨_, rfl⟩
 obtain ⟨b, hb⟩ := this
 refine ⟨b, ?_⟩
 unfold computusref08_Bears.f
 exact Ev.bind hp (Ev.def_ hb)
theorem newmoon_ev (y m d : Int) (h0 : 1 ≤ y) (h1 : y ≤ 1000000000) (h : (m = 3 ∧ 8 ≤ d ∧ d ≤ 31) ∨ (m = 4 ∧ 1 ≤ d ∧ d ≤ 20)) : ∃ b, Ev (fun k => computusref09_NewMoon.f k 2 y m d) b := by
 obtain ⟨v, hv⟩ := label_some h0 h1
 obtain ⟨b, hb⟩ := bears_ev m d v h
 refine ⟨b, ?_⟩
 unfold computusref09_NewMoon.f
 rw [hv]
 simp only [Option.bind_some]
 exact Ev.bind hb (Ev.now b)
/-- 21 March. -/
def eqx (y : Int) : Int := num 2 ⟨y, 3, 21⟩
theorem eqx_le (y : Int) (h0 : 1583 ≤ y) (h1 : y ≤ 1000000000) : 577079 ≤ eqx y ∧ eqx y ≤ 370000000500 ∧ fst 2 y + 50 ≤ eqx y ∧ eqx y + 250 ≤ fst 2 (y + 1) := by
 have a := fst_pos h0
 have b := fst_bounds 2 (y := y) (by omega) (by omega)
 have c := fst_next 2 y
 have c13 := ylen_le 2 y
 have e : cum (lp 2 y) 3 = 31 + mlen (lp 2 y) 2 := by
  rw [show (3 : Nat) = 1 + 1 + 1 from rfl, cum_succ _ (by omega), cum_succ _ (by omega)]
  show cum (lp 2 y) 1 + mlen (lp 2 y) 1 + mlen (lp 2 y) 2 = _
  have e1 : cum (lp 2 y) 1 = 0 := rfl
  have e2 : mlen (lp 2 y) 1 = 31 := by unfold mlen; rfl
  omega
 have f := mlen_range (lp 2 y) (m := 2) (by omega)
 unfold eqx num
 show 577079 ≤ fst 2 y + cum (lp 2 y) 3 + 21 - 1 ∧ fst 2 y + cum (lp 2 y) 3 + 21 - 1 ≤ _ ∧ _ ≤ fst 2 y + cum (lp 2 y) 3 + 21 - 1 ∧ fst 2 y + cum (lp 2 y) 3 + 21 - 1 + 250 ≤ _
 omega
theorem in_year (y n : Int) (h0 : 1583 ≤ y) (h1 : y ≤ 1000000000) (ha : fst 2 y ≤ n) (hb : n < fst 2 (y + 1)) : inDays 2 n ∧ (date 2 n).y = y ∧ Ok 2 (date 2 n) ∧ num 2 (date 2 n) = n := by
 have hi : inDays 2 n := ⟨by have := fst_mono 2 (show (1 : Int) ≤ y by omega); omega, by have := fst_mono 2 (show y + 1 ≤ 1000000001 by omega); omega⟩
 have hd := date_ok hi
 refine ⟨hi, ?_, hd.1, hd.2⟩
 exact yr_of ha hb
/-- The dates from 8 March to 20 April. -/
theorem march (y n : Int) (h0 : 1583 ≤ y) (h1 : y ≤ 1000000000) (i : Int) (hi : 0 ≤ i ∧ i ≤ 41) (hn : n = eqx y - 13 + i) : ((date 2 n).m = 3 ∧ 8 ≤ (date 2 n).d ∧ (date 2 n).d ≤ 31) ∨ ((date 2 n).m = 4 ∧ 1 ≤ (date 2 n).d ∧ (date 2 n).d ≤ 20) := by
 have e3 : mlen (lp 2 y) 3 = 31 := by unfold mlen; rfl
 have e4 : mlen (lp 2 y) 4 = 30 := by unfold mlen; rfl
 by_cases h : i ≤ 23
 ·have hok : Ok 2 ⟨y, 3, 8 + i⟩ := ⟨by simp; omega, by simp; omega, by simp, by simp, by simp; omega, by simp [e3]; omega⟩
  have hnum : n = num 2 ⟨y, 3, 8 + i⟩ := by rw [hn]; unfold eqx num; simp only; omega
  rw [hnum, (date_num hok).1]
  exact .inl ⟨rfl, by simp; omega, by simp; omega⟩
 ·have hok : Ok 2 ⟨y, 4, i - 23⟩ := ⟨by simp; omega, by simp; omega, by simp, by simp, by simp; omega, by simp [e4]; omega⟩
  have hc : cum (lp 2 y) 4 = cum (lp 2 y) 3 + 31 := by rw [show (4 : Nat) = 3 + 1 from rfl, cum_succ _ (by omega)]; show _ + mlen (lp 2 y) 3 = _; rw [e3]
  have hnum : n = num 2 ⟨y, 4, i - 23⟩ := by
   rw [hn]; unfold eqx num
   show fst 2 y + cum (lp 2 y) 3 + 21 - 1 - 13 + i = fst 2 y + cum (lp 2 y) 4 + (i - 23) - 1
   omega
  rw [hnum, (date_num hok).1]
  exact .inr ⟨rfl, by simp; omega, by simp; omega⟩
theorem fullmoon_l0 (y : Int) (h0 : 1583 ≤ y) (h1 : y ≤ 1000000000) : ∀ (s : Nat) (i : Int), 0 ≤ i → i + s = 40 → ∃ n, eqx y ≤ n ∧ n ≤ eqx y + 40 ∧ Ev (fun k => computusref09_FullMoon.l0 k 2 (eqx y + i) i) ((date 2 n).y, (date 2 n).m, (date 2 n).d)
 | s, i, hi, hs => by
  obtain ⟨q1, q2, q3, q4⟩ := eqx_le y h0 h1
  have hin : inDays 2 (eqx y + i) := (in_year y _ h0 h1 (by omega) (by omega)).1
  cases s with
  | zero =>
   refine ⟨eqx y + i, by omega, by omega, ?_⟩
   refine Ev.step (f := fun k => (computusref05_FromDay.f k 2 (eqx y + i)).bind fun b => some (b.1, b.2.1, b.2.2.1)) (fun k => ?_) (Ev.bind (fromday05_ev _ hin) (Ev.now _))
   simp only [computusref09_FullMoon.l0]
   rw [if_neg (by omega)]
  | succ s =>
   obtain ⟨p1, p2, p3, p4⟩ := in_year y (eqx y + i - 13) h0 h1 (by omega) (by omega)
   obtain ⟨b, hb⟩ := newmoon_ev (date 2 (eqx y + i - 13)).y (date 2 (eqx y + i - 13)).m (date 2 (eqx y + i - 13)).d (by rw [p2]; omega) (by rw [p2]; omega) (march y _ h0 h1 i (by omega) (by omega))
   have key : ∀ (n : Int), (Ev (fun k => if b = true then ((computusref05_FromDay.f k 2 (eqx y + i)).bind fun b => some (b.1, b.2.1, b.2.2.1)) else computusref09_FullMoon.l0 k 2 (wrap64 (eqx y + i + 1)) (wrap64 (i + 1))) ((date 2 n).y, (date 2 n).m, (date 2 n).d)) → Ev (fun k => computusref09_FullMoon.l0 k 2 (eqx y + i) i) ((date 2 n).y, (date 2 n).m, (date 2 n).d) := fun n e => by
    refine Ev.step (f := fun k => (computusref05_FromDay.f k 2 (eqx y + i - 13)).bind fun bt => (computusref09_NewMoon.f k 2 bt.1 bt.2.1 bt.2.2.1).bind fun t => if t = true then ((computusref05_FromDay.f k 2 (eqx y + i)).bind fun b => some (b.1, b.2.1, b.2.2.1)) else computusref09_FullMoon.l0 k 2 (wrap64 (eqx y + i + 1)) (wrap64 (i + 1))) (fun k => ?_) ?_
    ·simp only [computusref09_FullMoon.l0]
     rw [if_pos (by omega), wq (eqx y + i - 13) (by omega)]
    ·refine Ev.bind (fromday05_ev _ p1) ?_
     exact Ev.bind hb e
   cases b with
   | true =>
    refine ⟨eqx y + i, by omega, by omega, key _ ?_⟩
    exact Ev.bind (fromday05_ev _ hin) (Ev.now _)
   | false =>
    obtain ⟨n, a1, a2, a3⟩ := fullmoon_l0 y h0 h1 s (i + 1) (by omega) (by omega)
    refine ⟨n, a1, a2, key _ ?_⟩
    rw [wq (eqx y + i + 1) (by omega), wq (i + 1) (by omega)]
    rw [← Int.add_assoc] at a3
    exact a3
theorem fullmoon_ev (y : Int) (h0 : 1583 ≤ y) (h1 : y ≤ 1000000000) : ∃ n, eqx y ≤ n ∧ n ≤ eqx y + 40 ∧ Ev (fun k => computusref09_FullMoon.f k 2 y) ((date 2 n).y, (date 2 n).m, (date 2 n).d) := by
 have e3 : mlen (lp 2 y) 3 = 31 := by unfold mlen; rfl
 have hok : Ok 2 ⟨y, 3, 21⟩ := ⟨by simp; omega, by simp; omega, by simp, by simp, by simp, by simp [e3]⟩
 obtain ⟨n, a1, a2, a3⟩ := fullmoon_l0 y h0 h1 40 0 (by omega) (by omega)
 refine ⟨n, a1, a2, ?_⟩
 unfold computusref09_FullMoon.f
 rw [Int.add_zero] at a3
 exact Ev.bind (today05_ev ⟨y, 3, 21⟩ hok) a3
theorem sunday_l0 : ∀ (s : Nat) (n : Int), 0 ≤ n ∧ n + s ≤ 800000000000 → (7 - n % 7) % 7 = s → Ev (fun k => computusref10_Day.l0 k n) (n + s)
 | 0, n, hn, hs => Ev.fin fun k => by
  simp only [computusref10_Day.l0]
  rw [ofq n (by omega)]
  simp only [Option.bind_some]
  rw [if_pos (by omega)]
  congr 1
  omega
 | s + 1, n, hn, hs => by
  have e := sunday_l0 s (n + 1) (by omega) (by omega)
  rw [show n + 1 + (s : Int) = n + ((s + 1 : Nat) : Int) by omega] at e
  refine Ev.step (fun k => ?_) e
  simp only [computusref10_Day.l0]
  rw [ofq n (by omega)]
  simp only [Option.bind_some]
  rw [if_neg (by omega), wq (n + 1) (by omega)]
theorem easter_ev (y : Int) (h0 : 1583 ≤ y) (h1 : y ≤ 1000000000) : ∃ d, 577000 ≤ d ∧ d ≤ 380000000000 ∧ Ev (fun k => computusref10_Day.f k 2 y) d := by
 obtain ⟨n, a1, a2, a3⟩ := fullmoon_ev y h0 h1
 obtain ⟨q1, q2, q3, q4⟩ := eqx_le y h0 h1
 obtain ⟨p1, p2, p3, p4⟩ := in_year y n h0 h1 (by omega) (by omega)
 obtain ⟨s, hs⟩ : ∃ s : Nat, (7 - (n + 1) % 7) % 7 = s := ⟨((7 - (n + 1) % 7) % 7).toNat, by omega⟩
 refine ⟨n + 1 + s, by omega, by omega, ?_⟩
 unfold computusref10_Day.f
 refine Ev.bind a3 ?_
 refine Ev.bind (today05_ev (date 2 n) p3) ?_
 rw [p4]
 simp only
 rw [wq (n + 1) (by omega)]
 exact sunday_l0 s (n + 1) (by omega) hs
theorem fails04_ev (n w : Int) (hw : 0 ≤ w ∧ w ≤ 6) (hn : 0 ≤ n ∧ n ≤ 1000000000000) : Ev (fun k => computusref04_fails.f k n w) 0 := by
 unfold computusref04_fails.f
 refine Ev.congr (fun k => if_neg (by omega)) ?_
 rw [decide_eq_false (by omega)]
 refine Ev.fin fun k => ?_
 simp only [computusref04_fails.j0]
 rw [if_neg (by simp)]
 first | rfl | (rw [if_neg (by omega), if_neg (by omega)]) | (simp; omega)
theorem after_l0 (w : Int) (hw : 0 ≤ w ∧ w ≤ 6) : ∀ (s : Nat) (n : Int), 0 ≤ n ∧ n + s ≤ 1000000000000 → (w - n % 7) % 7 = s → Ev (fun k => computusref04_OnOrAfter.l0 k n w) (n + s, 0)
 | 0, n, hn, hs => Ev.fin fun k => by
  simp only [computusref04_OnOrAfter.l0]
  rw [ofq n (by omega)]
  simp only [Option.bind_some]
  rw [if_pos (by omega)]
  congr 2
  omega
 | s + 1, n, hn, hs => by
  have e := after_l0 w hw s (n + 1) (by omega) (by omega)
  rw [show n + 1 + (s : Int) = n + ((s + 1 : Nat) : Int) by omega] at e
  refine Ev.step (fun k => ?_) e
  simp only [computusref04_OnOrAfter.l0]
  rw [ofq n (by omega)]
  simp only [Option.bind_some]
  rw [if_neg (by omega), wq (n + 1) (by omega)]
theorem before_l0 (w : Int) (hw : 0 ≤ w ∧ w ≤ 6) : ∀ (s : Nat) (n : Int), (s : Int) ≤ n ∧ n ≤ 1000000000000 → (n % 7 - w) % 7 = s → Ev (fun k => computusref04_OnOrBefore.l0 k n w) (n - s, 0)
 | 0, n, hn, hs => Ev.fin fun k => by
  simp only [computusref04_OnOrBefore.l0]
  rw [ofq n (by omega)]
  simp only [Option.bind_some]
  rw [if_pos (by omega)]
  congr 2
  omega
 | s + 1, n, hn, hs => by
  have e := before_l0 w hw s (n - 1) (by omega) (by omega)
  rw [show n - 1 - (s : Int) = n - ((s + 1 : Nat) : Int) by omega] at e
  refine Ev.step (fun k => ?_) e
  simp only [computusref04_OnOrBefore.l0]
  rw [ofq n (by omega)]
  simp only [Option.bind_some]
  rw [if_neg (by omega), wq (n - 1) (by omega)]
theorem nth_l0 (c : Int) : ∀ (s : Nat) (d i : Int), 0 ≤ d ∧ d + 7 * s ≤ 2000000000000 → 1 ≤ i → c ≤ 1000 → c - i = s → Ev (fun k => computusref04_Nth.l0 k c d 0 i) (d + 7 * s, 0)
 | 0, d, i, hd, hi, hc, hs => Ev.fin fun k => by
  simp only [computusref04_Nth.l0]
  rw [if_neg (by omega)]
  congr 2
  omega
 | s + 1, d, i, hd, hi, hc, hs => by
  have e := nth_l0 c s (d + 7) (i + 1) (by omega) (by omega) hc (by omega)
  rw [show d + 7 + 7 * (s : Int) = d + 7 * ((s + 1 : Nat) : Int) by omega] at e
  refine Ev.step (fun k => ?_) e
  simp only [computusref04_Nth.l0]
  rw [if_pos (by omega), if_pos trivial, wq (d + 7) (by omega), wq (i + 1) (by omega)]
theorem nth_l1 (c : Int) : ∀ (s : Nat) (d i : Int), 7 * (s : Int) ≤ d ∧ d ≤ 2000000000000 → i ≤ -1 → -1000 ≤ c → i - c = s → Ev (fun k => computusref04_Nth.l1 k c d 0 i) (d - 7 * s, 0)
 | 0, d, i, hd, hi, hc, hs => Ev.fin fun k => by
  simp only [computusref04_Nth.l1]
  rw [if_neg (by omega)]
  congr 2
  omega
 | s + 1, d, i, hd, hi, hc, hs => by
  have e := nth_l1 c s (d - 7) (i - 1) (by omega) (by omega) hc (by omega)
  rw [show d - 7 - 7 * (s : Int) = d - 7 * ((s + 1 : Nat) : Int) by omega] at e
  refine Ev.step (fun k => ?_) e
  simp only [computusref04_Nth.l1]
  rw [if_pos (by omega), if_pos trivial, wq (d - 7) (by omega), wq (i - 1) (by omega)]
theorem nth_ev (n w c : Int) (hw : 0 ≤ w ∧ w ≤ 6) (hn : 100 ≤ n ∧ n ≤ 400000000000) (hc : (1 ≤ c ∧ c ≤ 8) ∨ (-8 ≤ c ∧ c ≤ -1)) : ∃ d, 0 ≤ d ∧ d ≤ 500000000000 ∧ Ev (fun k => computusref04_Nth.f k n w c) (d, 0) := by
 have start : ∀ (r : Int × Int), Ev (fun k => computusref04_Nth.j0 k n w c false) r → Ev (fun k => computusref04_Nth.f k n w c) r := fun r e => by
  unfold computusref04_Nth.f
  refine Ev.congr (fun k => by rw [if_neg (by omega), if_neg (by omega), if_neg (by omega), if_neg (by omega), decide_eq_false (show ¬ c > 1000 by omega)]) e
 rcases hc with hc | hc
 ·obtain ⟨s, hs⟩ : ∃ s : Nat, (w - n % 7) % 7 = s := ⟨((w - n % 7) % 7).toNat, by omega⟩
  obtain ⟨q, hq⟩ : ∃ q : Nat, c - 1 = q := ⟨(c - 1).toNat, by omega⟩
  refine ⟨n + s + 7 * q, by omega, by omega, start _ ?_⟩
  refine Ev.step (f := fun k => (computusref04_OnOrAfter.f k n w).bind fun b => computusref04_Nth.l0 k c b.1 b.2 1) (fun k => ?_) ?_
  ·simp only [computusref04_Nth.j0]
   rw [if_neg (by simp), if_pos (by omega)]
  ·have e1 : Ev (fun k => computusref04_OnOrAfter.f k n w) (n + s, 0) := by
    unfold computusref04_OnOrAfter.f
    refine Ev.bind (fails04_ev n w hw (by omega)) ?_
    simp only [if_true]
    exact after_l0 w hw s n (by omega) hs
   exact Ev.bind e1 (nth_l0 c q (n + s) 1 (by omega) (by omega) (by omega) hq)
 ·obtain ⟨s, hs⟩ : ∃ s : Nat, (n % 7 - w) % 7 = s := ⟨((n % 7 - w) % 7).toNat, by omega⟩
  obtain ⟨q, hq⟩ : ∃ q : Nat, -1 - c = q := ⟨(-1 - c).toNat, by omega⟩
  refine ⟨n - s - 7 * q, by omega, by omega, start _ ?_⟩
  refine Ev.step (f := fun k => (computusref04_OnOrBefore.f k n w).bind fun b => computusref04_Nth.l1 k c b.1 b.2 (-1)) (fun k => ?_) ?_
  ·simp only [computusref04_Nth.j0]
   rw [if_neg (by simp), if_neg (by omega)]
  ·have e1 : Ev (fun k => computusref04_OnOrBefore.f k n w) (n - s, 0) := by
    unfold computusref04_OnOrBefore.f
    refine Ev.bind (fails04_ev n w hw (by omega)) ?_
    simp only [if_true]
    exact before_l0 w hw s n (by omega) hs
   exact Ev.bind e1 (nth_l1 c q (n - s) (-1) (by omega) (by omega) (by omega) hq)
/-- An anchor that is well formed. -/
def anchorOk (a : S64) : Prop :=
 (a.f0 = 2 ∧ -80 ≤ a.f3 ∧ a.f3 ≤ 250) ∨ ((a.f0 = 1 ∨ a.f0 = 3) ∧ 1 ≤ a.f2 ∧ a.f2 ≤ mlen false a.f1 ∧ (a.f0 = 3 → (0 ≤ a.f4 ∧ a.f4 ≤ 6) ∧ ((1 ≤ a.f5 ∧ a.f5 ≤ 8) ∨ (-8 ≤ a.f5 ∧ a.f5 ≤ -1))))
theorem mlen_common (b : Bool) (m : Int) : mlen false m ≤ mlen b m := by
 unfold mlen
 split
 ·cases b <;> simp
 ·exact Int.le_refl _
theorem day16_ev (a : S64) (h : anchorOk a) (y : Int) (h0 : 1583 ≤ y) (h1 : y ≤ 1000000000) : ∃ d, 0 ≤ d ∧ d ≤ 1000000000000 ∧ Ev (fun k => computusref16_Day.f k a.f0 a.f1 a.f2 a.f3 a.f4 a.f5 y) d := by
 unfold computusref16_Day.f
 rcases h with ⟨ha, h2, h3⟩ | ⟨ha, h2, h3, h4⟩
 ·obtain ⟨d, d0, d1, d2⟩ := easter_ev y h0 h1
  refine ⟨d + a.f3, by omega, by omega, ?_⟩
  refine Ev.congr (fun k => if_pos ha) ?_
  refine Ev.bind d2 ?_
  rw [wq _ (by omega)]
  exact Ev.now _
 ·have hm : 1 ≤ a.f1 ∧ a.f1 ≤ 12 := by
   by_cases hm : 1 ≤ a.f1 ∧ a.f1 ≤ 12
   ·exact hm
   ·rw [mlen_zero false hm] at h3; omega
  have hl := mlen_common (lp 2 y) a.f1
  have hok : Ok 2 ⟨y, a.f1, a.f2⟩ := ⟨by simp; omega, by simp; omega, hm.1, hm.2, h2, by simp; omega⟩
  have hn := num_year hok
  have b1 := fst_pos h0
  have b2 := fst_bounds 2 (y := y + 1) (by omega) (by omega)
  simp only at hn
  have start : ∀ (d : Int), Ev (fun k => if a.f0 = 3 then (computusref04_Nth.f k (num 2 ⟨y, a.f1, a.f2⟩) a.f4 a.f5).bind fun b => some b.1 else some (num 2 ⟨y, a.f1, a.f2⟩)) d → Ev (fun k => if a.f0 = 2 then ((computusref10_Day.f k 2 y).bind fun t397 => (some (wrap64 (t397 + a.f3)))) else ((computusref03_ToDay.f k y a.f1 a.f2).bind fun bt398 => (if a.f0 = 3 then ((computusref04_Nth.f k bt398.1 a.f4 a.f5).bind fun bt400 => (some bt400.1)) else (some bt398.1)))) d := fun d e =>
   Ev.congr (fun k => if_neg (by omega)) (Ev.bind (today_ev ⟨y, a.f1, a.f2⟩ hok) e)
  by_cases h3' : a.f0 = 3
  ·obtain ⟨hw, hc⟩ := h4 h3'
   obtain ⟨d, d0, d1, d2⟩ := nth_ev (num 2 ⟨y, a.f1, a.f2⟩) a.f4 a.f5 hw (by omega) hc
   exact ⟨d, d0, by omega, start d (Ev.congr (fun k => if_pos h3') (Ev.bind d2 (Ev.now _)))⟩
  ·exact ⟨num 2 ⟨y, a.f1, a.f2⟩, by omega, by omega, start _ (Ev.congr (fun k => if_neg h3') (Ev.now _))⟩
end Go.Proofs.Ytopfjjdkffdjpaa.Q
end
section
/- What is proved: the reference's checks of catalogues end; what they accept. -/
namespace Go.Proofs.Ytopfjjdkffdjpaa.Q
open Go.RowKit Go.Proofs.YtopfjjdkffdjpaaW.PrintWords Go.Proofs.YtopfjjdkffdjpaaW.PrintLast Go.Proofs.Ytopfjjdkffdjpaa.Cal
/-- It ends with an answer, and 'yes' says P. -/
def ExB (g : Nat → Option Bool) (P : Prop) : Prop := ∃ b, Ev g b ∧ (b = true → P)
theorem ExB.step {g f : Nat → Option Bool} {P : Prop} (h : ∀ k, g (k + 1) = f k) (e : ExB f P) : ExB g P := by
 obtain ⟨b, e, p⟩ := e
 exact ⟨b, Ev.step h e, p⟩
theorem ExB.congr {g f : Nat → Option Bool} {P : Prop} (h : ∀ k, g k = f k) (e : ExB f P) : ExB g P := by
 obtain ⟨b, e, p⟩ := e
 exact ⟨b, Ev.congr h e, p⟩
theorem ExB.no {P : Prop} : ExB (fun _ => some false) P := ⟨false, Ev.now _, fun h => by cases h⟩
theorem ExB.dec {P Q : Prop} [Decidable Q] (h : Q → P) : ExB (fun _ => some (decide Q)) P := ⟨_, Ev.now _, fun e => h (of_decide_eq_true e)⟩
theorem ExB.bind {g : Nat → Option Bool} {f : Nat → Bool → Option Bool} {P Q : Prop} (h : ExB g Q) (h1 : Q → ExB (fun k => f k true) P) (h2 : ExB (fun k => f k false) P) : ExB (fun k => (g k).bind (f k)) P := by
 obtain ⟨b, e, p⟩ := h
 cases b with
 | true =>
  obtain ⟨c, e2, p2⟩ := h1 (p rfl)
  exact ⟨c, Ev.bind e e2, p2⟩
 | false =>
  obtain ⟨c, e2, p2⟩ := h2
  exact ⟨c, Ev.bind e e2, p2⟩
theorem ExB.ite {c : Prop} [Decidable c] {f g : Nat → Option Bool} {P : Prop} (h1 : c → ExB f P) (h2 : ¬ c → ExB g P) : ExB (fun k => if c then f k else g k) P := by
 by_cases h : c
 ·exact ExB.congr (fun k => if_pos h) (h1 h)
 ·exact ExB.congr (fun k => if_neg h) (h2 h)
theorem ExB.imp {g : Nat → Option Bool} {P Q : Prop} (h : ExB g P) (hq : P → Q) : ExB g Q := by
 obtain ⟨b, e, p⟩ := h
 exact ⟨b, e, fun h => hq (p h)⟩
theorem exists_ev (m d : Int) : ExB (fun k => computusref08_Exists.f k m d) (1 ≤ d ∧ d ≤ mlen false m) := by
 unfold computusref08_Exists.f
 refine ExB.ite (fun h => ?_) (fun _ => ExB.no)
 exact ⟨_, Ev.bind (len_ev false m) (Ev.now _), fun e => ⟨h, of_decide_eq_true e⟩⟩
theorem ofyear_ev (m d : Int) (h : 1 ≤ d ∧ d ≤ mlen false m) : ∃ n, Ev (fun k => computusref16_ofYear.f k m d) n := by
 have hm : 1 ≤ m ∧ m ≤ 12 := by
  by_cases hm : 1 ≤ m ∧ m ≤ 12
  ·exact hm
  ·have := mlen_zero false hm; omega
 have hl := mlen_common (lp 2 2001) m
 have hok : Ok 2 ⟨2001, m, d⟩ := ⟨by simp, by simp, hm.1, hm.2, h.1, by simp; omega⟩
 refine ⟨wrap64 (wrap64 (num 2 ⟨2001, m, d⟩ - fst 2 2001) + 1), ?_⟩
 unfold computusref16_ofYear.f
 rw [firstq 2001 (by omega)]
 exact Ev.bind (today_ev ⟨2001, m, d⟩ hok) (Ev.now _)
theorem check16_ev (a : S64) : ExB (fun k => computusref16_Check.f k a.f0 a.f1 a.f2 a.f3 a.f4 a.f5) (anchorOk a) := by
 unfold computusref16_Check.f
 refine ExB.ite (fun h2 => ?_) (fun h2 => ?_)
 ·refine ExB.ite (fun _ => ?_) (fun _ => ExB.no)
  refine ExB.ite (fun _ => ?_) (fun _ => ExB.no)
  refine ExB.ite (fun _ => ?_) (fun _ => ExB.no)
  refine ExB.ite (fun _ => ?_) (fun _ => ExB.no)
  refine ExB.ite (fun h3 => ?_) (fun _ => ExB.no)
  exact ExB.dec (fun h4 => .inl ⟨h2, h3, h4⟩)
 ·have no : ∀ x, ExB (fun k => computusref16_Check.j1 k x true a.f0 a.f1 a.f2 a.f3 a.f4 a.f5) (anchorOk a) := fun x => ExB.step (fun k => by simp only [computusref16_Check.j1]; rw [if_pos trivial]) ExB.no
  refine ExB.bind (exists_ev a.f1 a.f2) (fun he => ?_) ?_
  ·refine ExB.congr (fun k => if_pos rfl) ?_
   refine ExB.step (fun k => by simp only [computusref16_Check.j0]; rfl) ?_
   refine ExB.ite (fun _ => ExB.no) (fun _ => ?_)
   refine ExB.ite (fun h1 => ?_) (fun h1 => ?_)
   ·refine ExB.ite (fun _ => ?_) (fun _ => ExB.no)
    exact ⟨_, Ev.now _, fun _ => .inr ⟨.inl h1, he.1, he.2, fun h => by omega⟩⟩
   ·obtain ⟨n, hn⟩ := ofyear_ev a.f1 a.f2 he
    have key : ExB (fun k => if a.f0 = 3 then (if a.f4 < 0 then computusref16_Check.j1 k n true a.f0 a.f1 a.f2 a.f3 a.f4 a.f5 else computusref16_Check.j1 k n (decide (a.f4 > 6)) a.f0 a.f1 a.f2 a.f3 a.f4 a.f5) else computusref16_Check.j1 k n true a.f0 a.f1 a.f2 a.f3 a.f4 a.f5) (anchorOk a) := by
     refine ExB.ite (fun h3 => ?_) (fun _ => no n)
     refine ExB.ite (fun _ => no n) (fun h4 => ?_)
     refine ExB.step (fun k => by simp only [computusref16_Check.j1]; rfl) ?_
     refine ExB.ite (fun _ => ExB.no) (fun h5 => ?_)
     have hw : 0 ≤ a.f4 ∧ a.f4 ≤ 6 := by have : ¬ a.f4 > 6 := fun h => h5 (decide_eq_true h); omega
     have fin : ∀ q : Bool, ((1 ≤ a.f5 ∧ a.f5 ≤ 8) ∨ (-8 ≤ a.f5 ∧ a.f5 ≤ -1)) → ExB (fun _ => some q) (anchorOk a) := fun q hc => ⟨q, Ev.now _, fun _ => .inr ⟨.inr h3, he.1, he.2, fun _ => ⟨hw, hc⟩⟩⟩
     refine ExB.ite (fun h6 => ?_) (fun h6 => ?_)
     ·refine ExB.ite (fun h7 => fin _ (by omega)) (fun h7 => ?_)
      refine ExB.ite (fun h8 => ?_) (fun _ => ExB.no)
      exact ExB.ite (fun h9 => fin _ (by omega)) (fun _ => ExB.no)
     ·refine ExB.ite (fun h8 => ?_) (fun _ => ExB.no)
      exact ExB.ite (fun h9 => fin _ (by omega)) (fun _ => ExB.no)
    obtain ⟨b, e, p⟩ := key
    exact ⟨b, Ev.bind hn e, p⟩
  ·refine ExB.congr (fun k => if_neg (by simp)) ?_
   exact ExB.step (fun k => by simp only [computusref16_Check.j0]; rw [if_pos trivial]) ExB.no
theorem ident_l0 (a : ByteArray) (ha : a.size ≤ 1000000) : ∀ (s i : Nat), i + s = a.size → ExB (fun k => computusref17_Identifier.l0 k a (i : Int)) True
 | 0, i, h => ⟨true, Ev.fin fun k => by simp only [computusref17_Identifier.l0]; rw [if_neg (by omega)], fun _ => trivial⟩
 | s + 1, i, h => by
  have ih := ident_l0 a ha s (i + 1) (by omega)
  have hw : wrap64 ((i : Int) + 1) = ((i + 1 : Nat) : Int) := by rw [wq _ (by omega)]; omega
  have j3 : ∀ (c : Int) (b : Bool), ExB (fun k => computusref17_Identifier.j3 k a (i : Int) c b) True := fun c b => by
   refine ExB.step (fun k => by simp only [computusref17_Identifier.j3]; rw [hw]) ?_
   refine ExB.ite (fun _ => ih) (fun _ => ?_)
   refine ExB.ite (fun _ => ?_) (fun _ => ExB.no)
   refine ExB.ite (fun _ => ExB.no) (fun h0 => ?_)
   refine ExB.ite (fun _ => ExB.no) (fun _ => ?_)
   refine ExB.congr (fun k => by rw [if_pos (by rw [wq _ (by omega)]; omega), if_pos (by rw [wq _ (by omega)]; omega)]) ?_
   exact ExB.ite (fun _ => ExB.no) (fun _ => ih)
  have j2 : ∀ (c : Int) (b : Bool), ExB (fun k => computusref17_Identifier.j2 k a (i : Int) c b) True := fun c b => by
   refine ExB.step (fun k => by simp only [computusref17_Identifier.j2]; rw [hw]) ?_
   refine ExB.ite (fun _ => ih) (fun _ => ?_)
   refine ExB.ite (fun _ => ?_) (fun _ => j3 _ _)
   exact ExB.ite (fun _ => j3 _ _) (fun _ => j3 _ _)
  refine ExB.step (fun k => by simp only [computusref17_Identifier.l0]; rw [if_pos (by omega), if_pos (by omega)]) ?_
  exact ExB.ite (fun _ => j2 _ _) (fun _ => j2 _ _)
theorem ident_ev (a : ByteArray) : ExB (fun k => computusref17_Identifier.f k a) True := by
 have no : ExB (fun k => computusref17_Identifier.j0 k a true) True := ExB.step (fun k => by simp only [computusref17_Identifier.j0]; rw [if_pos trivial]) ExB.no
 unfold computusref17_Identifier.f
 refine ExB.ite (fun _ => no) (fun h1 => ?_)
 refine ExB.step (fun k => by simp only [computusref17_Identifier.j0]; rfl) ?_
 refine ExB.ite (fun _ => ExB.no) (fun h => ?_)
 have : ¬ (a.size : Int) > 40 := fun h2 => h (decide_eq_true h2)
 exact ident_l0 a (by omega) a.size 0 (by omega)
def seasonOk (s : S66) : Prop := anchorOk s.f3
def feastOk (f : S68) : Prop := (1 ≤ f.f1 ∧ f.f1 ≤ 9) ∧ (1 ≤ f.f2 ∧ f.f2 ≤ 3) ∧ anchorOk f.f3
theorem season_ev (s : S66) : ExB (fun k => computusref17_Season.f k s.f0 s.f1 s.f2 s.f3.f0 s.f3.f1 s.f3.f2 s.f3.f3 s.f3.f4 s.f3.f5) (seasonOk s) := by
 unfold computusref17_Season.f
 refine ExB.bind (ident_ev s.f0) (fun _ => ?_) (ExB.congr (fun k => if_neg (by simp)) ExB.no)
 refine ExB.congr (fun k => if_pos rfl) ?_
 refine ExB.ite (fun _ => ?_) (fun _ => ExB.no)
 refine ExB.ite (fun _ => ?_) (fun _ => ExB.no)
 refine ExB.ite (fun _ => ?_) (fun _ => ExB.no)
 refine ExB.ite (fun _ => ?_) (fun _ => ExB.no)
 exact ExB.bind (check16_ev s.f3) (fun h => ⟨true, Ev.now _, fun _ => h⟩) ExB.no
theorem feast_ev (s : S68) : ExB (fun k => computusref17_Feast.f k s.f0 s.f1 s.f2 s.f3.f0 s.f3.f1 s.f3.f2 s.f3.f3 s.f3.f4 s.f3.f5) (feastOk s) := by
 unfold computusref17_Feast.f
 refine ExB.bind (ident_ev s.f0) (fun _ => ?_) (ExB.congr (fun k => if_neg (by simp)) ExB.no)
 refine ExB.congr (fun k => if_pos rfl) ?_
 refine ExB.ite (fun h1 => ?_) (fun _ => ExB.no)
 refine ExB.ite (fun h2 => ?_) (fun _ => ExB.no)
 refine ExB.ite (fun h3 => ?_) (fun _ => ExB.no)
 refine ExB.ite (fun h4 => ?_) (fun _ => ExB.no)
 exact ExB.bind (check16_ev s.f3) (fun h => ⟨true, Ev.now _, fun _ => ⟨⟨h1, h2⟩, ⟨h3, h4⟩, h⟩⟩) ExB.no
theorem ids_l3 (x : List ByteArray) (hx : x.length ≤ 100000) (i : Nat) (hi : i < x.length) (next : ExB (fun k => computusref17_Check.l2 k x ((i + 1 : Nat) : Int)) True) : ∀ (s j : Nat), j + s = i → ExB (fun k => computusref17_Check.l3 k x (i : Int) (j : Int)) True
 | 0, j, h => ExB.step (fun k => by simp only [computusref17_Check.l3]; rw [if_neg (by omega), wq _ (by omega), show (i : Int) + 1 = ((i + 1 : Nat) : Int) by omega]) next
 | s + 1, j, h => by
  refine ExB.step (fun k => by simp only [computusref17_Check.l3]; rw [if_pos (by omega), if_pos (by omega), if_pos (by omega), if_pos (by omega), if_pos (by omega), wq _ (by omega), show (j : Int) + 1 = ((j + 1 : Nat) : Int) by omega]) ?_
  exact ExB.ite (fun _ => ExB.no) (fun _ => ids_l3 x hx i hi next s (j + 1) (by omega))
theorem ids_l2 (x : List ByteArray) (hx : x.length ≤ 100000) : ∀ (s i : Nat), i + s = x.length → ExB (fun k => computusref17_Check.l2 k x (i : Int)) True
 | 0, i, h => ⟨true, Ev.fin fun k => by simp only [computusref17_Check.l2]; rw [if_neg (by omega)], fun _ => trivial⟩
 | s + 1, i, h => by
  refine ExB.step (fun k => by simp only [computusref17_Check.l2]; rw [if_pos (by omega)]) ?_
  exact ids_l3 x hx i (by omega) (ids_l2 x hx s (i + 1) (by omega)) i 0 (by omega)
theorem rdSn (l : List S66) (i : Nat) (h : i < l.length) : rd_T66 l (i : Int) = l[i] := by simp [rd_T66, List.getD, h]
theorem rdFs (l : List S68) (i : Nat) (h : i < l.length) : rd_T68 l (i : Int) = l[i] := by simp [rd_T68, List.getD, h]
theorem check_l1 (a0 : Int) (l1 : List S66) (l2 : List S68) (hl : l2.length ≤ 1000) : ∀ (s i : Nat) (x : List ByteArray), i + s = l2.length → x.length ≤ 10000 + i → ExB (fun k => computusref17_Check.l1 k x (i : Int) a0 l1 l2) (∀ f ∈ l2.drop i, feastOk f)
 | 0, i, x, h, hx => by
  refine (ExB.step (fun k => by simp only [computusref17_Check.l1]; rw [if_neg (by omega)]; rfl) (ids_l2 x (by omega) x.length 0 (by omega))).imp fun _ f hf => ?_
  rw [List.drop_of_length_le (by omega)] at hf
  cases hf
 | s + 1, i, x, h, hx => by
  have hi : i < l2.length := by omega
  refine ExB.step (fun k => by simp only [computusref17_Check.l1]; rw [if_pos (by omega), if_pos (by omega), rdFs l2 i hi]) ?_
  refine ExB.bind (feast_ev l2[i]) (fun hf => ?_) (ExB.congr (fun k => if_neg (by simp)) ExB.no)
  refine ExB.congr (fun k => by rw [if_pos rfl, if_pos (by omega), wq _ (by omega), show (i : Int) + 1 = ((i + 1 : Nat) : Int) by omega]) ?_
  refine (check_l1 a0 l1 l2 hl s (i + 1) (x ++ [l2[i].f0]) (by omega) (by simp; omega)).imp fun hr f hm => ?_
  rw [List.drop_eq_getElem_cons hi] at hm
  rcases List.mem_cons.1 hm with rfl | hm
  ·exact hf
  ·exact hr f hm
theorem check_l0 (a0 : Int) (l1 : List S66) (l2 : List S68) (h1 : l1.length ≤ 1000) (hl : l2.length ≤ 1000) : ∀ (s i : Nat) (x : List ByteArray), i + s = l1.length → x.length ≤ i → ExB (fun k => computusref17_Check.l0 k x (i : Int) a0 l1 l2) ((∀ f ∈ l1.drop i, seasonOk f) ∧ ∀ f ∈ l2, feastOk f)
 | 0, i, x, h, hx => by
  refine (ExB.step (fun k => by simp only [computusref17_Check.l0]; rw [if_neg (by omega)]; rfl) (check_l1 a0 l1 l2 hl l2.length 0 x (by omega) (by omega))).imp fun hr => ⟨fun f hf => ?_, by simpa using hr⟩
  rw [List.drop_of_length_le (by omega)] at hf
  cases hf
 | s + 1, i, x, h, hx => by
  have hi : i < l1.length := by omega
  refine ExB.step (fun k => by simp only [computusref17_Check.l0]; rw [if_pos (by omega), if_pos (by omega), rdSn l1 i hi]) ?_
  refine ExB.bind (season_ev l1[i]) (fun hf => ?_) (ExB.congr (fun k => if_neg (by simp)) ExB.no)
  refine ExB.congr (fun k => by rw [if_pos rfl, if_pos (by omega), wq _ (by omega), show (i : Int) + 1 = ((i + 1 : Nat) : Int) by omega]) ?_
  refine (check_l0 a0 l1 l2 h1 hl s (i + 1) (x ++ [l1[i].f0]) (by omega) (by simp; omega)).imp fun hr => ⟨fun f hm => ?_, hr.2⟩
  rw [List.drop_eq_getElem_cons hi] at hm
  rcases List.mem_cons.1 hm with rfl | hm
  ·exact hf
  ·exact hr.1 f hm
/-- A catalogue that the reference accepts. -/
def catOk (l1 : List S66) (l2 : List S68) : Prop := 0 < l1.length ∧ (∀ s ∈ l1, seasonOk s) ∧ ∀ f ∈ l2, feastOk f
theorem check_ev (a0 : Int) (l1 : List S66) (l2 : List S68) (h1 : l1.length ≤ 1000) (hl : l2.length ≤ 1000) : ExB (fun k => computusref17_Check.f k a0 l1 l2) (catOk l1 l2) := by
 have no : ExB (fun k => computusref17_Check.j0 k true a0 l1 l2) (catOk l1 l2) := ExB.step (fun k => by simp only [computusref17_Check.j0]; rw [if_pos trivial]) ExB.no
 unfold computusref17_Check.f
 refine ExB.ite (fun _ => no) (fun _ => ?_)
 refine ExB.ite (fun _ => no) (fun _ => ?_)
 refine ExB.ite (fun _ => no) (fun h3 => ?_)
 refine ExB.ite (fun _ => no) (fun _ => ?_)
 refine ExB.step (fun k => by simp only [computusref17_Check.j0]; rfl) ?_
 refine ExB.ite (fun _ => ExB.no) (fun _ => ?_)
 refine (check_l0 a0 l1 l2 h1 hl l1.length 0 [] (by omega) (by simp)).imp fun h => ⟨by omega, by simpa using h.1, h.2⟩
theorem right_ev (a0 : Int) (l1 : List S66) (l2 : List S68) : ExB (fun k => computusref17_Right.f k a0 l1 l2) (Ev (fun k => computusref17_Check.f k a0 l1 l2) true ∧ catOk l1 l2 ∧ l1.length ≤ 8 ∧ l2.length ≤ 30) := by
 unfold computusref17_Right.f computusref17_Few.f
 by_cases h1 : (l1.length : Int) ≤ 8
 ·rw [if_pos h1]
  simp only [Option.bind_some]
  by_cases h2 : (l2.length : Int) ≤ 30
  ·rw [decide_eq_true h2]
   refine ExB.congr (fun k => if_pos rfl) ?_
   obtain ⟨b, e, p⟩ := check_ev a0 l1 l2 (by omega) (by omega)
   exact ⟨b, Ev.bind e (Ev.now _), fun hb => ⟨by rw [hb] at e; exact e, p hb, by omega, by omega⟩⟩
  ·rw [decide_eq_false h2]
   exact ExB.congr (fun k => if_neg (by simp)) ExB.no
 ·rw [if_neg h1]
  simp only [Option.bind_some]
  exact ExB.congr (fun k => if_neg (by simp)) ExB.no
/-- A year and a day of it. -/
def dayOk (y d : Int) : Prop := 1583 ≤ y ∧ y ≤ 1000000000 ∧ fst 2 y ≤ d ∧ d < fst 2 (y + 1)
theorem fails18_ev (a0 : Int) (l1 : List S66) (l2 : List S68) (h : Ev (fun k => computusref17_Check.f k a0 l1 l2) true) (y d : Int) : ∃ r : Int, Ev (fun k => computusref18_Fails.f k a0 l1 l2 y d) r ∧ (r = 0 → dayOk y d) := by
 have key : ∃ r : Int, Ev (fun _ => (computusref06_InGregorian.f y).bind fun t269 => (if t269 = true then ((computusref03_First.f y).bind fun t270 => (if d < t270 then (some 2) else ((computusref03_First.f (wrap64 (y + 1))).bind fun t271 => (if d ≥ t271 then (some 2) else (some 0))))) else (some 1))) r ∧ (r = 0 → dayOk y d) := by
  unfold computusref06_InGregorian.f
  by_cases h1 : y ≥ 1583
  ·rw [if_pos h1]
   simp only [Option.bind_some]
   by_cases h2 : y ≤ 1000000000
   ·rw [decide_eq_true h2, if_pos rfl, firstq y (by omega)]
    simp only [Option.bind_some]
    by_cases h3 : d < fst 2 y
    ·rw [if_pos h3]
     exact ⟨2, Ev.now _, fun h => by omega⟩
    ·rw [if_neg h3, wq (y + 1) (by omega), firstq (y + 1) (by omega)]
     simp only [Option.bind_some]
     by_cases h4 : d ≥ fst 2 (y + 1)
     ·rw [if_pos h4]
      exact ⟨2, Ev.now _, fun h => by omega⟩
     ·rw [if_neg h4]
      exact ⟨0, Ev.now _, fun _ => ⟨h1, h2, by omega, by omega⟩⟩
   ·rw [decide_eq_false h2, if_neg (by simp)]
    exact ⟨1, Ev.now _, fun h => by omega⟩
  ·rw [if_neg h1]
   simp only [Option.bind_some]
   rw [if_neg (by simp)]
   exact ⟨1, Ev.now _, fun h => by omega⟩
 obtain ⟨r, e, p⟩ := key
 refine ⟨r, ?_, p⟩
 unfold computusref18_Fails.f
 refine Ev.bind h ?_
 exact Ev.congr (fun k => if_pos rfl) e
end Go.Proofs.Ytopfjjdkffdjpaa.Q
end
section
/- What is proved: the reference's candidates of a day: one of the season, and feasts in the catalogue's order. -/
namespace Go.Proofs.Ytopfjjdkffdjpaa.Q
open Go.RowKit Go.Proofs.YtopfjjdkffdjpaaW.PrintWords Go.Proofs.YtopfjjdkffdjpaaW.PrintLast Go.Proofs.Ytopfjjdkffdjpaa.Cal
abbrev Sn := S66
abbrev Fs := S68
abbrev Rc := S44
theorem rdI (l : List Int) (i : Nat) (h : i < l.length) : rd l (i : Int) = l[i] := by simp [rd, List.getD, h]
theorem starts_l0 (a0 : Int) (l1 : List Sn) (l2 : List Fs) (hl : l1.length ≤ 1000) (ho : ∀ s ∈ l1, seasonOk s) (y : Int) (h0 : 1583 ≤ y) (h1 : y ≤ 1000000000) : ∀ (s i : Nat) (out : List Int), i + s = l1.length → out.length = i → (∀ d ∈ out, 0 ≤ d) → ∃ ds : List Int, ds.length = l1.length ∧ (∀ d ∈ ds, 0 ≤ d) ∧ Ev (fun k => computusref18_Starts.l0 k y out (i : Int) a0 l1 l2) ds
 | 0, i, out, h, hx, hd => ⟨out, by omega, hd, Ev.fin fun k => by simp only [computusref18_Starts.l0]; rw [if_neg (by omega)]⟩
 | s + 1, i, out, h, hx, hd => by
  have hi : i < l1.length := by omega
  obtain ⟨d, d0, d1, d2⟩ := day16_ev l1[i].f3 (ho _ (List.getElem_mem hi)) y h0 h1
  obtain ⟨ds, e1, e2, e3⟩ := starts_l0 a0 l1 l2 hl ho y h0 h1 s (i + 1) (out ++ [d]) (by omega) (by simp; omega) (fun x hm => by
   rcases List.mem_append.1 hm with hm | hm
   ·exact hd x hm
   ·simp at hm; omega)
  refine ⟨ds, e1, e2, ?_⟩
  refine Ev.step (f := fun k => (computusref16_Day.f k l1[i].f3.f0 l1[i].f3.f1 l1[i].f3.f2 l1[i].f3.f3 l1[i].f3.f4 l1[i].f3.f5 y).bind fun t => if out.length < 17592186044416 then computusref18_Starts.l0 k y (out ++ [t]) (wrap64 ((i : Int) + 1)) a0 l1 l2 else none) (fun k => ?_) (Ev.bind d2 ?_)
  ·simp only [computusref18_Starts.l0]
   rw [if_pos (by omega), if_pos (by omega), rdSn l1 i hi]
  ·refine Ev.congr (fun k => if_pos (by omega)) ?_
   rw [wq _ (by omega), show (i : Int) + 1 = ((i + 1 : Nat) : Int) by omega]
   exact e3
theorem days_l0 (a0 : Int) (l1 : List Sn) (l2 : List Fs) (hl : l2.length ≤ 1000) (ho : ∀ s ∈ l2, feastOk s) (y : Int) (h0 : 1583 ≤ y) (h1 : y ≤ 1000000000) : ∀ (s i : Nat) (out : List Int), i + s = l2.length → out.length = i → ∃ ds : List Int, ds.length = l2.length ∧ Ev (fun k => computusref19_Days.l0 k y out (i : Int) a0 l1 l2) ds
 | 0, i, out, h, hx => ⟨out, by omega, Ev.fin fun k => by simp only [computusref19_Days.l0]; rw [if_neg (by omega)]⟩
 | s + 1, i, out, h, hx => by
  have hi : i < l2.length := by omega
  obtain ⟨d, d0, d1, d2⟩ := day16_ev l2[i].f3 (ho _ (List.getElem_mem hi)).2.2 y h0 h1
  obtain ⟨ds, e1, e3⟩ := days_l0 a0 l1 l2 hl ho y h0 h1 s (i + 1) (out ++ [d]) (by omega) (by simp; omega)
  refine ⟨ds, e1, ?_⟩
  refine Ev.step (f := fun k => (computusref16_Day.f k l2[i].f3.f0 l2[i].f3.f1 l2[i].f3.f2 l2[i].f3.f3 l2[i].f3.f4 l2[i].f3.f5 y).bind fun t => if out.length < 17592186044416 then computusref19_Days.l0 k y (out ++ [t]) (wrap64 ((i : Int) + 1)) a0 l1 l2 else none) (fun k => ?_) (Ev.bind d2 ?_)
  ·simp only [computusref19_Days.l0]
   rw [if_pos (by omega), if_pos (by omega), rdFs l2 i hi]
  ·refine Ev.congr (fun k => if_pos (by omega)) ?_
   rw [wq _ (by omega), show (i : Int) + 1 = ((i + 1 : Nat) : Int) by omega]
   exact e3
theorem in18_l1 (l : List Int) (hl : l.length ≤ 1000) (h0 : ∀ d ∈ l, 0 ≤ d) : ∀ (s i : Nat) (b q : Int), i + s = l.length → (i = 0 → q = 0) → (0 < i → 0 ≤ b ∧ b < l.length) → 0 < l.length → ∃ r : Int × Int, (0 ≤ r.1 ∧ r.1 < l.length) ∧ Ev (fun k => computusref18_In.l1 k l b q (i : Int)) r
 | 0, i, b, q, h, hq, hb, hp => ⟨(b, 0), hb (by omega), Ev.fin fun k => by simp only [computusref18_In.l1]; rw [if_neg (by omega)]⟩
 | s + 1, i, b, q, h, hq, hb, hp => by
  have hi : i < l.length := by omega
  have hw : wrap64 ((i : Int) + 1) = ((i + 1 : Nat) : Int) := by rw [wq _ (by omega)]; omega
  by_cases hc : l[i] ≥ q
  ·obtain ⟨r, r1, r2⟩ := in18_l1 l hl h0 s (i + 1) i l[i] (by omega) (by omega) (fun _ => ⟨by omega, by omega⟩) hp
   refine ⟨r, r1, Ev.step (fun k => ?_) r2⟩
   simp only [computusref18_In.l1]
   rw [if_pos (by omega), if_pos (by omega), rdI l i hi, if_pos hc, hw]
  ·obtain ⟨r, r1, r2⟩ := in18_l1 l hl h0 s (i + 1) b q (by omega) (by omega) (fun _ => hb (by
    by_cases hi0 : i = 0
    ·exfalso
     apply hc
     rw [hq hi0]
     exact h0 _ (List.getElem_mem hi)
    ·omega)) hp
   refine ⟨r, r1, Ev.step (fun k => ?_) r2⟩
   simp only [computusref18_In.l1]
   rw [if_pos (by omega), if_pos (by omega), rdI l i hi, if_neg hc, hw]
theorem in18_l0 (l : List Int) (hl : l.length ≤ 1000) (h0 : ∀ d ∈ l, 0 ≤ d) (hp : 0 < l.length) (day : Int) : ∀ (s i : Nat) (b q : Int), i + s = l.length → b < i → ∃ r : Int × Int, (0 ≤ r.1 ∧ r.1 < l.length) ∧ Ev (fun k => computusref18_In.l0 k l day b q (i : Int)) r
 | 0, i, b, q, h, hb => by
  by_cases hb0 : b ≥ 0
  ·refine ⟨(b, q), ⟨hb0, by omega⟩, Ev.fin fun k => ?_⟩
   simp only [computusref18_In.l0]
   rw [if_neg (by omega), if_pos hb0]
  ·obtain ⟨r, r1, r2⟩ := in18_l1 l hl h0 l.length 0 b 0 (by omega) (fun _ => rfl) (fun h => by omega) hp
   refine ⟨r, r1, Ev.step (fun k => ?_) r2⟩
   simp only [computusref18_In.l0]
   rw [if_neg (by omega), if_neg hb0]
   rfl
 | s + 1, i, b, q, h, hb => by
  have hi : i < l.length := by omega
  have hw : wrap64 ((i : Int) + 1) = ((i + 1 : Nat) : Int) := by rw [wq _ (by omega)]; omega
  obtain ⟨r, r1, r2⟩ := in18_l0 l hl h0 hp day s (i + 1) b q (by omega) (by omega)
  by_cases h1 : l[i] ≤ day
  ·by_cases h2 : l[i] ≥ q
   ·obtain ⟨r, r1, r2⟩ := in18_l0 l hl h0 hp day s (i + 1) i l[i] (by omega) (by omega)
    refine ⟨r, r1, Ev.step (fun k => ?_) r2⟩
    simp only [computusref18_In.l0]
    rw [if_pos (by omega), if_pos (by omega), rdI l i hi, if_pos h1, if_pos h2, hw]
   ·refine ⟨r, r1, Ev.step (fun k => ?_) r2⟩
    simp only [computusref18_In.l0]
    rw [if_pos (by omega), if_pos (by omega), rdI l i hi, if_pos h1, if_neg h2, hw]
  ·refine ⟨r, r1, Ev.step (fun k => ?_) r2⟩
   simp only [computusref18_In.l0]
   rw [if_pos (by omega), if_pos (by omega), rdI l i hi, if_neg h1, hw]
/-- The candidate of feast i. -/
def prop (l2 : List Fs) (i : Nat) : Rc := ⟨2, i, (l2.getD i z68).f1, (l2.getD i z68).f0⟩
/-- Candidates as0 the reference lists them: one of the season, then feasts. -/
def candsOf (l2 : List Fs) (l : List Rc) : Prop := ∃ (h : Rc) (is : List Nat), l = h :: is.map (prop l2) ∧ h.f0 = 1 ∧ (∀ i ∈ is, i < l2.length) ∧ is.Pairwise (· < ·)
theorem in19_l0 (a0 : Int) (l1 : List Sn) (l2 : List Fs) (hl : l2.length ≤ 1000) (ds : List Int) (hd : ds.length = l2.length) (day : Int) (h : Rc) (hh : h.f0 = 1) : ∀ (s i : Nat) (is : List Nat), i + s = l2.length → (∀ j ∈ is, j < i) → is.Pairwise (· < ·) → is.length ≤ i → ∃ l, candsOf l2 l ∧ l.length ≤ l2.length + 1 ∧ Ev (fun k => computusref19_In.l0 k ds day (h :: is.map (prop l2)) (i : Int) a0 l1 l2) l
 | 0, i, is, hs, hj, hp, hn => ⟨_, ⟨h, is, rfl, hh, fun j hm => by have := hj j hm; omega, hp⟩, by simp; omega, Ev.fin fun k => by simp only [computusref19_In.l0]; rw [if_neg (by omega)]⟩
 | s + 1, i, is, hs, hj, hp, hn => by
  have hi : i < l2.length := by omega
  have hw : wrap64 ((i : Int) + 1) = ((i + 1 : Nat) : Int) := by rw [wq _ (by omega)]; omega
  by_cases hc : ds[i]'(by omega) = day
  ·obtain ⟨l, a1, a2, a3⟩ := in19_l0 a0 l1 l2 hl ds hd day h hh s (i + 1) (is ++ [i]) (by omega) (fun j hm => by
    rcases List.mem_append.1 hm with hm | hm
    ·have := hj j hm; omega
    ·simp at hm; omega) (by
    rw [List.pairwise_append]
    exact ⟨hp, by simp, fun a ha b hb => by simp at hb; subst hb; exact hj a ha⟩) (by simp; omega)
   refine ⟨l, a1, a2, Ev.step (fun k => ?_) a3⟩
   simp only [computusref19_In.l0]
   rw [if_pos (by omega), if_pos (by omega), if_pos (by omega), rdI ds i (by omega), if_pos hc, if_pos (by simp; omega), rdFs l2 i hi, hw]
   simp [prop, hi]
  ·obtain ⟨l, a1, a2, a3⟩ := in19_l0 a0 l1 l2 hl ds hd day h hh s (i + 1) is (by omega) (fun j hm => by have := hj j hm; omega) hp (by omega)
   refine ⟨l, a1, a2, Ev.step (fun k => ?_) a3⟩
   simp only [computusref19_In.l0]
   rw [if_pos (by omega), if_pos (by omega), if_pos (by omega), rdI ds i (by omega), if_neg hc, hw]
theorem cands_ev (a0 : Int) (l1 : List Sn) (l2 : List Fs) (hc : catOk l1 l2) (h1 : l1.length ≤ 1000) (h2 : l2.length ≤ 1000) (y day : Int) (hd : dayOk y day) : ∃ l, candsOf l2 l ∧ l.length ≤ l2.length + 1 ∧ Ev (fun k => computusref19_Of.f k a0 l1 l2 y day) l := by
 obtain ⟨c1, c2, c3⟩ := hc
 obtain ⟨y0, y1, y2, y3⟩ := hd
 have hb := fst_bounds 2 (y := y + 1) (by omega) (by omega)
 have hp := fst_pos y0
 obtain ⟨ss, s1, s2, s3⟩ := starts_l0 a0 l1 l2 h1 c2 y y0 y1 l1.length 0 [] (by omega) rfl (fun d hd => by cases hd)
 obtain ⟨ds, d1, d2⟩ := days_l0 a0 l1 l2 h2 c3 y y0 y1 l2.length 0 [] (by omega) rfl
 obtain ⟨r, r1, r2⟩ := in18_l0 ss (by omega) s2 (by omega) day ss.length 0 (-1) 0 (by omega) (by omega)
 have hin : ∃ l, candsOf l2 l ∧ l.length ≤ l2.length + 1 ∧ Ev (fun k => computusref19_In.f k a0 l1 l2 ss ds day) l := by
  have key : ∀ rank : Int, ∃ l, candsOf l2 l ∧ l.length ≤ l2.length + 1 ∧ Ev (fun k => computusref19_In.j0 k ds day [(⟨1, r.1, rank, (rd_T66 l1 r.1).f0⟩ : Rc)] a0 l1 l2) l := fun rank => by
   obtain ⟨l, a1, a2, a3⟩ := in19_l0 a0 l1 l2 h2 ds d1 day ⟨1, r.1, rank, (rd_T66 l1 r.1).f0⟩ rfl l2.length 0 [] (by omega) (fun j hm => by cases hm) List.Pairwise.nil (by simp)
   exact ⟨l, a1, a2, Ev.step (fun k => by simp only [computusref19_In.j0]; rfl) a3⟩
  have start : ∀ l, Ev (fun k => if day % 7 = 0 then computusref19_In.j0 k ds day [(⟨1, r.1, (rd_T66 l1 r.1).f1, (rd_T66 l1 r.1).f0⟩ : Rc)] a0 l1 l2 else computusref19_In.j0 k ds day [(⟨1, r.1, (rd_T66 l1 r.1).f2, (rd_T66 l1 r.1).f0⟩ : Rc)] a0 l1 l2) l → Ev (fun k => computusref19_In.f k a0 l1 l2 ss ds day) l := fun l e => by
   unfold computusref19_In.f
   refine Ev.bind (show Ev (fun k => computusref18_In.f k ss day) r from r2) ?_
   refine Ev.congr (fun k => by rw [if_pos r1.1, if_pos (by omega)]) ?_
   simp only [Option.bind_some]
   rw [ofq day (by omega)]
   simp only [Option.bind_some]
   exact e
  by_cases h7 : day % 7 = 0
  ·obtain ⟨l, a1, a2, a3⟩ := key (rd_T66 l1 r.1).f1
   exact ⟨l, a1, a2, start l (Ev.congr (fun k => if_pos h7) a3)⟩
  ·obtain ⟨l, a1, a2, a3⟩ := key (rd_T66 l1 r.1).f2
   exact ⟨l, a1, a2, start l (Ev.congr (fun k => if_neg h7) a3)⟩
 obtain ⟨l, a1, a2, a3⟩ := hin
 refine ⟨l, a1, a2, ?_⟩
 unfold computusref19_Of.f
 refine Ev.bind (show Ev (fun k => computusref18_Starts.f k a0 l1 l2 y) ss from s3) ?_
 refine Ev.bind (show Ev (fun k => computusref19_Days.f k a0 l1 l2 y) ds from d2) ?_
 exact Ev.bind a3 (Ev.now _)
end Go.Proofs.Ytopfjjdkffdjpaa.Q
end
section
/- What is proved: what a resolved day's lists are, plainly. -/
namespace Go.Proofs.Ytopfjjdkffdjpaa.Q
open Go.RowKit Go.Proofs.YtopfjjdkffdjpaaW.PrintWords Go.Proofs.YtopfjjdkffdjpaaW.PrintLast Go.Proofs.Ytopfjjdkffdjpaa.Cal Go.Proofs.Ytopfjjdkffdjpaa.Srt
theorem awake21 : Ev (fun k => computuslaw21_awake.f k) true := Ev.of computuslaw21_awake.mono (k := 40) (by kernel_rfl)
def fwo (x : Rc) : Cd := ⟨x.f0, x.f1, x.f2, x.f3⟩
theorem rdRc (l : List Rc) (i : Nat) (h : i < l.length) : rd_T44 l (i : Int) = l[i] := by simp [rd_T44, List.getD, h]
theorem fwd21_l0 (l : List Rc) (hl : l.length ≤ 1000) : ∀ (n i : Nat) (out : List Cd), i + n = l.length → out.length ≤ i → Ev (fun k => computuslaw21_forward.l0 k l out (i : Int)) (out ++ (l.drop i).map fwo)
 | 0, i, out, h, _ => Ev.fin fun k => by
  simp only [computuslaw21_forward.l0]
  rw [if_neg (by omega), List.drop_of_length_le (by omega)]
  simp
 | n + 1, i, out, h, ho => by
  have hi : i < l.length := by omega
  have e := fwd21_l0 l hl n (i + 1) (out ++ [fwo l[i]]) (by omega) (by simp; omega)
  have e2 : out ++ (l.drop i).map fwo = (out ++ [fwo l[i]]) ++ (l.drop (i + 1)).map fwo := by rw [List.drop_eq_getElem_cons hi, List.map_cons]; simp
  rw [e2]
  refine Ev.step (fun k => ?_) e
  simp only [computuslaw21_forward.l0]
  rw [if_pos (by omega), if_pos (by omega), if_pos (by omega), rdRc l i hi, wq _ (by omega), show (i : Int) + 1 = ((i + 1 : Nat) : Int) by omega]
  rfl
theorem fwd21_f (l : List Rc) (hl : l.length ≤ 1000) : Ev (fun k => computuslaw21_forward.f k l) (l.map fwo) := by
 have := fwd21_l0 l hl l.length 0 [] (by omega) (by simp)
 simpa [computuslaw21_forward.f] using this
def pol (l2 : List Fs) (j : Int) : Int := (rd_T68 l2 j).f2
def c2 (l2 : List Fs) (j : Int) : Bool := decide (pol l2 j = 2)
def c3 (l2 : List Fs) (j : Int) : Bool := !c2 l2 j && decide (pol l2 j = 3)
def c1 (l2 : List Fs) (j : Int) : Bool := !c2 l2 j && !decide (pol l2 j = 3)
def selI (x : Cd) : Option Int := if x.f0 = 2 then some x.f1 else none
/-- The feasts of a list of candidates. -/
def feasts (t : List Cd) : List Int := t.filterMap selI
theorem fold_take (l2 : List Fs) : ∀ (t : List Cd) (st : Ls), t.foldl (rTake l2) st = (st.1 ++ (feasts t).filter (c2 l2), st.2.1 ++ (feasts t).filter (c3 l2), st.2.2 ++ (feasts t).filter (c1 l2))
 | [], st => by simp [feasts]
 | x :: t, st => by
  rw [List.foldl_cons, fold_take l2 t]
  unfold rTake feasts
  rw [List.filterMap_cons]
  by_cases h : x.f0 = 2
  ·rw [if_pos h]
   have hs : selI x = some x.f1 := by unfold selI; rw [if_pos h]
   rw [hs]
   unfold addTo
   by_cases h2 : (rd_T68 l2 x.f1).f2 = 2
   ·have e2 : c2 l2 x.f1 = true := decide_eq_true h2
    have e3 : c3 l2 x.f1 = false := by unfold c3; rw [e2]; rfl
    have e1 : c1 l2 x.f1 = false := by unfold c1; rw [e2]; rfl
    rw [if_pos h2]
    simp [List.filter_cons, e1, e2, e3]
   ·have e2 : c2 l2 x.f1 = false := decide_eq_false h2
    rw [if_neg h2]
    by_cases h3 : (rd_T68 l2 x.f1).f2 = 3
    ·have e3 : c3 l2 x.f1 = true := by unfold c3; rw [e2]; exact decide_eq_true h3
     have e1 : c1 l2 x.f1 = false := by unfold c1; rw [e2]; show (!decide (pol l2 x.f1 = 3)) = false; rw [show decide (pol l2 x.f1 = 3) = true from decide_eq_true h3]; rfl
     rw [if_pos h3]
     simp [List.filter_cons, e1, e2, e3]
    ·have e3 : c3 l2 x.f1 = false := by unfold c3; rw [e2]; exact decide_eq_false h3
     have e1 : c1 l2 x.f1 = true := by unfold c1; rw [e2]; show (!decide (pol l2 x.f1 = 3)) = true; rw [show decide (pol l2 x.f1 = 3) = false from decide_eq_false h3]; rfl
     rw [if_neg h3]
     simp [List.filter_cons, e1, e2, e3]
  ·rw [if_neg h]
   have hs : selI x = none := by unfold selI; rw [if_neg h]
   rw [hs]
theorem rAt_all (l2 : List Fs) (s : List Cd) (n : Nat) (hn : n = s.length) : rAt l2 s n = ((feasts (s.drop 1)).filter (c2 l2), (feasts (s.drop 1)).filter (c3 l2), (feasts (s.drop 1)).filter (c1 l2)) := by
 unfold rAt
 rw [hn, List.take_length, fold_take]
 simp
/-- What is known of a day's candidates. -/
structure Day (l2 : List Fs) (h : Cd) (is : List Nat) (L : List Cd) : Prop where
 eq : L = h :: is.map (fun i => fwo (prop l2 i))
 h1 : h.f0 = 1
 lt : ∀ i ∈ is, i < l2.length
 inc : is.Pairwise (· < ·)
theorem day_of {l2 : List Fs} {l : List Rc} (hc : candsOf l2 l) : ∃ h is, Day l2 h is (l.map fwo) := by
 obtain ⟨h, is, rfl, h1, h2, h3⟩ := hc
 exact ⟨fwo h, is, by simp [List.map_map, Function.comp_def], h1, h2, h3⟩
section
variable {l2 : List Fs} {h : Cd} {is : List Nat} {L : List Cd}
theorem feasts_of (d : Day l2 h is L) : feasts L = is.map (fun i : Nat => (i : Int)) := by
 rw [d.eq]
 unfold feasts
 rw [List.filterMap_cons]
 have e : selI h = none := by unfold selI; rw [if_neg (by rw [d.h1]; omega)]
 rw [e]
 simp only
 rw [List.filterMap_map]
 have : (selI ∘ fun i => fwo (prop l2 i)) = fun i : Nat => some (i : Int) := by
  funext i
  show selI (fwo (prop l2 i)) = _
  unfold selI fwo prop
  rw [if_pos rfl]
 rw [this]
 induction is with
 | nil => rfl
 | cons i is ih => simp
theorem mem_of (d : Day l2 h is L) {x : Cd} (hx : x ∈ L) : (x = h) ∨ ∃ i ∈ is, x = fwo (prop l2 i) := by
 rw [d.eq] at hx
 rcases List.mem_cons.1 hx with rfl | hx
 ·exact .inl rfl
 ·obtain ⟨i, hi, rfl⟩ := List.mem_map.1 hx
  exact .inr ⟨i, hi, rfl⟩
theorem ok_of (d : Day l2 h is L) (ho : ∀ f ∈ l2, feastOk f) {x : Cd} (hx : x ∈ L) : rOkB l2 x = true := by
 unfold rOkB
 rcases mem_of d hx with rfl | ⟨i, hi, rfl⟩
 ·rw [decide_eq_false (by rw [d.h1]; omega)]
  rfl
 ·have hil := d.lt i hi
  have hf := (ho _ (List.getElem_mem hil)).2.1
  have e : rd_T68 l2 (fwo (prop l2 i)).f1 = l2[i] := rdFs l2 i hil
  rw [e]
  have e1 : (fwo (prop l2 i)).f1 = (i : Int) := rfl
  rw [e1, decide_eq_true (show (0 : Int) ≤ (i : Int) by omega), decide_eq_true (show (i : Int) < (l2.length : Int) by omega)]
  simp
  omega
theorem resolve_f (d : Day l2 h is L) (ho : ∀ f ∈ l2, feastOk f) (hL : L.length ≤ 1000) (a0 : Int) (l1 : List Sn) : occurrence_Resolve.f a0 l1 l2 L = some (((isort lessB L).headD z28).f0, ((isort lessB L).headD z28).f1, ((isort lessB L).headD z28).f2, ((isort lessB L).headD z28).f3, (feasts ((isort lessB L).drop 1)).filter (c2 l2), (feasts ((isort lessB L).drop 1)).filter (c3 l2), (feasts ((isort lessB L).drop 1)).filter (c1 l2)) := by
 unfold occurrence_Resolve.f
 rw [if_pos ⟨by omega, List.all_eq_true.2 fun x hx => ok_of d ho ((isort_perm lessB L).mem_iff.1 (List.mem_of_mem_drop hx))⟩, rAt_all l2 _ _ (length_isort _ _).symm]
/-- The order of the feasts in a sorted day. -/
def Rel (l2 : List Fs) (a b : Int) : Prop := (rd_T68 l2 a).f1 < (rd_T68 l2 b).f1 ∨ ((rd_T68 l2 a).f1 = (rd_T68 l2 b).f1 ∧ a < b)
theorem distinct_of (d : Day l2 h is L) : L.Pairwise (fun x y => x.f0 = 2 → y.f0 = 2 → x.f1 ≠ y.f1) := by
 rw [d.eq, List.pairwise_cons]
 refine ⟨fun y hy h2 => by rw [d.h1] at h2; omega, ?_⟩
 rw [List.pairwise_map]
 refine d.inc.imp fun {a b} hab _ _ e => ?_
 have e2 : (a : Int) = (b : Int) := e
 omega
theorem sorted_rel (d : Day l2 h is L) : (feasts (isort lessB L)).Pairwise (Rel l2) := by
 have h1 := isort_srtd wo_less L
 unfold Srtd at h1
 have h2 : (isort lessB L).Pairwise (fun x y => x.f0 = 2 → y.f0 = 2 → x.f1 ≠ y.f1) := ((isort_perm lessB L).pairwise_iff (fun {x y} hxy a b e => hxy b a e.symm)).2 (distinct_of d)
 unfold feasts
 rw [List.pairwise_filterMap]
 have hm : ∀ x ∈ isort lessB L, x ∈ L := fun x hx => (isort_perm lessB L).mem_iff.1 hx
 refine List.Pairwise.imp_of_mem ?_ (h1.and h2)
 intro x y hx hy ⟨h3, h4⟩ b hb b' hb'
 unfold selI at hb hb'
 by_cases x2 : x.f0 = 2
 ·by_cases y2 : y.f0 = 2
  ·rw [if_pos x2] at hb
   rw [if_pos y2] at hb'
   simp only [Option.mem_def, Option.some.injEq] at hb hb'
   subst hb
   subst hb'
   have hne := h4 x2 y2
   rcases mem_of d (hm x hx) with rfl | ⟨i, hi, rfl⟩
   ·rw [d.h1] at x2; omega
   ·rcases mem_of d (hm y hy) with rfl | ⟨j, hj, rfl⟩
    ·rw [d.h1] at y2; omega
    ·unfold lessB at h3
     have ei : rd_T68 l2 (fwo (prop l2 i)).f1 = l2.getD i z68 := by show rd_T68 l2 (i : Int) = _; simp [rd_T68]
     have ej : rd_T68 l2 (fwo (prop l2 j)).f1 = l2.getD j z68 := by show rd_T68 l2 (j : Int) = _; simp [rd_T68]
     unfold Rel
     rw [ei, ej]
     have r1 : (fwo (prop l2 i)).f2 = (l2.getD i z68).f1 := rfl
     have r2 : (fwo (prop l2 j)).f2 = (l2.getD j z68).f1 := rfl
     rw [r1, r2] at h3
     by_cases hr : (l2.getD j z68).f1 = (l2.getD i z68).f1
     ·rw [if_pos hr, if_pos (y2.trans x2.symm)] at h3
      have := of_decide_eq_false h3
      exact .inr ⟨hr.symm, by omega⟩
     ·rw [if_neg hr] at h3
      have := of_decide_eq_false h3
      exact .inl (by omega)
  ·rw [if_neg y2] at hb'; cases hb'
 ·rw [if_neg x2] at hb; cases hb
theorem drop_sub (s : List Cd) : (feasts (s.drop 1)).Sublist (feasts s) := by
 unfold feasts
 exact (List.drop_sublist 1 s).filterMap selI
theorem feasts_perm (L : List Cd) : (feasts (isort lessB L)).Perm (feasts L) := (isort_perm lessB L).filterMap selI
theorem range_of (d : Day l2 h is L) {j : Int} (hj : j ∈ feasts (isort lessB L)) : 0 ≤ j ∧ j < (l2.length : Int) := by
 have := (feasts_perm L).mem_iff.1 hj
 rw [feasts_of d] at this
 obtain ⟨i, hi, rfl⟩ := List.mem_map.1 this
 have := d.lt i hi
 omega
end
theorem feasts_len (t : List Cd) : (feasts t).length ≤ t.length := List.length_filterMap_le _ _
theorem occ_start {f : Nat → Bool → Option Bool} {a0 : Int} {l1 : List Sn} {l2 : List Fs} {y day : Int} (h1 : Ev (fun k => f k true) true)
  (h2 : catOk l1 l2 → l1.length ≤ 8 → l2.length ≤ 30 → dayOk y day → Ev (fun k => f k false) true) :
  Ev (fun k => (computuslaw21_awake.f k).bind fun t => (if t = true then ((computusref17_Right.f k a0 l1 l2).bind fun t => (if t = true then ((computusref18_Fails.f k a0 l1 l2 y day).bind fun t => f k (t != 0)) else f k true)) else f k true)) true := by
 refine Ev.bind awake21 ?_
 refine Ev.congr (fun k => if_pos rfl) ?_
 obtain ⟨b, e, p⟩ := right_ev a0 l1 l2
 refine Ev.bind e ?_
 cases b with
 | false => exact Ev.congr (fun k => if_neg (by simp)) h1
 | true =>
  obtain ⟨p1, p2, p3, p4⟩ := p rfl
  refine Ev.congr (fun k => if_pos rfl) ?_
  obtain ⟨r, e2, q⟩ := fails18_ev a0 l1 l2 p1 y day
  refine Ev.bind e2 ?_
  by_cases hz : r = 0
  ·subst hz
   exact h2 p2 p3 p4 (q rfl)
  ·have : (r != 0) = true := bne_iff_ne.mpr hz
   rw [this]
   exact h1
end Go.Proofs.Ytopfjjdkffdjpaa.Q
end
