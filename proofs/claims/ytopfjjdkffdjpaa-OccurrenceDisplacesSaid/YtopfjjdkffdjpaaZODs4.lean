/- What is proved: what the statement OccurrenceDisplacesSaid needs, part 5 of 6; the last part proves the statement. No condition. -/
import Derived.Test.YtopfjjdkffdjpaaZODs3
set_option maxHeartbeats 8000000
set_option maxRecDepth 100000
set_option linter.unusedVariables false
set_option linter.unusedSimpArgs false
section
namespace Go.Proofs.Ytopfjjdkffdjpaa.Q
open Go.RowKit Go.Proofs.YtopfjjdkffdjpaaW.PrintWords Go.Proofs.YtopfjjdkffdjpaaW.PrintLast Go.Proofs.YtopfjjdkffdjpaaW.PrintMore
attribute [local go_sem] max2_int min2_int max_two min_two max_three min_three max_four min_four
mutual
def computuslaw21_OccurrenceDisplaces.j0 : Nat → Int → Int → Bool → Int → List (S66) → List (S68) → Option (Bool)
 | 0, _, _, _, _, _, _ => none
 | k + 1, x1, x2, x27, x650000, x650001, x650002 => if x27 = true then ((computuslaw21_awake.f k).bind fun t653 => (some t653)) else ((computusref19_Of.f k x650000 x650001 x650002 x1 x2).bind fun t654 => ((computuslaw21_forward.f k t654).bind fun t657 => ((occurrence_Resolve.f x650000 x650001 x650002 t657).bind fun bt660 => ((some (([] : List Int) : List Int)).bind fun y674 => (if y674.length + bt660.2.2.2.2.1.length < 17592186044416 then ((some (([] : List Int) : List Int)).bind fun y680 => (if y680.length + bt660.2.2.2.2.2.1.length < 17592186044416 then ((some (([] : List Int) : List Int)).bind fun y686 => (if y686.length + bt660.2.2.2.2.2.2.length < 17592186044416 then ((occurrence_Displace.f x650000 x650001 x650002 bt660.1 bt660.2.1 bt660.2.2.1 bt660.2.2.2.1 bt660.2.2.2.2.1 bt660.2.2.2.2.2.1 bt660.2.2.2.2.2.2).bind fun bt693 => (computuslaw21_OccurrenceDisplaces.l0 k 0 x650000 x650001 x650002 bt660.1 bt660.2.1 bt660.2.2.1 bt660.2.2.2.1 bt660.2.2.2.2.1 bt660.2.2.2.2.2.1 bt660.2.2.2.2.2.2 0 0 0 (⟨#[]⟩ : ByteArray) (y674 ++ bt660.2.2.2.2.1) (y680 ++ bt660.2.2.2.2.2.1) (y686 ++ bt660.2.2.2.2.2.2) bt693.1 bt693.2.1 bt693.2.2.1 bt693.2.2.2.1 bt693.2.2.2.2.1 bt693.2.2.2.2.2.1 bt693.2.2.2.2.2.2)) else (none))) else (none))) else (none))))))
def computuslaw21_OccurrenceDisplaces.l0 : Nat → Int → Int → List (S66) → List (S68) → Int → Int → Int → ByteArray → List Int → List Int → List Int → Int → Int → Int → ByteArray → List Int → List Int → List Int → Int → Int → Int → ByteArray → List Int → List Int → List Int → Option (Bool)
 | 0, _, _, _, _, _, _, _, _, _, _, _, _, _, _, _, _, _, _, _, _, _, _, _, _, _ => none
 | k + 1, x10, x650000, x650001, x650002, x674000, x674001, x674002, x674003, x674004, x674005, x674006, x693000, x693001, x693002, x693003, x693004, x693005, x693006, x707000, x707001, x707002, x707003, x707004, x707005, x707006 => if x10 < (x707004.length : Int) then (if 0 ≤ x10 then (computuslaw21_OccurrenceDisplaces.l0 k (wrap64 (x10 + 1)) x650000 x650001 x650002 x674000 x674001 x674002 x674003 x674004 x674005 x674006 x693000 x693001 x693002 x693003 x693004 x693005 x693006 x707000 x707001 x707002 x707003 (x707004.set (x10 : Int).toNat (wrap64 ((rd x707004 x10) + 1))) x707005 x707006) else (none)) else (computuslaw21_OccurrenceDisplaces.l1 k 0 x650000 x650001 x650002 x674000 x674001 x674002 x674003 x674004 x674005 x674006 x693000 x693001 x693002 x693003 x693004 x693005 x693006 x707000 x707001 x707002 x707003 x707004 x707005 x707006)
def computuslaw21_OccurrenceDisplaces.l1 : Nat → Int → Int → List (S66) → List (S68) → Int → Int → Int → ByteArray → List Int → List Int → List Int → Int → Int → Int → ByteArray → List Int → List Int → List Int → Int → Int → Int → ByteArray → List Int → List Int → List Int → Option (Bool)
 | 0, _, _, _, _, _, _, _, _, _, _, _, _, _, _, _, _, _, _, _, _, _, _, _, _, _ => none
 | k + 1, x11, x650000, x650001, x650002, x674000, x674001, x674002, x674003, x674004, x674005, x674006, x693000, x693001, x693002, x693003, x693004, x693005, x693006, x707000, x707001, x707002, x707003, x707004, x707005, x707006 => if x11 < (x707006.length : Int) then (if 0 ≤ x11 then (computuslaw21_OccurrenceDisplaces.l1 k (wrap64 (x11 + 1)) x650000 x650001 x650002 x674000 x674001 x674002 x674003 x674004 x674005 x674006 x693000 x693001 x693002 x693003 x693004 x693005 x693006 x707000 x707001 x707002 x707003 x707004 x707005 (x707006.set (x11 : Int).toNat (wrap64 ((rd x707006 x11) + 1)))) else (none)) else ((occurrence_Displace.f x650000 x650001 x650002 x674000 x674001 x674002 x674003 x674004 x674005 x674006).bind fun bt711 => ((computusref08_Numbers.f k x674004 x693004).bind fun t725 => (if t725 = true then ((computusref08_Numbers.f k x674005 x693005).bind fun t726 => (if t726 = true then ((computusref08_Numbers.f k x674006 x693006).bind fun t727 => (if t727 = true then ((computusref08_Numbers.f k bt711.2.2.2.2.2.2 x693006).bind fun t728 => (computuslaw21_OccurrenceDisplaces.j3 k (wrap64 ((wrap64 ((wrap64 ((bt711.2.2.2.2.1.length : Int) + (bt711.2.2.2.2.2.1.length : Int))) - (x693004.length : Int))) - (x693005.length : Int))) (!t728) x674000 x674001 x674002 x674003 x674004 x674005 x674006 x693000 x693001 x693002 x693003 x693004 x693005 x693006 bt711.1 bt711.2.1 bt711.2.2.1 bt711.2.2.2.1 bt711.2.2.2.2.1 bt711.2.2.2.2.2.1 bt711.2.2.2.2.2.2)) else (computuslaw21_OccurrenceDisplaces.j3 k (wrap64 ((wrap64 ((wrap64 ((bt711.2.2.2.2.1.length : Int) + (bt711.2.2.2.2.2.1.length : Int))) - (x693004.length : Int))) - (x693005.length : Int))) true x674000 x674001 x674002 x674003 x674004 x674005 x674006 x693000 x693001 x693002 x693003 x693004 x693005 x693006 bt711.1 bt711.2.1 bt711.2.2.1 bt711.2.2.2.1 bt711.2.2.2.2.1 bt711.2.2.2.2.2.1 bt711.2.2.2.2.2.2))) else (computuslaw21_OccurrenceDisplaces.j3 k (wrap64 ((wrap64 ((wrap64 ((bt711.2.2.2.2.1.length : Int) + (bt711.2.2.2.2.2.1.length : Int))) - (x693004.length : Int))) - (x693005.length : Int))) true x674000 x674001 x674002 x674003 x674004 x674005 x674006 x693000 x693001 x693002 x693003 x693004 x693005 x693006 bt711.1 bt711.2.1 bt711.2.2.1 bt711.2.2.2.1 bt711.2.2.2.2.1 bt711.2.2.2.2.2.1 bt711.2.2.2.2.2.2))) else (computuslaw21_OccurrenceDisplaces.j3 k (wrap64 ((wrap64 ((wrap64 ((bt711.2.2.2.2.1.length : Int) + (bt711.2.2.2.2.2.1.length : Int))) - (x693004.length : Int))) - (x693005.length : Int))) true x674000 x674001 x674002 x674003 x674004 x674005 x674006 x693000 x693001 x693002 x693003 x693004 x693005 x693006 bt711.1 bt711.2.1 bt711.2.2.1 bt711.2.2.2.1 bt711.2.2.2.2.1 bt711.2.2.2.2.2.1 bt711.2.2.2.2.2.2))))
def computuslaw21_OccurrenceDisplaces.j3 : Nat → Int → Bool → Int → Int → Int → ByteArray → List Int → List Int → List Int → Int → Int → Int → ByteArray → List Int → List Int → List Int → Int → Int → Int → ByteArray → List Int → List Int → List Int → Option (Bool)
 | 0, _, _, _, _, _, _, _, _, _, _, _, _, _, _, _, _, _, _, _, _, _, _, _ => none
 | k + 1, x13, x127, x674000, x674001, x674002, x674003, x674004, x674005, x674006, x693000, x693001, x693002, x693003, x693004, x693005, x693006, x725000, x725001, x725002, x725003, x725004, x725005, x725006 => if x127 = true then (none) else (if x674000 = 1 then (some (x13 == 0)) else (if x13 = 1 then (if (x725004.length : Int) > (x693004.length : Int) then (if 0 < (x725004.length : Int) then (if (rd x725004 0) = x674001 then (some true) else (if (x725005.length : Int) > (x693005.length : Int) then (if 0 < (x725005.length : Int) then (some ((rd x725005 0) == x674001)) else (none)) else (none))) else (none)) else (if (x725005.length : Int) > (x693005.length : Int) then (if 0 < (x725005.length : Int) then (some ((rd x725005 0) == x674001)) else (none)) else (none))) else (none)))
end
def computuslaw21_OccurrenceDisplaces.f (k : Nat) (a0_0 : Int) (l0_1 : List (S66)) (l0_2 : List (S68)) (a1 : Int) (a2 : Int) : Option (Bool) := (computuslaw21_awake.f k).bind fun t650 => (if t650 = true then ((computusref17_Right.f k a0_0 l0_1 l0_2).bind fun t651 => (if t651 = true then ((computusref18_Fails.f k a0_0 l0_1 l0_2 a1 a2).bind fun t652 => (computuslaw21_OccurrenceDisplaces.j0 k a1 a2 (t652 != 0) a0_0 l0_1 l0_2)) else (computuslaw21_OccurrenceDisplaces.j0 k a1 a2 true a0_0 l0_1 l0_2))) else (computuslaw21_OccurrenceDisplaces.j0 k a1 a2 true a0_0 l0_1 l0_2))
def computuslaw21_OccurrenceDisplaces.T3 : Bool × List (List Nat × List Nat) := (true, [([], []), ([], []), ([], []), ([], []), ([1, 2, 3], [1, 2, 3]), ([4, 4], [4]), ([0, 5, 5], [0, 5]), ([], []), ([7, 6, 6, 0, 1, 2, 3, 4, 5, 6, 7], [6, 7])])
def computuslaw21_OccurrenceDisplaces.B3 : List Nat := [0, 0, 0, 0, 14, 30, 63, 0, 255]
theorem computuslaw21_OccurrenceDisplaces.tab3 : rtab .any (opsOf Try.f6 3) = computuslaw21_OccurrenceDisplaces.T3 := by kernel_rfl
theorem computuslaw21_OccurrenceDisplaces.bits3 : waitsOk computuslaw21_OccurrenceDisplaces.T3.2 computuslaw21_OccurrenceDisplaces.B3 = true := by kernel_rfl
def computuslaw21_OccurrenceDisplaces.T4 : Bool × List (List Nat × List Nat) := (true, [([], []), ([], []), ([1], [1]), ([0, 2], [0, 2]), ([], []), ([], []), ([5], [5]), ([4, 6, 3], [4, 6]), ([], []), ([], []), ([9], [9]), ([8, 10, 7], [8, 10]), ([3, 7, 11], [3, 7, 11]), ([], []), ([13, 12, 11, 0, 1, 2, 3, 4, 5, 6, 7, 8, 9, 10, 11, 12, 13], [12, 13])])
def computuslaw21_OccurrenceDisplaces.B4 : List Nat := [0, 0, 2, 7, 0, 0, 32, 127, 0, 0, 512, 2047, 4095, 0, 16383]
theorem computuslaw21_OccurrenceDisplaces.tab4 : rtab .any (opsOf Try.f6 4) = computuslaw21_OccurrenceDisplaces.T4 := by kernel_rfl
theorem computuslaw21_OccurrenceDisplaces.bits4 : waitsOk computuslaw21_OccurrenceDisplaces.T4.2 computuslaw21_OccurrenceDisplaces.B4 = true := by kernel_rfl
def computuslaw21_OccurrenceDisplaces.T20 : Bool × List (List Nat × List Nat) := (true, [([], []), ([0], [0]), ([1], [1]), ([2], [2]), ([3, 2], [2, 3]), ([4, 2], [2, 4]), ([2], [2]), ([6, 2], [2, 6]), ([7, 2], [2, 7]), ([5, 8, 2], [2, 5, 8]), ([9, 2, 2], [2, 9]), ([10], [10]), ([11, 10], [10, 11]), ([12, 10], [10, 12]), ([13, 10], [10, 13]), ([10], [10]), ([15, 10], [10, 15]), ([16, 10], [10, 16]), ([14, 17, 10], [10, 14, 17]), ([10, 18, 2], [2, 10, 18]), ([19, 10, 2], [2, 19]), ([20], [20]), ([21, 20], [20, 21]), ([22, 20], [20, 22]), ([20], [20]), ([24, 20], [20, 24]), ([25, 20], [20, 25]), ([23, 26, 20], [20, 23, 26]), ([27, 20, 20], [20, 27]), ([28], [28]), ([29, 28], [28, 29]), ([30, 28], [28, 30]), ([31, 28], [28, 31]), ([28], [28]), ([33, 28], [28, 33]), ([34, 28], [28, 34]), ([32, 35, 28], [28, 32, 35]), ([28, 36, 20], [20, 28, 36]), ([20, 37, 2], [2, 20, 37]), ([2, 38], [2, 38]), ([39, 28, 0, 1, 2, 3, 4, 5, 6, 7, 8, 9, 10, 11, 12, 13, 14, 15, 16, 17, 18, 19, 20, 21, 22, 23, 24, 25, 26, 27, 28, 29, 30, 31, 32, 33, 34, 35, 36, 37, 38, 39], [39])])
def computuslaw21_OccurrenceDisplaces.B20 : List Nat := [0, 1, 3, 7, 15, 31, 7, 71, 199, 511, 1023, 2047, 4095, 8191, 16383, 2047, 34815, 100351, 262143, 524287, 1048575, 2097151, 4194303, 8388607, 2097151, 18874367, 52428799, 134217727, 268435455, 536870911, 1073741823, 2147483647, 4294967295, 536870911, 9126805503, 26306674687, 68719476735, 137438953471, 274877906943, 549755813887, 1099511627775]
theorem computuslaw21_OccurrenceDisplaces.tab20 : rtab .any (opsOf Try.f6 20) = computuslaw21_OccurrenceDisplaces.T20 := by kernel_rfl
theorem computuslaw21_OccurrenceDisplaces.bits20 : waitsOk computuslaw21_OccurrenceDisplaces.T20.2 computuslaw21_OccurrenceDisplaces.B20 = true := by kernel_rfl
theorem computuslaw21_OccurrenceDisplaces.calls (k : Nat) (a0_0 : Int) (A0_1 : Option Addr) (c0_1 : Nat) (l0_1 : List (S66)) (A0_2 : Option Addr) (c0_2 : Nat) (l0_2 : List (S68)) (a1 : Int) (a2 : Int) (r : Bool) (w : World) (hr0_1 : Kd.C k66 w A0_1 l0_1.length l0_1) (hc0_1 : l0_1.length ≤ c0_1) (hr0_2 : Kd.C k68 w A0_2 l0_2.length l0_2) (hc0_2 : l0_2.length ≤ c0_2) (h : computuslaw21_OccurrenceDisplaces.f k a0_0 l0_1 l0_2 a1 a2 = some r) :
  Calls Try.prog 6 #[.agg #[.int .i64 a0_0, .slice A0_1 l0_1.length c0_1, .slice A0_2 l0_2.length c0_2], .int .i64 a1, .int .i64 a2] w fun e w' => e = .returned (.bool r) ∧ Below w.heap.size w w' := by
 have hu36 := Try.underlying36
 have hu42 := Try.underlying42
 have hu46 := Try.underlying46
 have HR0_1 := am_ hr0_1
 have HC0_1 := am_ hc0_1
 clear hr0_1 hc0_1
 have HR0_2 := am_ hr0_2
 have HC0_2 := am_ hc0_2
 clear hr0_2 hc0_2
 have HB := am_ (Below.refl w.heap.size w)
 have H := h
 clear h
 unfold computuslaw21_OccurrenceDisplaces.f at H
 have HC4 := am_ H
 clear H
 go_enter Try.func6, Try.ntmps6
 go_upto_region 1 with (first | ((with_reducible refine gate_dst (N := 3) rfl ?_); (try (refine gate_guard (by rfl) ?_; dsimp only)); refine bx_ (w := w) (N := 3) (cs := #[.int .i64 a0_0, .slice A0_1 l0_1.length c0_1, .slice A0_2 l0_2.length c0_2]) (t := 36) ?_; intro gb649 w5 BK649 n0_ GW649 GE649; clear HB; have HB := n0_; clear n0_))
 (try simp only [Act.put, sA_, sZ_, sS_])
 go_cut [27] (fun v27 wc => ∃ (kq : Nat) (x27_3 : Bool), v27 = .bool x27_3 ∧ Aside0 (computuslaw21_OccurrenceDisplaces.j0 kq a1 a2 x27_3 a0_0 l0_1 l0_2 = some r) ∧ Aside0 (kq ≤ k) ∧ Aside0 (wc.heap[gb649]? = some (.cells #[.int .i64 a0_0, (.slice A0_1 l0_1.length c0_1), (.slice A0_2 l0_2.length c0_2)] 36 (0, 0))) ∧ Aside0 (Below w.heap.size w wc))
 case first =>
  have H := HC4.out
  clear HC4
  obtain ⟨t650, A6, H⟩ := bs_ H
  by_cases c7 : t650 = true
  rotate_left
  ·replace c7 := Bool.eq_false_iff.mpr c7
   subst c7
   replace H := if_ H
   have H' := am_ H
   clear H
   go_wp2_with (first | ((with_reducible refine gate_callee (f := 13) rfl ?_); refine gl_ (some 14) Try.func13 #[] ?_; (with_reducible refine (computuslaw21_awake.calls k  false _ A6.out).mono ?_); rintro e w19 ⟨rfl, hb⟩; refine ⟨_, rfl, ?_⟩; replace BK649 := bw_ BK649 hb; replace HB := bt_ hb; (try clear hb); (try clear hi)))
   go_meet
   case rel => exact ⟨_, (true), rs_, H', ⟨by first | omega | exact Nat.le_refl _⟩, ⟨bk_ BK649.out⟩, ⟨bh_⟩⟩
  subst c7
  replace H := it_ H
  obtain ⟨t651, A8, H⟩ := bs_ H
  by_cases c9 : t651 = true
  rotate_left
  ·replace c9 := Bool.eq_false_iff.mpr c9
   subst c9
   replace H := if_ H
   have H' := am_ H
   clear H
   go_wp2_with (first | ((with_reducible refine gate_callee (f := 13) rfl ?_); refine gl_ (some 14) Try.func13 #[] ?_; (with_reducible refine (computuslaw21_awake.calls k  true _ A6.out).mono ?_); rintro e w16 ⟨rfl, hb⟩; refine ⟨_, rfl, ?_⟩; replace BK649 := bw_ BK649 hb; replace HB := bt_ hb; (try clear hb); obtain ⟨hcz17_0, hcz17_1, hcz17_2⟩ := cz3_ BK649.out; obtain ⟨hfz17_0, hfz17_1, hfz17_2⟩ := fz3_ BK649.out) | (go_at_call 14; (with_reducible refine (computusref17_Right.calls k a0_0 _ _ l0_1 _ _ l0_2 false _ ?side1 ?side2 ?side3 ?side4 A8.out).mono ?_); (case side1 => exact ck_ (Kd.C_below HR0_1.out HB.out)); (case side2 => exact HC0_1.out); (case side3 => exact ck_ (Kd.C_below HR0_2.out HB.out)); (case side4 => exact HC0_2.out); rintro e w18 ⟨rfl, hb⟩; replace BK649 := bw_ BK649 hb; replace HB := bt_ hb; (try clear hb); (try clear hi)))
   go_meet
   case rel => exact ⟨_, (true), rs_, H', ⟨by first | omega | exact Nat.le_refl _⟩, ⟨bk_ BK649.out⟩, ⟨bh_⟩⟩
  subst c9
  replace H := it_ H
  obtain ⟨t652, A10, H⟩ := bs_ H
  have H' := am_ H
  clear H
  go_wp2_with (first | ((with_reducible refine gate_callee (f := 13) rfl ?_); refine gl_ (some 14) Try.func13 #[] ?_; (with_reducible refine (computuslaw21_awake.calls k  true _ A6.out).mono ?_); rintro e w11 ⟨rfl, hb⟩; refine ⟨_, rfl, ?_⟩; replace BK649 := bw_ BK649 hb; replace HB := bt_ hb; (try clear hb); obtain ⟨hcz12_0, hcz12_1, hcz12_2⟩ := cz3_ BK649.out; obtain ⟨hfz12_0, hfz12_1, hfz12_2⟩ := fz3_ BK649.out) | (go_at_call 14; (with_reducible refine (computusref17_Right.calls k a0_0 _ _ l0_1 _ _ l0_2 true _ ?side1 ?side2 ?side3 ?side4 A8.out).mono ?_); (case side1 => exact ck_ (Kd.C_below HR0_1.out HB.out)); (case side2 => exact HC0_1.out); (case side3 => exact ck_ (Kd.C_below HR0_2.out HB.out)); (case side4 => exact HC0_2.out); rintro e w13 ⟨rfl, hb⟩; replace BK649 := bw_ BK649 hb; replace HB := bt_ hb; (try clear hb); obtain ⟨hcz14_0, hcz14_1, hcz14_2⟩ := cz3_ BK649.out; obtain ⟨hfz14_0, hfz14_1, hfz14_2⟩ := fz3_ BK649.out) | (go_at_call 15; (with_reducible refine (computusref18_Fails.calls k a0_0 _ _ l0_1 _ _ l0_2 a1 a2 t652 _ ?side1 ?side2 ?side3 ?side4 A10.out).mono ?_); (case side1 => exact ck_ (Kd.C_below HR0_1.out HB.out)); (case side2 => exact HC0_1.out); (case side3 => exact ck_ (Kd.C_below HR0_2.out HB.out)); (case side4 => exact HC0_2.out); rintro e w15 ⟨rfl, hb⟩; replace BK649 := bw_ BK649 hb; replace HB := bt_ hb; (try clear hb); (try clear hi)))
  go_meet
  case rel => exact ⟨_, ((t652 != 0)), rs_, H', ⟨by first | omega | exact Nat.le_refl _⟩, ⟨bk_ BK649.out⟩, ⟨bh_⟩⟩
 case rest =>
  clear HC4
  obtain ⟨kq, x27_3, rfl, HA, HJ3, BK649, HB⟩ := hcut
  cases kq with
  | zero => exact absurd HA.out (by simp [computuslaw21_OccurrenceDisplaces.j0])
  | succ kj3 =>
   have H := HA.out
   clear HA
   simp only [computuslaw21_OccurrenceDisplaces.j0] at H
   by_cases c20 : x27_3 = true
   ·subst c20
    replace H := it_ H
    obtain ⟨t653, A21, H⟩ := bs_ H
    obtain rfl := Option.some.inj H
    go_wp2_with (first | ((with_reducible refine gate_callee (f := 13) rfl ?_); refine gl_ (some 28) Try.func13 #[] ?_; (with_reducible refine (computuslaw21_awake.calls kj3  t653 _ A21.out).mono ?_); rintro e w22 ⟨rfl, hb⟩; refine ⟨_, rfl, ?_⟩; replace BK649 := bw_ BK649 hb; replace HB := bt_ hb; (try clear hb); (try clear hi)))
    go_ret
    exact rt_
   replace c20 := Bool.eq_false_iff.mpr c20
   subst c20
   replace H := if_ H
   obtain ⟨t654, A23, H⟩ := bs_ H
   obtain ⟨t657, A24, H⟩ := bs_ H
   obtain ⟨⟨t660, t661, t662, t663, t664, t667, t670⟩, A25, H⟩ := bs_ H
   dsimp only at H
   obtain ⟨y674, hy674⟩ : ∃ y_ : List Int, y_ = (([] : List Int)) := ⟨_, rfl⟩
   replace H : (if y674.length + t664.length < 17592186044416 then ((some (([] : List Int) : List Int)).bind fun y680 => (if y680.length + t667.length < 17592186044416 then ((some (([] : List Int) : List Int)).bind fun y686 => (if y686.length + t670.length < 17592186044416 then ((occurrence_Displace.f a0_0 l0_1 l0_2 t660 t661 t662 t663 t664 t667 t670).bind fun bt693 => (computuslaw21_OccurrenceDisplaces.l0 kj3 0 a0_0 l0_1 l0_2 t660 t661 t662 t663 t664 t667 t670 0 0 0 (⟨#[]⟩ : ByteArray) (y674 ++ t664) (y680 ++ t667) (y686 ++ t670) bt693.1 bt693.2.1 bt693.2.2.1 bt693.2.2.2.1 bt693.2.2.2.2.1 bt693.2.2.2.2.2.1 bt693.2.2.2.2.2.2)) else (none))) else (none))) else (none)) = some r := by first | (rw [hy674]; with_reducible exact H) | (have H2_ := (Option.bind_some _ _).symm.trans H; rw [hy674]; with_reducible exact H2_) | (have H2_ := (Option.bind_some _ _).symm.trans H; with_reducible exact H2_) | with_reducible exact H | (rw [hy674]; exact H) | exact H
   have Ny674 := am_ hy674
   clear hy674
   by_cases c26 : y674.length + t664.length < 17592186044416
   rotate_left
   ·rw [if_neg c26] at H
    exact absurd H (by simp)
   rw [if_pos c26] at H
   have LMc26 := am_ c26
   clear c26
   obtain ⟨y677, hy677⟩ : ∃ y_ : List Int, y_ = (y674 ++ t664) := ⟨_, rfl⟩
   replace H : ((some (([] : List Int) : List Int)).bind fun y680 => (if y680.length + t667.length < 17592186044416 then ((some (([] : List Int) : List Int)).bind fun y686 => (if y686.length + t670.length < 17592186044416 then ((occurrence_Displace.f a0_0 l0_1 l0_2 t660 t661 t662 t663 t664 t667 t670).bind fun bt693 => (computuslaw21_OccurrenceDisplaces.l0 kj3 0 a0_0 l0_1 l0_2 t660 t661 t662 t663 t664 t667 t670 0 0 0 (⟨#[]⟩ : ByteArray) y677 (y680 ++ t667) (y686 ++ t670) bt693.1 bt693.2.1 bt693.2.2.1 bt693.2.2.2.1 bt693.2.2.2.2.1 bt693.2.2.2.2.2.1 bt693.2.2.2.2.2.2)) else (none))) else (none))) = some r := by first | (rw [hy677]; with_reducible exact H) | (have H2_ := (Option.bind_some _ _).symm.trans H; rw [hy677]; with_reducible exact H2_) | (have H2_ := (Option.bind_some _ _).symm.trans H; with_reducible exact H2_) | with_reducible exact H | (rw [hy677]; exact H) | exact H
   have Ny677 := am_ hy677
   clear hy677
   obtain ⟨y680, hy680⟩ : ∃ y_ : List Int, y_ = (([] : List Int)) := ⟨_, rfl⟩
   replace H : (if y680.length + t667.length < 17592186044416 then ((some (([] : List Int) : List Int)).bind fun y686 => (if y686.length + t670.length < 17592186044416 then ((occurrence_Displace.f a0_0 l0_1 l0_2 t660 t661 t662 t663 t664 t667 t670).bind fun bt693 => (computuslaw21_OccurrenceDisplaces.l0 kj3 0 a0_0 l0_1 l0_2 t660 t661 t662 t663 t664 t667 t670 0 0 0 (⟨#[]⟩ : ByteArray) y677 (y680 ++ t667) (y686 ++ t670) bt693.1 bt693.2.1 bt693.2.2.1 bt693.2.2.2.1 bt693.2.2.2.2.1 bt693.2.2.2.2.2.1 bt693.2.2.2.2.2.2)) else (none))) else (none)) = some r := by first | (rw [hy680]; with_reducible exact H) | (have H2_ := (Option.bind_some _ _).symm.trans H; rw [hy680]; with_reducible exact H2_) | (have H2_ := (Option.bind_some _ _).symm.trans H; with_reducible exact H2_) | with_reducible exact H | (rw [hy680]; exact H) | exact H
   have Ny680 := am_ hy680
   clear hy680
   by_cases c27 : y680.length + t667.length < 17592186044416
   rotate_left
   ·rw [if_neg c27] at H
    exact absurd H (by simp)
   rw [if_pos c27] at H
   have LMc27 := am_ c27
   clear c27
   obtain ⟨y683, hy683⟩ : ∃ y_ : List Int, y_ = (y680 ++ t667) := ⟨_, rfl⟩
   replace H : ((some (([] : List Int) : List Int)).bind fun y686 => (if y686.length + t670.length < 17592186044416 then ((occurrence_Displace.f a0_0 l0_1 l0_2 t660 t661 t662 t663 t664 t667 t670).bind fun bt693 => (computuslaw21_OccurrenceDisplaces.l0 kj3 0 a0_0 l0_1 l0_2 t660 t661 t662 t663 t664 t667 t670 0 0 0 (⟨#[]⟩ : ByteArray) y677 y683 (y686 ++ t670) bt693.1 bt693.2.1 bt693.2.2.1 bt693.2.2.2.1 bt693.2.2.2.2.1 bt693.2.2.2.2.2.1 bt693.2.2.2.2.2.2)) else (none))) = some r := by first | (rw [hy683]; with_reducible exact H) | (have H2_ := (Option.bind_some _ _).symm.trans H; rw [hy683]; with_reducible exact H2_) | (have H2_ := (Option.bind_some _ _).symm.trans H; with_reducible exact H2_) | with_reducible exact H | (rw [hy683]; exact H) | exact H
   have Ny683 := am_ hy683
   clear hy683
   obtain ⟨y686, hy686⟩ : ∃ y_ : List Int, y_ = (([] : List Int)) := ⟨_, rfl⟩
   replace H : (if y686.length + t670.length < 17592186044416 then ((occurrence_Displace.f a0_0 l0_1 l0_2 t660 t661 t662 t663 t664 t667 t670).bind fun bt693 => (computuslaw21_OccurrenceDisplaces.l0 kj3 0 a0_0 l0_1 l0_2 t660 t661 t662 t663 t664 t667 t670 0 0 0 (⟨#[]⟩ : ByteArray) y677 y683 (y686 ++ t670) bt693.1 bt693.2.1 bt693.2.2.1 bt693.2.2.2.1 bt693.2.2.2.2.1 bt693.2.2.2.2.2.1 bt693.2.2.2.2.2.2)) else (none)) = some r := by first | (rw [hy686]; with_reducible exact H) | (have H2_ := (Option.bind_some _ _).symm.trans H; rw [hy686]; with_reducible exact H2_) | (have H2_ := (Option.bind_some _ _).symm.trans H; with_reducible exact H2_) | with_reducible exact H | (rw [hy686]; exact H) | exact H
   have Ny686 := am_ hy686
   clear hy686
   by_cases c28 : y686.length + t670.length < 17592186044416
   rotate_left
   ·rw [if_neg c28] at H
    exact absurd H (by simp)
   rw [if_pos c28] at H
   have LMc28 := am_ c28
   clear c28
   obtain ⟨y689, hy689⟩ : ∃ y_ : List Int, y_ = (y686 ++ t670) := ⟨_, rfl⟩
   replace H : ((occurrence_Displace.f a0_0 l0_1 l0_2 t660 t661 t662 t663 t664 t667 t670).bind fun bt693 => (computuslaw21_OccurrenceDisplaces.l0 kj3 0 a0_0 l0_1 l0_2 t660 t661 t662 t663 t664 t667 t670 0 0 0 (⟨#[]⟩ : ByteArray) y677 y683 y689 bt693.1 bt693.2.1 bt693.2.2.1 bt693.2.2.2.1 bt693.2.2.2.2.1 bt693.2.2.2.2.2.1 bt693.2.2.2.2.2.2)) = some r := by first | (rw [hy689]; with_reducible exact H) | (have H2_ := (Option.bind_some _ _).symm.trans H; rw [hy689]; with_reducible exact H2_) | (have H2_ := (Option.bind_some _ _).symm.trans H; with_reducible exact H2_) | with_reducible exact H | (rw [hy689]; exact H) | exact H
   have Ny689 := am_ hy689
   clear hy689
   obtain ⟨⟨t693, t694, t695, t696, t697, t700, t703⟩, A29, H⟩ := bs_ H
   dsimp only at H
   have H' := am_ H
   clear H
   try go_wp2
   replace BK649 := am_ (blk_drew BK649.out)
   replace HB := am_ (below_drew1 HB.out)
   refine start_ (n := 9) (S := fun w' => w'.cell? ⟨gb649, 0, none⟩ = some (.int .i64 a0_0) ∧ w'.cell? ⟨gb649, 1, none⟩ = some (.slice A0_1 l0_1.length c0_1) ∧ w'.cell? ⟨gb649, 2, none⟩ = some (.slice A0_2 l0_2.length c0_2)) (ds := []) (bf_ 9 0) (by kernel_rfl) rfl rfl (cz3_ BK649.out) (fun hHeld => ?_); refine with_tabW computuslaw21_OccurrenceDisplaces.tab3 computuslaw21_OccurrenceDisplaces.bits3 (fun HT_ HW_ => ?_)
   generalize wc.drew = w30 at BK649 HB hHeld ⊢
   refine pu_ 2 (some 31) (bf_ 9 4) HT_.out ?_
   refine pu_ 3 (some 32) (bf_ 9 12) HT_.out ?_
   refine ta_ 0 (some 29) (bf_ 9 13) HT_.out HW_.out hHeld ?_
   refine ta_ 1 (some 30) (bf_ 9 15) HT_.out HW_.out hHeld ?_
   refine join_ (σ := Value × Value × Value × Value × Value × Nat) 1 (bf_ 9 255) (fun s_ => [(33, s_.1), (34, s_.2.1), (35, .agg #[.int .i64 t660, .int .i64 t661, .int .i64 t662, .string t663, s_.2.2.1, s_.2.2.2.1, s_.2.2.2.2.1]), (7, .pointer (some ⟨s_.2.2.2.2.2, 0, none⟩))]) (fun s_ w' => (w'.cell? ⟨gb649, 0, none⟩ = some (.int .i64 a0_0) ∧ w'.cell? ⟨gb649, 1, none⟩ = some (.slice A0_1 l0_1.length c0_1) ∧ w'.cell? ⟨gb649, 2, none⟩ = some (.slice A0_2 l0_2.length c0_2)) ∧ (Kd.R k44 44 w' w.heap.size (fun _ => True) s_.1 t654) ∧ (Kd.R k28 28 w' w.heap.size (fun _ => True) s_.2.1 t657) ∧ (Kd.R (Kd.int .i64) 3 w' w.heap.size (fun k_ => some k_ ≠ (s_.2.2.2.1 : Value).ownBlock ∧ some k_ ≠ (s_.2.2.2.2.1 : Value).ownBlock) s_.2.2.1 t664) ∧ (Kd.R (Kd.int .i64) 3 w' w.heap.size (fun k_ => some k_ ≠ (s_.2.2.1 : Value).ownBlock ∧ some k_ ≠ (s_.2.2.2.2.1 : Value).ownBlock) s_.2.2.2.1 t667) ∧ (Kd.R (Kd.int .i64) 3 w' w.heap.size (fun k_ => some k_ ≠ (s_.2.2.1 : Value).ownBlock ∧ some k_ ≠ (s_.2.2.2.1 : Value).ownBlock) s_.2.2.2.2.1 t670) ∧ (w'.heap[gb649]? = some (.cells #[.int .i64 a0_0, .slice A0_1 l0_1.length c0_1, .slice A0_2 l0_2.length c0_2] 36 (0, 0))) ∧ (w'.heap[s_.2.2.2.2.2]? = some (.cells #[.int .i64 0, .int .i64 0, .int .i64 0, .string (⟨#[]⟩ : ByteArray), .slice none 0 0, .slice none 0 0, .slice none 0 0] 42 (0, 0))) ∧ (w.heap.size ≤ s_.2.2.2.2.2) ∧ (w.heap.size ≤ s_.2.2.2.2.2) ∧ (gb649 ≠ s_.2.2.2.2.2) ∧ (s_.2.2.2.2.2 ≠ gb649) ∧ (Below w.heap.size w w')) ?_ ?_
   rotate_left
   ·intro hCont
    refine two_ (i := 4) (j := 7) (Ni := some 33) (Nj := some 7) (bf_ 9 31) (bf_ 9 143) rfl rfl rfl rfl (two_of HT_.out (by kernel_rfl)) (by decide) (by decide) (fun K hK => ?_) (fun K hK => ?_)
    ·skip
     refine gs_ Try.func16 #[.agg #[.int .i64 a0_0, .slice A0_1 l0_1.length c0_1, .slice A0_2 l0_2.length c0_2], .int .i64 a1, .int .i64 a2] ?_
     with_reducible refine (computusref19_Of.calls kj3 a0_0 _ _ l0_1 _ _ l0_2 a1 a2 t654 _ ?side1 ?side2 ?side3 ?side4 A23.out).mono ?_
     (case side1 => exact ck_ (Kd.C_below HR0_1.out HB.out))
     (case side2 => exact HC0_1.out)
     (case side3 => exact ck_ (Kd.C_below HR0_2.out HB.out))
     (case side4 => exact HC0_2.out)
     rintro e w31 ⟨v655, rfl, ho0, hb⟩
     refine ⟨_, rfl, ?_⟩
     have HO656 := am_ (Kd.R_lower ho0 bz_)
     replace BK649 := bw_ BK649 hb
     replace HB := bt_ hb
     (try clear hb)
     (try clear hb2)
     (try clear hk)
     (try clear hi)
     (try clear ho0)
     obtain ⟨Ao32, co32, eo32⟩ := Kd.R_slice HO656.out
     (first | subst eo32 | (injection eo32 with f1_ f2_ f3_; have f4_ := f1_.symm; have f5_ := f3_.symm; clear f1_ f2_ f3_; subst f4_; subst f5_))
     refine hK.out _ _ (by first | exact (cz3_ BK649.out) | exact hHeld) (fun hHeld => ?_)
     clear hK K
     refine norm_ (a' := ?_) ?_ ?_
     rotate_left
     ·show Act.put _ (some 33) _ = _
      simp only [Act.put, sA_, sZ_, sS_, i64_w, i32_w]
      rfl
     refine two_ (i := 5) (j := 7) (Ni := some 34) (Nj := some 7) (bf_ 9 63) (bf_ 9 159) rfl rfl rfl rfl (two_of HT_.out (by kernel_rfl)) (by decide) (by decide) (fun K hK => ?_) (fun K hK => ?_)
     ·skip
      refine gs_ Try.func18 #[.slice Ao32 t654.length co32] ?_
      with_reducible refine (computuslaw21_forward.calls kj3 _ _ t654 t657 _ ?side1 ?side2 A24.out).mono ?_
      (case side1 => exact ck_ (Kd.R_reads' HO656.out).2.2)
      (case side2 => exact (Kd.R_reads' HO656.out).2.1)
      rintro e w33 ⟨v658, rfl, ho0, hb⟩
      refine ⟨_, rfl, ?_⟩
      replace HO656 := rw_ HO656 hb
      have HO659 := am_ (Kd.R_lower ho0 bz_)
      replace BK649 := bw_ BK649 hb
      replace HB := bt_ hb
      (try clear hb)
      (try clear hb2)
      (try clear hk)
      (try clear hi)
      (try clear ho0)
      obtain ⟨Ao34, co34, eo34⟩ := Kd.R_slice HO659.out
      (first | subst eo34 | (injection eo34 with f1_ f2_ f3_; have f4_ := f1_.symm; have f5_ := f3_.symm; clear f1_ f2_ f3_; subst f4_; subst f5_))
      refine hK.out _ _ (by first | exact (cz3_ BK649.out) | exact hHeld) (fun hHeld => ?_)
      clear hK K
      refine norm_ (a' := ?_) ?_ ?_
      rotate_left
      ·show Act.put _ (some 34) _ = _
       simp only [Act.put, sA_, sZ_, sS_, i64_w, i32_w]
       rfl
      refine two_ (i := 6) (j := 7) (Ni := some 35) (Nj := some 7) (bf_ 9 127) (bf_ 9 191) rfl rfl rfl rfl (two_of HT_.out (by kernel_rfl)) (by decide) (by decide) (fun K hK => ?_) (fun K hK => ?_)
      ·skip
       refine gs_ Try.func17 #[.agg #[.int .i64 a0_0, .slice A0_1 l0_1.length c0_1, .slice A0_2 l0_2.length c0_2], .slice Ao34 t657.length co34] ?_
       with_reducible refine (occurrence_Resolve.calls a0_0 _ _ l0_1 _ _ l0_2 _ _ t657 t660 t661 t662 t663 t664 t667 t670 _ ?side1 ?side2 ?side3 ?side4 ?side5 ?side6 A25.out).mono ?_
       (case side1 => exact ck_ (Kd.C_below HR0_1.out HB.out))
       (case side2 => exact HC0_1.out)
       (case side3 => exact ck_ (Kd.C_below HR0_2.out HB.out))
       (case side4 => exact HC0_2.out)
       (case side5 => exact ck_ (Kd.R_reads' HO659.out).2.2)
       (case side6 => exact (Kd.R_reads' HO659.out).2.1)
       rintro e w35 ⟨v665, v668, v671, rfl, ho0, ho1, ho2, hb⟩
       refine ⟨_, rfl, ?_⟩
       replace HO656 := rw_ HO656 hb
       replace HO659 := rw_ HO659 hb
       have HO666 := am_ (Kd.R_lower ho0 bz_)
       have HO669 := am_ (Kd.R_lower ho1 bz_)
       have HO672 := am_ (Kd.R_lower ho2 bz_)
       replace BK649 := bw_ BK649 hb
       replace HB := bt_ hb
       (try clear hb)
       (try clear hb2)
       (try clear hk)
       (try clear hi)
       (try clear ho0)
       (try clear ho1)
       (try clear ho2)
       refine hK.out _ _ (by first | exact (cz3_ BK649.out) | exact hHeld) (fun hHeld => ?_)
       clear hK K
       refine norm_ (a' := ?_) ?_ ?_
       rotate_left
       ·show Act.put _ (some 35) _ = _
        simp only [Act.put, sA_, sZ_, sS_, i64_w, i32_w]
        rfl
       refine one_ (i := 7) (N := some 7) (bf_ 9 255) rfl rfl (one_of HT_.out (by kernel_rfl)) (by decide) (fun K hK => ?_)
       refine box_step ?hg (N := 7) ?hd (cs := #[.int .i64 0, .int .i64 0, .int .i64 0, .string (⟨#[]⟩ : ByteArray), .slice none 0 0, .slice none 0 0, .slice none 0 0]) (t := 42) ?hr ?_; (case hd => rfl); (case hg => rfl); (case hr => first | (go_simp; done) | (go_simp; rfl))
       intro gb673 hg w36 hbox hb
       replace HO656 := rw_ HO656 hb
       replace HO659 := rw_ HO659 hb
       replace HO666 := rw_ HO666 hb
       replace HO669 := rw_ HO669 hb
       replace HO672 := rw_ HO672 hb
       have BK673 := am_ (hbox)
       have GW673 := gw_ (w := w) hg
       have GE673 := gw_ (w := w) hg
       replace HB := bt_ hb
       have NB649_673 := ne_ hg BK649
       have NB673_649 := nf_ hg BK649
       replace BK649 := bw_ BK649 hb
       clear hb hbox hg
       refine hK.out _ _ (by first | exact (cz3_ BK649.out) | exact hHeld) (fun hHeld => ?_)
       clear hK K
       refine norm_ (a' := ?_) ?_ ?_
       rotate_left
       ·show Act.put _ (some 7) _ = _
        simp only [Act.put, sA_, sZ_, sS_, i64_w, i32_w]
        rfl
       exact norm_ (by simp only [putAll, Act.put, sA_, sZ_, sS_]) (hCont (.slice Ao32 t654.length co32, .slice Ao34 t657.length co34, v665, v668, v671, gb673) _ ⟨hHeld, (rk_ HO656.out), (rk_ HO659.out), (rk_ HO666.out), (rk_ HO669.out), (rk_ HO672.out), (bk_ BK649.out), (bk_ BK673.out), GW673.out, GE673.out, NB649_673.out, NB673_649.out, bh_⟩)
      ·skip
       refine box_step ?hg (N := 7) ?hd (cs := #[.int .i64 0, .int .i64 0, .int .i64 0, .string (⟨#[]⟩ : ByteArray), .slice none 0 0, .slice none 0 0, .slice none 0 0]) (t := 42) ?hr ?_; (case hd => rfl); (case hg => rfl); (case hr => first | (go_simp; done) | (go_simp; rfl))
       intro gb673 hg w34 hbox hb
       replace HO656 := rw_ HO656 hb
       replace HO659 := rw_ HO659 hb
       have BK673 := am_ (hbox)
       have GW673 := gw_ (w := w) hg
       have GE673 := gw_ (w := w) hg
       replace HB := bt_ hb
       have NB649_673 := ne_ hg BK649
       have NB673_649 := nf_ hg BK649
       replace BK649 := bw_ BK649 hb
       clear hb hbox hg
       obtain ⟨Ao35, co35, eo35⟩ := Kd.R_slice HO659.out
       (first | subst eo35 | (injection eo35 with f1_ f2_ f3_; have f4_ := f1_.symm; have f5_ := f3_.symm; clear f1_ f2_ f3_; subst f4_; subst f5_))
       refine hK.out _ _ (by first | exact (cz3_ BK649.out) | exact hHeld) (fun hHeld => ?_)
       clear hK K
       refine norm_ (a' := ?_) ?_ ?_
       rotate_left
       ·show Act.put _ (some 7) _ = _
        simp only [Act.put, sA_, sZ_, sS_, i64_w, i32_w]
        rfl
       refine one_ (i := 6) (N := some 35) (bf_ 9 255) rfl rfl (one_of HT_.out (by kernel_rfl)) (by decide) (fun K hK => ?_)
       refine gs_ Try.func17 #[.agg #[.int .i64 a0_0, .slice A0_1 l0_1.length c0_1, .slice A0_2 l0_2.length c0_2], .slice Ao35 t657.length co35] ?_
       with_reducible refine (occurrence_Resolve.calls a0_0 _ _ l0_1 _ _ l0_2 _ _ t657 t660 t661 t662 t663 t664 t667 t670 _ ?side1 ?side2 ?side3 ?side4 ?side5 ?side6 A25.out).mono ?_
       (case side1 => exact ck_ (Kd.C_below HR0_1.out HB.out))
       (case side2 => exact HC0_1.out)
       (case side3 => exact ck_ (Kd.C_below HR0_2.out HB.out))
       (case side4 => exact HC0_2.out)
       (case side5 => exact ck_ (Kd.R_reads' HO659.out).2.2)
       (case side6 => exact (Kd.R_reads' HO659.out).2.1)
       rintro e w36 ⟨v665, v668, v671, rfl, ho0, ho1, ho2, hb⟩
       refine ⟨_, rfl, ?_⟩
       replace HO656 := rw_ HO656 hb
       replace HO659 := rw_ HO659 hb
       have HO666 := am_ (Kd.R_lower ho0 bz_)
       have HO669 := am_ (Kd.R_lower ho1 bz_)
       have HO672 := am_ (Kd.R_lower ho2 bz_)
       replace BK649 := bw_ BK649 hb
       replace BK673 := bw_ BK673 hb
       replace HB := bt_ hb
       (try clear hb)
       (try clear hb2)
       (try clear hk)
       (try clear hi)
       (try clear ho0)
       (try clear ho1)
       (try clear ho2)
       refine hK.out _ _ (by first | exact (cz3_ BK649.out) | exact hHeld) (fun hHeld => ?_)
       clear hK K
       refine norm_ (a' := ?_) ?_ ?_
       rotate_left
       ·show Act.put _ (some 35) _ = _
        simp only [Act.put, sA_, sZ_, sS_, i64_w, i32_w]
        rfl
       exact norm_ (by simp only [putAll, Act.put, sA_, sZ_, sS_]) (hCont (.slice Ao32 t654.length co32, .slice Ao35 t657.length co35, v665, v668, v671, gb673) _ ⟨hHeld, (rk_ HO656.out), (rk_ HO659.out), (rk_ HO666.out), (rk_ HO669.out), (rk_ HO672.out), (bk_ BK649.out), (bk_ BK673.out), GW673.out, GE673.out, NB649_673.out, NB673_649.out, bh_⟩)
     ·skip
      refine box_step ?hg (N := 7) ?hd (cs := #[.int .i64 0, .int .i64 0, .int .i64 0, .string (⟨#[]⟩ : ByteArray), .slice none 0 0, .slice none 0 0, .slice none 0 0]) (t := 42) ?hr ?_; (case hd => rfl); (case hg => rfl); (case hr => first | (go_simp; done) | (go_simp; rfl))
      intro gb673 hg w32 hbox hb
      replace HO656 := rw_ HO656 hb
      have BK673 := am_ (hbox)
      have GW673 := gw_ (w := w) hg
      have GE673 := gw_ (w := w) hg
      replace HB := bt_ hb
      have NB649_673 := ne_ hg BK649
      have NB673_649 := nf_ hg BK649
      replace BK649 := bw_ BK649 hb
      clear hb hbox hg
      obtain ⟨Ao33, co33, eo33⟩ := Kd.R_slice HO656.out
      (first | subst eo33 | (injection eo33 with f1_ f2_ f3_; have f4_ := f1_.symm; have f5_ := f3_.symm; clear f1_ f2_ f3_; subst f4_; subst f5_))
      refine hK.out _ _ (by first | exact (cz3_ BK649.out) | exact hHeld) (fun hHeld => ?_)
      clear hK K
      refine norm_ (a' := ?_) ?_ ?_
      rotate_left
      ·show Act.put _ (some 7) _ = _
       simp only [Act.put, sA_, sZ_, sS_, i64_w, i32_w]
       rfl
      refine one_ (i := 5) (N := some 34) (bf_ 9 191) rfl rfl (one_of HT_.out (by kernel_rfl)) (by decide) (fun K hK => ?_)
      refine gs_ Try.func18 #[.slice Ao33 t654.length co33] ?_
      with_reducible refine (computuslaw21_forward.calls kj3 _ _ t654 t657 _ ?side1 ?side2 A24.out).mono ?_
      (case side1 => exact ck_ (Kd.R_reads' HO656.out).2.2)
      (case side2 => exact (Kd.R_reads' HO656.out).2.1)
      rintro e w34 ⟨v658, rfl, ho0, hb⟩
      refine ⟨_, rfl, ?_⟩
      replace HO656 := rw_ HO656 hb
      have HO659 := am_ (Kd.R_lower ho0 bz_)
      replace BK649 := bw_ BK649 hb
      replace BK673 := bw_ BK673 hb
      replace HB := bt_ hb
      (try clear hb)
      (try clear hb2)
      (try clear hk)
      (try clear hi)
      (try clear ho0)
      obtain ⟨Ao35, co35, eo35⟩ := Kd.R_slice HO659.out
      (first | subst eo35 | (injection eo35 with f1_ f2_ f3_; have f4_ := f1_.symm; have f5_ := f3_.symm; clear f1_ f2_ f3_; subst f4_; subst f5_))
      refine hK.out _ _ (by first | exact (cz3_ BK649.out) | exact hHeld) (fun hHeld => ?_)
      clear hK K
      refine norm_ (a' := ?_) ?_ ?_
      rotate_left
      ·show Act.put _ (some 34) _ = _
       simp only [Act.put, sA_, sZ_, sS_, i64_w, i32_w]
       rfl
      refine one_ (i := 6) (N := some 35) (bf_ 9 255) rfl rfl (one_of HT_.out (by kernel_rfl)) (by decide) (fun K hK => ?_)
      refine gs_ Try.func17 #[.agg #[.int .i64 a0_0, .slice A0_1 l0_1.length c0_1, .slice A0_2 l0_2.length c0_2], .slice Ao35 t657.length co35] ?_
      with_reducible refine (occurrence_Resolve.calls a0_0 _ _ l0_1 _ _ l0_2 _ _ t657 t660 t661 t662 t663 t664 t667 t670 _ ?side1 ?side2 ?side3 ?side4 ?side5 ?side6 A25.out).mono ?_
      (case side1 => exact ck_ (Kd.C_below HR0_1.out HB.out))
      (case side2 => exact HC0_1.out)
      (case side3 => exact ck_ (Kd.C_below HR0_2.out HB.out))
      (case side4 => exact HC0_2.out)
      (case side5 => exact ck_ (Kd.R_reads' HO659.out).2.2)
      (case side6 => exact (Kd.R_reads' HO659.out).2.1)
      rintro e w36 ⟨v665, v668, v671, rfl, ho0, ho1, ho2, hb⟩
      refine ⟨_, rfl, ?_⟩
      replace HO656 := rw_ HO656 hb
      replace HO659 := rw_ HO659 hb
      have HO666 := am_ (Kd.R_lower ho0 bz_)
      have HO669 := am_ (Kd.R_lower ho1 bz_)
      have HO672 := am_ (Kd.R_lower ho2 bz_)
      replace BK649 := bw_ BK649 hb
      replace BK673 := bw_ BK673 hb
      replace HB := bt_ hb
      (try clear hb)
      (try clear hb2)
      (try clear hk)
      (try clear hi)
      (try clear ho0)
      (try clear ho1)
      (try clear ho2)
      refine hK.out _ _ (by first | exact (cz3_ BK649.out) | exact hHeld) (fun hHeld => ?_)
      clear hK K
      refine norm_ (a' := ?_) ?_ ?_
      rotate_left
      ·show Act.put _ (some 35) _ = _
       simp only [Act.put, sA_, sZ_, sS_, i64_w, i32_w]
       rfl
      exact norm_ (by simp only [putAll, Act.put, sA_, sZ_, sS_]) (hCont (.slice Ao33 t654.length co33, .slice Ao35 t657.length co35, v665, v668, v671, gb673) _ ⟨hHeld, (rk_ HO656.out), (rk_ HO659.out), (rk_ HO666.out), (rk_ HO669.out), (rk_ HO672.out), (bk_ BK649.out), (bk_ BK673.out), GW673.out, GE673.out, NB649_673.out, NB673_649.out, bh_⟩)
    ·skip
     refine box_step ?hg (N := 7) ?hd (cs := #[.int .i64 0, .int .i64 0, .int .i64 0, .string (⟨#[]⟩ : ByteArray), .slice none 0 0, .slice none 0 0, .slice none 0 0]) (t := 42) ?hr ?_; (case hd => rfl); (case hg => rfl); (case hr => first | (go_simp; done) | (go_simp; rfl))
     intro gb673 hg w31 hbox hb
     have BK673 := am_ (hbox)
     have GW673 := gw_ (w := w) hg
     have GE673 := gw_ (w := w) hg
     replace HB := bt_ hb
     have NB649_673 := ne_ hg BK649
     have NB673_649 := nf_ hg BK649
     replace BK649 := bw_ BK649 hb
     clear hb hbox hg
     refine hK.out _ _ (by first | exact (cz3_ BK649.out) | exact hHeld) (fun hHeld => ?_)
     clear hK K
     refine norm_ (a' := ?_) ?_ ?_
     rotate_left
     ·show Act.put _ (some 7) _ = _
      simp only [Act.put, sA_, sZ_, sS_, i64_w, i32_w]
      rfl
     refine one_ (i := 4) (N := some 33) (bf_ 9 159) rfl rfl (one_of HT_.out (by kernel_rfl)) (by decide) (fun K hK => ?_)
     refine gs_ Try.func16 #[.agg #[.int .i64 a0_0, .slice A0_1 l0_1.length c0_1, .slice A0_2 l0_2.length c0_2], .int .i64 a1, .int .i64 a2] ?_
     with_reducible refine (computusref19_Of.calls kj3 a0_0 _ _ l0_1 _ _ l0_2 a1 a2 t654 _ ?side1 ?side2 ?side3 ?side4 A23.out).mono ?_
     (case side1 => exact ck_ (Kd.C_below HR0_1.out HB.out))
     (case side2 => exact HC0_1.out)
     (case side3 => exact ck_ (Kd.C_below HR0_2.out HB.out))
     (case side4 => exact HC0_2.out)
     rintro e w32 ⟨v655, rfl, ho0, hb⟩
     refine ⟨_, rfl, ?_⟩
     have HO656 := am_ (Kd.R_lower ho0 bz_)
     replace BK649 := bw_ BK649 hb
     replace BK673 := bw_ BK673 hb
     replace HB := bt_ hb
     (try clear hb)
     (try clear hb2)
     (try clear hk)
     (try clear hi)
     (try clear ho0)
     obtain ⟨Ao33, co33, eo33⟩ := Kd.R_slice HO656.out
     (first | subst eo33 | (injection eo33 with f1_ f2_ f3_; have f4_ := f1_.symm; have f5_ := f3_.symm; clear f1_ f2_ f3_; subst f4_; subst f5_))
     refine hK.out _ _ (by first | exact (cz3_ BK649.out) | exact hHeld) (fun hHeld => ?_)
     clear hK K
     refine norm_ (a' := ?_) ?_ ?_
     rotate_left
     ·show Act.put _ (some 33) _ = _
      simp only [Act.put, sA_, sZ_, sS_, i64_w, i32_w]
      rfl
     refine one_ (i := 5) (N := some 34) (bf_ 9 191) rfl rfl (one_of HT_.out (by kernel_rfl)) (by decide) (fun K hK => ?_)
     refine gs_ Try.func18 #[.slice Ao33 t654.length co33] ?_
     with_reducible refine (computuslaw21_forward.calls kj3 _ _ t654 t657 _ ?side1 ?side2 A24.out).mono ?_
     (case side1 => exact ck_ (Kd.R_reads' HO656.out).2.2)
     (case side2 => exact (Kd.R_reads' HO656.out).2.1)
     rintro e w34 ⟨v658, rfl, ho0, hb⟩
     refine ⟨_, rfl, ?_⟩
     replace HO656 := rw_ HO656 hb
     have HO659 := am_ (Kd.R_lower ho0 bz_)
     replace BK649 := bw_ BK649 hb
     replace BK673 := bw_ BK673 hb
     replace HB := bt_ hb
     (try clear hb)
     (try clear hb2)
     (try clear hk)
     (try clear hi)
     (try clear ho0)
     obtain ⟨Ao35, co35, eo35⟩ := Kd.R_slice HO659.out
     (first | subst eo35 | (injection eo35 with f1_ f2_ f3_; have f4_ := f1_.symm; have f5_ := f3_.symm; clear f1_ f2_ f3_; subst f4_; subst f5_))
     refine hK.out _ _ (by first | exact (cz3_ BK649.out) | exact hHeld) (fun hHeld => ?_)
     clear hK K
     refine norm_ (a' := ?_) ?_ ?_
     rotate_left
     ·show Act.put _ (some 34) _ = _
      simp only [Act.put, sA_, sZ_, sS_, i64_w, i32_w]
      rfl
     refine one_ (i := 6) (N := some 35) (bf_ 9 255) rfl rfl (one_of HT_.out (by kernel_rfl)) (by decide) (fun K hK => ?_)
     refine gs_ Try.func17 #[.agg #[.int .i64 a0_0, .slice A0_1 l0_1.length c0_1, .slice A0_2 l0_2.length c0_2], .slice Ao35 t657.length co35] ?_
     with_reducible refine (occurrence_Resolve.calls a0_0 _ _ l0_1 _ _ l0_2 _ _ t657 t660 t661 t662 t663 t664 t667 t670 _ ?side1 ?side2 ?side3 ?side4 ?side5 ?side6 A25.out).mono ?_
     (case side1 => exact ck_ (Kd.C_below HR0_1.out HB.out))
     (case side2 => exact HC0_1.out)
     (case side3 => exact ck_ (Kd.C_below HR0_2.out HB.out))
     (case side4 => exact HC0_2.out)
     (case side5 => exact ck_ (Kd.R_reads' HO659.out).2.2)
     (case side6 => exact (Kd.R_reads' HO659.out).2.1)
     rintro e w36 ⟨v665, v668, v671, rfl, ho0, ho1, ho2, hb⟩
     refine ⟨_, rfl, ?_⟩
     replace HO656 := rw_ HO656 hb
     replace HO659 := rw_ HO659 hb
     have HO666 := am_ (Kd.R_lower ho0 bz_)
     have HO669 := am_ (Kd.R_lower ho1 bz_)
     have HO672 := am_ (Kd.R_lower ho2 bz_)
     replace BK649 := bw_ BK649 hb
     replace BK673 := bw_ BK673 hb
     replace HB := bt_ hb
     (try clear hb)
     (try clear hb2)
     (try clear hk)
     (try clear hi)
     (try clear ho0)
     (try clear ho1)
     (try clear ho2)
     refine hK.out _ _ (by first | exact (cz3_ BK649.out) | exact hHeld) (fun hHeld => ?_)
     clear hK K
     refine norm_ (a' := ?_) ?_ ?_
     rotate_left
     ·show Act.put _ (some 35) _ = _
      simp only [Act.put, sA_, sZ_, sS_, i64_w, i32_w]
      rfl
     exact norm_ (by simp only [putAll, Act.put, sA_, sZ_, sS_]) (hCont (.slice Ao33 t654.length co33, .slice Ao35 t657.length co35, v665, v668, v671, gb673) _ ⟨hHeld, (rk_ HO656.out), (rk_ HO659.out), (rk_ HO666.out), (rk_ HO669.out), (rk_ HO672.out), (bk_ BK649.out), (bk_ BK673.out), GW673.out, GE673.out, NB649_673.out, NB673_649.out, bh_⟩)
   rintro ⟨v655, v658, v665, v668, v671, gb673⟩ w37 ⟨hS_, h0_, h1_, h2_, h3_, h4_, h5_, h6_, h7_, h8_, h9_, h10_, h11_⟩
   have HO656 : Aside0 (Kd.R k44 44 w37 w.heap.size (fun _ => True) v655 t654) := ⟨h0_⟩
   have HO659 : Aside0 (Kd.R k28 28 w37 w.heap.size (fun _ => True) v658 t657) := ⟨h1_⟩
   have HO666 : Aside0 (Kd.R (Kd.int .i64) 3 w37 w.heap.size (fun k_ => some k_ ≠ (v668 : Value).ownBlock ∧ some k_ ≠ (v671 : Value).ownBlock) v665 t664) := ⟨h2_⟩
   have HO669 : Aside0 (Kd.R (Kd.int .i64) 3 w37 w.heap.size (fun k_ => some k_ ≠ (v665 : Value).ownBlock ∧ some k_ ≠ (v671 : Value).ownBlock) v668 t667) := ⟨h3_⟩
   have HO672 : Aside0 (Kd.R (Kd.int .i64) 3 w37 w.heap.size (fun k_ => some k_ ≠ (v665 : Value).ownBlock ∧ some k_ ≠ (v668 : Value).ownBlock) v671 t670) := ⟨h4_⟩
   replace BK649 : Aside0 (w37.heap[gb649]? = some (.cells #[.int .i64 a0_0, .slice A0_1 l0_1.length c0_1, .slice A0_2 l0_2.length c0_2] 36 (0, 0))) := ⟨h5_⟩
   have BK673 : Aside0 (w37.heap[gb673]? = some (.cells #[.int .i64 0, .int .i64 0, .int .i64 0, .string (⟨#[]⟩ : ByteArray), .slice none 0 0, .slice none 0 0, .slice none 0 0] 42 (0, 0))) := ⟨h6_⟩
   have GW673 : Aside0 (w.heap.size ≤ gb673) := ⟨h7_⟩
   have GE673 : Aside0 (w.heap.size ≤ gb673) := ⟨h8_⟩
   have NB649_673 : Aside0 (gb649 ≠ gb673) := ⟨h9_⟩
   have NB673_649 : Aside0 (gb673 ≠ gb649) := ⟨h10_⟩
   replace HB : Aside0 (Below w.heap.size w w37) := ⟨h11_⟩
   clear h0_ h1_ h2_ h3_ h4_ h5_ h6_ h7_ h8_ h9_ h10_ h11_
   have hHeld : w37.cell? ⟨gb649, 0, none⟩ = some (.int .i64 a0_0) ∧ w37.cell? ⟨gb649, 1, none⟩ = some (.slice A0_1 l0_1.length c0_1) ∧ w37.cell? ⟨gb649, 2, none⟩ = some (.slice A0_2 l0_2.length c0_2) := hS_
   obtain ⟨Ao42, co42, eo42⟩ := Kd.R_slice HO666.out
   (first | subst eo42 | (injection eo42 with f1_ f2_ f3_; have f4_ := f1_.symm; have f5_ := f3_.symm; clear f1_ f2_ f3_; subst f4_; subst f5_))
   obtain ⟨Ao44, co44, eo44⟩ := Kd.R_slice HO669.out
   (first | subst eo44 | (injection eo44 with f1_ f2_ f3_; have f4_ := f1_.symm; have f5_ := f3_.symm; clear f1_ f2_ f3_; subst f4_; subst f5_))
   obtain ⟨Ao46, co46, eo46⟩ := Kd.R_slice HO672.out
   (first | subst eo46 | (injection eo46 with f1_ f2_ f3_; have f4_ := f1_.symm; have f5_ := f3_.symm; clear f1_ f2_ f3_; subst f4_; subst f5_))
   refine norm_ (a' := ?_) ?_ ?_
   rotate_left
   ·simp only [putAll, Act.put, sA_, sZ_, sS_]
    rfl
   refine one_ (i := 8) (N := none) (bf_ 9 511) rfl rfl (one_of HT_.out (by kernel_rfl)) (by decide) (fun K hK => ?_)
   have hs38 : w37.cell? ⟨gb673, 0, none⟩ = some (.int .i64 0) := (blk_cell BK673.out 0).trans rfl
   have hfs38 := blk_frozen BK673.out 0
   have hns38_0 := NB649_673.out
   have hms38_0 := NB673_649.out
   have hs39 : w37.cell? ⟨gb673, 1, none⟩ = some (.int .i64 0) := (blk_cell BK673.out 1).trans rfl
   have hfs39 := blk_frozen BK673.out 1
   have hns39_0 := NB649_673.out
   have hms39_0 := NB673_649.out
   have hs40 : w37.cell? ⟨gb673, 2, none⟩ = some (.int .i64 0) := (blk_cell BK673.out 2).trans rfl
   have hfs40 := blk_frozen BK673.out 2
   have hns40_0 := NB649_673.out
   have hms40_0 := NB673_649.out
   have hs41 : w37.cell? ⟨gb673, 3, none⟩ = some (.string (⟨#[]⟩ : ByteArray)) := (blk_cell BK673.out 3).trans rfl
   have hfs41 := blk_frozen BK673.out 3
   have hns41_0 := NB649_673.out
   have hms41_0 := NB673_649.out
   have hs43 : w37.cell? ⟨gb673, 4, none⟩ = some (.slice none 0 0) := (blk_cell BK673.out 4).trans rfl
   have hfs43 := blk_frozen BK673.out 4
   have hns43_0 := NB649_673.out
   have hms43_0 := NB673_649.out
   have hs45 : w37.cell? ⟨gb673, 5, none⟩ = some (.slice none 0 0) := (blk_cell BK673.out 5).trans rfl
   have hfs45 := blk_frozen BK673.out 5
   have hns45_0 := NB649_673.out
   have hms45_0 := NB673_649.out
   have hs47 : w37.cell? ⟨gb673, 6, none⟩ = some (.slice none 0 0) := (blk_cell BK673.out 6).trans rfl
   have hfs47 := blk_frozen BK673.out 6
   have hns47_0 := NB649_673.out
   have hms47_0 := NB673_649.out
   refine skip_ (w1 := ?_) (by rfl) rfl ?_ ?_
   rotate_left
   ·go_simp
    rfl
   refine hK.out _ _ ⟨((cell_far (p := ⟨gb673, _, none⟩) NB649_673.out _).trans (((cell_far (p := ⟨gb673, _, none⟩) NB649_673.out _).trans (((cell_far (p := ⟨gb673, _, none⟩) NB649_673.out _).trans (((cell_far (p := ⟨gb673, _, none⟩) NB649_673.out _).trans (((cell_far (p := ⟨gb673, _, none⟩) NB649_673.out _).trans (((cell_far (p := ⟨gb673, _, none⟩) NB649_673.out _).trans (((cell_far (p := ⟨gb673, _, none⟩) NB649_673.out _).trans (hHeld.1)))))))))))))), ((cell_far (p := ⟨gb673, _, none⟩) NB649_673.out _).trans (((cell_far (p := ⟨gb673, _, none⟩) NB649_673.out _).trans (((cell_far (p := ⟨gb673, _, none⟩) NB649_673.out _).trans (((cell_far (p := ⟨gb673, _, none⟩) NB649_673.out _).trans (((cell_far (p := ⟨gb673, _, none⟩) NB649_673.out _).trans (((cell_far (p := ⟨gb673, _, none⟩) NB649_673.out _).trans (((cell_far (p := ⟨gb673, _, none⟩) NB649_673.out _).trans (hHeld.2.1)))))))))))))), ((cell_far (p := ⟨gb673, _, none⟩) NB649_673.out _).trans (((cell_far (p := ⟨gb673, _, none⟩) NB649_673.out _).trans (((cell_far (p := ⟨gb673, _, none⟩) NB649_673.out _).trans (((cell_far (p := ⟨gb673, _, none⟩) NB649_673.out _).trans (((cell_far (p := ⟨gb673, _, none⟩) NB649_673.out _).trans (((cell_far (p := ⟨gb673, _, none⟩) NB649_673.out _).trans (((cell_far (p := ⟨gb673, _, none⟩) NB649_673.out _).trans (hHeld.2.2))))))))))))))⟩ (fun hHeld => ?_)
   clear hK K
   refine done_ (done_of HT_.out (by kernel_rfl)) ?_
   try go_wp2
   have n0_ : Aside0 (Kd.R k44 44 (((((((w37.setCell ⟨gb673, 0, none⟩ (.int .i64 t660)).setCell ⟨gb673, 1, none⟩ (.int .i64 t661)).setCell ⟨gb673, 2, none⟩ (.int .i64 t662)).setCell ⟨gb673, 3, none⟩ (.string t663)).setCell ⟨gb673, 4, none⟩ (.slice Ao42 t664.length co42)).setCell ⟨gb673, 5, none⟩ (.slice Ao44 t667.length co44)).setCell ⟨gb673, 6, none⟩ (.slice Ao46 t670.length co46)) w.heap.size (fun _ => True) v655 t654) := ⟨fa_ HO656 BK673⟩
   have n1_ : Aside0 (Kd.R k28 28 (((((((w37.setCell ⟨gb673, 0, none⟩ (.int .i64 t660)).setCell ⟨gb673, 1, none⟩ (.int .i64 t661)).setCell ⟨gb673, 2, none⟩ (.int .i64 t662)).setCell ⟨gb673, 3, none⟩ (.string t663)).setCell ⟨gb673, 4, none⟩ (.slice Ao42 t664.length co42)).setCell ⟨gb673, 5, none⟩ (.slice Ao44 t667.length co44)).setCell ⟨gb673, 6, none⟩ (.slice Ao46 t670.length co46)) w.heap.size (fun _ => True) v658 t657) := ⟨fa_ HO659 BK673⟩
   have n2_ : Aside0 (Kd.R (Kd.int .i64) 3 (((((((w37.setCell ⟨gb673, 0, none⟩ (.int .i64 t660)).setCell ⟨gb673, 1, none⟩ (.int .i64 t661)).setCell ⟨gb673, 2, none⟩ (.int .i64 t662)).setCell ⟨gb673, 3, none⟩ (.string t663)).setCell ⟨gb673, 4, none⟩ (.slice Ao42 t664.length co42)).setCell ⟨gb673, 5, none⟩ (.slice Ao44 t667.length co44)).setCell ⟨gb673, 6, none⟩ (.slice Ao46 t670.length co46)) w.heap.size (fun k_ => some k_ ≠ (.slice Ao44 t667.length co44 : Value).ownBlock ∧ some k_ ≠ (.slice Ao46 t670.length co46 : Value).ownBlock) (.slice Ao42 t664.length co42) t664) := ⟨fa_ HO666 BK673⟩
   have n3_ : Aside0 (Kd.R (Kd.int .i64) 3 (((((((w37.setCell ⟨gb673, 0, none⟩ (.int .i64 t660)).setCell ⟨gb673, 1, none⟩ (.int .i64 t661)).setCell ⟨gb673, 2, none⟩ (.int .i64 t662)).setCell ⟨gb673, 3, none⟩ (.string t663)).setCell ⟨gb673, 4, none⟩ (.slice Ao42 t664.length co42)).setCell ⟨gb673, 5, none⟩ (.slice Ao44 t667.length co44)).setCell ⟨gb673, 6, none⟩ (.slice Ao46 t670.length co46)) w.heap.size (fun k_ => some k_ ≠ (.slice Ao42 t664.length co42 : Value).ownBlock ∧ some k_ ≠ (.slice Ao46 t670.length co46 : Value).ownBlock) (.slice Ao44 t667.length co44) t667) := ⟨fa_ HO669 BK673⟩
   have n4_ : Aside0 (Kd.R (Kd.int .i64) 3 (((((((w37.setCell ⟨gb673, 0, none⟩ (.int .i64 t660)).setCell ⟨gb673, 1, none⟩ (.int .i64 t661)).setCell ⟨gb673, 2, none⟩ (.int .i64 t662)).setCell ⟨gb673, 3, none⟩ (.string t663)).setCell ⟨gb673, 4, none⟩ (.slice Ao42 t664.length co42)).setCell ⟨gb673, 5, none⟩ (.slice Ao44 t667.length co44)).setCell ⟨gb673, 6, none⟩ (.slice Ao46 t670.length co46)) w.heap.size (fun k_ => some k_ ≠ (.slice Ao42 t664.length co42 : Value).ownBlock ∧ some k_ ≠ (.slice Ao44 t667.length co44 : Value).ownBlock) (.slice Ao46 t670.length co46) t670) := ⟨fa_ HO672 BK673⟩
   have n5_ : Aside0 ((((((((w37.setCell ⟨gb673, 0, none⟩ (.int .i64 t660)).setCell ⟨gb673, 1, none⟩ (.int .i64 t661)).setCell ⟨gb673, 2, none⟩ (.int .i64 t662)).setCell ⟨gb673, 3, none⟩ (.string t663)).setCell ⟨gb673, 4, none⟩ (.slice Ao42 t664.length co42)).setCell ⟨gb673, 5, none⟩ (.slice Ao44 t667.length co44)).setCell ⟨gb673, 6, none⟩ (.slice Ao46 t670.length co46)).heap[gb649]? = some (.cells #[.int .i64 a0_0, .slice A0_1 l0_1.length c0_1, .slice A0_2 l0_2.length c0_2] 36 (0, 0))) := ⟨bf1_ NB649_673 BK649⟩
   have n6_ : Aside0 ((((((((w37.setCell ⟨gb673, 0, none⟩ (.int .i64 t660)).setCell ⟨gb673, 1, none⟩ (.int .i64 t661)).setCell ⟨gb673, 2, none⟩ (.int .i64 t662)).setCell ⟨gb673, 3, none⟩ (.string t663)).setCell ⟨gb673, 4, none⟩ (.slice Ao42 t664.length co42)).setCell ⟨gb673, 5, none⟩ (.slice Ao44 t667.length co44)).setCell ⟨gb673, 6, none⟩ (.slice Ao46 t670.length co46)).heap[gb673]? = some (.cells #[.int .i64 t660, .int .i64 t661, .int .i64 t662, .string t663, .slice Ao42 t664.length co42, .slice Ao44 t667.length co44, .slice Ao46 t670.length co46] 42 (0, 0))) := ⟨by refine bp_ ?_; refine blk_put (cs := #[.int .i64 t660, .int .i64 t661, .int .i64 t662, .string t663, .slice Ao42 t664.length co42, .slice Ao44 t667.length co44, .slice none 0 0]) ?_ 6 _ rfl; refine bp_ ?_; refine blk_put (cs := #[.int .i64 t660, .int .i64 t661, .int .i64 t662, .string t663, .slice Ao42 t664.length co42, .slice none 0 0, .slice none 0 0]) ?_ 5 _ rfl; refine bp_ ?_; refine blk_put (cs := #[.int .i64 t660, .int .i64 t661, .int .i64 t662, .string t663, .slice none 0 0, .slice none 0 0, .slice none 0 0]) ?_ 4 _ rfl; refine bp_ ?_; refine blk_put (cs := #[.int .i64 t660, .int .i64 t661, .int .i64 t662, .string (⟨#[]⟩ : ByteArray), .slice none 0 0, .slice none 0 0, .slice none 0 0]) ?_ 3 _ rfl; refine bp_ ?_; refine blk_put (cs := #[.int .i64 t660, .int .i64 t661, .int .i64 0, .string (⟨#[]⟩ : ByteArray), .slice none 0 0, .slice none 0 0, .slice none 0 0]) ?_ 2 _ rfl; refine bp_ ?_; refine blk_put (cs := #[.int .i64 t660, .int .i64 0, .int .i64 0, .string (⟨#[]⟩ : ByteArray), .slice none 0 0, .slice none 0 0, .slice none 0 0]) ?_ 1 _ rfl; refine bp_ ?_; refine blk_put (cs := #[.int .i64 0, .int .i64 0, .int .i64 0, .string (⟨#[]⟩ : ByteArray), .slice none 0 0, .slice none 0 0, .slice none 0 0]) ?_ 0 _ rfl; exact bk_ BK673.out⟩
   have n7_ : Aside0 (Below w.heap.size w (((((((w37.setCell ⟨gb673, 0, none⟩ (.int .i64 t660)).setCell ⟨gb673, 1, none⟩ (.int .i64 t661)).setCell ⟨gb673, 2, none⟩ (.int .i64 t662)).setCell ⟨gb673, 3, none⟩ (.string t663)).setCell ⟨gb673, 4, none⟩ (.slice Ao42 t664.length co42)).setCell ⟨gb673, 5, none⟩ (.slice Ao44 t667.length co44)).setCell ⟨gb673, 6, none⟩ (.slice Ao46 t670.length co46))) := ⟨bh_⟩
   (try clear HO656)
   (try clear HO659)
   (try clear HO666)
   (try clear HO669)
   (try clear HO672)
   (try clear BK649)
   (try clear BK673)
   (try clear HB)
   generalize (((((((w37.setCell ⟨gb673, 0, none⟩ (.int .i64 t660)).setCell ⟨gb673, 1, none⟩ (.int .i64 t661)).setCell ⟨gb673, 2, none⟩ (.int .i64 t662)).setCell ⟨gb673, 3, none⟩ (.string t663)).setCell ⟨gb673, 4, none⟩ (.slice Ao42 t664.length co42)).setCell ⟨gb673, 5, none⟩ (.slice Ao44 t667.length co44)).setCell ⟨gb673, 6, none⟩ (.slice Ao46 t670.length co46)) = w48 at n0_ n1_ n2_ n3_ n4_ n5_ n6_ n7_ ⊢
   have HO656 := n0_
   have HO659 := n1_
   have HO666 := n2_
   have HO669 := n3_
   have HO672 := n4_
   have BK649 := n5_
   have BK673 := n6_
   have HB := n7_
   clear n0_ n1_ n2_ n3_ n4_ n5_ n6_ n7_
   replace HO656 := am_ (Kd.R_drew HO656.out)
   replace HO659 := am_ (Kd.R_drew HO659.out)
   replace HO666 := am_ (Kd.R_drew HO666.out)
   replace HO669 := am_ (Kd.R_drew HO669.out)
   replace HO672 := am_ (Kd.R_drew HO672.out)
   replace BK649 := am_ (blk_drew BK649.out)
   replace BK673 := am_ (blk_drew BK673.out)
   replace HB := am_ (below_drew1 HB.out)
   refine start_ (n := 15) (S := fun w' => w'.cell? ⟨gb673, 0, none⟩ = some (.int .i64 t660) ∧ w'.cell? ⟨gb673, 1, none⟩ = some (.int .i64 t661) ∧ w'.cell? ⟨gb673, 2, none⟩ = some (.int .i64 t662) ∧ w'.cell? ⟨gb673, 3, none⟩ = some (.string t663) ∧ w'.cell? ⟨gb673, 4, none⟩ = some (.slice Ao42 t664.length co42) ∧ w'.cell? ⟨gb673, 5, none⟩ = some (.slice Ao44 t667.length co44) ∧ w'.cell? ⟨gb673, 6, none⟩ = some (.slice Ao46 t670.length co46)) (ds := []) (bf_ 15 0) (by kernel_rfl) rfl rfl (cz7_ BK673.out) (fun hHeld => ?_); refine with_tabW computuslaw21_OccurrenceDisplaces.tab4 computuslaw21_OccurrenceDisplaces.bits4 (fun HT_ HW_ => ?_)
   generalize w48.drew = w49 at HO656 HO659 HO666 HO669 HO672 BK649 BK673 HB hHeld ⊢
   refine pu_ 1 (some 37) (bf_ 15 2) HT_.out ?_
   refine pu_ 5 (some 41) (bf_ 15 34) HT_.out ?_
   refine pu_ 9 (some 45) (bf_ 15 546) HT_.out ?_
   refine ta_ 2 (some 38) (bf_ 15 550) HT_.out HW_.out hHeld ?_
   refine ta_ 6 (some 42) (bf_ 15 614) HT_.out HW_.out hHeld ?_
   refine ta_ 10 (some 46) (bf_ 15 1638) HT_.out HW_.out hHeld ?_
   refine join_ (σ := Value × Value × Value × Value × Value × Value × Nat) 1 (bf_ 15 16383) (fun s_ => [(36, s_.1), (39, s_.2.1), (40, s_.2.2.1), (43, s_.2.2.2.1), (44, s_.2.2.2.2.1), (47, s_.2.2.2.2.2.1), (8, .pointer (some ⟨s_.2.2.2.2.2.2, 0, none⟩)), (48, .agg #[.int .i64 0, .int .i64 0, .int .i64 0, .string (⟨#[]⟩ : ByteArray), s_.2.1, s_.2.2.2.1, s_.2.2.2.2.2.1])]) (fun s_ w' => (w'.cell? ⟨gb673, 0, none⟩ = some (.int .i64 t660) ∧ w'.cell? ⟨gb673, 1, none⟩ = some (.int .i64 t661) ∧ w'.cell? ⟨gb673, 2, none⟩ = some (.int .i64 t662) ∧ w'.cell? ⟨gb673, 3, none⟩ = some (.string t663) ∧ w'.cell? ⟨gb673, 4, none⟩ = some (.slice Ao42 t664.length co42) ∧ w'.cell? ⟨gb673, 5, none⟩ = some (.slice Ao44 t667.length co44) ∧ w'.cell? ⟨gb673, 6, none⟩ = some (.slice Ao46 t670.length co46)) ∧ (Kd.R k44 44 w' w.heap.size (fun _ => True) v655 t654) ∧ (Kd.R k28 28 w' w.heap.size (fun _ => True) v658 t657) ∧ (Kd.R (Kd.int .i64) 3 w' w.heap.size (fun k_ => some k_ ≠ (.slice Ao44 t667.length co44 : Value).ownBlock ∧ some k_ ≠ (.slice Ao46 t670.length co46 : Value).ownBlock ∧ some k_ ≠ (s_.2.1 : Value).ownBlock ∧ some k_ ≠ (s_.2.2.2.1 : Value).ownBlock ∧ some k_ ≠ (s_.2.2.2.2.2.1 : Value).ownBlock) (.slice Ao42 t664.length co42) t664) ∧ (Kd.R (Kd.int .i64) 3 w' w.heap.size (fun k_ => some k_ ≠ (.slice Ao42 t664.length co42 : Value).ownBlock ∧ some k_ ≠ (.slice Ao46 t670.length co46 : Value).ownBlock ∧ some k_ ≠ (s_.2.1 : Value).ownBlock ∧ some k_ ≠ (s_.2.2.2.1 : Value).ownBlock ∧ some k_ ≠ (s_.2.2.2.2.2.1 : Value).ownBlock) (.slice Ao44 t667.length co44) t667) ∧ (Kd.R (Kd.int .i64) 3 w' w.heap.size (fun k_ => some k_ ≠ (.slice Ao42 t664.length co42 : Value).ownBlock ∧ some k_ ≠ (.slice Ao44 t667.length co44 : Value).ownBlock ∧ some k_ ≠ (s_.2.1 : Value).ownBlock ∧ some k_ ≠ (s_.2.2.2.1 : Value).ownBlock ∧ some k_ ≠ (s_.2.2.2.2.2.1 : Value).ownBlock) (.slice Ao46 t670.length co46) t670) ∧ (Kd.R (Kd.int .i64) 3 w' w.heap.size (fun k_ => some k_ ≠ (.slice Ao42 t664.length co42 : Value).ownBlock ∧ some k_ ≠ (.slice Ao44 t667.length co44 : Value).ownBlock ∧ some k_ ≠ (.slice Ao46 t670.length co46 : Value).ownBlock ∧ some k_ ≠ (s_.2.2.2.1 : Value).ownBlock ∧ some k_ ≠ (s_.2.2.2.2.2.1 : Value).ownBlock) s_.2.1 y677) ∧ (Kd.R (Kd.int .i64) 3 w' w.heap.size (fun k_ => some k_ ≠ (.slice Ao42 t664.length co42 : Value).ownBlock ∧ some k_ ≠ (.slice Ao44 t667.length co44 : Value).ownBlock ∧ some k_ ≠ (.slice Ao46 t670.length co46 : Value).ownBlock ∧ some k_ ≠ (s_.2.1 : Value).ownBlock ∧ some k_ ≠ (s_.2.2.2.2.2.1 : Value).ownBlock) s_.2.2.2.1 y683) ∧ (Kd.R (Kd.int .i64) 3 w' w.heap.size (fun k_ => some k_ ≠ (.slice Ao42 t664.length co42 : Value).ownBlock ∧ some k_ ≠ (.slice Ao44 t667.length co44 : Value).ownBlock ∧ some k_ ≠ (.slice Ao46 t670.length co46 : Value).ownBlock ∧ some k_ ≠ (s_.2.1 : Value).ownBlock ∧ some k_ ≠ (s_.2.2.2.1 : Value).ownBlock) s_.2.2.2.2.2.1 y689) ∧ (w'.heap[gb649]? = some (.cells #[.int .i64 a0_0, .slice A0_1 l0_1.length c0_1, .slice A0_2 l0_2.length c0_2] 36 (0, 0))) ∧ (w'.heap[gb673]? = some (.cells #[.int .i64 t660, .int .i64 t661, .int .i64 t662, .string t663, .slice Ao42 t664.length co42, .slice Ao44 t667.length co44, .slice Ao46 t670.length co46] 42 (0, 0))) ∧ (w'.heap[s_.2.2.2.2.2.2]? = some (.cells #[.int .i64 0, .int .i64 0, .int .i64 0, .string (⟨#[]⟩ : ByteArray), .slice none 0 0, .slice none 0 0, .slice none 0 0] 46 (0, 0))) ∧ (w.heap.size ≤ s_.2.2.2.2.2.2) ∧ (w.heap.size ≤ s_.2.2.2.2.2.2) ∧ (gb649 ≠ s_.2.2.2.2.2.2) ∧ (s_.2.2.2.2.2.2 ≠ gb649) ∧ (gb673 ≠ s_.2.2.2.2.2.2) ∧ (s_.2.2.2.2.2.2 ≠ gb673) ∧ (Below w.heap.size w w')) ?_ ?_
   rotate_left
   ·intro hJ0_3_4_7_8_11_13
    exact lit3_.start (b := 36) (N := 8) (L1 := t664) (L2 := t667) (L3 := t670) ⟨HT_.out, rfl, rfl, rfl, rfl, rfl, rfl, rfl, rfl, rfl, rfl, rfl, rfl, rfl, rfl, rfl, rfl, rfl, rfl, rfl, rfl, rfl, rfl, rfl, rfl, fun _ _ => by first | (go_simp; done) | (go_simp; rfl), fun _ _ => by first | (go_simp; done) | (go_simp; rfl), fun _ _ => by first | (go_simp; done) | (go_simp; rfl), rfl, rfl, rfl, fun _ _ _ _ _ _ _ _ _ _ _ h1 h2 h3 => by first | (go_simp; done) | (go_simp; rfl), fun _ _ => by first | (go_simp; done) | (go_simp; rfl), by simp, by decide, rfl, rfl, rfl, (Kd.R_reads' HO666.out).2.2, (Kd.R_reads' HO669.out).2.2, (Kd.R_reads' HO672.out).2.2, by have := LMc26.out; omega, by have := LMc27.out; omega, by have := LMc28.out; omega, fun _ hb_ => ⟨(blk_cell (blk_below BK673.out hb_) 0).trans rfl, (blk_cell (blk_below BK673.out hb_) 1).trans rfl, (blk_cell (blk_below BK673.out hb_) 2).trans rfl, (blk_cell (blk_below BK673.out hb_) 3).trans rfl, (blk_cell (blk_below BK673.out hb_) 4).trans rfl, (blk_cell (blk_below BK673.out hb_) 5).trans rfl, (blk_cell (blk_below BK673.out hb_) 6).trans rfl⟩⟩ ⟨fun _ _ _ _ _ h => h, fun x1 y1 x2 y2 x3 y3 g W h => hJ0_3_4_7_8_11_13 (x1, y1, x2, y2, x3, y3, g) W ⟨⟨(blk_cell (blk_below BK673.out h.B) 0).trans rfl, (blk_cell (blk_below BK673.out h.B) 1).trans rfl, (blk_cell (blk_below BK673.out h.B) 2).trans rfl, (blk_cell (blk_below BK673.out h.B) 3).trans rfl, (blk_cell (blk_below BK673.out h.B) 4).trans rfl, (blk_cell (blk_below BK673.out h.B) 5).trans rfl, (blk_cell (blk_below BK673.out h.B) 6).trans rfl⟩, (by first | exact Kd.R_mono (Kd.R_below (Kd.R_bound HO656.out) h.B) (fun _ hk => trivial) | exact Kd.R_mono (Kd.R_below (Kd.R_bound HO659.out) h.B) (fun _ hk => trivial) | exact Kd.R_mono (Kd.R_below (Kd.R_bound HO666.out) h.B) (fun _ hk => trivial) | exact Kd.R_mono (Kd.R_below (Kd.R_bound HO669.out) h.B) (fun _ hk => trivial) | exact Kd.R_mono (Kd.R_below (Kd.R_bound HO672.out) h.B) (fun _ hk => trivial)), (by first | exact Kd.R_mono (Kd.R_below (Kd.R_bound HO656.out) h.B) (fun _ hk => trivial) | exact Kd.R_mono (Kd.R_below (Kd.R_bound HO659.out) h.B) (fun _ hk => trivial) | exact Kd.R_mono (Kd.R_below (Kd.R_bound HO666.out) h.B) (fun _ hk => trivial) | exact Kd.R_mono (Kd.R_below (Kd.R_bound HO669.out) h.B) (fun _ hk => trivial) | exact Kd.R_mono (Kd.R_below (Kd.R_bound HO672.out) h.B) (fun _ hk => trivial)), (by first | exact Kd.R_mono (Kd.R_below (Kd.R_bound HO656.out) h.B) (fun _ hk => ⟨hk.1.1, hk.1.2, h.new1 _ hk.2.2.1, h.new2 _ hk.2.2.1, h.new3 _ hk.2.2.1⟩) | exact Kd.R_mono (Kd.R_below (Kd.R_bound HO659.out) h.B) (fun _ hk => ⟨hk.1.1, hk.1.2, h.new1 _ hk.2.2.1, h.new2 _ hk.2.2.1, h.new3 _ hk.2.2.1⟩) | exact Kd.R_mono (Kd.R_below (Kd.R_bound HO666.out) h.B) (fun _ hk => ⟨hk.1.1, hk.1.2, h.new1 _ hk.2.2.1, h.new2 _ hk.2.2.1, h.new3 _ hk.2.2.1⟩) | exact Kd.R_mono (Kd.R_below (Kd.R_bound HO669.out) h.B) (fun _ hk => ⟨hk.1.1, hk.1.2, h.new1 _ hk.2.2.1, h.new2 _ hk.2.2.1, h.new3 _ hk.2.2.1⟩) | exact Kd.R_mono (Kd.R_below (Kd.R_bound HO672.out) h.B) (fun _ hk => ⟨hk.1.1, hk.1.2, h.new1 _ hk.2.2.1, h.new2 _ hk.2.2.1, h.new3 _ hk.2.2.1⟩)), (by first | exact Kd.R_mono (Kd.R_below (Kd.R_bound HO656.out) h.B) (fun _ hk => ⟨hk.1.1, hk.1.2, h.new1 _ hk.2.2.1, h.new2 _ hk.2.2.1, h.new3 _ hk.2.2.1⟩) | exact Kd.R_mono (Kd.R_below (Kd.R_bound HO659.out) h.B) (fun _ hk => ⟨hk.1.1, hk.1.2, h.new1 _ hk.2.2.1, h.new2 _ hk.2.2.1, h.new3 _ hk.2.2.1⟩) | exact Kd.R_mono (Kd.R_below (Kd.R_bound HO666.out) h.B) (fun _ hk => ⟨hk.1.1, hk.1.2, h.new1 _ hk.2.2.1, h.new2 _ hk.2.2.1, h.new3 _ hk.2.2.1⟩) | exact Kd.R_mono (Kd.R_below (Kd.R_bound HO669.out) h.B) (fun _ hk => ⟨hk.1.1, hk.1.2, h.new1 _ hk.2.2.1, h.new2 _ hk.2.2.1, h.new3 _ hk.2.2.1⟩) | exact Kd.R_mono (Kd.R_below (Kd.R_bound HO672.out) h.B) (fun _ hk => ⟨hk.1.1, hk.1.2, h.new1 _ hk.2.2.1, h.new2 _ hk.2.2.1, h.new3 _ hk.2.2.1⟩)), (by first | exact Kd.R_mono (Kd.R_below (Kd.R_bound HO656.out) h.B) (fun _ hk => ⟨hk.1.1, hk.1.2, h.new1 _ hk.2.2.1, h.new2 _ hk.2.2.1, h.new3 _ hk.2.2.1⟩) | exact Kd.R_mono (Kd.R_below (Kd.R_bound HO659.out) h.B) (fun _ hk => ⟨hk.1.1, hk.1.2, h.new1 _ hk.2.2.1, h.new2 _ hk.2.2.1, h.new3 _ hk.2.2.1⟩) | exact Kd.R_mono (Kd.R_below (Kd.R_bound HO666.out) h.B) (fun _ hk => ⟨hk.1.1, hk.1.2, h.new1 _ hk.2.2.1, h.new2 _ hk.2.2.1, h.new3 _ hk.2.2.1⟩) | exact Kd.R_mono (Kd.R_below (Kd.R_bound HO669.out) h.B) (fun _ hk => ⟨hk.1.1, hk.1.2, h.new1 _ hk.2.2.1, h.new2 _ hk.2.2.1, h.new3 _ hk.2.2.1⟩) | exact Kd.R_mono (Kd.R_below (Kd.R_bound HO672.out) h.B) (fun _ hk => ⟨hk.1.1, hk.1.2, h.new1 _ hk.2.2.1, h.new2 _ hk.2.2.1, h.new3 _ hk.2.2.1⟩)), (by rw [Ny677.out, Ny674.out, List.nil_append]; exact Kd.R_mono (Kd.R_lower (Kd.R_bound h.r1) (below_size HB.out)) (fun _ hk => ⟨(by first | exact Kd.fresh' (Kd.R_lt HO656.out) _ hk.2.1 | exact Kd.fresh' (Kd.R_lt HO659.out) _ hk.2.1 | exact Kd.fresh' (Kd.R_lt HO666.out) _ hk.2.1 | exact Kd.fresh' (Kd.R_lt HO669.out) _ hk.2.1 | exact Kd.fresh' (Kd.R_lt HO672.out) _ hk.2.1), (by first | exact Kd.fresh' (Kd.R_lt HO656.out) _ hk.2.1 | exact Kd.fresh' (Kd.R_lt HO659.out) _ hk.2.1 | exact Kd.fresh' (Kd.R_lt HO666.out) _ hk.2.1 | exact Kd.fresh' (Kd.R_lt HO669.out) _ hk.2.1 | exact Kd.fresh' (Kd.R_lt HO672.out) _ hk.2.1), (by first | exact Kd.fresh' (Kd.R_lt HO656.out) _ hk.2.1 | exact Kd.fresh' (Kd.R_lt HO659.out) _ hk.2.1 | exact Kd.fresh' (Kd.R_lt HO666.out) _ hk.2.1 | exact Kd.fresh' (Kd.R_lt HO669.out) _ hk.2.1 | exact Kd.fresh' (Kd.R_lt HO672.out) _ hk.2.1), hk.1.1, hk.1.2.1⟩)), (by rw [Ny683.out, Ny680.out, List.nil_append]; exact Kd.R_mono (Kd.R_lower (Kd.R_bound h.r2) (below_size HB.out)) (fun _ hk => ⟨(by first | exact Kd.fresh' (Kd.R_lt HO656.out) _ hk.2.1 | exact Kd.fresh' (Kd.R_lt HO659.out) _ hk.2.1 | exact Kd.fresh' (Kd.R_lt HO666.out) _ hk.2.1 | exact Kd.fresh' (Kd.R_lt HO669.out) _ hk.2.1 | exact Kd.fresh' (Kd.R_lt HO672.out) _ hk.2.1), (by first | exact Kd.fresh' (Kd.R_lt HO656.out) _ hk.2.1 | exact Kd.fresh' (Kd.R_lt HO659.out) _ hk.2.1 | exact Kd.fresh' (Kd.R_lt HO666.out) _ hk.2.1 | exact Kd.fresh' (Kd.R_lt HO669.out) _ hk.2.1 | exact Kd.fresh' (Kd.R_lt HO672.out) _ hk.2.1), (by first | exact Kd.fresh' (Kd.R_lt HO656.out) _ hk.2.1 | exact Kd.fresh' (Kd.R_lt HO659.out) _ hk.2.1 | exact Kd.fresh' (Kd.R_lt HO666.out) _ hk.2.1 | exact Kd.fresh' (Kd.R_lt HO669.out) _ hk.2.1 | exact Kd.fresh' (Kd.R_lt HO672.out) _ hk.2.1), hk.1.1, hk.1.2.1⟩)), (by rw [Ny689.out, Ny686.out, List.nil_append]; exact Kd.R_mono (Kd.R_lower (Kd.R_bound h.r3) (below_size HB.out)) (fun _ hk => ⟨(by first | exact Kd.fresh' (Kd.R_lt HO656.out) _ hk.2.1 | exact Kd.fresh' (Kd.R_lt HO659.out) _ hk.2.1 | exact Kd.fresh' (Kd.R_lt HO666.out) _ hk.2.1 | exact Kd.fresh' (Kd.R_lt HO669.out) _ hk.2.1 | exact Kd.fresh' (Kd.R_lt HO672.out) _ hk.2.1), (by first | exact Kd.fresh' (Kd.R_lt HO656.out) _ hk.2.1 | exact Kd.fresh' (Kd.R_lt HO659.out) _ hk.2.1 | exact Kd.fresh' (Kd.R_lt HO666.out) _ hk.2.1 | exact Kd.fresh' (Kd.R_lt HO669.out) _ hk.2.1 | exact Kd.fresh' (Kd.R_lt HO672.out) _ hk.2.1), (by first | exact Kd.fresh' (Kd.R_lt HO656.out) _ hk.2.1 | exact Kd.fresh' (Kd.R_lt HO659.out) _ hk.2.1 | exact Kd.fresh' (Kd.R_lt HO666.out) _ hk.2.1 | exact Kd.fresh' (Kd.R_lt HO669.out) _ hk.2.1 | exact Kd.fresh' (Kd.R_lt HO672.out) _ hk.2.1), hk.1.1, hk.1.2.1⟩)), blk_below BK649.out h.B, blk_below BK673.out h.B, (h.g _ rfl).1, Nat.le_trans (below_size HB.out) (h.g _ rfl).2, Nat.le_trans (below_size HB.out) (h.g _ rfl).2, Nat.ne_of_lt (Nat.lt_of_lt_of_le (blk_lt BK649.out) (h.g _ rfl).2), Nat.ne_of_gt (Nat.lt_of_lt_of_le (blk_lt BK649.out) (h.g _ rfl).2), Nat.ne_of_lt (Nat.lt_of_lt_of_le (blk_lt BK673.out) (h.g _ rfl).2), Nat.ne_of_gt (Nat.lt_of_lt_of_le (blk_lt BK673.out) (h.g _ rfl).2), HB.out.trans (h.B.mono (below_size HB.out))⟩⟩
   rintro ⟨v675, v678, v681, v684, v687, v690, gb692⟩ w63 ⟨hS_, h0_, h1_, h2_, h3_, h4_, h5_, h6_, h7_, h8_, h9_, h10_, h11_, h12_, h13_, h14_, h15_, h16_, h17_⟩
   replace HO656 : Aside0 (Kd.R k44 44 w63 w.heap.size (fun _ => True) v655 t654) := ⟨h0_⟩
   replace HO659 : Aside0 (Kd.R k28 28 w63 w.heap.size (fun _ => True) v658 t657) := ⟨h1_⟩
   replace HO666 : Aside0 (Kd.R (Kd.int .i64) 3 w63 w.heap.size (fun k_ => some k_ ≠ (.slice Ao44 t667.length co44 : Value).ownBlock ∧ some k_ ≠ (.slice Ao46 t670.length co46 : Value).ownBlock ∧ some k_ ≠ (v678 : Value).ownBlock ∧ some k_ ≠ (v684 : Value).ownBlock ∧ some k_ ≠ (v690 : Value).ownBlock) (.slice Ao42 t664.length co42) t664) := ⟨h2_⟩
   replace HO669 : Aside0 (Kd.R (Kd.int .i64) 3 w63 w.heap.size (fun k_ => some k_ ≠ (.slice Ao42 t664.length co42 : Value).ownBlock ∧ some k_ ≠ (.slice Ao46 t670.length co46 : Value).ownBlock ∧ some k_ ≠ (v678 : Value).ownBlock ∧ some k_ ≠ (v684 : Value).ownBlock ∧ some k_ ≠ (v690 : Value).ownBlock) (.slice Ao44 t667.length co44) t667) := ⟨h3_⟩
   replace HO672 : Aside0 (Kd.R (Kd.int .i64) 3 w63 w.heap.size (fun k_ => some k_ ≠ (.slice Ao42 t664.length co42 : Value).ownBlock ∧ some k_ ≠ (.slice Ao44 t667.length co44 : Value).ownBlock ∧ some k_ ≠ (v678 : Value).ownBlock ∧ some k_ ≠ (v684 : Value).ownBlock ∧ some k_ ≠ (v690 : Value).ownBlock) (.slice Ao46 t670.length co46) t670) := ⟨h4_⟩
   have HO679 : Aside0 (Kd.R (Kd.int .i64) 3 w63 w.heap.size (fun k_ => some k_ ≠ (.slice Ao42 t664.length co42 : Value).ownBlock ∧ some k_ ≠ (.slice Ao44 t667.length co44 : Value).ownBlock ∧ some k_ ≠ (.slice Ao46 t670.length co46 : Value).ownBlock ∧ some k_ ≠ (v684 : Value).ownBlock ∧ some k_ ≠ (v690 : Value).ownBlock) v678 y677) := ⟨h5_⟩
   have HO685 : Aside0 (Kd.R (Kd.int .i64) 3 w63 w.heap.size (fun k_ => some k_ ≠ (.slice Ao42 t664.length co42 : Value).ownBlock ∧ some k_ ≠ (.slice Ao44 t667.length co44 : Value).ownBlock ∧ some k_ ≠ (.slice Ao46 t670.length co46 : Value).ownBlock ∧ some k_ ≠ (v678 : Value).ownBlock ∧ some k_ ≠ (v690 : Value).ownBlock) v684 y683) := ⟨h6_⟩
   have HO691 : Aside0 (Kd.R (Kd.int .i64) 3 w63 w.heap.size (fun k_ => some k_ ≠ (.slice Ao42 t664.length co42 : Value).ownBlock ∧ some k_ ≠ (.slice Ao44 t667.length co44 : Value).ownBlock ∧ some k_ ≠ (.slice Ao46 t670.length co46 : Value).ownBlock ∧ some k_ ≠ (v678 : Value).ownBlock ∧ some k_ ≠ (v684 : Value).ownBlock) v690 y689) := ⟨h7_⟩
   replace BK649 : Aside0 (w63.heap[gb649]? = some (.cells #[.int .i64 a0_0, .slice A0_1 l0_1.length c0_1, .slice A0_2 l0_2.length c0_2] 36 (0, 0))) := ⟨h8_⟩
   replace BK673 : Aside0 (w63.heap[gb673]? = some (.cells #[.int .i64 t660, .int .i64 t661, .int .i64 t662, .string t663, .slice Ao42 t664.length co42, .slice Ao44 t667.length co44, .slice Ao46 t670.length co46] 42 (0, 0))) := ⟨h9_⟩
   have BK692 : Aside0 (w63.heap[gb692]? = some (.cells #[.int .i64 0, .int .i64 0, .int .i64 0, .string (⟨#[]⟩ : ByteArray), .slice none 0 0, .slice none 0 0, .slice none 0 0] 46 (0, 0))) := ⟨h10_⟩
   have GW692 : Aside0 (w.heap.size ≤ gb692) := ⟨h11_⟩
   have GE692 : Aside0 (w.heap.size ≤ gb692) := ⟨h12_⟩
   have NB649_692 : Aside0 (gb649 ≠ gb692) := ⟨h13_⟩
   have NB692_649 : Aside0 (gb692 ≠ gb649) := ⟨h14_⟩
   have NB673_692 : Aside0 (gb673 ≠ gb692) := ⟨h15_⟩
   have NB692_673 : Aside0 (gb692 ≠ gb673) := ⟨h16_⟩
   replace HB : Aside0 (Below w.heap.size w w63) := ⟨h17_⟩
   clear h0_ h1_ h2_ h3_ h4_ h5_ h6_ h7_ h8_ h9_ h10_ h11_ h12_ h13_ h14_ h15_ h16_ h17_
   have hHeld : w63.cell? ⟨gb673, 0, none⟩ = some (.int .i64 t660) ∧ w63.cell? ⟨gb673, 1, none⟩ = some (.int .i64 t661) ∧ w63.cell? ⟨gb673, 2, none⟩ = some (.int .i64 t662) ∧ w63.cell? ⟨gb673, 3, none⟩ = some (.string t663) ∧ w63.cell? ⟨gb673, 4, none⟩ = some (.slice Ao42 t664.length co42) ∧ w63.cell? ⟨gb673, 5, none⟩ = some (.slice Ao44 t667.length co44) ∧ w63.cell? ⟨gb673, 6, none⟩ = some (.slice Ao46 t670.length co46) := hS_
   obtain ⟨Ao64, co64, eo64⟩ := Kd.R_slice HO691.out
   (first | subst eo64 | (injection eo64 with f1_ f2_ f3_; have f4_ := f1_.symm; have f5_ := f3_.symm; clear f1_ f2_ f3_; subst f4_; subst f5_))
   obtain ⟨Ao65, co65, eo65⟩ := Kd.R_slice HO685.out
   (first | subst eo65 | (injection eo65 with f1_ f2_ f3_; have f4_ := f1_.symm; have f5_ := f3_.symm; clear f1_ f2_ f3_; subst f4_; subst f5_))
   obtain ⟨Ao66, co66, eo66⟩ := Kd.R_slice HO679.out
   (first | subst eo66 | (injection eo66 with f1_ f2_ f3_; have f4_ := f1_.symm; have f5_ := f3_.symm; clear f1_ f2_ f3_; subst f4_; subst f5_))
   refine norm_ (a' := ?_) ?_ ?_
   rotate_left
   ·simp only [putAll, Act.put, sA_, sZ_, sS_]
    rfl
   refine one_ (i := 14) (N := none) (bf_ 15 32767) rfl rfl (one_of HT_.out (by kernel_rfl)) (by decide) (fun K hK => ?_)
   have hs67 : w63.cell? ⟨gb692, 0, none⟩ = some (.int .i64 0) := (blk_cell BK692.out 0).trans rfl
   have hfs67 := blk_frozen BK692.out 0
   have hns67_0 := NB649_692.out
   have hns67_1 := NB673_692.out
   have hms67_0 := NB692_649.out
   have hms67_1 := NB692_673.out
   have hs68 : w63.cell? ⟨gb692, 1, none⟩ = some (.int .i64 0) := (blk_cell BK692.out 1).trans rfl
   have hfs68 := blk_frozen BK692.out 1
   have hns68_0 := NB649_692.out
   have hns68_1 := NB673_692.out
   have hms68_0 := NB692_649.out
   have hms68_1 := NB692_673.out
   have hs69 : w63.cell? ⟨gb692, 2, none⟩ = some (.int .i64 0) := (blk_cell BK692.out 2).trans rfl
   have hfs69 := blk_frozen BK692.out 2
   have hns69_0 := NB649_692.out
   have hns69_1 := NB673_692.out
   have hms69_0 := NB692_649.out
   have hms69_1 := NB692_673.out
   have hs70 : w63.cell? ⟨gb692, 3, none⟩ = some (.string (⟨#[]⟩ : ByteArray)) := (blk_cell BK692.out 3).trans rfl
   have hfs70 := blk_frozen BK692.out 3
   have hns70_0 := NB649_692.out
   have hns70_1 := NB673_692.out
   have hms70_0 := NB692_649.out
   have hms70_1 := NB692_673.out
   have hs71 : w63.cell? ⟨gb692, 4, none⟩ = some (.slice none 0 0) := (blk_cell BK692.out 4).trans rfl
   have hfs71 := blk_frozen BK692.out 4
   have hns71_0 := NB649_692.out
   have hns71_1 := NB673_692.out
   have hms71_0 := NB692_649.out
   have hms71_1 := NB692_673.out
   have hs72 : w63.cell? ⟨gb692, 5, none⟩ = some (.slice none 0 0) := (blk_cell BK692.out 5).trans rfl
   have hfs72 := blk_frozen BK692.out 5
   have hns72_0 := NB649_692.out
   have hns72_1 := NB673_692.out
   have hms72_0 := NB692_649.out
   have hms72_1 := NB692_673.out
   have hs73 : w63.cell? ⟨gb692, 6, none⟩ = some (.slice none 0 0) := (blk_cell BK692.out 6).trans rfl
   have hfs73 := blk_frozen BK692.out 6
   have hns73_0 := NB649_692.out
   have hns73_1 := NB673_692.out
   have hms73_0 := NB692_649.out
   have hms73_1 := NB692_673.out
   refine skip_ (w1 := ?_) (by rfl) rfl ?_ ?_
   rotate_left
   ·go_simp
    rfl
   refine hK.out _ _ ⟨((cell_far (p := ⟨gb692, _, none⟩) NB673_692.out _).trans (((cell_far (p := ⟨gb692, _, none⟩) NB673_692.out _).trans (((cell_far (p := ⟨gb692, _, none⟩) NB673_692.out _).trans (((cell_far (p := ⟨gb692, _, none⟩) NB673_692.out _).trans (((cell_far (p := ⟨gb692, _, none⟩) NB673_692.out _).trans (((cell_far (p := ⟨gb692, _, none⟩) NB673_692.out _).trans (((cell_far (p := ⟨gb692, _, none⟩) NB673_692.out _).trans (hHeld.1)))))))))))))), ((cell_far (p := ⟨gb692, _, none⟩) NB673_692.out _).trans (((cell_far (p := ⟨gb692, _, none⟩) NB673_692.out _).trans (((cell_far (p := ⟨gb692, _, none⟩) NB673_692.out _).trans (((cell_far (p := ⟨gb692, _, none⟩) NB673_692.out _).trans (((cell_far (p := ⟨gb692, _, none⟩) NB673_692.out _).trans (((cell_far (p := ⟨gb692, _, none⟩) NB673_692.out _).trans (((cell_far (p := ⟨gb692, _, none⟩) NB673_692.out _).trans (hHeld.2.1)))))))))))))), ((cell_far (p := ⟨gb692, _, none⟩) NB673_692.out _).trans (((cell_far (p := ⟨gb692, _, none⟩) NB673_692.out _).trans (((cell_far (p := ⟨gb692, _, none⟩) NB673_692.out _).trans (((cell_far (p := ⟨gb692, _, none⟩) NB673_692.out _).trans (((cell_far (p := ⟨gb692, _, none⟩) NB673_692.out _).trans (((cell_far (p := ⟨gb692, _, none⟩) NB673_692.out _).trans (((cell_far (p := ⟨gb692, _, none⟩) NB673_692.out _).trans (hHeld.2.2.1)))))))))))))), ((cell_far (p := ⟨gb692, _, none⟩) NB673_692.out _).trans (((cell_far (p := ⟨gb692, _, none⟩) NB673_692.out _).trans (((cell_far (p := ⟨gb692, _, none⟩) NB673_692.out _).trans (((cell_far (p := ⟨gb692, _, none⟩) NB673_692.out _).trans (((cell_far (p := ⟨gb692, _, none⟩) NB673_692.out _).trans (((cell_far (p := ⟨gb692, _, none⟩) NB673_692.out _).trans (((cell_far (p := ⟨gb692, _, none⟩) NB673_692.out _).trans (hHeld.2.2.2.1)))))))))))))), ((cell_far (p := ⟨gb692, _, none⟩) NB673_692.out _).trans (((cell_far (p := ⟨gb692, _, none⟩) NB673_692.out _).trans (((cell_far (p := ⟨gb692, _, none⟩) NB673_692.out _).trans (((cell_far (p := ⟨gb692, _, none⟩) NB673_692.out _).trans (((cell_far (p := ⟨gb692, _, none⟩) NB673_692.out _).trans (((cell_far (p := ⟨gb692, _, none⟩) NB673_692.out _).trans (((cell_far (p := ⟨gb692, _, none⟩) NB673_692.out _).trans (hHeld.2.2.2.2.1)))))))))))))), ((cell_far (p := ⟨gb692, _, none⟩) NB673_692.out _).trans (((cell_far (p := ⟨gb692, _, none⟩) NB673_692.out _).trans (((cell_far (p := ⟨gb692, _, none⟩) NB673_692.out _).trans (((cell_far (p := ⟨gb692, _, none⟩) NB673_692.out _).trans (((cell_far (p := ⟨gb692, _, none⟩) NB673_692.out _).trans (((cell_far (p := ⟨gb692, _, none⟩) NB673_692.out _).trans (((cell_far (p := ⟨gb692, _, none⟩) NB673_692.out _).trans (hHeld.2.2.2.2.2.1)))))))))))))), ((cell_far (p := ⟨gb692, _, none⟩) NB673_692.out _).trans (((cell_far (p := ⟨gb692, _, none⟩) NB673_692.out _).trans (((cell_far (p := ⟨gb692, _, none⟩) NB673_692.out _).trans (((cell_far (p := ⟨gb692, _, none⟩) NB673_692.out _).trans (((cell_far (p := ⟨gb692, _, none⟩) NB673_692.out _).trans (((cell_far (p := ⟨gb692, _, none⟩) NB673_692.out _).trans (((cell_far (p := ⟨gb692, _, none⟩) NB673_692.out _).trans (hHeld.2.2.2.2.2.2))))))))))))))⟩ (fun hHeld => ?_)
   clear hK K
   refine done_ (done_of HT_.out (by kernel_rfl)) ?_
   have hnb74 := NB649_673.out
   have hnc74 := NB673_649.out
   have hnb75 := NB649_692.out
   have hnc75 := NB692_649.out
   obtain ⟨hcz76_0, hcz76_1, hcz76_2⟩ := cz3_ BK649.out
   obtain ⟨hfz76_0, hfz76_1, hfz76_2⟩ := fz3_ BK649.out
   have hnb77 := NB673_692.out
   have hnc77 := NB692_673.out
   obtain ⟨hcz78_0, hcz78_1, hcz78_2, hcz78_3, hcz78_4, hcz78_5, hcz78_6⟩ := cz7_ BK673.out
   obtain ⟨hfz78_0, hfz78_1, hfz78_2, hfz78_3, hfz78_4, hfz78_5, hfz78_6⟩ := fz7_ BK673.out
   try go_wp2_with (first | ((with_reducible refine gate_callee (f := 22) rfl ?_); refine gl_ (some 51) Try.func22 #[.agg #[.int .i64 a0_0, .slice A0_1 l0_1.length c0_1, .slice A0_2 l0_2.length c0_2], .agg #[.int .i64 t660, .int .i64 t661, .int .i64 t662, .string t663, .slice Ao42 t664.length co42, .slice Ao44 t667.length co44, .slice Ao46 t670.length co46]] ?_; (with_reducible refine (occurrence_Displace.calls a0_0 _ _ l0_1 _ _ l0_2 t660 t661 t662 t663 _ _ t664 _ _ t667 _ _ t670 t693 t694 t695 t696 t697 t700 t703 _ ?side1 ?side2 ?side3 ?side4 ?side5 ?side6 ?side7 ?side8 ?side9 ?side10 A29.out).mono ?_); (case side1 => exact Kd.C_below HR0_1.out bh_); (case side2 => exact HC0_1.out); (case side3 => exact Kd.C_below HR0_2.out bh_); (case side4 => exact HC0_2.out); (case side5 => refine (Kd.R_reads' (e := 3) (base := w.heap.size) (ok := fun k_ => (some k_ ≠ (.slice Ao44 t667.length co44 : Value).ownBlock ∧ (some k_ ≠ (.slice Ao46 t670.length co46 : Value).ownBlock ∧ (some k_ ≠ (.slice Ao66 y677.length co66 : Value).ownBlock ∧ (some k_ ≠ (.slice Ao65 y683.length co65 : Value).ownBlock ∧ some k_ ≠ (.slice Ao64 y689.length co64 : Value).ownBlock))))) (n := t664.length) (c := co42) ?_).2.2; exact (fa_ HO666 BK692)); (case side6 => exact (Kd.R_reads' HO666.out).2.1); (case side7 => refine (Kd.R_reads' (e := 3) (base := w.heap.size) (ok := fun k_ => (some k_ ≠ (.slice Ao42 t664.length co42 : Value).ownBlock ∧ (some k_ ≠ (.slice Ao46 t670.length co46 : Value).ownBlock ∧ (some k_ ≠ (.slice Ao66 y677.length co66 : Value).ownBlock ∧ (some k_ ≠ (.slice Ao65 y683.length co65 : Value).ownBlock ∧ some k_ ≠ (.slice Ao64 y689.length co64 : Value).ownBlock))))) (n := t667.length) (c := co44) ?_).2.2; exact (fa_ HO669 BK692)); (case side8 => exact (Kd.R_reads' HO669.out).2.1); (case side9 => refine (Kd.R_reads' (e := 3) (base := w.heap.size) (ok := fun k_ => (some k_ ≠ (.slice Ao42 t664.length co42 : Value).ownBlock ∧ (some k_ ≠ (.slice Ao44 t667.length co44 : Value).ownBlock ∧ (some k_ ≠ (.slice Ao66 y677.length co66 : Value).ownBlock ∧ (some k_ ≠ (.slice Ao65 y683.length co65 : Value).ownBlock ∧ some k_ ≠ (.slice Ao64 y689.length co64 : Value).ownBlock))))) (n := t670.length) (c := co46) ?_).2.2; exact (fa_ HO672 BK692)); (case side10 => exact (Kd.R_reads' HO672.out).2.1); rintro e w79 ⟨v698, v701, v704, rfl, ho0, ho1, ho2, hb⟩; refine ⟨_, rfl, ?_⟩; replace HO656 := am_ (Kd.R_below (fa_ HO656 BK692) hb); replace HO659 := am_ (Kd.R_below (fa_ HO659 BK692) hb); have HO699 := am_ (Kd.R_lower (Kd.R_new' (Kd.R_new' (Kd.R_new' (Kd.R_new' (Kd.R_new' (Kd.R_new' ho0 (Kd.R_lt (fa_ HO666 BK692))) (Kd.R_lt (fa_ HO669 BK692))) (Kd.R_lt (fa_ HO672 BK692))) (Kd.R_lt (fa_ HO679 BK692))) (Kd.R_lt (fa_ HO685 BK692))) (Kd.R_lt (fa_ HO691 BK692))) bz_); have HO702 := am_ (Kd.R_lower (Kd.R_new' (Kd.R_new' (Kd.R_new' (Kd.R_new' (Kd.R_new' (Kd.R_new' ho1 (Kd.R_lt (fa_ HO666 BK692))) (Kd.R_lt (fa_ HO669 BK692))) (Kd.R_lt (fa_ HO672 BK692))) (Kd.R_lt (fa_ HO679 BK692))) (Kd.R_lt (fa_ HO685 BK692))) (Kd.R_lt (fa_ HO691 BK692))) bz_); have HO705 := am_ (Kd.R_lower (Kd.R_new' (Kd.R_new' (Kd.R_new' (Kd.R_new' (Kd.R_new' (Kd.R_new' ho2 (Kd.R_lt (fa_ HO666 BK692))) (Kd.R_lt (fa_ HO669 BK692))) (Kd.R_lt (fa_ HO672 BK692))) (Kd.R_lt (fa_ HO679 BK692))) (Kd.R_lt (fa_ HO685 BK692))) (Kd.R_lt (fa_ HO691 BK692))) bz_); replace HO666 := am_ (Kd.R_mono (Kd.R_told (Kd.R_told (Kd.R_told (Kd.R_old (fa_ HO666 BK692) hb) (Kd.R_base ho0)) (Kd.R_base ho1)) (Kd.R_base ho2)) (fun _ h_ => h_.1)); replace HO669 := am_ (Kd.R_mono (Kd.R_told (Kd.R_told (Kd.R_told (Kd.R_old (fa_ HO669 BK692) hb) (Kd.R_base ho0)) (Kd.R_base ho1)) (Kd.R_base ho2)) (fun _ h_ => h_.1)); replace HO672 := am_ (Kd.R_mono (Kd.R_told (Kd.R_told (Kd.R_told (Kd.R_old (fa_ HO672 BK692) hb) (Kd.R_base ho0)) (Kd.R_base ho1)) (Kd.R_base ho2)) (fun _ h_ => h_.1)); replace HO679 := am_ (Kd.R_mono (Kd.R_told (Kd.R_told (Kd.R_told (Kd.R_old (fa_ HO679 BK692) hb) (Kd.R_base ho0)) (Kd.R_base ho1)) (Kd.R_base ho2)) (fun _ h_ => h_.1)); replace HO685 := am_ (Kd.R_mono (Kd.R_told (Kd.R_told (Kd.R_told (Kd.R_old (fa_ HO685 BK692) hb) (Kd.R_base ho0)) (Kd.R_base ho1)) (Kd.R_base ho2)) (fun _ h_ => h_.1)); replace HO691 := am_ (Kd.R_mono (Kd.R_told (Kd.R_told (Kd.R_told (Kd.R_old (fa_ HO691 BK692) hb) (Kd.R_base ho0)) (Kd.R_base ho1)) (Kd.R_base ho2)) (fun _ h_ => h_.1)); replace BK649 := am_ (blk_below (g := gb649) (o := .cells #[.int .i64 a0_0, .slice A0_1 l0_1.length c0_1, .slice A0_2 l0_2.length c0_2] 36 (0, 0)) (by refine bp_ ?_; refine blk_far ?_ NB649_692.out _; refine bp_ ?_; refine blk_far ?_ NB649_692.out _; refine bp_ ?_; refine blk_far ?_ NB649_692.out _; refine bp_ ?_; refine blk_far ?_ NB649_692.out _; refine bp_ ?_; refine blk_far ?_ NB649_692.out _; refine bp_ ?_; refine blk_far ?_ NB649_692.out _; refine bp_ ?_; refine blk_far ?_ NB649_692.out _; exact bk_ BK649.out) hb); replace BK673 := am_ (blk_below (g := gb673) (o := .cells #[.int .i64 t660, .int .i64 t661, .int .i64 t662, .string t663, .slice Ao42 t664.length co42, .slice Ao44 t667.length co44, .slice Ao46 t670.length co46] 42 (0, 0)) (by refine bp_ ?_; refine blk_far ?_ NB673_692.out _; refine bp_ ?_; refine blk_far ?_ NB673_692.out _; refine bp_ ?_; refine blk_far ?_ NB673_692.out _; refine bp_ ?_; refine blk_far ?_ NB673_692.out _; refine bp_ ?_; refine blk_far ?_ NB673_692.out _; refine bp_ ?_; refine blk_far ?_ NB673_692.out _; refine bp_ ?_; refine blk_far ?_ NB673_692.out _; exact bk_ BK673.out) hb); replace BK692 := am_ (blk_below (g := gb692) (o := .cells #[.int .i64 0, .int .i64 0, .int .i64 0, .string (⟨#[]⟩ : ByteArray), .slice Ao66 y677.length co66, .slice Ao65 y683.length co65, .slice Ao64 y689.length co64] 46 (0, 0)) (by refine bp_ ?_; refine blk_put (cs := #[.int .i64 0, .int .i64 0, .int .i64 0, .string (⟨#[]⟩ : ByteArray), .slice Ao66 y677.length co66, .slice Ao65 y683.length co65, .slice none 0 0]) ?_ 6 _ rfl; refine bp_ ?_; refine blk_put (cs := #[.int .i64 0, .int .i64 0, .int .i64 0, .string (⟨#[]⟩ : ByteArray), .slice Ao66 y677.length co66, .slice none 0 0, .slice none 0 0]) ?_ 5 _ rfl; refine bp_ ?_; refine blk_put (cs := #[.int .i64 0, .int .i64 0, .int .i64 0, .string (⟨#[]⟩ : ByteArray), .slice none 0 0, .slice none 0 0, .slice none 0 0]) ?_ 4 _ rfl; refine bp_ ?_; refine blk_put (cs := #[.int .i64 0, .int .i64 0, .int .i64 0, .string (⟨#[]⟩ : ByteArray), .slice none 0 0, .slice none 0 0, .slice none 0 0]) ?_ 3 _ rfl; refine bp_ ?_; refine blk_put (cs := #[.int .i64 0, .int .i64 0, .int .i64 0, .string (⟨#[]⟩ : ByteArray), .slice none 0 0, .slice none 0 0, .slice none 0 0]) ?_ 2 _ rfl; refine bp_ ?_; refine blk_put (cs := #[.int .i64 0, .int .i64 0, .int .i64 0, .string (⟨#[]⟩ : ByteArray), .slice none 0 0, .slice none 0 0, .slice none 0 0]) ?_ 1 _ rfl; refine bp_ ?_; refine blk_put (cs := #[.int .i64 0, .int .i64 0, .int .i64 0, .string (⟨#[]⟩ : ByteArray), .slice none 0 0, .slice none 0 0, .slice none 0 0]) ?_ 0 _ rfl; exact bk_ BK692.out) hb); replace HB := bt_ hb; (try clear hb); (try clear ho0); (try clear ho1); (try clear ho2)) | ((with_reducible refine gate_dst (N := 9) rfl ?_); (try (refine gate_guard (by rfl) ?_; dsimp only)); refine be_ (N := 9) (cs := #[.int .i64 0, .int .i64 0, .int .i64 0, .string (⟨#[]⟩ : ByteArray), .slice none 0 0, .slice none 0 0, .slice none 0 0]) (t := 42) ?_; intro gb706 hg w80 hbox hb; replace HO656 := rw_ HO656 hb; replace HO659 := rw_ HO659 hb; replace HO666 := rw_ HO666 hb; replace HO669 := rw_ HO669 hb; replace HO672 := rw_ HO672 hb; replace HO679 := rw_ HO679 hb; replace HO685 := rw_ HO685 hb; replace HO691 := rw_ HO691 hb; replace HO699 := rw_ HO699 hb; replace HO702 := rw_ HO702 hb; replace HO705 := rw_ HO705 hb; have BK706 := am_ (hbox); have GW706 := gw_ (w := w) hg; have GE706 := gw_ (w := w) hg; replace HB := bt_ hb; have NB649_706 := ne_ hg BK649; have NB706_649 := nf_ hg BK649; replace BK649 := bw_ BK649 hb; have NB673_706 := ne_ hg BK673; have NB706_673 := nf_ hg BK673; replace BK673 := bw_ BK673 hb; have NB692_706 := ne_ hg BK692; have NB706_692 := nf_ hg BK692; replace BK692 := bw_ BK692 hb; clear hb hbox hg; have hnb81 := NB706_649.out; have hnc81 := NB649_706.out; have hnb82 := NB706_673.out; have hnc82 := NB673_706.out; have hnb83 := NB706_692.out; have hnc83 := NB692_706.out; obtain ⟨hcz84_0, hcz84_1, hcz84_2, hcz84_3, hcz84_4, hcz84_5, hcz84_6⟩ := cz7_ BK706.out; obtain ⟨hfz84_0, hfz84_1, hfz84_2, hfz84_3, hfz84_4, hfz84_5, hfz84_6⟩ := fz7_ BK706.out; obtain ⟨Ao85, co85, eo85⟩ := Kd.R_slice HO699.out; subst eo85; obtain ⟨Ao86, co86, eo86⟩ := Kd.R_slice HO702.out; subst eo86; obtain ⟨Ao87, co87, eo87⟩ := Kd.R_slice HO705.out; subst eo87))
   go_loopg [10] kj3 (fun kq v10 w' => ∃ (x10_2 : Int) (x674004_2 : List Int) (x674005_2 : List Int) (x674006_2 : List Int) (x693004_2 : List Int) (x693005_2 : List Int) (x693006_2 : List Int) (x707004_2 : List Int) (x707005_2 : List Int) (x707006_2 : List Int) (u674004 : Value) (u674005 : Value) (u674006 : Value) (u693004 : Value) (u693005 : Value) (u693006 : Value) (u707004 : Value) (u707005 : Value) (u707006 : Value), v10 = .int .i64 x10_2 ∧ Aside0 (computuslaw21_OccurrenceDisplaces.l0 kq x10_2 a0_0 l0_1 l0_2 t660 t661 t662 t663 x674004_2 x674005_2 x674006_2 0 0 0 (⟨#[]⟩ : ByteArray) x693004_2 x693005_2 x693006_2 t693 t694 t695 t696 x707004_2 x707005_2 x707006_2 = some r) ∧ Aside0 (kq ≤ kj3) ∧ Aside0 (Kd.R (Kd.int .i64) 3 w' w.heap.size (fun k_ => some k_ ≠ (u674005 : Value).ownBlock ∧ some k_ ≠ (u674006 : Value).ownBlock ∧ some k_ ≠ (u693004 : Value).ownBlock ∧ some k_ ≠ (u693005 : Value).ownBlock ∧ some k_ ≠ (u693006 : Value).ownBlock ∧ some k_ ≠ (u707004 : Value).ownBlock ∧ some k_ ≠ (u707005 : Value).ownBlock ∧ some k_ ≠ (u707006 : Value).ownBlock) u674004 x674004_2) ∧ Aside0 (Kd.R (Kd.int .i64) 3 w' w.heap.size (fun k_ => some k_ ≠ (u674004 : Value).ownBlock ∧ some k_ ≠ (u674006 : Value).ownBlock ∧ some k_ ≠ (u693004 : Value).ownBlock ∧ some k_ ≠ (u693005 : Value).ownBlock ∧ some k_ ≠ (u693006 : Value).ownBlock ∧ some k_ ≠ (u707004 : Value).ownBlock ∧ some k_ ≠ (u707005 : Value).ownBlock ∧ some k_ ≠ (u707006 : Value).ownBlock) u674005 x674005_2) ∧ Aside0 (Kd.R (Kd.int .i64) 3 w' w.heap.size (fun k_ => some k_ ≠ (u674004 : Value).ownBlock ∧ some k_ ≠ (u674005 : Value).ownBlock ∧ some k_ ≠ (u693004 : Value).ownBlock ∧ some k_ ≠ (u693005 : Value).ownBlock ∧ some k_ ≠ (u693006 : Value).ownBlock ∧ some k_ ≠ (u707004 : Value).ownBlock ∧ some k_ ≠ (u707005 : Value).ownBlock ∧ some k_ ≠ (u707006 : Value).ownBlock) u674006 x674006_2) ∧ Aside0 (Kd.R (Kd.int .i64) 3 w' w.heap.size (fun k_ => some k_ ≠ (u674004 : Value).ownBlock ∧ some k_ ≠ (u674005 : Value).ownBlock ∧ some k_ ≠ (u674006 : Value).ownBlock ∧ some k_ ≠ (u693005 : Value).ownBlock ∧ some k_ ≠ (u693006 : Value).ownBlock ∧ some k_ ≠ (u707004 : Value).ownBlock ∧ some k_ ≠ (u707005 : Value).ownBlock ∧ some k_ ≠ (u707006 : Value).ownBlock) u693004 x693004_2) ∧ Aside0 (Kd.R (Kd.int .i64) 3 w' w.heap.size (fun k_ => some k_ ≠ (u674004 : Value).ownBlock ∧ some k_ ≠ (u674005 : Value).ownBlock ∧ some k_ ≠ (u674006 : Value).ownBlock ∧ some k_ ≠ (u693004 : Value).ownBlock ∧ some k_ ≠ (u693006 : Value).ownBlock ∧ some k_ ≠ (u707004 : Value).ownBlock ∧ some k_ ≠ (u707005 : Value).ownBlock ∧ some k_ ≠ (u707006 : Value).ownBlock) u693005 x693005_2) ∧ Aside0 (Kd.R (Kd.int .i64) 3 w' w.heap.size (fun k_ => some k_ ≠ (u674004 : Value).ownBlock ∧ some k_ ≠ (u674005 : Value).ownBlock ∧ some k_ ≠ (u674006 : Value).ownBlock ∧ some k_ ≠ (u693004 : Value).ownBlock ∧ some k_ ≠ (u693005 : Value).ownBlock ∧ some k_ ≠ (u707004 : Value).ownBlock ∧ some k_ ≠ (u707005 : Value).ownBlock ∧ some k_ ≠ (u707006 : Value).ownBlock) u693006 x693006_2) ∧ Aside0 (Kd.R (Kd.int .i64) 3 w' w.heap.size (fun k_ => some k_ ≠ (u674004 : Value).ownBlock ∧ some k_ ≠ (u674005 : Value).ownBlock ∧ some k_ ≠ (u674006 : Value).ownBlock ∧ some k_ ≠ (u693004 : Value).ownBlock ∧ some k_ ≠ (u693005 : Value).ownBlock ∧ some k_ ≠ (u693006 : Value).ownBlock ∧ some k_ ≠ (u707005 : Value).ownBlock ∧ some k_ ≠ (u707006 : Value).ownBlock) u707004 x707004_2) ∧ Aside0 (Kd.R (Kd.int .i64) 3 w' w.heap.size (fun k_ => some k_ ≠ (u674004 : Value).ownBlock ∧ some k_ ≠ (u674005 : Value).ownBlock ∧ some k_ ≠ (u674006 : Value).ownBlock ∧ some k_ ≠ (u693004 : Value).ownBlock ∧ some k_ ≠ (u693005 : Value).ownBlock ∧ some k_ ≠ (u693006 : Value).ownBlock ∧ some k_ ≠ (u707004 : Value).ownBlock ∧ some k_ ≠ (u707006 : Value).ownBlock) u707005 x707005_2) ∧ Aside0 (Kd.R (Kd.int .i64) 3 w' w.heap.size (fun k_ => some k_ ≠ (u674004 : Value).ownBlock ∧ some k_ ≠ (u674005 : Value).ownBlock ∧ some k_ ≠ (u674006 : Value).ownBlock ∧ some k_ ≠ (u693004 : Value).ownBlock ∧ some k_ ≠ (u693005 : Value).ownBlock ∧ some k_ ≠ (u693006 : Value).ownBlock ∧ some k_ ≠ (u707004 : Value).ownBlock ∧ some k_ ≠ (u707005 : Value).ownBlock) u707006 x707006_2) ∧ Aside0 (w'.heap[gb649]? = some (.cells #[.int .i64 a0_0, (.slice A0_1 l0_1.length c0_1), (.slice A0_2 l0_2.length c0_2)] 36 (0, 0))) ∧ Aside0 (w'.heap[gb673]? = some (.cells #[.int .i64 t660, .int .i64 t661, .int .i64 t662, .string t663, u674004, u674005, u674006] 42 (0, 0))) ∧ Aside0 (w'.heap[gb692]? = some (.cells #[.int .i64 0, .int .i64 0, .int .i64 0, .string (⟨#[]⟩ : ByteArray), u693004, u693005, u693006] 46 (0, 0))) ∧ Aside0 (w'.heap[gb706]? = some (.cells #[.int .i64 t693, .int .i64 t694, .int .i64 t695, .string t696, u707004, u707005, u707006] 42 (0, 0))) ∧ Aside0 (Below w.heap.size w w'))
   case atStart => exact ⟨(0), (t664), (t667), (t670), (y677), (y683), (y689), (t697), (t700), (t703), (.slice Ao42 t664.length co42), (.slice Ao44 t667.length co44), (.slice Ao46 t670.length co46), (.slice Ao66 y677.length co66), (.slice Ao65 y683.length co65), (.slice Ao64 y689.length co64), (.slice Ao85 t697.length co85), (.slice Ao86 t700.length co86), (.slice Ao87 t703.length co87), rs_, H', ⟨Nat.le_refl _⟩, ⟨fa_ HO666 BK706⟩, ⟨fa_ HO669 BK706⟩, ⟨fa_ HO672 BK706⟩, ⟨fa_ HO679 BK706⟩, ⟨fa_ HO685 BK706⟩, ⟨fa_ HO691 BK706⟩, ⟨fa_ HO699 BK706⟩, ⟨fa_ HO702 BK706⟩, ⟨fa_ HO705 BK706⟩, ⟨bf1_ NB649_706 BK649⟩, ⟨bf1_ NB673_706 BK673⟩, ⟨bf1_ NB692_706 BK692⟩, ⟨by refine bp_ ?_; refine blk_put (cs := #[.int .i64 t693, .int .i64 t694, .int .i64 t695, .string t696, .slice Ao85 t697.length co85, .slice Ao86 t700.length co86, .slice none 0 0]) ?_ 6 _ rfl; refine bp_ ?_; refine blk_put (cs := #[.int .i64 t693, .int .i64 t694, .int .i64 t695, .string t696, .slice Ao85 t697.length co85, .slice none 0 0, .slice none 0 0]) ?_ 5 _ rfl; refine bp_ ?_; refine blk_put (cs := #[.int .i64 t693, .int .i64 t694, .int .i64 t695, .string t696, .slice none 0 0, .slice none 0 0, .slice none 0 0]) ?_ 4 _ rfl; refine bp_ ?_; refine blk_put (cs := #[.int .i64 t693, .int .i64 t694, .int .i64 t695, .string (⟨#[]⟩ : ByteArray), .slice none 0 0, .slice none 0 0, .slice none 0 0]) ?_ 3 _ rfl; refine bp_ ?_; refine blk_put (cs := #[.int .i64 t693, .int .i64 t694, .int .i64 0, .string (⟨#[]⟩ : ByteArray), .slice none 0 0, .slice none 0 0, .slice none 0 0]) ?_ 2 _ rfl; refine bp_ ?_; refine blk_put (cs := #[.int .i64 t693, .int .i64 0, .int .i64 0, .string (⟨#[]⟩ : ByteArray), .slice none 0 0, .slice none 0 0, .slice none 0 0]) ?_ 1 _ rfl; refine bp_ ?_; refine blk_put (cs := #[.int .i64 0, .int .i64 0, .int .i64 0, .string (⟨#[]⟩ : ByteArray), .slice none 0 0, .slice none 0 0, .slice none 0 0]) ?_ 0 _ rfl; exact bk_ BK706.out⟩, ⟨bh_⟩⟩
   case round =>
    clear H'
    obtain ⟨x10_2, x674004_2, x674005_2, x674006_2, x693004_2, x693005_2, x693006_2, x707004_2, x707005_2, x707006_2, u674004, u674005, u674006, u693004, u693005, u693006, u707004, u707005, u707006, rfl, HA, HK2, HO_674004, HO_674005, HO_674006, HO_693004, HO_693005, HO_693006, HO_707004, HO_707005, HO_707006, BK649, BK673, BK692, BK706, HB⟩ := hrel
    cases gk with
    | zero => exact absurd HA.out (by simp [computuslaw21_OccurrenceDisplaces.l0])
    | succ k2 =>
     have H := HA.out
     clear HA
     simp only [computuslaw21_OccurrenceDisplaces.l0] at H
     by_cases c88 : x10_2 < (x707004_2.length : Int)
     ·rw [if_pos c88] at H
      have c88b0 : decide (x10_2 < (x707004_2.length : Int)) = true := decide_eq_true c88
      clear c88
      by_cases c89 : 0 ≤ x10_2
      rotate_left
      ·rw [if_neg c89] at H
       exact absurd H (by simp)
      rw [if_pos c89] at H
      have c89b0 : decide (0 ≤ x10_2) = true := decide_eq_true c89
      clear c89
      obtain ⟨y708, hy708⟩ : ∃ y_ : List Int, y_ = (x707004_2.set (x10_2 : Int).toNat (wrap64 ((rd x707004_2 x10_2) + 1))) := ⟨_, rfl⟩
      replace H : (computuslaw21_OccurrenceDisplaces.l0 k2 (wrap64 (x10_2 + 1)) a0_0 l0_1 l0_2 t660 t661 t662 t663 x674004_2 x674005_2 x674006_2 0 0 0 (⟨#[]⟩ : ByteArray) x693004_2 x693005_2 x693006_2 t693 t694 t695 t696 y708 x707005_2 x707006_2) = some r := by first | (rw [hy708]; with_reducible exact H) | (have H2_ := (Option.bind_some _ _).symm.trans H; rw [hy708]; with_reducible exact H2_) | (have H2_ := (Option.bind_some _ _).symm.trans H; with_reducible exact H2_) | with_reducible exact H | (rw [hy708]; exact H) | exact H
      have Ny708 := am_ hy708
      clear hy708
      have H' := am_ H
      clear H
      have hnb91 := NB706_649.out
      have hnc91 := NB649_706.out
      have hnb92 := NB706_673.out
      have hnc92 := NB673_706.out
      have hnb93 := NB706_692.out
      have hnc93 := NB692_706.out
      obtain ⟨hcz94_0, hcz94_1, hcz94_2, hcz94_3, hcz94_4, hcz94_5, hcz94_6⟩ := cz7_ BK706.out
      obtain ⟨hfz94_0, hfz94_1, hfz94_2, hfz94_3, hfz94_4, hfz94_5, hfz94_6⟩ := fz7_ BK706.out
      obtain ⟨Ao95, co95, eo95⟩ := Kd.R_slice HO_707004.out
      subst eo95
      have p707 : 0 ≤ (x10_2 : Int) := of_decide_eq_true as_
      have q707 : x10_2 < (x707004_2.length : Int) := of_decide_eq_true as_
      obtain ⟨ad707, e707, hx707_0⟩ := Kd.at_int (Kd.R_reads' HO_707004.out).2.2 x10_2 p707 q707
      cases e707
      replace p707 := eq_true p707
      replace q707 := eq_true q707
      have p90 : 0 ≤ (x10_2 : Int) := of_decide_eq_true as_
      have q90 : (x10_2 : Int) < ((x707004_2.length : Int) : Int) := of_decide_eq_true as_
      obtain ⟨go90, co90, eo90, gb90, gl90, cl90, HG90⟩ := Kd.R_form HO_707004.out (by omega)
      (first | cases eo90 | (injection eo90 with ea_ en_ ec_; (first | subst ea_ | (injection ea_ with ea_; subst ea_)); subst ec_; clear en_))
      have GB90 := am_ gb90
      have GG90 := am_ HG90
      clear gb90 gl90 HG90
      (first | simp only [add_plain] at hx707_0 | skip)
      obtain ⟨hx90_0, hf90_0⟩ := Kd.R_celln 0 HO_707004.out (x10_2 : Int) p90 q90
      replace p90 := eq_true p90
      replace q90 := eq_true q90
      have HP96 := Kd.R_putg HO_707004.out (x10_2 : Int) (wrap64 ((rd x707004_2 x10_2) + 1))
      go_wp2_with (first | ((with_reducible refine gate_store (t := 3) (p := 65) rfl ?_); refine store_event (t := 3) (p := 65) (v := ?vo_w97) (w1 := (wr.setCell ⟨go90, (x10_2 : Int).toNat, none⟩ (.int .i64 (wrap64 ((rd x707004_2 x10_2) + 1))))) ?hg ?ho ?hn ?hr ?_; (case ho => rfl); (case hg => rfl); (case hn => rfl); (case hr => first | (go_simp; done) | (go_simp; rfl)); intro w97 hw; have hg : wr.grownBy w97 (some go90) := (by rw [hw]; exact HP96.2); have hp_ : Kd.R (Kd.int .i64) 3 w97 w.heap.size (fun k_ => some k_ ≠ (u674004 : Value).ownBlock ∧ some k_ ≠ (u674005 : Value).ownBlock ∧ some k_ ≠ (u674006 : Value).ownBlock ∧ some k_ ≠ (u693004 : Value).ownBlock ∧ some k_ ≠ (u693005 : Value).ownBlock ∧ some k_ ≠ (u693006 : Value).ownBlock ∧ some k_ ≠ (u707005 : Value).ownBlock ∧ some k_ ≠ (u707006 : Value).ownBlock) (.slice (some ⟨go90, 0, none⟩) x707004_2.length co95) y708 := (by rw [hw, Ny708.out]; exact HP96.1); clear HP96; replace HO_674004 := am_ (Kd.R_after (v := (.slice (some ⟨go90, 0, none⟩) x707004_2.length co95)) (v1 := (.slice (some ⟨go90, 0, none⟩) x707004_2.length co95)) (ok := (fun k_ => some k_ ≠ (u674005 : Value).ownBlock ∧ some k_ ≠ (u674006 : Value).ownBlock ∧ some k_ ≠ (u693004 : Value).ownBlock ∧ some k_ ≠ (u693005 : Value).ownBlock ∧ some k_ ≠ (u693006 : Value).ownBlock ∧ some k_ ≠ (u707005 : Value).ownBlock ∧ some k_ ≠ (u707006 : Value).ownBlock)) (by (with_reducible repeat (first | apply Kd.R_alloc | apply Kd.R_drewN | apply Kd.R_drew)); exact Kd.R_mono HO_674004.out (fun _ hk => ⟨⟨hk.1, ⟨hk.2.1, ⟨hk.2.2.1, ⟨hk.2.2.2.1, ⟨hk.2.2.2.2.1, ⟨hk.2.2.2.2.2.2.1, hk.2.2.2.2.2.2.2⟩⟩⟩⟩⟩⟩, hk.2.2.2.2.2.1⟩)) hg (.inl rfl)); replace HO_674005 := am_ (Kd.R_after (v := (.slice (some ⟨go90, 0, none⟩) x707004_2.length co95)) (v1 := (.slice (some ⟨go90, 0, none⟩) x707004_2.length co95)) (ok := (fun k_ => some k_ ≠ (u674004 : Value).ownBlock ∧ some k_ ≠ (u674006 : Value).ownBlock ∧ some k_ ≠ (u693004 : Value).ownBlock ∧ some k_ ≠ (u693005 : Value).ownBlock ∧ some k_ ≠ (u693006 : Value).ownBlock ∧ some k_ ≠ (u707005 : Value).ownBlock ∧ some k_ ≠ (u707006 : Value).ownBlock)) (by (with_reducible repeat (first | apply Kd.R_alloc | apply Kd.R_drewN | apply Kd.R_drew)); exact Kd.R_mono HO_674005.out (fun _ hk => ⟨⟨hk.1, ⟨hk.2.1, ⟨hk.2.2.1, ⟨hk.2.2.2.1, ⟨hk.2.2.2.2.1, ⟨hk.2.2.2.2.2.2.1, hk.2.2.2.2.2.2.2⟩⟩⟩⟩⟩⟩, hk.2.2.2.2.2.1⟩)) hg (.inl rfl)); replace HO_674006 := am_ (Kd.R_after (v := (.slice (some ⟨go90, 0, none⟩) x707004_2.length co95)) (v1 := (.slice (some ⟨go90, 0, none⟩) x707004_2.length co95)) (ok := (fun k_ => some k_ ≠ (u674004 : Value).ownBlock ∧ some k_ ≠ (u674005 : Value).ownBlock ∧ some k_ ≠ (u693004 : Value).ownBlock ∧ some k_ ≠ (u693005 : Value).ownBlock ∧ some k_ ≠ (u693006 : Value).ownBlock ∧ some k_ ≠ (u707005 : Value).ownBlock ∧ some k_ ≠ (u707006 : Value).ownBlock)) (by (with_reducible repeat (first | apply Kd.R_alloc | apply Kd.R_drewN | apply Kd.R_drew)); exact Kd.R_mono HO_674006.out (fun _ hk => ⟨⟨hk.1, ⟨hk.2.1, ⟨hk.2.2.1, ⟨hk.2.2.2.1, ⟨hk.2.2.2.2.1, ⟨hk.2.2.2.2.2.2.1, hk.2.2.2.2.2.2.2⟩⟩⟩⟩⟩⟩, hk.2.2.2.2.2.1⟩)) hg (.inl rfl)); replace HO_693004 := am_ (Kd.R_after (v := (.slice (some ⟨go90, 0, none⟩) x707004_2.length co95)) (v1 := (.slice (some ⟨go90, 0, none⟩) x707004_2.length co95)) (ok := (fun k_ => some k_ ≠ (u674004 : Value).ownBlock ∧ some k_ ≠ (u674005 : Value).ownBlock ∧ some k_ ≠ (u674006 : Value).ownBlock ∧ some k_ ≠ (u693005 : Value).ownBlock ∧ some k_ ≠ (u693006 : Value).ownBlock ∧ some k_ ≠ (u707005 : Value).ownBlock ∧ some k_ ≠ (u707006 : Value).ownBlock)) (by (with_reducible repeat (first | apply Kd.R_alloc | apply Kd.R_drewN | apply Kd.R_drew)); exact Kd.R_mono HO_693004.out (fun _ hk => ⟨⟨hk.1, ⟨hk.2.1, ⟨hk.2.2.1, ⟨hk.2.2.2.1, ⟨hk.2.2.2.2.1, ⟨hk.2.2.2.2.2.2.1, hk.2.2.2.2.2.2.2⟩⟩⟩⟩⟩⟩, hk.2.2.2.2.2.1⟩)) hg (.inl rfl)); replace HO_693005 := am_ (Kd.R_after (v := (.slice (some ⟨go90, 0, none⟩) x707004_2.length co95)) (v1 := (.slice (some ⟨go90, 0, none⟩) x707004_2.length co95)) (ok := (fun k_ => some k_ ≠ (u674004 : Value).ownBlock ∧ some k_ ≠ (u674005 : Value).ownBlock ∧ some k_ ≠ (u674006 : Value).ownBlock ∧ some k_ ≠ (u693004 : Value).ownBlock ∧ some k_ ≠ (u693006 : Value).ownBlock ∧ some k_ ≠ (u707005 : Value).ownBlock ∧ some k_ ≠ (u707006 : Value).ownBlock)) (by (with_reducible repeat (first | apply Kd.R_alloc | apply Kd.R_drewN | apply Kd.R_drew)); exact Kd.R_mono HO_693005.out (fun _ hk => ⟨⟨hk.1, ⟨hk.2.1, ⟨hk.2.2.1, ⟨hk.2.2.2.1, ⟨hk.2.2.2.2.1, ⟨hk.2.2.2.2.2.2.1, hk.2.2.2.2.2.2.2⟩⟩⟩⟩⟩⟩, hk.2.2.2.2.2.1⟩)) hg (.inl rfl)); replace HO_693006 := am_ (Kd.R_after (v := (.slice (some ⟨go90, 0, none⟩) x707004_2.length co95)) (v1 := (.slice (some ⟨go90, 0, none⟩) x707004_2.length co95)) (ok := (fun k_ => some k_ ≠ (u674004 : Value).ownBlock ∧ some k_ ≠ (u674005 : Value).ownBlock ∧ some k_ ≠ (u674006 : Value).ownBlock ∧ some k_ ≠ (u693004 : Value).ownBlock ∧ some k_ ≠ (u693005 : Value).ownBlock ∧ some k_ ≠ (u707005 : Value).ownBlock ∧ some k_ ≠ (u707006 : Value).ownBlock)) (by (with_reducible repeat (first | apply Kd.R_alloc | apply Kd.R_drewN | apply Kd.R_drew)); exact Kd.R_mono HO_693006.out (fun _ hk => ⟨⟨hk.1, ⟨hk.2.1, ⟨hk.2.2.1, ⟨hk.2.2.2.1, ⟨hk.2.2.2.2.1, ⟨hk.2.2.2.2.2.2.1, hk.2.2.2.2.2.2.2⟩⟩⟩⟩⟩⟩, hk.2.2.2.2.2.1⟩)) hg (.inl rfl)); replace HO_707005 := am_ (Kd.R_after (v := (.slice (some ⟨go90, 0, none⟩) x707004_2.length co95)) (v1 := (.slice (some ⟨go90, 0, none⟩) x707004_2.length co95)) (ok := (fun k_ => some k_ ≠ (u674004 : Value).ownBlock ∧ some k_ ≠ (u674005 : Value).ownBlock ∧ some k_ ≠ (u674006 : Value).ownBlock ∧ some k_ ≠ (u693004 : Value).ownBlock ∧ some k_ ≠ (u693005 : Value).ownBlock ∧ some k_ ≠ (u693006 : Value).ownBlock ∧ some k_ ≠ (u707006 : Value).ownBlock)) (by (with_reducible repeat (first | apply Kd.R_alloc | apply Kd.R_drewN | apply Kd.R_drew)); exact Kd.R_mono HO_707005.out (fun _ hk => ⟨⟨hk.1, ⟨hk.2.1, ⟨hk.2.2.1, ⟨hk.2.2.2.1, ⟨hk.2.2.2.2.1, ⟨hk.2.2.2.2.2.1, hk.2.2.2.2.2.2.2⟩⟩⟩⟩⟩⟩, hk.2.2.2.2.2.2.1⟩)) hg (.inl rfl)); replace HO_707006 := am_ (Kd.R_after (v := (.slice (some ⟨go90, 0, none⟩) x707004_2.length co95)) (v1 := (.slice (some ⟨go90, 0, none⟩) x707004_2.length co95)) (ok := (fun k_ => some k_ ≠ (u674004 : Value).ownBlock ∧ some k_ ≠ (u674005 : Value).ownBlock ∧ some k_ ≠ (u674006 : Value).ownBlock ∧ some k_ ≠ (u693004 : Value).ownBlock ∧ some k_ ≠ (u693005 : Value).ownBlock ∧ some k_ ≠ (u693006 : Value).ownBlock ∧ some k_ ≠ (u707005 : Value).ownBlock)) (by (with_reducible repeat (first | apply Kd.R_alloc | apply Kd.R_drewN | apply Kd.R_drew)); exact Kd.R_mono HO_707006.out (fun _ hk => ⟨⟨hk.1, ⟨hk.2.1, ⟨hk.2.2.1, ⟨hk.2.2.2.1, ⟨hk.2.2.2.2.1, ⟨hk.2.2.2.2.2.1, hk.2.2.2.2.2.2.2⟩⟩⟩⟩⟩⟩, hk.2.2.2.2.2.2.1⟩)) hg (.inl rfl)); replace BK649 := am_ (blk_grown (bk_ BK649.out) hg (Kd.R_ne HO_707004.out BK649.out (by decide))); replace BK673 := am_ (blk_grown (bk_ BK673.out) hg (Kd.R_ne HO_707004.out BK673.out (by decide))); replace BK692 := am_ (blk_grown (bk_ BK692.out) hg (Kd.R_ne HO_707004.out BK692.out (by decide))); replace BK706 := am_ (blk_grown (bk_ BK706.out) hg (Kd.R_ne HO_707004.out BK706.out (by decide))); replace HO_707004 := am_ (hp_); replace HB := am_ ((by rw [hw]; exact below_set (HB.out) GB90.out : Below w.heap.size w w97)); clear hg hw hp_) | ((with_reducible refine gate_store (t := 3) (p := 65) rfl ?_); refine store_event (t := 3) (p := 65) (v := ?vo_w97) (w1 := (wr.setCell ⟨go90, (x10_2 : Int).toNat, none⟩ (.int .i64 (wrap64 ((rd x707004_2 x10_2) + 1))))) ?hg ?ho ?hn ?hr ?_; (case ho => rfl); (case hg => rfl); (case hn => rfl); (case hr => first | (go_simp; done) | (go_simp; rfl)); intro w97 hw; have hg : wr.grownBy w97 (some go90) := (by rw [hw]; exact ⟨HP96.2.os, HP96.2.tape, HP96.2.output, HP96.2.size, HP96.2.block⟩); have hp_ : Kd.R (Kd.int .i64) 3 w97 w.heap.size (fun k_ => some k_ ≠ (u674004 : Value).ownBlock ∧ some k_ ≠ (u674005 : Value).ownBlock ∧ some k_ ≠ (u674006 : Value).ownBlock ∧ some k_ ≠ (u693004 : Value).ownBlock ∧ some k_ ≠ (u693005 : Value).ownBlock ∧ some k_ ≠ (u693006 : Value).ownBlock ∧ some k_ ≠ (u707005 : Value).ownBlock ∧ some k_ ≠ (u707006 : Value).ownBlock) (.slice (some ⟨go90, 0, none⟩) x707004_2.length co95) y708 := (by rw [hw, Ny708.out]; exact Kd.R_drewN HP96.1 nd); clear HP96; replace HO_674004 := am_ (Kd.R_after (v := (.slice (some ⟨go90, 0, none⟩) x707004_2.length co95)) (v1 := (.slice (some ⟨go90, 0, none⟩) x707004_2.length co95)) (ok := (fun k_ => some k_ ≠ (u674005 : Value).ownBlock ∧ some k_ ≠ (u674006 : Value).ownBlock ∧ some k_ ≠ (u693004 : Value).ownBlock ∧ some k_ ≠ (u693005 : Value).ownBlock ∧ some k_ ≠ (u693006 : Value).ownBlock ∧ some k_ ≠ (u707005 : Value).ownBlock ∧ some k_ ≠ (u707006 : Value).ownBlock)) (by (with_reducible repeat (first | apply Kd.R_alloc | apply Kd.R_drewN | apply Kd.R_drew)); exact Kd.R_mono HO_674004.out (fun _ hk => ⟨⟨hk.1, ⟨hk.2.1, ⟨hk.2.2.1, ⟨hk.2.2.2.1, ⟨hk.2.2.2.2.1, ⟨hk.2.2.2.2.2.2.1, hk.2.2.2.2.2.2.2⟩⟩⟩⟩⟩⟩, hk.2.2.2.2.2.1⟩)) hg (.inl rfl)); replace HO_674005 := am_ (Kd.R_after (v := (.slice (some ⟨go90, 0, none⟩) x707004_2.length co95)) (v1 := (.slice (some ⟨go90, 0, none⟩) x707004_2.length co95)) (ok := (fun k_ => some k_ ≠ (u674004 : Value).ownBlock ∧ some k_ ≠ (u674006 : Value).ownBlock ∧ some k_ ≠ (u693004 : Value).ownBlock ∧ some k_ ≠ (u693005 : Value).ownBlock ∧ some k_ ≠ (u693006 : Value).ownBlock ∧ some k_ ≠ (u707005 : Value).ownBlock ∧ some k_ ≠ (u707006 : Value).ownBlock)) (by (with_reducible repeat (first | apply Kd.R_alloc | apply Kd.R_drewN | apply Kd.R_drew)); exact Kd.R_mono HO_674005.out (fun _ hk => ⟨⟨hk.1, ⟨hk.2.1, ⟨hk.2.2.1, ⟨hk.2.2.2.1, ⟨hk.2.2.2.2.1, ⟨hk.2.2.2.2.2.2.1, hk.2.2.2.2.2.2.2⟩⟩⟩⟩⟩⟩, hk.2.2.2.2.2.1⟩)) hg (.inl rfl)); replace HO_674006 := am_ (Kd.R_after (v := (.slice (some ⟨go90, 0, none⟩) x707004_2.length co95)) (v1 := (.slice (some ⟨go90, 0, none⟩) x707004_2.length co95)) (ok := (fun k_ => some k_ ≠ (u674004 : Value).ownBlock ∧ some k_ ≠ (u674005 : Value).ownBlock ∧ some k_ ≠ (u693004 : Value).ownBlock ∧ some k_ ≠ (u693005 : Value).ownBlock ∧ some k_ ≠ (u693006 : Value).ownBlock ∧ some k_ ≠ (u707005 : Value).ownBlock ∧ some k_ ≠ (u707006 : Value).ownBlock)) (by (with_reducible repeat (first | apply Kd.R_alloc | apply Kd.R_drewN | apply Kd.R_drew)); exact Kd.R_mono HO_674006.out (fun _ hk => ⟨⟨hk.1, ⟨hk.2.1, ⟨hk.2.2.1, ⟨hk.2.2.2.1, ⟨hk.2.2.2.2.1, ⟨hk.2.2.2.2.2.2.1, hk.2.2.2.2.2.2.2⟩⟩⟩⟩⟩⟩, hk.2.2.2.2.2.1⟩)) hg (.inl rfl)); replace HO_693004 := am_ (Kd.R_after (v := (.slice (some ⟨go90, 0, none⟩) x707004_2.length co95)) (v1 := (.slice (some ⟨go90, 0, none⟩) x707004_2.length co95)) (ok := (fun k_ => some k_ ≠ (u674004 : Value).ownBlock ∧ some k_ ≠ (u674005 : Value).ownBlock ∧ some k_ ≠ (u674006 : Value).ownBlock ∧ some k_ ≠ (u693005 : Value).ownBlock ∧ some k_ ≠ (u693006 : Value).ownBlock ∧ some k_ ≠ (u707005 : Value).ownBlock ∧ some k_ ≠ (u707006 : Value).ownBlock)) (by (with_reducible repeat (first | apply Kd.R_alloc | apply Kd.R_drewN | apply Kd.R_drew)); exact Kd.R_mono HO_693004.out (fun _ hk => ⟨⟨hk.1, ⟨hk.2.1, ⟨hk.2.2.1, ⟨hk.2.2.2.1, ⟨hk.2.2.2.2.1, ⟨hk.2.2.2.2.2.2.1, hk.2.2.2.2.2.2.2⟩⟩⟩⟩⟩⟩, hk.2.2.2.2.2.1⟩)) hg (.inl rfl)); replace HO_693005 := am_ (Kd.R_after (v := (.slice (some ⟨go90, 0, none⟩) x707004_2.length co95)) (v1 := (.slice (some ⟨go90, 0, none⟩) x707004_2.length co95)) (ok := (fun k_ => some k_ ≠ (u674004 : Value).ownBlock ∧ some k_ ≠ (u674005 : Value).ownBlock ∧ some k_ ≠ (u674006 : Value).ownBlock ∧ some k_ ≠ (u693004 : Value).ownBlock ∧ some k_ ≠ (u693006 : Value).ownBlock ∧ some k_ ≠ (u707005 : Value).ownBlock ∧ some k_ ≠ (u707006 : Value).ownBlock)) (by (with_reducible repeat (first | apply Kd.R_alloc | apply Kd.R_drewN | apply Kd.R_drew)); exact Kd.R_mono HO_693005.out (fun _ hk => ⟨⟨hk.1, ⟨hk.2.1, ⟨hk.2.2.1, ⟨hk.2.2.2.1, ⟨hk.2.2.2.2.1, ⟨hk.2.2.2.2.2.2.1, hk.2.2.2.2.2.2.2⟩⟩⟩⟩⟩⟩, hk.2.2.2.2.2.1⟩)) hg (.inl rfl)); replace HO_693006 := am_ (Kd.R_after (v := (.slice (some ⟨go90, 0, none⟩) x707004_2.length co95)) (v1 := (.slice (some ⟨go90, 0, none⟩) x707004_2.length co95)) (ok := (fun k_ => some k_ ≠ (u674004 : Value).ownBlock ∧ some k_ ≠ (u674005 : Value).ownBlock ∧ some k_ ≠ (u674006 : Value).ownBlock ∧ some k_ ≠ (u693004 : Value).ownBlock ∧ some k_ ≠ (u693005 : Value).ownBlock ∧ some k_ ≠ (u707005 : Value).ownBlock ∧ some k_ ≠ (u707006 : Value).ownBlock)) (by (with_reducible repeat (first | apply Kd.R_alloc | apply Kd.R_drewN | apply Kd.R_drew)); exact Kd.R_mono HO_693006.out (fun _ hk => ⟨⟨hk.1, ⟨hk.2.1, ⟨hk.2.2.1, ⟨hk.2.2.2.1, ⟨hk.2.2.2.2.1, ⟨hk.2.2.2.2.2.2.1, hk.2.2.2.2.2.2.2⟩⟩⟩⟩⟩⟩, hk.2.2.2.2.2.1⟩)) hg (.inl rfl)); replace HO_707005 := am_ (Kd.R_after (v := (.slice (some ⟨go90, 0, none⟩) x707004_2.length co95)) (v1 := (.slice (some ⟨go90, 0, none⟩) x707004_2.length co95)) (ok := (fun k_ => some k_ ≠ (u674004 : Value).ownBlock ∧ some k_ ≠ (u674005 : Value).ownBlock ∧ some k_ ≠ (u674006 : Value).ownBlock ∧ some k_ ≠ (u693004 : Value).ownBlock ∧ some k_ ≠ (u693005 : Value).ownBlock ∧ some k_ ≠ (u693006 : Value).ownBlock ∧ some k_ ≠ (u707006 : Value).ownBlock)) (by (with_reducible repeat (first | apply Kd.R_alloc | apply Kd.R_drewN | apply Kd.R_drew)); exact Kd.R_mono HO_707005.out (fun _ hk => ⟨⟨hk.1, ⟨hk.2.1, ⟨hk.2.2.1, ⟨hk.2.2.2.1, ⟨hk.2.2.2.2.1, ⟨hk.2.2.2.2.2.1, hk.2.2.2.2.2.2.2⟩⟩⟩⟩⟩⟩, hk.2.2.2.2.2.2.1⟩)) hg (.inl rfl)); replace HO_707006 := am_ (Kd.R_after (v := (.slice (some ⟨go90, 0, none⟩) x707004_2.length co95)) (v1 := (.slice (some ⟨go90, 0, none⟩) x707004_2.length co95)) (ok := (fun k_ => some k_ ≠ (u674004 : Value).ownBlock ∧ some k_ ≠ (u674005 : Value).ownBlock ∧ some k_ ≠ (u674006 : Value).ownBlock ∧ some k_ ≠ (u693004 : Value).ownBlock ∧ some k_ ≠ (u693005 : Value).ownBlock ∧ some k_ ≠ (u693006 : Value).ownBlock ∧ some k_ ≠ (u707005 : Value).ownBlock)) (by (with_reducible repeat (first | apply Kd.R_alloc | apply Kd.R_drewN | apply Kd.R_drew)); exact Kd.R_mono HO_707006.out (fun _ hk => ⟨⟨hk.1, ⟨hk.2.1, ⟨hk.2.2.1, ⟨hk.2.2.2.1, ⟨hk.2.2.2.2.1, ⟨hk.2.2.2.2.2.1, hk.2.2.2.2.2.2.2⟩⟩⟩⟩⟩⟩, hk.2.2.2.2.2.2.1⟩)) hg (.inl rfl)); replace BK649 := am_ (blk_grown (bk_ BK649.out) hg (Kd.R_ne HO_707004.out BK649.out (by decide))); replace BK673 := am_ (blk_grown (bk_ BK673.out) hg (Kd.R_ne HO_707004.out BK673.out (by decide))); replace BK692 := am_ (blk_grown (bk_ BK692.out) hg (Kd.R_ne HO_707004.out BK692.out (by decide))); replace BK706 := am_ (blk_grown (bk_ BK706.out) hg (Kd.R_ne HO_707004.out BK706.out (by decide))); replace HO_707004 := am_ (hp_); replace HB := am_ ((by rw [hw]; exact pw_below_drewN (below_set (HB.out) GB90.out) nd : Below w.heap.size w w97)); clear hg hw hp_))
      go_roundg k2
      case measure => have := HJ3.out; have := HK2.out; omega
      case rel => exact ⟨(wrap64 (x10_2 + 1)), (x674004_2), (x674005_2), (x674006_2), (x693004_2), (x693005_2), (x693006_2), (y708), (x707005_2), (x707006_2), (u674004), (u674005), (u674006), (u693004), (u693005), (u693006), (.slice (some ⟨go90, 0, none⟩) x707004_2.length co95), (u707005), (u707006), rs_, H', ⟨by have := HJ3.out; have := HK2.out; omega⟩, ⟨by (with_reducible repeat (first | apply Kd.R_alloc | apply Kd.R_drewN | apply Kd.R_drew)); exact Kd.R_mono HO_674004.out (fun _ hk => ⟨hk.1.1, ⟨hk.1.2.1, ⟨hk.1.2.2.1, ⟨hk.1.2.2.2.1, ⟨hk.1.2.2.2.2.1, ⟨hk.2, ⟨hk.1.2.2.2.2.2.1, hk.1.2.2.2.2.2.2⟩⟩⟩⟩⟩⟩⟩)⟩, ⟨by (with_reducible repeat (first | apply Kd.R_alloc | apply Kd.R_drewN | apply Kd.R_drew)); exact Kd.R_mono HO_674005.out (fun _ hk => ⟨hk.1.1, ⟨hk.1.2.1, ⟨hk.1.2.2.1, ⟨hk.1.2.2.2.1, ⟨hk.1.2.2.2.2.1, ⟨hk.2, ⟨hk.1.2.2.2.2.2.1, hk.1.2.2.2.2.2.2⟩⟩⟩⟩⟩⟩⟩)⟩, ⟨by (with_reducible repeat (first | apply Kd.R_alloc | apply Kd.R_drewN | apply Kd.R_drew)); exact Kd.R_mono HO_674006.out (fun _ hk => ⟨hk.1.1, ⟨hk.1.2.1, ⟨hk.1.2.2.1, ⟨hk.1.2.2.2.1, ⟨hk.1.2.2.2.2.1, ⟨hk.2, ⟨hk.1.2.2.2.2.2.1, hk.1.2.2.2.2.2.2⟩⟩⟩⟩⟩⟩⟩)⟩, ⟨by (with_reducible repeat (first | apply Kd.R_alloc | apply Kd.R_drewN | apply Kd.R_drew)); exact Kd.R_mono HO_693004.out (fun _ hk => ⟨hk.1.1, ⟨hk.1.2.1, ⟨hk.1.2.2.1, ⟨hk.1.2.2.2.1, ⟨hk.1.2.2.2.2.1, ⟨hk.2, ⟨hk.1.2.2.2.2.2.1, hk.1.2.2.2.2.2.2⟩⟩⟩⟩⟩⟩⟩)⟩, ⟨by (with_reducible repeat (first | apply Kd.R_alloc | apply Kd.R_drewN | apply Kd.R_drew)); exact Kd.R_mono HO_693005.out (fun _ hk => ⟨hk.1.1, ⟨hk.1.2.1, ⟨hk.1.2.2.1, ⟨hk.1.2.2.2.1, ⟨hk.1.2.2.2.2.1, ⟨hk.2, ⟨hk.1.2.2.2.2.2.1, hk.1.2.2.2.2.2.2⟩⟩⟩⟩⟩⟩⟩)⟩, ⟨by (with_reducible repeat (first | apply Kd.R_alloc | apply Kd.R_drewN | apply Kd.R_drew)); exact Kd.R_mono HO_693006.out (fun _ hk => ⟨hk.1.1, ⟨hk.1.2.1, ⟨hk.1.2.2.1, ⟨hk.1.2.2.2.1, ⟨hk.1.2.2.2.2.1, ⟨hk.2, ⟨hk.1.2.2.2.2.2.1, hk.1.2.2.2.2.2.2⟩⟩⟩⟩⟩⟩⟩)⟩, ⟨rk_ HO_707004.out⟩, ⟨by (with_reducible repeat (first | apply Kd.R_alloc | apply Kd.R_drewN | apply Kd.R_drew)); exact Kd.R_mono HO_707005.out (fun _ hk => ⟨hk.1.1, ⟨hk.1.2.1, ⟨hk.1.2.2.1, ⟨hk.1.2.2.2.1, ⟨hk.1.2.2.2.2.1, ⟨hk.1.2.2.2.2.2.1, ⟨hk.2, hk.1.2.2.2.2.2.2⟩⟩⟩⟩⟩⟩⟩)⟩, ⟨by (with_reducible repeat (first | apply Kd.R_alloc | apply Kd.R_drewN | apply Kd.R_drew)); exact Kd.R_mono HO_707006.out (fun _ hk => ⟨hk.1.1, ⟨hk.1.2.1, ⟨hk.1.2.2.1, ⟨hk.1.2.2.2.1, ⟨hk.1.2.2.2.2.1, ⟨hk.1.2.2.2.2.2.1, ⟨hk.2, hk.1.2.2.2.2.2.2⟩⟩⟩⟩⟩⟩⟩)⟩, ⟨bk_ BK649.out⟩, ⟨bk_ BK673.out⟩, ⟨bk_ BK692.out⟩, ⟨bk_ BK706.out⟩, ⟨bh_⟩⟩
     rw [if_neg c88] at H
     have c88b0 : decide (x10_2 < (x707004_2.length : Int)) = false := decide_eq_false c88
     clear c88
     have H' := am_ H
     clear H
     have hnb98 := NB706_649.out
     have hnc98 := NB649_706.out
     have hnb99 := NB706_673.out
     have hnc99 := NB673_706.out
     have hnb100 := NB706_692.out
     have hnc100 := NB692_706.out
     obtain ⟨hcz101_0, hcz101_1, hcz101_2, hcz101_3, hcz101_4, hcz101_5, hcz101_6⟩ := cz7_ BK706.out
     obtain ⟨hfz101_0, hfz101_1, hfz101_2, hfz101_3, hfz101_4, hfz101_5, hfz101_6⟩ := fz7_ BK706.out
     obtain ⟨Ao102, co102, eo102⟩ := Kd.R_slice HO_707004.out
     subst eo102
     go_wp2
     go_loopg [11] k2 (fun kq v11 w' => ∃ (x11_3 : Int) (x674004_3 : List Int) (x674005_3 : List Int) (x674006_3 : List Int) (x693004_3 : List Int) (x693005_3 : List Int) (x693006_3 : List Int) (x707004_3 : List Int) (x707005_3 : List Int) (x707006_3 : List Int) (u674004 : Value) (u674005 : Value) (u674006 : Value) (u693004 : Value) (u693005 : Value) (u693006 : Value) (u707004 : Value) (u707005 : Value) (u707006 : Value), v11 = .int .i64 x11_3 ∧ Aside0 (computuslaw21_OccurrenceDisplaces.l1 kq x11_3 a0_0 l0_1 l0_2 t660 t661 t662 t663 x674004_3 x674005_3 x674006_3 0 0 0 (⟨#[]⟩ : ByteArray) x693004_3 x693005_3 x693006_3 t693 t694 t695 t696 x707004_3 x707005_3 x707006_3 = some r) ∧ Aside0 (kq ≤ k2) ∧ Aside0 (Kd.R (Kd.int .i64) 3 w' w.heap.size (fun k_ => some k_ ≠ (u674005 : Value).ownBlock ∧ some k_ ≠ (u674006 : Value).ownBlock ∧ some k_ ≠ (u693004 : Value).ownBlock ∧ some k_ ≠ (u693005 : Value).ownBlock ∧ some k_ ≠ (u693006 : Value).ownBlock ∧ some k_ ≠ (u707004 : Value).ownBlock ∧ some k_ ≠ (u707005 : Value).ownBlock ∧ some k_ ≠ (u707006 : Value).ownBlock) u674004 x674004_3) ∧ Aside0 (Kd.R (Kd.int .i64) 3 w' w.heap.size (fun k_ => some k_ ≠ (u674004 : Value).ownBlock ∧ some k_ ≠ (u674006 : Value).ownBlock ∧ some k_ ≠ (u693004 : Value).ownBlock ∧ some k_ ≠ (u693005 : Value).ownBlock ∧ some k_ ≠ (u693006 : Value).ownBlock ∧ some k_ ≠ (u707004 : Value).ownBlock ∧ some k_ ≠ (u707005 : Value).ownBlock ∧ some k_ ≠ (u707006 : Value).ownBlock) u674005 x674005_3) ∧ Aside0 (Kd.R (Kd.int .i64) 3 w' w.heap.size (fun k_ => some k_ ≠ (u674004 : Value).ownBlock ∧ some k_ ≠ (u674005 : Value).ownBlock ∧ some k_ ≠ (u693004 : Value).ownBlock ∧ some k_ ≠ (u693005 : Value).ownBlock ∧ some k_ ≠ (u693006 : Value).ownBlock ∧ some k_ ≠ (u707004 : Value).ownBlock ∧ some k_ ≠ (u707005 : Value).ownBlock ∧ some k_ ≠ (u707006 : Value).ownBlock) u674006 x674006_3) ∧ Aside0 (Kd.R (Kd.int .i64) 3 w' w.heap.size (fun k_ => some k_ ≠ (u674004 : Value).ownBlock ∧ some k_ ≠ (u674005 : Value).ownBlock ∧ some k_ ≠ (u674006 : Value).ownBlock ∧ some k_ ≠ (u693005 : Value).ownBlock ∧ some k_ ≠ (u693006 : Value).ownBlock ∧ some k_ ≠ (u707004 : Value).ownBlock ∧ some k_ ≠ (u707005 : Value).ownBlock ∧ some k_ ≠ (u707006 : Value).ownBlock) u693004 x693004_3) ∧ Aside0 (Kd.R (Kd.int .i64) 3 w' w.heap.size (fun k_ => some k_ ≠ (u674004 : Value).ownBlock ∧ some k_ ≠ (u674005 : Value).ownBlock ∧ some k_ ≠ (u674006 : Value).ownBlock ∧ some k_ ≠ (u693004 : Value).ownBlock ∧ some k_ ≠ (u693006 : Value).ownBlock ∧ some k_ ≠ (u707004 : Value).ownBlock ∧ some k_ ≠ (u707005 : Value).ownBlock ∧ some k_ ≠ (u707006 : Value).ownBlock) u693005 x693005_3) ∧ Aside0 (Kd.R (Kd.int .i64) 3 w' w.heap.size (fun k_ => some k_ ≠ (u674004 : Value).ownBlock ∧ some k_ ≠ (u674005 : Value).ownBlock ∧ some k_ ≠ (u674006 : Value).ownBlock ∧ some k_ ≠ (u693004 : Value).ownBlock ∧ some k_ ≠ (u693005 : Value).ownBlock ∧ some k_ ≠ (u707004 : Value).ownBlock ∧ some k_ ≠ (u707005 : Value).ownBlock ∧ some k_ ≠ (u707006 : Value).ownBlock) u693006 x693006_3) ∧ Aside0 (Kd.R (Kd.int .i64) 3 w' w.heap.size (fun k_ => some k_ ≠ (u674004 : Value).ownBlock ∧ some k_ ≠ (u674005 : Value).ownBlock ∧ some k_ ≠ (u674006 : Value).ownBlock ∧ some k_ ≠ (u693004 : Value).ownBlock ∧ some k_ ≠ (u693005 : Value).ownBlock ∧ some k_ ≠ (u693006 : Value).ownBlock ∧ some k_ ≠ (u707005 : Value).ownBlock ∧ some k_ ≠ (u707006 : Value).ownBlock) u707004 x707004_3) ∧ Aside0 (Kd.R (Kd.int .i64) 3 w' w.heap.size (fun k_ => some k_ ≠ (u674004 : Value).ownBlock ∧ some k_ ≠ (u674005 : Value).ownBlock ∧ some k_ ≠ (u674006 : Value).ownBlock ∧ some k_ ≠ (u693004 : Value).ownBlock ∧ some k_ ≠ (u693005 : Value).ownBlock ∧ some k_ ≠ (u693006 : Value).ownBlock ∧ some k_ ≠ (u707004 : Value).ownBlock ∧ some k_ ≠ (u707006 : Value).ownBlock) u707005 x707005_3) ∧ Aside0 (Kd.R (Kd.int .i64) 3 w' w.heap.size (fun k_ => some k_ ≠ (u674004 : Value).ownBlock ∧ some k_ ≠ (u674005 : Value).ownBlock ∧ some k_ ≠ (u674006 : Value).ownBlock ∧ some k_ ≠ (u693004 : Value).ownBlock ∧ some k_ ≠ (u693005 : Value).ownBlock ∧ some k_ ≠ (u693006 : Value).ownBlock ∧ some k_ ≠ (u707004 : Value).ownBlock ∧ some k_ ≠ (u707005 : Value).ownBlock) u707006 x707006_3) ∧ Aside0 (w'.heap[gb649]? = some (.cells #[.int .i64 a0_0, (.slice A0_1 l0_1.length c0_1), (.slice A0_2 l0_2.length c0_2)] 36 (0, 0))) ∧ Aside0 (w'.heap[gb673]? = some (.cells #[.int .i64 t660, .int .i64 t661, .int .i64 t662, .string t663, u674004, u674005, u674006] 42 (0, 0))) ∧ Aside0 (w'.heap[gb692]? = some (.cells #[.int .i64 0, .int .i64 0, .int .i64 0, .string (⟨#[]⟩ : ByteArray), u693004, u693005, u693006] 46 (0, 0))) ∧ Aside0 (w'.heap[gb706]? = some (.cells #[.int .i64 t693, .int .i64 t694, .int .i64 t695, .string t696, u707004, u707005, u707006] 42 (0, 0))) ∧ Aside0 (Below w.heap.size w w'))
     case atStart => exact ⟨(0), (x674004_2), (x674005_2), (x674006_2), (x693004_2), (x693005_2), (x693006_2), (x707004_2), (x707005_2), (x707006_2), (u674004), (u674005), (u674006), (u693004), (u693005), (u693006), (.slice Ao102 x707004_2.length co102), (u707005), (u707006), rs_, H', ⟨Nat.le_refl _⟩, ⟨rk_ HO_674004.out⟩, ⟨rk_ HO_674005.out⟩, ⟨rk_ HO_674006.out⟩, ⟨rk_ HO_693004.out⟩, ⟨rk_ HO_693005.out⟩, ⟨rk_ HO_693006.out⟩, ⟨rk_ HO_707004.out⟩, ⟨rk_ HO_707005.out⟩, ⟨rk_ HO_707006.out⟩, ⟨bk_ BK649.out⟩, ⟨bk_ BK673.out⟩, ⟨bk_ BK692.out⟩, ⟨bk_ BK706.out⟩, ⟨bh_⟩⟩
     case round =>
      clear H'
      obtain ⟨x11_3, x674004_3, x674005_3, x674006_3, x693004_3, x693005_3, x693006_3, x707004_3, x707005_3, x707006_3, u674004, u674005, u674006, u693004, u693005, u693006, u707004, u707005, u707006, rfl, HA, HK3, HO_674004, HO_674005, HO_674006, HO_693004, HO_693005, HO_693006, HO_707004, HO_707005, HO_707006, BK649, BK673, BK692, BK706, HB⟩ := hrel
      cases gk with
      | zero => exact absurd HA.out (by simp [computuslaw21_OccurrenceDisplaces.l1])
      | succ k3 =>
       have H := HA.out
       clear HA
       simp only [computuslaw21_OccurrenceDisplaces.l1] at H
       by_cases c103 : x11_3 < (x707006_3.length : Int)
       ·rw [if_pos c103] at H
        have c103b0 : decide (x11_3 < (x707006_3.length : Int)) = true := decide_eq_true c103
        clear c103
        by_cases c104 : 0 ≤ x11_3
        rotate_left
        ·rw [if_neg c104] at H
         exact absurd H (by simp)
        rw [if_pos c104] at H
        have c104b0 : decide (0 ≤ x11_3) = true := decide_eq_true c104
        clear c104
        obtain ⟨y710, hy710⟩ : ∃ y_ : List Int, y_ = (x707006_3.set (x11_3 : Int).toNat (wrap64 ((rd x707006_3 x11_3) + 1))) := ⟨_, rfl⟩
        replace H : (computuslaw21_OccurrenceDisplaces.l1 k3 (wrap64 (x11_3 + 1)) a0_0 l0_1 l0_2 t660 t661 t662 t663 x674004_3 x674005_3 x674006_3 0 0 0 (⟨#[]⟩ : ByteArray) x693004_3 x693005_3 x693006_3 t693 t694 t695 t696 x707004_3 x707005_3 y710) = some r := by first | (rw [hy710]; with_reducible exact H) | (have H2_ := (Option.bind_some _ _).symm.trans H; rw [hy710]; with_reducible exact H2_) | (have H2_ := (Option.bind_some _ _).symm.trans H; with_reducible exact H2_) | with_reducible exact H | (rw [hy710]; exact H) | exact H
        have Ny710 := am_ hy710
        clear hy710
        have H' := am_ H
        clear H
        have hnb106 := NB706_649.out
        have hnc106 := NB649_706.out
        have hnb107 := NB706_673.out
        have hnc107 := NB673_706.out
        have hnb108 := NB706_692.out
        have hnc108 := NB692_706.out
        obtain ⟨hcz109_0, hcz109_1, hcz109_2, hcz109_3, hcz109_4, hcz109_5, hcz109_6⟩ := cz7_ BK706.out
        obtain ⟨hfz109_0, hfz109_1, hfz109_2, hfz109_3, hfz109_4, hfz109_5, hfz109_6⟩ := fz7_ BK706.out
        obtain ⟨Ao110, co110, eo110⟩ := Kd.R_slice HO_707006.out
        subst eo110
        have p709 : 0 ≤ (x11_3 : Int) := of_decide_eq_true as_
        have q709 : x11_3 < (x707006_3.length : Int) := of_decide_eq_true as_
        obtain ⟨ad709, e709, hx709_0⟩ := Kd.at_int (Kd.R_reads' HO_707006.out).2.2 x11_3 p709 q709
        cases e709
        replace p709 := eq_true p709
        replace q709 := eq_true q709
        have p105 : 0 ≤ (x11_3 : Int) := of_decide_eq_true as_
        have q105 : (x11_3 : Int) < ((x707006_3.length : Int) : Int) := of_decide_eq_true as_
        obtain ⟨go105, co105, eo105, gb105, gl105, cl105, HG105⟩ := Kd.R_form HO_707006.out (by omega)
        (first | cases eo105 | (injection eo105 with ea_ en_ ec_; (first | subst ea_ | (injection ea_ with ea_; subst ea_)); subst ec_; clear en_))
        have GB105 := am_ gb105
        have GG105 := am_ HG105
        clear gb105 gl105 HG105
        (first | simp only [add_plain] at hx709_0 | skip)
        obtain ⟨hx105_0, hf105_0⟩ := Kd.R_celln 0 HO_707006.out (x11_3 : Int) p105 q105
        replace p105 := eq_true p105
        replace q105 := eq_true q105
        have HP111 := Kd.R_putg HO_707006.out (x11_3 : Int) (wrap64 ((rd x707006_3 x11_3) + 1))
        go_wp2_with (first | ((with_reducible refine gate_store (t := 3) (p := 79) rfl ?_); refine store_event (t := 3) (p := 79) (v := ?vo_w112) (w1 := (wr.setCell ⟨go105, (x11_3 : Int).toNat, none⟩ (.int .i64 (wrap64 ((rd x707006_3 x11_3) + 1))))) ?hg ?ho ?hn ?hr ?_; (case ho => rfl); (case hg => rfl); (case hn => rfl); (case hr => first | (go_simp; done) | (go_simp; rfl)); intro w112 hw; have hg : wr.grownBy w112 (some go105) := (by rw [hw]; exact HP111.2); have hp_ : Kd.R (Kd.int .i64) 3 w112 w.heap.size (fun k_ => some k_ ≠ (u674004 : Value).ownBlock ∧ some k_ ≠ (u674005 : Value).ownBlock ∧ some k_ ≠ (u674006 : Value).ownBlock ∧ some k_ ≠ (u693004 : Value).ownBlock ∧ some k_ ≠ (u693005 : Value).ownBlock ∧ some k_ ≠ (u693006 : Value).ownBlock ∧ some k_ ≠ (u707004 : Value).ownBlock ∧ some k_ ≠ (u707005 : Value).ownBlock) (.slice (some ⟨go105, 0, none⟩) x707006_3.length co110) y710 := (by rw [hw, Ny710.out]; exact HP111.1); clear HP111; replace HO_674004 := am_ (Kd.R_after (v := (.slice (some ⟨go105, 0, none⟩) x707006_3.length co110)) (v1 := (.slice (some ⟨go105, 0, none⟩) x707006_3.length co110)) (ok := (fun k_ => some k_ ≠ (u674005 : Value).ownBlock ∧ some k_ ≠ (u674006 : Value).ownBlock ∧ some k_ ≠ (u693004 : Value).ownBlock ∧ some k_ ≠ (u693005 : Value).ownBlock ∧ some k_ ≠ (u693006 : Value).ownBlock ∧ some k_ ≠ (u707004 : Value).ownBlock ∧ some k_ ≠ (u707005 : Value).ownBlock)) (by (with_reducible repeat (first | apply Kd.R_alloc | apply Kd.R_drewN | apply Kd.R_drew)); exact Kd.R_mono HO_674004.out (fun _ hk => ⟨⟨hk.1, ⟨hk.2.1, ⟨hk.2.2.1, ⟨hk.2.2.2.1, ⟨hk.2.2.2.2.1, ⟨hk.2.2.2.2.2.1, hk.2.2.2.2.2.2.1⟩⟩⟩⟩⟩⟩, hk.2.2.2.2.2.2.2⟩)) hg (.inl rfl)); replace HO_674005 := am_ (Kd.R_after (v := (.slice (some ⟨go105, 0, none⟩) x707006_3.length co110)) (v1 := (.slice (some ⟨go105, 0, none⟩) x707006_3.length co110)) (ok := (fun k_ => some k_ ≠ (u674004 : Value).ownBlock ∧ some k_ ≠ (u674006 : Value).ownBlock ∧ some k_ ≠ (u693004 : Value).ownBlock ∧ some k_ ≠ (u693005 : Value).ownBlock ∧ some k_ ≠ (u693006 : Value).ownBlock ∧ some k_ ≠ (u707004 : Value).ownBlock ∧ some k_ ≠ (u707005 : Value).ownBlock)) (by (with_reducible repeat (first | apply Kd.R_alloc | apply Kd.R_drewN | apply Kd.R_drew)); exact Kd.R_mono HO_674005.out (fun _ hk => ⟨⟨hk.1, ⟨hk.2.1, ⟨hk.2.2.1, ⟨hk.2.2.2.1, ⟨hk.2.2.2.2.1, ⟨hk.2.2.2.2.2.1, hk.2.2.2.2.2.2.1⟩⟩⟩⟩⟩⟩, hk.2.2.2.2.2.2.2⟩)) hg (.inl rfl)); replace HO_674006 := am_ (Kd.R_after (v := (.slice (some ⟨go105, 0, none⟩) x707006_3.length co110)) (v1 := (.slice (some ⟨go105, 0, none⟩) x707006_3.length co110)) (ok := (fun k_ => some k_ ≠ (u674004 : Value).ownBlock ∧ some k_ ≠ (u674005 : Value).ownBlock ∧ some k_ ≠ (u693004 : Value).ownBlock ∧ some k_ ≠ (u693005 : Value).ownBlock ∧ some k_ ≠ (u693006 : Value).ownBlock ∧ some k_ ≠ (u707004 : Value).ownBlock ∧ some k_ ≠ (u707005 : Value).ownBlock)) (by (with_reducible repeat (first | apply Kd.R_alloc | apply Kd.R_drewN | apply Kd.R_drew)); exact Kd.R_mono HO_674006.out (fun _ hk => ⟨⟨hk.1, ⟨hk.2.1, ⟨hk.2.2.1, ⟨hk.2.2.2.1, ⟨hk.2.2.2.2.1, ⟨hk.2.2.2.2.2.1, hk.2.2.2.2.2.2.1⟩⟩⟩⟩⟩⟩, hk.2.2.2.2.2.2.2⟩)) hg (.inl rfl)); replace HO_693004 := am_ (Kd.R_after (v := (.slice (some ⟨go105, 0, none⟩) x707006_3.length co110)) (v1 := (.slice (some ⟨go105, 0, none⟩) x707006_3.length co110)) (ok := (fun k_ => some k_ ≠ (u674004 : Value).ownBlock ∧ some k_ ≠ (u674005 : Value).ownBlock ∧ some k_ ≠ (u674006 : Value).ownBlock ∧ some k_ ≠ (u693005 : Value).ownBlock ∧ some k_ ≠ (u693006 : Value).ownBlock ∧ some k_ ≠ (u707004 : Value).ownBlock ∧ some k_ ≠ (u707005 : Value).ownBlock)) (by (with_reducible repeat (first | apply Kd.R_alloc | apply Kd.R_drewN | apply Kd.R_drew)); exact Kd.R_mono HO_693004.out (fun _ hk => ⟨⟨hk.1, ⟨hk.2.1, ⟨hk.2.2.1, ⟨hk.2.2.2.1, ⟨hk.2.2.2.2.1, ⟨hk.2.2.2.2.2.1, hk.2.2.2.2.2.2.1⟩⟩⟩⟩⟩⟩, hk.2.2.2.2.2.2.2⟩)) hg (.inl rfl)); replace HO_693005 := am_ (Kd.R_after (v := (.slice (some ⟨go105, 0, none⟩) x707006_3.length co110)) (v1 := (.slice (some ⟨go105, 0, none⟩) x707006_3.length co110)) (ok := (fun k_ => some k_ ≠ (u674004 : Value).ownBlock ∧ some k_ ≠ (u674005 : Value).ownBlock ∧ some k_ ≠ (u674006 : Value).ownBlock ∧ some k_ ≠ (u693004 : Value).ownBlock ∧ some k_ ≠ (u693006 : Value).ownBlock ∧ some k_ ≠ (u707004 : Value).ownBlock ∧ some k_ ≠ (u707005 : Value).ownBlock)) (by (with_reducible repeat (first | apply Kd.R_alloc | apply Kd.R_drewN | apply Kd.R_drew)); exact Kd.R_mono HO_693005.out (fun _ hk => ⟨⟨hk.1, ⟨hk.2.1, ⟨hk.2.2.1, ⟨hk.2.2.2.1, ⟨hk.2.2.2.2.1, ⟨hk.2.2.2.2.2.1, hk.2.2.2.2.2.2.1⟩⟩⟩⟩⟩⟩, hk.2.2.2.2.2.2.2⟩)) hg (.inl rfl)); replace HO_693006 := am_ (Kd.R_after (v := (.slice (some ⟨go105, 0, none⟩) x707006_3.length co110)) (v1 := (.slice (some ⟨go105, 0, none⟩) x707006_3.length co110)) (ok := (fun k_ => some k_ ≠ (u674004 : Value).ownBlock ∧ some k_ ≠ (u674005 : Value).ownBlock ∧ some k_ ≠ (u674006 : Value).ownBlock ∧ some k_ ≠ (u693004 : Value).ownBlock ∧ some k_ ≠ (u693005 : Value).ownBlock ∧ some k_ ≠ (u707004 : Value).ownBlock ∧ some k_ ≠ (u707005 : Value).ownBlock)) (by (with_reducible repeat (first | apply Kd.R_alloc | apply Kd.R_drewN | apply Kd.R_drew)); exact Kd.R_mono HO_693006.out (fun _ hk => ⟨⟨hk.1, ⟨hk.2.1, ⟨hk.2.2.1, ⟨hk.2.2.2.1, ⟨hk.2.2.2.2.1, ⟨hk.2.2.2.2.2.1, hk.2.2.2.2.2.2.1⟩⟩⟩⟩⟩⟩, hk.2.2.2.2.2.2.2⟩)) hg (.inl rfl)); replace HO_707004 := am_ (Kd.R_after (v := (.slice (some ⟨go105, 0, none⟩) x707006_3.length co110)) (v1 := (.slice (some ⟨go105, 0, none⟩) x707006_3.length co110)) (ok := (fun k_ => some k_ ≠ (u674004 : Value).ownBlock ∧ some k_ ≠ (u674005 : Value).ownBlock ∧ some k_ ≠ (u674006 : Value).ownBlock ∧ some k_ ≠ (u693004 : Value).ownBlock ∧ some k_ ≠ (u693005 : Value).ownBlock ∧ some k_ ≠ (u693006 : Value).ownBlock ∧ some k_ ≠ (u707005 : Value).ownBlock)) (by (with_reducible repeat (first | apply Kd.R_alloc | apply Kd.R_drewN | apply Kd.R_drew)); exact Kd.R_mono HO_707004.out (fun _ hk => ⟨⟨hk.1, ⟨hk.2.1, ⟨hk.2.2.1, ⟨hk.2.2.2.1, ⟨hk.2.2.2.2.1, ⟨hk.2.2.2.2.2.1, hk.2.2.2.2.2.2.1⟩⟩⟩⟩⟩⟩, hk.2.2.2.2.2.2.2⟩)) hg (.inl rfl)); replace HO_707005 := am_ (Kd.R_after (v := (.slice (some ⟨go105, 0, none⟩) x707006_3.length co110)) (v1 := (.slice (some ⟨go105, 0, none⟩) x707006_3.length co110)) (ok := (fun k_ => some k_ ≠ (u674004 : Value).ownBlock ∧ some k_ ≠ (u674005 : Value).ownBlock ∧ some k_ ≠ (u674006 : Value).ownBlock ∧ some k_ ≠ (u693004 : Value).ownBlock ∧ some k_ ≠ (u693005 : Value).ownBlock ∧ some k_ ≠ (u693006 : Value).ownBlock ∧ some k_ ≠ (u707004 : Value).ownBlock)) (by (with_reducible repeat (first | apply Kd.R_alloc | apply Kd.R_drewN | apply Kd.R_drew)); exact Kd.R_mono HO_707005.out (fun _ hk => ⟨⟨hk.1, ⟨hk.2.1, ⟨hk.2.2.1, ⟨hk.2.2.2.1, ⟨hk.2.2.2.2.1, ⟨hk.2.2.2.2.2.1, hk.2.2.2.2.2.2.1⟩⟩⟩⟩⟩⟩, hk.2.2.2.2.2.2.2⟩)) hg (.inl rfl)); replace BK649 := am_ (blk_grown (bk_ BK649.out) hg (Kd.R_ne HO_707006.out BK649.out (by decide))); replace BK673 := am_ (blk_grown (bk_ BK673.out) hg (Kd.R_ne HO_707006.out BK673.out (by decide))); replace BK692 := am_ (blk_grown (bk_ BK692.out) hg (Kd.R_ne HO_707006.out BK692.out (by decide))); replace BK706 := am_ (blk_grown (bk_ BK706.out) hg (Kd.R_ne HO_707006.out BK706.out (by decide))); replace HO_707006 := am_ (hp_); replace HB := am_ ((by rw [hw]; exact below_set (HB.out) GB105.out : Below w.heap.size w w112)); clear hg hw hp_) | ((with_reducible refine gate_store (t := 3) (p := 79) rfl ?_); refine store_event (t := 3) (p := 79) (v := ?vo_w112) (w1 := (wr.setCell ⟨go105, (x11_3 : Int).toNat, none⟩ (.int .i64 (wrap64 ((rd x707006_3 x11_3) + 1))))) ?hg ?ho ?hn ?hr ?_; (case ho => rfl); (case hg => rfl); (case hn => rfl); (case hr => first | (go_simp; done) | (go_simp; rfl)); intro w112 hw; have hg : wr.grownBy w112 (some go105) := (by rw [hw]; exact ⟨HP111.2.os, HP111.2.tape, HP111.2.output, HP111.2.size, HP111.2.block⟩); have hp_ : Kd.R (Kd.int .i64) 3 w112 w.heap.size (fun k_ => some k_ ≠ (u674004 : Value).ownBlock ∧ some k_ ≠ (u674005 : Value).ownBlock ∧ some k_ ≠ (u674006 : Value).ownBlock ∧ some k_ ≠ (u693004 : Value).ownBlock ∧ some k_ ≠ (u693005 : Value).ownBlock ∧ some k_ ≠ (u693006 : Value).ownBlock ∧ some k_ ≠ (u707004 : Value).ownBlock ∧ some k_ ≠ (u707005 : Value).ownBlock) (.slice (some ⟨go105, 0, none⟩) x707006_3.length co110) y710 := (by rw [hw, Ny710.out]; exact Kd.R_drewN HP111.1 nd); clear HP111; replace HO_674004 := am_ (Kd.R_after (v := (.slice (some ⟨go105, 0, none⟩) x707006_3.length co110)) (v1 := (.slice (some ⟨go105, 0, none⟩) x707006_3.length co110)) (ok := (fun k_ => some k_ ≠ (u674005 : Value).ownBlock ∧ some k_ ≠ (u674006 : Value).ownBlock ∧ some k_ ≠ (u693004 : Value).ownBlock ∧ some k_ ≠ (u693005 : Value).ownBlock ∧ some k_ ≠ (u693006 : Value).ownBlock ∧ some k_ ≠ (u707004 : Value).ownBlock ∧ some k_ ≠ (u707005 : Value).ownBlock)) (by (with_reducible repeat (first | apply Kd.R_alloc | apply Kd.R_drewN | apply Kd.R_drew)); exact Kd.R_mono HO_674004.out (fun _ hk => ⟨⟨hk.1, ⟨hk.2.1, ⟨hk.2.2.1, ⟨hk.2.2.2.1, ⟨hk.2.2.2.2.1, ⟨hk.2.2.2.2.2.1, hk.2.2.2.2.2.2.1⟩⟩⟩⟩⟩⟩, hk.2.2.2.2.2.2.2⟩)) hg (.inl rfl)); replace HO_674005 := am_ (Kd.R_after (v := (.slice (some ⟨go105, 0, none⟩) x707006_3.length co110)) (v1 := (.slice (some ⟨go105, 0, none⟩) x707006_3.length co110)) (ok := (fun k_ => some k_ ≠ (u674004 : Value).ownBlock ∧ some k_ ≠ (u674006 : Value).ownBlock ∧ some k_ ≠ (u693004 : Value).ownBlock ∧ some k_ ≠ (u693005 : Value).ownBlock ∧ some k_ ≠ (u693006 : Value).ownBlock ∧ some k_ ≠ (u707004 : Value).ownBlock ∧ some k_ ≠ (u707005 : Value).ownBlock)) (by (with_reducible repeat (first | apply Kd.R_alloc | apply Kd.R_drewN | apply Kd.R_drew)); exact Kd.R_mono HO_674005.out (fun _ hk => ⟨⟨hk.1, ⟨hk.2.1, ⟨hk.2.2.1, ⟨hk.2.2.2.1, ⟨hk.2.2.2.2.1, ⟨hk.2.2.2.2.2.1, hk.2.2.2.2.2.2.1⟩⟩⟩⟩⟩⟩, hk.2.2.2.2.2.2.2⟩)) hg (.inl rfl)); replace HO_674006 := am_ (Kd.R_after (v := (.slice (some ⟨go105, 0, none⟩) x707006_3.length co110)) (v1 := (.slice (some ⟨go105, 0, none⟩) x707006_3.length co110)) (ok := (fun k_ => some k_ ≠ (u674004 : Value).ownBlock ∧ some k_ ≠ (u674005 : Value).ownBlock ∧ some k_ ≠ (u693004 : Value).ownBlock ∧ some k_ ≠ (u693005 : Value).ownBlock ∧ some k_ ≠ (u693006 : Value).ownBlock ∧ some k_ ≠ (u707004 : Value).ownBlock ∧ some k_ ≠ (u707005 : Value).ownBlock)) (by (with_reducible repeat (first | apply Kd.R_alloc | apply Kd.R_drewN | apply Kd.R_drew)); exact Kd.R_mono HO_674006.out (fun _ hk => ⟨⟨hk.1, ⟨hk.2.1, ⟨hk.2.2.1, ⟨hk.2.2.2.1, ⟨hk.2.2.2.2.1, ⟨hk.2.2.2.2.2.1, hk.2.2.2.2.2.2.1⟩⟩⟩⟩⟩⟩, hk.2.2.2.2.2.2.2⟩)) hg (.inl rfl)); replace HO_693004 := am_ (Kd.R_after (v := (.slice (some ⟨go105, 0, none⟩) x707006_3.length co110)) (v1 := (.slice (some ⟨go105, 0, none⟩) x707006_3.length co110)) (ok := (fun k_ => some k_ ≠ (u674004 : Value).ownBlock ∧ some k_ ≠ (u674005 : Value).ownBlock ∧ some k_ ≠ (u674006 : Value).ownBlock ∧ some k_ ≠ (u693005 : Value).ownBlock ∧ some k_ ≠ (u693006 : Value).ownBlock ∧ some k_ ≠ (u707004 : Value).ownBlock ∧ some k_ ≠ (u707005 : Value).ownBlock)) (by (with_reducible repeat (first | apply Kd.R_alloc | apply Kd.R_drewN | apply Kd.R_drew)); exact Kd.R_mono HO_693004.out (fun _ hk => ⟨⟨hk.1, ⟨hk.2.1, ⟨hk.2.2.1, ⟨hk.2.2.2.1, ⟨hk.2.2.2.2.1, ⟨hk.2.2.2.2.2.1, hk.2.2.2.2.2.2.1⟩⟩⟩⟩⟩⟩, hk.2.2.2.2.2.2.2⟩)) hg (.inl rfl)); replace HO_693005 := am_ (Kd.R_after (v := (.slice (some ⟨go105, 0, none⟩) x707006_3.length co110)) (v1 := (.slice (some ⟨go105, 0, none⟩) x707006_3.length co110)) (ok := (fun k_ => some k_ ≠ (u674004 : Value).ownBlock ∧ some k_ ≠ (u674005 : Value).ownBlock ∧ some k_ ≠ (u674006 : Value).ownBlock ∧ some k_ ≠ (u693004 : Value).ownBlock ∧ some k_ ≠ (u693006 : Value).ownBlock ∧ some k_ ≠ (u707004 : Value).ownBlock ∧ some k_ ≠ (u707005 : Value).ownBlock)) (by (with_reducible repeat (first | apply Kd.R_alloc | apply Kd.R_drewN | apply Kd.R_drew)); exact Kd.R_mono HO_693005.out (fun _ hk => ⟨⟨hk.1, ⟨hk.2.1, ⟨hk.2.2.1, ⟨hk.2.2.2.1, ⟨hk.2.2.2.2.1, ⟨hk.2.2.2.2.2.1, hk.2.2.2.2.2.2.1⟩⟩⟩⟩⟩⟩, hk.2.2.2.2.2.2.2⟩)) hg (.inl rfl)); replace HO_693006 := am_ (Kd.R_after (v := (.slice (some ⟨go105, 0, none⟩) x707006_3.length co110)) (v1 := (.slice (some ⟨go105, 0, none⟩) x707006_3.length co110)) (ok := (fun k_ => some k_ ≠ (u674004 : Value).ownBlock ∧ some k_ ≠ (u674005 : Value).ownBlock ∧ some k_ ≠ (u674006 : Value).ownBlock ∧ some k_ ≠ (u693004 : Value).ownBlock ∧ some k_ ≠ (u693005 : Value).ownBlock ∧ some k_ ≠ (u707004 : Value).ownBlock ∧ some k_ ≠ (u707005 : Value).ownBlock)) (by (with_reducible repeat (first | apply Kd.R_alloc | apply Kd.R_drewN | apply Kd.R_drew)); exact Kd.R_mono HO_693006.out (fun _ hk => ⟨⟨hk.1, ⟨hk.2.1, ⟨hk.2.2.1, ⟨hk.2.2.2.1, ⟨hk.2.2.2.2.1, ⟨hk.2.2.2.2.2.1, hk.2.2.2.2.2.2.1⟩⟩⟩⟩⟩⟩, hk.2.2.2.2.2.2.2⟩)) hg (.inl rfl)); replace HO_707004 := am_ (Kd.R_after (v := (.slice (some ⟨go105, 0, none⟩) x707006_3.length co110)) (v1 := (.slice (some ⟨go105, 0, none⟩) x707006_3.length co110)) (ok := (fun k_ => some k_ ≠ (u674004 : Value).ownBlock ∧ some k_ ≠ (u674005 : Value).ownBlock ∧ some k_ ≠ (u674006 : Value).ownBlock ∧ some k_ ≠ (u693004 : Value).ownBlock ∧ some k_ ≠ (u693005 : Value).ownBlock ∧ some k_ ≠ (u693006 : Value).ownBlock ∧ some k_ ≠ (u707005 : Value).ownBlock)) (by (with_reducible repeat (first | apply Kd.R_alloc | apply Kd.R_drewN | apply Kd.R_drew)); exact Kd.R_mono HO_707004.out (fun _ hk => ⟨⟨hk.1, ⟨hk.2.1, ⟨hk.2.2.1, ⟨hk.2.2.2.1, ⟨hk.2.2.2.2.1, ⟨hk.2.2.2.2.2.1, hk.2.2.2.2.2.2.1⟩⟩⟩⟩⟩⟩, hk.2.2.2.2.2.2.2⟩)) hg (.inl rfl)); replace HO_707005 := am_ (Kd.R_after (v := (.slice (some ⟨go105, 0, none⟩) x707006_3.length co110)) (v1 := (.slice (some ⟨go105, 0, none⟩) x707006_3.length co110)) (ok := (fun k_ => some k_ ≠ (u674004 : Value).ownBlock ∧ some k_ ≠ (u674005 : Value).ownBlock ∧ some k_ ≠ (u674006 : Value).ownBlock ∧ some k_ ≠ (u693004 : Value).ownBlock ∧ some k_ ≠ (u693005 : Value).ownBlock ∧ some k_ ≠ (u693006 : Value).ownBlock ∧ some k_ ≠ (u707004 : Value).ownBlock)) (by (with_reducible repeat (first | apply Kd.R_alloc | apply Kd.R_drewN | apply Kd.R_drew)); exact Kd.R_mono HO_707005.out (fun _ hk => ⟨⟨hk.1, ⟨hk.2.1, ⟨hk.2.2.1, ⟨hk.2.2.2.1, ⟨hk.2.2.2.2.1, ⟨hk.2.2.2.2.2.1, hk.2.2.2.2.2.2.1⟩⟩⟩⟩⟩⟩, hk.2.2.2.2.2.2.2⟩)) hg (.inl rfl)); replace BK649 := am_ (blk_grown (bk_ BK649.out) hg (Kd.R_ne HO_707006.out BK649.out (by decide))); replace BK673 := am_ (blk_grown (bk_ BK673.out) hg (Kd.R_ne HO_707006.out BK673.out (by decide))); replace BK692 := am_ (blk_grown (bk_ BK692.out) hg (Kd.R_ne HO_707006.out BK692.out (by decide))); replace BK706 := am_ (blk_grown (bk_ BK706.out) hg (Kd.R_ne HO_707006.out BK706.out (by decide))); replace HO_707006 := am_ (hp_); replace HB := am_ ((by rw [hw]; exact pw_below_drewN (below_set (HB.out) GB105.out) nd : Below w.heap.size w w112)); clear hg hw hp_))
        go_roundg k3
        case measure => have := HJ3.out; have := HK2.out; have := HK3.out; omega
        case rel => exact ⟨(wrap64 (x11_3 + 1)), (x674004_3), (x674005_3), (x674006_3), (x693004_3), (x693005_3), (x693006_3), (x707004_3), (x707005_3), (y710), (u674004), (u674005), (u674006), (u693004), (u693005), (u693006), (u707004), (u707005), (.slice (some ⟨go105, 0, none⟩) x707006_3.length co110), rs_, H', ⟨by have := HJ3.out; have := HK2.out; have := HK3.out; omega⟩, ⟨by (with_reducible repeat (first | apply Kd.R_alloc | apply Kd.R_drewN | apply Kd.R_drew)); exact Kd.R_mono HO_674004.out (fun _ hk => ⟨hk.1.1, ⟨hk.1.2.1, ⟨hk.1.2.2.1, ⟨hk.1.2.2.2.1, ⟨hk.1.2.2.2.2.1, ⟨hk.1.2.2.2.2.2.1, ⟨hk.1.2.2.2.2.2.2, hk.2⟩⟩⟩⟩⟩⟩⟩)⟩, ⟨by (with_reducible repeat (first | apply Kd.R_alloc | apply Kd.R_drewN | apply Kd.R_drew)); exact Kd.R_mono HO_674005.out (fun _ hk => ⟨hk.1.1, ⟨hk.1.2.1, ⟨hk.1.2.2.1, ⟨hk.1.2.2.2.1, ⟨hk.1.2.2.2.2.1, ⟨hk.1.2.2.2.2.2.1, ⟨hk.1.2.2.2.2.2.2, hk.2⟩⟩⟩⟩⟩⟩⟩)⟩, ⟨by (with_reducible repeat (first | apply Kd.R_alloc | apply Kd.R_drewN | apply Kd.R_drew)); exact Kd.R_mono HO_674006.out (fun _ hk => ⟨hk.1.1, ⟨hk.1.2.1, ⟨hk.1.2.2.1, ⟨hk.1.2.2.2.1, ⟨hk.1.2.2.2.2.1, ⟨hk.1.2.2.2.2.2.1, ⟨hk.1.2.2.2.2.2.2, hk.2⟩⟩⟩⟩⟩⟩⟩)⟩, ⟨by (with_reducible repeat (first | apply Kd.R_alloc | apply Kd.R_drewN | apply Kd.R_drew)); exact Kd.R_mono HO_693004.out (fun _ hk => ⟨hk.1.1, ⟨hk.1.2.1, ⟨hk.1.2.2.1, ⟨hk.1.2.2.2.1, ⟨hk.1.2.2.2.2.1, ⟨hk.1.2.2.2.2.2.1, ⟨hk.1.2.2.2.2.2.2, hk.2⟩⟩⟩⟩⟩⟩⟩)⟩, ⟨by (with_reducible repeat (first | apply Kd.R_alloc | apply Kd.R_drewN | apply Kd.R_drew)); exact Kd.R_mono HO_693005.out (fun _ hk => ⟨hk.1.1, ⟨hk.1.2.1, ⟨hk.1.2.2.1, ⟨hk.1.2.2.2.1, ⟨hk.1.2.2.2.2.1, ⟨hk.1.2.2.2.2.2.1, ⟨hk.1.2.2.2.2.2.2, hk.2⟩⟩⟩⟩⟩⟩⟩)⟩, ⟨by (with_reducible repeat (first | apply Kd.R_alloc | apply Kd.R_drewN | apply Kd.R_drew)); exact Kd.R_mono HO_693006.out (fun _ hk => ⟨hk.1.1, ⟨hk.1.2.1, ⟨hk.1.2.2.1, ⟨hk.1.2.2.2.1, ⟨hk.1.2.2.2.2.1, ⟨hk.1.2.2.2.2.2.1, ⟨hk.1.2.2.2.2.2.2, hk.2⟩⟩⟩⟩⟩⟩⟩)⟩, ⟨by (with_reducible repeat (first | apply Kd.R_alloc | apply Kd.R_drewN | apply Kd.R_drew)); exact Kd.R_mono HO_707004.out (fun _ hk => ⟨hk.1.1, ⟨hk.1.2.1, ⟨hk.1.2.2.1, ⟨hk.1.2.2.2.1, ⟨hk.1.2.2.2.2.1, ⟨hk.1.2.2.2.2.2.1, ⟨hk.1.2.2.2.2.2.2, hk.2⟩⟩⟩⟩⟩⟩⟩)⟩, ⟨by (with_reducible repeat (first | apply Kd.R_alloc | apply Kd.R_drewN | apply Kd.R_drew)); exact Kd.R_mono HO_707005.out (fun _ hk => ⟨hk.1.1, ⟨hk.1.2.1, ⟨hk.1.2.2.1, ⟨hk.1.2.2.2.1, ⟨hk.1.2.2.2.2.1, ⟨hk.1.2.2.2.2.2.1, ⟨hk.1.2.2.2.2.2.2, hk.2⟩⟩⟩⟩⟩⟩⟩)⟩, ⟨rk_ HO_707006.out⟩, ⟨bk_ BK649.out⟩, ⟨bk_ BK673.out⟩, ⟨bk_ BK692.out⟩, ⟨bk_ BK706.out⟩, ⟨bh_⟩⟩
       rw [if_neg c103] at H
       have c103b0 : decide (x11_3 < (x707006_3.length : Int)) = false := decide_eq_false c103
       clear c103
       obtain ⟨⟨t711, t712, t713, t714, t715, t718, t721⟩, A113, H⟩ := bs_ H
       dsimp only at H
       have HC114 := am_ H
       clear H
       have hnb115 := NB706_649.out
       have hnc115 := NB649_706.out
       have hnb116 := NB706_673.out
       have hnc116 := NB673_706.out
       have hnb117 := NB706_692.out
       have hnc117 := NB692_706.out
       obtain ⟨hcz118_0, hcz118_1, hcz118_2, hcz118_3, hcz118_4, hcz118_5, hcz118_6⟩ := cz7_ BK706.out
       obtain ⟨hfz118_0, hfz118_1, hfz118_2, hfz118_3, hfz118_4, hfz118_5, hfz118_6⟩ := fz7_ BK706.out
       obtain ⟨Ao119, co119, eo119⟩ := Kd.R_slice HO_707006.out
       subst eo119
       have hnb120 := NB649_673.out
       have hnc120 := NB673_649.out
       have hnb121 := NB649_692.out
       have hnc121 := NB692_649.out
       obtain ⟨hcz122_0, hcz122_1, hcz122_2⟩ := cz3_ BK649.out
       obtain ⟨hfz122_0, hfz122_1, hfz122_2⟩ := fz3_ BK649.out
       have hnb123 := NB673_692.out
       have hnc123 := NB692_673.out
       obtain ⟨hcz124_0, hcz124_1, hcz124_2, hcz124_3, hcz124_4, hcz124_5, hcz124_6⟩ := cz7_ BK673.out
       obtain ⟨hfz124_0, hfz124_1, hfz124_2, hfz124_3, hfz124_4, hfz124_5, hfz124_6⟩ := fz7_ BK673.out
       obtain ⟨Ao125, co125, eo125⟩ := Kd.R_slice HO_674004.out
       subst eo125
       obtain ⟨Ao126, co126, eo126⟩ := Kd.R_slice HO_674005.out
       subst eo126
       obtain ⟨Ao127, co127, eo127⟩ := Kd.R_slice HO_674006.out
       subst eo127
       go_upto_region 16 with (first | ((with_reducible refine gate_callee (f := 22) rfl ?_); refine gl_ (some 82) Try.func22 #[.agg #[.int .i64 a0_0, .slice A0_1 l0_1.length c0_1, .slice A0_2 l0_2.length c0_2], .agg #[.int .i64 t660, .int .i64 t661, .int .i64 t662, .string t663, .slice Ao125 x674004_3.length co125, .slice Ao126 x674005_3.length co126, .slice Ao127 x674006_3.length co127]] ?_; (with_reducible refine (occurrence_Displace.calls a0_0 _ _ l0_1 _ _ l0_2 t660 t661 t662 t663 _ _ x674004_3 _ _ x674005_3 _ _ x674006_3 t711 t712 t713 t714 t715 t718 t721 _ ?side1 ?side2 ?side3 ?side4 ?side5 ?side6 ?side7 ?side8 ?side9 ?side10 A113.out).mono ?_); (case side1 => exact ck_ (Kd.C_below HR0_1.out HB.out)); (case side2 => exact HC0_1.out); (case side3 => exact ck_ (Kd.C_below HR0_2.out HB.out)); (case side4 => exact HC0_2.out); (case side5 => exact ck_ (Kd.R_reads' HO_674004.out).2.2); (case side6 => exact (Kd.R_reads' HO_674004.out).2.1); (case side7 => exact ck_ (Kd.R_reads' HO_674005.out).2.2); (case side8 => exact (Kd.R_reads' HO_674005.out).2.1); (case side9 => exact ck_ (Kd.R_reads' HO_674006.out).2.2); (case side10 => exact (Kd.R_reads' HO_674006.out).2.1); rintro e w128 ⟨v716, v719, v722, rfl, ho0, ho1, ho2, hb⟩; refine ⟨_, rfl, ?_⟩; have HO717 := am_ (Kd.R_lower (Kd.R_new' (Kd.R_new' (Kd.R_new' (Kd.R_new' (Kd.R_new' (Kd.R_new' (Kd.R_new' (Kd.R_new' (Kd.R_new' ho0 (Kd.R_lt (rk_ HO_674004.out))) (Kd.R_lt (rk_ HO_674005.out))) (Kd.R_lt (rk_ HO_674006.out))) (Kd.R_lt (rk_ HO_693004.out))) (Kd.R_lt (rk_ HO_693005.out))) (Kd.R_lt (rk_ HO_693006.out))) (Kd.R_lt (rk_ HO_707004.out))) (Kd.R_lt (rk_ HO_707005.out))) (Kd.R_lt (rk_ HO_707006.out))) bz_); have HO720 := am_ (Kd.R_lower (Kd.R_new' (Kd.R_new' (Kd.R_new' (Kd.R_new' (Kd.R_new' (Kd.R_new' (Kd.R_new' (Kd.R_new' (Kd.R_new' ho1 (Kd.R_lt (rk_ HO_674004.out))) (Kd.R_lt (rk_ HO_674005.out))) (Kd.R_lt (rk_ HO_674006.out))) (Kd.R_lt (rk_ HO_693004.out))) (Kd.R_lt (rk_ HO_693005.out))) (Kd.R_lt (rk_ HO_693006.out))) (Kd.R_lt (rk_ HO_707004.out))) (Kd.R_lt (rk_ HO_707005.out))) (Kd.R_lt (rk_ HO_707006.out))) bz_); have HO723 := am_ (Kd.R_lower (Kd.R_new' (Kd.R_new' (Kd.R_new' (Kd.R_new' (Kd.R_new' (Kd.R_new' (Kd.R_new' (Kd.R_new' (Kd.R_new' ho2 (Kd.R_lt (rk_ HO_674004.out))) (Kd.R_lt (rk_ HO_674005.out))) (Kd.R_lt (rk_ HO_674006.out))) (Kd.R_lt (rk_ HO_693004.out))) (Kd.R_lt (rk_ HO_693005.out))) (Kd.R_lt (rk_ HO_693006.out))) (Kd.R_lt (rk_ HO_707004.out))) (Kd.R_lt (rk_ HO_707005.out))) (Kd.R_lt (rk_ HO_707006.out))) bz_); replace HO_674004 := am_ (Kd.R_mono (Kd.R_told (Kd.R_told (Kd.R_told (Kd.R_old (rk_ HO_674004.out) hb) (Kd.R_base ho0)) (Kd.R_base ho1)) (Kd.R_base ho2)) (fun _ h_ => h_.1)); replace HO_674005 := am_ (Kd.R_mono (Kd.R_told (Kd.R_told (Kd.R_told (Kd.R_old (rk_ HO_674005.out) hb) (Kd.R_base ho0)) (Kd.R_base ho1)) (Kd.R_base ho2)) (fun _ h_ => h_.1)); replace HO_674006 := am_ (Kd.R_mono (Kd.R_told (Kd.R_told (Kd.R_told (Kd.R_old (rk_ HO_674006.out) hb) (Kd.R_base ho0)) (Kd.R_base ho1)) (Kd.R_base ho2)) (fun _ h_ => h_.1)); replace HO_693004 := am_ (Kd.R_mono (Kd.R_told (Kd.R_told (Kd.R_told (Kd.R_old (rk_ HO_693004.out) hb) (Kd.R_base ho0)) (Kd.R_base ho1)) (Kd.R_base ho2)) (fun _ h_ => h_.1)); replace HO_693005 := am_ (Kd.R_mono (Kd.R_told (Kd.R_told (Kd.R_told (Kd.R_old (rk_ HO_693005.out) hb) (Kd.R_base ho0)) (Kd.R_base ho1)) (Kd.R_base ho2)) (fun _ h_ => h_.1)); replace HO_693006 := am_ (Kd.R_mono (Kd.R_told (Kd.R_told (Kd.R_told (Kd.R_old (rk_ HO_693006.out) hb) (Kd.R_base ho0)) (Kd.R_base ho1)) (Kd.R_base ho2)) (fun _ h_ => h_.1)); replace HO_707004 := am_ (Kd.R_mono (Kd.R_told (Kd.R_told (Kd.R_told (Kd.R_old (rk_ HO_707004.out) hb) (Kd.R_base ho0)) (Kd.R_base ho1)) (Kd.R_base ho2)) (fun _ h_ => h_.1)); replace HO_707005 := am_ (Kd.R_mono (Kd.R_told (Kd.R_told (Kd.R_told (Kd.R_old (rk_ HO_707005.out) hb) (Kd.R_base ho0)) (Kd.R_base ho1)) (Kd.R_base ho2)) (fun _ h_ => h_.1)); replace HO_707006 := am_ (Kd.R_mono (Kd.R_told (Kd.R_told (Kd.R_told (Kd.R_old (rk_ HO_707006.out) hb) (Kd.R_base ho0)) (Kd.R_base ho1)) (Kd.R_base ho2)) (fun _ h_ => h_.1)); replace BK649 := bw_ BK649 hb; replace BK673 := bw_ BK673 hb; replace BK692 := bw_ BK692 hb; replace BK706 := bw_ BK706 hb; replace HB := bt_ hb; (try clear hb); (try clear ho0); (try clear ho1); (try clear ho2)) | ((with_reducible refine gate_dst (N := 12) rfl ?_); (try (refine gate_guard (by rfl) ?_; dsimp only)); refine be_ (N := 12) (cs := #[.int .i64 0, .int .i64 0, .int .i64 0, .string (⟨#[]⟩ : ByteArray), .slice none 0 0, .slice none 0 0, .slice none 0 0]) (t := 42) ?_; intro gb724 hg w129 hbox hb; replace HO_674004 := am_ (Kd.R_below (rk_ HO_674004.out) hb); replace HO_674005 := am_ (Kd.R_below (rk_ HO_674005.out) hb); replace HO_674006 := am_ (Kd.R_below (rk_ HO_674006.out) hb); replace HO_693004 := am_ (Kd.R_below (rk_ HO_693004.out) hb); replace HO_693005 := am_ (Kd.R_below (rk_ HO_693005.out) hb); replace HO_693006 := am_ (Kd.R_below (rk_ HO_693006.out) hb); replace HO_707004 := am_ (Kd.R_below (rk_ HO_707004.out) hb); replace HO_707005 := am_ (Kd.R_below (rk_ HO_707005.out) hb); replace HO_707006 := am_ (Kd.R_below (rk_ HO_707006.out) hb); replace HO717 := rw_ HO717 hb; replace HO720 := rw_ HO720 hb; replace HO723 := rw_ HO723 hb; have BK724 := am_ (hbox); have GW724 := gw_ (w := w) hg; have GE724 := gw_ (w := w) hg; replace HB := bt_ hb; have NB649_724 := ne_ hg BK649; have NB724_649 := nf_ hg BK649; replace BK649 := bw_ BK649 hb; have NB673_724 := ne_ hg BK673; have NB724_673 := nf_ hg BK673; replace BK673 := bw_ BK673 hb; have NB692_724 := ne_ hg BK692; have NB724_692 := nf_ hg BK692; replace BK692 := bw_ BK692 hb; have NB706_724 := ne_ hg BK706; have NB724_706 := nf_ hg BK706; replace BK706 := bw_ BK706 hb; clear hb hbox hg; have hnb130 := NB724_649.out; have hnc130 := NB649_724.out; have hnb131 := NB724_673.out; have hnc131 := NB673_724.out; have hnb132 := NB724_692.out; have hnc132 := NB692_724.out; have hnb133 := NB724_706.out; have hnc133 := NB706_724.out; obtain ⟨hcz134_0, hcz134_1, hcz134_2, hcz134_3, hcz134_4, hcz134_5, hcz134_6⟩ := cz7_ BK724.out; obtain ⟨hfz134_0, hfz134_1, hfz134_2, hfz134_3, hfz134_4, hfz134_5, hfz134_6⟩ := fz7_ BK724.out; obtain ⟨Ao135, co135, eo135⟩ := Kd.R_slice HO717.out; subst eo135; obtain ⟨Ao136, co136, eo136⟩ := Kd.R_slice HO720.out; subst eo136; obtain ⟨Ao137, co137, eo137⟩ := Kd.R_slice HO723.out; subst eo137; obtain ⟨hcz138_0, hcz138_1, hcz138_2, hcz138_3, hcz138_4, hcz138_5, hcz138_6⟩ := cz7_ BK692.out; obtain ⟨hfz138_0, hfz138_1, hfz138_2, hfz138_3, hfz138_4, hfz138_5, hfz138_6⟩ := fz7_ BK692.out; obtain ⟨Ao139, co139, eo139⟩ := Kd.R_slice HO_693004.out; subst eo139; obtain ⟨Ao140, co140, eo140⟩ := Kd.R_slice HO_693005.out; subst eo140))
       (try simp only [Act.put, sA_, sZ_, sS_])
       go_cut [127] (fun v127 wc => ∃ (kq : Nat) (x127_113 : Bool), v127 = .bool x127_113 ∧ Aside0 (computuslaw21_OccurrenceDisplaces.j3 kq (wrap64 ((wrap64 ((wrap64 ((t715.length : Int) + (t718.length : Int))) - (x693004_3.length : Int))) - (x693005_3.length : Int))) x127_113 t660 t661 t662 t663 x674004_3 x674005_3 x674006_3 0 0 0 (⟨#[]⟩ : ByteArray) x693004_3 x693005_3 x693006_3 t711 t712 t713 t714 t715 t718 t721 = some r) ∧ Aside0 (kq ≤ k3) ∧ Aside0 (Kd.R (Kd.int .i64) 3 wc w.heap.size (fun k_ => some k_ ≠ ((.slice Ao126 x674005_3.length co126) : Value).ownBlock ∧ some k_ ≠ ((.slice Ao127 x674006_3.length co127) : Value).ownBlock ∧ some k_ ≠ ((.slice Ao139 x693004_3.length co139) : Value).ownBlock ∧ some k_ ≠ ((.slice Ao140 x693005_3.length co140) : Value).ownBlock ∧ some k_ ≠ (u693006 : Value).ownBlock ∧ some k_ ≠ (u707004 : Value).ownBlock ∧ some k_ ≠ (u707005 : Value).ownBlock ∧ some k_ ≠ ((.slice Ao119 x707006_3.length co119) : Value).ownBlock ∧ some k_ ≠ ((.slice Ao135 t715.length co135) : Value).ownBlock ∧ some k_ ≠ ((.slice Ao136 t718.length co136) : Value).ownBlock ∧ some k_ ≠ ((.slice Ao137 t721.length co137) : Value).ownBlock) (.slice Ao125 x674004_3.length co125) x674004_3) ∧ Aside0 (Kd.R (Kd.int .i64) 3 wc w.heap.size (fun k_ => some k_ ≠ ((.slice Ao125 x674004_3.length co125) : Value).ownBlock ∧ some k_ ≠ ((.slice Ao127 x674006_3.length co127) : Value).ownBlock ∧ some k_ ≠ ((.slice Ao139 x693004_3.length co139) : Value).ownBlock ∧ some k_ ≠ ((.slice Ao140 x693005_3.length co140) : Value).ownBlock ∧ some k_ ≠ (u693006 : Value).ownBlock ∧ some k_ ≠ (u707004 : Value).ownBlock ∧ some k_ ≠ (u707005 : Value).ownBlock ∧ some k_ ≠ ((.slice Ao119 x707006_3.length co119) : Value).ownBlock ∧ some k_ ≠ ((.slice Ao135 t715.length co135) : Value).ownBlock ∧ some k_ ≠ ((.slice Ao136 t718.length co136) : Value).ownBlock ∧ some k_ ≠ ((.slice Ao137 t721.length co137) : Value).ownBlock) (.slice Ao126 x674005_3.length co126) x674005_3) ∧ Aside0 (Kd.R (Kd.int .i64) 3 wc w.heap.size (fun k_ => some k_ ≠ ((.slice Ao125 x674004_3.length co125) : Value).ownBlock ∧ some k_ ≠ ((.slice Ao126 x674005_3.length co126) : Value).ownBlock ∧ some k_ ≠ ((.slice Ao139 x693004_3.length co139) : Value).ownBlock ∧ some k_ ≠ ((.slice Ao140 x693005_3.length co140) : Value).ownBlock ∧ some k_ ≠ (u693006 : Value).ownBlock ∧ some k_ ≠ (u707004 : Value).ownBlock ∧ some k_ ≠ (u707005 : Value).ownBlock ∧ some k_ ≠ ((.slice Ao119 x707006_3.length co119) : Value).ownBlock ∧ some k_ ≠ ((.slice Ao135 t715.length co135) : Value).ownBlock ∧ some k_ ≠ ((.slice Ao136 t718.length co136) : Value).ownBlock ∧ some k_ ≠ ((.slice Ao137 t721.length co137) : Value).ownBlock) (.slice Ao127 x674006_3.length co127) x674006_3) ∧ Aside0 (Kd.R (Kd.int .i64) 3 wc w.heap.size (fun k_ => some k_ ≠ ((.slice Ao125 x674004_3.length co125) : Value).ownBlock ∧ some k_ ≠ ((.slice Ao126 x674005_3.length co126) : Value).ownBlock ∧ some k_ ≠ ((.slice Ao127 x674006_3.length co127) : Value).ownBlock ∧ some k_ ≠ ((.slice Ao140 x693005_3.length co140) : Value).ownBlock ∧ some k_ ≠ (u693006 : Value).ownBlock ∧ some k_ ≠ (u707004 : Value).ownBlock ∧ some k_ ≠ (u707005 : Value).ownBlock ∧ some k_ ≠ ((.slice Ao119 x707006_3.length co119) : Value).ownBlock ∧ some k_ ≠ ((.slice Ao135 t715.length co135) : Value).ownBlock ∧ some k_ ≠ ((.slice Ao136 t718.length co136) : Value).ownBlock ∧ some k_ ≠ ((.slice Ao137 t721.length co137) : Value).ownBlock) (.slice Ao139 x693004_3.length co139) x693004_3) ∧ Aside0 (Kd.R (Kd.int .i64) 3 wc w.heap.size (fun k_ => some k_ ≠ ((.slice Ao125 x674004_3.length co125) : Value).ownBlock ∧ some k_ ≠ ((.slice Ao126 x674005_3.length co126) : Value).ownBlock ∧ some k_ ≠ ((.slice Ao127 x674006_3.length co127) : Value).ownBlock ∧ some k_ ≠ ((.slice Ao139 x693004_3.length co139) : Value).ownBlock ∧ some k_ ≠ (u693006 : Value).ownBlock ∧ some k_ ≠ (u707004 : Value).ownBlock ∧ some k_ ≠ (u707005 : Value).ownBlock ∧ some k_ ≠ ((.slice Ao119 x707006_3.length co119) : Value).ownBlock ∧ some k_ ≠ ((.slice Ao135 t715.length co135) : Value).ownBlock ∧ some k_ ≠ ((.slice Ao136 t718.length co136) : Value).ownBlock ∧ some k_ ≠ ((.slice Ao137 t721.length co137) : Value).ownBlock) (.slice Ao140 x693005_3.length co140) x693005_3) ∧ Aside0 (Kd.R (Kd.int .i64) 3 wc w.heap.size (fun k_ => some k_ ≠ ((.slice Ao125 x674004_3.length co125) : Value).ownBlock ∧ some k_ ≠ ((.slice Ao126 x674005_3.length co126) : Value).ownBlock ∧ some k_ ≠ ((.slice Ao127 x674006_3.length co127) : Value).ownBlock ∧ some k_ ≠ ((.slice Ao139 x693004_3.length co139) : Value).ownBlock ∧ some k_ ≠ ((.slice Ao140 x693005_3.length co140) : Value).ownBlock ∧ some k_ ≠ (u707004 : Value).ownBlock ∧ some k_ ≠ (u707005 : Value).ownBlock ∧ some k_ ≠ ((.slice Ao119 x707006_3.length co119) : Value).ownBlock ∧ some k_ ≠ ((.slice Ao135 t715.length co135) : Value).ownBlock ∧ some k_ ≠ ((.slice Ao136 t718.length co136) : Value).ownBlock ∧ some k_ ≠ ((.slice Ao137 t721.length co137) : Value).ownBlock) u693006 x693006_3) ∧ Aside0 (Kd.R (Kd.int .i64) 3 wc w.heap.size (fun k_ => some k_ ≠ ((.slice Ao125 x674004_3.length co125) : Value).ownBlock ∧ some k_ ≠ ((.slice Ao126 x674005_3.length co126) : Value).ownBlock ∧ some k_ ≠ ((.slice Ao127 x674006_3.length co127) : Value).ownBlock ∧ some k_ ≠ ((.slice Ao139 x693004_3.length co139) : Value).ownBlock ∧ some k_ ≠ ((.slice Ao140 x693005_3.length co140) : Value).ownBlock ∧ some k_ ≠ (u693006 : Value).ownBlock ∧ some k_ ≠ (u707005 : Value).ownBlock ∧ some k_ ≠ ((.slice Ao119 x707006_3.length co119) : Value).ownBlock ∧ some k_ ≠ ((.slice Ao135 t715.length co135) : Value).ownBlock ∧ some k_ ≠ ((.slice Ao136 t718.length co136) : Value).ownBlock ∧ some k_ ≠ ((.slice Ao137 t721.length co137) : Value).ownBlock) u707004 x707004_3) ∧ Aside0 (Kd.R (Kd.int .i64) 3 wc w.heap.size (fun k_ => some k_ ≠ ((.slice Ao125 x674004_3.length co125) : Value).ownBlock ∧ some k_ ≠ ((.slice Ao126 x674005_3.length co126) : Value).ownBlock ∧ some k_ ≠ ((.slice Ao127 x674006_3.length co127) : Value).ownBlock ∧ some k_ ≠ ((.slice Ao139 x693004_3.length co139) : Value).ownBlock ∧ some k_ ≠ ((.slice Ao140 x693005_3.length co140) : Value).ownBlock ∧ some k_ ≠ (u693006 : Value).ownBlock ∧ some k_ ≠ (u707004 : Value).ownBlock ∧ some k_ ≠ ((.slice Ao119 x707006_3.length co119) : Value).ownBlock ∧ some k_ ≠ ((.slice Ao135 t715.length co135) : Value).ownBlock ∧ some k_ ≠ ((.slice Ao136 t718.length co136) : Value).ownBlock ∧ some k_ ≠ ((.slice Ao137 t721.length co137) : Value).ownBlock) u707005 x707005_3) ∧ Aside0 (Kd.R (Kd.int .i64) 3 wc w.heap.size (fun k_ => some k_ ≠ ((.slice Ao125 x674004_3.length co125) : Value).ownBlock ∧ some k_ ≠ ((.slice Ao126 x674005_3.length co126) : Value).ownBlock ∧ some k_ ≠ ((.slice Ao127 x674006_3.length co127) : Value).ownBlock ∧ some k_ ≠ ((.slice Ao139 x693004_3.length co139) : Value).ownBlock ∧ some k_ ≠ ((.slice Ao140 x693005_3.length co140) : Value).ownBlock ∧ some k_ ≠ (u693006 : Value).ownBlock ∧ some k_ ≠ (u707004 : Value).ownBlock ∧ some k_ ≠ (u707005 : Value).ownBlock ∧ some k_ ≠ ((.slice Ao135 t715.length co135) : Value).ownBlock ∧ some k_ ≠ ((.slice Ao136 t718.length co136) : Value).ownBlock ∧ some k_ ≠ ((.slice Ao137 t721.length co137) : Value).ownBlock) (.slice Ao119 x707006_3.length co119) x707006_3) ∧ Aside0 (Kd.R (Kd.int .i64) 3 wc w.heap.size (fun k_ => some k_ ≠ ((.slice Ao125 x674004_3.length co125) : Value).ownBlock ∧ some k_ ≠ ((.slice Ao126 x674005_3.length co126) : Value).ownBlock ∧ some k_ ≠ ((.slice Ao127 x674006_3.length co127) : Value).ownBlock ∧ some k_ ≠ ((.slice Ao139 x693004_3.length co139) : Value).ownBlock ∧ some k_ ≠ ((.slice Ao140 x693005_3.length co140) : Value).ownBlock ∧ some k_ ≠ (u693006 : Value).ownBlock ∧ some k_ ≠ (u707004 : Value).ownBlock ∧ some k_ ≠ (u707005 : Value).ownBlock ∧ some k_ ≠ ((.slice Ao119 x707006_3.length co119) : Value).ownBlock ∧ some k_ ≠ ((.slice Ao136 t718.length co136) : Value).ownBlock ∧ some k_ ≠ ((.slice Ao137 t721.length co137) : Value).ownBlock) (.slice Ao135 t715.length co135) t715) ∧ Aside0 (Kd.R (Kd.int .i64) 3 wc w.heap.size (fun k_ => some k_ ≠ ((.slice Ao125 x674004_3.length co125) : Value).ownBlock ∧ some k_ ≠ ((.slice Ao126 x674005_3.length co126) : Value).ownBlock ∧ some k_ ≠ ((.slice Ao127 x674006_3.length co127) : Value).ownBlock ∧ some k_ ≠ ((.slice Ao139 x693004_3.length co139) : Value).ownBlock ∧ some k_ ≠ ((.slice Ao140 x693005_3.length co140) : Value).ownBlock ∧ some k_ ≠ (u693006 : Value).ownBlock ∧ some k_ ≠ (u707004 : Value).ownBlock ∧ some k_ ≠ (u707005 : Value).ownBlock ∧ some k_ ≠ ((.slice Ao119 x707006_3.length co119) : Value).ownBlock ∧ some k_ ≠ ((.slice Ao135 t715.length co135) : Value).ownBlock ∧ some k_ ≠ ((.slice Ao137 t721.length co137) : Value).ownBlock) (.slice Ao136 t718.length co136) t718) ∧ Aside0 (Kd.R (Kd.int .i64) 3 wc w.heap.size (fun k_ => some k_ ≠ ((.slice Ao125 x674004_3.length co125) : Value).ownBlock ∧ some k_ ≠ ((.slice Ao126 x674005_3.length co126) : Value).ownBlock ∧ some k_ ≠ ((.slice Ao127 x674006_3.length co127) : Value).ownBlock ∧ some k_ ≠ ((.slice Ao139 x693004_3.length co139) : Value).ownBlock ∧ some k_ ≠ ((.slice Ao140 x693005_3.length co140) : Value).ownBlock ∧ some k_ ≠ (u693006 : Value).ownBlock ∧ some k_ ≠ (u707004 : Value).ownBlock ∧ some k_ ≠ (u707005 : Value).ownBlock ∧ some k_ ≠ ((.slice Ao119 x707006_3.length co119) : Value).ownBlock ∧ some k_ ≠ ((.slice Ao135 t715.length co135) : Value).ownBlock ∧ some k_ ≠ ((.slice Ao136 t718.length co136) : Value).ownBlock) (.slice Ao137 t721.length co137) t721) ∧ Aside0 (wc.heap[gb649]? = some (.cells #[.int .i64 a0_0, (.slice A0_1 l0_1.length c0_1), (.slice A0_2 l0_2.length c0_2)] 36 (0, 0))) ∧ Aside0 (wc.heap[gb673]? = some (.cells #[.int .i64 t660, .int .i64 t661, .int .i64 t662, .string t663, (.slice Ao125 x674004_3.length co125), (.slice Ao126 x674005_3.length co126), (.slice Ao127 x674006_3.length co127)] 42 (0, 0))) ∧ Aside0 (wc.heap[gb692]? = some (.cells #[.int .i64 0, .int .i64 0, .int .i64 0, .string (⟨#[]⟩ : ByteArray), (.slice Ao139 x693004_3.length co139), (.slice Ao140 x693005_3.length co140), u693006] 46 (0, 0))) ∧ Aside0 (wc.heap[gb706]? = some (.cells #[.int .i64 t693, .int .i64 t694, .int .i64 t695, .string t696, u707004, u707005, (.slice Ao119 x707006_3.length co119)] 42 (0, 0))) ∧ Aside0 (wc.heap[gb724]? = some (.cells #[.int .i64 t711, .int .i64 t712, .int .i64 t713, .string t714, (.slice Ao135 t715.length co135), (.slice Ao136 t718.length co136), (.slice Ao137 t721.length co137)] 42 (0, 0))) ∧ Aside0 (Below w.heap.size w wc))
       case first =>
        have H := HC114.out
        clear HC114
        obtain ⟨t725, A141, H⟩ := bs_ H
        by_cases c142 : t725 = true
        rotate_left
        ·replace c142 := Bool.eq_false_iff.mpr c142
         subst c142
         replace H := if_ H
         have H' := am_ H
         clear H
         have hnb180 := NB673_649.out
         have hnc180 := NB649_673.out
         have hnb181 := NB673_692.out
         have hnc181 := NB692_673.out
         have hnb182 := NB673_706.out
         have hnc182 := NB706_673.out
         have hnb183 := NB673_724.out
         have hnc183 := NB724_673.out
         obtain ⟨hcz184_0, hcz184_1, hcz184_2, hcz184_3, hcz184_4, hcz184_5, hcz184_6⟩ := cz7_ BK673.out
         obtain ⟨hfz184_0, hfz184_1, hfz184_2, hfz184_3, hfz184_4, hfz184_5, hfz184_6⟩ := fz7_ BK673.out
         have hnb185 := NB692_649.out
         have hnc185 := NB649_692.out
         have hnb186 := NB692_706.out
         have hnc186 := NB706_692.out
         have hnb187 := NB692_724.out
         have hnc187 := NB724_692.out
         obtain ⟨hcz188_0, hcz188_1, hcz188_2, hcz188_3, hcz188_4, hcz188_5, hcz188_6⟩ := cz7_ BK692.out
         obtain ⟨hfz188_0, hfz188_1, hfz188_2, hfz188_3, hfz188_4, hfz188_5, hfz188_6⟩ := fz7_ BK692.out
         go_wp2_with (first | ((with_reducible refine gate_callee (f := 27) rfl ?_); refine gl_ (some 102) Try.func27 #[.slice Ao125 x674004_3.length co125, .slice Ao139 x693004_3.length co139] ?_; (with_reducible refine (computusref08_Numbers.calls k3 _ _ x674004_3 _ _ x693004_3 false _ ?side1 ?side2 ?side3 ?side4 A141.out).mono ?_); (case side1 => refine (Kd.R_reads' (e := 3) (base := w.heap.size) (ok := fun k_ => ((((some k_ ≠ (.slice Ao126 x674005_3.length co126 : Value).ownBlock ∧ (some k_ ≠ (.slice Ao127 x674006_3.length co127 : Value).ownBlock ∧ (some k_ ≠ (.slice Ao139 x693004_3.length co139 : Value).ownBlock ∧ (some k_ ≠ (.slice Ao140 x693005_3.length co140 : Value).ownBlock ∧ (some k_ ≠ (u693006 : Value).ownBlock ∧ (some k_ ≠ (u707004 : Value).ownBlock ∧ (some k_ ≠ (u707005 : Value).ownBlock ∧ some k_ ≠ (.slice Ao119 x707006_3.length co119 : Value).ownBlock))))))) ∧ some k_ ≠ (.slice Ao135 t715.length co135 : Value).ownBlock) ∧ some k_ ≠ (.slice Ao136 t718.length co136 : Value).ownBlock) ∧ some k_ ≠ (.slice Ao137 t721.length co137 : Value).ownBlock)) (n := x674004_3.length) (c := co125) ?_).2.2; exact (fa_ HO_674004 BK724)); (case side2 => exact (Kd.R_reads' HO_674004.out).2.1); (case side3 => refine (Kd.R_reads' (e := 3) (base := w.heap.size) (ok := fun k_ => ((((some k_ ≠ (.slice Ao125 x674004_3.length co125 : Value).ownBlock ∧ (some k_ ≠ (.slice Ao126 x674005_3.length co126 : Value).ownBlock ∧ (some k_ ≠ (.slice Ao127 x674006_3.length co127 : Value).ownBlock ∧ (some k_ ≠ (.slice Ao140 x693005_3.length co140 : Value).ownBlock ∧ (some k_ ≠ (u693006 : Value).ownBlock ∧ (some k_ ≠ (u707004 : Value).ownBlock ∧ (some k_ ≠ (u707005 : Value).ownBlock ∧ some k_ ≠ (.slice Ao119 x707006_3.length co119 : Value).ownBlock))))))) ∧ some k_ ≠ (.slice Ao135 t715.length co135 : Value).ownBlock) ∧ some k_ ≠ (.slice Ao136 t718.length co136 : Value).ownBlock) ∧ some k_ ≠ (.slice Ao137 t721.length co137 : Value).ownBlock)) (n := x693004_3.length) (c := co139) ?_).2.2; exact (fa_ HO_693004 BK724)); (case side4 => exact (Kd.R_reads' HO_693004.out).2.1); rintro e w' ⟨rfl, ⟨nd, rfl⟩⟩; refine ⟨_, rfl, ?_⟩))
         go_meet
         case rel => exact ⟨_, (true), rs_, H', ⟨by have := HJ3.out; have := HK2.out; have := HK3.out; first | omega | exact Nat.le_refl _⟩, ⟨fa_ HO_674004 BK724⟩, ⟨fa_ HO_674005 BK724⟩, ⟨fa_ HO_674006 BK724⟩, ⟨fa_ HO_693004 BK724⟩, ⟨fa_ HO_693005 BK724⟩, ⟨fa_ HO_693006 BK724⟩, ⟨fa_ HO_707004 BK724⟩, ⟨fa_ HO_707005 BK724⟩, ⟨fa_ HO_707006 BK724⟩, ⟨fa_ HO717 BK724⟩, ⟨fa_ HO720 BK724⟩, ⟨fa_ HO723 BK724⟩, ⟨bf1_ NB649_724 BK649⟩, ⟨bf1_ NB673_724 BK673⟩, ⟨bf1_ NB692_724 BK692⟩, ⟨bf1_ NB706_724 BK706⟩, ⟨by refine bp_ ?_; refine blk_put (cs := #[.int .i64 t711, .int .i64 t712, .int .i64 t713, .string t714, .slice Ao135 t715.length co135, .slice Ao136 t718.length co136, .slice none 0 0]) ?_ 6 _ rfl; refine bp_ ?_; refine blk_put (cs := #[.int .i64 t711, .int .i64 t712, .int .i64 t713, .string t714, .slice Ao135 t715.length co135, .slice none 0 0, .slice none 0 0]) ?_ 5 _ rfl; refine bp_ ?_; refine blk_put (cs := #[.int .i64 t711, .int .i64 t712, .int .i64 t713, .string t714, .slice none 0 0, .slice none 0 0, .slice none 0 0]) ?_ 4 _ rfl; refine bp_ ?_; refine blk_put (cs := #[.int .i64 t711, .int .i64 t712, .int .i64 t713, .string (⟨#[]⟩ : ByteArray), .slice none 0 0, .slice none 0 0, .slice none 0 0]) ?_ 3 _ rfl; refine bp_ ?_; refine blk_put (cs := #[.int .i64 t711, .int .i64 t712, .int .i64 0, .string (⟨#[]⟩ : ByteArray), .slice none 0 0, .slice none 0 0, .slice none 0 0]) ?_ 2 _ rfl; refine bp_ ?_; refine blk_put (cs := #[.int .i64 t711, .int .i64 0, .int .i64 0, .string (⟨#[]⟩ : ByteArray), .slice none 0 0, .slice none 0 0, .slice none 0 0]) ?_ 1 _ rfl; refine bp_ ?_; refine blk_put (cs := #[.int .i64 0, .int .i64 0, .int .i64 0, .string (⟨#[]⟩ : ByteArray), .slice none 0 0, .slice none 0 0, .slice none 0 0]) ?_ 0 _ rfl; exact bk_ BK724.out⟩, ⟨bh_⟩⟩
        subst c142
        replace H := it_ H
        obtain ⟨t726, A143, H⟩ := bs_ H
        by_cases c144 : t726 = true
        rotate_left
        ·replace c144 := Bool.eq_false_iff.mpr c144
         subst c144
         replace H := if_ H
         have H' := am_ H
         clear H
         have hnb171 := NB673_649.out
         have hnc171 := NB649_673.out
         have hnb172 := NB673_692.out
         have hnc172 := NB692_673.out
         have hnb173 := NB673_706.out
         have hnc173 := NB706_673.out
         have hnb174 := NB673_724.out
         have hnc174 := NB724_673.out
         obtain ⟨hcz175_0, hcz175_1, hcz175_2, hcz175_3, hcz175_4, hcz175_5, hcz175_6⟩ := cz7_ BK673.out
         obtain ⟨hfz175_0, hfz175_1, hfz175_2, hfz175_3, hfz175_4, hfz175_5, hfz175_6⟩ := fz7_ BK673.out
         have hnb176 := NB692_649.out
         have hnc176 := NB649_692.out
         have hnb177 := NB692_706.out
         have hnc177 := NB706_692.out
         have hnb178 := NB692_724.out
         have hnc178 := NB724_692.out
         obtain ⟨hcz179_0, hcz179_1, hcz179_2, hcz179_3, hcz179_4, hcz179_5, hcz179_6⟩ := cz7_ BK692.out
         obtain ⟨hfz179_0, hfz179_1, hfz179_2, hfz179_3, hfz179_4, hfz179_5, hfz179_6⟩ := fz7_ BK692.out
         go_wp2_with (first | ((with_reducible refine gate_callee (f := 27) rfl ?_); refine gl_ (some 102) Try.func27 #[.slice Ao125 x674004_3.length co125, .slice Ao139 x693004_3.length co139] ?_; (with_reducible refine (computusref08_Numbers.calls k3 _ _ x674004_3 _ _ x693004_3 true _ ?side1 ?side2 ?side3 ?side4 A141.out).mono ?_); (case side1 => refine (Kd.R_reads' (e := 3) (base := w.heap.size) (ok := fun k_ => ((((some k_ ≠ (.slice Ao126 x674005_3.length co126 : Value).ownBlock ∧ (some k_ ≠ (.slice Ao127 x674006_3.length co127 : Value).ownBlock ∧ (some k_ ≠ (.slice Ao139 x693004_3.length co139 : Value).ownBlock ∧ (some k_ ≠ (.slice Ao140 x693005_3.length co140 : Value).ownBlock ∧ (some k_ ≠ (u693006 : Value).ownBlock ∧ (some k_ ≠ (u707004 : Value).ownBlock ∧ (some k_ ≠ (u707005 : Value).ownBlock ∧ some k_ ≠ (.slice Ao119 x707006_3.length co119 : Value).ownBlock))))))) ∧ some k_ ≠ (.slice Ao135 t715.length co135 : Value).ownBlock) ∧ some k_ ≠ (.slice Ao136 t718.length co136 : Value).ownBlock) ∧ some k_ ≠ (.slice Ao137 t721.length co137 : Value).ownBlock)) (n := x674004_3.length) (c := co125) ?_).2.2; exact (fa_ HO_674004 BK724)); (case side2 => exact (Kd.R_reads' HO_674004.out).2.1); (case side3 => refine (Kd.R_reads' (e := 3) (base := w.heap.size) (ok := fun k_ => ((((some k_ ≠ (.slice Ao125 x674004_3.length co125 : Value).ownBlock ∧ (some k_ ≠ (.slice Ao126 x674005_3.length co126 : Value).ownBlock ∧ (some k_ ≠ (.slice Ao127 x674006_3.length co127 : Value).ownBlock ∧ (some k_ ≠ (.slice Ao140 x693005_3.length co140 : Value).ownBlock ∧ (some k_ ≠ (u693006 : Value).ownBlock ∧ (some k_ ≠ (u707004 : Value).ownBlock ∧ (some k_ ≠ (u707005 : Value).ownBlock ∧ some k_ ≠ (.slice Ao119 x707006_3.length co119 : Value).ownBlock))))))) ∧ some k_ ≠ (.slice Ao135 t715.length co135 : Value).ownBlock) ∧ some k_ ≠ (.slice Ao136 t718.length co136 : Value).ownBlock) ∧ some k_ ≠ (.slice Ao137 t721.length co137 : Value).ownBlock)) (n := x693004_3.length) (c := co139) ?_).2.2; exact (fa_ HO_693004 BK724)); (case side4 => exact (Kd.R_reads' HO_693004.out).2.1); rintro e w' ⟨rfl, ⟨nd, rfl⟩⟩; refine ⟨_, rfl, ?_⟩) | (go_at_call 27; (with_reducible refine (computusref08_Numbers.calls k3 _ _ x674005_3 _ _ x693005_3 false _ ?side1 ?side2 ?side3 ?side4 A143.out).mono ?_); (case side1 => refine (Kd.R_reads' (e := 3) (base := w.heap.size) (ok := fun k_ => ((((some k_ ≠ (.slice Ao125 x674004_3.length co125 : Value).ownBlock ∧ (some k_ ≠ (.slice Ao127 x674006_3.length co127 : Value).ownBlock ∧ (some k_ ≠ (.slice Ao139 x693004_3.length co139 : Value).ownBlock ∧ (some k_ ≠ (.slice Ao140 x693005_3.length co140 : Value).ownBlock ∧ (some k_ ≠ (u693006 : Value).ownBlock ∧ (some k_ ≠ (u707004 : Value).ownBlock ∧ (some k_ ≠ (u707005 : Value).ownBlock ∧ some k_ ≠ (.slice Ao119 x707006_3.length co119 : Value).ownBlock))))))) ∧ some k_ ≠ (.slice Ao135 t715.length co135 : Value).ownBlock) ∧ some k_ ≠ (.slice Ao136 t718.length co136 : Value).ownBlock) ∧ some k_ ≠ (.slice Ao137 t721.length co137 : Value).ownBlock)) (n := x674005_3.length) (c := co126) ?_).2.2; exact (fa_ HO_674005 BK724)); (case side2 => exact (Kd.R_reads' HO_674005.out).2.1); (case side3 => refine (Kd.R_reads' (e := 3) (base := w.heap.size) (ok := fun k_ => ((((some k_ ≠ (.slice Ao125 x674004_3.length co125 : Value).ownBlock ∧ (some k_ ≠ (.slice Ao126 x674005_3.length co126 : Value).ownBlock ∧ (some k_ ≠ (.slice Ao127 x674006_3.length co127 : Value).ownBlock ∧ (some k_ ≠ (.slice Ao139 x693004_3.length co139 : Value).ownBlock ∧ (some k_ ≠ (u693006 : Value).ownBlock ∧ (some k_ ≠ (u707004 : Value).ownBlock ∧ (some k_ ≠ (u707005 : Value).ownBlock ∧ some k_ ≠ (.slice Ao119 x707006_3.length co119 : Value).ownBlock))))))) ∧ some k_ ≠ (.slice Ao135 t715.length co135 : Value).ownBlock) ∧ some k_ ≠ (.slice Ao136 t718.length co136 : Value).ownBlock) ∧ some k_ ≠ (.slice Ao137 t721.length co137 : Value).ownBlock)) (n := x693005_3.length) (c := co140) ?_).2.2; exact (fa_ HO_693005 BK724)); (case side4 => exact (Kd.R_reads' HO_693005.out).2.1); rintro e w' ⟨rfl, ⟨nd, rfl⟩⟩))
         go_meet
         case rel => exact ⟨_, (true), rs_, H', ⟨by have := HJ3.out; have := HK2.out; have := HK3.out; first | omega | exact Nat.le_refl _⟩, ⟨fa_ HO_674004 BK724⟩, ⟨fa_ HO_674005 BK724⟩, ⟨fa_ HO_674006 BK724⟩, ⟨fa_ HO_693004 BK724⟩, ⟨fa_ HO_693005 BK724⟩, ⟨fa_ HO_693006 BK724⟩, ⟨fa_ HO_707004 BK724⟩, ⟨fa_ HO_707005 BK724⟩, ⟨fa_ HO_707006 BK724⟩, ⟨fa_ HO717 BK724⟩, ⟨fa_ HO720 BK724⟩, ⟨fa_ HO723 BK724⟩, ⟨bf1_ NB649_724 BK649⟩, ⟨bf1_ NB673_724 BK673⟩, ⟨bf1_ NB692_724 BK692⟩, ⟨bf1_ NB706_724 BK706⟩, ⟨by refine bp_ ?_; refine blk_put (cs := #[.int .i64 t711, .int .i64 t712, .int .i64 t713, .string t714, .slice Ao135 t715.length co135, .slice Ao136 t718.length co136, .slice none 0 0]) ?_ 6 _ rfl; refine bp_ ?_; refine blk_put (cs := #[.int .i64 t711, .int .i64 t712, .int .i64 t713, .string t714, .slice Ao135 t715.length co135, .slice none 0 0, .slice none 0 0]) ?_ 5 _ rfl; refine bp_ ?_; refine blk_put (cs := #[.int .i64 t711, .int .i64 t712, .int .i64 t713, .string t714, .slice none 0 0, .slice none 0 0, .slice none 0 0]) ?_ 4 _ rfl; refine bp_ ?_; refine blk_put (cs := #[.int .i64 t711, .int .i64 t712, .int .i64 t713, .string (⟨#[]⟩ : ByteArray), .slice none 0 0, .slice none 0 0, .slice none 0 0]) ?_ 3 _ rfl; refine bp_ ?_; refine blk_put (cs := #[.int .i64 t711, .int .i64 t712, .int .i64 0, .string (⟨#[]⟩ : ByteArray), .slice none 0 0, .slice none 0 0, .slice none 0 0]) ?_ 2 _ rfl; refine bp_ ?_; refine blk_put (cs := #[.int .i64 t711, .int .i64 0, .int .i64 0, .string (⟨#[]⟩ : ByteArray), .slice none 0 0, .slice none 0 0, .slice none 0 0]) ?_ 1 _ rfl; refine bp_ ?_; refine blk_put (cs := #[.int .i64 0, .int .i64 0, .int .i64 0, .string (⟨#[]⟩ : ByteArray), .slice none 0 0, .slice none 0 0, .slice none 0 0]) ?_ 0 _ rfl; exact bk_ BK724.out⟩, ⟨bh_⟩⟩
        subst c144
        replace H := it_ H
        obtain ⟨t727, A145, H⟩ := bs_ H
        by_cases c146 : t727 = true
        rotate_left
        ·replace c146 := Bool.eq_false_iff.mpr c146
         subst c146
         replace H := if_ H
         have H' := am_ H
         clear H
         have hnb161 := NB673_649.out
         have hnc161 := NB649_673.out
         have hnb162 := NB673_692.out
         have hnc162 := NB692_673.out
         have hnb163 := NB673_706.out
         have hnc163 := NB706_673.out
         have hnb164 := NB673_724.out
         have hnc164 := NB724_673.out
         obtain ⟨hcz165_0, hcz165_1, hcz165_2, hcz165_3, hcz165_4, hcz165_5, hcz165_6⟩ := cz7_ BK673.out
         obtain ⟨hfz165_0, hfz165_1, hfz165_2, hfz165_3, hfz165_4, hfz165_5, hfz165_6⟩ := fz7_ BK673.out
         have hnb166 := NB692_649.out
         have hnc166 := NB649_692.out
         have hnb167 := NB692_706.out
         have hnc167 := NB706_692.out
         have hnb168 := NB692_724.out
         have hnc168 := NB724_692.out
         obtain ⟨hcz169_0, hcz169_1, hcz169_2, hcz169_3, hcz169_4, hcz169_5, hcz169_6⟩ := cz7_ BK692.out
         obtain ⟨hfz169_0, hfz169_1, hfz169_2, hfz169_3, hfz169_4, hfz169_5, hfz169_6⟩ := fz7_ BK692.out
         go_wp2_with (first | ((with_reducible refine gate_callee (f := 27) rfl ?_); refine gl_ (some 102) Try.func27 #[.slice Ao125 x674004_3.length co125, .slice Ao139 x693004_3.length co139] ?_; (with_reducible refine (computusref08_Numbers.calls k3 _ _ x674004_3 _ _ x693004_3 true _ ?side1 ?side2 ?side3 ?side4 A141.out).mono ?_); (case side1 => refine (Kd.R_reads' (e := 3) (base := w.heap.size) (ok := fun k_ => ((((some k_ ≠ (.slice Ao126 x674005_3.length co126 : Value).ownBlock ∧ (some k_ ≠ (.slice Ao127 x674006_3.length co127 : Value).ownBlock ∧ (some k_ ≠ (.slice Ao139 x693004_3.length co139 : Value).ownBlock ∧ (some k_ ≠ (.slice Ao140 x693005_3.length co140 : Value).ownBlock ∧ (some k_ ≠ (u693006 : Value).ownBlock ∧ (some k_ ≠ (u707004 : Value).ownBlock ∧ (some k_ ≠ (u707005 : Value).ownBlock ∧ some k_ ≠ (.slice Ao119 x707006_3.length co119 : Value).ownBlock))))))) ∧ some k_ ≠ (.slice Ao135 t715.length co135 : Value).ownBlock) ∧ some k_ ≠ (.slice Ao136 t718.length co136 : Value).ownBlock) ∧ some k_ ≠ (.slice Ao137 t721.length co137 : Value).ownBlock)) (n := x674004_3.length) (c := co125) ?_).2.2; exact (fa_ HO_674004 BK724)); (case side2 => exact (Kd.R_reads' HO_674004.out).2.1); (case side3 => refine (Kd.R_reads' (e := 3) (base := w.heap.size) (ok := fun k_ => ((((some k_ ≠ (.slice Ao125 x674004_3.length co125 : Value).ownBlock ∧ (some k_ ≠ (.slice Ao126 x674005_3.length co126 : Value).ownBlock ∧ (some k_ ≠ (.slice Ao127 x674006_3.length co127 : Value).ownBlock ∧ (some k_ ≠ (.slice Ao140 x693005_3.length co140 : Value).ownBlock ∧ (some k_ ≠ (u693006 : Value).ownBlock ∧ (some k_ ≠ (u707004 : Value).ownBlock ∧ (some k_ ≠ (u707005 : Value).ownBlock ∧ some k_ ≠ (.slice Ao119 x707006_3.length co119 : Value).ownBlock))))))) ∧ some k_ ≠ (.slice Ao135 t715.length co135 : Value).ownBlock) ∧ some k_ ≠ (.slice Ao136 t718.length co136 : Value).ownBlock) ∧ some k_ ≠ (.slice Ao137 t721.length co137 : Value).ownBlock)) (n := x693004_3.length) (c := co139) ?_).2.2; exact (fa_ HO_693004 BK724)); (case side4 => exact (Kd.R_reads' HO_693004.out).2.1); rintro e w' ⟨rfl, ⟨nd, rfl⟩⟩; refine ⟨_, rfl, ?_⟩) | (go_at_call 27; (with_reducible refine (computusref08_Numbers.calls k3 _ _ x674005_3 _ _ x693005_3 true _ ?side1 ?side2 ?side3 ?side4 A143.out).mono ?_); (case side1 => refine (Kd.R_reads' (e := 3) (base := w.heap.size) (ok := fun k_ => ((((some k_ ≠ (.slice Ao125 x674004_3.length co125 : Value).ownBlock ∧ (some k_ ≠ (.slice Ao127 x674006_3.length co127 : Value).ownBlock ∧ (some k_ ≠ (.slice Ao139 x693004_3.length co139 : Value).ownBlock ∧ (some k_ ≠ (.slice Ao140 x693005_3.length co140 : Value).ownBlock ∧ (some k_ ≠ (u693006 : Value).ownBlock ∧ (some k_ ≠ (u707004 : Value).ownBlock ∧ (some k_ ≠ (u707005 : Value).ownBlock ∧ some k_ ≠ (.slice Ao119 x707006_3.length co119 : Value).ownBlock))))))) ∧ some k_ ≠ (.slice Ao135 t715.length co135 : Value).ownBlock) ∧ some k_ ≠ (.slice Ao136 t718.length co136 : Value).ownBlock) ∧ some k_ ≠ (.slice Ao137 t721.length co137 : Value).ownBlock)) (n := x674005_3.length) (c := co126) ?_).2.2; exact (fa_ HO_674005 BK724)); (case side2 => exact (Kd.R_reads' HO_674005.out).2.1); (case side3 => refine (Kd.R_reads' (e := 3) (base := w.heap.size) (ok := fun k_ => ((((some k_ ≠ (.slice Ao125 x674004_3.length co125 : Value).ownBlock ∧ (some k_ ≠ (.slice Ao126 x674005_3.length co126 : Value).ownBlock ∧ (some k_ ≠ (.slice Ao127 x674006_3.length co127 : Value).ownBlock ∧ (some k_ ≠ (.slice Ao139 x693004_3.length co139 : Value).ownBlock ∧ (some k_ ≠ (u693006 : Value).ownBlock ∧ (some k_ ≠ (u707004 : Value).ownBlock ∧ (some k_ ≠ (u707005 : Value).ownBlock ∧ some k_ ≠ (.slice Ao119 x707006_3.length co119 : Value).ownBlock))))))) ∧ some k_ ≠ (.slice Ao135 t715.length co135 : Value).ownBlock) ∧ some k_ ≠ (.slice Ao136 t718.length co136 : Value).ownBlock) ∧ some k_ ≠ (.slice Ao137 t721.length co137 : Value).ownBlock)) (n := x693005_3.length) (c := co140) ?_).2.2; exact (fa_ HO_693005 BK724)); (case side4 => exact (Kd.R_reads' HO_693005.out).2.1); rintro e w' ⟨rfl, ⟨nd, rfl⟩⟩; obtain ⟨Ao170, co170, eo170⟩ := Kd.R_slice HO_693006.out; subst eo170) | (go_at_call 27; (with_reducible refine (computusref08_Numbers.calls k3 _ _ x674006_3 _ _ x693006_3 false _ ?side1 ?side2 ?side3 ?side4 A145.out).mono ?_); (case side1 => refine (Kd.R_reads' (e := 3) (base := w.heap.size) (ok := fun k_ => ((((some k_ ≠ (.slice Ao125 x674004_3.length co125 : Value).ownBlock ∧ (some k_ ≠ (.slice Ao126 x674005_3.length co126 : Value).ownBlock ∧ (some k_ ≠ (.slice Ao139 x693004_3.length co139 : Value).ownBlock ∧ (some k_ ≠ (.slice Ao140 x693005_3.length co140 : Value).ownBlock ∧ (some k_ ≠ (.slice Ao170 x693006_3.length co170 : Value).ownBlock ∧ (some k_ ≠ (u707004 : Value).ownBlock ∧ (some k_ ≠ (u707005 : Value).ownBlock ∧ some k_ ≠ (.slice Ao119 x707006_3.length co119 : Value).ownBlock))))))) ∧ some k_ ≠ (.slice Ao135 t715.length co135 : Value).ownBlock) ∧ some k_ ≠ (.slice Ao136 t718.length co136 : Value).ownBlock) ∧ some k_ ≠ (.slice Ao137 t721.length co137 : Value).ownBlock)) (n := x674006_3.length) (c := co127) ?_).2.2; exact (fa_ HO_674006 BK724)); (case side2 => exact (Kd.R_reads' HO_674006.out).2.1); (case side3 => refine (Kd.R_reads' (e := 3) (base := w.heap.size) (ok := fun k_ => ((((some k_ ≠ (.slice Ao125 x674004_3.length co125 : Value).ownBlock ∧ (some k_ ≠ (.slice Ao126 x674005_3.length co126 : Value).ownBlock ∧ (some k_ ≠ (.slice Ao127 x674006_3.length co127 : Value).ownBlock ∧ (some k_ ≠ (.slice Ao139 x693004_3.length co139 : Value).ownBlock ∧ (some k_ ≠ (.slice Ao140 x693005_3.length co140 : Value).ownBlock ∧ (some k_ ≠ (u707004 : Value).ownBlock ∧ (some k_ ≠ (u707005 : Value).ownBlock ∧ some k_ ≠ (.slice Ao119 x707006_3.length co119 : Value).ownBlock))))))) ∧ some k_ ≠ (.slice Ao135 t715.length co135 : Value).ownBlock) ∧ some k_ ≠ (.slice Ao136 t718.length co136 : Value).ownBlock) ∧ some k_ ≠ (.slice Ao137 t721.length co137 : Value).ownBlock)) (n := x693006_3.length) (c := co170) ?_).2.2; exact (fa_ HO_693006 BK724)); (case side4 => exact (Kd.R_reads' HO_693006.out).2.1); rintro e w' ⟨rfl, ⟨nd, rfl⟩⟩))
         go_meet
         case rel => exact ⟨_, (true), rs_, H', ⟨by have := HJ3.out; have := HK2.out; have := HK3.out; first | omega | exact Nat.le_refl _⟩, ⟨fa_ HO_674004 BK724⟩, ⟨fa_ HO_674005 BK724⟩, ⟨fa_ HO_674006 BK724⟩, ⟨fa_ HO_693004 BK724⟩, ⟨fa_ HO_693005 BK724⟩, ⟨fa_ HO_693006 BK724⟩, ⟨fa_ HO_707004 BK724⟩, ⟨fa_ HO_707005 BK724⟩, ⟨fa_ HO_707006 BK724⟩, ⟨fa_ HO717 BK724⟩, ⟨fa_ HO720 BK724⟩, ⟨fa_ HO723 BK724⟩, ⟨bf1_ NB649_724 BK649⟩, ⟨bf1_ NB673_724 BK673⟩, ⟨bf1_ NB692_724 BK692⟩, ⟨bf1_ NB706_724 BK706⟩, ⟨by refine bp_ ?_; refine blk_put (cs := #[.int .i64 t711, .int .i64 t712, .int .i64 t713, .string t714, .slice Ao135 t715.length co135, .slice Ao136 t718.length co136, .slice none 0 0]) ?_ 6 _ rfl; refine bp_ ?_; refine blk_put (cs := #[.int .i64 t711, .int .i64 t712, .int .i64 t713, .string t714, .slice Ao135 t715.length co135, .slice none 0 0, .slice none 0 0]) ?_ 5 _ rfl; refine bp_ ?_; refine blk_put (cs := #[.int .i64 t711, .int .i64 t712, .int .i64 t713, .string t714, .slice none 0 0, .slice none 0 0, .slice none 0 0]) ?_ 4 _ rfl; refine bp_ ?_; refine blk_put (cs := #[.int .i64 t711, .int .i64 t712, .int .i64 t713, .string (⟨#[]⟩ : ByteArray), .slice none 0 0, .slice none 0 0, .slice none 0 0]) ?_ 3 _ rfl; refine bp_ ?_; refine blk_put (cs := #[.int .i64 t711, .int .i64 t712, .int .i64 0, .string (⟨#[]⟩ : ByteArray), .slice none 0 0, .slice none 0 0, .slice none 0 0]) ?_ 2 _ rfl; refine bp_ ?_; refine blk_put (cs := #[.int .i64 t711, .int .i64 0, .int .i64 0, .string (⟨#[]⟩ : ByteArray), .slice none 0 0, .slice none 0 0, .slice none 0 0]) ?_ 1 _ rfl; refine bp_ ?_; refine blk_put (cs := #[.int .i64 0, .int .i64 0, .int .i64 0, .string (⟨#[]⟩ : ByteArray), .slice none 0 0, .slice none 0 0, .slice none 0 0]) ?_ 0 _ rfl; exact bk_ BK724.out⟩, ⟨bh_⟩⟩
        subst c146
        replace H := it_ H
        obtain ⟨t728, A147, H⟩ := bs_ H
        have H' := am_ H
        clear H
        have hnb148 := NB673_649.out
        have hnc148 := NB649_673.out
        have hnb149 := NB673_692.out
        have hnc149 := NB692_673.out
        have hnb150 := NB673_706.out
        have hnc150 := NB706_673.out
        have hnb151 := NB673_724.out
        have hnc151 := NB724_673.out
        obtain ⟨hcz152_0, hcz152_1, hcz152_2, hcz152_3, hcz152_4, hcz152_5, hcz152_6⟩ := cz7_ BK673.out
        obtain ⟨hfz152_0, hfz152_1, hfz152_2, hfz152_3, hfz152_4, hfz152_5, hfz152_6⟩ := fz7_ BK673.out
        have hnb153 := NB692_649.out
        have hnc153 := NB649_692.out
        have hnb154 := NB692_706.out
        have hnc154 := NB706_692.out
        have hnb155 := NB692_724.out
        have hnc155 := NB724_692.out
        obtain ⟨hcz156_0, hcz156_1, hcz156_2, hcz156_3, hcz156_4, hcz156_5, hcz156_6⟩ := cz7_ BK692.out
        obtain ⟨hfz156_0, hfz156_1, hfz156_2, hfz156_3, hfz156_4, hfz156_5, hfz156_6⟩ := fz7_ BK692.out
        go_wp2_with (first | ((with_reducible refine gate_callee (f := 27) rfl ?_); refine gl_ (some 102) Try.func27 #[.slice Ao125 x674004_3.length co125, .slice Ao139 x693004_3.length co139] ?_; (with_reducible refine (computusref08_Numbers.calls k3 _ _ x674004_3 _ _ x693004_3 true _ ?side1 ?side2 ?side3 ?side4 A141.out).mono ?_); (case side1 => refine (Kd.R_reads' (e := 3) (base := w.heap.size) (ok := fun k_ => ((((some k_ ≠ (.slice Ao126 x674005_3.length co126 : Value).ownBlock ∧ (some k_ ≠ (.slice Ao127 x674006_3.length co127 : Value).ownBlock ∧ (some k_ ≠ (.slice Ao139 x693004_3.length co139 : Value).ownBlock ∧ (some k_ ≠ (.slice Ao140 x693005_3.length co140 : Value).ownBlock ∧ (some k_ ≠ (u693006 : Value).ownBlock ∧ (some k_ ≠ (u707004 : Value).ownBlock ∧ (some k_ ≠ (u707005 : Value).ownBlock ∧ some k_ ≠ (.slice Ao119 x707006_3.length co119 : Value).ownBlock))))))) ∧ some k_ ≠ (.slice Ao135 t715.length co135 : Value).ownBlock) ∧ some k_ ≠ (.slice Ao136 t718.length co136 : Value).ownBlock) ∧ some k_ ≠ (.slice Ao137 t721.length co137 : Value).ownBlock)) (n := x674004_3.length) (c := co125) ?_).2.2; exact (fa_ HO_674004 BK724)); (case side2 => exact (Kd.R_reads' HO_674004.out).2.1); (case side3 => refine (Kd.R_reads' (e := 3) (base := w.heap.size) (ok := fun k_ => ((((some k_ ≠ (.slice Ao125 x674004_3.length co125 : Value).ownBlock ∧ (some k_ ≠ (.slice Ao126 x674005_3.length co126 : Value).ownBlock ∧ (some k_ ≠ (.slice Ao127 x674006_3.length co127 : Value).ownBlock ∧ (some k_ ≠ (.slice Ao140 x693005_3.length co140 : Value).ownBlock ∧ (some k_ ≠ (u693006 : Value).ownBlock ∧ (some k_ ≠ (u707004 : Value).ownBlock ∧ (some k_ ≠ (u707005 : Value).ownBlock ∧ some k_ ≠ (.slice Ao119 x707006_3.length co119 : Value).ownBlock))))))) ∧ some k_ ≠ (.slice Ao135 t715.length co135 : Value).ownBlock) ∧ some k_ ≠ (.slice Ao136 t718.length co136 : Value).ownBlock) ∧ some k_ ≠ (.slice Ao137 t721.length co137 : Value).ownBlock)) (n := x693004_3.length) (c := co139) ?_).2.2; exact (fa_ HO_693004 BK724)); (case side4 => exact (Kd.R_reads' HO_693004.out).2.1); rintro e w' ⟨rfl, ⟨nd, rfl⟩⟩; refine ⟨_, rfl, ?_⟩) | (go_at_call 27; (with_reducible refine (computusref08_Numbers.calls k3 _ _ x674005_3 _ _ x693005_3 true _ ?side1 ?side2 ?side3 ?side4 A143.out).mono ?_); (case side1 => refine (Kd.R_reads' (e := 3) (base := w.heap.size) (ok := fun k_ => ((((some k_ ≠ (.slice Ao125 x674004_3.length co125 : Value).ownBlock ∧ (some k_ ≠ (.slice Ao127 x674006_3.length co127 : Value).ownBlock ∧ (some k_ ≠ (.slice Ao139 x693004_3.length co139 : Value).ownBlock ∧ (some k_ ≠ (.slice Ao140 x693005_3.length co140 : Value).ownBlock ∧ (some k_ ≠ (u693006 : Value).ownBlock ∧ (some k_ ≠ (u707004 : Value).ownBlock ∧ (some k_ ≠ (u707005 : Value).ownBlock ∧ some k_ ≠ (.slice Ao119 x707006_3.length co119 : Value).ownBlock))))))) ∧ some k_ ≠ (.slice Ao135 t715.length co135 : Value).ownBlock) ∧ some k_ ≠ (.slice Ao136 t718.length co136 : Value).ownBlock) ∧ some k_ ≠ (.slice Ao137 t721.length co137 : Value).ownBlock)) (n := x674005_3.length) (c := co126) ?_).2.2; exact (fa_ HO_674005 BK724)); (case side2 => exact (Kd.R_reads' HO_674005.out).2.1); (case side3 => refine (Kd.R_reads' (e := 3) (base := w.heap.size) (ok := fun k_ => ((((some k_ ≠ (.slice Ao125 x674004_3.length co125 : Value).ownBlock ∧ (some k_ ≠ (.slice Ao126 x674005_3.length co126 : Value).ownBlock ∧ (some k_ ≠ (.slice Ao127 x674006_3.length co127 : Value).ownBlock ∧ (some k_ ≠ (.slice Ao139 x693004_3.length co139 : Value).ownBlock ∧ (some k_ ≠ (u693006 : Value).ownBlock ∧ (some k_ ≠ (u707004 : Value).ownBlock ∧ (some k_ ≠ (u707005 : Value).ownBlock ∧ some k_ ≠ (.slice Ao119 x707006_3.length co119 : Value).ownBlock))))))) ∧ some k_ ≠ (.slice Ao135 t715.length co135 : Value).ownBlock) ∧ some k_ ≠ (.slice Ao136 t718.length co136 : Value).ownBlock) ∧ some k_ ≠ (.slice Ao137 t721.length co137 : Value).ownBlock)) (n := x693005_3.length) (c := co140) ?_).2.2; exact (fa_ HO_693005 BK724)); (case side4 => exact (Kd.R_reads' HO_693005.out).2.1); rintro e w' ⟨rfl, ⟨nd, rfl⟩⟩; obtain ⟨Ao157, co157, eo157⟩ := Kd.R_slice HO_693006.out; subst eo157) | (go_at_call 27; (with_reducible refine (computusref08_Numbers.calls k3 _ _ x674006_3 _ _ x693006_3 true _ ?side1 ?side2 ?side3 ?side4 A145.out).mono ?_); (case side1 => refine (Kd.R_reads' (e := 3) (base := w.heap.size) (ok := fun k_ => ((((some k_ ≠ (.slice Ao125 x674004_3.length co125 : Value).ownBlock ∧ (some k_ ≠ (.slice Ao126 x674005_3.length co126 : Value).ownBlock ∧ (some k_ ≠ (.slice Ao139 x693004_3.length co139 : Value).ownBlock ∧ (some k_ ≠ (.slice Ao140 x693005_3.length co140 : Value).ownBlock ∧ (some k_ ≠ (.slice Ao157 x693006_3.length co157 : Value).ownBlock ∧ (some k_ ≠ (u707004 : Value).ownBlock ∧ (some k_ ≠ (u707005 : Value).ownBlock ∧ some k_ ≠ (.slice Ao119 x707006_3.length co119 : Value).ownBlock))))))) ∧ some k_ ≠ (.slice Ao135 t715.length co135 : Value).ownBlock) ∧ some k_ ≠ (.slice Ao136 t718.length co136 : Value).ownBlock) ∧ some k_ ≠ (.slice Ao137 t721.length co137 : Value).ownBlock)) (n := x674006_3.length) (c := co127) ?_).2.2; exact (fa_ HO_674006 BK724)); (case side2 => exact (Kd.R_reads' HO_674006.out).2.1); (case side3 => refine (Kd.R_reads' (e := 3) (base := w.heap.size) (ok := fun k_ => ((((some k_ ≠ (.slice Ao125 x674004_3.length co125 : Value).ownBlock ∧ (some k_ ≠ (.slice Ao126 x674005_3.length co126 : Value).ownBlock ∧ (some k_ ≠ (.slice Ao127 x674006_3.length co127 : Value).ownBlock ∧ (some k_ ≠ (.slice Ao139 x693004_3.length co139 : Value).ownBlock ∧ (some k_ ≠ (.slice Ao140 x693005_3.length co140 : Value).ownBlock ∧ (some k_ ≠ (u707004 : Value).ownBlock ∧ (some k_ ≠ (u707005 : Value).ownBlock ∧ some k_ ≠ (.slice Ao119 x707006_3.length co119 : Value).ownBlock))))))) ∧ some k_ ≠ (.slice Ao135 t715.length co135 : Value).ownBlock) ∧ some k_ ≠ (.slice Ao136 t718.length co136 : Value).ownBlock) ∧ some k_ ≠ (.slice Ao137 t721.length co137 : Value).ownBlock)) (n := x693006_3.length) (c := co157) ?_).2.2; exact (fa_ HO_693006 BK724)); (case side4 => exact (Kd.R_reads' HO_693006.out).2.1); rintro e w' ⟨rfl, ⟨nd, rfl⟩⟩; have hnb158 := NB724_649.out; have hnc158 := NB649_724.out; have hnb159 := NB724_706.out; have hnc159 := NB706_724.out; obtain ⟨hcz160_0, hcz160_1, hcz160_2, hcz160_3, hcz160_4, hcz160_5, hcz160_6⟩ := cz7_ BK724.out; obtain ⟨hfz160_0, hfz160_1, hfz160_2, hfz160_3, hfz160_4, hfz160_5, hfz160_6⟩ := fz7_ BK724.out) | (go_at_call 27; (with_reducible refine (computusref08_Numbers.calls k3 _ _ t721 _ _ x693006_3 t728 _ ?side1 ?side2 ?side3 ?side4 A147.out).mono ?_); (case side1 => refine (Kd.R_reads' (e := 3) (base := w.heap.size) (ok := fun k_ => ((((((((((some k_ ≠ (.slice Ao135 t715.length co135 : Value).ownBlock ∧ some k_ ≠ (.slice Ao136 t718.length co136 : Value).ownBlock) ∧ some k_ ≠ (.slice Ao125 x674004_3.length co125 : Value).ownBlock) ∧ some k_ ≠ (.slice Ao126 x674005_3.length co126 : Value).ownBlock) ∧ some k_ ≠ (.slice Ao127 x674006_3.length co127 : Value).ownBlock) ∧ some k_ ≠ (.slice Ao139 x693004_3.length co139 : Value).ownBlock) ∧ some k_ ≠ (.slice Ao140 x693005_3.length co140 : Value).ownBlock) ∧ some k_ ≠ (.slice Ao157 x693006_3.length co157 : Value).ownBlock) ∧ some k_ ≠ (u707004 : Value).ownBlock) ∧ some k_ ≠ (u707005 : Value).ownBlock) ∧ some k_ ≠ (.slice Ao119 x707006_3.length co119 : Value).ownBlock)) (n := t721.length) (c := co137) ?_).2.2; exact (fa_ HO723 BK724)); (case side2 => exact (Kd.R_reads' HO723.out).2.1); (case side3 => refine (Kd.R_reads' (e := 3) (base := w.heap.size) (ok := fun k_ => ((((some k_ ≠ (.slice Ao125 x674004_3.length co125 : Value).ownBlock ∧ (some k_ ≠ (.slice Ao126 x674005_3.length co126 : Value).ownBlock ∧ (some k_ ≠ (.slice Ao127 x674006_3.length co127 : Value).ownBlock ∧ (some k_ ≠ (.slice Ao139 x693004_3.length co139 : Value).ownBlock ∧ (some k_ ≠ (.slice Ao140 x693005_3.length co140 : Value).ownBlock ∧ (some k_ ≠ (u707004 : Value).ownBlock ∧ (some k_ ≠ (u707005 : Value).ownBlock ∧ some k_ ≠ (.slice Ao119 x707006_3.length co119 : Value).ownBlock))))))) ∧ some k_ ≠ (.slice Ao135 t715.length co135 : Value).ownBlock) ∧ some k_ ≠ (.slice Ao136 t718.length co136 : Value).ownBlock) ∧ some k_ ≠ (.slice Ao137 t721.length co137 : Value).ownBlock)) (n := x693006_3.length) (c := co157) ?_).2.2; exact (fa_ HO_693006 BK724)); (case side4 => exact (Kd.R_reads' HO_693006.out).2.1); rintro e w' ⟨rfl, ⟨nd, rfl⟩⟩))
        go_meet
        case rel => exact ⟨_, (!t728), rs_, H', ⟨by have := HJ3.out; have := HK2.out; have := HK3.out; first | omega | exact Nat.le_refl _⟩, ⟨fa_ HO_674004 BK724⟩, ⟨fa_ HO_674005 BK724⟩, ⟨fa_ HO_674006 BK724⟩, ⟨fa_ HO_693004 BK724⟩, ⟨fa_ HO_693005 BK724⟩, ⟨fa_ HO_693006 BK724⟩, ⟨fa_ HO_707004 BK724⟩, ⟨fa_ HO_707005 BK724⟩, ⟨fa_ HO_707006 BK724⟩, ⟨fa_ HO717 BK724⟩, ⟨fa_ HO720 BK724⟩, ⟨fa_ HO723 BK724⟩, ⟨bf1_ NB649_724 BK649⟩, ⟨bf1_ NB673_724 BK673⟩, ⟨bf1_ NB692_724 BK692⟩, ⟨bf1_ NB706_724 BK706⟩, ⟨by refine bp_ ?_; refine blk_put (cs := #[.int .i64 t711, .int .i64 t712, .int .i64 t713, .string t714, .slice Ao135 t715.length co135, .slice Ao136 t718.length co136, .slice none 0 0]) ?_ 6 _ rfl; refine bp_ ?_; refine blk_put (cs := #[.int .i64 t711, .int .i64 t712, .int .i64 t713, .string t714, .slice Ao135 t715.length co135, .slice none 0 0, .slice none 0 0]) ?_ 5 _ rfl; refine bp_ ?_; refine blk_put (cs := #[.int .i64 t711, .int .i64 t712, .int .i64 t713, .string t714, .slice none 0 0, .slice none 0 0, .slice none 0 0]) ?_ 4 _ rfl; refine bp_ ?_; refine blk_put (cs := #[.int .i64 t711, .int .i64 t712, .int .i64 t713, .string (⟨#[]⟩ : ByteArray), .slice none 0 0, .slice none 0 0, .slice none 0 0]) ?_ 3 _ rfl; refine bp_ ?_; refine blk_put (cs := #[.int .i64 t711, .int .i64 t712, .int .i64 0, .string (⟨#[]⟩ : ByteArray), .slice none 0 0, .slice none 0 0, .slice none 0 0]) ?_ 2 _ rfl; refine bp_ ?_; refine blk_put (cs := #[.int .i64 t711, .int .i64 0, .int .i64 0, .string (⟨#[]⟩ : ByteArray), .slice none 0 0, .slice none 0 0, .slice none 0 0]) ?_ 1 _ rfl; refine bp_ ?_; refine blk_put (cs := #[.int .i64 0, .int .i64 0, .int .i64 0, .string (⟨#[]⟩ : ByteArray), .slice none 0 0, .slice none 0 0, .slice none 0 0]) ?_ 0 _ rfl; exact bk_ BK724.out⟩, ⟨bh_⟩⟩
       case rest =>
        clear HC114
        obtain ⟨kq, x127_113, rfl, HA, HJ113, HO_674004, HO_674005, HO_674006, HO_693004, HO_693005, HO_693006, HO_707004, HO_707005, HO_707006, HO_725004, HO_725005, HO_725006, BK649, BK673, BK692, BK706, BK724, HB⟩ := hcut
        cases kq with
        | zero => exact absurd HA.out (by simp [computuslaw21_OccurrenceDisplaces.j3])
        | succ kj113 =>
         have H := HA.out
         clear HA
         simp only [computuslaw21_OccurrenceDisplaces.j3] at H
         by_cases c189 : x127_113 = true
         ·subst c189
          replace H := it_ H
          exact absurd H (by simp)
         replace c189 := Bool.eq_false_iff.mpr c189
         subst c189
         replace H := if_ H
         by_cases c190 : t660 = 1
         ·rw [if_pos c190] at H
          have c190b0 : (t660 == 1) = true := beq_iff_eq.mpr c190
          have c190b1 : (t660 != 1) = false := bne_eq_false_iff_eq.mpr c190
          clear c190
          obtain rfl := Option.some.inj H
          have hnb191 := NB673_649.out
          have hnc191 := NB649_673.out
          have hnb192 := NB673_692.out
          have hnc192 := NB692_673.out
          have hnb193 := NB673_706.out
          have hnc193 := NB706_673.out
          have hnb194 := NB673_724.out
          have hnc194 := NB724_673.out
          obtain ⟨hcz195_0, hcz195_1, hcz195_2, hcz195_3, hcz195_4, hcz195_5, hcz195_6⟩ := cz7_ BK673.out
          obtain ⟨hfz195_0, hfz195_1, hfz195_2, hfz195_3, hfz195_4, hfz195_5, hfz195_6⟩ := fz7_ BK673.out
          go_wp2
          go_ret
          exact rt_
         rw [if_neg c190] at H
         have c190b0 : (t660 == 1) = false := beq_eq_false_iff_ne.mpr c190
         have c190b1 : (t660 != 1) = true := bne_iff_ne.mpr c190
         by_cases c196 : (wrap64 ((wrap64 ((wrap64 ((t715.length : Int) + (t718.length : Int))) - (x693004_3.length : Int))) - (x693005_3.length : Int))) = 1
         rotate_left
         ·rw [if_neg c196] at H
          exact absurd H (by simp)
         rw [if_pos c196] at H
         have c196b0 : ((wrap64 ((wrap64 ((wrap64 ((t715.length : Int) + (t718.length : Int))) - (x693004_3.length : Int))) - (x693005_3.length : Int))) == 1) = true := beq_iff_eq.mpr c196
         have c196b1 : ((wrap64 ((wrap64 ((wrap64 ((t715.length : Int) + (t718.length : Int))) - (x693004_3.length : Int))) - (x693005_3.length : Int))) != 1) = false := bne_eq_false_iff_eq.mpr c196
         clear c196
         by_cases c197 : (t715.length : Int) > (x693004_3.length : Int)
         rotate_left
         ·rw [if_neg c197] at H
          have c197b0 : decide ((x693004_3.length : Int) < (t715.length : Int)) = false := decide_eq_false c197
          have c197b1 : decide (x693004_3.length < t715.length) = false := decide_eq_false (fun h => c197 (Int.ofNat_lt.mpr h))
          clear c197
          by_cases c214 : (t718.length : Int) > (x693005_3.length : Int)
          rotate_left
          ·rw [if_neg c214] at H
           exact absurd H (by simp)
          rw [if_pos c214] at H
          have c214b0 : decide ((x693005_3.length : Int) < (t718.length : Int)) = true := decide_eq_true c214
          have c214b1 : decide (x693005_3.length < t718.length) = true := decide_eq_true (Int.ofNat_lt.mp c214)
          clear c214
          by_cases c215 : 0 < (t718.length : Int)
          rotate_left
          ·rw [if_neg c215] at H
           exact absurd H (by simp)
          rw [if_pos c215] at H
          have c215b0 : decide (0 < (t718.length : Int)) = true := decide_eq_true c215
          have c215b1 : decide (0 < t718.length) = true := decide_eq_true (by omega)
          (try (have c215b6 : 0 < t718.length := of_decide_eq_true c215b1))
          clear c215
          obtain rfl := Option.some.inj H
          have hnb216 := NB673_649.out
          have hnc216 := NB649_673.out
          have hnb217 := NB673_692.out
          have hnc217 := NB692_673.out
          have hnb218 := NB673_706.out
          have hnc218 := NB706_673.out
          have hnb219 := NB673_724.out
          have hnc219 := NB724_673.out
          obtain ⟨hcz220_0, hcz220_1, hcz220_2, hcz220_3, hcz220_4, hcz220_5, hcz220_6⟩ := cz7_ BK673.out
          obtain ⟨hfz220_0, hfz220_1, hfz220_2, hfz220_3, hfz220_4, hfz220_5, hfz220_6⟩ := fz7_ BK673.out
          try go_wp2
          replace HO_674004 := am_ (Kd.R_drew HO_674004.out)
          replace HO_674005 := am_ (Kd.R_drew HO_674005.out)
          replace HO_674006 := am_ (Kd.R_drew HO_674006.out)
          replace HO_693004 := am_ (Kd.R_drew HO_693004.out)
          replace HO_693005 := am_ (Kd.R_drew HO_693005.out)
          replace HO_693006 := am_ (Kd.R_drew HO_693006.out)
          replace HO_707004 := am_ (Kd.R_drew HO_707004.out)
          replace HO_707005 := am_ (Kd.R_drew HO_707005.out)
          replace HO_707006 := am_ (Kd.R_drew HO_707006.out)
          replace HO_725004 := am_ (Kd.R_drew HO_725004.out)
          replace HO_725005 := am_ (Kd.R_drew HO_725005.out)
          replace HO_725006 := am_ (Kd.R_drew HO_725006.out)
          replace BK649 := am_ (blk_drew BK649.out)
          replace BK673 := am_ (blk_drew BK673.out)
          replace BK692 := am_ (blk_drew BK692.out)
          replace BK706 := am_ (blk_drew BK706.out)
          replace BK724 := am_ (blk_drew BK724.out)
          replace HB := am_ (below_drew1 HB.out)
          have p731 : 0 ≤ (0 : Int) := (by omega)
          have q731 : 0 < (t718.length : Int) := of_decide_eq_true as_
          obtain ⟨ad731, e731, hx731_0⟩ := Kd.at_int (Kd.R_reads' HO_725005.out).2.2 0 p731 q731
          cases e731
          have qi731 : (0 < t718.length) = True := eq_true (by omega)
          (try rw [show ((0 : Int)).toNat = 0 from rfl] at hx731_0)
          (try rw [Addr.add_zero'] at hx731_0)
          replace p731 := eq_true p731
          replace q731 := eq_true q731
          refine start_ (n := 41) (S := fun w' => w'.cell? ⟨gb724, 0, none⟩ = some (.int .i64 t711) ∧ w'.cell? ⟨gb724, 1, none⟩ = some (.int .i64 t712) ∧ w'.cell? ⟨gb724, 2, none⟩ = some (.int .i64 t713) ∧ w'.cell? ⟨gb724, 3, none⟩ = some (.string t714) ∧ w'.cell? ⟨gb724, 4, none⟩ = some (.slice Ao135 t715.length co135) ∧ w'.cell? ⟨gb724, 5, none⟩ = some (.slice (some ad731) t718.length co136) ∧ w'.cell? ⟨gb724, 6, none⟩ = some (.slice Ao137 t721.length co137) ∧ w'.cell? ⟨gb692, 0, none⟩ = some (.int .i64 0) ∧ w'.cell? ⟨gb692, 1, none⟩ = some (.int .i64 0) ∧ w'.cell? ⟨gb692, 2, none⟩ = some (.int .i64 0) ∧ w'.cell? ⟨gb692, 3, none⟩ = some (.string (⟨#[]⟩ : ByteArray)) ∧ w'.cell? ⟨gb692, 4, none⟩ = some (.slice Ao139 x693004_3.length co139) ∧ w'.cell? ⟨gb692, 5, none⟩ = some (.slice Ao140 x693005_3.length co140) ∧ w'.cell? ⟨gb692, 6, none⟩ = some (u693006) ∧ w'.cell? ⟨gb673, 0, none⟩ = some (.int .i64 t660) ∧ w'.cell? ⟨gb673, 1, none⟩ = some (.int .i64 t661) ∧ w'.cell? ⟨gb673, 2, none⟩ = some (.int .i64 t662) ∧ w'.cell? ⟨gb673, 3, none⟩ = some (.string t663) ∧ w'.cell? ⟨gb673, 4, none⟩ = some (.slice Ao125 x674004_3.length co125) ∧ w'.cell? ⟨gb673, 5, none⟩ = some (.slice Ao126 x674005_3.length co126) ∧ w'.cell? ⟨gb673, 6, none⟩ = some (.slice Ao127 x674006_3.length co127) ∧ w'.cell? ad731 = some (.int .i64 (rd t718 0))) (ds := []) (bf_ 41 0) (by kernel_rfl) rfl rfl ⟨(blk_cell BK724.out 0).trans rfl, (blk_cell BK724.out 1).trans rfl, (blk_cell BK724.out 2).trans rfl, (blk_cell BK724.out 3).trans rfl, (blk_cell BK724.out 4).trans rfl, (blk_cell BK724.out 5).trans rfl, (blk_cell BK724.out 6).trans rfl, (blk_cell BK692.out 0).trans rfl, (blk_cell BK692.out 1).trans rfl, (blk_cell BK692.out 2).trans rfl, (blk_cell BK692.out 3).trans rfl, (blk_cell BK692.out 4).trans rfl, (blk_cell BK692.out 5).trans rfl, (blk_cell BK692.out 6).trans rfl, (blk_cell BK673.out 0).trans rfl, (blk_cell BK673.out 1).trans rfl, (blk_cell BK673.out 2).trans rfl, (blk_cell BK673.out 3).trans rfl, (blk_cell BK673.out 4).trans rfl, (blk_cell BK673.out 5).trans rfl, (blk_cell BK673.out 6).trans rfl, hx731_0⟩ (fun hHeld => ?_); refine with_tabW computuslaw21_OccurrenceDisplaces.tab20 computuslaw21_OccurrenceDisplaces.bits20 (fun HT_ HW_ => ?_)
          generalize wc.drew = w221 at HO_674004 HO_674005 HO_674006 HO_693004 HO_693005 HO_693006 HO_707004 HO_707005 HO_707006 HO_725004 HO_725005 HO_725006 BK649 BK673 BK692 BK706 BK724 HB hx731_0 hHeld ⊢
          refine pu_ 0 (some 134) (bf_ 41 1) HT_.out ?_
          refine pu_ 1 (some 135) (bf_ 41 3) HT_.out ?_
          refine pu_ 2 (some 136) (bf_ 41 7) HT_.out ?_
          refine pu_ 3 (some 137) (bf_ 41 15) HT_.out ?_
          refine pu_ 6 (some 140) (bf_ 41 79) HT_.out ?_
          refine ta_ 4 (some 138) (bf_ 41 95) HT_.out HW_.out hHeld ?_
          refine pu_ 5 (some 139) (bf_ 41 127) HT_.out ?_
          refine ta_ 7 (some 141) (bf_ 41 255) HT_.out HW_.out hHeld ?_
          refine pu_ 8 (some 142) (bf_ 41 511) HT_.out ?_
          refine pu_ 9 (some 143) (bf_ 41 1023) HT_.out ?_
          refine pu_ 10 (some 144) (bf_ 41 2047) HT_.out ?_
          refine pure_ (i := 11) (N := some 145) (v := undef) (a' := ?_) (bf_ 41 4095) rfl rfl (any_of HT_.out (by kernel_rfl)) (fun _ _ _ h => h) (Or.inr ⟨by rfl, rfl⟩) ?_ ?_
          rotate_left
          ·simp only [Act.put, sA_, sZ_, sS_, i64_w, i32_w]
           rfl
          refine pure_ (i := 12) (N := some 146) (v := undef) (a' := ?_) (bf_ 41 8191) rfl rfl (any_of HT_.out (by kernel_rfl)) (fun _ _ _ h => h) (Or.inr ⟨by rfl, rfl⟩) ?_ ?_
          rotate_left
          ·simp only [Act.put, sA_, sZ_, sS_, i64_w, i32_w]
           rfl
          refine pure_ (i := 13) (N := some 147) (v := undef) (a' := ?_) (bf_ 41 16383) rfl rfl (any_of HT_.out (by kernel_rfl)) (fun _ _ _ h => h) (Or.inr ⟨by rfl, rfl⟩) ?_ ?_
          rotate_left
          ·simp only [Act.put, sA_, sZ_, sS_, i64_w, i32_w]
           rfl
          refine pure_ (i := 14) (N := some 148) (v := undef) (a' := ?_) (bf_ 41 32767) rfl rfl (any_of HT_.out (by kernel_rfl)) (fun _ _ _ h => h) (Or.inr ⟨by rfl, rfl⟩) ?_ ?_
          rotate_left
          ·simp only [Act.put, sA_, sZ_, sS_, i64_w, i32_w]
           rfl
          refine pure_ (i := 15) (N := some 149) (v := undef) (a' := ?_) (bf_ 41 65535) rfl rfl (any_of HT_.out (by kernel_rfl)) (fun _ _ _ h => h) (Or.inr ⟨by rfl, rfl⟩) ?_ ?_
          rotate_left
          ·simp only [Act.put, sA_, sZ_, sS_, i64_w, i32_w]
           rfl
          refine pure_ (i := 16) (N := some 150) (v := undef) (a' := ?_) (bf_ 41 131071) rfl rfl (any_of HT_.out (by kernel_rfl)) (fun _ _ _ h => h) (Or.inr ⟨by rfl, rfl⟩) ?_ ?_
          rotate_left
          ·simp only [Act.put, sA_, sZ_, sS_, i64_w, i32_w]
           rfl
          refine pure_ (i := 17) (N := some 151) (v := undef) (a' := ?_) (bf_ 41 262143) rfl rfl (any_of HT_.out (by kernel_rfl)) (fun _ _ _ h => h) (Or.inr ⟨by rfl, rfl⟩) ?_ ?_
          rotate_left
          ·simp only [Act.put, sA_, sZ_, sS_, i64_w, i32_w]
           rfl
          refine pure_ (i := 18) (N := some 152) (v := undef) (a' := ?_) (bf_ 41 524287) rfl rfl (any_of HT_.out (by kernel_rfl)) (fun _ _ _ h => h) (Or.inr ⟨by rfl, rfl⟩) ?_ ?_
          rotate_left
          ·simp only [Act.put, sA_, sZ_, sS_, i64_w, i32_w]
           rfl
          refine pu_ 19 (some 153) (bf_ 41 1048575) HT_.out ?_
          refine pu_ 20 (some 154) (bf_ 41 2097151) HT_.out ?_
          refine pu_ 21 (some 155) (bf_ 41 4194303) HT_.out ?_
          refine pu_ 24 (some 158) (bf_ 41 20971519) HT_.out ?_
          refine ta_ 22 (some 156) (bf_ 41 25165823) HT_.out HW_.out hHeld ?_
          refine pu_ 23 (some 157) (bf_ 41 33554431) HT_.out ?_
          refine ta_ 25 (some 159) (bf_ 41 67108863) HT_.out HW_.out hHeld ?_
          refine pu_ 26 (some 160) (bf_ 41 134217727) HT_.out ?_
          refine pu_ 27 (some 161) (bf_ 41 268435455) HT_.out ?_
          refine pu_ 28 (some 162) (bf_ 41 536870911) HT_.out ?_
          refine pu_ 29 (some 163) (bf_ 41 1073741823) HT_.out ?_
          refine pu_ 33 (some 167) (bf_ 41 9663676415) HT_.out ?_
          refine pu_ 34 (some 168) (bf_ 41 26843545599) HT_.out ?_
          refine ta_ 30 (some 164) (bf_ 41 27917287423) HT_.out HW_.out hHeld ?_
          refine pu_ 31 (some 165) (bf_ 41 30064771071) HT_.out ?_
          refine ta_ 32 (some 166) (bf_ 41 34359738367) HT_.out HW_.out hHeld ?_
          refine ta_ 35 (some 169) (bf_ 41 68719476735) HT_.out HW_.out hHeld ?_
          refine pu_ 36 (some 170) (bf_ 41 137438953471) HT_.out ?_
          refine pu_ 37 (some 171) (bf_ 41 274877906943) HT_.out ?_
          refine pu_ 38 (some 172) (bf_ 41 549755813887) HT_.out ?_
          refine pu_ 39 (some 173) (bf_ 41 1099511627775) HT_.out ?_
          refine pu_ 40 (some 6) (bf_ 41 2199023255551) HT_.out ?_
          refine done_ (done_of HT_.out (by kernel_rfl)) ?_
          try go_wp2
          go_ret
          exact rt_
         rw [if_pos c197] at H
         have c197b0 : decide ((x693004_3.length : Int) < (t715.length : Int)) = true := decide_eq_true c197
         have c197b1 : decide (x693004_3.length < t715.length) = true := decide_eq_true (Int.ofNat_lt.mp c197)
         clear c197
         by_cases c198 : 0 < (t715.length : Int)
         rotate_left
         ·rw [if_neg c198] at H
          exact absurd H (by simp)
         rw [if_pos c198] at H
         have c198b0 : decide (0 < (t715.length : Int)) = true := decide_eq_true c198
         have c198b1 : decide (0 < t715.length) = true := decide_eq_true (by omega)
         (try (have c198b6 : 0 < t715.length := of_decide_eq_true c198b1))
         clear c198
         by_cases c199 : (rd t715 0) = t661
         rotate_left
         ·rw [if_neg c199] at H
          have c199b0 : ((rd t715 0) == t661) = false := beq_eq_false_iff_ne.mpr c199
          have c199b1 : ((rd t715 0) != t661) = true := bne_iff_ne.mpr c199
          by_cases c206 : (t718.length : Int) > (x693005_3.length : Int)
          rotate_left
          ·rw [if_neg c206] at H
           exact absurd H (by simp)
          rw [if_pos c206] at H
          have c206b0 : decide ((x693005_3.length : Int) < (t718.length : Int)) = true := decide_eq_true c206
          have c206b1 : decide (x693005_3.length < t718.length) = true := decide_eq_true (Int.ofNat_lt.mp c206)
          clear c206
          by_cases c207 : 0 < (t718.length : Int)
          rotate_left
          ·rw [if_neg c207] at H
           exact absurd H (by simp)
          rw [if_pos c207] at H
          have c207b0 : decide (0 < (t718.length : Int)) = true := decide_eq_true c207
          have c207b1 : decide (0 < t718.length) = true := decide_eq_true (by omega)
          (try (have c207b6 : 0 < t718.length := of_decide_eq_true c207b1))
          clear c207
          obtain rfl := Option.some.inj H
          have hnb208 := NB673_649.out
          have hnc208 := NB649_673.out
          have hnb209 := NB673_692.out
          have hnc209 := NB692_673.out
          have hnb210 := NB673_706.out
          have hnc210 := NB706_673.out
          have hnb211 := NB673_724.out
          have hnc211 := NB724_673.out
          obtain ⟨hcz212_0, hcz212_1, hcz212_2, hcz212_3, hcz212_4, hcz212_5, hcz212_6⟩ := cz7_ BK673.out
          obtain ⟨hfz212_0, hfz212_1, hfz212_2, hfz212_3, hfz212_4, hfz212_5, hfz212_6⟩ := fz7_ BK673.out
          try go_wp2
          replace HO_674004 := am_ (Kd.R_drew HO_674004.out)
          replace HO_674005 := am_ (Kd.R_drew HO_674005.out)
          replace HO_674006 := am_ (Kd.R_drew HO_674006.out)
          replace HO_693004 := am_ (Kd.R_drew HO_693004.out)
          replace HO_693005 := am_ (Kd.R_drew HO_693005.out)
          replace HO_693006 := am_ (Kd.R_drew HO_693006.out)
          replace HO_707004 := am_ (Kd.R_drew HO_707004.out)
          replace HO_707005 := am_ (Kd.R_drew HO_707005.out)
          replace HO_707006 := am_ (Kd.R_drew HO_707006.out)
          replace HO_725004 := am_ (Kd.R_drew HO_725004.out)
          replace HO_725005 := am_ (Kd.R_drew HO_725005.out)
          replace HO_725006 := am_ (Kd.R_drew HO_725006.out)
          replace BK649 := am_ (blk_drew BK649.out)
          replace BK673 := am_ (blk_drew BK673.out)
          replace BK692 := am_ (blk_drew BK692.out)
          replace BK706 := am_ (blk_drew BK706.out)
          replace BK724 := am_ (blk_drew BK724.out)
          replace HB := am_ (below_drew1 HB.out)
          have p729 : 0 ≤ (0 : Int) := (by omega)
          have q729 : 0 < (t715.length : Int) := of_decide_eq_true as_
          obtain ⟨ad729, e729, hx729_0⟩ := Kd.at_int (Kd.R_reads' HO_725004.out).2.2 0 p729 q729
          cases e729
          have qi729 : (0 < t715.length) = True := eq_true (by omega)
          (try rw [show ((0 : Int)).toNat = 0 from rfl] at hx729_0)
          (try rw [Addr.add_zero'] at hx729_0)
          replace p729 := eq_true p729
          replace q729 := eq_true q729
          have p730 : 0 ≤ (0 : Int) := (by omega)
          have q730 : 0 < (t718.length : Int) := of_decide_eq_true as_
          obtain ⟨ad730, e730, hx730_0⟩ := Kd.at_int (Kd.R_reads' HO_725005.out).2.2 0 p730 q730
          cases e730
          have qi730 : (0 < t718.length) = True := eq_true (by omega)
          (try rw [show ((0 : Int)).toNat = 0 from rfl] at hx730_0)
          (try rw [Addr.add_zero'] at hx730_0)
          replace p730 := eq_true p730
          replace q730 := eq_true q730
          refine start_ (n := 41) (S := fun w' => w'.cell? ⟨gb724, 0, none⟩ = some (.int .i64 t711) ∧ w'.cell? ⟨gb724, 1, none⟩ = some (.int .i64 t712) ∧ w'.cell? ⟨gb724, 2, none⟩ = some (.int .i64 t713) ∧ w'.cell? ⟨gb724, 3, none⟩ = some (.string t714) ∧ w'.cell? ⟨gb724, 4, none⟩ = some (.slice (some ad729) t715.length co135) ∧ w'.cell? ⟨gb724, 5, none⟩ = some (.slice (some ad730) t718.length co136) ∧ w'.cell? ⟨gb724, 6, none⟩ = some (.slice Ao137 t721.length co137) ∧ w'.cell? ⟨gb692, 0, none⟩ = some (.int .i64 0) ∧ w'.cell? ⟨gb692, 1, none⟩ = some (.int .i64 0) ∧ w'.cell? ⟨gb692, 2, none⟩ = some (.int .i64 0) ∧ w'.cell? ⟨gb692, 3, none⟩ = some (.string (⟨#[]⟩ : ByteArray)) ∧ w'.cell? ⟨gb692, 4, none⟩ = some (.slice Ao139 x693004_3.length co139) ∧ w'.cell? ⟨gb692, 5, none⟩ = some (.slice Ao140 x693005_3.length co140) ∧ w'.cell? ⟨gb692, 6, none⟩ = some (u693006) ∧ w'.cell? ⟨gb673, 0, none⟩ = some (.int .i64 t660) ∧ w'.cell? ⟨gb673, 1, none⟩ = some (.int .i64 t661) ∧ w'.cell? ⟨gb673, 2, none⟩ = some (.int .i64 t662) ∧ w'.cell? ⟨gb673, 3, none⟩ = some (.string t663) ∧ w'.cell? ⟨gb673, 4, none⟩ = some (.slice Ao125 x674004_3.length co125) ∧ w'.cell? ⟨gb673, 5, none⟩ = some (.slice Ao126 x674005_3.length co126) ∧ w'.cell? ⟨gb673, 6, none⟩ = some (.slice Ao127 x674006_3.length co127) ∧ w'.cell? ad729 = some (.int .i64 (rd t715 0)) ∧ w'.cell? ad730 = some (.int .i64 (rd t718 0))) (ds := []) (bf_ 41 0) (by kernel_rfl) rfl rfl ⟨(blk_cell BK724.out 0).trans rfl, (blk_cell BK724.out 1).trans rfl, (blk_cell BK724.out 2).trans rfl, (blk_cell BK724.out 3).trans rfl, (blk_cell BK724.out 4).trans rfl, (blk_cell BK724.out 5).trans rfl, (blk_cell BK724.out 6).trans rfl, (blk_cell BK692.out 0).trans rfl, (blk_cell BK692.out 1).trans rfl, (blk_cell BK692.out 2).trans rfl, (blk_cell BK692.out 3).trans rfl, (blk_cell BK692.out 4).trans rfl, (blk_cell BK692.out 5).trans rfl, (blk_cell BK692.out 6).trans rfl, (blk_cell BK673.out 0).trans rfl, (blk_cell BK673.out 1).trans rfl, (blk_cell BK673.out 2).trans rfl, (blk_cell BK673.out 3).trans rfl, (blk_cell BK673.out 4).trans rfl, (blk_cell BK673.out 5).trans rfl, (blk_cell BK673.out 6).trans rfl, hx729_0, hx730_0⟩ (fun hHeld => ?_); refine with_tabW computuslaw21_OccurrenceDisplaces.tab20 computuslaw21_OccurrenceDisplaces.bits20 (fun HT_ HW_ => ?_)
          generalize wc.drew = w213 at HO_674004 HO_674005 HO_674006 HO_693004 HO_693005 HO_693006 HO_707004 HO_707005 HO_707006 HO_725004 HO_725005 HO_725006 BK649 BK673 BK692 BK706 BK724 HB hx729_0 hx730_0 hHeld ⊢
          refine pu_ 0 (some 134) (bf_ 41 1) HT_.out ?_
          refine pu_ 1 (some 135) (bf_ 41 3) HT_.out ?_
          refine pu_ 2 (some 136) (bf_ 41 7) HT_.out ?_
          refine pu_ 3 (some 137) (bf_ 41 15) HT_.out ?_
          refine pu_ 6 (some 140) (bf_ 41 79) HT_.out ?_
          refine ta_ 4 (some 138) (bf_ 41 95) HT_.out HW_.out hHeld ?_
          refine pu_ 5 (some 139) (bf_ 41 127) HT_.out ?_
          refine ta_ 7 (some 141) (bf_ 41 255) HT_.out HW_.out hHeld ?_
          refine pu_ 8 (some 142) (bf_ 41 511) HT_.out ?_
          refine pu_ 9 (some 143) (bf_ 41 1023) HT_.out ?_
          refine pu_ 10 (some 144) (bf_ 41 2047) HT_.out ?_
          refine pu_ 11 (some 145) (bf_ 41 4095) HT_.out ?_
          refine pu_ 15 (some 149) (bf_ 41 36863) HT_.out ?_
          refine pu_ 16 (some 150) (bf_ 41 102399) HT_.out ?_
          refine ta_ 12 (some 146) (bf_ 41 106495) HT_.out HW_.out hHeld ?_
          refine pu_ 13 (some 147) (bf_ 41 114687) HT_.out ?_
          refine ta_ 14 (some 148) (bf_ 41 131071) HT_.out HW_.out hHeld ?_
          refine ta_ 17 (some 151) (bf_ 41 262143) HT_.out HW_.out hHeld ?_
          refine pu_ 18 (some 152) (bf_ 41 524287) HT_.out ?_
          refine pu_ 19 (some 153) (bf_ 41 1048575) HT_.out ?_
          refine pu_ 20 (some 154) (bf_ 41 2097151) HT_.out ?_
          refine pu_ 21 (some 155) (bf_ 41 4194303) HT_.out ?_
          refine pu_ 24 (some 158) (bf_ 41 20971519) HT_.out ?_
          refine ta_ 22 (some 156) (bf_ 41 25165823) HT_.out HW_.out hHeld ?_
          refine pu_ 23 (some 157) (bf_ 41 33554431) HT_.out ?_
          refine ta_ 25 (some 159) (bf_ 41 67108863) HT_.out HW_.out hHeld ?_
          refine pu_ 26 (some 160) (bf_ 41 134217727) HT_.out ?_
          refine pu_ 27 (some 161) (bf_ 41 268435455) HT_.out ?_
          refine pu_ 28 (some 162) (bf_ 41 536870911) HT_.out ?_
          refine pu_ 29 (some 163) (bf_ 41 1073741823) HT_.out ?_
          refine pu_ 33 (some 167) (bf_ 41 9663676415) HT_.out ?_
          refine pu_ 34 (some 168) (bf_ 41 26843545599) HT_.out ?_
          refine ta_ 30 (some 164) (bf_ 41 27917287423) HT_.out HW_.out hHeld ?_
          refine pu_ 31 (some 165) (bf_ 41 30064771071) HT_.out ?_
          refine ta_ 32 (some 166) (bf_ 41 34359738367) HT_.out HW_.out hHeld ?_
          refine ta_ 35 (some 169) (bf_ 41 68719476735) HT_.out HW_.out hHeld ?_
          refine pu_ 36 (some 170) (bf_ 41 137438953471) HT_.out ?_
          refine pu_ 37 (some 171) (bf_ 41 274877906943) HT_.out ?_
          refine pu_ 38 (some 172) (bf_ 41 549755813887) HT_.out ?_
          refine pu_ 39 (some 173) (bf_ 41 1099511627775) HT_.out ?_
          refine pu_ 40 (some 6) (bf_ 41 2199023255551) HT_.out ?_
          refine done_ (done_of HT_.out (by kernel_rfl)) ?_
          try go_wp2
          go_ret
          exact rt_
         rw [if_pos c199] at H
         have c199b0 : ((rd t715 0) == t661) = true := beq_iff_eq.mpr c199
         have c199b1 : ((rd t715 0) != t661) = false := bne_eq_false_iff_eq.mpr c199
         clear c199
         obtain rfl := Option.some.inj H
         have hnb200 := NB673_649.out
         have hnc200 := NB649_673.out
         have hnb201 := NB673_692.out
         have hnc201 := NB692_673.out
         have hnb202 := NB673_706.out
         have hnc202 := NB706_673.out
         have hnb203 := NB673_724.out
         have hnc203 := NB724_673.out
         obtain ⟨hcz204_0, hcz204_1, hcz204_2, hcz204_3, hcz204_4, hcz204_5, hcz204_6⟩ := cz7_ BK673.out
         obtain ⟨hfz204_0, hfz204_1, hfz204_2, hfz204_3, hfz204_4, hfz204_5, hfz204_6⟩ := fz7_ BK673.out
         try go_wp2
         replace HO_674004 := am_ (Kd.R_drew HO_674004.out)
         replace HO_674005 := am_ (Kd.R_drew HO_674005.out)
         replace HO_674006 := am_ (Kd.R_drew HO_674006.out)
         replace HO_693004 := am_ (Kd.R_drew HO_693004.out)
         replace HO_693005 := am_ (Kd.R_drew HO_693005.out)
         replace HO_693006 := am_ (Kd.R_drew HO_693006.out)
         replace HO_707004 := am_ (Kd.R_drew HO_707004.out)
         replace HO_707005 := am_ (Kd.R_drew HO_707005.out)
         replace HO_707006 := am_ (Kd.R_drew HO_707006.out)
         replace HO_725004 := am_ (Kd.R_drew HO_725004.out)
         replace HO_725005 := am_ (Kd.R_drew HO_725005.out)
         replace HO_725006 := am_ (Kd.R_drew HO_725006.out)
         replace BK649 := am_ (blk_drew BK649.out)
         replace BK673 := am_ (blk_drew BK673.out)
         replace BK692 := am_ (blk_drew BK692.out)
         replace BK706 := am_ (blk_drew BK706.out)
         replace BK724 := am_ (blk_drew BK724.out)
         replace HB := am_ (below_drew1 HB.out)
         have p729 : 0 ≤ (0 : Int) := (by omega)
         have q729 : 0 < (t715.length : Int) := of_decide_eq_true as_
         obtain ⟨ad729, e729, hx729_0⟩ := Kd.at_int (Kd.R_reads' HO_725004.out).2.2 0 p729 q729
         cases e729
         have qi729 : (0 < t715.length) = True := eq_true (by omega)
         (try rw [show ((0 : Int)).toNat = 0 from rfl] at hx729_0)
         (try rw [Addr.add_zero'] at hx729_0)
         replace p729 := eq_true p729
         replace q729 := eq_true q729
         refine start_ (n := 41) (S := fun w' => w'.cell? ⟨gb724, 0, none⟩ = some (.int .i64 t711) ∧ w'.cell? ⟨gb724, 1, none⟩ = some (.int .i64 t712) ∧ w'.cell? ⟨gb724, 2, none⟩ = some (.int .i64 t713) ∧ w'.cell? ⟨gb724, 3, none⟩ = some (.string t714) ∧ w'.cell? ⟨gb724, 4, none⟩ = some (.slice (some ad729) t715.length co135) ∧ w'.cell? ⟨gb724, 5, none⟩ = some (.slice Ao136 t718.length co136) ∧ w'.cell? ⟨gb724, 6, none⟩ = some (.slice Ao137 t721.length co137) ∧ w'.cell? ⟨gb692, 0, none⟩ = some (.int .i64 0) ∧ w'.cell? ⟨gb692, 1, none⟩ = some (.int .i64 0) ∧ w'.cell? ⟨gb692, 2, none⟩ = some (.int .i64 0) ∧ w'.cell? ⟨gb692, 3, none⟩ = some (.string (⟨#[]⟩ : ByteArray)) ∧ w'.cell? ⟨gb692, 4, none⟩ = some (.slice Ao139 x693004_3.length co139) ∧ w'.cell? ⟨gb692, 5, none⟩ = some (.slice Ao140 x693005_3.length co140) ∧ w'.cell? ⟨gb692, 6, none⟩ = some (u693006) ∧ w'.cell? ⟨gb673, 0, none⟩ = some (.int .i64 t660) ∧ w'.cell? ⟨gb673, 1, none⟩ = some (.int .i64 t661) ∧ w'.cell? ⟨gb673, 2, none⟩ = some (.int .i64 t662) ∧ w'.cell? ⟨gb673, 3, none⟩ = some (.string t663) ∧ w'.cell? ⟨gb673, 4, none⟩ = some (.slice Ao125 x674004_3.length co125) ∧ w'.cell? ⟨gb673, 5, none⟩ = some (.slice Ao126 x674005_3.length co126) ∧ w'.cell? ⟨gb673, 6, none⟩ = some (.slice Ao127 x674006_3.length co127) ∧ w'.cell? ad729 = some (.int .i64 (rd t715 0))) (ds := []) (bf_ 41 0) (by kernel_rfl) rfl rfl ⟨(blk_cell BK724.out 0).trans rfl, (blk_cell BK724.out 1).trans rfl, (blk_cell BK724.out 2).trans rfl, (blk_cell BK724.out 3).trans rfl, (blk_cell BK724.out 4).trans rfl, (blk_cell BK724.out 5).trans rfl, (blk_cell BK724.out 6).trans rfl, (blk_cell BK692.out 0).trans rfl, (blk_cell BK692.out 1).trans rfl, (blk_cell BK692.out 2).trans rfl, (blk_cell BK692.out 3).trans rfl, (blk_cell BK692.out 4).trans rfl, (blk_cell BK692.out 5).trans rfl, (blk_cell BK692.out 6).trans rfl, (blk_cell BK673.out 0).trans rfl, (blk_cell BK673.out 1).trans rfl, (blk_cell BK673.out 2).trans rfl, (blk_cell BK673.out 3).trans rfl, (blk_cell BK673.out 4).trans rfl, (blk_cell BK673.out 5).trans rfl, (blk_cell BK673.out 6).trans rfl, hx729_0⟩ (fun hHeld => ?_); refine with_tabW computuslaw21_OccurrenceDisplaces.tab20 computuslaw21_OccurrenceDisplaces.bits20 (fun HT_ HW_ => ?_)
         generalize wc.drew = w205 at HO_674004 HO_674005 HO_674006 HO_693004 HO_693005 HO_693006 HO_707004 HO_707005 HO_707006 HO_725004 HO_725005 HO_725006 BK649 BK673 BK692 BK706 BK724 HB hx729_0 hHeld ⊢
         refine pu_ 0 (some 134) (bf_ 41 1) HT_.out ?_
         refine pu_ 1 (some 135) (bf_ 41 3) HT_.out ?_
         refine pu_ 2 (some 136) (bf_ 41 7) HT_.out ?_
         refine pu_ 3 (some 137) (bf_ 41 15) HT_.out ?_
         refine pu_ 6 (some 140) (bf_ 41 79) HT_.out ?_
         refine ta_ 4 (some 138) (bf_ 41 95) HT_.out HW_.out hHeld ?_
         refine pu_ 5 (some 139) (bf_ 41 127) HT_.out ?_
         refine ta_ 7 (some 141) (bf_ 41 255) HT_.out HW_.out hHeld ?_
         refine pu_ 8 (some 142) (bf_ 41 511) HT_.out ?_
         refine pu_ 9 (some 143) (bf_ 41 1023) HT_.out ?_
         refine pu_ 10 (some 144) (bf_ 41 2047) HT_.out ?_
         refine pu_ 11 (some 145) (bf_ 41 4095) HT_.out ?_
         refine pu_ 15 (some 149) (bf_ 41 36863) HT_.out ?_
         refine pu_ 16 (some 150) (bf_ 41 102399) HT_.out ?_
         refine ta_ 12 (some 146) (bf_ 41 106495) HT_.out HW_.out hHeld ?_
         refine pu_ 13 (some 147) (bf_ 41 114687) HT_.out ?_
         refine ta_ 14 (some 148) (bf_ 41 131071) HT_.out HW_.out hHeld ?_
         refine ta_ 17 (some 151) (bf_ 41 262143) HT_.out HW_.out hHeld ?_
         refine pu_ 18 (some 152) (bf_ 41 524287) HT_.out ?_
         refine pu_ 19 (some 153) (bf_ 41 1048575) HT_.out ?_
         refine pu_ 20 (some 154) (bf_ 41 2097151) HT_.out ?_
         refine pure_ (i := 21) (N := some 155) (v := undef) (a' := ?_) (bf_ 41 4194303) rfl rfl (any_of HT_.out (by kernel_rfl)) (fun _ _ _ h => h) (Or.inr ⟨by rfl, rfl⟩) ?_ ?_
         rotate_left
         ·simp only [Act.put, sA_, sZ_, sS_, i64_w, i32_w]
          rfl
         refine pure_ (i := 22) (N := some 156) (v := undef) (a' := ?_) (bf_ 41 8388607) rfl rfl (any_of HT_.out (by kernel_rfl)) (fun _ _ _ h => h) (Or.inr ⟨by rfl, rfl⟩) ?_ ?_
         rotate_left
         ·simp only [Act.put, sA_, sZ_, sS_, i64_w, i32_w]
          rfl
         refine pure_ (i := 23) (N := some 157) (v := undef) (a' := ?_) (bf_ 41 16777215) rfl rfl (any_of HT_.out (by kernel_rfl)) (fun _ _ _ h => h) (Or.inr ⟨by rfl, rfl⟩) ?_ ?_
         rotate_left
         ·simp only [Act.put, sA_, sZ_, sS_, i64_w, i32_w]
          rfl
         refine pure_ (i := 24) (N := some 158) (v := undef) (a' := ?_) (bf_ 41 33554431) rfl rfl (any_of HT_.out (by kernel_rfl)) (fun _ _ _ h => h) (Or.inr ⟨by rfl, rfl⟩) ?_ ?_
         rotate_left
         ·simp only [Act.put, sA_, sZ_, sS_, i64_w, i32_w]
          rfl
         refine pure_ (i := 25) (N := some 159) (v := undef) (a' := ?_) (bf_ 41 67108863) rfl rfl (any_of HT_.out (by kernel_rfl)) (fun _ _ _ h => h) (Or.inr ⟨by rfl, rfl⟩) ?_ ?_
         rotate_left
         ·simp only [Act.put, sA_, sZ_, sS_, i64_w, i32_w]
          rfl
         refine pure_ (i := 26) (N := some 160) (v := undef) (a' := ?_) (bf_ 41 134217727) rfl rfl (any_of HT_.out (by kernel_rfl)) (fun _ _ _ h => h) (Or.inr ⟨by rfl, rfl⟩) ?_ ?_
         rotate_left
         ·simp only [Act.put, sA_, sZ_, sS_, i64_w, i32_w]
          rfl
         refine pure_ (i := 27) (N := some 161) (v := undef) (a' := ?_) (bf_ 41 268435455) rfl rfl (any_of HT_.out (by kernel_rfl)) (fun _ _ _ h => h) (Or.inr ⟨by rfl, rfl⟩) ?_ ?_
         rotate_left
         ·simp only [Act.put, sA_, sZ_, sS_, i64_w, i32_w]
          rfl
         refine pure_ (i := 28) (N := some 162) (v := undef) (a' := ?_) (bf_ 41 536870911) rfl rfl (any_of HT_.out (by kernel_rfl)) (fun _ _ _ h => h) (Or.inr ⟨by rfl, rfl⟩) ?_ ?_
         rotate_left
         ·simp only [Act.put, sA_, sZ_, sS_, i64_w, i32_w]
          rfl
         refine pure_ (i := 29) (N := some 163) (v := undef) (a' := ?_) (bf_ 41 1073741823) rfl rfl (any_of HT_.out (by kernel_rfl)) (fun _ _ _ h => h) (Or.inr ⟨by rfl, rfl⟩) ?_ ?_
         rotate_left
         ·simp only [Act.put, sA_, sZ_, sS_, i64_w, i32_w]
          rfl
         refine pure_ (i := 30) (N := some 164) (v := undef) (a' := ?_) (bf_ 41 2147483647) rfl rfl (any_of HT_.out (by kernel_rfl)) (fun _ _ _ h => h) (Or.inr ⟨by rfl, rfl⟩) ?_ ?_
         rotate_left
         ·simp only [Act.put, sA_, sZ_, sS_, i64_w, i32_w]
          rfl
         refine pure_ (i := 31) (N := some 165) (v := undef) (a' := ?_) (bf_ 41 4294967295) rfl rfl (any_of HT_.out (by kernel_rfl)) (fun _ _ _ h => h) (Or.inr ⟨by rfl, rfl⟩) ?_ ?_
         rotate_left
         ·simp only [Act.put, sA_, sZ_, sS_, i64_w, i32_w]
          rfl
         refine pure_ (i := 32) (N := some 166) (v := undef) (a' := ?_) (bf_ 41 8589934591) rfl rfl (any_of HT_.out (by kernel_rfl)) (fun _ _ _ h => h) (Or.inr ⟨by rfl, rfl⟩) ?_ ?_
         rotate_left
         ·simp only [Act.put, sA_, sZ_, sS_, i64_w, i32_w]
          rfl
         refine pure_ (i := 33) (N := some 167) (v := undef) (a' := ?_) (bf_ 41 17179869183) rfl rfl (any_of HT_.out (by kernel_rfl)) (fun _ _ _ h => h) (Or.inr ⟨by rfl, rfl⟩) ?_ ?_
         rotate_left
         ·simp only [Act.put, sA_, sZ_, sS_, i64_w, i32_w]
          rfl
         refine pure_ (i := 34) (N := some 168) (v := undef) (a' := ?_) (bf_ 41 34359738367) rfl rfl (any_of HT_.out (by kernel_rfl)) (fun _ _ _ h => h) (Or.inr ⟨by rfl, rfl⟩) ?_ ?_
         rotate_left
         ·simp only [Act.put, sA_, sZ_, sS_, i64_w, i32_w]
          rfl
         refine pure_ (i := 35) (N := some 169) (v := undef) (a' := ?_) (bf_ 41 68719476735) rfl rfl (any_of HT_.out (by kernel_rfl)) (fun _ _ _ h => h) (Or.inr ⟨by rfl, rfl⟩) ?_ ?_
         rotate_left
         ·simp only [Act.put, sA_, sZ_, sS_, i64_w, i32_w]
          rfl
         refine pure_ (i := 36) (N := some 170) (v := undef) (a' := ?_) (bf_ 41 137438953471) rfl rfl (any_of HT_.out (by kernel_rfl)) (fun _ _ _ h => h) (Or.inr ⟨by rfl, rfl⟩) ?_ ?_
         rotate_left
         ·simp only [Act.put, sA_, sZ_, sS_, i64_w, i32_w]
          rfl
         refine pure_ (i := 37) (N := some 171) (v := undef) (a' := ?_) (bf_ 41 274877906943) rfl rfl (any_of HT_.out (by kernel_rfl)) (fun _ _ _ h => h) (Or.inr ⟨by rfl, rfl⟩) ?_ ?_
         rotate_left
         ·simp only [Act.put, sA_, sZ_, sS_, i64_w, i32_w]
          rfl
         refine pu_ 38 (some 172) (bf_ 41 549755813887) HT_.out ?_
         refine pu_ 39 (some 173) (bf_ 41 1099511627775) HT_.out ?_
         refine pu_ 40 (some 6) (bf_ 41 2199023255551) HT_.out ?_
         refine done_ (done_of HT_.out (by kernel_rfl)) ?_
         try go_wp2
         go_ret
         exact rt_
def computuslaw21_OccurrenceDisplaces.Pure : Prop := ∀ (a0_0 : Int) (l0_1 : List (S66)) (l0_2 : List (S68)) (a1 : Int) (a2 : Int), (Lit.int .i64 a0_0).wf = true → l0_1.length ≤ maxLen → (∀ x ∈ l0_1, wf66 x) → l0_2.length ≤ maxLen → (∀ x ∈ l0_2, wf68 x) → (Lit.int .i64 a1).wf = true → (Lit.int .i64 a2).wf = true → ∃ k, computuslaw21_OccurrenceDisplaces.f k a0_0 l0_1 l0_2 a1 a2 = some true

end Go.Proofs.Ytopfjjdkffdjpaa.Q
end
section
namespace Go.Proofs.Ytopfjjdkffdjpaa.Cal
def lp (c y : Int) : Bool := if c = 1 then decide (y % 4 = 0) else (decide (y % 4 = 0) && (!decide (y % 100 = 0) || decide (y % 400 = 0)))
def mlen (b : Bool) (m : Int) : Int := if m = 2 then (if b then 29 else 28) else if m = 4 ∨ m = 6 ∨ m = 9 ∨ m = 11 then 30 else if 1 ≤ m ∧ m ≤ 12 then 31 else 0
def cum (b : Bool) : Nat → Int
 | 0 => 0
 | 1 => 0
 | m + 2 => cum b (m + 1) + mlen b ((m + 1 : Nat) : Int)
def fst (c y : Int) : Int := if c = 1 then 365 * (y - 1) + (y - 1) / 4 - 1 else 365 * (y - 1) + (y - 1) / 4 - (y - 1) / 100 + (y - 1) / 400 + 1
def ylen (c y : Int) : Int := if lp c y then 366 else 365
theorem fst_next (c y : Int) : fst c (y + 1) = fst c y + ylen c y := by
 unfold fst ylen lp
 by_cases hc : c = 1
 ·rw [if_pos hc, if_pos hc, if_pos hc]
  by_cases h : y % 4 = 0
  ·rw [decide_eq_true h, if_pos rfl]; omega
  ·rw [decide_eq_false h, if_neg (by simp)]; omega
 ·rw [if_neg hc, if_neg hc, if_neg hc]
  by_cases h : y % 4 = 0
  ·by_cases h1 : y % 100 = 0
   ·by_cases h2 : y % 400 = 0
    ·rw [decide_eq_true h, decide_eq_true h2, Bool.or_true, Bool.and_true, if_pos rfl]; omega
    ·rw [decide_eq_true h1, decide_eq_false h2, Bool.not_true, Bool.or_false, Bool.and_false, if_neg (by simp)]; omega
   ·rw [decide_eq_true h, decide_eq_false h1, Bool.not_false, Bool.true_or, Bool.and_true, if_pos rfl]; omega
  ·rw [decide_eq_false h, Bool.false_and, if_neg (by simp)]; omega
theorem ylen_le (c y : Int) : 365 ≤ ylen c y ∧ ylen c y ≤ 366 := by unfold ylen; split <;> omega
theorem fst_mono (c : Int) {a b : Int} (h : a ≤ b) : fst c a + 365 * (b - a) ≤ fst c b := by
 obtain ⟨n, rfl⟩ : ∃ n : Nat, b = a + n := ⟨(b - a).toNat, by omega⟩
 induction n with
 | zero => simp
 | succ n ih =>
  have h1 := fst_next c (a + n)
  have h2 := ylen_le c (a + n)
  have h3 := ih (by omega)
  rw [show a + ((n + 1 : Nat) : Int) = a + n + 1 by omega, h1]
  omega
theorem year_one {c a b n : Int} (h1 : fst c a ≤ n) (h2 : n < fst c (a + 1)) (h3 : fst c b ≤ n) (h4 : n < fst c (b + 1)) : a = b := by
 rcases Int.lt_trichotomy a b with h | h | h
 ·have := fst_mono c (show a + 1 ≤ b by omega); omega
 ·exact h
 ·have := fst_mono c (show b + 1 ≤ a by omega); omega
theorem fst_bounds (c : Int) {y : Int} (h0 : -10 ≤ y) (h1 : y ≤ 1000000010) : -5000 ≤ fst c y ∧ fst c y ≤ 370000000000 := by unfold fst; split <;> omega
theorem fst_pos {y : Int} (h : 1583 ≤ y) : 577000 ≤ fst 2 y := by unfold fst; rw [if_neg (by omega)]; omega
theorem mlen_range (b : Bool) {m : Int} (h : 1 ≤ m ∧ m ≤ 12) : 28 ≤ mlen b m ∧ mlen b m ≤ 31 := by
 unfold mlen
 split
 ·split <;> omega
 ·split
  ·omega
  ·first | omega | (rw [if_pos h]; omega)
theorem mlen_zero (b : Bool) {m : Int} (h : ¬ (1 ≤ m ∧ m ≤ 12)) : mlen b m = 0 := by
 unfold mlen
 rw [if_neg (by omega), if_neg (by omega), if_neg h]
theorem mlen_nonneg (b : Bool) (m : Int) : 0 ≤ mlen b m ∧ mlen b m ≤ 31 := by
 by_cases h : 1 ≤ m ∧ m ≤ 12
 ·have := mlen_range b h; omega
 ·rw [mlen_zero b h]; omega
theorem cum_succ (b : Bool) {m : Nat} (h : 1 ≤ m) : cum b (m + 1) = cum b m + mlen b (m : Int) := by
 obtain ⟨k, rfl⟩ : ∃ k, m = k + 1 := ⟨m - 1, by omega⟩
 rfl
theorem cum_all : ∀ b : Bool, cum b 13 = if b then 366 else 365 := by decide
theorem cum_tab : ∀ b : Bool, ∀ m : Nat, m < 14 → 0 ≤ cum b m ∧ cum b m ≤ 366 := by decide
theorem cum_mono (b : Bool) {m k : Nat} (h1 : 1 ≤ m) (h : m ≤ k) : cum b m ≤ cum b k := by
 obtain ⟨n, rfl⟩ : ∃ n : Nat, k = m + n := ⟨k - m, by omega⟩
 induction n with
 | zero => simp
 | succ n ih =>
  have := cum_succ b (m := m + n) (by omega)
  have h3 := (mlen_nonneg b ((m + n : Nat) : Int)).1
  have h4 := ih (by omega)
  rw [show m + (n + 1) = m + n + 1 by omega, this]
  omega
structure Date where
 y : Int
 m : Int
 d : Int
 deriving DecidableEq
def Ok (c : Int) (x : Date) : Prop := 1 ≤ x.y ∧ x.y ≤ 1000000000 ∧ 1 ≤ x.m ∧ x.m ≤ 12 ∧ 1 ≤ x.d ∧ x.d ≤ mlen (lp c x.y) x.m
instance (c : Int) (x : Date) : Decidable (Ok c x) := by unfold Ok; infer_instance
def num (c : Int) (x : Date) : Int := fst c x.y + cum (lp c x.y) x.m.toNat + x.d - 1
theorem num_year {c : Int} {x : Date} (h : Ok c x) : fst c x.y ≤ num c x ∧ num c x < fst c (x.y + 1) := by
 obtain ⟨h1, h2, h3, h4, h5, h6⟩ := h
 unfold num
 have e := fst_next c x.y
 obtain ⟨k, hk⟩ : ∃ k : Nat, x.m = (k : Int) := ⟨x.m.toNat, by omega⟩
 have h7 := cum_tab (lp c x.y) k (by omega)
 have h8 := cum_succ (lp c x.y) (m := k) (by omega)
 have h9 := cum_mono (lp c x.y) (m := k + 1) (k := 13) (by omega) (by omega)
 have h10 := cum_all (lp c x.y)
 rw [hk] at h6 ⊢
 rw [Int.toNat_natCast]
 unfold ylen at e
 cases hb : lp c x.y
 ·rw [hb] at e h10 h9 h8 h7 h6
  simp at e h10
  omega
 ·rw [hb] at e h10 h9 h8 h7 h6
  simp at e h10
  omega
theorem md_one (b : Bool) {m k : Nat} {d e : Int} (hm : 1 ≤ m ∧ m ≤ 12) (hk : 1 ≤ k ∧ k ≤ 12) (hd : 1 ≤ d ∧ d ≤ mlen b (m : Int)) (he : 1 ≤ e ∧ e ≤ mlen b (k : Int)) (h : cum b m + d = cum b k + e) : m = k ∧ d = e := by
 have hmk : m = k := by
  rcases Nat.lt_trichotomy m k with h1 | h1 | h1
  ·have h2 := cum_succ b hm.1
   have h3 := cum_mono b (m := m + 1) (k := k) (by omega) (by omega)
   omega
  ·exact h1
  ·have h2 := cum_succ b hk.1
   have h3 := cum_mono b (m := k + 1) (k := m) (by omega) (by omega)
   omega
 subst hmk
 exact ⟨rfl, by omega⟩
theorem num_inj {c : Int} {x z : Date} (hx : Ok c x) (hz : Ok c z) (h : num c x = num c z) : x = z := by
 have h1 := num_year hx
 have h2 := num_year hz
 have hy : x.y = z.y := year_one (c := c) (n := num c x) h1.1 h1.2 (by omega) (by omega)
 obtain ⟨a1, a2, a3, a4, a5, a6⟩ := hx
 obtain ⟨b1, b2, b3, b4, b5, b6⟩ := hz
 obtain ⟨y, m, d⟩ := x
 obtain ⟨y2, m2, d2⟩ := z
 simp only at hy a1 a2 a3 a4 a5 a6 b1 b2 b3 b4 b5 b6
 subst hy
 obtain ⟨k, rfl⟩ : ∃ k : Nat, m = (k : Int) := ⟨m.toNat, by omega⟩
 obtain ⟨k2, rfl⟩ : ∃ k : Nat, m2 = (k : Int) := ⟨m2.toNat, by omega⟩
 unfold num at h
 simp only [Int.toNat_natCast] at h
 obtain ⟨e1, e2⟩ := md_one (lp c y) (m := k) (k := k2) (d := d) (e := d2) (by omega) (by omega) ⟨a5, a6⟩ ⟨b5, b6⟩ (by omega)
 subst e1
 subst e2
 rfl
def mdGo (b : Bool) : Nat → Int → Int → Int × Int
 | 0, m, r => (m, r + 1)
 | k + 1, m, r => if mlen b m ≤ r then mdGo b k (m + 1) (r - mlen b m) else (m, r + 1)
theorem mdGo_spec (b : Bool) : ∀ (k m : Nat) (r : Int), m + k = 12 → 1 ≤ m → 0 ≤ r → cum b m + r < cum b 13 →
  1 ≤ (mdGo b k (m : Int) r).1 ∧ (mdGo b k (m : Int) r).1 ≤ 12 ∧ 1 ≤ (mdGo b k (m : Int) r).2 ∧ (mdGo b k (m : Int) r).2 ≤ mlen b (mdGo b k (m : Int) r).1 ∧ cum b (mdGo b k (m : Int) r).1.toNat + (mdGo b k (m : Int) r).2 = cum b m + r + 1
 | 0, m, r, hk, h1, h0, h => by
  have h2 := cum_succ b h1
  obtain rfl : m = 12 := by omega
  rw [mdGo]
  have h3 : cum b (12 + 1) = cum b 13 := rfl
  refine ⟨by simp, by simp, by simp; omega, ?_, by simp; omega⟩
  show r + 1 ≤ mlen b ((12 : Nat) : Int)
  omega
 | k + 1, m, r, hk, h1, h0, h => by
  rw [mdGo]
  by_cases hr : mlen b (m : Int) ≤ r
  ·rw [if_pos hr]
   have h2 := cum_succ b h1
   have h3 := mdGo_spec b k (m + 1) (r - mlen b (m : Int)) (by omega) (by omega) (by omega) (by omega)
   rw [show ((m + 1 : Nat) : Int) = (m : Int) + 1 by omega] at h3
   refine ⟨h3.1, h3.2.1, h3.2.2.1, h3.2.2.2.1, ?_⟩
   rw [h3.2.2.2.2]
   omega
  ·rw [if_neg hr]
   refine ⟨by simp; omega, by simp; omega, by simp; omega, by simp; omega, by simp; omega⟩
def dateIn (c y n : Int) : Date := ⟨y, (mdGo (lp c y) 11 1 (n - fst c y)).1, (mdGo (lp c y) 11 1 (n - fst c y)).2⟩
theorem dateIn_ok {c y n : Int} (hy : 1 ≤ y ∧ y ≤ 1000000000) (h1 : fst c y ≤ n) (h2 : n < fst c (y + 1)) : Ok c (dateIn c y n) ∧ num c (dateIn c y n) = n := by
 have e := fst_next c y
 have h3 := mdGo_spec (lp c y) 11 1 (n - fst c y) rfl (by omega) (by omega) (by
  have h4 := cum_all (lp c y)
  have h5 : cum (lp c y) 1 = 0 := rfl
  unfold ylen at e
  cases hb : lp c y <;> rw [hb] at e h4 h5 <;> simp at e h4 <;> omega)
 obtain ⟨a, b, d, f, g⟩ := h3
 refine ⟨⟨hy.1, hy.2, a, b, d, f⟩, ?_⟩
 unfold num dateIn
 simp only
 have h5 : cum (lp c y) 1 = 0 := rfl
 rw [h5] at g
 have g2 : cum (lp c y) (mdGo (lp c y) 11 1 (n - fst c y)).1.toNat + (mdGo (lp c y) 11 1 (n - fst c y)).2 = 0 + (n - fst c y) + 1 := g
 omega
def yr (c n : Int) : Int :=
 if c = 1 then 4 * ((n + 1) / 1461) + min ((n + 1) % 1461 / 365) 3 + 1
 else 400 * ((n - 1) / 146097) + 100 * min ((n - 1) % 146097 / 36524) 3 + 4 * (((n - 1) % 146097 - 36524 * min ((n - 1) % 146097 / 36524) 3) / 1461) + min ((((n - 1) % 146097 - 36524 * min ((n - 1) % 146097 / 36524) 3) % 1461) / 365) 3 + 1
theorem yr_spec (c n : Int) : fst c (yr c n) ≤ n ∧ n < fst c (yr c n + 1) := by
 unfold fst yr
 by_cases hc : c = 1
 ·rw [if_pos hc, if_pos hc, if_pos hc]
  omega
 ·rw [if_neg hc, if_neg hc, if_neg hc]
  generalize hq : (n - 1) / 146097 = q
  generalize hr : (n - 1) % 146097 = r
  have h1 : n - 1 = 146097 * q + r ∧ 0 ≤ r ∧ r < 146097 := by omega
  generalize hs : min (r / 36524) 3 = s
  have h2 : 0 ≤ s ∧ s ≤ 3 ∧ 36524 * s ≤ r ∧ (r < 36524 * s + 36524 ∨ s = 3) := by omega
  generalize ht : (r - 36524 * s) / 1461 = t
  have h3 : 0 ≤ t ∧ t ≤ 24 ∧ 1461 * t ≤ r - 36524 * s ∧ r - 36524 * s < 1461 * t + 1461 := by omega
  generalize hu : (r - 36524 * s) % 1461 = u
  have h4 : r - 36524 * s = 1461 * t + u := by omega
  generalize hv : min (u / 365) 3 = v
  have h5 : 0 ≤ v ∧ v ≤ 3 ∧ 365 * v ≤ u ∧ (u < 365 * v + 365 ∨ v = 3) := by omega
  have e1 : (400 * q + 100 * s + 4 * t + v + 1 - 1) / 4 = 100 * q + 25 * s + t := by omega
  have e2 : (400 * q + 100 * s + 4 * t + v + 1 - 1) / 100 = 4 * q + s := by omega
  have e3 : (400 * q + 100 * s + 4 * t + v + 1 - 1) / 400 = q := by omega
  rw [e1, e2, e3]
  constructor
  ·omega
  ·rcases Int.lt_or_le v 3 with hv3 | hv3
   ·have f1 : (400 * q + 100 * s + 4 * t + v + 1 + 1 - 1) / 4 = 100 * q + 25 * s + t := by omega
    have f2 : (400 * q + 100 * s + 4 * t + v + 1 + 1 - 1) / 100 = 4 * q + s := by omega
    have f3 : (400 * q + 100 * s + 4 * t + v + 1 + 1 - 1) / 400 = q := by omega
    rw [f1, f2, f3]
    omega
   ·obtain rfl : v = 3 := by omega
    have f1 : (400 * q + 100 * s + 4 * t + 3 + 1 + 1 - 1) / 4 = 100 * q + 25 * s + t + 1 := by omega
    rw [f1]
    rcases Int.lt_or_le t 24 with ht3 | ht3
    ·have f2 : (400 * q + 100 * s + 4 * t + 3 + 1 + 1 - 1) / 100 = 4 * q + s := by omega
     have f3 : (400 * q + 100 * s + 4 * t + 3 + 1 + 1 - 1) / 400 = q := by omega
     rw [f2, f3]
     omega
    ·obtain rfl : t = 24 := by omega
     have f2 : (400 * q + 100 * s + 4 * 24 + 3 + 1 + 1 - 1) / 100 = 4 * q + s + 1 := by omega
     rw [f2]
     rcases Int.lt_or_le s 3 with hs3 | hs3
     ·have f3 : (400 * q + 100 * s + 4 * 24 + 3 + 1 + 1 - 1) / 400 = q := by omega
      rw [f3]
      omega
     ·obtain rfl : s = 3 := by omega
      have f3 : (400 * q + 100 * 3 + 4 * 24 + 3 + 1 + 1 - 1) / 400 = q + 1 := by omega
      rw [f3]
      omega
theorem yr_of {c y n : Int} (h1 : fst c y ≤ n) (h2 : n < fst c (y + 1)) : yr c n = y := year_one (c := c) (yr_spec c n).1 (yr_spec c n).2 h1 h2
def date (c n : Int) : Date := dateIn c (yr c n) n
def inDays (c n : Int) : Prop := fst c 1 ≤ n ∧ n < fst c 1000000001
theorem yr_range {c n : Int} (h : inDays c n) : 1 ≤ yr c n ∧ yr c n ≤ 1000000000 := by
 have h1 := yr_spec c n
 constructor
 ·rcases Int.lt_or_le (yr c n) 1 with h2 | h2
  ·have := fst_mono c (show yr c n + 1 ≤ 1 by omega)
   have := h.1
   omega
  ·exact h2
 ·rcases Int.lt_or_le 1000000000 (yr c n) with h2 | h2
  ·have := fst_mono c (show (1000000001 : Int) ≤ yr c n by omega)
   have := h.2
   omega
  ·omega
theorem date_ok {c n : Int} (h : inDays c n) : Ok c (date c n) ∧ num c (date c n) = n := dateIn_ok (yr_range h) (yr_spec c n).1 (yr_spec c n).2
theorem date_num {c : Int} {x : Date} (h : Ok c x) : date c (num c x) = x ∧ inDays c (num c x) := by
 have h1 := num_year h
 have h2 : inDays c (num c x) := ⟨by have := fst_mono c (show (1 : Int) ≤ x.y from h.1); have := h.1; omega, by have := fst_mono c (show x.y + 1 ≤ 1000000001 by have := h.2.1; omega); have := h.2.1; omega⟩
 have h3 := date_ok h2
 exact ⟨num_inj h3.1 h h3.2, h2⟩
end Go.Proofs.Ytopfjjdkffdjpaa.Cal
end
section
namespace Go.Proofs.Ytopfjjdkffdjpaa.Q
open Go.RowKit Go.Proofs.YtopfjjdkffdjpaaW.PrintWords Go.Proofs.YtopfjjdkffdjpaaW.PrintLast Go.Proofs.Ytopfjjdkffdjpaa.Cal
theorem wq (n : Int) (h : -9223372036854775808 ≤ n ∧ n ≤ 9223372036854775807) : wrap64 n = n := by unfold wrap64; omega
theorem Ev.fin {α : Type} {g : Nat → Option α} {r : α} (h : ∀ k, g (k + 1) = some r) : Ev g r := Ev.step h (Ev.now r)
theorem Ev.def_ {α : Type} {o : Option α} {r : α} (h : o = some r) : Ev (fun _ => o) r := ⟨0, fun _ _ => h⟩
theorem modq4 (n : Int) (h : -1000000000000000 ≤ n ∧ n ≤ 1000000000000000) : computusref01_Mod.f n 4 = some (n % 4) := by
 have hd := Int.tmod_def n 4
 have h2 := Int.tmod_lt_of_pos n (b := 4) (by omega)
 have h3 := Int.lt_tmod_of_pos n (b := 4) (by omega)
 have hs := Int.tmod_nonneg (a := n) 4
 have ht : n < 0 → n.tmod 4 ≤ 0 := fun h => by
  have h4 := Int.tmod_nonneg (a := -n) 4 (by omega)
  rw [Int.neg_tmod] at h4
  omega
 unfold computusref01_Mod.f computusref01_Div.f
 rw [if_neg (by omega), wq (n.tdiv 4) (by omega), wq (n.tdiv 4 * 4) (by omega)]
 by_cases he : n.tdiv 4 * 4 = n
 ·rw [if_pos he]
  simp only [Option.bind_some]
  rw [wq (4 * n.tdiv 4) (by omega), wq _ (by omega)]
  congr 1; omega
 ·rw [if_neg he]
  by_cases hn : n < 0
  ·rw [decide_eq_true hn, decide_eq_false (by omega), if_pos (by decide)]
   simp only [Option.bind_some]
   have := ht hn
   rw [wq (n.tdiv 4 - 1) (by omega), wq (4 * (n.tdiv 4 - 1)) (by omega), wq _ (by omega)]
   congr 1; omega
  ·rw [decide_eq_false hn, decide_eq_false (by omega), if_neg (by decide)]
   simp only [Option.bind_some]
   have := hs (by omega)
   rw [wq (4 * n.tdiv 4) (by omega), wq _ (by omega)]
   congr 1; omega
theorem modq7 (n : Int) (h : -1000000000000000 ≤ n ∧ n ≤ 1000000000000000) : computusref01_Mod.f n 7 = some (n % 7) := by
 have hd := Int.tmod_def n 7
 have h2 := Int.tmod_lt_of_pos n (b := 7) (by omega)
 have h3 := Int.lt_tmod_of_pos n (b := 7) (by omega)
 have hs := Int.tmod_nonneg (a := n) 7
 have ht : n < 0 → n.tmod 7 ≤ 0 := fun h => by
  have h4 := Int.tmod_nonneg (a := -n) 7 (by omega)
  rw [Int.neg_tmod] at h4
  omega
 unfold computusref01_Mod.f computusref01_Div.f
 rw [if_neg (by omega), wq (n.tdiv 7) (by omega), wq (n.tdiv 7 * 7) (by omega)]
 by_cases he : n.tdiv 7 * 7 = n
 ·rw [if_pos he]
  simp only [Option.bind_some]
  rw [wq (7 * n.tdiv 7) (by omega), wq _ (by omega)]
  congr 1; omega
 ·rw [if_neg he]
  by_cases hn : n < 0
  ·rw [decide_eq_true hn, decide_eq_false (by omega), if_pos (by decide)]
   simp only [Option.bind_some]
   have := ht hn
   rw [wq (n.tdiv 7 - 1) (by omega), wq (7 * (n.tdiv 7 - 1)) (by omega), wq _ (by omega)]
   congr 1; omega
  ·rw [decide_eq_false hn, decide_eq_false (by omega), if_neg (by decide)]
   simp only [Option.bind_some]
   have := hs (by omega)
   rw [wq (7 * n.tdiv 7) (by omega), wq _ (by omega)]
   congr 1; omega
theorem modq30 (n : Int) (h : -1000000000000000 ≤ n ∧ n ≤ 1000000000000000) : computusref01_Mod.f n 30 = some (n % 30) := by
 have hd := Int.tmod_def n 30
 have h2 := Int.tmod_lt_of_pos n (b := 30) (by omega)
 have h3 := Int.lt_tmod_of_pos n (b := 30) (by omega)
 have hs := Int.tmod_nonneg (a := n) 30
 have ht : n < 0 → n.tmod 30 ≤ 0 := fun h => by
  have h4 := Int.tmod_nonneg (a := -n) 30 (by omega)
  rw [Int.neg_tmod] at h4
  omega
 unfold computusref01_Mod.f computusref01_Div.f
 rw [if_neg (by omega), wq (n.tdiv 30) (by omega), wq (n.tdiv 30 * 30) (by omega)]
 by_cases he : n.tdiv 30 * 30 = n
 ·rw [if_pos he]
  simp only [Option.bind_some]
  rw [wq (30 * n.tdiv 30) (by omega), wq _ (by omega)]
  congr 1; omega
 ·rw [if_neg he]
  by_cases hn : n < 0
  ·rw [decide_eq_true hn, decide_eq_false (by omega), if_pos (by decide)]
   simp only [Option.bind_some]
   have := ht hn
   rw [wq (n.tdiv 30 - 1) (by omega), wq (30 * (n.tdiv 30 - 1)) (by omega), wq _ (by omega)]
   congr 1; omega
  ·rw [decide_eq_false hn, decide_eq_false (by omega), if_neg (by decide)]
   simp only [Option.bind_some]
   have := hs (by omega)
   rw [wq (30 * n.tdiv 30) (by omega), wq _ (by omega)]
   congr 1; omega
theorem modq100 (n : Int) (h : -1000000000000000 ≤ n ∧ n ≤ 1000000000000000) : computusref01_Mod.f n 100 = some (n % 100) := by
 have hd := Int.tmod_def n 100
 have h2 := Int.tmod_lt_of_pos n (b := 100) (by omega)
 have h3 := Int.lt_tmod_of_pos n (b := 100) (by omega)
 have hs := Int.tmod_nonneg (a := n) 100
 have ht : n < 0 → n.tmod 100 ≤ 0 := fun h => by
  have h4 := Int.tmod_nonneg (a := -n) 100 (by omega)
  rw [Int.neg_tmod] at h4
  omega
 unfold computusref01_Mod.f computusref01_Div.f
 rw [if_neg (by omega), wq (n.tdiv 100) (by omega), wq (n.tdiv 100 * 100) (by omega)]
 by_cases he : n.tdiv 100 * 100 = n
 ·rw [if_pos he]
  simp only [Option.bind_some]
  rw [wq (100 * n.tdiv 100) (by omega), wq _ (by omega)]
  congr 1; omega
 ·rw [if_neg he]
  by_cases hn : n < 0
  ·rw [decide_eq_true hn, decide_eq_false (by omega), if_pos (by decide)]
   simp only [Option.bind_some]
   have := ht hn
   rw [wq (n.tdiv 100 - 1) (by omega), wq (100 * (n.tdiv 100 - 1)) (by omega), wq _ (by omega)]
   congr 1; omega
  ·rw [decide_eq_false hn, decide_eq_false (by omega), if_neg (by decide)]
   simp only [Option.bind_some]
   have := hs (by omega)
   rw [wq (100 * n.tdiv 100) (by omega), wq _ (by omega)]
   congr 1; omega
theorem modq400 (n : Int) (h : -1000000000000000 ≤ n ∧ n ≤ 1000000000000000) : computusref01_Mod.f n 400 = some (n % 400) := by
 have hd := Int.tmod_def n 400
 have h2 := Int.tmod_lt_of_pos n (b := 400) (by omega)
 have h3 := Int.lt_tmod_of_pos n (b := 400) (by omega)
 have hs := Int.tmod_nonneg (a := n) 400
 have ht : n < 0 → n.tmod 400 ≤ 0 := fun h => by
  have h4 := Int.tmod_nonneg (a := -n) 400 (by omega)
  rw [Int.neg_tmod] at h4
  omega
 unfold computusref01_Mod.f computusref01_Div.f
 rw [if_neg (by omega), wq (n.tdiv 400) (by omega), wq (n.tdiv 400 * 400) (by omega)]
 by_cases he : n.tdiv 400 * 400 = n
 ·rw [if_pos he]
  simp only [Option.bind_some]
  rw [wq (400 * n.tdiv 400) (by omega), wq _ (by omega)]
  congr 1; omega
 ·rw [if_neg he]
  by_cases hn : n < 0
  ·rw [decide_eq_true hn, decide_eq_false (by omega), if_pos (by decide)]
   simp only [Option.bind_some]
   have := ht hn
   rw [wq (n.tdiv 400 - 1) (by omega), wq (400 * (n.tdiv 400 - 1)) (by omega), wq _ (by omega)]
   congr 1; omega
  ·rw [decide_eq_false hn, decide_eq_false (by omega), if_neg (by decide)]
   simp only [Option.bind_some]
   have := hs (by omega)
   rw [wq (400 * n.tdiv 400) (by omega), wq _ (by omega)]
   congr 1; omega
theorem leapq (y : Int) (h : 1 ≤ y ∧ y ≤ 1000000010) : computusref03_Leap.f y = some (lp 2 y) := by
 unfold computusref03_Leap.f lp
 rw [modq400 y (by omega), modq4 y (by omega), modq100 y (by omega), if_neg (by omega)]
 simp only [Option.bind_some]
 by_cases h4 : y % 400 = 0
 ·rw [if_pos h4, decide_eq_true h4, decide_eq_true (show y % 4 = 0 by omega)]
  simp
 ·rw [if_neg h4, decide_eq_false h4]
  by_cases h2 : y % 4 = 0
  ·rw [if_pos h2, decide_eq_true h2]
   by_cases h3 : y % 100 = 0
   ·simp [h3]
   ·simp [h3]
  ·rw [if_neg h2, decide_eq_false h2]
   simp
theorem len_ev (b : Bool) (m : Int) : Ev (fun k => computusref02_Length.f k b m) (mlen b m) := by
 have h1 : ∀ m : Int, (m = 1 ∨ m = 3 ∨ m = 5 ∨ m = 7 ∨ m = 8 ∨ m = 10 ∨ m = 12) → Ev (fun k => computusref02_Length.j0 k b m true) (mlen b m) := fun m hm => by
  refine Ev.fin fun k => ?_
  simp only [computusref02_Length.j0]
  unfold mlen
  rw [if_pos trivial, if_neg (by omega), if_neg (by omega), if_pos (by omega)]
 have h2 : ∀ m : Int, ¬ (m = 1 ∨ m = 3 ∨ m = 5 ∨ m = 7 ∨ m = 8 ∨ m = 10 ∨ m = 12) → Ev (fun k => computusref02_Length.j0 k b m false) (mlen b m) := fun m hm => by
  have j1 : ∀ m : Int, (m = 4 ∨ m = 6 ∨ m = 9 ∨ m = 11) → Ev (fun k => computusref02_Length.j1 k b m true) (mlen b m) := fun m hm => by
   refine Ev.fin fun k => ?_
   simp only [computusref02_Length.j1]
   unfold mlen
   rw [if_pos trivial, if_neg (by omega), if_pos (by omega)]
  have j2 : ∀ m : Int, ¬ (m = 1 ∨ m = 3 ∨ m = 5 ∨ m = 7 ∨ m = 8 ∨ m = 10 ∨ m = 12) → ¬ (m = 4 ∨ m = 6 ∨ m = 9 ∨ m = 11) → Ev (fun k => computusref02_Length.j1 k b m false) (mlen b m) := fun m h0 hm => by
   refine Ev.fin fun k => ?_
   simp only [computusref02_Length.j1]
   unfold mlen
   rw [if_neg (by simp)]
   by_cases h2 : m = 2
   ·rw [if_pos h2, if_pos h2]
    cases b <;> rfl
   ·rw [if_neg h2, if_neg h2, if_neg hm, if_neg (by omega)]
  by_cases h4 : m = 4
  ·refine Ev.step (fun k => ?_) (j1 m (.inl h4))
   simp only [computusref02_Length.j0]
   rw [if_neg (by simp), if_pos h4, beq_iff_eq.mpr h4]
  ·by_cases h6 : m = 6
   ·refine Ev.step (fun k => ?_) (j1 m (by omega))
    simp only [computusref02_Length.j0]
    rw [if_neg (by simp), if_neg h4, if_pos h6, beq_iff_eq.mpr h6]
   ·by_cases h9 : m = 9
    ·refine Ev.step (fun k => ?_) (j1 m (by omega))
     simp only [computusref02_Length.j0]
     rw [if_neg (by simp), if_neg h4, if_neg h6, if_pos h9, beq_iff_eq.mpr h9]
    ·by_cases h11 : m = 11
     ·refine Ev.step (fun k => ?_) (j1 m (by omega))
      simp only [computusref02_Length.j0]
      rw [if_neg (by simp), if_neg h4, if_neg h6, if_neg h9, beq_iff_eq.mpr h11]
     ·refine Ev.step (fun k => ?_) (j2 m hm (by omega))
      simp only [computusref02_Length.j0]
      rw [if_neg (by simp), if_neg h4, if_neg h6, if_neg h9, beq_eq_false_iff_ne.mpr h11]
 unfold computusref02_Length.f
 by_cases a1 : m = 1
 ·exact Ev.congr (fun k => by rw [if_pos a1, beq_iff_eq.mpr a1]) (h1 m (by omega))
 by_cases a3 : m = 3
 ·exact Ev.congr (fun k => by rw [if_neg a1, if_pos a3, beq_iff_eq.mpr a3]) (h1 m (by omega))
 by_cases a5 : m = 5
 ·exact Ev.congr (fun k => by rw [if_neg a1, if_neg a3, if_pos a5, beq_iff_eq.mpr a5]) (h1 m (by omega))
 by_cases a7 : m = 7
 ·exact Ev.congr (fun k => by rw [if_neg a1, if_neg a3, if_neg a5, if_pos a7, beq_iff_eq.mpr a7]) (h1 m (by omega))
 by_cases a8 : m = 8
 ·exact Ev.congr (fun k => by rw [if_neg a1, if_neg a3, if_neg a5, if_neg a7, if_pos a8, beq_iff_eq.mpr a8]) (h1 m (by omega))
 by_cases a10 : m = 10
 ·exact Ev.congr (fun k => by rw [if_neg a1, if_neg a3, if_neg a5, if_neg a7, if_neg a8, if_pos a10, beq_iff_eq.mpr a10]) (h1 m (by omega))
 by_cases a12 : m = 12
 ·exact Ev.congr (fun k => by rw [if_neg a1, if_neg a3, if_neg a5, if_neg a7, if_neg a8, if_neg a10, beq_iff_eq.mpr a12]) (h1 m (by omega))
 ·exact Ev.congr (fun k => by rw [if_neg a1, if_neg a3, if_neg a5, if_neg a7, if_neg a8, if_neg a10, beq_eq_false_iff_ne.mpr a12]) (h2 m (by omega))
theorem firstq (y : Int) (h : 1 ≤ y ∧ y ≤ 1000000010) : computusref03_First.f y = some (fst 2 y) := by
 unfold computusref03_First.f fst
 rw [if_neg (by omega), wq (y - 1) (by omega), Int.tdiv_eq_ediv_of_nonneg (by omega), Int.tdiv_eq_ediv_of_nonneg (by omega), Int.tdiv_eq_ediv_of_nonneg (by omega), wq (365 * (y - 1)) (by omega), wq ((y - 1) / 4) (by omega), wq ((y - 1) / 100) (by omega), wq ((y - 1) / 400) (by omega), wq (365 * (y - 1) + (y - 1) / 4) (by omega), wq (365 * (y - 1) + (y - 1) / 4 - (y - 1) / 100) (by omega), wq (365 * (y - 1) + (y - 1) / 4 - (y - 1) / 100 + (y - 1) / 400) (by omega), wq _ (by omega)]
theorem inq (y : Int) (h : 1 ≤ y ∧ y ≤ 1000000000) : computusref02_In.f y = some true := by
 unfold computusref02_In.f
 rw [if_pos (by omega), decide_eq_true h.2]
theorem validq (x : Date) (h : Ok 2 x) : Ev (fun k => computusref03_Valid.f k x.y x.m x.d) true := by
 obtain ⟨h1, h2, h3, h4, h5, h6⟩ := h
 unfold computusref03_Valid.f
 rw [inq x.y ⟨h1, h2⟩, leapq x.y (by omega)]
 simp only [Option.bind_some, if_true]
 refine Ev.congr (fun k => if_pos h5) ?_
 refine Ev.bind (len_ev (lp 2 x.y) x.m) ?_
 rw [decide_eq_true h6]
 exact Ev.now true
theorem todayl (x : Date) (h : Ok 2 x) : ∀ (n m : Nat), (m : Int) + n = x.m → 1 ≤ m → Ev (fun k => computusref03_ToDay.l0 k (fst 2 x.y + cum (lp 2 x.y) m) (m : Int) x.y x.m x.d) (num 2 x, 0)
 | 0, m, hm, h1 => Ev.fin fun k => by
  obtain ⟨y1, y2, y3, y4, y5, y6⟩ := h
  have hb := fst_bounds 2 (y := x.y) (by omega) (by omega)
  have hc := cum_tab (lp 2 x.y) m (by omega)
  have hl := mlen_nonneg (lp 2 x.y) x.m
  simp only [computusref03_ToDay.l0]
  rw [if_neg (by omega), wq (fst 2 x.y + cum (lp 2 x.y) m + x.d) (by omega), wq _ (by omega)]
  have e : x.m.toNat = m := by omega
  unfold num
  rw [e]
 | n + 1, m, hm, h1 => by
  have h0 := h
  obtain ⟨y1, y2, y3, y4, y5, y6⟩ := h
  have hb := fst_bounds 2 (y := x.y) (by omega) (by omega)
  have hc := cum_tab (lp 2 x.y) m (by omega)
  have hl := mlen_nonneg (lp 2 x.y) m
  have e := todayl x h0 n (m + 1) (by omega) (by omega)
  refine Ev.step (f := fun k => (computusref02_Length.f k (lp 2 x.y) (m : Int)).bind fun t => computusref03_ToDay.l0 k (wrap64 (fst 2 x.y + cum (lp 2 x.y) m + t)) (wrap64 ((m : Int) + 1)) x.y x.m x.d) (fun k => ?_) ?_
  ·simp only [computusref03_ToDay.l0]
   rw [if_pos (by omega), leapq x.y (by omega)]
   rfl
  ·refine Ev.bind (len_ev _ _) ?_
   rw [wq (fst 2 x.y + cum (lp 2 x.y) m + mlen (lp 2 x.y) (m : Int)) (by omega), wq ((m : Int) + 1) (by omega)]
   rw [cum_succ (lp 2 x.y) h1] at e
   rw [show ((m + 1 : Nat) : Int) = (m : Int) + 1 by omega, ← Int.add_assoc] at e
   exact e
theorem today_ev (x : Date) (h : Ok 2 x) : Ev (fun k => computusref03_ToDay.f k x.y x.m x.d) (num 2 x, 0) := by
 have h0 := h
 obtain ⟨h1, h2, h3, h4, h5, h6⟩ := h
 unfold computusref03_ToDay.f
 rw [inq x.y ⟨h1, h2⟩, firstq x.y (by omega)]
 simp only [Option.bind_some, if_true]
 refine Ev.bind (validq x h0) ?_
 simp only [if_true]
 have e := todayl x h0 (x.m.toNat - 1) 1 (by omega) (by omega)
 have c1 : cum (lp 2 x.y) 1 = 0 := rfl
 rw [c1, Int.add_zero] at e
 exact e
theorem fromday_md (y : Int) (hy : 1 ≤ y ∧ y ≤ 1000000000) : ∀ (q m : Nat) (r : Int), m + q = 12 → 1 ≤ m → 0 ≤ r → cum (lp 2 y) m + r < cum (lp 2 y) 13 →
  Ev (fun k => computusref03_FromDay.l1 k y y (m : Int) (r + 1)) (y, (mdGo (lp 2 y) q (m : Int) r).1, (mdGo (lp 2 y) q (m : Int) r).2, 0)
 | q, m, r, hq, h1, h0, hr => by
  have hl := mlen_nonneg (lp 2 y) m
  have h13 : cum (lp 2 y) 13 ≤ 366 := (cum_tab (lp 2 y) 13 (by omega)).2
  have hcm := (cum_tab (lp 2 y) m (by omega)).1
  have hs := cum_succ (lp 2 y) h1
  have start : ∀ (f : Nat → Option (Int × Int × Int × Int)) (R : Int × Int × Int × Int), Ev (fun k => if r + 1 > mlen (lp 2 y) (m : Int) then (computusref02_Length.f k (lp 2 y) (m : Int)).bind fun t => computusref03_FromDay.l1 k y y (wrap64 ((m : Int) + 1)) (wrap64 (r + 1 - t)) else some (y, (m : Int), r + 1, 0)) R → Ev (fun k => computusref03_FromDay.l1 k y y (m : Int) (r + 1)) R := fun _ R e => by
   refine Ev.step (f := fun k => (computusref02_Length.f k (lp 2 y) (m : Int)).bind fun t => if r + 1 > t then (computusref02_Length.f k (lp 2 y) (m : Int)).bind fun t => computusref03_FromDay.l1 k y y (wrap64 ((m : Int) + 1)) (wrap64 (r + 1 - t)) else some (y, (m : Int), r + 1, 0)) (fun k => ?_) (Ev.bind (len_ev _ _) e)
   simp only [computusref03_FromDay.l1]
   rw [leapq y (by omega)]
   rfl
  cases q with
  | zero =>
   obtain rfl : m = 12 := by omega
   have h12 : cum (lp 2 y) (12 + 1) = cum (lp 2 y) 13 := rfl
   refine start (fun _ => none) _ (Ev.congr (fun k => if_neg (by omega)) ?_)
   exact Ev.now _
  | succ q =>
   rw [mdGo]
   by_cases hc : mlen (lp 2 y) (m : Int) ≤ r
   ·rw [if_pos hc]
    have e := fromday_md y hy q (m + 1) (r - mlen (lp 2 y) (m : Int)) (by omega) (by omega) (by omega) (by omega)
    rw [show ((m + 1 : Nat) : Int) = (m : Int) + 1 by omega] at e
    refine start (fun _ => none) _ (Ev.congr (fun k => if_pos (by omega)) ?_)
    refine Ev.bind (len_ev _ _) ?_
    rw [wq ((m : Int) + 1) (by omega), wq (r + 1 - mlen (lp 2 y) (m : Int)) (by omega), show r + 1 - mlen (lp 2 y) (m : Int) = r - mlen (lp 2 y) (m : Int) + 1 by omega]
    exact e
   ·rw [if_neg hc]
    refine start (fun _ => none) _ (Ev.congr (fun k => if_neg (by omega)) ?_)
    exact Ev.now _
theorem fromday_l0 (n : Int) (hn : 0 ≤ n ∧ n ≤ 400000000000) : ∀ (s : Nat) (lo hi : Int), hi - lo ≤ s → 1 ≤ lo → lo ≤ hi → hi ≤ 1000000000 → fst 2 lo ≤ n → n < fst 2 (hi + 1) → Ev (fun k => computusref03_FromDay.l0 k n lo hi) ((date 2 n).y, (date 2 n).m, (date 2 n).d, 0)
 | s, lo, hi, hs, h1, h2, h3, h4, h5 => by
  by_cases he : lo < hi
  ·have hmid : wrap64 (Int.tdiv (wrap64 (wrap64 (lo + hi) + 1)) 2) = (lo + hi + 1) / 2 := by
    rw [wq (lo + hi) (by omega), wq (lo + hi + 1) (by omega), Int.tdiv_eq_ediv_of_nonneg (by omega), wq _ (by omega)]
   cases s with
   | zero => omega
   | succ s =>
    by_cases hc : fst 2 ((lo + hi + 1) / 2) ≤ n
    ·refine Ev.step (fun k => ?_) (fromday_l0 n hn s ((lo + hi + 1) / 2) hi (by omega) (by omega) (by omega) h3 hc h5)
     simp only [computusref03_FromDay.l0]
     rw [if_pos he, hmid, firstq _ (by omega)]
     simp only [Option.bind_some]
     rw [if_pos hc]
    ·refine Ev.step (fun k => ?_) (fromday_l0 n hn s lo ((lo + hi + 1) / 2 - 1) (by omega) h1 (by omega) (by omega) h4 (by rw [show (lo + hi + 1) / 2 - 1 + 1 = (lo + hi + 1) / 2 by omega]; omega))
     simp only [computusref03_FromDay.l0]
     rw [if_pos he, hmid, firstq _ (by omega)]
     simp only [Option.bind_some]
     rw [if_neg hc, wq ((lo + hi + 1) / 2 - 1) (by omega)]
  ·obtain rfl : lo = hi := by omega
   have hb := fst_bounds 2 (y := lo) (by omega) (by omega)
   have hy : yr 2 n = lo := yr_of h4 h5
   have hyl := fst_next 2 lo
   have e := fromday_md lo ⟨h1, h3⟩ 11 1 (n - fst 2 lo) rfl (by omega) (by omega) (by
    have c1 : cum (lp 2 lo) 1 = 0 := rfl
    have c13 := cum_all (lp 2 lo)
    unfold ylen at hyl
    cases hb : lp 2 lo <;> rw [hb] at hyl c1 c13 <;> simp at hyl c13 <;> omega)
   refine Ev.step (fun k => ?_) (f := fun k => computusref03_FromDay.l1 k lo lo 1 (n - fst 2 lo + 1)) ?_
   ·simp only [computusref03_FromDay.l0]
    rw [if_neg he, firstq _ (by omega)]
    simp only [Option.bind_some]
    rw [wq (n - fst 2 lo) (by omega), wq _ (by omega)]
   ·have : date 2 n = ⟨lo, (mdGo (lp 2 lo) 11 1 (n - fst 2 lo)).1, (mdGo (lp 2 lo) 11 1 (n - fst 2 lo)).2⟩ := by
     unfold date dateIn
     rw [hy]
    rw [this]
    exact e
theorem fst_ends : fst 2 1 = 1 ∧ fst 2 1000000001 = 365242500001 := by constructor <;> decide
theorem fromday_ev (n : Int) (h : inDays 2 n) : Ev (fun k => computusref03_FromDay.f k n) ((date 2 n).y, (date 2 n).m, (date 2 n).d, 0) := by
 obtain ⟨h1, h2⟩ := h
 have he := fst_ends
 unfold computusref03_FromDay.f
 rw [firstq 1000000001 (by omega)]
 refine Ev.congr (fun k => if_neg (by omega)) ?_
 simp only [Option.bind_some]
 rw [decide_eq_false (by omega)]
 refine Ev.step (fun k => ?_) (fromday_l0 n (by omega) 1000000000 1 1000000000 (by omega) (by omega) (by omega) (by omega) h1 h2)
 simp only [computusref03_FromDay.j0]
 rw [if_neg (by simp)]
theorem today05_ev (x : Date) (h : Ok 2 x) : Ev (fun k => computusref05_ToDay.f k 2 x.y x.m x.d) (num 2 x, 0) := by
 unfold computusref05_ToDay.f
 refine Ev.congr (fun k => by rw [if_neg (by omega), if_pos rfl]) ?_
 exact Ev.bind (today_ev x h) (Ev.now _)
theorem fromday05_ev (n : Int) (h : inDays 2 n) : Ev (fun k => computusref05_FromDay.f k 2 n) ((date 2 n).y, (date 2 n).m, (date 2 n).d, 0) := by
 unfold computusref05_FromDay.f
 refine Ev.congr (fun k => by rw [if_neg (by omega), if_pos rfl]) ?_
 exact Ev.bind (fromday_ev n h) (Ev.now _)
theorem ofq (n : Int) (h : -1000000000000000 ≤ n ∧ n ≤ 1000000000000000) : computusref04_Of.f n = some (n % 7) := by
 unfold computusref04_Of.f
 rw [modq7 n h]
 rfl
end Go.Proofs.Ytopfjjdkffdjpaa.Q
end
