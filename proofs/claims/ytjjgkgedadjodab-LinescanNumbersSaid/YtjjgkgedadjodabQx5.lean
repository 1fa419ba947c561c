-- Written by wip/tool/qprint.py: the print of the kit, with hand-proved contracts put in. Lean checks it.
import Derived.Test.YtjjgkgedadjodabQx0
import Derived.Test.YtjjgkgedadjodabQx1
import Derived.Test.YtjjgkgedadjodabQx2
import Derived.Test.YtjjgkgedadjodabQx4
import Derived.Test.YtjjgkgedadjodabHAwake25
import Derived.Test.YtjjgkgedadjodabHWord
namespace Go.Proofs.Ytjjgkgedadjodab.Q
open Go.RowKit Go.Proofs.YtjjgkgedadjodabW.PrintWords Go.Proofs.YtjjgkgedadjodabW.PrintLast Go.Proofs.YtjjgkgedadjodabW.PrintMore
attribute [local go_sem] max2_int min2_int max_two min_two max_three min_three max_four min_four   -- for this text's walks alone
set_option linter.unusedVariables false
set_option linter.unusedSimpArgs false

/-! ### computuslaw25_LinescanNumbers: function 6 -/
mutual
def computuslaw25_LinescanNumbers.j0 : Nat → Int → Int → ByteArray → Int → Bool → ByteArray → Int → Bool → Option (Bool)
  | 0, _, _, _, _, _, _, _, _ => none
  | k + 1, x1, x5, x6, x8, x9, x157000, x157001, x157002 => if x9 = true then (if x5 = 0 then (computuslaw25_LinescanNumbers.j1 k x1 x5 x6 x8 false x157000 x157001 x157002) else (if x5 > (-1000000000) then (computuslaw25_LinescanNumbers.j1 k x1 x5 x6 x8 (decide (x5 < 1000000000)) x157000 x157001 x157002) else (computuslaw25_LinescanNumbers.j1 k x1 x5 x6 x8 false x157000 x157001 x157002))) else (computuslaw25_LinescanNumbers.j1 k x1 x5 x6 x8 false x157000 x157001 x157002)
def computuslaw25_LinescanNumbers.j1 : Nat → Int → Int → ByteArray → Int → Bool → ByteArray → Int → Bool → Option (Bool)
  | 0, _, _, _, _, _, _, _, _ => none
  | k + 1, x1, x5, x6, x8, x44, x157000, x157001, x157002 => if x44 = true then ((linescan_Scanner_Err.f x157000 x157001 x157002).bind fun bt161 => (if bt161.1 = 0 then (if x8 = x5 then (none) else ((linescan_Scanner_Offset.f bt161.2.1 bt161.2.2.1 bt161.2.2.2).bind fun bt165 => (some (bt165.1 == (wrap64 ((x6.size : Int) + 1)))))) else (none))) else ((linescan_Scanner_Err.f x157000 x157001 x157002).bind fun bt169 => (if bt169.1 = 0 then (if x8 = x5 then ((linescan_Scanner_Offset.f bt169.2.1 bt169.2.2.1 bt169.2.2.2).bind fun bt173 => (if bt173.1 = (x6.size : Int) then ((linescan_Scanner_Peek.f bt173.2.1 bt173.2.2.1 bt173.2.2.2).bind fun bt177 => (some (bt177.1 == x1))) else (none))) else (none)) else (none)))
end
def computuslaw25_LinescanNumbers.f (k : Nat) (a0 : Int) (a1 : Int) : Option (Bool) := (computuslaw25_awake.f).bind fun t148 => (if t148 = true then ((computuslaw25_decimal.f k (Int.tmod a0 10000000000)).bind fun t149 => ((some (([a1] : List Int) : List Int)).bind fun y150 => (if t149.size + (strOfNums y150).size ≤ 9223372036854775807 then ((linescan_New.f (t149 ++ (strOfNums y150))).bind fun bt153 => ((linescan_Scanner_Number.f bt153.1 bt153.2.1 bt153.2.2).bind fun bt157 => (if a1 ≥ 48 then (computuslaw25_LinescanNumbers.j0 k a1 (Int.tmod a0 10000000000) t149 bt157.1 (decide (a1 ≤ 57)) bt157.2.1 bt157.2.2.1 bt157.2.2.2) else (computuslaw25_LinescanNumbers.j0 k a1 (Int.tmod a0 10000000000) t149 bt157.1 false bt157.2.1 bt157.2.2.1 bt157.2.2.2)))) else (none)))) else (none))
theorem computuslaw25_LinescanNumbers.mono_l : ∀ k, (∀ y0 y1 y2 y3 y4 y5 y6 y7, LeO (computuslaw25_LinescanNumbers.j0 k y0 y1 y2 y3 y4 y5 y6 y7) (computuslaw25_LinescanNumbers.j0 (k + 1) y0 y1 y2 y3 y4 y5 y6 y7)) ∧ (∀ y0 y1 y2 y3 y4 y5 y6 y7, LeO (computuslaw25_LinescanNumbers.j1 k y0 y1 y2 y3 y4 y5 y6 y7) (computuslaw25_LinescanNumbers.j1 (k + 1) y0 y1 y2 y3 y4 y5 y6 y7))
  | 0 => ⟨fun _ _ _ _ _ _ _ _ r h => by simp [computuslaw25_LinescanNumbers.j0] at h, fun _ _ _ _ _ _ _ _ r h => by simp [computuslaw25_LinescanNumbers.j1] at h⟩
  | k + 1 => by
    obtain ⟨ih0, ih1⟩ := computuslaw25_LinescanNumbers.mono_l k
    refine ⟨?_, ?_⟩
    · intro y0 y1 y2 y3 y4 y5 y6 y7
      unfold computuslaw25_LinescanNumbers.j0
      repeat' first
      | (with_reducible exact ih0 _ _ _ _ _ _ _ _)
      | (with_reducible exact ih1 _ _ _ _ _ _ _ _)
      | (with_reducible exact computuslaw25_decimal.mono _ _)
      | (with_reducible exact LeO.refl _)
      | (with_reducible exact LeO.none _)
      | (with_reducible refine LeO.ite ?_ ?_)
      | (with_reducible refine LeO.bind ?_ (fun _ => ?_))
      | exact ih0 _ _ _ _ _ _ _ _
      | exact ih1 _ _ _ _ _ _ _ _
      | exact computuslaw25_decimal.mono _ _
      | exact LeO.none _
      | refine LeO.ite ?_ ?_
      | refine LeO.bind ?_ (fun _ => ?_)
    · intro y0 y1 y2 y3 y4 y5 y6 y7
      unfold computuslaw25_LinescanNumbers.j1
      repeat' first
      | (with_reducible exact ih0 _ _ _ _ _ _ _ _)
      | (with_reducible exact ih1 _ _ _ _ _ _ _ _)
      | (with_reducible exact computuslaw25_decimal.mono _ _)
      | (with_reducible exact LeO.refl _)
      | (with_reducible exact LeO.none _)
      | (with_reducible refine LeO.ite ?_ ?_)
      | (with_reducible refine LeO.bind ?_ (fun _ => ?_))
      | exact ih0 _ _ _ _ _ _ _ _
      | exact ih1 _ _ _ _ _ _ _ _
      | exact computuslaw25_decimal.mono _ _
      | exact LeO.none _
      | refine LeO.ite ?_ ?_
      | refine LeO.bind ?_ (fun _ => ?_)
theorem computuslaw25_LinescanNumbers.mono : ∀ a0 a1 k, LeO (computuslaw25_LinescanNumbers.f k a0 a1) (computuslaw25_LinescanNumbers.f (k + 1) a0 a1) := by
  intro a0 a1 k
  obtain ⟨ih0, ih1⟩ := computuslaw25_LinescanNumbers.mono_l k
  unfold computuslaw25_LinescanNumbers.f
  repeat' first
      | (with_reducible exact ih0 _ _ _ _ _ _ _ _)
      | (with_reducible exact ih1 _ _ _ _ _ _ _ _)
      | (with_reducible exact computuslaw25_decimal.mono _ _)
      | (with_reducible exact LeO.refl _)
      | (with_reducible exact LeO.none _)
      | (with_reducible refine LeO.ite ?_ ?_)
      | (with_reducible refine LeO.bind ?_ (fun _ => ?_))
      | exact ih0 _ _ _ _ _ _ _ _
      | exact ih1 _ _ _ _ _ _ _ _
      | exact computuslaw25_decimal.mono _ _
      | exact LeO.none _
      | refine LeO.ite ?_ ?_
      | refine LeO.bind ?_ (fun _ => ?_)
set_option maxHeartbeats 8000000 in
set_option maxRecDepth 100000 in
theorem computuslaw25_LinescanNumbers.calls (k : Nat) (a0 : Int) (a1 : Int) (r : Bool) (w : World) (h : computuslaw25_LinescanNumbers.f k a0 a1 = some r) :
    Calls Try.prog 6 #[.int .i64 a0, .int .u8 a1] w fun e w' => e = .returned (.bool r) ∧ Below w.heap.size w w' := by
  have HB := Aside0.mk (Below.refl w.heap.size w)
  have H : ((computuslaw25_awake.f).bind fun t148 => (if t148 = true then ((computuslaw25_decimal.f k (Int.tmod a0 10000000000)).bind fun t149 => ((some (([a1] : List Int) : List Int)).bind fun y150 => (if t149.size + (strOfNums y150).size ≤ 9223372036854775807 then ((linescan_New.f (t149 ++ (strOfNums y150))).bind fun bt153 => ((linescan_Scanner_Number.f bt153.1 bt153.2.1 bt153.2.2).bind fun bt157 => (if a1 ≥ 48 then (computuslaw25_LinescanNumbers.j0 k a1 (Int.tmod a0 10000000000) t149 bt157.1 (decide (a1 ≤ 57)) bt157.2.1 bt157.2.2.1 bt157.2.2.2) else (computuslaw25_LinescanNumbers.j0 k a1 (Int.tmod a0 10000000000) t149 bt157.1 false bt157.2.1 bt157.2.2.1 bt157.2.2.2)))) else (none)))) else (none))) = some r := h
  clear h
  replace H := Option.bind_eq_some_iff.mp H
  obtain ⟨t148, A30, H⟩ := H
  replace H : (if t148 = true then ((computuslaw25_decimal.f k (Int.tmod a0 10000000000)).bind fun t149 => ((some (([a1] : List Int) : List Int)).bind fun y150 => (if t149.size + (strOfNums y150).size ≤ 9223372036854775807 then ((linescan_New.f (t149 ++ (strOfNums y150))).bind fun bt153 => ((linescan_Scanner_Number.f bt153.1 bt153.2.1 bt153.2.2).bind fun bt157 => (if a1 ≥ 48 then (computuslaw25_LinescanNumbers.j0 k a1 (Int.tmod a0 10000000000) t149 bt157.1 (decide (a1 ≤ 57)) bt157.2.1 bt157.2.2.1 bt157.2.2.2) else (computuslaw25_LinescanNumbers.j0 k a1 (Int.tmod a0 10000000000) t149 bt157.1 false bt157.2.1 bt157.2.2.1 bt157.2.2.2)))) else (none)))) else (none)) = some r := H
  have A3 := Aside0.mk A30
  clear A30
  by_cases c4 : t148 = true
  · subst c4
    have H1 : ((computuslaw25_decimal.f k (Int.tmod a0 10000000000)).bind fun t149 => ((some (([a1] : List Int) : List Int)).bind fun y150 => (if t149.size + (strOfNums y150).size ≤ 9223372036854775807 then ((linescan_New.f (t149 ++ (strOfNums y150))).bind fun bt153 => ((linescan_Scanner_Number.f bt153.1 bt153.2.1 bt153.2.2).bind fun bt157 => (if a1 ≥ 48 then (computuslaw25_LinescanNumbers.j0 k a1 (Int.tmod a0 10000000000) t149 bt157.1 (decide (a1 ≤ 57)) bt157.2.1 bt157.2.2.1 bt157.2.2.2) else (computuslaw25_LinescanNumbers.j0 k a1 (Int.tmod a0 10000000000) t149 bt157.1 false bt157.2.1 bt157.2.2.1 bt157.2.2.2)))) else (none)))) = some r := by rw [if_pos rfl] at H; exact H
    clear H
    have H := H1
    clear H1
    replace H := Option.bind_eq_some_iff.mp H
    obtain ⟨t149, A50, H⟩ := H
    replace H : ((some (([a1] : List Int) : List Int)).bind fun y150 => (if t149.size + (strOfNums y150).size ≤ 9223372036854775807 then ((linescan_New.f (t149 ++ (strOfNums y150))).bind fun bt153 => ((linescan_Scanner_Number.f bt153.1 bt153.2.1 bt153.2.2).bind fun bt157 => (if a1 ≥ 48 then (computuslaw25_LinescanNumbers.j0 k a1 (Int.tmod a0 10000000000) t149 bt157.1 (decide (a1 ≤ 57)) bt157.2.1 bt157.2.2.1 bt157.2.2.2) else (computuslaw25_LinescanNumbers.j0 k a1 (Int.tmod a0 10000000000) t149 bt157.1 false bt157.2.1 bt157.2.2.1 bt157.2.2.2)))) else (none))) = some r := H
    have A5 := Aside0.mk A50
    clear A50
    obtain ⟨y150, hy150⟩ : ∃ y_ : List Int, y_ = (([a1] : List Int)) := ⟨_, rfl⟩
    replace H : (if t149.size + (strOfNums y150).size ≤ 9223372036854775807 then ((linescan_New.f (t149 ++ (strOfNums y150))).bind fun bt153 => ((linescan_Scanner_Number.f bt153.1 bt153.2.1 bt153.2.2).bind fun bt157 => (if a1 ≥ 48 then (computuslaw25_LinescanNumbers.j0 k a1 (Int.tmod a0 10000000000) t149 bt157.1 (decide (a1 ≤ 57)) bt157.2.1 bt157.2.2.1 bt157.2.2.2) else (computuslaw25_LinescanNumbers.j0 k a1 (Int.tmod a0 10000000000) t149 bt157.1 false bt157.2.1 bt157.2.2.1 bt157.2.2.2)))) else (none)) = some r := by first | (rw [hy150]; with_reducible exact H) | (have H2_ := (Option.bind_some _ _).symm.trans H; rw [hy150]; with_reducible exact H2_) | (have H2_ := (Option.bind_some _ _).symm.trans H; with_reducible exact H2_) | with_reducible exact H | (rw [hy150]; exact H) | exact H
    have Ny150 := Aside0.mk hy150
    clear hy150
    by_cases c6 : t149.size + (strOfNums y150).size ≤ 9223372036854775807
    · rw [if_pos c6] at H
      have c6b0 := eq_true c6
      have c6b1 : decide (t149.size + (strOfNums y150).size ≤ 9223372036854775807) = true := decide_eq_true c6
      try have c6b2 : (9223372036854775807 < t149.size + (strOfNums y150).size) = False := eq_false (Nat.not_lt.2 c6)
      replace H := Option.bind_eq_some_iff.mp H
      obtain ⟨⟨t153, t154, t155⟩, A70, H⟩ := H
      replace H : ((linescan_Scanner_Number.f t153 t154 t155).bind fun bt157 => (if a1 ≥ 48 then (computuslaw25_LinescanNumbers.j0 k a1 (Int.tmod a0 10000000000) t149 bt157.1 (decide (a1 ≤ 57)) bt157.2.1 bt157.2.2.1 bt157.2.2.2) else (computuslaw25_LinescanNumbers.j0 k a1 (Int.tmod a0 10000000000) t149 bt157.1 false bt157.2.1 bt157.2.2.1 bt157.2.2.2))) = some r := H
      have A7 := Aside0.mk A70
      clear A70
      replace H := Option.bind_eq_some_iff.mp H
      obtain ⟨⟨t157, t158, t159, t160⟩, A80, H⟩ := H
      replace H : (if a1 ≥ 48 then (computuslaw25_LinescanNumbers.j0 k a1 (Int.tmod a0 10000000000) t149 t157 (decide (a1 ≤ 57)) t158 t159 t160) else (computuslaw25_LinescanNumbers.j0 k a1 (Int.tmod a0 10000000000) t149 t157 false t158 t159 t160)) = some r := H
      have A8 := Aside0.mk A80
      clear A80
      have HC9 := Aside0.mk H
      clear H
      go_enter Try.func6, Try.ntmps6
      go_upto_region 9 with (first | ((with_reducible refine gate_callee (f := 15) rfl ?_); refine goesL_ (some 10) rfl rfl Try.func15 (by kernel_rfl) rfl #[] rfl (by (try simp only [List.map_toArray, List.map_cons, List.map_nil]); first | done | rfl | (simp only [List.length_drop, List.length_take]; rfl)) ?_; (with_reducible refine (computuslaw25_awake.calls  true _ A3.out).mono ?_); rintro e w10 ⟨rfl, hb⟩; refine ⟨_, rfl, ?_⟩; have n0_ := Aside0.mk (below_step (by repeat (first | (with_reducible first | exact HB.out | apply below_alloc | apply pw_below_drewN | apply below_drew1) | exact HB.out)) hb); clear HB; have HB := n0_; clear n0_; (try clear hb); (try clear hb2); (try clear hk); (try clear hi)) | ((with_reducible refine gate_callee (f := 21) rfl ?_); refine goesL_ (some 15) rfl rfl Try.func21 (by kernel_rfl) rfl #[.int .i64 (Int.tmod a0 10000000000)] rfl (by (try simp only [List.map_toArray, List.map_cons, List.map_nil]); first | done | rfl | (simp only [List.length_drop, List.length_take]; rfl)) ?_; (with_reducible refine (computuslaw25_decimal.calls k (Int.tmod a0 10000000000) t149 _ A5.out).mono ?_); rintro e w' ⟨rfl, ⟨nd, rfl⟩⟩; refine ⟨_, rfl, ?_⟩) | ((with_reducible refine gate_dst (N := 18) rfl ?_); (try (refine gate_guard (by rfl) ?_; dsimp only)); refine Kd.R_lit (Kd.int .u8) _ 5 ?hg (N := 18) ?hd (xs := ([a1] : List Int)) (inner := [.int .u8 a1]) (ok := fun _ => True) (okp := fun _ => True) ?hr ?hp (fun _ hk => hk) trivial (Below.refl _ _) (Nat.le_refl _) (by simp) ?_; (case hd => rfl); (case hg => rfl); (case hr => first | (go_simp; done) | (go_simp; rfl)); (case hp => exact (Reps.one (show Kd.M (Kd.int .u8) _ _ _ a1 [.int .u8 a1] from rfl) (Reps.none _ _))); intro v151 w11 ho12 hb hg_ hnew_; clear hg_ hnew_; (first | rw [← Ny150.out] at ho12 | (simp only [Int.reduceToNat] at ho12; rw [← Ny150.out] at ho12)); have n0_ := Aside0.mk (Kd.R_lower ho12 (below_size (by repeat (first | (with_reducible first | exact HB.out | apply below_alloc | apply pw_below_drewN | apply below_drew1) | exact HB.out)))); have n1_ := Aside0.mk (below_step (by repeat (first | (with_reducible first | exact HB.out | apply below_alloc | apply pw_below_drewN | apply below_drew1) | exact HB.out)) hb); clear HB; have HO152 := n0_; have HB := n1_; clear n0_ n1_; clear hb ho12; have hcv13 := own_string (P := Try.prog) Try.underlying49 Try.underlying5 Try.underlying9 (Kd.own_of_R HO152.out)) | ((with_reducible refine gate_callee (f := 17) rfl ?_); refine goesL_ (some 21) rfl rfl Try.func17 (by kernel_rfl) rfl #[.string (t149 ++ (strOfNums y150))] rfl (by (try simp only [List.map_toArray, List.map_cons, List.map_nil]); first | done | rfl | (simp only [List.length_drop, List.length_take]; rfl)) ?_; (with_reducible refine (linescan_New.calls (t149 ++ (strOfNums y150)) t153 t154 t155 w _ ?side1 A7.out).mono ?_); (case side1 => repeat (first | (with_reducible first | exact HB.out | apply below_alloc | apply pw_below_drewN | apply below_drew1) | exact HB.out)); rintro e w14 ⟨g156, rfl, hi, hb, hb2⟩; refine ⟨_, rfl, ?_⟩; have n0_ := Aside0.mk (Kd.R_below (by (with_reducible repeat (first | apply Kd.R_alloc | apply Kd.R_drewN | apply Kd.R_drew)); exact HO152.out) hb2); have n1_ := Aside0.mk (hb); have n2_ := Aside0.mk (hi); clear HO152; clear HB; have HO152 := n0_; have HB := n1_; have HI156 := n2_; clear n0_ n1_ n2_; (try clear hb); (try clear hb2); (try clear hk); (try clear hi)) | ((with_reducible refine gate_callee (f := 22) rfl ?_); refine goesL_ (some 25) rfl rfl Try.func22 (by kernel_rfl) rfl #[.pointer (some ⟨g156, 0, none⟩)] rfl (by (try simp only [List.map_toArray, List.map_cons, List.map_nil]); first | done | rfl | (simp only [List.length_drop, List.length_take]; rfl)) ?_; (with_reducible refine (linescan_Scanner_Number.calls g156 t153 t154 t155 t157 t158 t159 t160 w _ ?side1 ?side2 A8.out).mono ?_); (case side1 => repeat (first | (with_reducible first | exact HI156.out | apply IsS77.alloc | apply IsS77.drewN | apply IsS77.drew | apply IsS77.set_0 | apply IsS77.set_1 | apply IsS77.set_2) | exact HI156.out)); (case side2 => repeat (first | (with_reducible first | exact HB.out | apply below_alloc | apply pw_below_drewN | apply below_drew1 | refine below_set ?_ (IsS77.ge HI156.out)) | exact HB.out)); rintro e w15 ⟨rfl, hi, hb, hk⟩; refine ⟨_, rfl, ?_⟩; have n0_ := Aside0.mk (Kd.R_mono (Kd.R_keep (IsS77.apart (show IsS77 w _ g156 t153 t154 t155 from by repeat (first | (with_reducible first | exact HI156.out | apply IsS77.alloc | apply IsS77.drewN | apply IsS77.drew | apply IsS77.set_0 | apply IsS77.set_1 | apply IsS77.set_2) | exact HI156.out)) (by (with_reducible repeat (first | apply Kd.R_alloc | apply Kd.R_drewN | apply Kd.R_drew)); exact HO152.out) (by decide)) hk (fun _ h => h.2)) (fun _ h => h.1)); have n1_ := Aside0.mk (hb); have n2_ := Aside0.mk (hi); clear HO152; clear HB; clear HI156; have HO152 := n0_; have HB := n1_; have HI156 := n2_; clear n0_ n1_ n2_; (try clear hb); (try clear hb2); (try clear hk); (try clear hi)))
      (try simp only [Act.put, List.setIfInBounds_toArray, List.set_cons_zero, List.set_cons_succ])
      go_cut [9] (fun v9 wc => ∃ (kq : Nat) (x9_8 : Bool), v9 = .bool x9_8 ∧ Aside0 (computuslaw25_LinescanNumbers.j0 kq a1 (Int.tmod a0 10000000000) t149 t157 x9_8 t158 t159 t160 = some r) ∧ Aside0 (kq ≤ k) ∧ Aside0 (IsS77 w wc g156 t158 t159 t160) ∧ Aside0 (Below w.heap.size w wc))
      case first =>
        have H := HC9.out
        clear HC9
        by_cases c16 : a1 ≥ 48
        · rw [if_pos c16] at H
          have c16b0 : decide (48 ≤ a1) = true := decide_eq_true c16
          clear c16
          (first | rw [c16b0] | (simp only [i64_w, i32_w]; rw [c16b0]) | skip)
          have H' := Aside0.mk H
          clear H
          go_wp2
          go_meet
          case rel => exact ⟨_, (decide (a1 ≤ 57)), (by first | rfl | (simp; done) | (simp [*]; done)), H', ⟨by first | omega | exact Nat.le_refl _⟩, ⟨by repeat (first | (with_reducible first | exact HI156.out | apply IsS77.alloc | apply IsS77.drewN | apply IsS77.drew | apply IsS77.set_0 | apply IsS77.set_1 | apply IsS77.set_2) | exact HI156.out)⟩, ⟨by repeat (first | (with_reducible first | exact HB.out | apply below_alloc | apply pw_below_drewN | apply below_drew1 | refine below_set ?_ (IsS77.ge HI156.out)) | exact HB.out)⟩⟩
        · rw [if_neg c16] at H
          have c16b0 : decide (48 ≤ a1) = false := decide_eq_false c16
          clear c16
          (first | rw [c16b0] | (simp only [i64_w, i32_w]; rw [c16b0]) | skip)
          have H' := Aside0.mk H
          clear H
          go_wp2
          go_meet
          case rel => exact ⟨_, (false), (by first | rfl | (simp; done) | (simp [*]; done)), H', ⟨by first | omega | exact Nat.le_refl _⟩, ⟨by repeat (first | (with_reducible first | exact HI156.out | apply IsS77.alloc | apply IsS77.drewN | apply IsS77.drew | apply IsS77.set_0 | apply IsS77.set_1 | apply IsS77.set_2) | exact HI156.out)⟩, ⟨by repeat (first | (with_reducible first | exact HB.out | apply below_alloc | apply pw_below_drewN | apply below_drew1 | refine below_set ?_ (IsS77.ge HI156.out)) | exact HB.out)⟩⟩
      case rest =>
        clear HC9
        try clear c1
        try clear hcv1
        try clear c2
        try clear p2
        try clear c4
        try clear c6
        try clear c6b0
        try clear c6b1
        try clear c6b2
        try clear hcv13
        try clear c15
        try clear c16
        try clear c16b0
        obtain ⟨kq, x9_8, rfl, HA, HJ8, HI156, HB⟩ := hcut
        cases kq with
        | zero => exact absurd HA.out (by simp [computuslaw25_LinescanNumbers.j0])
        | succ kj8 =>
          have H := HA.out
          clear HA
          simp only [computuslaw25_LinescanNumbers.j0] at H
          have HC17 := Aside0.mk H
          clear H
          go_upto_region 10 with (fail)
          go_cut [44] (fun v44 wc => ∃ (kq : Nat) (x44_16 : Bool), v44 = .bool x44_16 ∧ Aside0 (computuslaw25_LinescanNumbers.j1 kq a1 (Int.tmod a0 10000000000) t149 t157 x44_16 t158 t159 t160 = some r) ∧ Aside0 (kq ≤ kj8) ∧ Aside0 (IsS77 w wc g156 t158 t159 t160) ∧ Aside0 (Below w.heap.size w wc))
          case first =>
            have H := HC17.out
            clear HC17
            by_cases c18 : x9_8 = true
            · subst c18
              have H1 : (if (Int.tmod a0 10000000000) = 0 then (computuslaw25_LinescanNumbers.j1 kj8 a1 (Int.tmod a0 10000000000) t149 t157 false t158 t159 t160) else (if (Int.tmod a0 10000000000) > (-1000000000) then (computuslaw25_LinescanNumbers.j1 kj8 a1 (Int.tmod a0 10000000000) t149 t157 (decide ((Int.tmod a0 10000000000) < 1000000000)) t158 t159 t160) else (computuslaw25_LinescanNumbers.j1 kj8 a1 (Int.tmod a0 10000000000) t149 t157 false t158 t159 t160))) = some r := by rw [if_pos rfl] at H; exact H
              clear H
              have H := H1
              clear H1
              by_cases c19 : (Int.tmod a0 10000000000) = 0
              · rw [if_pos c19] at H
                have c19b0 : ((Int.tmod a0 10000000000) == 0) = true := beq_iff_eq.mpr c19
                have c19b1 : ((Int.tmod a0 10000000000) != 0) = false := bne_eq_false_iff_eq.mpr c19
                clear c19
                (first | rw [c19b0] | (simp only [i64_w, i32_w]; rw [c19b0]) | skip)
                have H' := Aside0.mk H
                clear H
                go_wp2
                go_meet
                case rel => exact ⟨_, (false), (by first | rfl | (simp; done) | (simp [*]; done)), H', ⟨by have := HJ8.out; first | omega | exact Nat.le_refl _⟩, ⟨by repeat (first | (with_reducible first | exact HI156.out | apply IsS77.alloc | apply IsS77.drewN | apply IsS77.drew | apply IsS77.set_0 | apply IsS77.set_1 | apply IsS77.set_2) | exact HI156.out)⟩, ⟨by repeat (first | (with_reducible first | exact HB.out | apply below_alloc | apply pw_below_drewN | apply below_drew1 | refine below_set ?_ (IsS77.ge HI156.out)) | exact HB.out)⟩⟩
              · rw [if_neg c19] at H
                have c19b0 : ((Int.tmod a0 10000000000) == 0) = false := beq_eq_false_iff_ne.mpr c19
                have c19b1 : ((Int.tmod a0 10000000000) != 0) = true := bne_iff_ne.mpr c19
                (first | rw [c19b0] | (simp only [i64_w, i32_w]; rw [c19b0]) | skip)
                by_cases c20 : (Int.tmod a0 10000000000) > (-1000000000)
                · rw [if_pos c20] at H
                  have c20b0 : decide ((-1000000000) < (Int.tmod a0 10000000000)) = true := decide_eq_true c20
                  clear c20
                  have H' := Aside0.mk H
                  clear H
                  go_wp2
                  go_meet
                  case rel => exact ⟨_, (decide ((Int.tmod a0 10000000000) < 1000000000)), (by first | rfl | (simp; done) | (simp [*]; done)), H', ⟨by have := HJ8.out; first | omega | exact Nat.le_refl _⟩, ⟨by repeat (first | (with_reducible first | exact HI156.out | apply IsS77.alloc | apply IsS77.drewN | apply IsS77.drew | apply IsS77.set_0 | apply IsS77.set_1 | apply IsS77.set_2) | exact HI156.out)⟩, ⟨by repeat (first | (with_reducible first | exact HB.out | apply below_alloc | apply pw_below_drewN | apply below_drew1 | refine below_set ?_ (IsS77.ge HI156.out)) | exact HB.out)⟩⟩
                · rw [if_neg c20] at H
                  have c20b0 : decide ((-1000000000) < (Int.tmod a0 10000000000)) = false := decide_eq_false c20
                  clear c20
                  have H' := Aside0.mk H
                  clear H
                  go_wp2
                  go_meet
                  case rel => exact ⟨_, (false), (by first | rfl | (simp; done) | (simp [*]; done)), H', ⟨by have := HJ8.out; first | omega | exact Nat.le_refl _⟩, ⟨by repeat (first | (with_reducible first | exact HI156.out | apply IsS77.alloc | apply IsS77.drewN | apply IsS77.drew | apply IsS77.set_0 | apply IsS77.set_1 | apply IsS77.set_2) | exact HI156.out)⟩, ⟨by repeat (first | (with_reducible first | exact HB.out | apply below_alloc | apply pw_below_drewN | apply below_drew1 | refine below_set ?_ (IsS77.ge HI156.out)) | exact HB.out)⟩⟩
            · replace c18 := Bool.eq_false_iff.mpr c18
              subst c18
              have H1 : (computuslaw25_LinescanNumbers.j1 kj8 a1 (Int.tmod a0 10000000000) t149 t157 false t158 t159 t160) = some r := by rw [if_neg (show ¬ (false = true) by decide)] at H; exact H
              clear H
              have H := H1
              clear H1
              have H' := Aside0.mk H
              clear H
              go_wp2
              go_meet
              case rel => exact ⟨_, (false), (by first | rfl | (simp; done) | (simp [*]; done)), H', ⟨by have := HJ8.out; first | omega | exact Nat.le_refl _⟩, ⟨by repeat (first | (with_reducible first | exact HI156.out | apply IsS77.alloc | apply IsS77.drewN | apply IsS77.drew | apply IsS77.set_0 | apply IsS77.set_1 | apply IsS77.set_2) | exact HI156.out)⟩, ⟨by repeat (first | (with_reducible first | exact HB.out | apply below_alloc | apply pw_below_drewN | apply below_drew1 | refine below_set ?_ (IsS77.ge HI156.out)) | exact HB.out)⟩⟩
          case rest =>
            clear HC17
            try clear c1
            try clear hcv1
            try clear c2
            try clear p2
            try clear c4
            try clear c6
            try clear c6b0
            try clear c6b1
            try clear c6b2
            try clear hcv13
            try clear c15
            try clear c16
            try clear c16b0
            try clear c17
            try clear c18
            try clear c19
            try clear c19b0
            try clear c19b1
            try clear c20
            try clear c20b0
            try clear p2
            obtain ⟨kq, x44_16, rfl, HA, HJ16, HI156, HB⟩ := hcut
            cases kq with
            | zero => exact absurd HA.out (by simp [computuslaw25_LinescanNumbers.j1])
            | succ kj16 =>
              have H := HA.out
              clear HA
              simp only [computuslaw25_LinescanNumbers.j1] at H
              by_cases c21 : x44_16 = true
              · subst c21
                have H1 : ((linescan_Scanner_Err.f t158 t159 t160).bind fun bt161 => (if bt161.1 = 0 then (if t157 = (Int.tmod a0 10000000000) then (none) else ((linescan_Scanner_Offset.f bt161.2.1 bt161.2.2.1 bt161.2.2.2).bind fun bt165 => (some (bt165.1 == (wrap64 ((t149.size : Int) + 1)))))) else (none))) = some r := by rw [if_pos rfl] at H; exact H
                clear H
                have H := H1
                clear H1
                replace H := Option.bind_eq_some_iff.mp H
                obtain ⟨⟨t161, t162, t163, t164⟩, A220, H⟩ := H
                replace H : (if t161 = 0 then (if t157 = (Int.tmod a0 10000000000) then (none) else ((linescan_Scanner_Offset.f t162 t163 t164).bind fun bt165 => (some (bt165.1 == (wrap64 ((t149.size : Int) + 1)))))) else (none)) = some r := H
                have A22 := Aside0.mk A220
                clear A220
                by_cases c23 : t161 = 0
                · rw [if_pos c23] at H
                  have c23b0 : (t161 == 0) = true := beq_iff_eq.mpr c23
                  have c23b1 : (t161 != 0) = false := bne_eq_false_iff_eq.mpr c23
                  clear c23
                  by_cases c24 : t157 = (Int.tmod a0 10000000000)
                  · rw [if_pos c24] at H
                    exact absurd H (by simp)
                  · rw [if_neg c24] at H
                    have c24b0 : (t157 == (Int.tmod a0 10000000000)) = false := beq_eq_false_iff_ne.mpr c24
                    have c24b1 : (t157 != (Int.tmod a0 10000000000)) = true := bne_iff_ne.mpr c24
                    replace H := Option.bind_eq_some_iff.mp H
                    obtain ⟨⟨t165, t166, t167, t168⟩, A250, H⟩ := H
                    replace H : (some (t165 == (wrap64 ((t149.size : Int) + 1)))) = some r := H
                    have A25 := Aside0.mk A250
                    clear A250
                    obtain rfl := Option.some.inj H
                    go_wp2_with (first | ((with_reducible refine gate_callee (f := 19) rfl ?_); refine goesL_ (some 46) rfl rfl Try.func19 (by kernel_rfl) rfl #[.pointer (some ⟨g156, 0, none⟩)] rfl (by (try simp only [List.map_toArray, List.map_cons, List.map_nil]); first | done | rfl | (simp only [List.length_drop, List.length_take]; rfl)) ?_; (with_reducible refine (linescan_Scanner_Err.calls g156 t158 t159 t160 t161 t162 t163 t164 w _ ?side1 ?side2 A22.out).mono ?_); (case side1 => repeat (first | (with_reducible first | exact HI156.out | apply IsS77.alloc | apply IsS77.drewN | apply IsS77.drew | apply IsS77.set_0 | apply IsS77.set_1 | apply IsS77.set_2) | exact HI156.out)); (case side2 => repeat (first | (with_reducible first | exact HB.out | apply below_alloc | apply pw_below_drewN | apply below_drew1 | refine below_set ?_ (IsS77.ge HI156.out)) | exact HB.out)); rintro e w26 ⟨rfl, hi, hb, hk⟩; refine ⟨_, rfl, ?_⟩; have n0_ := Aside0.mk (hb); have n1_ := Aside0.mk (hi); clear HB; clear HI156; have HB := n0_; have HI156 := n1_; clear n0_ n1_; (try clear hb); (try clear hb2); (try clear hk); (try clear hi)) | (go_at_call 20; (with_reducible refine (linescan_Scanner_Offset.calls g156 t162 t163 t164 t165 t166 t167 t168 w _ ?side1 ?side2 A25.out).mono ?_); (case side1 => repeat (first | (with_reducible first | exact HI156.out | apply IsS77.alloc | apply IsS77.drewN | apply IsS77.drew | apply IsS77.set_0 | apply IsS77.set_1 | apply IsS77.set_2) | exact HI156.out)); (case side2 => repeat (first | (with_reducible first | exact HB.out | apply below_alloc | apply pw_below_drewN | apply below_drew1 | refine below_set ?_ (IsS77.ge HI156.out)) | exact HB.out)); rintro e w27 ⟨rfl, hi, hb, hk⟩; have n0_ := Aside0.mk (hb); have n1_ := Aside0.mk (hi); clear HB; clear HI156; have HB := n0_; have HI156 := n1_; clear n0_ n1_; (try clear hb); (try clear hb2); (try clear hk); (try clear hi)))
                    go_ret
                    exact ⟨by first | rfl | (simp [errW_none, errW_some] <;> rfl) | (simp [*, errW_none, errW_some] <;> rfl), by repeat (first | (with_reducible first | exact HB.out | apply below_alloc | apply pw_below_drewN | apply below_drew1 | refine below_set ?_ (IsS77.ge HI156.out)) | exact HB.out)⟩
                · rw [if_neg c23] at H
                  exact absurd H (by simp)
              · replace c21 := Bool.eq_false_iff.mpr c21
                subst c21
                have H1 : ((linescan_Scanner_Err.f t158 t159 t160).bind fun bt169 => (if bt169.1 = 0 then (if t157 = (Int.tmod a0 10000000000) then ((linescan_Scanner_Offset.f bt169.2.1 bt169.2.2.1 bt169.2.2.2).bind fun bt173 => (if bt173.1 = (t149.size : Int) then ((linescan_Scanner_Peek.f bt173.2.1 bt173.2.2.1 bt173.2.2.2).bind fun bt177 => (some (bt177.1 == a1))) else (none))) else (none)) else (none))) = some r := by rw [if_neg (show ¬ (false = true) by decide)] at H; exact H
                clear H
                have H := H1
                clear H1
                replace H := Option.bind_eq_some_iff.mp H
                obtain ⟨⟨t169, t170, t171, t172⟩, A280, H⟩ := H
                replace H : (if t169 = 0 then (if t157 = (Int.tmod a0 10000000000) then ((linescan_Scanner_Offset.f t170 t171 t172).bind fun bt173 => (if bt173.1 = (t149.size : Int) then ((linescan_Scanner_Peek.f bt173.2.1 bt173.2.2.1 bt173.2.2.2).bind fun bt177 => (some (bt177.1 == a1))) else (none))) else (none)) else (none)) = some r := H
                have A28 := Aside0.mk A280
                clear A280
                by_cases c29 : t169 = 0
                · rw [if_pos c29] at H
                  have c29b0 : (t169 == 0) = true := beq_iff_eq.mpr c29
                  have c29b1 : (t169 != 0) = false := bne_eq_false_iff_eq.mpr c29
                  clear c29
                  by_cases c30 : t157 = (Int.tmod a0 10000000000)
                  · rw [if_pos c30] at H
                    have c30b0 : (t157 == (Int.tmod a0 10000000000)) = true := beq_iff_eq.mpr c30
                    have c30b1 : (t157 != (Int.tmod a0 10000000000)) = false := bne_eq_false_iff_eq.mpr c30
                    clear c30
                    replace H := Option.bind_eq_some_iff.mp H
                    obtain ⟨⟨t173, t174, t175, t176⟩, A310, H⟩ := H
                    replace H : (if t173 = (t149.size : Int) then ((linescan_Scanner_Peek.f t174 t175 t176).bind fun bt177 => (some (bt177.1 == a1))) else (none)) = some r := H
                    have A31 := Aside0.mk A310
                    clear A310
                    by_cases c32 : t173 = (t149.size : Int)
                    · rw [if_pos c32] at H
                      have c32b0 : (t173 == (t149.size : Int)) = true := beq_iff_eq.mpr c32
                      have c32b1 : (t173 != (t149.size : Int)) = false := bne_eq_false_iff_eq.mpr c32
                      clear c32
                      replace H := Option.bind_eq_some_iff.mp H
                      obtain ⟨⟨t177, t178, t179, t180⟩, A330, H⟩ := H
                      replace H : (some (t177 == a1)) = some r := H
                      have A33 := Aside0.mk A330
                      clear A330
                      obtain rfl := Option.some.inj H
                      go_wp2_with (first | ((with_reducible refine gate_callee (f := 19) rfl ?_); refine goesL_ (some 62) rfl rfl Try.func19 (by kernel_rfl) rfl #[.pointer (some ⟨g156, 0, none⟩)] rfl (by (try simp only [List.map_toArray, List.map_cons, List.map_nil]); first | done | rfl | (simp only [List.length_drop, List.length_take]; rfl)) ?_; (with_reducible refine (linescan_Scanner_Err.calls g156 t158 t159 t160 t169 t170 t171 t172 w _ ?side1 ?side2 A28.out).mono ?_); (case side1 => repeat (first | (with_reducible first | exact HI156.out | apply IsS77.alloc | apply IsS77.drewN | apply IsS77.drew | apply IsS77.set_0 | apply IsS77.set_1 | apply IsS77.set_2) | exact HI156.out)); (case side2 => repeat (first | (with_reducible first | exact HB.out | apply below_alloc | apply pw_below_drewN | apply below_drew1 | refine below_set ?_ (IsS77.ge HI156.out)) | exact HB.out)); rintro e w34 ⟨rfl, hi, hb, hk⟩; refine ⟨_, rfl, ?_⟩; have n0_ := Aside0.mk (hb); have n1_ := Aside0.mk (hi); clear HB; clear HI156; have HB := n0_; have HI156 := n1_; clear n0_ n1_; (try clear hb); (try clear hb2); (try clear hk); (try clear hi)) | (go_at_call 20; (with_reducible refine (linescan_Scanner_Offset.calls g156 t170 t171 t172 t173 t174 t175 t176 w _ ?side1 ?side2 A31.out).mono ?_); (case side1 => repeat (first | (with_reducible first | exact HI156.out | apply IsS77.alloc | apply IsS77.drewN | apply IsS77.drew | apply IsS77.set_0 | apply IsS77.set_1 | apply IsS77.set_2) | exact HI156.out)); (case side2 => repeat (first | (with_reducible first | exact HB.out | apply below_alloc | apply pw_below_drewN | apply below_drew1 | refine below_set ?_ (IsS77.ge HI156.out)) | exact HB.out)); rintro e w35 ⟨rfl, hi, hb, hk⟩; have n0_ := Aside0.mk (hb); have n1_ := Aside0.mk (hi); clear HB; clear HI156; have HB := n0_; have HI156 := n1_; clear n0_ n1_; (try clear hb); (try clear hb2); (try clear hk); (try clear hi)) | (go_at_call 23; (with_reducible refine (linescan_Scanner_Peek.calls g156 t174 t175 t176 t177 t178 t179 t180 w _ ?side1 ?side2 A33.out).mono ?_); (case side1 => repeat (first | (with_reducible first | exact HI156.out | apply IsS77.alloc | apply IsS77.drewN | apply IsS77.drew | apply IsS77.set_0 | apply IsS77.set_1 | apply IsS77.set_2) | exact HI156.out)); (case side2 => repeat (first | (with_reducible first | exact HB.out | apply below_alloc | apply pw_below_drewN | apply below_drew1 | refine below_set ?_ (IsS77.ge HI156.out)) | exact HB.out)); rintro e w36 ⟨rfl, hi, hb, hk⟩; have n0_ := Aside0.mk (hb); have n1_ := Aside0.mk (hi); clear HB; clear HI156; have HB := n0_; have HI156 := n1_; clear n0_ n1_; (try clear hb); (try clear hb2); (try clear hk); (try clear hi)))
                      go_ret
                      exact ⟨by first | rfl | (simp [errW_none, errW_some] <;> rfl) | (simp [*, errW_none, errW_some] <;> rfl), by repeat (first | (with_reducible first | exact HB.out | apply below_alloc | apply pw_below_drewN | apply below_drew1 | refine below_set ?_ (IsS77.ge HI156.out)) | exact HB.out)⟩
                    · rw [if_neg c32] at H
                      exact absurd H (by simp)
                  · rw [if_neg c30] at H
                    exact absurd H (by simp)
                · rw [if_neg c29] at H
                  exact absurd H (by simp)
    · rw [if_neg c6] at H
      exact absurd H (by simp)
  · replace c4 := Bool.eq_false_iff.mpr c4
    subst c4
    have H1 : (none) = some r := by rw [if_neg (show ¬ (false = true) by decide)] at H; exact H
    clear H
    have H := H1
    clear H1
    exact absurd H (by simp)

def computuslaw25_LinescanNumbers.Pure : Prop := ∀ (a0 : Int) (a1 : Int), (Lit.int .i64 a0).wf = true → (Lit.int .u8 a1).wf = true → ∃ k, computuslaw25_LinescanNumbers.f k a0 a1 = some true

end Go.Proofs.Ytjjgkgedadjodab.Q
