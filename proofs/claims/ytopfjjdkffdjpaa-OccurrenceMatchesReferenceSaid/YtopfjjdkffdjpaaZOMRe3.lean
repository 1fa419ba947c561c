/- What is proved: what the statement OccurrenceMatchesReferenceSaid needs, part 4 of 6; the last part proves the statement. No condition. -/
import Derived.Test.YtopfjjdkffdjpaaZOMRe2
set_option maxHeartbeats 8000000
set_option maxRecDepth 100000
set_option linter.unusedVariables false
set_option linter.unusedSimpArgs false
section
namespace Go.Proofs.Ytopfjjdkffdjpaa.Q
open Go.RowKit Go.Proofs.YtopfjjdkffdjpaaW.PrintWords Go.Proofs.YtopfjjdkffdjpaaW.PrintLast Go.Proofs.YtopfjjdkffdjpaaW.PrintMore
attribute [local go_sem] max2_int min2_int max_two min_two max_three min_three max_four min_four
mutual
def computusref08_Position.l0 : Nat → Int → Int → List Int → Int → Int → Int → Option (Int × Int × Bool)
 | 0, _, _, _, _, _, _ => none
 | k + 1, x0, x1, x7, x8, x9, x10 => if x10 ≤ 12 then (computusref08_Position.l1 k x0 x1 x7 x8 x9 x10 1) else (some (0, 0, false))
def computusref08_Position.l1 : Nat → Int → Int → List Int → Int → Int → Int → Int → Option (Int × Int × Bool)
 | 0, _, _, _, _, _, _, _ => none
 | k + 1, x0, x1, x7, x8, x9, x10, x11 => (computusref02_Length.f k false x10).bind fun t344 => (if x11 ≤ t344 then (if x8 < 12 then (if 0 ≤ (wrap64 (x8 + 1)) then (if (wrap64 (x8 + 1)) < (x7.length : Int) then (computusref08_Position.j2 k x0 x1 x7 x8 (wrap64 (x9 + 1)) x10 x11 ((rd x7 (wrap64 (x8 + 1))) == (wrap64 ((wrap64 (100 * x10)) + x11)))) else (none)) else (none)) else (computusref08_Position.j2 k x0 x1 x7 x8 (wrap64 (x9 + 1)) x10 x11 false)) else (computusref08_Position.l0 k x0 x1 x7 x8 x9 (wrap64 (x10 + 1))))
def computusref08_Position.j2 : Nat → Int → Int → List Int → Int → Int → Int → Int → Bool → Option (Int × Int × Bool)
 | 0, _, _, _, _, _, _, _, _ => none
 | k + 1, x0, x1, x7, x8, x9, x10, x11, x42 => if x42 = true then (if x10 = x0 then (if x11 = x1 then (some (wrap64 (x8 + 1), 0, true)) else (computusref08_Position.l1 k x0 x1 x7 (wrap64 (x8 + 1)) 0 x10 (wrap64 (x11 + 1)))) else (computusref08_Position.l1 k x0 x1 x7 (wrap64 (x8 + 1)) 0 x10 (wrap64 (x11 + 1)))) else (if x10 = x0 then (if x11 = x1 then (some (x8, x9, true)) else (computusref08_Position.l1 k x0 x1 x7 x8 x9 x10 (wrap64 (x11 + 1)))) else (computusref08_Position.l1 k x0 x1 x7 x8 x9 x10 (wrap64 (x11 + 1))))
end
def computusref08_Position.f (k : Nat) (a0 : Int) (a1 : Int) : Option (Int × Int × Bool) := (computusref08_Exists.f k a0 a1).bind fun t340 => (if t340 = true then ((computusref08_starts.f).bind fun t341 => (computusref08_Position.l0 k a0 a1 t341 (-1) 0 1)) else (some (0, 0, false)))
theorem computusref08_Position.mono_l : ∀ k, (∀ y0 y1 y2 y3 y4 y5, LeO (computusref08_Position.l0 k y0 y1 y2 y3 y4 y5) (computusref08_Position.l0 (k + 1) y0 y1 y2 y3 y4 y5)) ∧ (∀ y0 y1 y2 y3 y4 y5 y6, LeO (computusref08_Position.l1 k y0 y1 y2 y3 y4 y5 y6) (computusref08_Position.l1 (k + 1) y0 y1 y2 y3 y4 y5 y6)) ∧ (∀ y0 y1 y2 y3 y4 y5 y6 y7, LeO (computusref08_Position.j2 k y0 y1 y2 y3 y4 y5 y6 y7) (computusref08_Position.j2 (k + 1) y0 y1 y2 y3 y4 y5 y6 y7))
 | 0 => ⟨fun _ _ _ _ _ _ r h => by simp [computusref08_Position.l0] at h, fun _ _ _ _ _ _ _ r h => by simp [computusref08_Position.l1] at h, fun _ _ _ _ _ _ _ _ r h => by simp [computusref08_Position.j2] at h⟩
 | k + 1 => by
  obtain ⟨ih0, ih1, ih2⟩ := computusref08_Position.mono_l k
  refine ⟨?_, ?_, ?_⟩
  ·intro y0 y1 y2 y3 y4 y5
   unfold computusref08_Position.l0
   repeat' first | (with_reducible first | exact ih0 _ _ _ _ _ _ | exact ih1 _ _ _ _ _ _ _ | exact ih2 _ _ _ _ _ _ _ _ | exact computusref02_Length.mono _ _ _ | exact computusref08_Exists.mono _ _ _ | exact lr_ _ | exact ln_ _ | refine li_ ?_ ?_ | refine lb_ ?_ fun _ => ?_) | exact ln_ _ | refine li_ ?_ ?_ | refine lb_ ?_ fun _ => ?_
  ·intro y0 y1 y2 y3 y4 y5 y6
   unfold computusref08_Position.l1
   repeat' first | (with_reducible first | exact ih0 _ _ _ _ _ _ | exact ih1 _ _ _ _ _ _ _ | exact ih2 _ _ _ _ _ _ _ _ | exact computusref02_Length.mono _ _ _ | exact computusref08_Exists.mono _ _ _ | exact lr_ _ | exact ln_ _ | refine li_ ?_ ?_ | refine lb_ ?_ fun _ => ?_) | exact ln_ _ | refine li_ ?_ ?_ | refine lb_ ?_ fun _ => ?_
  ·intro y0 y1 y2 y3 y4 y5 y6 y7
   unfold computusref08_Position.j2
   repeat' first | (with_reducible first | exact ih0 _ _ _ _ _ _ | exact ih1 _ _ _ _ _ _ _ | exact ih2 _ _ _ _ _ _ _ _ | exact computusref02_Length.mono _ _ _ | exact computusref08_Exists.mono _ _ _ | exact lr_ _ | exact ln_ _ | refine li_ ?_ ?_ | refine lb_ ?_ fun _ => ?_) | exact ln_ _ | refine li_ ?_ ?_ | refine lb_ ?_ fun _ => ?_
theorem computusref08_Position.mono : ∀ a0 a1 k, LeO (computusref08_Position.f k a0 a1) (computusref08_Position.f (k + 1) a0 a1) := by
 intro a0 a1 k
 obtain ⟨ih0, ih1, ih2⟩ := computusref08_Position.mono_l k
 unfold computusref08_Position.f
 repeat' first | (with_reducible first | exact ih0 _ _ _ _ _ _ | exact ih1 _ _ _ _ _ _ _ | exact ih2 _ _ _ _ _ _ _ _ | exact computusref02_Length.mono _ _ _ | exact computusref08_Exists.mono _ _ _ | exact lr_ _ | exact ln_ _ | refine li_ ?_ ?_ | refine lb_ ?_ fun _ => ?_) | exact ln_ _ | refine li_ ?_ ?_ | refine lb_ ?_ fun _ => ?_
theorem computusref08_Position.calls (k : Nat) (a0 : Int) (a1 : Int) (r1 : Int) (r2 : Int) (r3 : Bool) (w : World) (h : computusref08_Position.f k a0 a1 = some (r1, r2, r3)) :
  Calls Try.prog 88 #[.int .i64 a0, .int .i64 a1] w fun e w' => e = .returned (.tuple #[.int .i64 r1, .int .i64 r2, .bool r3]) ∧ Below w.heap.size w w' := by
 have HB := am_ (Below.refl w.heap.size w)
 have H := h
 clear h
 unfold computusref08_Position.f at H
 obtain ⟨t340, A3, H⟩ := bs_ H
 by_cases c4 : t340 = true
 rotate_left
 ·replace c4 := Bool.eq_false_iff.mpr c4
  subst c4
  replace H := if_ H
  simp only [Option.some.injEq, Prod.mk.injEq] at H
  obtain ⟨rfl, rfl, rfl⟩ := H
  go_enter Try.func88, Try.ntmps88
  go_wp2_with (first | ((with_reducible refine gate_callee (f := 64) rfl ?_); refine gl_ (some 14) Try.func64 #[.int .i64 a0, .int .i64 a1] ?_; (with_reducible refine (computusref08_Exists.calls k a0 a1 false _ A3.out).mono ?_); rintro e w' ⟨rfl, ⟨nd, rfl⟩⟩; refine ⟨_, rfl, ?_⟩))
  go_ret3
  exact rt_
 subst c4
 replace H := it_ H
 obtain ⟨t341, A5, H⟩ := bs_ H
 have H' := am_ H
 clear H
 go_enter Try.func88, Try.ntmps88
 go_wp2_with (first | ((with_reducible refine gate_callee (f := 64) rfl ?_); refine gl_ (some 14) Try.func64 #[.int .i64 a0, .int .i64 a1] ?_; (with_reducible refine (computusref08_Exists.calls k a0 a1 true _ A3.out).mono ?_); rintro e w' ⟨rfl, ⟨nd, rfl⟩⟩; refine ⟨_, rfl, ?_⟩) | ((with_reducible refine gate_callee (f := 91) rfl ?_); refine gl_ (some 16) Try.func91 #[] ?_; (with_reducible refine (computusref08_starts.calls  t341 _ A5.out).mono ?_); rintro e w6 ⟨v342, rfl, ho0, hb⟩; refine ⟨_, rfl, ?_⟩; have HO343 := am_ (Kd.R_lower ho0 bz_); replace HB := bt_ hb; (try clear hb); (try clear ho0)))
 go_loopg [8, 9, 10] k (fun kq v8 v9 v10 w' => ∃ (x8_1 : Int) (x9_1 : Int) (x10_1 : Int), v8 = .int .i64 x8_1 ∧ v9 = .int .i64 x9_1 ∧ v10 = .int .i64 x10_1 ∧ Aside0 (computusref08_Position.l0 kq a0 a1 t341 x8_1 x9_1 x10_1 = some (r1, r2, r3)) ∧ Aside0 (kq ≤ k) ∧ Aside0 (Kd.R (Kd.int .i64) 3 w' w.heap.size (fun _ => True) v342 t341) ∧ Aside0 (Below w.heap.size w w'))
 case atStart => exact ⟨((-1)), (0), (1), rs_, rs_, rs_, H', ⟨Nat.le_refl _⟩, ⟨rk_ HO343.out⟩, ⟨bh_⟩⟩
 case round =>
  clear H'
  obtain ⟨x8_1, x9_1, x10_1, rfl, rfl, rfl, HA, HK1, HO_7, HB⟩ := hrel
  cases gk with
  | zero => exact absurd HA.out (by simp [computusref08_Position.l0])
  | succ k1 =>
   have H := HA.out
   clear HA
   simp only [computusref08_Position.l0] at H
   by_cases c7 : x10_1 ≤ 12
   rotate_left
   ·rw [if_neg c7] at H
    have c7b0 : decide (x10_1 ≤ 12) = false := decide_eq_false c7
    clear c7
    simp only [Option.some.injEq, Prod.mk.injEq] at H
    obtain ⟨rfl, rfl, rfl⟩ := H
    go_wp2
    go_ret3
    exact rt_
   rw [if_pos c7] at H
   have c7b0 : decide (x10_1 ≤ 12) = true := decide_eq_true c7
   clear c7
   have H' := am_ H
   clear H
   go_wp2
   go_loopg [8, 9, 11] k1 (fun kq v8 v9 v11 w' => ∃ (x8_2 : Int) (x9_2 : Int) (x11_2 : Int), v8 = .int .i64 x8_2 ∧ v9 = .int .i64 x9_2 ∧ v11 = .int .i64 x11_2 ∧ Aside0 (computusref08_Position.l1 kq a0 a1 t341 x8_2 x9_2 x10_1 x11_2 = some (r1, r2, r3)) ∧ Aside0 (kq ≤ k1) ∧ Aside0 (Kd.R (Kd.int .i64) 3 w' w.heap.size (fun _ => True) v342 t341) ∧ Aside0 (Below w.heap.size w w'))
   case atStart => exact ⟨(x8_1), (x9_1), (1), rs_, rs_, rs_, H', ⟨Nat.le_refl _⟩, ⟨rk_ HO_7.out⟩, ⟨bh_⟩⟩
   case round =>
    clear H'
    obtain ⟨x8_2, x9_2, x11_2, rfl, rfl, rfl, HA, HK2, HO_7, HB⟩ := hrel
    cases gk with
    | zero => exact absurd HA.out (by simp [computusref08_Position.l1])
    | succ k2 =>
     have H := HA.out
     clear HA
     simp only [computusref08_Position.l1] at H
     obtain ⟨t344, A8, H⟩ := bs_ H
     by_cases c9 : x11_2 ≤ t344
     rotate_left
     ·rw [if_neg c9] at H
      have c9b0 : decide (x11_2 ≤ t344) = false := decide_eq_false c9
      clear c9
      have H' := am_ H
      clear H
      go_wp2_with (first | ((with_reducible refine gate_callee (f := 71) rfl ?_); refine gl_ (some 23) Try.func71 #[.bool false, .int .i64 x10_1] ?_; (with_reducible refine (computusref02_Length.calls k2 false x10_1 t344 _ A8.out).mono ?_); rintro e w' ⟨rfl, ⟨nd, rfl⟩⟩; refine ⟨_, rfl, ?_⟩))
      go_roundg k2
      case measure => have := HK1.out; have := HK2.out; omega
      case rel => exact ⟨(x8_2), (x9_2), (wrap64 (x10_1 + 1)), rs_, rs_, rs_, H', ⟨by have := HK1.out; have := HK2.out; omega⟩, ⟨rk_ HO_7.out⟩, ⟨bh_⟩⟩
     rw [if_pos c9] at H
     have c9b0 : decide (x11_2 ≤ t344) = true := decide_eq_true c9
     clear c9
     have HC10 := am_ H
     clear H
     go_upto_region 13 with (first | ((with_reducible refine gate_callee (f := 71) rfl ?_); refine gl_ (some 23) Try.func71 #[.bool false, .int .i64 x10_1] ?_; (with_reducible refine (computusref02_Length.calls k2 false x10_1 t344 _ A8.out).mono ?_); rintro e w' ⟨rfl, ⟨nd, rfl⟩⟩; refine ⟨_, rfl, ?_⟩))
     (try simp only [Act.put, sA_, sZ_, sS_])
     go_cut [42] (fun v42 wc => ∃ (kq : Nat) (x42_9 : Bool), v42 = .bool x42_9 ∧ Aside0 (computusref08_Position.j2 kq a0 a1 t341 x8_2 (wrap64 (x9_2 + 1)) x10_1 x11_2 x42_9 = some (r1, r2, r3)) ∧ Aside0 (kq ≤ k2) ∧ Aside0 (Kd.R (Kd.int .i64) 3 wc w.heap.size (fun _ => True) v342 t341) ∧ Aside0 (Below w.heap.size w wc))
     case first =>
      have H := HC10.out
      clear HC10
      by_cases c11 : x8_2 < 12
      rotate_left
      ·rw [if_neg c11] at H
       have c11b0 : decide (x8_2 < 12) = false := decide_eq_false c11
       clear c11
       (first | rw [c11b0] | (simp only [i64_w, i32_w]; rw [c11b0]) | skip)
       have H' := am_ H
       clear H
       go_wp2
       go_meet
       case rel => exact ⟨_, (false), rs_, H', ⟨by have := HK1.out; have := HK2.out; first | omega | exact Nat.le_refl _⟩, ⟨rk_ HO_7.out⟩, ⟨bh_⟩⟩
      rw [if_pos c11] at H
      have c11b0 : decide (x8_2 < 12) = true := decide_eq_true c11
      clear c11
      (first | rw [c11b0] | (simp only [i64_w, i32_w]; rw [c11b0]) | skip)
      obtain ⟨ji12, hji12⟩ : ∃ j_ : Int, (wrap64 (x8_2 + 1)) = j_ := ⟨_, rfl⟩
      replace H : (if 0 ≤ (ji12) then (if (ji12) < (t341.length : Int) then (computusref08_Position.j2 k2 a0 a1 t341 x8_2 (wrap64 (x9_2 + 1)) x10_1 x11_2 ((rd t341 (ji12)) == (wrap64 ((wrap64 (100 * x10_1)) + x11_2)))) else (none)) else (none)) = some (r1, r2, r3) := by first | (rw [hji12] at H; exact H) | (simp only [hji12] at H ⊢; exact H)
      have hji12w : (IntKind.i64.wrap (x8_2 + 1)) = ji12 := (i64_w _).trans hji12
      by_cases c13 : 0 ≤ (ji12)
      rotate_left
      ·rw [if_neg c13] at H
       exact absurd H (by simp)
      rw [if_pos c13] at H
      have c13b0 : decide (0 ≤ (ji12)) = true := decide_eq_true c13
      clear c13
      by_cases c14 : (ji12) < (t341.length : Int)
      rotate_left
      ·rw [if_neg c14] at H
       exact absurd H (by simp)
      rw [if_pos c14] at H
      have c14b0 : decide ((ji12) < (t341.length : Int)) = true := decide_eq_true c14
      clear c14
      have H' := am_ H
      clear H
      obtain ⟨Ao15, co15, eo15⟩ := Kd.R_slice HO_7.out
      subst eo15
      have p345 : 0 ≤ ((ji12) : Int) := of_decide_eq_true as_
      have q345 : (ji12) < (t341.length : Int) := of_decide_eq_true as_
      obtain ⟨ad345, e345, hx345_0⟩ := Kd.at_int (Kd.R_reads' HO_7.out).2.2 (ji12) p345 q345
      cases e345
      replace p345 := eq_true p345
      replace q345 := eq_true q345
      go_wp2
      go_meet
      case rel => exact ⟨_, (((rd t341 (ji12)) == (wrap64 ((wrap64 (100 * x10_1)) + x11_2)))), (by first | rfl | (simp; done) | (simp only [← hji12] <;> (first | rfl | simp)) | (simp [*]; done)), H', ⟨by have := HK1.out; have := HK2.out; first | omega | exact Nat.le_refl _⟩, ⟨rk_ HO_7.out⟩, ⟨bh_⟩⟩
     case rest =>
      clear HC10
      obtain ⟨kq, x42_9, rfl, HA, HJ9, HO_7, HB⟩ := hcut
      cases kq with
      | zero => exact absurd HA.out (by simp [computusref08_Position.j2])
      | succ kj9 =>
       have H := HA.out
       clear HA
       simp only [computusref08_Position.j2] at H
       by_cases c16 : x42_9 = true
       ·subst c16
        replace H := it_ H
        by_cases c17 : x10_1 = a0
        rotate_left
        ·rw [if_neg c17] at H
         have c17b0 : (x10_1 == a0) = false := beq_eq_false_iff_ne.mpr c17
         have c17b1 : (x10_1 != a0) = true := bne_iff_ne.mpr c17
         have H' := am_ H
         clear H
         go_wp2
         go_roundg kj9
         case measure => have := HK1.out; have := HK2.out; have := HJ9.out; omega
         case rel => exact ⟨(wrap64 (x8_2 + 1)), (0), (wrap64 (x11_2 + 1)), rs_, rs_, rs_, H', ⟨by have := HK1.out; have := HK2.out; have := HJ9.out; omega⟩, ⟨rk_ HO_7.out⟩, ⟨bh_⟩⟩
        rw [if_pos c17] at H
        have c17b0 : (x10_1 == a0) = true := beq_iff_eq.mpr c17
        have c17b1 : (x10_1 != a0) = false := bne_eq_false_iff_eq.mpr c17
        clear c17
        by_cases c18 : x11_2 = a1
        ·rw [if_pos c18] at H
         have c18b0 : (x11_2 == a1) = true := beq_iff_eq.mpr c18
         have c18b1 : (x11_2 != a1) = false := bne_eq_false_iff_eq.mpr c18
         clear c18
         simp only [Option.some.injEq, Prod.mk.injEq] at H
         obtain ⟨rfl, rfl, rfl⟩ := H
         go_wp2
         go_ret3
         exact rt_
        rw [if_neg c18] at H
        have c18b0 : (x11_2 == a1) = false := beq_eq_false_iff_ne.mpr c18
        have c18b1 : (x11_2 != a1) = true := bne_iff_ne.mpr c18
        have H' := am_ H
        clear H
        go_wp2
        go_roundg kj9
        case measure => have := HK1.out; have := HK2.out; have := HJ9.out; omega
        case rel => exact ⟨(wrap64 (x8_2 + 1)), (0), (wrap64 (x11_2 + 1)), rs_, rs_, rs_, H', ⟨by have := HK1.out; have := HK2.out; have := HJ9.out; omega⟩, ⟨rk_ HO_7.out⟩, ⟨bh_⟩⟩
       replace c16 := Bool.eq_false_iff.mpr c16
       subst c16
       replace H := if_ H
       by_cases c19 : x10_1 = a0
       rotate_left
       ·rw [if_neg c19] at H
        have c19b0 : (x10_1 == a0) = false := beq_eq_false_iff_ne.mpr c19
        have c19b1 : (x10_1 != a0) = true := bne_iff_ne.mpr c19
        have H' := am_ H
        clear H
        go_wp2
        go_roundg kj9
        case measure => have := HK1.out; have := HK2.out; have := HJ9.out; omega
        case rel => exact ⟨(x8_2), ((wrap64 (x9_2 + 1))), (wrap64 (x11_2 + 1)), rs_, rs_, rs_, H', ⟨by have := HK1.out; have := HK2.out; have := HJ9.out; omega⟩, ⟨rk_ HO_7.out⟩, ⟨bh_⟩⟩
       rw [if_pos c19] at H
       have c19b0 : (x10_1 == a0) = true := beq_iff_eq.mpr c19
       have c19b1 : (x10_1 != a0) = false := bne_eq_false_iff_eq.mpr c19
       clear c19
       by_cases c20 : x11_2 = a1
       ·rw [if_pos c20] at H
        have c20b0 : (x11_2 == a1) = true := beq_iff_eq.mpr c20
        have c20b1 : (x11_2 != a1) = false := bne_eq_false_iff_eq.mpr c20
        clear c20
        simp only [Option.some.injEq, Prod.mk.injEq] at H
        obtain ⟨rfl, rfl, rfl⟩ := H
        go_wp2
        go_ret3
        exact rt_
       rw [if_neg c20] at H
       have c20b0 : (x11_2 == a1) = false := beq_eq_false_iff_ne.mpr c20
       have c20b1 : (x11_2 != a1) = true := bne_iff_ne.mpr c20
       have H' := am_ H
       clear H
       go_wp2
       go_roundg kj9
       case measure => have := HK1.out; have := HK2.out; have := HJ9.out; omega
       case rel => exact ⟨(x8_2), ((wrap64 (x9_2 + 1))), (wrap64 (x11_2 + 1)), rs_, rs_, rs_, H', ⟨by have := HK1.out; have := HK2.out; have := HJ9.out; omega⟩, ⟨rk_ HO_7.out⟩, ⟨bh_⟩⟩
def computusref08_Bears.f (k : Nat) (a0 : Int) (a1 : Int) (a2 : Int) : Option (Bool) := (computusref08_Position.f k a0 a1).bind fun bt346 => (if bt346.2.2 = true then (if (Int.tmod bt346.1 2) = 0 then (if a2 = (wrap64 (30 - bt346.2.1)) then (some true) else (if a2 = 31 then (some (bt346.2.1 == 5)) else (some false))) else (if bt346.2.1 ≤ 4 then (if a2 = (wrap64 (30 - bt346.2.1)) then (some true) else (if a2 = 31 then (some (bt346.2.1 == 4)) else (some false))) else (if bt346.2.1 = 5 then (if a2 = 25 then (some true) else (some (a2 == 24))) else (some (a2 == (wrap64 (29 - bt346.2.1))))))) else (some false))
theorem computusref08_Bears.calls (k : Nat) (a0 : Int) (a1 : Int) (a2 : Int) (r : Bool) (w : World) (h : computusref08_Bears.f k a0 a1 a2 = some r) :
  Calls Try.prog 86 #[.int .i64 a0, .int .i64 a1, .int .i64 a2] w fun e w' => e = .returned (.bool r) ∧ Below w.heap.size w w' := by
 have HB := am_ (Below.refl w.heap.size w)
 have H := h
 clear h
 unfold computusref08_Bears.f at H
 obtain ⟨⟨t346, t347, t348⟩, A4, H⟩ := bs_ H
 dsimp only at H
 by_cases c5 : t348 = true
 rotate_left
 ·replace c5 := Bool.eq_false_iff.mpr c5
  subst c5
  replace H := if_ H
  obtain rfl := Option.some.inj H
  go_enter Try.func86, Try.ntmps86
  go_wp2_with (first | ((with_reducible refine gate_callee (f := 88) rfl ?_); refine gl_ (some 13) Try.func88 #[.int .i64 a0, .int .i64 a1] ?_; (with_reducible refine (computusref08_Position.calls k a0 a1 t346 t347 false _ A4.out).mono ?_); rintro e w23 ⟨rfl, hb⟩; refine ⟨_, rfl, ?_⟩; replace HB := bt_ hb; (try clear hb); (try clear hi)))
  go_ret
  exact rt_
 subst c5
 replace H := it_ H
 by_cases c6 : (Int.tmod t346 2) = 0
 ·rw [if_pos c6] at H
  have c6b0 : ((Int.tmod t346 2) == 0) = true := beq_iff_eq.mpr c6
  have c6b1 : ((Int.tmod t346 2) != 0) = false := bne_eq_false_iff_eq.mpr c6
  clear c6
  by_cases c7 : a2 = (wrap64 (30 - t347))
  ·rw [if_pos c7] at H
   have c7b0 : (a2 == (wrap64 (30 - t347))) = true := beq_iff_eq.mpr c7
   have c7b1 : (a2 != (wrap64 (30 - t347))) = false := bne_eq_false_iff_eq.mpr c7
   clear c7
   obtain rfl := Option.some.inj H
   go_enter Try.func86, Try.ntmps86
   go_wp2_with (first | ((with_reducible refine gate_callee (f := 88) rfl ?_); refine gl_ (some 13) Try.func88 #[.int .i64 a0, .int .i64 a1] ?_; (with_reducible refine (computusref08_Position.calls k a0 a1 t346 t347 true _ A4.out).mono ?_); rintro e w8 ⟨rfl, hb⟩; refine ⟨_, rfl, ?_⟩; replace HB := bt_ hb; (try clear hb); (try clear hi)))
   go_ret
   exact rt_
  rw [if_neg c7] at H
  have c7b0 : (a2 == (wrap64 (30 - t347))) = false := beq_eq_false_iff_ne.mpr c7
  have c7b1 : (a2 != (wrap64 (30 - t347))) = true := bne_iff_ne.mpr c7
  by_cases c9 : a2 = 31
  rotate_left
  ·rw [if_neg c9] at H
   have c9b0 : (a2 == 31) = false := beq_eq_false_iff_ne.mpr c9
   have c9b1 : (a2 != 31) = true := bne_iff_ne.mpr c9
   obtain rfl := Option.some.inj H
   go_enter Try.func86, Try.ntmps86
   go_wp2_with (first | ((with_reducible refine gate_callee (f := 88) rfl ?_); refine gl_ (some 13) Try.func88 #[.int .i64 a0, .int .i64 a1] ?_; (with_reducible refine (computusref08_Position.calls k a0 a1 t346 t347 true _ A4.out).mono ?_); rintro e w11 ⟨rfl, hb⟩; refine ⟨_, rfl, ?_⟩; replace HB := bt_ hb; (try clear hb); (try clear hi)))
   go_ret
   exact rt_
  rw [if_pos c9] at H
  have c9b0 : (a2 == 31) = true := beq_iff_eq.mpr c9
  have c9b1 : (a2 != 31) = false := bne_eq_false_iff_eq.mpr c9
  clear c9
  obtain rfl := Option.some.inj H
  go_enter Try.func86, Try.ntmps86
  go_wp2_with (first | ((with_reducible refine gate_callee (f := 88) rfl ?_); refine gl_ (some 13) Try.func88 #[.int .i64 a0, .int .i64 a1] ?_; (with_reducible refine (computusref08_Position.calls k a0 a1 t346 t347 true _ A4.out).mono ?_); rintro e w10 ⟨rfl, hb⟩; refine ⟨_, rfl, ?_⟩; replace HB := bt_ hb; (try clear hb); (try clear hi)))
  go_ret
  exact rt_
 rw [if_neg c6] at H
 have c6b0 : ((Int.tmod t346 2) == 0) = false := beq_eq_false_iff_ne.mpr c6
 have c6b1 : ((Int.tmod t346 2) != 0) = true := bne_iff_ne.mpr c6
 by_cases c12 : t347 ≤ 4
 rotate_left
 ·rw [if_neg c12] at H
  have c12b0 : decide (t347 ≤ 4) = false := decide_eq_false c12
  clear c12
  by_cases c18 : t347 = 5
  rotate_left
  ·rw [if_neg c18] at H
   have c18b0 : (t347 == 5) = false := beq_eq_false_iff_ne.mpr c18
   have c18b1 : (t347 != 5) = true := bne_iff_ne.mpr c18
   obtain rfl := Option.some.inj H
   go_enter Try.func86, Try.ntmps86
   go_wp2_with (first | ((with_reducible refine gate_callee (f := 88) rfl ?_); refine gl_ (some 13) Try.func88 #[.int .i64 a0, .int .i64 a1] ?_; (with_reducible refine (computusref08_Position.calls k a0 a1 t346 t347 true _ A4.out).mono ?_); rintro e w22 ⟨rfl, hb⟩; refine ⟨_, rfl, ?_⟩; replace HB := bt_ hb; (try clear hb); (try clear hi)))
   go_ret
   exact rt_
  rw [if_pos c18] at H
  have c18b0 : (t347 == 5) = true := beq_iff_eq.mpr c18
  have c18b1 : (t347 != 5) = false := bne_eq_false_iff_eq.mpr c18
  clear c18
  by_cases c19 : a2 = 25
  rotate_left
  ·rw [if_neg c19] at H
   have c19b0 : (a2 == 25) = false := beq_eq_false_iff_ne.mpr c19
   have c19b1 : (a2 != 25) = true := bne_iff_ne.mpr c19
   obtain rfl := Option.some.inj H
   go_enter Try.func86, Try.ntmps86
   go_wp2_with (first | ((with_reducible refine gate_callee (f := 88) rfl ?_); refine gl_ (some 13) Try.func88 #[.int .i64 a0, .int .i64 a1] ?_; (with_reducible refine (computusref08_Position.calls k a0 a1 t346 t347 true _ A4.out).mono ?_); rintro e w21 ⟨rfl, hb⟩; refine ⟨_, rfl, ?_⟩; replace HB := bt_ hb; (try clear hb); (try clear hi)))
   go_ret
   exact rt_
  rw [if_pos c19] at H
  have c19b0 : (a2 == 25) = true := beq_iff_eq.mpr c19
  have c19b1 : (a2 != 25) = false := bne_eq_false_iff_eq.mpr c19
  clear c19
  obtain rfl := Option.some.inj H
  go_enter Try.func86, Try.ntmps86
  go_wp2_with (first | ((with_reducible refine gate_callee (f := 88) rfl ?_); refine gl_ (some 13) Try.func88 #[.int .i64 a0, .int .i64 a1] ?_; (with_reducible refine (computusref08_Position.calls k a0 a1 t346 t347 true _ A4.out).mono ?_); rintro e w20 ⟨rfl, hb⟩; refine ⟨_, rfl, ?_⟩; replace HB := bt_ hb; (try clear hb); (try clear hi)))
  go_ret
  exact rt_
 rw [if_pos c12] at H
 have c12b0 : decide (t347 ≤ 4) = true := decide_eq_true c12
 clear c12
 by_cases c13 : a2 = (wrap64 (30 - t347))
 ·rw [if_pos c13] at H
  have c13b0 : (a2 == (wrap64 (30 - t347))) = true := beq_iff_eq.mpr c13
  have c13b1 : (a2 != (wrap64 (30 - t347))) = false := bne_eq_false_iff_eq.mpr c13
  clear c13
  obtain rfl := Option.some.inj H
  go_enter Try.func86, Try.ntmps86
  go_wp2_with (first | ((with_reducible refine gate_callee (f := 88) rfl ?_); refine gl_ (some 13) Try.func88 #[.int .i64 a0, .int .i64 a1] ?_; (with_reducible refine (computusref08_Position.calls k a0 a1 t346 t347 true _ A4.out).mono ?_); rintro e w14 ⟨rfl, hb⟩; refine ⟨_, rfl, ?_⟩; replace HB := bt_ hb; (try clear hb); (try clear hi)))
  go_ret
  exact rt_
 rw [if_neg c13] at H
 have c13b0 : (a2 == (wrap64 (30 - t347))) = false := beq_eq_false_iff_ne.mpr c13
 have c13b1 : (a2 != (wrap64 (30 - t347))) = true := bne_iff_ne.mpr c13
 by_cases c15 : a2 = 31
 rotate_left
 ·rw [if_neg c15] at H
  have c15b0 : (a2 == 31) = false := beq_eq_false_iff_ne.mpr c15
  have c15b1 : (a2 != 31) = true := bne_iff_ne.mpr c15
  obtain rfl := Option.some.inj H
  go_enter Try.func86, Try.ntmps86
  go_wp2_with (first | ((with_reducible refine gate_callee (f := 88) rfl ?_); refine gl_ (some 13) Try.func88 #[.int .i64 a0, .int .i64 a1] ?_; (with_reducible refine (computusref08_Position.calls k a0 a1 t346 t347 true _ A4.out).mono ?_); rintro e w17 ⟨rfl, hb⟩; refine ⟨_, rfl, ?_⟩; replace HB := bt_ hb; (try clear hb); (try clear hi)))
  go_ret
  exact rt_
 rw [if_pos c15] at H
 have c15b0 : (a2 == 31) = true := beq_iff_eq.mpr c15
 have c15b1 : (a2 != 31) = false := bne_eq_false_iff_eq.mpr c15
 clear c15
 obtain rfl := Option.some.inj H
 go_enter Try.func86, Try.ntmps86
 go_wp2_with (first | ((with_reducible refine gate_callee (f := 88) rfl ?_); refine gl_ (some 13) Try.func88 #[.int .i64 a0, .int .i64 a1] ?_; (with_reducible refine (computusref08_Position.calls k a0 a1 t346 t347 true _ A4.out).mono ?_); rintro e w16 ⟨rfl, hb⟩; refine ⟨_, rfl, ?_⟩; replace HB := bt_ hb; (try clear hb); (try clear hi)))
 go_ret
 exact rt_
def computusref06_Golden.f (a0 : Int) : Option (Int) := some (wrap64 ((wrap64 (a0 - (wrap64 (19 * (wrap64 (Int.tdiv a0 19)))))) + 1))
theorem computusref06_Golden.calls (a0 : Int) (r : Int) (w : World) (h : computusref06_Golden.f a0 = some r) :
  Calls Try.prog 90 #[.int .i64 a0] w fun e w' => e = .returned (.int .i64 r) ∧ Drawn0 w w' := by
 have H := h
 clear h
 unfold computusref06_Golden.f at H
 obtain rfl := Option.some.inj H
 go_enter Try.func90, Try.ntmps90
 go_wp2
 go_ret
 exact ⟨by first | rfl | (simp; done) | (simp [*]; done), by repeat (first | exact Drawn0.refl _ | apply Drawn0.step)⟩
def computusref06_Century.f (a0 : Int) : Option (Int) := some (wrap64 ((wrap64 (Int.tdiv a0 100)) + 1))
theorem computusref06_Century.calls (a0 : Int) (r : Int) (w : World) (h : computusref06_Century.f a0 = some r) :
  Calls Try.prog 94 #[.int .i64 a0] w fun e w' => e = .returned (.int .i64 r) ∧ Drawn0 w w' := by
 have H := h
 clear h
 unfold computusref06_Century.f at H
 obtain rfl := Option.some.inj H
 go_enter Try.func94, Try.ntmps94
 go_wp2
 go_ret
 exact ⟨by first | rfl | (simp; done) | (simp [*]; done), by repeat (first | exact Drawn0.refl _ | apply Drawn0.step)⟩
def computusref06_Lunar.f (a0 : Int) : Option (Int) := (computusref06_Century.f a0).bind fun t349 => (some (wrap64 ((wrap64 (Int.tdiv (wrap64 ((wrap64 (8 * t349)) + 5)) 25)) - 5)))
theorem computusref06_Lunar.calls (a0 : Int) (r : Int) (w : World) (h : computusref06_Lunar.f a0 = some r) :
  Calls Try.prog 92 #[.int .i64 a0] w fun e w' => e = .returned (.int .i64 r) ∧ Drawn0 w w' := by
 have H := h
 clear h
 unfold computusref06_Lunar.f at H
 obtain ⟨t349, A2, H⟩ := bs_ H
 obtain rfl := Option.some.inj H
 go_enter Try.func92, Try.ntmps92
 go_wp2_with (first | ((with_reducible refine gate_callee (f := 94) rfl ?_); refine gl_ (some 4) Try.func94 #[.int .i64 a0] ?_; (with_reducible refine (computusref06_Century.calls a0 t349 _ A2.out).mono ?_); rintro e w' ⟨rfl, ⟨nd, rfl⟩⟩; refine ⟨_, rfl, ?_⟩))
 go_ret
 exact ⟨by first | rfl | (simp; done) | (simp [*]; done), by repeat (first | exact Drawn0.refl _ | apply Drawn0.step)⟩
def computusref06_Solar.f (a0 : Int) : Option (Int) := (computusref06_Century.f a0).bind fun t350 => (some (wrap64 ((wrap64 (Int.tdiv (wrap64 (3 * t350)) 4)) - 12)))
theorem computusref06_Solar.calls (a0 : Int) (r : Int) (w : World) (h : computusref06_Solar.f a0 = some r) :
  Calls Try.prog 93 #[.int .i64 a0] w fun e w' => e = .returned (.int .i64 r) ∧ Drawn0 w w' := by
 have H := h
 clear h
 unfold computusref06_Solar.f at H
 obtain ⟨t350, A2, H⟩ := bs_ H
 obtain rfl := Option.some.inj H
 go_enter Try.func93, Try.ntmps93
 go_wp2_with (first | ((with_reducible refine gate_callee (f := 94) rfl ?_); refine gl_ (some 4) Try.func94 #[.int .i64 a0] ?_; (with_reducible refine (computusref06_Century.calls a0 t350 _ A2.out).mono ?_); rintro e w' ⟨rfl, ⟨nd, rfl⟩⟩; refine ⟨_, rfl, ?_⟩))
 go_ret
 exact ⟨by first | rfl | (simp; done) | (simp [*]; done), by repeat (first | exact Drawn0.refl _ | apply Drawn0.step)⟩
def computusref07_Of.f (a0 : Int) (a1 : Int) : Option (Int) := (computusref06_Golden.f a1).bind fun t351 => (if a0 = 2 then ((computusref06_Golden.f a1).bind fun t352 => ((computusref06_Lunar.f a1).bind fun t353 => ((computusref06_Solar.f a1).bind fun t354 => ((computusref01_Mod.f (wrap64 ((wrap64 ((wrap64 ((wrap64 (11 * t352)) + 20)) + t353)) - t354)) 30).bind fun t355 => (if t355 = 0 then (some 30) else (some t355)))))) else ((computusref01_Mod.f (wrap64 ((wrap64 (11 * t351)) - 3)) 30).bind fun t356 => (if t356 = 0 then (some 30) else (some t356))))
theorem computusref07_Of.calls (a0 : Int) (a1 : Int) (r : Int) (w : World) (h : computusref07_Of.f a0 a1 = some r) :
  Calls Try.prog 89 #[.int .i64 a0, .int .i64 a1] w fun e w' => e = .returned (.int .i64 r) ∧ Drawn0 w w' := by
 have H := h
 clear h
 unfold computusref07_Of.f at H
 obtain ⟨t351, A3, H⟩ := bs_ H
 by_cases c4 : a0 = 2
 rotate_left
 ·rw [if_neg c4] at H
  have c4b0 : (a0 == 2) = false := beq_eq_false_iff_ne.mpr c4
  have c4b1 : (a0 != 2) = true := bne_iff_ne.mpr c4
  obtain ⟨t356, A10, H⟩ := bs_ H
  by_cases c11 : t356 = 0
  rotate_left
  ·rw [if_neg c11] at H
   have c11b0 : (t356 == 0) = false := beq_eq_false_iff_ne.mpr c11
   have c11b1 : (t356 != 0) = true := bne_iff_ne.mpr c11
   obtain rfl := Option.some.inj H
   go_enter Try.func89, Try.ntmps89
   go_wp2_with (first | ((with_reducible refine gate_callee (f := 90) rfl ?_); refine gl_ (some 8) Try.func90 #[.int .i64 a1] ?_; (with_reducible refine (computusref06_Golden.calls a1 t351 _ A3.out).mono ?_); rintro e w' ⟨rfl, ⟨nd, rfl⟩⟩; refine ⟨_, rfl, ?_⟩) | ((with_reducible refine gate_callee (f := 58) rfl ?_); refine gl_ (some 24) Try.func58 #[.int .i64 (wrap64 ((wrap64 (11 * t351)) - 3)), .int .i64 30] ?_; (with_reducible refine (computusref01_Mod.calls (wrap64 ((wrap64 (11 * t351)) - 3)) 30 t356 _ A10.out).mono ?_); rintro e w' ⟨rfl, ⟨nd, rfl⟩⟩; refine ⟨_, rfl, ?_⟩))
   go_ret
   exact ⟨by first | rfl | (simp; done) | (simp [*]; done), by repeat (first | exact Drawn0.refl _ | apply Drawn0.step)⟩
  rw [if_pos c11] at H
  have c11b0 : (t356 == 0) = true := beq_iff_eq.mpr c11
  have c11b1 : (t356 != 0) = false := bne_eq_false_iff_eq.mpr c11
  clear c11
  obtain rfl := Option.some.inj H
  go_enter Try.func89, Try.ntmps89
  go_wp2_with (first | ((with_reducible refine gate_callee (f := 90) rfl ?_); refine gl_ (some 8) Try.func90 #[.int .i64 a1] ?_; (with_reducible refine (computusref06_Golden.calls a1 t351 _ A3.out).mono ?_); rintro e w' ⟨rfl, ⟨nd, rfl⟩⟩; refine ⟨_, rfl, ?_⟩) | ((with_reducible refine gate_callee (f := 58) rfl ?_); refine gl_ (some 24) Try.func58 #[.int .i64 (wrap64 ((wrap64 (11 * t351)) - 3)), .int .i64 30] ?_; (with_reducible refine (computusref01_Mod.calls (wrap64 ((wrap64 (11 * t351)) - 3)) 30 t356 _ A10.out).mono ?_); rintro e w' ⟨rfl, ⟨nd, rfl⟩⟩; refine ⟨_, rfl, ?_⟩))
  go_ret
  exact ⟨by first | rfl | (simp; done) | (simp [*]; done), by repeat (first | exact Drawn0.refl _ | apply Drawn0.step)⟩
 rw [if_pos c4] at H
 have c4b0 : (a0 == 2) = true := beq_iff_eq.mpr c4
 have c4b1 : (a0 != 2) = false := bne_eq_false_iff_eq.mpr c4
 clear c4
 obtain ⟨t352, A5, H⟩ := bs_ H
 obtain ⟨t353, A6, H⟩ := bs_ H
 obtain ⟨t354, A7, H⟩ := bs_ H
 obtain ⟨t355, A8, H⟩ := bs_ H
 by_cases c9 : t355 = 0
 rotate_left
 ·rw [if_neg c9] at H
  have c9b0 : (t355 == 0) = false := beq_eq_false_iff_ne.mpr c9
  have c9b1 : (t355 != 0) = true := bne_iff_ne.mpr c9
  obtain rfl := Option.some.inj H
  go_enter Try.func89, Try.ntmps89
  go_wp2_with (first | ((with_reducible refine gate_callee (f := 90) rfl ?_); refine gl_ (some 8) Try.func90 #[.int .i64 a1] ?_; (with_reducible refine (computusref06_Golden.calls a1 t351 _ A3.out).mono ?_); rintro e w' ⟨rfl, ⟨nd, rfl⟩⟩; refine ⟨_, rfl, ?_⟩) | ((with_reducible refine gate_callee (f := 90) rfl ?_); refine gl_ (some 14) Try.func90 #[.int .i64 a1] ?_; (with_reducible refine (computusref06_Golden.calls a1 t352 _ A5.out).mono ?_); rintro e w' ⟨rfl, ⟨nd, rfl⟩⟩; refine ⟨_, rfl, ?_⟩) | ((with_reducible refine gate_callee (f := 92) rfl ?_); refine gl_ (some 18) Try.func92 #[.int .i64 a1] ?_; (with_reducible refine (computusref06_Lunar.calls a1 t353 _ A6.out).mono ?_); rintro e w' ⟨rfl, ⟨nd, rfl⟩⟩; refine ⟨_, rfl, ?_⟩) | ((with_reducible refine gate_callee (f := 93) rfl ?_); refine gl_ (some 21) Try.func93 #[.int .i64 a1] ?_; (with_reducible refine (computusref06_Solar.calls a1 t354 _ A7.out).mono ?_); rintro e w' ⟨rfl, ⟨nd, rfl⟩⟩; refine ⟨_, rfl, ?_⟩) | ((with_reducible refine gate_callee (f := 58) rfl ?_); refine gl_ (some 24) Try.func58 #[.int .i64 (wrap64 ((wrap64 ((wrap64 ((wrap64 (11 * t352)) + 20)) + t353)) - t354)), .int .i64 30] ?_; (with_reducible refine (computusref01_Mod.calls (wrap64 ((wrap64 ((wrap64 ((wrap64 (11 * t352)) + 20)) + t353)) - t354)) 30 t355 _ A8.out).mono ?_); rintro e w' ⟨rfl, ⟨nd, rfl⟩⟩; refine ⟨_, rfl, ?_⟩))
  go_ret
  exact ⟨by first | rfl | (simp; done) | (simp [*]; done), by repeat (first | exact Drawn0.refl _ | apply Drawn0.step)⟩
 rw [if_pos c9] at H
 have c9b0 : (t355 == 0) = true := beq_iff_eq.mpr c9
 have c9b1 : (t355 != 0) = false := bne_eq_false_iff_eq.mpr c9
 clear c9
 obtain rfl := Option.some.inj H
 go_enter Try.func89, Try.ntmps89
 go_wp2_with (first | ((with_reducible refine gate_callee (f := 90) rfl ?_); refine gl_ (some 8) Try.func90 #[.int .i64 a1] ?_; (with_reducible refine (computusref06_Golden.calls a1 t351 _ A3.out).mono ?_); rintro e w' ⟨rfl, ⟨nd, rfl⟩⟩; refine ⟨_, rfl, ?_⟩) | ((with_reducible refine gate_callee (f := 90) rfl ?_); refine gl_ (some 14) Try.func90 #[.int .i64 a1] ?_; (with_reducible refine (computusref06_Golden.calls a1 t352 _ A5.out).mono ?_); rintro e w' ⟨rfl, ⟨nd, rfl⟩⟩; refine ⟨_, rfl, ?_⟩) | ((with_reducible refine gate_callee (f := 92) rfl ?_); refine gl_ (some 18) Try.func92 #[.int .i64 a1] ?_; (with_reducible refine (computusref06_Lunar.calls a1 t353 _ A6.out).mono ?_); rintro e w' ⟨rfl, ⟨nd, rfl⟩⟩; refine ⟨_, rfl, ?_⟩) | ((with_reducible refine gate_callee (f := 93) rfl ?_); refine gl_ (some 21) Try.func93 #[.int .i64 a1] ?_; (with_reducible refine (computusref06_Solar.calls a1 t354 _ A7.out).mono ?_); rintro e w' ⟨rfl, ⟨nd, rfl⟩⟩; refine ⟨_, rfl, ?_⟩) | ((with_reducible refine gate_callee (f := 58) rfl ?_); refine gl_ (some 24) Try.func58 #[.int .i64 (wrap64 ((wrap64 ((wrap64 ((wrap64 (11 * t352)) + 20)) + t353)) - t354)), .int .i64 30] ?_; (with_reducible refine (computusref01_Mod.calls (wrap64 ((wrap64 ((wrap64 ((wrap64 (11 * t352)) + 20)) + t353)) - t354)) 30 t355 _ A8.out).mono ?_); rintro e w' ⟨rfl, ⟨nd, rfl⟩⟩; refine ⟨_, rfl, ?_⟩))
 go_ret
 exact ⟨by first | rfl | (simp; done) | (simp [*]; done), by repeat (first | exact Drawn0.refl _ | apply Drawn0.step)⟩
def computusref07_Label.f (a0 : Int) (a1 : Int) : Option (Int) := (computusref07_Of.f a0 a1).bind fun t357 => (if t357 = 25 then ((computusref06_Golden.f a1).bind fun t358 => (if t358 > 11 then (some 31) else (some t357))) else (some t357))
theorem computusref07_Label.calls (a0 : Int) (a1 : Int) (r : Int) (w : World) (h : computusref07_Label.f a0 a1 = some r) :
  Calls Try.prog 87 #[.int .i64 a0, .int .i64 a1] w fun e w' => e = .returned (.int .i64 r) ∧ Drawn0 w w' := by
 have H := h
 clear h
 unfold computusref07_Label.f at H
 obtain ⟨t357, A3, H⟩ := bs_ H
 by_cases c4 : t357 = 25
 rotate_left
 ·rw [if_neg c4] at H
  have c4b0 : (t357 == 25) = false := beq_eq_false_iff_ne.mpr c4
  have c4b1 : (t357 != 25) = true := bne_iff_ne.mpr c4
  obtain rfl := Option.some.inj H
  go_enter Try.func87, Try.ntmps87
  go_wp2_with (first | ((with_reducible refine gate_callee (f := 89) rfl ?_); refine gl_ (some 8) Try.func89 #[.int .i64 a0, .int .i64 a1] ?_; (with_reducible refine (computusref07_Of.calls a0 a1 t357 _ A3.out).mono ?_); rintro e w' ⟨rfl, ⟨nd, rfl⟩⟩; refine ⟨_, rfl, ?_⟩))
  go_ret
  exact ⟨by first | rfl | (simp; done) | (simp [*]; done), by repeat (first | exact Drawn0.refl _ | apply Drawn0.step)⟩
 rw [if_pos c4] at H
 have c4b0 : (t357 == 25) = true := beq_iff_eq.mpr c4
 have c4b1 : (t357 != 25) = false := bne_eq_false_iff_eq.mpr c4
 clear c4
 obtain ⟨t358, A5, H⟩ := bs_ H
 by_cases c6 : t358 > 11
 ·rw [if_pos c6] at H
  have c6b0 : decide (11 < t358) = true := decide_eq_true c6
  clear c6
  obtain rfl := Option.some.inj H
  go_enter Try.func87, Try.ntmps87
  go_wp2_with (first | ((with_reducible refine gate_callee (f := 89) rfl ?_); refine gl_ (some 8) Try.func89 #[.int .i64 a0, .int .i64 a1] ?_; (with_reducible refine (computusref07_Of.calls a0 a1 t357 _ A3.out).mono ?_); rintro e w' ⟨rfl, ⟨nd, rfl⟩⟩; refine ⟨_, rfl, ?_⟩) | (go_at_call 90; (with_reducible refine (computusref06_Golden.calls a1 t358 _ A5.out).mono ?_); rintro e w' ⟨rfl, ⟨nd, rfl⟩⟩))
  go_ret
  exact ⟨by first | rfl | (simp; done) | (simp [*]; done), by repeat (first | exact Drawn0.refl _ | apply Drawn0.step)⟩
 rw [if_neg c6] at H
 have c6b0 : decide (11 < t358) = false := decide_eq_false c6
 clear c6
 obtain rfl := Option.some.inj H
 go_enter Try.func87, Try.ntmps87
 go_wp2_with (first | ((with_reducible refine gate_callee (f := 89) rfl ?_); refine gl_ (some 8) Try.func89 #[.int .i64 a0, .int .i64 a1] ?_; (with_reducible refine (computusref07_Of.calls a0 a1 t357 _ A3.out).mono ?_); rintro e w' ⟨rfl, ⟨nd, rfl⟩⟩; refine ⟨_, rfl, ?_⟩) | (go_at_call 90; (with_reducible refine (computusref06_Golden.calls a1 t358 _ A5.out).mono ?_); rintro e w' ⟨rfl, ⟨nd, rfl⟩⟩))
 go_ret
 exact ⟨by first | rfl | (simp; done) | (simp [*]; done), by repeat (first | exact Drawn0.refl _ | apply Drawn0.step)⟩
def computusref09_NewMoon.f (k : Nat) (a0 : Int) (a1_0 : Int) (a1_1 : Int) (a1_2 : Int) : Option (Bool) := (computusref07_Label.f a0 a1_0).bind fun t360 => ((computusref08_Bears.f k a1_1 a1_2 t360).bind fun t361 => (some t361))
def computusref09_NewMoon.T1 : Bool × List (List Nat × List Nat) := (true, [([], []), ([0], [0]), ([], []), ([2], [2]), ([], []), ([], []), ([5], [5]), ([4, 6], [4, 6]), ([1, 3, 7, 7], [1, 3, 7]), ([8, 8, 0, 1, 2, 3, 4, 5, 6, 7, 8], [8])])
def computusref09_NewMoon.B1 : List Nat := [0, 1, 0, 4, 0, 0, 32, 112, 255, 511]
theorem computusref09_NewMoon.tab1 : rtab .any (opsOf Try.f79 1) = computusref09_NewMoon.T1 := by kernel_rfl
theorem computusref09_NewMoon.bits1 : waitsOk computusref09_NewMoon.T1.2 computusref09_NewMoon.B1 = true := by kernel_rfl
theorem computusref09_NewMoon.calls (k : Nat) (a0 : Int) (a1_0 : Int) (a1_1 : Int) (a1_2 : Int) (r : Bool) (w : World) (h : computusref09_NewMoon.f k a0 a1_0 a1_1 a1_2 = some r) :
  Calls Try.prog 79 #[.int .i64 a0, .agg #[.int .i64 a1_0, .int .i64 a1_1, .int .i64 a1_2]] w fun e w' => e = .returned (.bool r) ∧ Below w.heap.size w w' := by
 have hu98 := Try.underlying98
 have HB := am_ (Below.refl w.heap.size w)
 have H := h
 clear h
 unfold computusref09_NewMoon.f at H
 obtain ⟨t360, A3, H⟩ := bs_ H
 obtain ⟨t361, A4, H⟩ := bs_ H
 obtain rfl := Option.some.inj H
 go_enter Try.func79, Try.ntmps79
 try go_wp2_with (first | ((with_reducible refine gate_dst (N := 3) rfl ?_); refine bx_ (w := w) (N := 3) (cs := #[.int .i64 a1_0, .int .i64 a1_1, .int .i64 a1_2]) (t := 98) ?_; intro gb359 w5 BK359 n0_ GW359 GE359; clear HB; have HB := n0_; clear n0_))
 replace BK359 := am_ (blk_drew BK359.out)
 replace HB := am_ (below_drew1 HB.out)
 refine start_ (n := 10) (S := fun w' => w'.cell? ⟨gb359, 0, none⟩ = some (.int .i64 a1_0) ∧ w'.cell? ⟨gb359, 1, none⟩ = some (.int .i64 a1_1) ∧ w'.cell? ⟨gb359, 2, none⟩ = some (.int .i64 a1_2)) (ds := []) (bf_ 10 0) (by kernel_rfl) rfl rfl (cz3_ BK359.out) (fun hHeld => ?_); refine with_tabW computusref09_NewMoon.tab1 computusref09_NewMoon.bits1 (fun HT_ HW_ => ?_)
 generalize w5.drew = w6 at BK359 HB hHeld ⊢
 refine pu_ 0 (some 5) (bf_ 10 1) HT_.out ?_
 refine pu_ 2 (some 7) (bf_ 10 5) HT_.out ?_
 refine pu_ 4 (some 9) (bf_ 10 21) HT_.out ?_
 refine pu_ 5 (some 10) (bf_ 10 53) HT_.out ?_
 refine ta_ 1 (some 6) (bf_ 10 55) HT_.out HW_.out hHeld ?_
 refine ta_ 3 (some 8) (bf_ 10 63) HT_.out HW_.out hHeld ?_
 refine ta_ 6 (some 11) (bf_ 10 127) HT_.out HW_.out hHeld ?_
 refine one_ (i := 7) (N := some 12) (bf_ 10 255) rfl rfl (one_of HT_.out (by kernel_rfl)) (by decide) (fun K hK => ?_)
 refine gs_ Try.func87 #[.int .i64 a0, .int .i64 a1_0] ?_
 with_reducible refine (computusref07_Label.calls a0 a1_0 t360 _ A3.out).mono ?_
 rintro e w' ⟨rfl, ⟨nd, rfl⟩⟩
 refine ⟨_, rfl, ?_⟩
 refine hK.out _ _ (by first | exact (cz3_ BK359.out) | exact hHeld) (fun hHeld => ?_)
 clear hK K
 refine norm_ (a' := ?_) ?_ ?_
 rotate_left
 ·show Act.put _ (some 12) _ = _
  simp only [Act.put, sA_, sZ_, sS_, i64_w, i32_w]
  rfl
 refine one_ (i := 8) (N := some 13) (bf_ 10 511) rfl rfl (one_of HT_.out (by kernel_rfl)) (by decide) (fun K hK => ?_)
 refine gs_ Try.func86 #[.int .i64 a1_1, .int .i64 a1_2, .int .i64 t360] ?_
 with_reducible refine (computusref08_Bears.calls k a1_1 a1_2 t360 t361 _ A4.out).mono ?_
 rintro e w7 ⟨rfl, hb⟩
 refine ⟨_, rfl, ?_⟩
 replace BK359 := bw_ BK359 hb
 replace HB := bt_ hb
 (try clear hb)
 (try clear hb2)
 (try clear hk)
 (try clear hi)
 refine hK.out _ _ (by first | exact (cz3_ BK359.out) | exact hHeld) (fun hHeld => ?_)
 clear hK K
 refine norm_ (a' := ?_) ?_ ?_
 rotate_left
 ·show Act.put _ (some 13) _ = _
  simp only [Act.put, sA_, sZ_, sS_, i64_w, i32_w]
  rfl
 refine pu_ 9 (some 4) (bf_ 10 1023) HT_.out ?_
 refine done_ (done_of HT_.out (by kernel_rfl)) ?_
 try go_wp2
 go_ret
 exact rt_
def computusref09_FullMoon.l0 : Nat → Int → Int → Int → Option (Int × Int × Int)
 | 0, _, _, _ => none
 | k + 1, x0, x6, x8 => if x8 < 40 then ((computusref05_FromDay.f k x0 (wrap64 (x6 - 13))).bind fun bt371 => ((computusref09_NewMoon.f k x0 bt371.1 bt371.2.1 bt371.2.2.1).bind fun t376 => (if t376 = true then ((computusref05_FromDay.f k x0 x6).bind fun bt377 => (some (bt377.1, bt377.2.1, bt377.2.2.1))) else (computusref09_FullMoon.l0 k x0 (wrap64 (x6 + 1)) (wrap64 (x8 + 1)))))) else ((computusref05_FromDay.f k x0 x6).bind fun bt366 => (some (bt366.1, bt366.2.1, bt366.2.2.1)))
def computusref09_FullMoon.f (k : Nat) (a0 : Int) (a1 : Int) : Option (Int × Int × Int) := (computusref05_ToDay.f k a0 a1 3 21).bind fun bt364 => (computusref09_FullMoon.l0 k a0 bt364.1 0)
theorem computusref09_FullMoon.calls (k : Nat) (a0 : Int) (a1 : Int) (r1 : Int) (r2 : Int) (r3 : Int) (w : World) (h : computusref09_FullMoon.f k a0 a1 = some (r1, r2, r3)) :
  Calls Try.prog 68 #[.int .i64 a0, .int .i64 a1] w fun e w' => e = .returned (.agg #[.int .i64 r1, .int .i64 r2, .int .i64 r3]) ∧ Below w.heap.size w w' := by
 have hu98 := Try.underlying98
 have HB := am_ (Below.refl w.heap.size w)
 have H := h
 clear h
 unfold computusref09_FullMoon.f at H
 obtain ⟨⟨t364, t365⟩, A3, H⟩ := bs_ H
 dsimp only at H
 have H' := am_ H
 clear H
 go_enter Try.func68, Try.ntmps68
 go_wp2_with (first | ((with_reducible refine gate_dst (N := 4) rfl ?_); refine bx_ (w := w) (N := 4) (cs := #[.int .i64 0, .int .i64 0, .int .i64 0]) (t := 98) ?_; intro gb362 w4 BK362 n0_ GW362 GE362; clear HB; have HB := n0_; clear n0_) | ((with_reducible refine gate_dst (N := 5) rfl ?_); refine be_ (N := 5) (cs := #[.int .i64 0, .int .i64 0, .int .i64 0]) (t := 98) ?_; intro gb363 hg w5 hbox hb; have BK363 := am_ (hbox); have GW363 := gw_ (w := w) hg; have GE363 := gw_ (w := w) hg; replace HB := bt_ hb; have NB362_363 := ne_ hg BK362; have NB363_362 := nf_ hg BK362; replace BK362 := bw_ BK362 hb; clear hb hbox hg; have hnb6 := NB363_362.out; have hnc6 := NB362_363.out; obtain ⟨hcz7_0, hcz7_1, hcz7_2⟩ := cz3_ BK363.out; obtain ⟨hfz7_0, hfz7_1, hfz7_2⟩ := fz3_ BK363.out) | ((with_reducible refine gate_callee (f := 67) rfl ?_); refine gl_ (some 18) Try.func67 #[.int .i64 a0, .agg #[.int .i64 a1, .int .i64 3, .int .i64 21]] ?_; (with_reducible refine (computusref05_ToDay.calls k a0 a1 3 21 t364 t365 _ A3.out).mono ?_); rintro e w8 ⟨rfl, hb⟩; refine ⟨_, rfl, ?_⟩; replace BK362 := am_ (blk_below (g := gb362) (o := .cells #[.int .i64 0, .int .i64 0, .int .i64 0] 98 (0, 0)) (by refine bp_ ?_; refine blk_far ?_ NB362_363.out _; refine bp_ ?_; refine blk_far ?_ NB362_363.out _; refine bp_ ?_; refine blk_far ?_ NB362_363.out _; exact bk_ BK362.out) hb); replace BK363 := am_ (blk_below (g := gb363) (o := .cells #[.int .i64 a1, .int .i64 3, .int .i64 21] 98 (0, 0)) (by refine bp_ ?_; refine blk_put (cs := #[.int .i64 a1, .int .i64 3, .int .i64 0]) ?_ 2 _ rfl; refine bp_ ?_; refine blk_put (cs := #[.int .i64 a1, .int .i64 0, .int .i64 0]) ?_ 1 _ rfl; refine bp_ ?_; refine blk_put (cs := #[.int .i64 0, .int .i64 0, .int .i64 0]) ?_ 0 _ rfl; exact bk_ BK363.out) hb); replace HB := bt_ hb; (try clear hb); (try clear hi)))
 go_loopg [6, 8] k (fun kq v6 v8 w' => ∃ (x6_1 : Int) (x8_1 : Int), v6 = .int .i64 x6_1 ∧ v8 = .int .i64 x8_1 ∧ Aside0 (computusref09_FullMoon.l0 kq a0 x6_1 x8_1 = some (r1, r2, r3)) ∧ Aside0 (kq ≤ k) ∧ Aside0 (w'.heap[gb362]? = some (.cells #[.int .i64 0, .int .i64 0, .int .i64 0] 98 (0, 0))) ∧ Aside0 (w'.heap[gb363]? = some (.cells #[.int .i64 a1, .int .i64 3, .int .i64 21] 98 (0, 0))) ∧ Aside0 (Below w.heap.size w w'))
 case atStart => exact ⟨(t364), (0), rs_, rs_, H', ⟨Nat.le_refl _⟩, ⟨bk_ BK362.out⟩, ⟨bk_ BK363.out⟩, ⟨bh_⟩⟩
 case round =>
  clear H'
  obtain ⟨x6_1, x8_1, rfl, rfl, HA, HK1, BK362, BK363, HB⟩ := hrel
  cases gk with
  | zero => exact absurd HA.out (by simp [computusref09_FullMoon.l0])
  | succ k1 =>
   have H := HA.out
   clear HA
   simp only [computusref09_FullMoon.l0] at H
   by_cases c9 : x8_1 < 40
   rotate_left
   ·rw [if_neg c9] at H
    have c9b0 : decide (x8_1 < 40) = false := decide_eq_false c9
    clear c9
    obtain ⟨⟨t366, t367, t368, t369⟩, A34, H⟩ := bs_ H
    dsimp only at H
    simp only [Option.some.injEq, Prod.mk.injEq] at H
    obtain ⟨rfl, rfl, rfl⟩ := H
    go_wp2_with (first | ((with_reducible refine gate_callee (f := 78) rfl ?_); refine gl_ (some 40) Try.func78 #[.int .i64 a0, .int .i64 x6_1] ?_; (with_reducible refine (computusref05_FromDay.calls k1 a0 x6_1 t366 t367 t368 t369 _ A34.out).mono ?_); rintro e w35 ⟨rfl, hb⟩; refine ⟨_, rfl, ?_⟩; replace BK362 := bw_ BK362 hb; replace BK363 := bw_ BK363 hb; replace HB := bt_ hb; (try clear hb); (try clear hi)) | ((with_reducible refine gate_dst (N := 11) rfl ?_); refine be_ (N := 11) (cs := #[.int .i64 0, .int .i64 0, .int .i64 0]) (t := 98) ?_; intro gb370 hg w36 hbox hb; have BK370 := am_ (hbox); have GW370 := gw_ (w := w) hg; have GE370 := gw_ (w := w) hg; replace HB := bt_ hb; have NB362_370 := ne_ hg BK362; have NB370_362 := nf_ hg BK362; replace BK362 := bw_ BK362 hb; have NB363_370 := ne_ hg BK363; have NB370_363 := nf_ hg BK363; replace BK363 := bw_ BK363 hb; clear hb hbox hg; have hnb37 := NB370_362.out; have hnc37 := NB362_370.out; have hnb38 := NB370_363.out; have hnc38 := NB363_370.out; obtain ⟨hcz39_0, hcz39_1, hcz39_2⟩ := cz3_ BK370.out; obtain ⟨hfz39_0, hfz39_1, hfz39_2⟩ := fz3_ BK370.out; have hnb40 := NB362_363.out; have hnc40 := NB363_362.out; obtain ⟨hcz41_0, hcz41_1, hcz41_2⟩ := cz3_ BK362.out; obtain ⟨hfz41_0, hfz41_1, hfz41_2⟩ := fz3_ BK362.out))
    refine bodyPost_ret (results_cell_row rfl _ _ gb362 98 #[.int .i64 t366, .int .i64 t367, .int .i64 t368] (0, 0) _ rfl (by refine bp_ ?_; refine blk_put (cs := #[.int .i64 t366, .int .i64 t367, .int .i64 0]) ?_ 2 _ rfl; refine bp_ ?_; refine blk_put (cs := #[.int .i64 t366, .int .i64 0, .int .i64 0]) ?_ 1 _ rfl; refine bp_ ?_; refine blk_put (cs := #[.int .i64 0, .int .i64 0, .int .i64 0]) ?_ 0 _ rfl; refine bp_ ?_; refine blk_far ?_ NB362_370.out _; refine bp_ ?_; refine blk_far ?_ NB362_370.out _; refine bp_ ?_; refine blk_far ?_ NB362_370.out _; exact bk_ BK362.out) Try.underlying98 rfl (by kernel_rfl)) rfl ?_
    exact rt_
   rw [if_pos c9] at H
   have c9b0 : decide (x8_1 < 40) = true := decide_eq_true c9
   clear c9
   obtain ⟨⟨t371, t372, t373, t374⟩, A10, H⟩ := bs_ H
   dsimp only at H
   obtain ⟨t376, A11, H⟩ := bs_ H
   by_cases c12 : t376 = true
   rotate_left
   ·replace c12 := Bool.eq_false_iff.mpr c12
    subst c12
    replace H := if_ H
    have H' := am_ H
    clear H
    go_wp2_with (first | ((with_reducible refine gate_callee (f := 78) rfl ?_); refine gl_ (some 29) Try.func78 #[.int .i64 a0, .int .i64 (wrap64 (x6_1 - 13))] ?_; (with_reducible refine (computusref05_FromDay.calls k1 a0 (wrap64 (x6_1 - 13)) t371 t372 t373 t374 _ A10.out).mono ?_); rintro e w28 ⟨rfl, hb⟩; refine ⟨_, rfl, ?_⟩; replace BK362 := bw_ BK362 hb; replace BK363 := bw_ BK363 hb; replace HB := bt_ hb; (try clear hb); (try clear hi)) | ((with_reducible refine gate_dst (N := 9) rfl ?_); refine be_ (N := 9) (cs := #[.int .i64 0, .int .i64 0, .int .i64 0]) (t := 98) ?_; intro gb375 hg w29 hbox hb; have BK375 := am_ (hbox); have GW375 := gw_ (w := w) hg; have GE375 := gw_ (w := w) hg; replace HB := bt_ hb; have NB362_375 := ne_ hg BK362; have NB375_362 := nf_ hg BK362; replace BK362 := bw_ BK362 hb; have NB363_375 := ne_ hg BK363; have NB375_363 := nf_ hg BK363; replace BK363 := bw_ BK363 hb; clear hb hbox hg; have hnb30 := NB375_362.out; have hnc30 := NB362_375.out; have hnb31 := NB375_363.out; have hnc31 := NB363_375.out; obtain ⟨hcz32_0, hcz32_1, hcz32_2⟩ := cz3_ BK375.out; obtain ⟨hfz32_0, hfz32_1, hfz32_2⟩ := fz3_ BK375.out) | ((with_reducible refine gate_callee (f := 79) rfl ?_); refine gl_ (some 34) Try.func79 #[.int .i64 a0, .agg #[.int .i64 t371, .int .i64 t372, .int .i64 t373]] ?_; (with_reducible refine (computusref09_NewMoon.calls k1 a0 t371 t372 t373 false _ A11.out).mono ?_); rintro e w33 ⟨rfl, hb⟩; refine ⟨_, rfl, ?_⟩; replace BK362 := am_ (blk_below (g := gb362) (o := .cells #[.int .i64 0, .int .i64 0, .int .i64 0] 98 (0, 0)) (by refine bp_ ?_; refine blk_far ?_ NB362_375.out _; refine bp_ ?_; refine blk_far ?_ NB362_375.out _; refine bp_ ?_; refine blk_far ?_ NB362_375.out _; exact bk_ BK362.out) hb); replace BK363 := am_ (blk_below (g := gb363) (o := .cells #[.int .i64 a1, .int .i64 3, .int .i64 21] 98 (0, 0)) (by refine bp_ ?_; refine blk_far ?_ NB363_375.out _; refine bp_ ?_; refine blk_far ?_ NB363_375.out _; refine bp_ ?_; refine blk_far ?_ NB363_375.out _; exact bk_ BK363.out) hb); replace BK375 := am_ (blk_below (g := gb375) (o := .cells #[.int .i64 t371, .int .i64 t372, .int .i64 t373] 98 (0, 0)) (by refine bp_ ?_; refine blk_put (cs := #[.int .i64 t371, .int .i64 t372, .int .i64 0]) ?_ 2 _ rfl; refine bp_ ?_; refine blk_put (cs := #[.int .i64 t371, .int .i64 0, .int .i64 0]) ?_ 1 _ rfl; refine bp_ ?_; refine blk_put (cs := #[.int .i64 0, .int .i64 0, .int .i64 0]) ?_ 0 _ rfl; exact bk_ BK375.out) hb); replace HB := bt_ hb; (try clear hb); (try clear hi)))
    go_roundg k1
    case measure => have := HK1.out; omega
    case rel => exact ⟨(wrap64 (x6_1 + 1)), (wrap64 (x8_1 + 1)), rs_, rs_, H', ⟨by have := HK1.out; omega⟩, ⟨bk_ BK362.out⟩, ⟨bk_ BK363.out⟩, ⟨bh_⟩⟩
   subst c12
   replace H := it_ H
   obtain ⟨⟨t377, t378, t379, t380⟩, A13, H⟩ := bs_ H
   dsimp only at H
   simp only [Option.some.injEq, Prod.mk.injEq] at H
   obtain ⟨rfl, rfl, rfl⟩ := H
   go_wp2_with (first | ((with_reducible refine gate_callee (f := 78) rfl ?_); refine gl_ (some 29) Try.func78 #[.int .i64 a0, .int .i64 (wrap64 (x6_1 - 13))] ?_; (with_reducible refine (computusref05_FromDay.calls k1 a0 (wrap64 (x6_1 - 13)) t371 t372 t373 t374 _ A10.out).mono ?_); rintro e w14 ⟨rfl, hb⟩; refine ⟨_, rfl, ?_⟩; replace BK362 := bw_ BK362 hb; replace BK363 := bw_ BK363 hb; replace HB := bt_ hb; (try clear hb); (try clear hi)) | ((with_reducible refine gate_dst (N := 9) rfl ?_); refine be_ (N := 9) (cs := #[.int .i64 0, .int .i64 0, .int .i64 0]) (t := 98) ?_; intro gb375 hg w15 hbox hb; have BK375 := am_ (hbox); have GW375 := gw_ (w := w) hg; have GE375 := gw_ (w := w) hg; replace HB := bt_ hb; have NB362_375 := ne_ hg BK362; have NB375_362 := nf_ hg BK362; replace BK362 := bw_ BK362 hb; have NB363_375 := ne_ hg BK363; have NB375_363 := nf_ hg BK363; replace BK363 := bw_ BK363 hb; clear hb hbox hg; have hnb16 := NB375_362.out; have hnc16 := NB362_375.out; have hnb17 := NB375_363.out; have hnc17 := NB363_375.out; obtain ⟨hcz18_0, hcz18_1, hcz18_2⟩ := cz3_ BK375.out; obtain ⟨hfz18_0, hfz18_1, hfz18_2⟩ := fz3_ BK375.out) | ((with_reducible refine gate_callee (f := 79) rfl ?_); refine gl_ (some 34) Try.func79 #[.int .i64 a0, .agg #[.int .i64 t371, .int .i64 t372, .int .i64 t373]] ?_; (with_reducible refine (computusref09_NewMoon.calls k1 a0 t371 t372 t373 true _ A11.out).mono ?_); rintro e w19 ⟨rfl, hb⟩; refine ⟨_, rfl, ?_⟩; replace BK362 := am_ (blk_below (g := gb362) (o := .cells #[.int .i64 0, .int .i64 0, .int .i64 0] 98 (0, 0)) (by refine bp_ ?_; refine blk_far ?_ NB362_375.out _; refine bp_ ?_; refine blk_far ?_ NB362_375.out _; refine bp_ ?_; refine blk_far ?_ NB362_375.out _; exact bk_ BK362.out) hb); replace BK363 := am_ (blk_below (g := gb363) (o := .cells #[.int .i64 a1, .int .i64 3, .int .i64 21] 98 (0, 0)) (by refine bp_ ?_; refine blk_far ?_ NB363_375.out _; refine bp_ ?_; refine blk_far ?_ NB363_375.out _; refine bp_ ?_; refine blk_far ?_ NB363_375.out _; exact bk_ BK363.out) hb); replace BK375 := am_ (blk_below (g := gb375) (o := .cells #[.int .i64 t371, .int .i64 t372, .int .i64 t373] 98 (0, 0)) (by refine bp_ ?_; refine blk_put (cs := #[.int .i64 t371, .int .i64 t372, .int .i64 0]) ?_ 2 _ rfl; refine bp_ ?_; refine blk_put (cs := #[.int .i64 t371, .int .i64 0, .int .i64 0]) ?_ 1 _ rfl; refine bp_ ?_; refine blk_put (cs := #[.int .i64 0, .int .i64 0, .int .i64 0]) ?_ 0 _ rfl; exact bk_ BK375.out) hb); replace HB := bt_ hb; (try clear hb); (try clear hi)) | ((with_reducible refine gate_callee (f := 78) rfl ?_); refine gl_ (some 40) Try.func78 #[.int .i64 a0, .int .i64 x6_1] ?_; (with_reducible refine (computusref05_FromDay.calls k1 a0 x6_1 t377 t378 t379 t380 _ A13.out).mono ?_); rintro e w20 ⟨rfl, hb⟩; refine ⟨_, rfl, ?_⟩; replace BK362 := bw_ BK362 hb; replace BK363 := bw_ BK363 hb; replace BK375 := bw_ BK375 hb; replace HB := bt_ hb; (try clear hb); (try clear hi)) | ((with_reducible refine gate_dst (N := 11) rfl ?_); refine be_ (N := 11) (cs := #[.int .i64 0, .int .i64 0, .int .i64 0]) (t := 98) ?_; intro gb381 hg w21 hbox hb; have BK381 := am_ (hbox); have GW381 := gw_ (w := w) hg; have GE381 := gw_ (w := w) hg; replace HB := bt_ hb; have NB362_381 := ne_ hg BK362; have NB381_362 := nf_ hg BK362; replace BK362 := bw_ BK362 hb; have NB363_381 := ne_ hg BK363; have NB381_363 := nf_ hg BK363; replace BK363 := bw_ BK363 hb; have NB375_381 := ne_ hg BK375; have NB381_375 := nf_ hg BK375; replace BK375 := bw_ BK375 hb; clear hb hbox hg; have hnb22 := NB381_362.out; have hnc22 := NB362_381.out; have hnb23 := NB381_363.out; have hnc23 := NB363_381.out; have hnb24 := NB381_375.out; have hnc24 := NB375_381.out; obtain ⟨hcz25_0, hcz25_1, hcz25_2⟩ := cz3_ BK381.out; obtain ⟨hfz25_0, hfz25_1, hfz25_2⟩ := fz3_ BK381.out; have hnb26 := NB362_363.out; have hnc26 := NB363_362.out; obtain ⟨hcz27_0, hcz27_1, hcz27_2⟩ := cz3_ BK362.out; obtain ⟨hfz27_0, hfz27_1, hfz27_2⟩ := fz3_ BK362.out))
   refine bodyPost_ret (results_cell_row rfl _ _ gb362 98 #[.int .i64 t377, .int .i64 t378, .int .i64 t379] (0, 0) _ rfl (by refine bp_ ?_; refine blk_put (cs := #[.int .i64 t377, .int .i64 t378, .int .i64 0]) ?_ 2 _ rfl; refine bp_ ?_; refine blk_put (cs := #[.int .i64 t377, .int .i64 0, .int .i64 0]) ?_ 1 _ rfl; refine bp_ ?_; refine blk_put (cs := #[.int .i64 0, .int .i64 0, .int .i64 0]) ?_ 0 _ rfl; refine bp_ ?_; refine blk_far ?_ NB362_381.out _; refine bp_ ?_; refine blk_far ?_ NB362_381.out _; refine bp_ ?_; refine blk_far ?_ NB362_381.out _; exact bk_ BK362.out) Try.underlying98 rfl (by kernel_rfl)) rfl ?_
   exact rt_
def computusref10_Day.l0 : Nat → Int → Option (Int)
 | 0, _ => none
 | k + 1, x5 => (computusref04_Of.f x5).bind fun t387 => (if t387 = 0 then (some x5) else (computusref10_Day.l0 k (wrap64 (x5 + 1))))
def computusref10_Day.f (k : Nat) (a0 : Int) (a1 : Int) : Option (Int) := (computusref09_FullMoon.f k a0 a1).bind fun bt382 => ((computusref05_ToDay.f k a0 bt382.1 bt382.2.1 bt382.2.2).bind fun bt385 => (computusref10_Day.l0 k (wrap64 (bt385.1 + 1))))
theorem computusref10_Day.calls (k : Nat) (a0 : Int) (a1 : Int) (r : Int) (w : World) (h : computusref10_Day.f k a0 a1 = some r) :
  Calls Try.prog 59 #[.int .i64 a0, .int .i64 a1] w fun e w' => e = .returned (.int .i64 r) ∧ Below w.heap.size w w' := by
 have HB := am_ (Below.refl w.heap.size w)
 have H := h
 clear h
 unfold computusref10_Day.f at H
 obtain ⟨⟨t382, t383, t384⟩, A3, H⟩ := bs_ H
 dsimp only at H
 obtain ⟨⟨t385, t386⟩, A4, H⟩ := bs_ H
 dsimp only at H
 have H' := am_ H
 clear H
 go_enter Try.func59, Try.ntmps59
 go_wp2_with (first | ((with_reducible refine gate_callee (f := 68) rfl ?_); refine gl_ (some 11) Try.func68 #[.int .i64 a0, .int .i64 a1] ?_; (with_reducible refine (computusref09_FullMoon.calls k a0 a1 t382 t383 t384 _ A3.out).mono ?_); rintro e w5 ⟨rfl, hb⟩; refine ⟨_, rfl, ?_⟩; replace HB := bt_ hb; (try clear hb); (try clear hi)) | ((with_reducible refine gate_callee (f := 67) rfl ?_); refine gl_ (some 12) Try.func67 #[.int .i64 a0, .agg #[.int .i64 t382, .int .i64 t383, .int .i64 t384]] ?_; (with_reducible refine (computusref05_ToDay.calls k a0 t382 t383 t384 t385 t386 _ A4.out).mono ?_); rintro e w6 ⟨rfl, hb⟩; refine ⟨_, rfl, ?_⟩; replace HB := bt_ hb; (try clear hb); (try clear hi)))
 go_loopg [5] k (fun kq v5 w' => ∃ (x5_1 : Int), v5 = .int .i64 x5_1 ∧ Aside0 (computusref10_Day.l0 kq x5_1 = some r) ∧ Aside0 (kq ≤ k) ∧ Aside0 (Below w.heap.size w w'))
 case atStart => exact ⟨(wrap64 (t385 + 1)), rs_, H', ⟨Nat.le_refl _⟩, ⟨bh_⟩⟩
 case round =>
  clear H'
  obtain ⟨x5_1, rfl, HA, HK1, HB⟩ := hrel
  cases gk with
  | zero => exact absurd HA.out (by simp [computusref10_Day.l0])
  | succ k1 =>
   have H := HA.out
   clear HA
   simp only [computusref10_Day.l0] at H
   obtain ⟨t387, A7, H⟩ := bs_ H
   by_cases c8 : t387 = 0
   ·rw [if_pos c8] at H
    have c8b0 : (t387 == 0) = true := beq_iff_eq.mpr c8
    have c8b1 : (t387 != 0) = false := bne_eq_false_iff_eq.mpr c8
    clear c8
    obtain rfl := Option.some.inj H
    go_wp2_with (first | ((with_reducible refine gate_callee (f := 47) rfl ?_); refine gl_ (some 18) Try.func47 #[.int .i64 x5_1] ?_; (with_reducible refine (computusref04_Of.calls x5_1 t387 _ A7.out).mono ?_); rintro e w' ⟨rfl, ⟨nd, rfl⟩⟩; refine ⟨_, rfl, ?_⟩))
    go_ret
    exact rt_
   rw [if_neg c8] at H
   have c8b0 : (t387 == 0) = false := beq_eq_false_iff_ne.mpr c8
   have c8b1 : (t387 != 0) = true := bne_iff_ne.mpr c8
   have H' := am_ H
   clear H
   go_wp2_with (first | ((with_reducible refine gate_callee (f := 47) rfl ?_); refine gl_ (some 18) Try.func47 #[.int .i64 x5_1] ?_; (with_reducible refine (computusref04_Of.calls x5_1 t387 _ A7.out).mono ?_); rintro e w' ⟨rfl, ⟨nd, rfl⟩⟩; refine ⟨_, rfl, ?_⟩))
   go_roundg k1
   case measure => have := HK1.out; omega
   case rel => exact ⟨(wrap64 (x5_1 + 1)), rs_, H', ⟨by have := HK1.out; omega⟩, ⟨bh_⟩⟩
def computusref04_fails.j0 : Nat → Int → Bool → Option (Int)
 | 0, _, _ => none
 | k + 1, x0, x10 => if x10 = true then (some 3) else (if x0 < (-1099511627776) then (some 1) else (if x0 > 1099511627776 then (some 1) else (some 0)))
def computusref04_fails.f (k : Nat) (a0 : Int) (a1 : Int) : Option (Int) := if a1 < 0 then (computusref04_fails.j0 k a0 true) else (computusref04_fails.j0 k a0 (decide (a1 > 6)))
theorem computusref04_fails.calls (k : Nat) (a0 : Int) (a1 : Int) (r : Int) (w : World) (h : computusref04_fails.f k a0 a1 = some r) :
  Calls Try.prog 80 #[.int .i64 a0, .int .i64 a1] w fun e w' => e = .returned (.int .i64 r) ∧ Drawn0 w w' := by
 have H := h
 clear h
 unfold computusref04_fails.f at H
 have HC3 := am_ H
 clear H
 go_enter Try.func80, Try.ntmps80
 go_upto_region 1 with (fail)
 go_cut [10] (fun v10 wc => ∃ (kq : Nat) (x10_2 : Bool), v10 = .bool x10_2 ∧ Aside0 (computusref04_fails.j0 kq a0 x10_2 = some r) ∧ Aside0 (kq ≤ k) ∧ Drawn0 w wc)
 case first =>
  have H := HC3.out
  clear HC3
  by_cases c4 : a1 < 0
  ·rw [if_pos c4] at H
   have c4b0 : decide (a1 < 0) = true := decide_eq_true c4
   clear c4
   (first | rw [c4b0] | (simp only [i64_w, i32_w]; rw [c4b0]) | skip)
   have H' := am_ H
   clear H
   go_wp2
   go_meet
   case rel => exact ⟨_, (true), rs_, H', ⟨by first | omega | exact Nat.le_refl _⟩, by repeat (first | exact Drawn0.refl _ | apply Drawn0.step)⟩
  rw [if_neg c4] at H
  have c4b0 : decide (a1 < 0) = false := decide_eq_false c4
  clear c4
  (first | rw [c4b0] | (simp only [i64_w, i32_w]; rw [c4b0]) | skip)
  have H' := am_ H
  clear H
  go_wp2
  go_meet
  case rel => exact ⟨_, (decide (a1 > 6)), rs_, H', ⟨by first | omega | exact Nat.le_refl _⟩, by repeat (first | exact Drawn0.refl _ | apply Drawn0.step)⟩
 case rest =>
  clear HC3
  obtain ⟨kq, x10_2, rfl, HA, HJ2, ⟨mc2, rfl⟩⟩ := hcut
  cases kq with
  | zero => exact absurd HA.out (by simp [computusref04_fails.j0])
  | succ kj2 =>
   have H := HA.out
   clear HA
   simp only [computusref04_fails.j0] at H
   by_cases c5 : x10_2 = true
   ·subst c5
    replace H := it_ H
    obtain rfl := Option.some.inj H
    go_wp2
    go_ret
    exact ⟨by first | rfl | (simp; done) | (simp [*]; done), by repeat (first | exact Drawn0.refl _ | apply Drawn0.step)⟩
   replace c5 := Bool.eq_false_iff.mpr c5
   subst c5
   replace H := if_ H
   by_cases c6 : a0 < (-1099511627776)
   ·rw [if_pos c6] at H
    have c6b0 : decide (a0 < (-1099511627776)) = true := decide_eq_true c6
    clear c6
    obtain rfl := Option.some.inj H
    go_wp2
    go_ret
    exact ⟨by first | rfl | (simp; done) | (simp [*]; done), by repeat (first | exact Drawn0.refl _ | apply Drawn0.step)⟩
   rw [if_neg c6] at H
   have c6b0 : decide (a0 < (-1099511627776)) = false := decide_eq_false c6
   clear c6
   by_cases c7 : a0 > 1099511627776
   ·rw [if_pos c7] at H
    have c7b0 : decide (1099511627776 < a0) = true := decide_eq_true c7
    clear c7
    obtain rfl := Option.some.inj H
    go_wp2
    go_ret
    exact ⟨by first | rfl | (simp; done) | (simp [*]; done), by repeat (first | exact Drawn0.refl _ | apply Drawn0.step)⟩
   rw [if_neg c7] at H
   have c7b0 : decide (1099511627776 < a0) = false := decide_eq_false c7
   clear c7
   obtain rfl := Option.some.inj H
   go_wp2
   go_ret
   exact ⟨by first | rfl | (simp; done) | (simp [*]; done), by repeat (first | exact Drawn0.refl _ | apply Drawn0.step)⟩
def computusref04_OnOrAfter.l0 : Nat → Int → Int → Option (Int × Int)
 | 0, _, _ => none
 | k + 1, x0, x1 => (computusref04_Of.f x0).bind fun t389 => (if t389 = x1 then (some (x0, 0)) else (computusref04_OnOrAfter.l0 k (wrap64 (x0 + 1)) x1))
def computusref04_OnOrAfter.f (k : Nat) (a0 : Int) (a1 : Int) : Option (Int × Int) := (computusref04_fails.f k a0 a1).bind fun t388 => (if t388 = 0 then (computusref04_OnOrAfter.l0 k a0 a1) else (some (0, t388)))
theorem computusref04_OnOrAfter.calls (k : Nat) (a0 : Int) (a1 : Int) (r1 : Int) (r2 : Int) (w : World) (h : computusref04_OnOrAfter.f k a0 a1 = some (r1, r2)) :
  Calls Try.prog 73 #[.int .i64 a0, .int .i64 a1] w fun e w' => e = .returned (.tuple #[.int .i64 r1, .int .i64 r2]) ∧ Drawn0 w w' := by
 have H := h
 clear h
 unfold computusref04_OnOrAfter.f at H
 obtain ⟨t388, A3, H⟩ := bs_ H
 by_cases c4 : t388 = 0
 rotate_left
 ·rw [if_neg c4] at H
  have c4b0 : (t388 == 0) = false := beq_eq_false_iff_ne.mpr c4
  have c4b1 : (t388 != 0) = true := bne_iff_ne.mpr c4
  simp only [Option.some.injEq, Prod.mk.injEq] at H
  obtain ⟨rfl, rfl⟩ := H
  go_enter Try.func73, Try.ntmps73
  go_wp2_with (first | ((with_reducible refine gate_callee (f := 80) rfl ?_); refine gl_ (some 9) Try.func80 #[.int .i64 a0, .int .i64 a1] ?_; (with_reducible refine (computusref04_fails.calls k a0 a1 t388 _ A3.out).mono ?_); rintro e w' ⟨rfl, ⟨nd, rfl⟩⟩; refine ⟨_, rfl, ?_⟩))
  go_ret2
  exact ⟨by first | rfl | (simp; done) | (simp [*]; done), by repeat (first | exact Drawn0.refl _ | apply Drawn0.step)⟩
 rw [if_pos c4] at H
 have c4b0 : (t388 == 0) = true := beq_iff_eq.mpr c4
 have c4b1 : (t388 != 0) = false := bne_eq_false_iff_eq.mpr c4
 clear c4
 have H' := am_ H
 clear H
 go_enter Try.func73, Try.ntmps73
 go_wp2_with (first | ((with_reducible refine gate_callee (f := 80) rfl ?_); refine gl_ (some 9) Try.func80 #[.int .i64 a0, .int .i64 a1] ?_; (with_reducible refine (computusref04_fails.calls k a0 a1 t388 _ A3.out).mono ?_); rintro e w' ⟨rfl, ⟨nd, rfl⟩⟩; refine ⟨_, rfl, ?_⟩))
 go_loopg [0] k (fun kq v0 w' => ∃ (x0_1 : Int), v0 = .int .i64 x0_1 ∧ Aside0 (computusref04_OnOrAfter.l0 kq x0_1 a1 = some (r1, r2)) ∧ Aside0 (kq ≤ k) ∧ Drawn0 w w')
 case atStart => exact ⟨(a0), rs_, H', ⟨Nat.le_refl _⟩, by repeat (first | exact Drawn0.refl _ | apply Drawn0.step)⟩
 case round =>
  clear H'
  obtain ⟨x0_1, rfl, HA, HK1, ⟨m1, rfl⟩⟩ := hrel
  cases gk with
  | zero => exact absurd HA.out (by simp [computusref04_OnOrAfter.l0])
  | succ k1 =>
   have H := HA.out
   clear HA
   simp only [computusref04_OnOrAfter.l0] at H
   obtain ⟨t389, A5, H⟩ := bs_ H
   by_cases c6 : t389 = a1
   ·rw [if_pos c6] at H
    have c6b0 : (t389 == a1) = true := beq_iff_eq.mpr c6
    have c6b1 : (t389 != a1) = false := bne_eq_false_iff_eq.mpr c6
    clear c6
    simp only [Option.some.injEq, Prod.mk.injEq] at H
    obtain ⟨rfl, rfl⟩ := H
    go_wp2_with (first | ((with_reducible refine gate_callee (f := 47) rfl ?_); refine gl_ (some 14) Try.func47 #[.int .i64 x0_1] ?_; (with_reducible refine (computusref04_Of.calls x0_1 t389 _ A5.out).mono ?_); rintro e w' ⟨rfl, ⟨nd, rfl⟩⟩; refine ⟨_, rfl, ?_⟩))
    go_ret2
    exact ⟨by first | rfl | (simp; done) | (simp [*]; done), by repeat (first | exact Drawn0.refl _ | apply Drawn0.step)⟩
   rw [if_neg c6] at H
   have c6b0 : (t389 == a1) = false := beq_eq_false_iff_ne.mpr c6
   have c6b1 : (t389 != a1) = true := bne_iff_ne.mpr c6
   have H' := am_ H
   clear H
   go_wp2_with (first | ((with_reducible refine gate_callee (f := 47) rfl ?_); refine gl_ (some 14) Try.func47 #[.int .i64 x0_1] ?_; (with_reducible refine (computusref04_Of.calls x0_1 t389 _ A5.out).mono ?_); rintro e w' ⟨rfl, ⟨nd, rfl⟩⟩; refine ⟨_, rfl, ?_⟩))
   go_roundg k1
   case measure => have := HK1.out; omega
   case rel => exact ⟨(wrap64 (x0_1 + 1)), rs_, H', ⟨by have := HK1.out; omega⟩, by repeat (first | exact Drawn0.refl _ | apply Drawn0.step)⟩
def computusref04_OnOrBefore.l0 : Nat → Int → Int → Option (Int × Int)
 | 0, _, _ => none
 | k + 1, x0, x1 => (computusref04_Of.f x0).bind fun t391 => (if t391 = x1 then (some (x0, 0)) else (computusref04_OnOrBefore.l0 k (wrap64 (x0 - 1)) x1))
def computusref04_OnOrBefore.f (k : Nat) (a0 : Int) (a1 : Int) : Option (Int × Int) := (computusref04_fails.f k a0 a1).bind fun t390 => (if t390 = 0 then (computusref04_OnOrBefore.l0 k a0 a1) else (some (0, t390)))
theorem computusref04_OnOrBefore.calls (k : Nat) (a0 : Int) (a1 : Int) (r1 : Int) (r2 : Int) (w : World) (h : computusref04_OnOrBefore.f k a0 a1 = some (r1, r2)) :
  Calls Try.prog 74 #[.int .i64 a0, .int .i64 a1] w fun e w' => e = .returned (.tuple #[.int .i64 r1, .int .i64 r2]) ∧ Drawn0 w w' := by
 have H := h
 clear h
 unfold computusref04_OnOrBefore.f at H
 obtain ⟨t390, A3, H⟩ := bs_ H
 by_cases c4 : t390 = 0
 rotate_left
 ·rw [if_neg c4] at H
  have c4b0 : (t390 == 0) = false := beq_eq_false_iff_ne.mpr c4
  have c4b1 : (t390 != 0) = true := bne_iff_ne.mpr c4
  simp only [Option.some.injEq, Prod.mk.injEq] at H
  obtain ⟨rfl, rfl⟩ := H
  go_enter Try.func74, Try.ntmps74
  go_wp2_with (first | ((with_reducible refine gate_callee (f := 80) rfl ?_); refine gl_ (some 9) Try.func80 #[.int .i64 a0, .int .i64 a1] ?_; (with_reducible refine (computusref04_fails.calls k a0 a1 t390 _ A3.out).mono ?_); rintro e w' ⟨rfl, ⟨nd, rfl⟩⟩; refine ⟨_, rfl, ?_⟩))
  go_ret2
  exact ⟨by first | rfl | (simp; done) | (simp [*]; done), by repeat (first | exact Drawn0.refl _ | apply Drawn0.step)⟩
 rw [if_pos c4] at H
 have c4b0 : (t390 == 0) = true := beq_iff_eq.mpr c4
 have c4b1 : (t390 != 0) = false := bne_eq_false_iff_eq.mpr c4
 clear c4
 have H' := am_ H
 clear H
 go_enter Try.func74, Try.ntmps74
 go_wp2_with (first | ((with_reducible refine gate_callee (f := 80) rfl ?_); refine gl_ (some 9) Try.func80 #[.int .i64 a0, .int .i64 a1] ?_; (with_reducible refine (computusref04_fails.calls k a0 a1 t390 _ A3.out).mono ?_); rintro e w' ⟨rfl, ⟨nd, rfl⟩⟩; refine ⟨_, rfl, ?_⟩))
 go_loopg [0] k (fun kq v0 w' => ∃ (x0_1 : Int), v0 = .int .i64 x0_1 ∧ Aside0 (computusref04_OnOrBefore.l0 kq x0_1 a1 = some (r1, r2)) ∧ Aside0 (kq ≤ k) ∧ Drawn0 w w')
 case atStart => exact ⟨(a0), rs_, H', ⟨Nat.le_refl _⟩, by repeat (first | exact Drawn0.refl _ | apply Drawn0.step)⟩
 case round =>
  clear H'
  obtain ⟨x0_1, rfl, HA, HK1, ⟨m1, rfl⟩⟩ := hrel
  cases gk with
  | zero => exact absurd HA.out (by simp [computusref04_OnOrBefore.l0])
  | succ k1 =>
   have H := HA.out
   clear HA
   simp only [computusref04_OnOrBefore.l0] at H
   obtain ⟨t391, A5, H⟩ := bs_ H
   by_cases c6 : t391 = a1
   ·rw [if_pos c6] at H
    have c6b0 : (t391 == a1) = true := beq_iff_eq.mpr c6
    have c6b1 : (t391 != a1) = false := bne_eq_false_iff_eq.mpr c6
    clear c6
    simp only [Option.some.injEq, Prod.mk.injEq] at H
    obtain ⟨rfl, rfl⟩ := H
    go_wp2_with (first | ((with_reducible refine gate_callee (f := 47) rfl ?_); refine gl_ (some 14) Try.func47 #[.int .i64 x0_1] ?_; (with_reducible refine (computusref04_Of.calls x0_1 t391 _ A5.out).mono ?_); rintro e w' ⟨rfl, ⟨nd, rfl⟩⟩; refine ⟨_, rfl, ?_⟩))
    go_ret2
    exact ⟨by first | rfl | (simp; done) | (simp [*]; done), by repeat (first | exact Drawn0.refl _ | apply Drawn0.step)⟩
   rw [if_neg c6] at H
   have c6b0 : (t391 == a1) = false := beq_eq_false_iff_ne.mpr c6
   have c6b1 : (t391 != a1) = true := bne_iff_ne.mpr c6
   have H' := am_ H
   clear H
   go_wp2_with (first | ((with_reducible refine gate_callee (f := 47) rfl ?_); refine gl_ (some 14) Try.func47 #[.int .i64 x0_1] ?_; (with_reducible refine (computusref04_Of.calls x0_1 t391 _ A5.out).mono ?_); rintro e w' ⟨rfl, ⟨nd, rfl⟩⟩; refine ⟨_, rfl, ?_⟩))
   go_roundg k1
   case measure => have := HK1.out; omega
   case rel => exact ⟨(wrap64 (x0_1 - 1)), rs_, H', ⟨by have := HK1.out; omega⟩, by repeat (first | exact Drawn0.refl _ | apply Drawn0.step)⟩
mutual
def computusref04_Nth.j0 : Nat → Int → Int → Int → Bool → Option (Int × Int)
 | 0, _, _, _, _ => none
 | k + 1, x0, x1, x2, x31 => if x31 = true then (some (0, 3)) else (if x2 > 0 then ((computusref04_OnOrAfter.f k x0 x1).bind fun bt392 => (computusref04_Nth.l0 k x2 bt392.1 bt392.2 1)) else ((computusref04_OnOrBefore.f k x0 x1).bind fun bt394 => (computusref04_Nth.l1 k x2 bt394.1 bt394.2 (-1))))
def computusref04_Nth.l0 : Nat → Int → Int → Int → Int → Option (Int × Int)
 | 0, _, _, _, _ => none
 | k + 1, x2, x8, x9, x10 => if x10 < x2 then (if x9 = 0 then (computusref04_Nth.l0 k x2 (wrap64 (x8 + 7)) x9 (wrap64 (x10 + 1))) else (some (x8, x9))) else (some (x8, x9))
def computusref04_Nth.l1 : Nat → Int → Int → Int → Int → Option (Int × Int)
 | 0, _, _, _, _ => none
 | k + 1, x2, x11, x12, x13 => if x13 > x2 then (if x12 = 0 then (computusref04_Nth.l1 k x2 (wrap64 (x11 - 7)) x12 (wrap64 (x13 - 1))) else (some (x11, x12))) else (some (x11, x12))
end
def computusref04_Nth.f (k : Nat) (a0 : Int) (a1 : Int) (a2 : Int) : Option (Int × Int) := if a1 < 0 then (computusref04_Nth.j0 k a0 a1 a2 true) else (if a1 > 6 then (computusref04_Nth.j0 k a0 a1 a2 true) else (if a2 = 0 then (computusref04_Nth.j0 k a0 a1 a2 true) else (if a2 < (-1000) then (computusref04_Nth.j0 k a0 a1 a2 true) else (computusref04_Nth.j0 k a0 a1 a2 (decide (a2 > 1000))))))
theorem computusref04_Nth.calls (k : Nat) (a0 : Int) (a1 : Int) (a2 : Int) (r1 : Int) (r2 : Int) (w : World) (h : computusref04_Nth.f k a0 a1 a2 = some (r1, r2)) :
  Calls Try.prog 61 #[.int .i64 a0, .int .i64 a1, .int .i64 a2] w fun e w' => e = .returned (.tuple #[.int .i64 r1, .int .i64 r2]) ∧ Drawn0 w w' := by
 have H := h
 clear h
 unfold computusref04_Nth.f at H
 have HC4 := am_ H
 clear H
 go_enter Try.func61, Try.ntmps61
 go_upto_region 1 with (fail)
 go_cut [31] (fun v31 wc => ∃ (kq : Nat) (x31_3 : Bool), v31 = .bool x31_3 ∧ Aside0 (computusref04_Nth.j0 kq a0 a1 a2 x31_3 = some (r1, r2)) ∧ Aside0 (kq ≤ k) ∧ Drawn0 w wc)
 case first =>
  have H := HC4.out
  clear HC4
  by_cases c5 : a1 < 0
  ·rw [if_pos c5] at H
   have c5b0 : decide (a1 < 0) = true := decide_eq_true c5
   clear c5
   (first | rw [c5b0] | (simp only [i64_w, i32_w]; rw [c5b0]) | skip)
   have H' := am_ H
   clear H
   go_wp2
   go_meet
   case rel => exact ⟨_, (true), rs_, H', ⟨by first | omega | exact Nat.le_refl _⟩, by repeat (first | exact Drawn0.refl _ | apply Drawn0.step)⟩
  rw [if_neg c5] at H
  have c5b0 : decide (a1 < 0) = false := decide_eq_false c5
  clear c5
  (first | rw [c5b0] | (simp only [i64_w, i32_w]; rw [c5b0]) | skip)
  by_cases c6 : a1 > 6
  ·rw [if_pos c6] at H
   have c6b0 : decide (6 < a1) = true := decide_eq_true c6
   clear c6
   have H' := am_ H
   clear H
   go_wp2
   go_meet
   case rel => exact ⟨_, (true), rs_, H', ⟨by first | omega | exact Nat.le_refl _⟩, by repeat (first | exact Drawn0.refl _ | apply Drawn0.step)⟩
  rw [if_neg c6] at H
  have c6b0 : decide (6 < a1) = false := decide_eq_false c6
  clear c6
  by_cases c7 : a2 = 0
  ·rw [if_pos c7] at H
   have c7b0 : (a2 == 0) = true := beq_iff_eq.mpr c7
   have c7b1 : (a2 != 0) = false := bne_eq_false_iff_eq.mpr c7
   clear c7
   have H' := am_ H
   clear H
   go_wp2
   go_meet
   case rel => exact ⟨_, (true), rs_, H', ⟨by first | omega | exact Nat.le_refl _⟩, by repeat (first | exact Drawn0.refl _ | apply Drawn0.step)⟩
  rw [if_neg c7] at H
  have c7b0 : (a2 == 0) = false := beq_eq_false_iff_ne.mpr c7
  have c7b1 : (a2 != 0) = true := bne_iff_ne.mpr c7
  by_cases c8 : a2 < (-1000)
  ·rw [if_pos c8] at H
   have c8b0 : decide (a2 < (-1000)) = true := decide_eq_true c8
   clear c8
   have H' := am_ H
   clear H
   go_wp2
   go_meet
   case rel => exact ⟨_, (true), rs_, H', ⟨by first | omega | exact Nat.le_refl _⟩, by repeat (first | exact Drawn0.refl _ | apply Drawn0.step)⟩
  rw [if_neg c8] at H
  have c8b0 : decide (a2 < (-1000)) = false := decide_eq_false c8
  clear c8
  have H' := am_ H
  clear H
  go_wp2
  go_meet
  case rel => exact ⟨_, (decide (a2 > 1000)), rs_, H', ⟨by first | omega | exact Nat.le_refl _⟩, by repeat (first | exact Drawn0.refl _ | apply Drawn0.step)⟩
 case rest =>
  clear HC4
  obtain ⟨kq, x31_3, rfl, HA, HJ3, ⟨mc3, rfl⟩⟩ := hcut
  cases kq with
  | zero => exact absurd HA.out (by simp [computusref04_Nth.j0])
  | succ kj3 =>
   have H := HA.out
   clear HA
   simp only [computusref04_Nth.j0] at H
   by_cases c9 : x31_3 = true
   ·subst c9
    replace H := it_ H
    simp only [Option.some.injEq, Prod.mk.injEq] at H
    obtain ⟨rfl, rfl⟩ := H
    go_wp2
    go_ret2
    exact ⟨by first | rfl | (simp; done) | (simp [*]; done), by repeat (first | exact Drawn0.refl _ | apply Drawn0.step)⟩
   replace c9 := Bool.eq_false_iff.mpr c9
   subst c9
   replace H := if_ H
   by_cases c10 : a2 > 0
   ·rw [if_pos c10] at H
    have c10b0 : decide (0 < a2) = true := decide_eq_true c10
    clear c10
    obtain ⟨⟨t392, t393⟩, A11, H⟩ := bs_ H
    dsimp only at H
    have H' := am_ H
    clear H
    go_wp2_with (first | ((with_reducible refine gate_callee (f := 73) rfl ?_); refine gl_ (some 37) Try.func73 #[.int .i64 a0, .int .i64 a1] ?_; (with_reducible refine (computusref04_OnOrAfter.calls kj3 a0 a1 t392 t393 _ A11.out).mono ?_); rintro e w' ⟨rfl, ⟨nd, rfl⟩⟩; refine ⟨_, rfl, ?_⟩))
    go_loopg [8, 10] kj3 (fun kq v8 v10 w' => ∃ (x8_2 : Int) (x10_2 : Int), v8 = .int .i64 x8_2 ∧ v10 = .int .i64 x10_2 ∧ Aside0 (computusref04_Nth.l0 kq a2 x8_2 t393 x10_2 = some (r1, r2)) ∧ Aside0 (kq ≤ kj3) ∧ Drawn0 w w')
    case atStart => exact ⟨(t392), (1), rs_, rs_, H', ⟨Nat.le_refl _⟩, by repeat (first | exact Drawn0.refl _ | apply Drawn0.step)⟩
    case round =>
     clear H'
     obtain ⟨x8_2, x10_2, rfl, rfl, HA, HK2, ⟨m2, rfl⟩⟩ := hrel
     cases gk with
     | zero => exact absurd HA.out (by simp [computusref04_Nth.l0])
     | succ k2 =>
      have H := HA.out
      clear HA
      simp only [computusref04_Nth.l0] at H
      by_cases c12 : x10_2 < a2
      rotate_left
      ·rw [if_neg c12] at H
       have c12b0 : decide (x10_2 < a2) = false := decide_eq_false c12
       clear c12
       simp only [Option.some.injEq, Prod.mk.injEq] at H
       obtain ⟨rfl, rfl⟩ := H
       go_wp2
       go_ret2
       exact ⟨by first | rfl | (simp; done) | (simp [*]; done), by repeat (first | exact Drawn0.refl _ | apply Drawn0.step)⟩
      rw [if_pos c12] at H
      have c12b0 : decide (x10_2 < a2) = true := decide_eq_true c12
      clear c12
      by_cases c13 : t393 = 0
      rotate_left
      ·rw [if_neg c13] at H
       have c13b0 : (t393 == 0) = false := beq_eq_false_iff_ne.mpr c13
       have c13b1 : (t393 != 0) = true := bne_iff_ne.mpr c13
       simp only [Option.some.injEq, Prod.mk.injEq] at H
       obtain ⟨rfl, rfl⟩ := H
       go_wp2
       go_ret2
       exact ⟨by first | rfl | (simp; done) | (simp [*]; done), by repeat (first | exact Drawn0.refl _ | apply Drawn0.step)⟩
      rw [if_pos c13] at H
      have c13b0 : (t393 == 0) = true := beq_iff_eq.mpr c13
      have c13b1 : (t393 != 0) = false := bne_eq_false_iff_eq.mpr c13
      clear c13
      have H' := am_ H
      clear H
      go_wp2
      go_roundg k2
      case measure => have := HJ3.out; have := HK2.out; omega
      case rel => exact ⟨(wrap64 (x8_2 + 7)), (wrap64 (x10_2 + 1)), rs_, rs_, H', ⟨by have := HJ3.out; have := HK2.out; omega⟩, by repeat (first | exact Drawn0.refl _ | apply Drawn0.step)⟩
   rw [if_neg c10] at H
   have c10b0 : decide (0 < a2) = false := decide_eq_false c10
   clear c10
   obtain ⟨⟨t394, t395⟩, A14, H⟩ := bs_ H
   dsimp only at H
   have H' := am_ H
   clear H
   go_wp2_with (first | ((with_reducible refine gate_callee (f := 74) rfl ?_); refine gl_ (some 56) Try.func74 #[.int .i64 a0, .int .i64 a1] ?_; (with_reducible refine (computusref04_OnOrBefore.calls kj3 a0 a1 t394 t395 _ A14.out).mono ?_); rintro e w' ⟨rfl, ⟨nd, rfl⟩⟩; refine ⟨_, rfl, ?_⟩))
   go_loopg [11, 13] kj3 (fun kq v11 v13 w' => ∃ (x11_2 : Int) (x13_2 : Int), v11 = .int .i64 x11_2 ∧ v13 = .int .i64 x13_2 ∧ Aside0 (computusref04_Nth.l1 kq a2 x11_2 t395 x13_2 = some (r1, r2)) ∧ Aside0 (kq ≤ kj3) ∧ Drawn0 w w')
   case atStart => exact ⟨(t394), ((-1)), rs_, rs_, H', ⟨Nat.le_refl _⟩, by repeat (first | exact Drawn0.refl _ | apply Drawn0.step)⟩
   case round =>
    clear H'
    obtain ⟨x11_2, x13_2, rfl, rfl, HA, HK2, ⟨m2, rfl⟩⟩ := hrel
    cases gk with
    | zero => exact absurd HA.out (by simp [computusref04_Nth.l1])
    | succ k2 =>
     have H := HA.out
     clear HA
     simp only [computusref04_Nth.l1] at H
     by_cases c15 : x13_2 > a2
     rotate_left
     ·rw [if_neg c15] at H
      have c15b0 : decide (a2 < x13_2) = false := decide_eq_false c15
      clear c15
      simp only [Option.some.injEq, Prod.mk.injEq] at H
      obtain ⟨rfl, rfl⟩ := H
      go_wp2
      go_ret2
      exact ⟨by first | rfl | (simp; done) | (simp [*]; done), by repeat (first | exact Drawn0.refl _ | apply Drawn0.step)⟩
     rw [if_pos c15] at H
     have c15b0 : decide (a2 < x13_2) = true := decide_eq_true c15
     clear c15
     by_cases c16 : t395 = 0
     rotate_left
     ·rw [if_neg c16] at H
      have c16b0 : (t395 == 0) = false := beq_eq_false_iff_ne.mpr c16
      have c16b1 : (t395 != 0) = true := bne_iff_ne.mpr c16
      simp only [Option.some.injEq, Prod.mk.injEq] at H
      obtain ⟨rfl, rfl⟩ := H
      go_wp2
      go_ret2
      exact ⟨by first | rfl | (simp; done) | (simp [*]; done), by repeat (first | exact Drawn0.refl _ | apply Drawn0.step)⟩
     rw [if_pos c16] at H
     have c16b0 : (t395 == 0) = true := beq_iff_eq.mpr c16
     have c16b1 : (t395 != 0) = false := bne_eq_false_iff_eq.mpr c16
     clear c16
     have H' := am_ H
     clear H
     go_wp2
     go_roundg k2
     case measure => have := HJ3.out; have := HK2.out; omega
     case rel => exact ⟨(wrap64 (x11_2 - 7)), (wrap64 (x13_2 - 1)), rs_, rs_, H', ⟨by have := HJ3.out; have := HK2.out; omega⟩, by repeat (first | exact Drawn0.refl _ | apply Drawn0.step)⟩
def computusref16_Day.f (k : Nat) (a0_0 : Int) (a0_1 : Int) (a0_2 : Int) (a0_3 : Int) (a0_4 : Int) (a0_5 : Int) (a1 : Int) : Option (Int) := if a0_0 = 2 then ((computusref10_Day.f k 2 a1).bind fun t397 => (some (wrap64 (t397 + a0_3)))) else ((computusref03_ToDay.f k a1 a0_1 a0_2).bind fun bt398 => (if a0_0 = 3 then ((computusref04_Nth.f k bt398.1 a0_4 a0_5).bind fun bt400 => (some bt400.1)) else (some bt398.1)))
theorem computusref16_Day.calls (k : Nat) (a0_0 : Int) (a0_1 : Int) (a0_2 : Int) (a0_3 : Int) (a0_4 : Int) (a0_5 : Int) (a1 : Int) (r : Int) (w : World) (h : computusref16_Day.f k a0_0 a0_1 a0_2 a0_3 a0_4 a0_5 a1 = some r) :
  Calls Try.prog 48 #[.agg #[.int .i64 a0_0, .int .i64 a0_1, .int .i64 a0_2, .int .i64 a0_3, .int .i64 a0_4, .int .i64 a0_5], .int .i64 a1] w fun e w' => e = .returned (.int .i64 r) ∧ Below w.heap.size w w' := by
 have hu64 := Try.underlying64
 have hu98 := Try.underlying98
 have HB := am_ (Below.refl w.heap.size w)
 have H := h
 clear h
 unfold computusref16_Day.f at H
 by_cases c3 : a0_0 = 2
 rotate_left
 ·rw [if_neg c3] at H
  have c3b0 : (a0_0 == 2) = false := beq_eq_false_iff_ne.mpr c3
  have c3b1 : (a0_0 != 2) = true := bne_iff_ne.mpr c3
  obtain ⟨⟨t398, t399⟩, A9, H⟩ := bs_ H
  dsimp only at H
  by_cases c10 : a0_0 = 3
  rotate_left
  ·rw [if_neg c10] at H
   have c10b0 : (a0_0 == 3) = false := beq_eq_false_iff_ne.mpr c10
   have c10b1 : (a0_0 != 3) = true := bne_iff_ne.mpr c10
   obtain rfl := Option.some.inj H
   go_enter Try.func48, Try.ntmps48
   go_wp2_with (first | ((with_reducible refine gate_dst (N := 2) rfl ?_); refine bx_ (w := w) (N := 2) (cs := #[.int .i64 a0_0, .int .i64 a0_1, .int .i64 a0_2, .int .i64 a0_3, .int .i64 a0_4, .int .i64 a0_5]) (t := 64) ?_; intro gb396 w16 BK396 n0_ GW396 GE396; clear HB; have HB := n0_; clear n0_; obtain ⟨hcz17_0, hcz17_1, hcz17_2, hcz17_3, hcz17_4, hcz17_5⟩ := cz6_ BK396.out; obtain ⟨hfz17_0, hfz17_1, hfz17_2, hfz17_3, hfz17_4, hfz17_5⟩ := fz6_ BK396.out) | ((with_reducible refine gate_callee (f := 60) rfl ?_); refine gl_ (some 24) Try.func60 #[.agg #[.int .i64 a1, .int .i64 a0_1, .int .i64 a0_2]] ?_; (with_reducible refine (computusref03_ToDay.calls k a1 a0_1 a0_2 t398 t399 _ A9.out).mono ?_); rintro e w18 ⟨rfl, hb⟩; refine ⟨_, rfl, ?_⟩; replace BK396 := bw_ BK396 hb; replace HB := bt_ hb; (try clear hb); obtain ⟨hcz19_0, hcz19_1, hcz19_2, hcz19_3, hcz19_4, hcz19_5⟩ := cz6_ BK396.out; obtain ⟨hfz19_0, hfz19_1, hfz19_2, hfz19_3, hfz19_4, hfz19_5⟩ := fz6_ BK396.out))
   go_ret
   exact rt_
  rw [if_pos c10] at H
  have c10b0 : (a0_0 == 3) = true := beq_iff_eq.mpr c10
  have c10b1 : (a0_0 != 3) = false := bne_eq_false_iff_eq.mpr c10
  clear c10
  obtain ⟨⟨t400, t401⟩, A11, H⟩ := bs_ H
  dsimp only at H
  obtain rfl := Option.some.inj H
  go_enter Try.func48, Try.ntmps48
  go_wp2_with (first | ((with_reducible refine gate_dst (N := 2) rfl ?_); refine bx_ (w := w) (N := 2) (cs := #[.int .i64 a0_0, .int .i64 a0_1, .int .i64 a0_2, .int .i64 a0_3, .int .i64 a0_4, .int .i64 a0_5]) (t := 64) ?_; intro gb396 w12 BK396 n0_ GW396 GE396; clear HB; have HB := n0_; clear n0_; obtain ⟨hcz13_0, hcz13_1, hcz13_2, hcz13_3, hcz13_4, hcz13_5⟩ := cz6_ BK396.out; obtain ⟨hfz13_0, hfz13_1, hfz13_2, hfz13_3, hfz13_4, hfz13_5⟩ := fz6_ BK396.out) | ((with_reducible refine gate_callee (f := 60) rfl ?_); refine gl_ (some 24) Try.func60 #[.agg #[.int .i64 a1, .int .i64 a0_1, .int .i64 a0_2]] ?_; (with_reducible refine (computusref03_ToDay.calls k a1 a0_1 a0_2 t398 t399 _ A9.out).mono ?_); rintro e w14 ⟨rfl, hb⟩; refine ⟨_, rfl, ?_⟩; replace BK396 := bw_ BK396 hb; replace HB := bt_ hb; (try clear hb); obtain ⟨hcz15_0, hcz15_1, hcz15_2, hcz15_3, hcz15_4, hcz15_5⟩ := cz6_ BK396.out; obtain ⟨hfz15_0, hfz15_1, hfz15_2, hfz15_3, hfz15_4, hfz15_5⟩ := fz6_ BK396.out) | ((with_reducible refine gate_callee (f := 61) rfl ?_); refine gl_ (some 36) Try.func61 #[.int .i64 t398, .int .i64 a0_4, .int .i64 a0_5] ?_; (with_reducible refine (computusref04_Nth.calls k t398 a0_4 a0_5 t400 t401 _ A11.out).mono ?_); rintro e w' ⟨rfl, ⟨nd, rfl⟩⟩; refine ⟨_, rfl, ?_⟩))
  go_ret
  exact rt_
 rw [if_pos c3] at H
 have c3b0 : (a0_0 == 2) = true := beq_iff_eq.mpr c3
 have c3b1 : (a0_0 != 2) = false := bne_eq_false_iff_eq.mpr c3
 clear c3
 obtain ⟨t397, A4, H⟩ := bs_ H
 obtain rfl := Option.some.inj H
 go_enter Try.func48, Try.ntmps48
 try go_wp2_with (first | ((with_reducible refine gate_dst (N := 2) rfl ?_); refine bx_ (w := w) (N := 2) (cs := #[.int .i64 a0_0, .int .i64 a0_1, .int .i64 a0_2, .int .i64 a0_3, .int .i64 a0_4, .int .i64 a0_5]) (t := 64) ?_; intro gb396 w5 BK396 n0_ GW396 GE396; clear HB; have HB := n0_; clear n0_; obtain ⟨hcz6_0, hcz6_1, hcz6_2, hcz6_3, hcz6_4, hcz6_5⟩ := cz6_ BK396.out; obtain ⟨hfz6_0, hfz6_1, hfz6_2, hfz6_3, hfz6_4, hfz6_5⟩ := fz6_ BK396.out))
 replace BK396 := am_ (blk_drew BK396.out)
 replace HB := am_ (below_drew1 HB.out)
 refine start_ (n := 6) (S := fun w' => w'.cell? ⟨gb396, 0, none⟩ = some (.int .i64 a0_0) ∧ w'.cell? ⟨gb396, 1, none⟩ = some (.int .i64 a0_1) ∧ w'.cell? ⟨gb396, 2, none⟩ = some (.int .i64 a0_2) ∧ w'.cell? ⟨gb396, 3, none⟩ = some (.int .i64 a0_3) ∧ w'.cell? ⟨gb396, 4, none⟩ = some (.int .i64 a0_4) ∧ w'.cell? ⟨gb396, 5, none⟩ = some (.int .i64 a0_5)) (ds := []) (bf_ 6 0) (by kernel_rfl) rfl rfl (cz6_ BK396.out) (fun hHeld => ?_)
 generalize w5.drew = w7 at BK396 HB hHeld ⊢
 refine pure_ (i := 0) (N := some 12) (v := ?_) (a' := ?_) (bf_ 6 1) rfl rfl (by kernel_rfl) (fun _ _ _ h => h) (Or.inl ⟨by rfl, ?_⟩) ?_ ?_
 rotate_left
 ·intro w'
  go_simp
  with_reducible rfl
 rotate_left
 ·simp only [Act.put, sA_, sZ_, sS_, i64_w, i32_w]
  rfl
 refine pure_ (i := 2) (N := some 14) (v := ?_) (a' := ?_) (bf_ 6 5) rfl rfl (by kernel_rfl) (fun _ _ _ h => h) (Or.inl ⟨by rfl, ?_⟩) ?_ ?_
 rotate_left
 ·intro w'
  go_simp
  with_reducible rfl
 rotate_left
 ·simp only [Act.put, sA_, sZ_, sS_, i64_w, i32_w]
  rfl
 refine take_ (i := 3) (N := some 15) (v := ?_) (a' := ?_) (bf_ 6 13) rfl rfl (by kernel_rfl) (fun _ _ _ h => h) (Or.inl ⟨by rfl, ?_⟩) hHeld ?_ ?_
 rotate_left
 ·rintro w' ⟨s0, s1, s2, s3, s4, s5⟩
  go_simp
  with_reducible rfl
 rotate_left
 ·simp only [Act.put, sA_, sZ_, sS_, i64_w, i32_w]
  rfl
 refine one_ (i := 1) (N := some 13) (bf_ 6 15) rfl rfl (by kernel_rfl) (by decide) (fun K hK => ?_)
 refine gs_ Try.func59 #[.int .i64 2, .int .i64 a1] ?_
 with_reducible refine (computusref10_Day.calls k 2 a1 t397 _ A4.out).mono ?_
 rintro e w8 ⟨rfl, hb⟩
 refine ⟨_, rfl, ?_⟩
 replace BK396 := bw_ BK396 hb
 replace HB := bt_ hb
 (try clear hb)
 (try clear hb2)
 (try clear hk)
 (try clear hi)
 refine hK.out _ _ (by first | exact (cz6_ BK396.out) | exact hHeld) (fun hHeld => ?_)
 clear hK K
 refine norm_ (a' := ?_) ?_ ?_
 rotate_left
 ·show Act.put _ (some 13) _ = _
  simp only [Act.put, sA_, sZ_, sS_, i64_w, i32_w]
  rfl
 refine pure_ (i := 4) (N := some 16) (v := ?_) (a' := ?_) (bf_ 6 31) rfl rfl (by kernel_rfl) (fun _ _ _ h => h) (Or.inl ⟨by rfl, ?_⟩) ?_ ?_
 rotate_left
 ·intro w'
  go_simp
  with_reducible rfl
 rotate_left
 ·simp only [Act.put, sA_, sZ_, sS_, i64_w, i32_w]
  rfl
 refine pure_ (i := 5) (N := some 4) (v := ?_) (a' := ?_) (bf_ 6 63) rfl rfl (by kernel_rfl) (fun _ _ _ h => h) (Or.inl ⟨by rfl, ?_⟩) ?_ ?_
 rotate_left
 ·intro w'
  go_simp
  with_reducible rfl
 rotate_left
 ·simp only [Act.put, sA_, sZ_, sS_, i64_w, i32_w]
  rfl
 refine done_ (by kernel_rfl) ?_
 try go_wp2
 go_ret
 exact rt_
def computusref18_Starts.l0 : Nat → Int → List Int → Int → Int → List (S66) → List (S68) → Option (List Int)
 | 0, _, _, _, _, _, _ => none
 | k + 1, x1, x5, x6, x403000, x403001, x403002 => if x6 < (x403001.length : Int) then (if 0 ≤ x6 then ((computusref16_Day.f k ((rd_T66 x403001 x6).f3.f0) ((rd_T66 x403001 x6).f3.f1) ((rd_T66 x403001 x6).f3.f2) ((rd_T66 x403001 x6).f3.f3) ((rd_T66 x403001 x6).f3.f4) ((rd_T66 x403001 x6).f3.f5) x1).bind fun t404 => (if x5.length < 17592186044416 then (computusref18_Starts.l0 k x1 (x5 ++ [t404]) (wrap64 (x6 + 1)) x403000 x403001 x403002) else (none))) else (none)) else (some x5)
def computusref18_Starts.f (k : Nat) (a0_0 : Int) (l0_1 : List (S66)) (l0_2 : List (S68)) (a1 : Int) : Option (List Int) := computusref18_Starts.l0 k a1 ([] : List Int) 0 a0_0 l0_1 l0_2
theorem computusref18_Starts.calls (k : Nat) (a0_0 : Int) (A0_1 : Option Addr) (c0_1 : Nat) (l0_1 : List (S66)) (A0_2 : Option Addr) (c0_2 : Nat) (l0_2 : List (S68)) (a1 : Int) (r : List Int) (w : World) (hr0_1 : Kd.C k66 w A0_1 l0_1.length l0_1) (hc0_1 : l0_1.length ≤ c0_1) (hr0_2 : Kd.C k68 w A0_2 l0_2.length l0_2) (hc0_2 : l0_2.length ≤ c0_2) (h : computusref18_Starts.f k a0_0 l0_1 l0_2 a1 = some r) :
  Calls Try.prog 36 #[.agg #[.int .i64 a0_0, .slice A0_1 l0_1.length c0_1, .slice A0_2 l0_2.length c0_2], .int .i64 a1] w fun e w' => ∃ v0_ : Value, e = .returned (v0_) ∧ Kd.R (Kd.int .i64) 3 w' w.heap.size (fun _ => True) v0_ r ∧ Below w.heap.size w w' := by
 have hu36 := Try.underlying36
 have hu64 := Try.underlying64
 have HR0_1 := am_ hr0_1
 have HC0_1 := am_ hc0_1
 clear hr0_1 hc0_1
 have HR0_2 := am_ hr0_2
 have HC0_2 := am_ hc0_2
 clear hr0_2 hc0_2
 have HB := am_ (Below.refl w.heap.size w)
 have H := h
 clear h
 unfold computusref18_Starts.f at H
 have H' := am_ H
 clear H
 go_enter Try.func36, Try.ntmps36
 go_wp2_with (first | ((with_reducible refine gate_dst (N := 2) rfl ?_); refine bx_ (w := w) (N := 2) (cs := #[.int .i64 a0_0, .slice A0_1 l0_1.length c0_1, .slice A0_2 l0_2.length c0_2]) (t := 36) ?_; intro gb402 w3 BK402 n0_ GW402 GE402; clear HB; have HB := n0_; clear n0_))
 go_loopg [5, 6] k (fun kq v5 v6 w' => ∃ (x5_1 : List Int) (x6_1 : Int), v6 = .int .i64 x6_1 ∧ Aside0 (computusref18_Starts.l0 kq a1 x5_1 x6_1 a0_0 l0_1 l0_2 = some r) ∧ Aside0 (kq ≤ k) ∧ Aside0 (Kd.R (Kd.int .i64) 3 w' w.heap.size (fun _ => True) v5 x5_1) ∧ Aside0 (w'.heap[gb402]? = some (.cells #[.int .i64 a0_0, (.slice A0_1 l0_1.length c0_1), (.slice A0_2 l0_2.length c0_2)] 36 (0, 0))) ∧ Aside0 (Below w.heap.size w w'))
 case atStart => exact ⟨(([] : List Int)), (0), rs_, H', ⟨Nat.le_refl _⟩, ⟨nl_⟩, ⟨bk_ BK402.out⟩, ⟨bh_⟩⟩
 case round =>
  clear H'
  obtain ⟨x5_1, x6_1, rfl, HA, HK1, HO_5, BK402, HB⟩ := hrel
  cases gk with
  | zero => exact absurd HA.out (by simp [computusref18_Starts.l0])
  | succ k1 =>
   have H := HA.out
   clear HA
   simp only [computusref18_Starts.l0] at H
   by_cases c4 : x6_1 < (l0_1.length : Int)
   rotate_left
   ·rw [if_neg c4] at H
    have c4b0 : decide (x6_1 < (l0_1.length : Int)) = false := decide_eq_false c4
    clear c4
    obtain rfl := Option.some.inj H
    obtain ⟨hcz11_0, hcz11_1, hcz11_2⟩ := cz3_ BK402.out
    obtain ⟨hfz11_0, hfz11_1, hfz11_2⟩ := fz3_ BK402.out
    go_wp2
    go_ret
    exact ⟨_, by first | rfl | (simp [errW_none, errW_some] <;> rfl) | (simp [*, errW_none, errW_some] <;> rfl), rk_ HO_5.out, bh_⟩
   rw [if_pos c4] at H
   have c4b0 : decide (x6_1 < (l0_1.length : Int)) = true := decide_eq_true c4
   clear c4
   by_cases c5 : 0 ≤ x6_1
   rotate_left
   ·rw [if_neg c5] at H
    exact absurd H (by simp)
   rw [if_pos c5] at H
   have c5b0 : decide (0 ≤ x6_1) = true := decide_eq_true c5
   clear c5
   obtain ⟨t404, A6, H⟩ := bs_ H
   by_cases c7 : x5_1.length < 17592186044416
   rotate_left
   ·rw [if_neg c7] at H
    exact absurd H (by simp)
   rw [if_pos c7] at H
   have LMc7 := am_ c7
   clear c7
   obtain ⟨y405, hy405⟩ : ∃ y_ : List Int, y_ = (x5_1 ++ [t404]) := ⟨_, rfl⟩
   replace H : (computusref18_Starts.l0 k1 a1 y405 (wrap64 (x6_1 + 1)) a0_0 l0_1 l0_2) = some r := by first | (rw [hy405]; with_reducible exact H) | (have H2_ := (Option.bind_some _ _).symm.trans H; rw [hy405]; with_reducible exact H2_) | (have H2_ := (Option.bind_some _ _).symm.trans H; with_reducible exact H2_) | with_reducible exact H | (rw [hy405]; exact H) | exact H
   have Ny405 := am_ hy405
   clear hy405
   have H' := am_ H
   clear H
   obtain ⟨hcz8_0, hcz8_1, hcz8_2⟩ := cz3_ BK402.out
   obtain ⟨hfz8_0, hfz8_1, hfz8_2⟩ := fz3_ BK402.out
   have p403 : 0 ≤ (x6_1 : Int) := of_decide_eq_true as_
   have q403 : x6_1 < (l0_1.length : Int) := of_decide_eq_true as_
   obtain ⟨ad403, e403, hx403_0, hx403_1, hx403_2, hx403_3, hx403_4, hx403_5, hx403_6, hx403_7, hx403_8⟩ := at_T66 HR0_1.out x6_1 p403 q403
   cases e403
   replace hx403_0 := cm_ HB.out hx403_0
   replace hx403_1 := cm_ HB.out hx403_1
   replace hx403_2 := cm_ HB.out hx403_2
   replace hx403_3 := cm_ HB.out hx403_3
   replace hx403_4 := cm_ HB.out hx403_4
   replace hx403_5 := cm_ HB.out hx403_5
   replace hx403_6 := cm_ HB.out hx403_6
   replace hx403_7 := cm_ HB.out hx403_7
   replace hx403_8 := cm_ HB.out hx403_8
   replace p403 := eq_true p403
   replace q403 := eq_true q403
   go_wp2_with (first | ((with_reducible refine gate_callee (f := 48) rfl ?_); refine gl_ (some 22) Try.func48 #[.agg #[.int .i64 ((rd_T66 l0_1 x6_1).f3.f0), .int .i64 ((rd_T66 l0_1 x6_1).f3.f1), .int .i64 ((rd_T66 l0_1 x6_1).f3.f2), .int .i64 ((rd_T66 l0_1 x6_1).f3.f3), .int .i64 ((rd_T66 l0_1 x6_1).f3.f4), .int .i64 ((rd_T66 l0_1 x6_1).f3.f5)], .int .i64 a1] ?_; (with_reducible refine (computusref16_Day.calls k1 ((rd_T66 l0_1 x6_1).f3.f0) ((rd_T66 l0_1 x6_1).f3.f1) ((rd_T66 l0_1 x6_1).f3.f2) ((rd_T66 l0_1 x6_1).f3.f3) ((rd_T66 l0_1 x6_1).f3.f4) ((rd_T66 l0_1 x6_1).f3.f5) a1 t404 _ A6.out).mono ?_); rintro e w9 ⟨rfl, hb⟩; refine ⟨_, rfl, ?_⟩; replace HO_5 := am_ (Kd.R_below (rk_ HO_5.out) hb); replace BK402 := bw_ BK402 hb; replace HB := bt_ hb; (try clear hb); (try clear hi)) | ((with_reducible refine gate_builtin (b := .append) (xs := #[.tmp 14, .tmp 23]) rfl ?_); at_builtin; refine Kd.R_append (Kd.int .i64) (w0 := w) w.heap.size rfl (.tmp 14) (.tmp 23) 40 3 (.int .i64 0) 8 rfl Try.underlying40 info3 rfl (by decide) (by omega) u5 x5_1 t404 [.int .i64 t404] (fun _ => True) (fun _ => False) rfl rfl ?aP (fun _ hk => hk.elim) ?aF ?aO ?aB ?aS ?aL ?_; (case aP => exact rfl); (case aB => exact bh_); (case aF => exact (fun _ _ => trivial)); (case aO => exact (rk_ HO_5.out)); (case aS => exact bz_); (case aL => have := LMc7.out; omega); intro v406 w10 ho hb hg hat; rw [← Ny405.out] at ho; have n0_ := am_ (blk_grown (bk_ BK402.out) hg (Kd.R_ne HO_5.out BK402.out (by decide))); have n1_ := am_ (hb); have n2_ := am_ (ho); clear BK402; clear HB; clear HO_5; have BK402 := n0_; have HB := n1_; have HO407 := n2_; clear n0_ n1_ n2_; clear ho hb hg hat))
   go_roundg k1
   case measure => have := HK1.out; omega
   case rel => exact ⟨(y405), (wrap64 (x6_1 + 1)), rs_, H', ⟨by have := HK1.out; omega⟩, ⟨rk_ HO407.out⟩, ⟨bk_ BK402.out⟩, ⟨bh_⟩⟩
def computusref19_Days.l0 : Nat → Int → List Int → Int → Int → List (S66) → List (S68) → Option (List Int)
 | 0, _, _, _, _, _, _ => none
 | k + 1, x1, x5, x6, x409000, x409001, x409002 => if x6 < (x409002.length : Int) then (if 0 ≤ x6 then ((computusref16_Day.f k ((rd_T68 x409002 x6).f3.f0) ((rd_T68 x409002 x6).f3.f1) ((rd_T68 x409002 x6).f3.f2) ((rd_T68 x409002 x6).f3.f3) ((rd_T68 x409002 x6).f3.f4) ((rd_T68 x409002 x6).f3.f5) x1).bind fun t410 => (if x5.length < 17592186044416 then (computusref19_Days.l0 k x1 (x5 ++ [t410]) (wrap64 (x6 + 1)) x409000 x409001 x409002) else (none))) else (none)) else (some x5)
def computusref19_Days.f (k : Nat) (a0_0 : Int) (l0_1 : List (S66)) (l0_2 : List (S68)) (a1 : Int) : Option (List Int) := computusref19_Days.l0 k a1 ([] : List Int) 0 a0_0 l0_1 l0_2
theorem computusref19_Days.calls (k : Nat) (a0_0 : Int) (A0_1 : Option Addr) (c0_1 : Nat) (l0_1 : List (S66)) (A0_2 : Option Addr) (c0_2 : Nat) (l0_2 : List (S68)) (a1 : Int) (r : List Int) (w : World) (hr0_1 : Kd.C k66 w A0_1 l0_1.length l0_1) (hc0_1 : l0_1.length ≤ c0_1) (hr0_2 : Kd.C k68 w A0_2 l0_2.length l0_2) (hc0_2 : l0_2.length ≤ c0_2) (h : computusref19_Days.f k a0_0 l0_1 l0_2 a1 = some r) :
  Calls Try.prog 37 #[.agg #[.int .i64 a0_0, .slice A0_1 l0_1.length c0_1, .slice A0_2 l0_2.length c0_2], .int .i64 a1] w fun e w' => ∃ v0_ : Value, e = .returned (v0_) ∧ Kd.R (Kd.int .i64) 3 w' w.heap.size (fun _ => True) v0_ r ∧ Below w.heap.size w w' := by
 have hu36 := Try.underlying36
 have hu64 := Try.underlying64
 have HR0_1 := am_ hr0_1
 have HC0_1 := am_ hc0_1
 clear hr0_1 hc0_1
 have HR0_2 := am_ hr0_2
 have HC0_2 := am_ hc0_2
 clear hr0_2 hc0_2
 have HB := am_ (Below.refl w.heap.size w)
 have H := h
 clear h
 unfold computusref19_Days.f at H
 have H' := am_ H
 clear H
 go_enter Try.func37, Try.ntmps37
 go_wp2_with (first | ((with_reducible refine gate_dst (N := 2) rfl ?_); refine bx_ (w := w) (N := 2) (cs := #[.int .i64 a0_0, .slice A0_1 l0_1.length c0_1, .slice A0_2 l0_2.length c0_2]) (t := 36) ?_; intro gb408 w3 BK408 n0_ GW408 GE408; clear HB; have HB := n0_; clear n0_))
 go_loopg [5, 6] k (fun kq v5 v6 w' => ∃ (x5_1 : List Int) (x6_1 : Int), v6 = .int .i64 x6_1 ∧ Aside0 (computusref19_Days.l0 kq a1 x5_1 x6_1 a0_0 l0_1 l0_2 = some r) ∧ Aside0 (kq ≤ k) ∧ Aside0 (Kd.R (Kd.int .i64) 3 w' w.heap.size (fun _ => True) v5 x5_1) ∧ Aside0 (w'.heap[gb408]? = some (.cells #[.int .i64 a0_0, (.slice A0_1 l0_1.length c0_1), (.slice A0_2 l0_2.length c0_2)] 36 (0, 0))) ∧ Aside0 (Below w.heap.size w w'))
 case atStart => exact ⟨(([] : List Int)), (0), rs_, H', ⟨Nat.le_refl _⟩, ⟨nl_⟩, ⟨bk_ BK408.out⟩, ⟨bh_⟩⟩
 case round =>
  clear H'
  obtain ⟨x5_1, x6_1, rfl, HA, HK1, HO_5, BK408, HB⟩ := hrel
  cases gk with
  | zero => exact absurd HA.out (by simp [computusref19_Days.l0])
  | succ k1 =>
   have H := HA.out
   clear HA
   simp only [computusref19_Days.l0] at H
   by_cases c4 : x6_1 < (l0_2.length : Int)
   rotate_left
   ·rw [if_neg c4] at H
    have c4b0 : decide (x6_1 < (l0_2.length : Int)) = false := decide_eq_false c4
    clear c4
    obtain rfl := Option.some.inj H
    obtain ⟨hcz11_0, hcz11_1, hcz11_2⟩ := cz3_ BK408.out
    obtain ⟨hfz11_0, hfz11_1, hfz11_2⟩ := fz3_ BK408.out
    go_wp2
    go_ret
    exact ⟨_, by first | rfl | (simp [errW_none, errW_some] <;> rfl) | (simp [*, errW_none, errW_some] <;> rfl), rk_ HO_5.out, bh_⟩
   rw [if_pos c4] at H
   have c4b0 : decide (x6_1 < (l0_2.length : Int)) = true := decide_eq_true c4
   clear c4
   by_cases c5 : 0 ≤ x6_1
   rotate_left
   ·rw [if_neg c5] at H
    exact absurd H (by simp)
   rw [if_pos c5] at H
   have c5b0 : decide (0 ≤ x6_1) = true := decide_eq_true c5
   clear c5
   obtain ⟨t410, A6, H⟩ := bs_ H
   by_cases c7 : x5_1.length < 17592186044416
   rotate_left
   ·rw [if_neg c7] at H
    exact absurd H (by simp)
   rw [if_pos c7] at H
   have LMc7 := am_ c7
   clear c7
   obtain ⟨y411, hy411⟩ : ∃ y_ : List Int, y_ = (x5_1 ++ [t410]) := ⟨_, rfl⟩
   replace H : (computusref19_Days.l0 k1 a1 y411 (wrap64 (x6_1 + 1)) a0_0 l0_1 l0_2) = some r := by first | (rw [hy411]; with_reducible exact H) | (have H2_ := (Option.bind_some _ _).symm.trans H; rw [hy411]; with_reducible exact H2_) | (have H2_ := (Option.bind_some _ _).symm.trans H; with_reducible exact H2_) | with_reducible exact H | (rw [hy411]; exact H) | exact H
   have Ny411 := am_ hy411
   clear hy411
   have H' := am_ H
   clear H
   obtain ⟨hcz8_0, hcz8_1, hcz8_2⟩ := cz3_ BK408.out
   obtain ⟨hfz8_0, hfz8_1, hfz8_2⟩ := fz3_ BK408.out
   have p409 : 0 ≤ (x6_1 : Int) := of_decide_eq_true as_
   have q409 : x6_1 < (l0_2.length : Int) := of_decide_eq_true as_
   obtain ⟨ad409, e409, hx409_0, hx409_1, hx409_2, hx409_3, hx409_4, hx409_5, hx409_6, hx409_7, hx409_8⟩ := at_T68 HR0_2.out x6_1 p409 q409
   cases e409
   replace hx409_0 := cm_ HB.out hx409_0
   replace hx409_1 := cm_ HB.out hx409_1
   replace hx409_2 := cm_ HB.out hx409_2
   replace hx409_3 := cm_ HB.out hx409_3
   replace hx409_4 := cm_ HB.out hx409_4
   replace hx409_5 := cm_ HB.out hx409_5
   replace hx409_6 := cm_ HB.out hx409_6
   replace hx409_7 := cm_ HB.out hx409_7
   replace hx409_8 := cm_ HB.out hx409_8
   replace p409 := eq_true p409
   replace q409 := eq_true q409
   go_wp2_with (first | ((with_reducible refine gate_callee (f := 48) rfl ?_); refine gl_ (some 22) Try.func48 #[.agg #[.int .i64 ((rd_T68 l0_2 x6_1).f3.f0), .int .i64 ((rd_T68 l0_2 x6_1).f3.f1), .int .i64 ((rd_T68 l0_2 x6_1).f3.f2), .int .i64 ((rd_T68 l0_2 x6_1).f3.f3), .int .i64 ((rd_T68 l0_2 x6_1).f3.f4), .int .i64 ((rd_T68 l0_2 x6_1).f3.f5)], .int .i64 a1] ?_; (with_reducible refine (computusref16_Day.calls k1 ((rd_T68 l0_2 x6_1).f3.f0) ((rd_T68 l0_2 x6_1).f3.f1) ((rd_T68 l0_2 x6_1).f3.f2) ((rd_T68 l0_2 x6_1).f3.f3) ((rd_T68 l0_2 x6_1).f3.f4) ((rd_T68 l0_2 x6_1).f3.f5) a1 t410 _ A6.out).mono ?_); rintro e w9 ⟨rfl, hb⟩; refine ⟨_, rfl, ?_⟩; replace HO_5 := am_ (Kd.R_below (rk_ HO_5.out) hb); replace BK408 := bw_ BK408 hb; replace HB := bt_ hb; (try clear hb); (try clear hi)) | ((with_reducible refine gate_builtin (b := .append) (xs := #[.tmp 14, .tmp 23]) rfl ?_); at_builtin; refine Kd.R_append (Kd.int .i64) (w0 := w) w.heap.size rfl (.tmp 14) (.tmp 23) 40 3 (.int .i64 0) 8 rfl Try.underlying40 info3 rfl (by decide) (by omega) u5 x5_1 t410 [.int .i64 t410] (fun _ => True) (fun _ => False) rfl rfl ?aP (fun _ hk => hk.elim) ?aF ?aO ?aB ?aS ?aL ?_; (case aP => exact rfl); (case aB => exact bh_); (case aF => exact (fun _ _ => trivial)); (case aO => exact (rk_ HO_5.out)); (case aS => exact bz_); (case aL => have := LMc7.out; omega); intro v412 w10 ho hb hg hat; rw [← Ny411.out] at ho; have n0_ := am_ (blk_grown (bk_ BK408.out) hg (Kd.R_ne HO_5.out BK408.out (by decide))); have n1_ := am_ (hb); have n2_ := am_ (ho); clear BK408; clear HB; clear HO_5; have BK408 := n0_; have HB := n1_; have HO413 := n2_; clear n0_ n1_ n2_; clear ho hb hg hat))
   go_roundg k1
   case measure => have := HK1.out; omega
   case rel => exact ⟨(y411), (wrap64 (x6_1 + 1)), rs_, H', ⟨by have := HK1.out; omega⟩, ⟨rk_ HO413.out⟩, ⟨bk_ BK408.out⟩, ⟨bh_⟩⟩
def computusref19_Of.f (k : Nat) (a0_0 : Int) (l0_1 : List (S66)) (l0_2 : List (S68)) (a1 : Int) (a2 : Int) : Option ((List (S44))) := (computusref18_Starts.f k a0_0 l0_1 l0_2 a1).bind fun t415 => ((computusref19_Days.f k a0_0 l0_1 l0_2 a1).bind fun t418 => ((computusref19_In.f k a0_0 l0_1 l0_2 t415 t418 a2).bind fun t421 => (some t421)))
def computusref19_Of.T1 : Bool × List (List Nat × List Nat) := (true, [([], []), ([], []), ([], []), ([1, 2], [1, 2]), ([], []), ([], []), ([4, 5, 3], [4, 5]), ([], []), ([0, 3, 6, 7, 6], [0, 3, 6, 7]), ([8, 8, 0, 1, 2, 3, 4, 5, 6, 7, 8], [8])])
def computusref19_Of.B1 : List Nat := [0, 0, 0, 6, 0, 0, 62, 0, 255, 511]
theorem computusref19_Of.tab1 : rtab .any (opsOf Try.f16 1) = computusref19_Of.T1 := by kernel_rfl
theorem computusref19_Of.bits1 : waitsOk computusref19_Of.T1.2 computusref19_Of.B1 = true := by kernel_rfl
theorem computusref19_Of.calls (k : Nat) (a0_0 : Int) (A0_1 : Option Addr) (c0_1 : Nat) (l0_1 : List (S66)) (A0_2 : Option Addr) (c0_2 : Nat) (l0_2 : List (S68)) (a1 : Int) (a2 : Int) (r : List (S44)) (w : World) (hr0_1 : Kd.C k66 w A0_1 l0_1.length l0_1) (hc0_1 : l0_1.length ≤ c0_1) (hr0_2 : Kd.C k68 w A0_2 l0_2.length l0_2) (hc0_2 : l0_2.length ≤ c0_2) (h : computusref19_Of.f k a0_0 l0_1 l0_2 a1 a2 = some r) :
  Calls Try.prog 16 #[.agg #[.int .i64 a0_0, .slice A0_1 l0_1.length c0_1, .slice A0_2 l0_2.length c0_2], .int .i64 a1, .int .i64 a2] w fun e w' => ∃ v0_ : Value, e = .returned (v0_) ∧ Kd.R k44 44 w' w.heap.size (fun _ => True) v0_ r ∧ Below w.heap.size w w' := by
 have hu36 := Try.underlying36
 have HR0_1 := am_ hr0_1
 have HC0_1 := am_ hc0_1
 clear hr0_1 hc0_1
 have HR0_2 := am_ hr0_2
 have HC0_2 := am_ hc0_2
 clear hr0_2 hc0_2
 have HB := am_ (Below.refl w.heap.size w)
 have H := h
 clear h
 unfold computusref19_Of.f at H
 obtain ⟨t415, A4, H⟩ := bs_ H
 obtain ⟨t418, A5, H⟩ := bs_ H
 obtain ⟨t421, A6, H⟩ := bs_ H
 obtain rfl := Option.some.inj H
 go_enter Try.func16, Try.ntmps16
 try go_wp2_with (first | ((with_reducible refine gate_dst (N := 3) rfl ?_); refine bx_ (w := w) (N := 3) (cs := #[.int .i64 a0_0, .slice A0_1 l0_1.length c0_1, .slice A0_2 l0_2.length c0_2]) (t := 36) ?_; intro gb414 w7 BK414 n0_ GW414 GE414; clear HB; have HB := n0_; clear n0_))
 replace BK414 := am_ (blk_drew BK414.out)
 replace HB := am_ (below_drew1 HB.out)
 refine start_ (n := 10) (S := fun w' => w'.cell? ⟨gb414, 0, none⟩ = some (.int .i64 a0_0) ∧ w'.cell? ⟨gb414, 1, none⟩ = some (.slice A0_1 l0_1.length c0_1) ∧ w'.cell? ⟨gb414, 2, none⟩ = some (.slice A0_2 l0_2.length c0_2)) (ds := []) (bf_ 10 0) (by kernel_rfl) rfl rfl (cz3_ BK414.out) (fun hHeld => ?_); refine with_tabW computusref19_Of.tab1 computusref19_Of.bits1 (fun HT_ HW_ => ?_)
 generalize w7.drew = w8 at BK414 HB hHeld ⊢
 refine pu_ 2 (some 9) (bf_ 10 4) HT_.out ?_
 refine pu_ 5 (some 12) (bf_ 10 36) HT_.out ?_
 refine pu_ 7 (some 14) (bf_ 10 164) HT_.out ?_
 refine ta_ 0 (some 7) (bf_ 10 165) HT_.out HW_.out hHeld ?_
 refine ta_ 1 (some 8) (bf_ 10 167) HT_.out HW_.out hHeld ?_
 refine ta_ 4 (some 11) (bf_ 10 183) HT_.out HW_.out hHeld ?_
 refine one_ (i := 3) (N := some 10) (bf_ 10 191) rfl rfl (one_of HT_.out (by kernel_rfl)) (by decide) (fun K hK => ?_)
 refine gs_ Try.func36 #[.agg #[.int .i64 a0_0, .slice A0_1 l0_1.length c0_1, .slice A0_2 l0_2.length c0_2], .int .i64 a1] ?_
 with_reducible refine (computusref18_Starts.calls k a0_0 _ _ l0_1 _ _ l0_2 a1 t415 _ ?side1 ?side2 ?side3 ?side4 A4.out).mono ?_
 (case side1 => exact ck_ (Kd.C_below HR0_1.out HB.out))
 (case side2 => exact HC0_1.out)
 (case side3 => exact ck_ (Kd.C_below HR0_2.out HB.out))
 (case side4 => exact HC0_2.out)
 rintro e w9 ⟨v416, rfl, ho0, hb⟩
 refine ⟨_, rfl, ?_⟩
 have HO417 := am_ (Kd.R_lower ho0 bz_)
 replace BK414 := bw_ BK414 hb
 replace HB := bt_ hb
 (try clear hb)
 (try clear hb2)
 (try clear hk)
 (try clear hi)
 (try clear ho0)
 refine hK.out _ _ (by first | exact (cz3_ BK414.out) | exact hHeld) (fun hHeld => ?_)
 clear hK K
 refine norm_ (a' := ?_) ?_ ?_
 rotate_left
 ·show Act.put _ (some 10) _ = _
  simp only [Act.put, sA_, sZ_, sS_, i64_w, i32_w]
  rfl
 refine one_ (i := 6) (N := some 13) (bf_ 10 255) rfl rfl (one_of HT_.out (by kernel_rfl)) (by decide) (fun K hK => ?_)
 refine gs_ Try.func37 #[.agg #[.int .i64 a0_0, .slice A0_1 l0_1.length c0_1, .slice A0_2 l0_2.length c0_2], .int .i64 a1] ?_
 with_reducible refine (computusref19_Days.calls k a0_0 _ _ l0_1 _ _ l0_2 a1 t418 _ ?side1 ?side2 ?side3 ?side4 A5.out).mono ?_
 (case side1 => exact ck_ (Kd.C_below HR0_1.out HB.out))
 (case side2 => exact HC0_1.out)
 (case side3 => exact ck_ (Kd.C_below HR0_2.out HB.out))
 (case side4 => exact HC0_2.out)
 rintro e w10 ⟨v419, rfl, ho0, hb⟩
 refine ⟨_, rfl, ?_⟩
 have HO420 := am_ (Kd.R_lower (Kd.R_new' ho0 (Kd.R_lt (rk_ HO417.out))) bz_)
 replace HO417 := am_ (Kd.R_elder' (rk_ HO417.out) (Kd.R_base ho0) hb)
 replace BK414 := bw_ BK414 hb
 replace HB := bt_ hb
 (try clear hb)
 (try clear hb2)
 (try clear hk)
 (try clear hi)
 (try clear ho0)
 obtain ⟨Ao11, co11, eo11⟩ := Kd.R_slice HO417.out
 (first | subst eo11 | (injection eo11 with f1_ f2_ f3_; have f4_ := f1_.symm; have f5_ := f3_.symm; clear f1_ f2_ f3_; subst f4_; subst f5_))
 obtain ⟨Ao12, co12, eo12⟩ := Kd.R_slice HO420.out
 (first | subst eo12 | (injection eo12 with f1_ f2_ f3_; have f4_ := f1_.symm; have f5_ := f3_.symm; clear f1_ f2_ f3_; subst f4_; subst f5_))
 refine hK.out _ _ (by first | exact (cz3_ BK414.out) | exact hHeld) (fun hHeld => ?_)
 clear hK K
 refine norm_ (a' := ?_) ?_ ?_
 rotate_left
 ·show Act.put _ (some 13) _ = _
  simp only [Act.put, sA_, sZ_, sS_, i64_w, i32_w]
  rfl
 refine one_ (i := 8) (N := some 15) (bf_ 10 511) rfl rfl (one_of HT_.out (by kernel_rfl)) (by decide) (fun K hK => ?_)
 refine gs_ Try.func35 #[.agg #[.int .i64 a0_0, .slice A0_1 l0_1.length c0_1, .slice A0_2 l0_2.length c0_2], .slice Ao11 t415.length co11, .slice Ao12 t418.length co12, .int .i64 a2] ?_
 with_reducible refine (computusref19_In.calls k a0_0 _ _ l0_1 _ _ l0_2 _ _ t415 _ _ t418 a2 t421 _ ?side1 ?side2 ?side3 ?side4 ?side5 ?side6 ?side7 ?side8 A6.out).mono ?_
 (case side1 => exact ck_ (Kd.C_below HR0_1.out HB.out))
 (case side2 => exact HC0_1.out)
 (case side3 => exact ck_ (Kd.C_below HR0_2.out HB.out))
 (case side4 => exact HC0_2.out)
 (case side5 => exact ck_ (Kd.R_reads' HO417.out).2.2)
 (case side6 => exact (Kd.R_reads' HO417.out).2.1)
 (case side7 => exact ck_ (Kd.R_reads' HO420.out).2.2)
 (case side8 => exact (Kd.R_reads' HO420.out).2.1)
 rintro e w13 ⟨v422, rfl, ho0, hb⟩
 refine ⟨_, rfl, ?_⟩
 replace HO417 := rw_ HO417 hb
 replace HO420 := rw_ HO420 hb
 have HO423 := am_ (Kd.R_lower ho0 bz_)
 replace BK414 := bw_ BK414 hb
 replace HB := bt_ hb
 (try clear hb)
 (try clear hb2)
 (try clear hk)
 (try clear hi)
 (try clear ho0)
 refine hK.out _ _ (by first | exact (cz3_ BK414.out) | exact hHeld) (fun hHeld => ?_)
 clear hK K
 refine norm_ (a' := ?_) ?_ ?_
 rotate_left
 ·show Act.put _ (some 15) _ = _
  simp only [Act.put, sA_, sZ_, sS_, i64_w, i32_w]
  rfl
 refine pu_ 9 (some 6) (bf_ 10 1023) HT_.out ?_
 refine done_ (done_of HT_.out (by kernel_rfl)) ?_
 try go_wp2
 go_ret
 exact ⟨_, by first | rfl | (simp [errW_none, errW_some] <;> rfl) | (simp [*, errW_none, errW_some] <;> rfl), rk_ HO423.out, bh_⟩
def computuslaw21_forward.l0 : Nat → List (S44) → List (S28) → Int → Option ((List (S28)))
 | 0, _, _, _ => none
 | k + 1, x0, x3, x4 => if x4 < (x0.length : Int) then (if 0 ≤ x4 then (if x3.length < 3518437208883 then (computuslaw21_forward.l0 k x0 (x3 ++ [(⟨(rd_T44 x0 x4).f0, (rd_T44 x0 x4).f1, (rd_T44 x0 x4).f2, (rd_T44 x0 x4).f3⟩ : S28)]) (wrap64 (x4 + 1))) else (none)) else (none)) else (some x3)
def computuslaw21_forward.f (k : Nat) (l0 : List (S44)) : Option ((List (S28))) := computuslaw21_forward.l0 k l0 ([] : List (S28)) 0
def computuslaw21_forward.T5 : Bool × List (List Nat × List Nat) := (true, [([], []), ([], []), ([], []), ([1, 2], [1, 2]), ([3], [3]), ([4], [4]), ([], []), ([], []), ([6, 7], [6, 7]), ([8], [8]), ([9], [9]), ([], []), ([], []), ([11, 12], [11, 12]), ([13], [13]), ([14], [14]), ([], []), ([], []), ([16, 17], [16, 17]), ([18], [18]), ([19], [19]), ([5, 10, 15, 20], [5, 10, 15, 20]), ([21], [21]), ([0, 22], [0, 22]), ([23, 23, 0, 1, 2, 3, 4, 5, 6, 7, 8, 9, 10, 11, 12, 13, 14, 15, 16, 17, 18, 19, 20, 21, 22, 23], [0, 23])])
def computuslaw21_forward.B5 : List Nat := [0, 0, 0, 6, 14, 30, 0, 0, 192, 448, 960, 0, 0, 6144, 14336, 30720, 0, 0, 196608, 458752, 983040, 2097150, 4194302, 8388607, 16777215]
theorem computuslaw21_forward.tab5 : rtab .any (opsOf Try.f18 5) = computuslaw21_forward.T5 := by kernel_rfl
theorem computuslaw21_forward.bits5 : waitsOk computuslaw21_forward.T5.2 computuslaw21_forward.B5 = true := by kernel_rfl
theorem computuslaw21_forward.calls (k : Nat) (A0 : Option Addr) (c0 : Nat) (l0 : List (S44)) (r : List (S28)) (w : World) (hr0 : Kd.C k44 w A0 l0.length l0) (hc0 : l0.length ≤ c0) (h : computuslaw21_forward.f k l0 = some r) :
  Calls Try.prog 18 #[.slice A0 l0.length c0] w fun e w' => ∃ v0_ : Value, e = .returned (v0_) ∧ Kd.R k28 28 w' w.heap.size (fun _ => True) v0_ r ∧ Below w.heap.size w w' := by
 have hu28 := Try.underlying28
 have HR0 := am_ hr0
 have HC0 := am_ hc0
 clear hr0 hc0
 have HB := am_ (Below.refl w.heap.size w)
 have H := h
 clear h
 unfold computuslaw21_forward.f at H
 have H' := am_ H
 clear H
 go_enter Try.func18, Try.ntmps18
 go_wp2
 go_loopg [3, 4] k (fun kq v3 v4 w' => ∃ (x3_1 : List (S28)) (x4_1 : Int), v4 = .int .i64 x4_1 ∧ Aside0 (computuslaw21_forward.l0 kq l0 x3_1 x4_1 = some r) ∧ Aside0 (kq ≤ k) ∧ Aside0 (Kd.R k28 28 w' w.heap.size (fun _ => True) v3 x3_1) ∧ Aside0 (Below w.heap.size w w'))
 case atStart => exact ⟨(([] : List (S28))), (0), rs_, H', ⟨Nat.le_refl _⟩, ⟨nl_⟩, ⟨bh_⟩⟩
 case round =>
  clear H'
  obtain ⟨x3_1, x4_1, rfl, HA, HK1, HO_3, HB⟩ := hrel
  cases gk with
  | zero => exact absurd HA.out (by simp [computuslaw21_forward.l0])
  | succ k1 =>
   have H := HA.out
   clear HA
   simp only [computuslaw21_forward.l0] at H
   by_cases c2 : x4_1 < (l0.length : Int)
   rotate_left
   ·rw [if_neg c2] at H
    have c2b0 : decide (x4_1 < (l0.length : Int)) = false := decide_eq_false c2
    clear c2
    obtain rfl := Option.some.inj H
    go_wp2
    go_ret
    exact ⟨_, by first | rfl | (simp [errW_none, errW_some] <;> rfl) | (simp [*, errW_none, errW_some] <;> rfl), rk_ HO_3.out, bh_⟩
   rw [if_pos c2] at H
   have c2b0 : decide (x4_1 < (l0.length : Int)) = true := decide_eq_true c2
   clear c2
   by_cases c3 : 0 ≤ x4_1
   rotate_left
   ·rw [if_neg c3] at H
    exact absurd H (by simp)
   rw [if_pos c3] at H
   have c3b0 : decide (0 ≤ x4_1) = true := decide_eq_true c3
   clear c3
   by_cases c4 : x3_1.length < 3518437208883
   rotate_left
   ·rw [if_neg c4] at H
    exact absurd H (by simp)
   rw [if_pos c4] at H
   have LMc4 := am_ c4
   clear c4
   obtain ⟨y428, hy428⟩ : ∃ y_ : List (S28), y_ = (x3_1 ++ [(⟨(rd_T44 l0 x4_1).f0, (rd_T44 l0 x4_1).f1, (rd_T44 l0 x4_1).f2, (rd_T44 l0 x4_1).f3⟩ : S28)]) := ⟨_, rfl⟩
   replace H : (computuslaw21_forward.l0 k1 l0 y428 (wrap64 (x4_1 + 1))) = some r := by first | (rw [hy428]; with_reducible exact H) | (have H2_ := (Option.bind_some _ _).symm.trans H; rw [hy428]; with_reducible exact H2_) | (have H2_ := (Option.bind_some _ _).symm.trans H; with_reducible exact H2_) | with_reducible exact H | (rw [hy428]; exact H) | exact H
   have Ny428 := am_ hy428
   clear hy428
   have H' := am_ H
   clear H
   try go_wp2
   replace HO_3 := am_ (Kd.R_drew HO_3.out)
   replace HB := am_ (below_drew1 HB.out)
   have p424 : 0 ≤ (x4_1 : Int) := of_decide_eq_true as_
   have q424 : x4_1 < (l0.length : Int) := of_decide_eq_true as_
   obtain ⟨ad424, e424, hx424_0, hx424_1, hx424_2, hx424_3⟩ := at_T44 HR0.out x4_1 p424 q424
   have hw424_3 := hx424_3
   have hw424_2 := hx424_2
   have hw424_1 := hx424_1
   have hw424_0 := hx424_0
   cases e424
   replace hx424_0 := cm_ HB.out hx424_0
   replace hx424_1 := cm_ HB.out hx424_1
   replace hx424_2 := cm_ HB.out hx424_2
   replace hx424_3 := cm_ HB.out hx424_3
   replace p424 := eq_true p424
   replace q424 := eq_true q424
   have p425 : 0 ≤ (x4_1 : Int) := of_decide_eq_true as_
   have q425 : x4_1 < (l0.length : Int) := of_decide_eq_true as_
   obtain ⟨ad425, e425, hx425_0, hx425_1, hx425_2, hx425_3⟩ := at_T44 HR0.out x4_1 p425 q425
   have hw425_3 := hx425_3
   have hw425_2 := hx425_2
   have hw425_1 := hx425_1
   have hw425_0 := hx425_0
   obtain rfl : ad424 = ad425 := (by injection e425)
   replace hx425_0 := cm_ HB.out hx425_0
   replace hx425_1 := cm_ HB.out hx425_1
   replace hx425_2 := cm_ HB.out hx425_2
   replace hx425_3 := cm_ HB.out hx425_3
   replace p425 := eq_true p425
   replace q425 := eq_true q425
   have p426 : 0 ≤ (x4_1 : Int) := of_decide_eq_true as_
   have q426 : x4_1 < (l0.length : Int) := of_decide_eq_true as_
   obtain ⟨ad426, e426, hx426_0, hx426_1, hx426_2, hx426_3⟩ := at_T44 HR0.out x4_1 p426 q426
   have hw426_3 := hx426_3
   have hw426_2 := hx426_2
   have hw426_1 := hx426_1
   have hw426_0 := hx426_0
   obtain rfl : ad424 = ad426 := (by injection e426)
   replace hx426_0 := cm_ HB.out hx426_0
   replace hx426_1 := cm_ HB.out hx426_1
   replace hx426_2 := cm_ HB.out hx426_2
   replace hx426_3 := cm_ HB.out hx426_3
   replace p426 := eq_true p426
   replace q426 := eq_true q426
   have p427 : 0 ≤ (x4_1 : Int) := of_decide_eq_true as_
   have q427 : x4_1 < (l0.length : Int) := of_decide_eq_true as_
   obtain ⟨ad427, e427, hx427_0, hx427_1, hx427_2, hx427_3⟩ := at_T44 HR0.out x4_1 p427 q427
   have hw427_3 := hx427_3
   have hw427_2 := hx427_2
   have hw427_1 := hx427_1
   have hw427_0 := hx427_0
   obtain rfl : ad424 = ad427 := (by injection e427)
   replace hx427_0 := cm_ HB.out hx427_0
   replace hx427_1 := cm_ HB.out hx427_1
   replace hx427_2 := cm_ HB.out hx427_2
   replace hx427_3 := cm_ HB.out hx427_3
   replace p427 := eq_true p427
   replace q427 := eq_true q427
   refine start_ (n := 25) (S := fun w' => w'.cell? (ad424.add ((x4_1).toNat * 4)) = some (.int .i64 ((rd_T44 l0 x4_1).f0)) ∧ w'.cell? ⟨(ad424.add ((x4_1).toNat * 4)).block, (ad424.add ((x4_1).toNat * 4)).off + 1, none⟩ = some (.int .i64 ((rd_T44 l0 x4_1).f1)) ∧ w'.cell? ⟨(ad424.add ((x4_1).toNat * 4)).block, (ad424.add ((x4_1).toNat * 4)).off + 2, none⟩ = some (.int .i64 ((rd_T44 l0 x4_1).f2)) ∧ w'.cell? ⟨(ad424.add ((x4_1).toNat * 4)).block, (ad424.add ((x4_1).toNat * 4)).off + 3, none⟩ = some (.string ((rd_T44 l0 x4_1).f3)) ∧ w'.cell? (ad424.add ((x4_1).toNat * 4)) = some (.int .i64 ((rd_T44 l0 x4_1).f0)) ∧ w'.cell? ⟨(ad424.add ((x4_1).toNat * 4)).block, (ad424.add ((x4_1).toNat * 4)).off + 1, none⟩ = some (.int .i64 ((rd_T44 l0 x4_1).f1)) ∧ w'.cell? ⟨(ad424.add ((x4_1).toNat * 4)).block, (ad424.add ((x4_1).toNat * 4)).off + 2, none⟩ = some (.int .i64 ((rd_T44 l0 x4_1).f2)) ∧ w'.cell? ⟨(ad424.add ((x4_1).toNat * 4)).block, (ad424.add ((x4_1).toNat * 4)).off + 3, none⟩ = some (.string ((rd_T44 l0 x4_1).f3)) ∧ w'.cell? (ad424.add ((x4_1).toNat * 4)) = some (.int .i64 ((rd_T44 l0 x4_1).f0)) ∧ w'.cell? ⟨(ad424.add ((x4_1).toNat * 4)).block, (ad424.add ((x4_1).toNat * 4)).off + 1, none⟩ = some (.int .i64 ((rd_T44 l0 x4_1).f1)) ∧ w'.cell? ⟨(ad424.add ((x4_1).toNat * 4)).block, (ad424.add ((x4_1).toNat * 4)).off + 2, none⟩ = some (.int .i64 ((rd_T44 l0 x4_1).f2)) ∧ w'.cell? ⟨(ad424.add ((x4_1).toNat * 4)).block, (ad424.add ((x4_1).toNat * 4)).off + 3, none⟩ = some (.string ((rd_T44 l0 x4_1).f3)) ∧ w'.cell? (ad424.add ((x4_1).toNat * 4)) = some (.int .i64 ((rd_T44 l0 x4_1).f0)) ∧ w'.cell? ⟨(ad424.add ((x4_1).toNat * 4)).block, (ad424.add ((x4_1).toNat * 4)).off + 1, none⟩ = some (.int .i64 ((rd_T44 l0 x4_1).f1)) ∧ w'.cell? ⟨(ad424.add ((x4_1).toNat * 4)).block, (ad424.add ((x4_1).toNat * 4)).off + 2, none⟩ = some (.int .i64 ((rd_T44 l0 x4_1).f2)) ∧ w'.cell? ⟨(ad424.add ((x4_1).toNat * 4)).block, (ad424.add ((x4_1).toNat * 4)).off + 3, none⟩ = some (.string ((rd_T44 l0 x4_1).f3))) (ds := []) (bf_ 25 0) (by kernel_rfl) rfl rfl ⟨((HB.out.cell (World.block_lt_of_cell? w _ hw424_0)).trans hw424_0), ((HB.out.cell (World.block_lt_of_cell? w _ hw424_1)).trans hw424_1), ((HB.out.cell (World.block_lt_of_cell? w _ hw424_2)).trans hw424_2), ((HB.out.cell (World.block_lt_of_cell? w _ hw424_3)).trans hw424_3), ((HB.out.cell (World.block_lt_of_cell? w _ hw425_0)).trans hw425_0), ((HB.out.cell (World.block_lt_of_cell? w _ hw425_1)).trans hw425_1), ((HB.out.cell (World.block_lt_of_cell? w _ hw425_2)).trans hw425_2), ((HB.out.cell (World.block_lt_of_cell? w _ hw425_3)).trans hw425_3), ((HB.out.cell (World.block_lt_of_cell? w _ hw426_0)).trans hw426_0), ((HB.out.cell (World.block_lt_of_cell? w _ hw426_1)).trans hw426_1), ((HB.out.cell (World.block_lt_of_cell? w _ hw426_2)).trans hw426_2), ((HB.out.cell (World.block_lt_of_cell? w _ hw426_3)).trans hw426_3), ((HB.out.cell (World.block_lt_of_cell? w _ hw427_0)).trans hw427_0), ((HB.out.cell (World.block_lt_of_cell? w _ hw427_1)).trans hw427_1), ((HB.out.cell (World.block_lt_of_cell? w _ hw427_2)).trans hw427_2), ((HB.out.cell (World.block_lt_of_cell? w _ hw427_3)).trans hw427_3)⟩ (fun hHeld => ?_); refine with_tabW computuslaw21_forward.tab5 computuslaw21_forward.bits5 (fun HT_ HW_ => ?_)
   generalize wr.drew = w5 at HO_3 HB hx424_0 hx424_1 hx424_2 hx424_3 hx425_0 hx425_1 hx425_2 hx425_3 hx426_0 hx426_1 hx426_2 hx426_3 hx427_0 hx427_1 hx427_2 hx427_3 hHeld ⊢
   refine pu_ 0 (some 11) (bf_ 25 1) HT_.out ?_
   refine pu_ 1 (some 12) (bf_ 25 3) HT_.out ?_
   refine pu_ 2 (some 13) (bf_ 25 7) HT_.out ?_
   refine pu_ 3 (some 14) (bf_ 25 15) HT_.out ?_
   refine pu_ 4 (some 15) (bf_ 25 31) HT_.out ?_
   refine pu_ 6 (some 17) (bf_ 25 95) HT_.out ?_
   refine pu_ 7 (some 18) (bf_ 25 223) HT_.out ?_
   refine pu_ 8 (some 19) (bf_ 25 479) HT_.out ?_
   refine pu_ 9 (some 20) (bf_ 25 991) HT_.out ?_
   refine pu_ 11 (some 22) (bf_ 25 3039) HT_.out ?_
   refine pu_ 12 (some 23) (bf_ 25 7135) HT_.out ?_
   refine pu_ 13 (some 24) (bf_ 25 15327) HT_.out ?_
   refine pu_ 14 (some 25) (bf_ 25 31711) HT_.out ?_
   refine pu_ 16 (some 27) (bf_ 25 97247) HT_.out ?_
   refine pu_ 17 (some 28) (bf_ 25 228319) HT_.out ?_
   refine pu_ 18 (some 29) (bf_ 25 490463) HT_.out ?_
   refine pu_ 19 (some 30) (bf_ 25 1014751) HT_.out ?_
   refine ta_ 5 (some 16) (bf_ 25 1014783) HT_.out HW_.out hHeld ?_
   refine ta_ 10 (some 21) (bf_ 25 1015807) HT_.out HW_.out hHeld ?_
   refine ta_ 15 (some 26) (bf_ 25 1048575) HT_.out HW_.out hHeld ?_
   refine ta_ 20 (some 31) (bf_ 25 2097151) HT_.out HW_.out hHeld ?_
   refine pu_ 21 (some 32) (bf_ 25 4194303) HT_.out ?_
   refine one_ (i := 22) (N := some 33) (bf_ 25 8388607) rfl rfl (one_of HT_.out (by kernel_rfl)) (by decide) (fun K hK => ?_)
   refine value_ (w1 := ?_) (v := ?_) (by rfl) rfl ?_ ?_
   rotate_left 2
   ·go_simp
    constructor
    ·rfl
    ·rfl
   refine hK.out _ _ ⟨(World.cell?_alloc_lt _ _ _ (World.block_lt_of_cell? _ _ (((HB.out.cell (World.block_lt_of_cell? w _ hw424_0)).trans hw424_0)))).trans (((HB.out.cell (World.block_lt_of_cell? w _ hw424_0)).trans hw424_0)), (World.cell?_alloc_lt _ _ _ (World.block_lt_of_cell? _ _ (((HB.out.cell (World.block_lt_of_cell? w _ hw424_1)).trans hw424_1)))).trans (((HB.out.cell (World.block_lt_of_cell? w _ hw424_1)).trans hw424_1)), (World.cell?_alloc_lt _ _ _ (World.block_lt_of_cell? _ _ (((HB.out.cell (World.block_lt_of_cell? w _ hw424_2)).trans hw424_2)))).trans (((HB.out.cell (World.block_lt_of_cell? w _ hw424_2)).trans hw424_2)), (World.cell?_alloc_lt _ _ _ (World.block_lt_of_cell? _ _ (((HB.out.cell (World.block_lt_of_cell? w _ hw424_3)).trans hw424_3)))).trans (((HB.out.cell (World.block_lt_of_cell? w _ hw424_3)).trans hw424_3)), (World.cell?_alloc_lt _ _ _ (World.block_lt_of_cell? _ _ (((HB.out.cell (World.block_lt_of_cell? w _ hw425_0)).trans hw425_0)))).trans (((HB.out.cell (World.block_lt_of_cell? w _ hw425_0)).trans hw425_0)), (World.cell?_alloc_lt _ _ _ (World.block_lt_of_cell? _ _ (((HB.out.cell (World.block_lt_of_cell? w _ hw425_1)).trans hw425_1)))).trans (((HB.out.cell (World.block_lt_of_cell? w _ hw425_1)).trans hw425_1)), (World.cell?_alloc_lt _ _ _ (World.block_lt_of_cell? _ _ (((HB.out.cell (World.block_lt_of_cell? w _ hw425_2)).trans hw425_2)))).trans (((HB.out.cell (World.block_lt_of_cell? w _ hw425_2)).trans hw425_2)), (World.cell?_alloc_lt _ _ _ (World.block_lt_of_cell? _ _ (((HB.out.cell (World.block_lt_of_cell? w _ hw425_3)).trans hw425_3)))).trans (((HB.out.cell (World.block_lt_of_cell? w _ hw425_3)).trans hw425_3)), (World.cell?_alloc_lt _ _ _ (World.block_lt_of_cell? _ _ (((HB.out.cell (World.block_lt_of_cell? w _ hw426_0)).trans hw426_0)))).trans (((HB.out.cell (World.block_lt_of_cell? w _ hw426_0)).trans hw426_0)), (World.cell?_alloc_lt _ _ _ (World.block_lt_of_cell? _ _ (((HB.out.cell (World.block_lt_of_cell? w _ hw426_1)).trans hw426_1)))).trans (((HB.out.cell (World.block_lt_of_cell? w _ hw426_1)).trans hw426_1)), (World.cell?_alloc_lt _ _ _ (World.block_lt_of_cell? _ _ (((HB.out.cell (World.block_lt_of_cell? w _ hw426_2)).trans hw426_2)))).trans (((HB.out.cell (World.block_lt_of_cell? w _ hw426_2)).trans hw426_2)), (World.cell?_alloc_lt _ _ _ (World.block_lt_of_cell? _ _ (((HB.out.cell (World.block_lt_of_cell? w _ hw426_3)).trans hw426_3)))).trans (((HB.out.cell (World.block_lt_of_cell? w _ hw426_3)).trans hw426_3)), (World.cell?_alloc_lt _ _ _ (World.block_lt_of_cell? _ _ (((HB.out.cell (World.block_lt_of_cell? w _ hw427_0)).trans hw427_0)))).trans (((HB.out.cell (World.block_lt_of_cell? w _ hw427_0)).trans hw427_0)), (World.cell?_alloc_lt _ _ _ (World.block_lt_of_cell? _ _ (((HB.out.cell (World.block_lt_of_cell? w _ hw427_1)).trans hw427_1)))).trans (((HB.out.cell (World.block_lt_of_cell? w _ hw427_1)).trans hw427_1)), (World.cell?_alloc_lt _ _ _ (World.block_lt_of_cell? _ _ (((HB.out.cell (World.block_lt_of_cell? w _ hw427_2)).trans hw427_2)))).trans (((HB.out.cell (World.block_lt_of_cell? w _ hw427_2)).trans hw427_2)), (World.cell?_alloc_lt _ _ _ (World.block_lt_of_cell? _ _ (((HB.out.cell (World.block_lt_of_cell? w _ hw427_3)).trans hw427_3)))).trans (((HB.out.cell (World.block_lt_of_cell? w _ hw427_3)).trans hw427_3))⟩ (fun hHeld => ?_)
   clear hK K
   refine norm_ (a' := ?_) ?_ ?_
   rotate_left
   ·show Act.put _ (some 33) _ = _
    simp only [Act.put, sA_, sZ_, sS_, i64_w, i32_w]
    rfl
   refine one_ (i := 23) (N := some 34) (bf_ 25 16777215) rfl rfl (one_of HT_.out (by kernel_rfl)) (by decide) (fun K hK => ?_)
   refine Kd.R_append_step k28 (w0 := w) w.heap.size (by rfl) (.tmp 11) (.tmp 33) 24 28 (.agg #[(.int .i64 0), (.int .i64 0), (.int .i64 0), (.string ⟨#[]⟩)]) 40 rfl Try.underlying24 info28 rfl (by decide) (by omega) u3 x3_1 (⟨(rd_T44 l0 x4_1).f0, (rd_T44 l0 x4_1).f1, (rd_T44 l0 x4_1).f2, (rd_T44 l0 x4_1).f3⟩ : S28) [.int .i64 ((rd_T44 l0 x4_1).f0), .int .i64 ((rd_T44 l0 x4_1).f1), .int .i64 ((rd_T44 l0 x4_1).f2), .string ((rd_T44 l0 x4_1).f3)] (fun _ => True) (fun _ => False) rfl rfl ?aP (fun _ hk => hk.elim) ?aF ?aO ?aB ?aS ?aL ?_
   (case aP => exact k28_mkM _ _ _ (⟨(rd_T44 l0 x4_1).f0, (rd_T44 l0 x4_1).f1, (rd_T44 l0 x4_1).f2, (rd_T44 l0 x4_1).f3⟩ : S28))
   (case aB => exact bh_)
   (case aF => exact (fun _ _ => trivial))
   (case aO => exact (rk_ HO_3.out))
   (case aS => exact bz_)
   (case aL => have := LMc4.out; omega)
   intro v429 w6 ho hb hg hat
   rw [← Ny428.out] at ho
   have n0_ := am_ (hb)
   have n1_ := am_ (ho)
   clear HB
   clear HO_3
   have HB := n0_
   have HO430 := n1_
   clear n0_ n1_
   clear ho hb hg hat
   refine hK.out _ _ ⟨((HB.out.cell (World.block_lt_of_cell? w _ hw424_0)).trans hw424_0), ((HB.out.cell (World.block_lt_of_cell? w _ hw424_1)).trans hw424_1), ((HB.out.cell (World.block_lt_of_cell? w _ hw424_2)).trans hw424_2), ((HB.out.cell (World.block_lt_of_cell? w _ hw424_3)).trans hw424_3), ((HB.out.cell (World.block_lt_of_cell? w _ hw425_0)).trans hw425_0), ((HB.out.cell (World.block_lt_of_cell? w _ hw425_1)).trans hw425_1), ((HB.out.cell (World.block_lt_of_cell? w _ hw425_2)).trans hw425_2), ((HB.out.cell (World.block_lt_of_cell? w _ hw425_3)).trans hw425_3), ((HB.out.cell (World.block_lt_of_cell? w _ hw426_0)).trans hw426_0), ((HB.out.cell (World.block_lt_of_cell? w _ hw426_1)).trans hw426_1), ((HB.out.cell (World.block_lt_of_cell? w _ hw426_2)).trans hw426_2), ((HB.out.cell (World.block_lt_of_cell? w _ hw426_3)).trans hw426_3), ((HB.out.cell (World.block_lt_of_cell? w _ hw427_0)).trans hw427_0), ((HB.out.cell (World.block_lt_of_cell? w _ hw427_1)).trans hw427_1), ((HB.out.cell (World.block_lt_of_cell? w _ hw427_2)).trans hw427_2), ((HB.out.cell (World.block_lt_of_cell? w _ hw427_3)).trans hw427_3)⟩ (fun hHeld => ?_)
   clear hK K
   refine norm_ (a' := ?_) ?_ ?_
   rotate_left
   ·show Act.put _ (some 34) _ = _
    simp only [Act.put, sA_, sZ_, sS_, i64_w, i32_w]
    rfl
   refine pu_ 24 (some 3) (bf_ 25 33554431) HT_.out ?_
   refine done_ (done_of HT_.out (by kernel_rfl)) ?_
   try go_wp2
   go_roundg k1
   case measure => have := HK1.out; omega
   case rel => exact ⟨(y428), (wrap64 (x4_1 + 1)), rs_, H', ⟨by have := HK1.out; omega⟩, ⟨rk_ HO430.out⟩, ⟨bh_⟩⟩
def computusref20_Precedes.f (a0_0 : Int) (a0_1 : Int) (a0_2 : Int) (a0_3 : ByteArray) (a1_0 : Int) (a1_1 : Int) (a1_2 : Int) (a1_3 : ByteArray) : Option (Bool) := if a0_2 < a1_2 then (some true) else (if a0_2 = a1_2 then (if a0_0 < a1_0 then (some true) else (if a0_0 = a1_0 then (some (decide (a0_1 < a1_1))) else (some false))) else (some false))
theorem computusref20_Precedes.calls (a0_0 : Int) (a0_1 : Int) (a0_2 : Int) (a0_3 : ByteArray) (a1_0 : Int) (a1_1 : Int) (a1_2 : Int) (a1_3 : ByteArray) (r : Bool) (w : World) (h : computusref20_Precedes.f a0_0 a0_1 a0_2 a0_3 a1_0 a1_1 a1_2 a1_3 = some r) :
  Calls Try.prog 24 #[.agg #[.int .i64 a0_0, .int .i64 a0_1, .int .i64 a0_2, .string a0_3], .agg #[.int .i64 a1_0, .int .i64 a1_1, .int .i64 a1_2, .string a1_3]] w fun e w' => e = .returned (.bool r) ∧ Below w.heap.size w w' := by
 have hu44 := Try.underlying44
 have HB := am_ (Below.refl w.heap.size w)
 have H := h
 clear h
 unfold computusref20_Precedes.f at H
 by_cases c3 : a0_2 < a1_2
 ·rw [if_pos c3] at H
  have c3b0 : decide (a0_2 < a1_2) = true := decide_eq_true c3
  clear c3
  obtain rfl := Option.some.inj H
  go_enter Try.func24, Try.ntmps24
  go_wp2_with (first | ((with_reducible refine gate_dst (N := 2) rfl ?_); refine bx_ (w := w) (N := 2) (cs := #[.int .i64 a0_0, .int .i64 a0_1, .int .i64 a0_2, .string a0_3]) (t := 44) ?_; intro gb431 w4 BK431 n0_ GW431 GE431; clear HB; have HB := n0_; clear n0_) | ((with_reducible refine gate_dst (N := 3) rfl ?_); refine be_ (N := 3) (cs := #[.int .i64 a1_0, .int .i64 a1_1, .int .i64 a1_2, .string a1_3]) (t := 44) ?_; intro gb432 hg w5 hbox hb; have BK432 := am_ (hbox); have GW432 := gw_ (w := w) hg; have GE432 := gw_ (w := w) hg; replace HB := bt_ hb; have NB431_432 := ne_ hg BK431; have NB432_431 := nf_ hg BK431; replace BK431 := bw_ BK431 hb; clear hb hbox hg; have hnb6 := NB431_432.out; have hnc6 := NB432_431.out; obtain ⟨hcz7_0, hcz7_1, hcz7_2, hcz7_3⟩ := cz4_ BK431.out; obtain ⟨hfz7_0, hfz7_1, hfz7_2, hfz7_3⟩ := fz4_ BK431.out; obtain ⟨hcz8_0, hcz8_1, hcz8_2, hcz8_3⟩ := cz4_ BK432.out; obtain ⟨hfz8_0, hfz8_1, hfz8_2, hfz8_3⟩ := fz4_ BK432.out))
  go_ret
  exact rt_
 rw [if_neg c3] at H
 have c3b0 : decide (a0_2 < a1_2) = false := decide_eq_false c3
 clear c3
 by_cases c9 : a0_2 = a1_2
 rotate_left
 ·rw [if_neg c9] at H
  have c9b0 : (a0_2 == a1_2) = false := beq_eq_false_iff_ne.mpr c9
  have c9b1 : (a0_2 != a1_2) = true := bne_iff_ne.mpr c9
  obtain rfl := Option.some.inj H
  go_enter Try.func24, Try.ntmps24
  go_wp2_with (first | ((with_reducible refine gate_dst (N := 2) rfl ?_); refine bx_ (w := w) (N := 2) (cs := #[.int .i64 a0_0, .int .i64 a0_1, .int .i64 a0_2, .string a0_3]) (t := 44) ?_; intro gb431 w27 BK431 n0_ GW431 GE431; clear HB; have HB := n0_; clear n0_) | ((with_reducible refine gate_dst (N := 3) rfl ?_); refine be_ (N := 3) (cs := #[.int .i64 a1_0, .int .i64 a1_1, .int .i64 a1_2, .string a1_3]) (t := 44) ?_; intro gb432 hg w28 hbox hb; have BK432 := am_ (hbox); have GW432 := gw_ (w := w) hg; have GE432 := gw_ (w := w) hg; replace HB := bt_ hb; have NB431_432 := ne_ hg BK431; have NB432_431 := nf_ hg BK431; replace BK431 := bw_ BK431 hb; clear hb hbox hg; have hnb29 := NB431_432.out; have hnc29 := NB432_431.out; obtain ⟨hcz30_0, hcz30_1, hcz30_2, hcz30_3⟩ := cz4_ BK431.out; obtain ⟨hfz30_0, hfz30_1, hfz30_2, hfz30_3⟩ := fz4_ BK431.out; obtain ⟨hcz31_0, hcz31_1, hcz31_2, hcz31_3⟩ := cz4_ BK432.out; obtain ⟨hfz31_0, hfz31_1, hfz31_2, hfz31_3⟩ := fz4_ BK432.out))
  go_ret
  exact rt_
 rw [if_pos c9] at H
 have c9b0 : (a0_2 == a1_2) = true := beq_iff_eq.mpr c9
 have c9b1 : (a0_2 != a1_2) = false := bne_eq_false_iff_eq.mpr c9
 clear c9
 by_cases c10 : a0_0 < a1_0
 ·rw [if_pos c10] at H
  have c10b0 : decide (a0_0 < a1_0) = true := decide_eq_true c10
  clear c10
  obtain rfl := Option.some.inj H
  go_enter Try.func24, Try.ntmps24
  go_wp2_with (first | ((with_reducible refine gate_dst (N := 2) rfl ?_); refine bx_ (w := w) (N := 2) (cs := #[.int .i64 a0_0, .int .i64 a0_1, .int .i64 a0_2, .string a0_3]) (t := 44) ?_; intro gb431 w11 BK431 n0_ GW431 GE431; clear HB; have HB := n0_; clear n0_) | ((with_reducible refine gate_dst (N := 3) rfl ?_); refine be_ (N := 3) (cs := #[.int .i64 a1_0, .int .i64 a1_1, .int .i64 a1_2, .string a1_3]) (t := 44) ?_; intro gb432 hg w12 hbox hb; have BK432 := am_ (hbox); have GW432 := gw_ (w := w) hg; have GE432 := gw_ (w := w) hg; replace HB := bt_ hb; have NB431_432 := ne_ hg BK431; have NB432_431 := nf_ hg BK431; replace BK431 := bw_ BK431 hb; clear hb hbox hg; have hnb13 := NB431_432.out; have hnc13 := NB432_431.out; obtain ⟨hcz14_0, hcz14_1, hcz14_2, hcz14_3⟩ := cz4_ BK431.out; obtain ⟨hfz14_0, hfz14_1, hfz14_2, hfz14_3⟩ := fz4_ BK431.out; obtain ⟨hcz15_0, hcz15_1, hcz15_2, hcz15_3⟩ := cz4_ BK432.out; obtain ⟨hfz15_0, hfz15_1, hfz15_2, hfz15_3⟩ := fz4_ BK432.out))
  go_ret
  exact rt_
 rw [if_neg c10] at H
 have c10b0 : decide (a0_0 < a1_0) = false := decide_eq_false c10
 clear c10
 by_cases c16 : a0_0 = a1_0
 rotate_left
 ·rw [if_neg c16] at H
  have c16b0 : (a0_0 == a1_0) = false := beq_eq_false_iff_ne.mpr c16
  have c16b1 : (a0_0 != a1_0) = true := bne_iff_ne.mpr c16
  obtain rfl := Option.some.inj H
  go_enter Try.func24, Try.ntmps24
  go_wp2_with (first | ((with_reducible refine gate_dst (N := 2) rfl ?_); refine bx_ (w := w) (N := 2) (cs := #[.int .i64 a0_0, .int .i64 a0_1, .int .i64 a0_2, .string a0_3]) (t := 44) ?_; intro gb431 w22 BK431 n0_ GW431 GE431; clear HB; have HB := n0_; clear n0_) | ((with_reducible refine gate_dst (N := 3) rfl ?_); refine be_ (N := 3) (cs := #[.int .i64 a1_0, .int .i64 a1_1, .int .i64 a1_2, .string a1_3]) (t := 44) ?_; intro gb432 hg w23 hbox hb; have BK432 := am_ (hbox); have GW432 := gw_ (w := w) hg; have GE432 := gw_ (w := w) hg; replace HB := bt_ hb; have NB431_432 := ne_ hg BK431; have NB432_431 := nf_ hg BK431; replace BK431 := bw_ BK431 hb; clear hb hbox hg; have hnb24 := NB431_432.out; have hnc24 := NB432_431.out; obtain ⟨hcz25_0, hcz25_1, hcz25_2, hcz25_3⟩ := cz4_ BK431.out; obtain ⟨hfz25_0, hfz25_1, hfz25_2, hfz25_3⟩ := fz4_ BK431.out; obtain ⟨hcz26_0, hcz26_1, hcz26_2, hcz26_3⟩ := cz4_ BK432.out; obtain ⟨hfz26_0, hfz26_1, hfz26_2, hfz26_3⟩ := fz4_ BK432.out))
  go_ret
  exact rt_
 rw [if_pos c16] at H
 have c16b0 : (a0_0 == a1_0) = true := beq_iff_eq.mpr c16
 have c16b1 : (a0_0 != a1_0) = false := bne_eq_false_iff_eq.mpr c16
 clear c16
 obtain rfl := Option.some.inj H
 go_enter Try.func24, Try.ntmps24
 go_wp2_with (first | ((with_reducible refine gate_dst (N := 2) rfl ?_); refine bx_ (w := w) (N := 2) (cs := #[.int .i64 a0_0, .int .i64 a0_1, .int .i64 a0_2, .string a0_3]) (t := 44) ?_; intro gb431 w17 BK431 n0_ GW431 GE431; clear HB; have HB := n0_; clear n0_) | ((with_reducible refine gate_dst (N := 3) rfl ?_); refine be_ (N := 3) (cs := #[.int .i64 a1_0, .int .i64 a1_1, .int .i64 a1_2, .string a1_3]) (t := 44) ?_; intro gb432 hg w18 hbox hb; have BK432 := am_ (hbox); have GW432 := gw_ (w := w) hg; have GE432 := gw_ (w := w) hg; replace HB := bt_ hb; have NB431_432 := ne_ hg BK431; have NB432_431 := nf_ hg BK431; replace BK431 := bw_ BK431 hb; clear hb hbox hg; have hnb19 := NB431_432.out; have hnc19 := NB432_431.out; obtain ⟨hcz20_0, hcz20_1, hcz20_2, hcz20_3⟩ := cz4_ BK431.out; obtain ⟨hfz20_0, hfz20_1, hfz20_2, hfz20_3⟩ := fz4_ BK431.out; obtain ⟨hcz21_0, hcz21_1, hcz21_2, hcz21_3⟩ := cz4_ BK432.out; obtain ⟨hfz21_0, hfz21_1, hfz21_2, hfz21_3⟩ := fz4_ BK432.out))
 go_ret
 exact rt_
mutual
def computusref20_Sort.l0 : Nat → List (S44) → List (S44) → Int → Option ((List (S44)))
 | 0, _, _, _ => none
 | k + 1, x0, x3, x4 => if x4 < (x0.length : Int) then (computusref20_Sort.l1 k x0 x3 x4 ([] : List (S44)) false 0) else (some x3)
def computusref20_Sort.l1 : Nat → List (S44) → List (S44) → Int → List (S44) → Bool → Int → Option ((List (S44)))
 | 0, _, _, _, _, _, _ => none
 | k + 1, x0, x3, x4, x5, x6, x7 => if x7 < (x3.length : Int) then (if x6 = true then (if 0 ≤ x7 then (if x5.length < 3518437208883 then (computusref20_Sort.l1 k x0 x3 x4 (x5 ++ [(⟨(rd_T44 x3 x7).f0, (rd_T44 x3 x7).f1, (rd_T44 x3 x7).f2, (rd_T44 x3 x7).f3⟩ : S44)]) x6 (wrap64 (x7 + 1))) else (none)) else (none)) else (if 0 ≤ x4 then (if x4 < (x0.length : Int) then (if 0 ≤ x7 then ((computusref20_Precedes.f ((rd_T44 x0 x4).f0) ((rd_T44 x0 x4).f1) ((rd_T44 x0 x4).f2) ((rd_T44 x0 x4).f3) ((rd_T44 x3 x7).f0) ((rd_T44 x3 x7).f1) ((rd_T44 x3 x7).f2) ((rd_T44 x3 x7).f3)).bind fun t439 => (if t439 = true then (if x5.length < 3518437208883 then ((some (x5 ++ [(⟨(rd_T44 x0 x4).f0, (rd_T44 x0 x4).f1, (rd_T44 x0 x4).f2, (rd_T44 x0 x4).f3⟩ : S44)] : List (S44))).bind fun y441 => (if y441.length < 3518437208883 then (computusref20_Sort.l1 k x0 x3 x4 (y441 ++ [(⟨(rd_T44 x3 x7).f0, (rd_T44 x3 x7).f1, (rd_T44 x3 x7).f2, (rd_T44 x3 x7).f3⟩ : S44)]) true (wrap64 (x7 + 1))) else (none))) else (none)) else (if x5.length < 3518437208883 then (computusref20_Sort.l1 k x0 x3 x4 (x5 ++ [(⟨(rd_T44 x3 x7).f0, (rd_T44 x3 x7).f1, (rd_T44 x3 x7).f2, (rd_T44 x3 x7).f3⟩ : S44)]) x6 (wrap64 (x7 + 1))) else (none)))) else (none)) else (none)) else (none))) else (if x6 = true then (computusref20_Sort.l0 k x0 x5 (wrap64 (x4 + 1))) else (if 0 ≤ x4 then (if x4 < (x0.length : Int) then (if x5.length < 3518437208883 then (computusref20_Sort.l0 k x0 (x5 ++ [(⟨(rd_T44 x0 x4).f0, (rd_T44 x0 x4).f1, (rd_T44 x0 x4).f2, (rd_T44 x0 x4).f3⟩ : S44)]) (wrap64 (x4 + 1))) else (none)) else (none)) else (none)))
end
def computusref20_Sort.f (k : Nat) (l0 : List (S44)) : Option ((List (S44))) := computusref20_Sort.l0 k l0 ([] : List (S44)) 0
def computusref20_Sort.T10 : Bool × List (List Nat × List Nat) := (true, [([], []), ([0], [0]), ([1], [1]), ([2], [2]), ([2], [2]), ([3, 4, 2], [2, 3, 4]), ([5, 2], [2, 5]), ([2], [2]), ([2], [2]), ([7, 8, 2], [2, 7, 8]), ([9, 2], [2, 9]), ([6, 10, 2, 2], [2, 6, 10]), ([2, 11], [2, 11])])
def computusref20_Sort.B10 : List Nat := [0, 1, 3, 7, 7, 31, 63, 7, 7, 391, 903, 2047, 4095]
theorem computusref20_Sort.tab10 : rtab .any (opsOf Try.f39 10) = computusref20_Sort.T10 := by kernel_rfl
theorem computusref20_Sort.bits10 : waitsOk computusref20_Sort.T10.2 computusref20_Sort.B10 = true := by kernel_rfl
theorem computusref20_Sort.calls (k : Nat) (A0 : Option Addr) (c0 : Nat) (l0 : List (S44)) (r : List (S44)) (w : World) (hr0 : Kd.C k44 w A0 l0.length l0) (hc0 : l0.length ≤ c0) (h : computusref20_Sort.f k l0 = some r) :
  Calls Try.prog 39 #[.slice A0 l0.length c0] w fun e w' => ∃ v0_ : Value, e = .returned (v0_) ∧ Kd.R k44 44 w' w.heap.size (fun _ => True) v0_ r ∧ Below w.heap.size w w' := by
 have hu44 := Try.underlying44
 have HR0 := am_ hr0
 have HC0 := am_ hc0
 clear hr0 hc0
 have HB := am_ (Below.refl w.heap.size w)
 have H := h
 clear h
 unfold computusref20_Sort.f at H
 have H' := am_ H
 clear H
 go_enter Try.func39, Try.ntmps39
 go_wp2
 go_loopg [3, 4] k (fun kq v3 v4 w' => ∃ (x3_1 : List (S44)) (x4_1 : Int), v4 = .int .i64 x4_1 ∧ Aside0 (computusref20_Sort.l0 kq l0 x3_1 x4_1 = some r) ∧ Aside0 (kq ≤ k) ∧ Aside0 (Kd.R k44 44 w' w.heap.size (fun _ => True) v3 x3_1) ∧ Aside0 (Below w.heap.size w w'))
 case atStart => exact ⟨(([] : List (S44))), (0), rs_, H', ⟨Nat.le_refl _⟩, ⟨nl_⟩, ⟨bh_⟩⟩
 case round =>
  clear H'
  obtain ⟨x3_1, x4_1, rfl, HA, HK1, HO_3, HB⟩ := hrel
  cases gk with
  | zero => exact absurd HA.out (by simp [computusref20_Sort.l0])
  | succ k1 =>
   have H := HA.out
   clear HA
   simp only [computusref20_Sort.l0] at H
   by_cases c2 : x4_1 < (l0.length : Int)
   rotate_left
   ·rw [if_neg c2] at H
    have c2b0 : decide (x4_1 < (l0.length : Int)) = false := decide_eq_false c2
    clear c2
    obtain rfl := Option.some.inj H
    go_wp2
    go_ret
    exact ⟨_, by first | rfl | (simp [errW_none, errW_some] <;> rfl) | (simp [*, errW_none, errW_some] <;> rfl), rk_ HO_3.out, bh_⟩
   rw [if_pos c2] at H
   have c2b0 : decide (x4_1 < (l0.length : Int)) = true := decide_eq_true c2
   clear c2
   have H' := am_ H
   clear H
   go_wp2
   go_loopg [5, 6, 7] k1 (fun kq v5 v6 v7 w' => ∃ (x5_2 : List (S44)) (x6_2 : Bool) (x7_2 : Int), v6 = .bool x6_2 ∧ v7 = .int .i64 x7_2 ∧ Aside0 (computusref20_Sort.l1 kq l0 x3_1 x4_1 x5_2 x6_2 x7_2 = some r) ∧ Aside0 (kq ≤ k1) ∧ Aside0 (Kd.R k44 44 w' w.heap.size (fun k_ => some k_ ≠ (v5 : Value).ownBlock) u3 x3_1) ∧ Aside0 (Kd.R k44 44 w' w.heap.size (fun k_ => some k_ ≠ (u3 : Value).ownBlock) v5 x5_2) ∧ Aside0 (Below w.heap.size w w'))
   case atStart => exact ⟨(([] : List (S44))), (false), (0), rs_, rs_, H', ⟨Nat.le_refl _⟩, ⟨by (with_reducible repeat (first | apply Kd.R_alloc | apply Kd.R_drewN | apply Kd.R_drew)); exact Kd.R_mono HO_3.out (fun _ hk => (by simp [Value.ownBlock]))⟩, ⟨nl_⟩, ⟨bh_⟩⟩
   case round =>
    clear H'
    obtain ⟨x5_2, x6_2, x7_2, rfl, rfl, HA, HK2, HO_3, HO_5, HB⟩ := hrel
    cases gk with
    | zero => exact absurd HA.out (by simp [computusref20_Sort.l1])
    | succ k2 =>
     have H := HA.out
     clear HA
     simp only [computusref20_Sort.l1] at H
     by_cases c3 : x7_2 < (x3_1.length : Int)
     rotate_left
     ·rw [if_neg c3] at H
      have c3b0 : decide (x7_2 < (x3_1.length : Int)) = false := decide_eq_false c3
      clear c3
      by_cases c27 : x6_2 = true
      ·subst c27
       replace H := it_ H
       have H' := am_ H
       clear H
       obtain ⟨Ao28, co28, eo28⟩ := Kd.R_slice HO_3.out
       subst eo28
       go_wp2
       go_roundg k2
       case measure => have := HK1.out; have := HK2.out; omega
       case rel => exact ⟨(x5_2), (wrap64 (x4_1 + 1)), rs_, H', ⟨by have := HK1.out; have := HK2.out; omega⟩, ⟨by (with_reducible repeat (first | apply Kd.R_alloc | apply Kd.R_drewN | apply Kd.R_drew)); exact Kd.R_mono HO_5.out (fun _ hk => trivial)⟩, ⟨bh_⟩⟩
      replace c27 := Bool.eq_false_iff.mpr c27
      subst c27
      replace H := if_ H
      by_cases c29 : 0 ≤ x4_1
      rotate_left
      ·rw [if_neg c29] at H
       exact absurd H (by simp)
      rw [if_pos c29] at H
      have c29b0 : decide (0 ≤ x4_1) = true := decide_eq_true c29
      clear c29
      by_cases c30 : x4_1 < (l0.length : Int)
      rotate_left
      ·rw [if_neg c30] at H
       exact absurd H (by simp)
      rw [if_pos c30] at H
      have c30b0 : decide (x4_1 < (l0.length : Int)) = true := decide_eq_true c30
      clear c30
      by_cases c31 : x5_2.length < 3518437208883
      rotate_left
      ·rw [if_neg c31] at H
       exact absurd H (by simp)
      rw [if_pos c31] at H
      have LMc31 := am_ c31
      clear c31
      obtain ⟨y453, hy453⟩ : ∃ y_ : List (S44), y_ = (x5_2 ++ [(⟨(rd_T44 l0 x4_1).f0, (rd_T44 l0 x4_1).f1, (rd_T44 l0 x4_1).f2, (rd_T44 l0 x4_1).f3⟩ : S44)]) := ⟨_, rfl⟩
      replace H : (computusref20_Sort.l0 k2 l0 y453 (wrap64 (x4_1 + 1))) = some r := by first | (rw [hy453]; with_reducible exact H) | (have H2_ := (Option.bind_some _ _).symm.trans H; rw [hy453]; with_reducible exact H2_) | (have H2_ := (Option.bind_some _ _).symm.trans H; with_reducible exact H2_) | with_reducible exact H | (rw [hy453]; exact H) | exact H
      have Ny453 := am_ hy453
      clear hy453
      have H' := am_ H
      clear H
      obtain ⟨Ao32, co32, eo32⟩ := Kd.R_slice HO_3.out
      subst eo32
      have p452 : 0 ≤ (x4_1 : Int) := of_decide_eq_true as_
      have q452 : x4_1 < (l0.length : Int) := of_decide_eq_true as_
      obtain ⟨ad452, e452, hx452_0, hx452_1, hx452_2, hx452_3⟩ := at_T44 HR0.out x4_1 p452 q452
      cases e452
      replace hx452_0 := cm_ HB.out hx452_0
      replace hx452_1 := cm_ HB.out hx452_1
      replace hx452_2 := cm_ HB.out hx452_2
      replace hx452_3 := cm_ HB.out hx452_3
      replace p452 := eq_true p452
      replace q452 := eq_true q452
      go_wp2_with (first | ((with_reducible refine gate_builtin (b := .append) (xs := #[.tmp 49, .tmp 54]) rfl ?_); at_builtin; refine Kd.R_append k44 (w0 := w) w.heap.size rfl (.tmp 49) (.tmp 54) 22 44 (.agg #[(.int .i64 0), (.int .i64 0), (.int .i64 0), (.string ⟨#[]⟩)]) 40 rfl Try.underlying22 info44 rfl (by decide) (by omega) u5 x5_2 (⟨(rd_T44 l0 x4_1).f0, (rd_T44 l0 x4_1).f1, (rd_T44 l0 x4_1).f2, (rd_T44 l0 x4_1).f3⟩ : S44) [.int .i64 ((rd_T44 l0 x4_1).f0), .int .i64 ((rd_T44 l0 x4_1).f1), .int .i64 ((rd_T44 l0 x4_1).f2), .string ((rd_T44 l0 x4_1).f3)] (fun k_ => some k_ ≠ (.slice Ao32 x3_1.length co32 : Value).ownBlock) (fun _ => False) rfl rfl ?aP (fun _ hk => hk.elim) ?aF ?aO ?aB ?aS ?aL ?_; (case aP => exact k44_mkM _ _ _ (⟨(rd_T44 l0 x4_1).f0, (rd_T44 l0 x4_1).f1, (rd_T44 l0 x4_1).f2, (rd_T44 l0 x4_1).f3⟩ : S44)); (case aB => exact bh_); (case aF => exact (fun k_ hk => Kd.fresh' (Kd.R_lt (rk_ HO_3.out)) k_ hk)); (case aO => exact (rk_ HO_5.out)); (case aS => exact bz_); (case aL => have := LMc31.out; omega); intro v454 w33 ho hb hg hat; rw [← Ny453.out] at ho; have n0_ := am_ (Kd.R_after (ok := (fun _ => True)) (by (with_reducible repeat (first | apply Kd.R_alloc | apply Kd.R_drewN | apply Kd.R_drew)); exact Kd.R_mono HO_3.out (fun _ hk => ⟨trivial, hk⟩)) hg hat); have n1_ := am_ (hb); have n2_ := am_ (ho); clear HO_3; clear HB; clear HO_5; have HO_3 := n0_; have HB := n1_; have HO455 := n2_; clear n0_ n1_ n2_; clear ho hb hg hat))
      go_roundg k2
      case measure => have := HK1.out; have := HK2.out; omega
      case rel => exact ⟨(y453), (wrap64 (x4_1 + 1)), rs_, H', ⟨by have := HK1.out; have := HK2.out; omega⟩, ⟨by (with_reducible repeat (first | apply Kd.R_alloc | apply Kd.R_drewN | apply Kd.R_drew)); exact Kd.R_mono HO455.out (fun _ hk => trivial)⟩, ⟨bh_⟩⟩
     rw [if_pos c3] at H
     have c3b0 : decide (x7_2 < (x3_1.length : Int)) = true := decide_eq_true c3
     clear c3
     by_cases c4 : x6_2 = true
     ·subst c4
      replace H := it_ H
      by_cases c5 : 0 ≤ x7_2
      rotate_left
      ·rw [if_neg c5] at H
       exact absurd H (by simp)
      rw [if_pos c5] at H
      have c5b0 : decide (0 ≤ x7_2) = true := decide_eq_true c5
      clear c5
      by_cases c6 : x5_2.length < 3518437208883
      rotate_left
      ·rw [if_neg c6] at H
       exact absurd H (by simp)
      rw [if_pos c6] at H
      have LMc6 := am_ c6
      clear c6
      obtain ⟨y434, hy434⟩ : ∃ y_ : List (S44), y_ = (x5_2 ++ [(⟨(rd_T44 x3_1 x7_2).f0, (rd_T44 x3_1 x7_2).f1, (rd_T44 x3_1 x7_2).f2, (rd_T44 x3_1 x7_2).f3⟩ : S44)]) := ⟨_, rfl⟩
      replace H : (computusref20_Sort.l1 k2 l0 x3_1 x4_1 y434 true (wrap64 (x7_2 + 1))) = some r := by first | (rw [hy434]; with_reducible exact H) | (have H2_ := (Option.bind_some _ _).symm.trans H; rw [hy434]; with_reducible exact H2_) | (have H2_ := (Option.bind_some _ _).symm.trans H; with_reducible exact H2_) | with_reducible exact H | (rw [hy434]; exact H) | exact H
      have Ny434 := am_ hy434
      clear hy434
      have H' := am_ H
      clear H
      obtain ⟨Ao7, co7, eo7⟩ := Kd.R_slice HO_3.out
      subst eo7
      try go_wp2
      replace HO_3 := am_ (Kd.R_drew HO_3.out)
      replace HO_5 := am_ (Kd.R_drew HO_5.out)
      replace HB := am_ (below_drew1 HB.out)
      refine start_ (n := 13) (S := fun w' => True) (ds := []) (bf_ 13 0) (by kernel_rfl) rfl rfl trivial (fun hHeld => ?_); refine with_tabW computusref20_Sort.tab10 computusref20_Sort.bits10 (fun HT_ HW_ => ?_)
      generalize wr.drew = w8 at HO_3 HO_5 HB hHeld ⊢
      refine pu_ 0 (some 20) (bf_ 13 1) HT_.out ?_
      refine pu_ 1 (some 21) (bf_ 13 3) HT_.out ?_
      refine pu_ 2 (some 22) (bf_ 13 7) HT_.out ?_
      refine pure_ (i := 3) (N := some 23) (v := undef) (a' := ?_) (bf_ 13 15) rfl rfl (any_of HT_.out (by kernel_rfl)) (fun _ _ _ h => h) (Or.inr ⟨by rfl, rfl⟩) ?_ ?_
      rotate_left
      ·simp only [Act.put, sA_, sZ_, sS_, i64_w, i32_w]
       rfl
      refine pure_ (i := 4) (N := some 24) (v := undef) (a' := ?_) (bf_ 13 31) rfl rfl (any_of HT_.out (by kernel_rfl)) (fun _ _ _ h => h) (Or.inr ⟨by rfl, rfl⟩) ?_ ?_
      rotate_left
      ·simp only [Act.put, sA_, sZ_, sS_, i64_w, i32_w]
       rfl
      refine pure_ (i := 5) (N := some 25) (v := undef) (a' := ?_) (bf_ 13 63) rfl rfl (any_of HT_.out (by kernel_rfl)) (fun _ _ _ h => h) (Or.inr ⟨by rfl, rfl⟩) ?_ ?_
      rotate_left
      ·simp only [Act.put, sA_, sZ_, sS_, i64_w, i32_w]
       rfl
      refine pure_ (i := 6) (N := some 26) (v := undef) (a' := ?_) (bf_ 13 127) rfl rfl (any_of HT_.out (by kernel_rfl)) (fun _ _ _ h => h) (Or.inr ⟨by rfl, rfl⟩) ?_ ?_
      rotate_left
      ·simp only [Act.put, sA_, sZ_, sS_, i64_w, i32_w]
       rfl
      refine pure_ (i := 7) (N := some 27) (v := undef) (a' := ?_) (bf_ 13 255) rfl rfl (any_of HT_.out (by kernel_rfl)) (fun _ _ _ h => h) (Or.inr ⟨by rfl, rfl⟩) ?_ ?_
      rotate_left
      ·simp only [Act.put, sA_, sZ_, sS_, i64_w, i32_w]
       rfl
      refine pure_ (i := 8) (N := some 28) (v := undef) (a' := ?_) (bf_ 13 511) rfl rfl (any_of HT_.out (by kernel_rfl)) (fun _ _ _ h => h) (Or.inr ⟨by rfl, rfl⟩) ?_ ?_
      rotate_left
      ·simp only [Act.put, sA_, sZ_, sS_, i64_w, i32_w]
       rfl
      refine pure_ (i := 9) (N := some 29) (v := undef) (a' := ?_) (bf_ 13 1023) rfl rfl (any_of HT_.out (by kernel_rfl)) (fun _ _ _ h => h) (Or.inr ⟨by rfl, rfl⟩) ?_ ?_
      rotate_left
      ·simp only [Act.put, sA_, sZ_, sS_, i64_w, i32_w]
       rfl
      refine pure_ (i := 10) (N := some 30) (v := undef) (a' := ?_) (bf_ 13 2047) rfl rfl (any_of HT_.out (by kernel_rfl)) (fun _ _ _ h => h) (Or.inr ⟨by rfl, rfl⟩) ?_ ?_
      rotate_left
      ·simp only [Act.put, sA_, sZ_, sS_, i64_w, i32_w]
       rfl
      refine pure_ (i := 11) (N := some 31) (v := undef) (a' := ?_) (bf_ 13 4095) rfl rfl (any_of HT_.out (by kernel_rfl)) (fun _ _ _ h => h) (Or.inr ⟨by rfl, rfl⟩) ?_ ?_
      rotate_left
      ·simp only [Act.put, sA_, sZ_, sS_, i64_w, i32_w]
       rfl
      refine pu_ 12 (some 32) (bf_ 13 8191) HT_.out ?_
      refine done_ (done_of HT_.out (by kernel_rfl)) ?_
      have p433 : 0 ≤ (x7_2 : Int) := of_decide_eq_true as_
      have q433 : x7_2 < (x3_1.length : Int) := of_decide_eq_true as_
      obtain ⟨ad433, e433, hx433_0, hx433_1, hx433_2, hx433_3⟩ := at_T44 (Kd.R_reads' HO_3.out).2.2 x7_2 p433 q433
      cases e433
      replace p433 := eq_true p433
      replace q433 := eq_true q433
      try go_wp2_with (first | ((with_reducible refine gate_builtin (b := .append) (xs := #[.tmp 40, .tmp 45]) rfl ?_); at_builtin; refine Kd.R_append k44 (w0 := w) w.heap.size rfl (.tmp 40) (.tmp 45) 22 44 (.agg #[(.int .i64 0), (.int .i64 0), (.int .i64 0), (.string ⟨#[]⟩)]) 40 rfl Try.underlying22 info44 rfl (by decide) (by omega) u5 x5_2 (⟨(rd_T44 x3_1 x7_2).f0, (rd_T44 x3_1 x7_2).f1, (rd_T44 x3_1 x7_2).f2, (rd_T44 x3_1 x7_2).f3⟩ : S44) [.int .i64 ((rd_T44 x3_1 x7_2).f0), .int .i64 ((rd_T44 x3_1 x7_2).f1), .int .i64 ((rd_T44 x3_1 x7_2).f2), .string ((rd_T44 x3_1 x7_2).f3)] (fun k_ => some k_ ≠ (.slice (some ad433) x3_1.length co7 : Value).ownBlock) (fun _ => False) rfl rfl ?aP (fun _ hk => hk.elim) ?aF ?aO ?aB ?aS ?aL ?_; (case aP => exact k44_mkM _ _ _ (⟨(rd_T44 x3_1 x7_2).f0, (rd_T44 x3_1 x7_2).f1, (rd_T44 x3_1 x7_2).f2, (rd_T44 x3_1 x7_2).f3⟩ : S44)); (case aB => exact bh_); (case aF => exact (fun k_ hk => Kd.fresh' (Kd.R_lt (rk_ HO_3.out)) k_ hk)); (case aO => exact (rk_ HO_5.out)); (case aS => exact bz_); (case aL => have := LMc6.out; omega); intro v435 w9 ho hb hg hat; rw [← Ny434.out] at ho; have n0_ := am_ (Kd.R_after (ok := (fun _ => True)) (by (with_reducible repeat (first | apply Kd.R_alloc | apply Kd.R_drewN | apply Kd.R_drew)); exact Kd.R_mono HO_3.out (fun _ hk => ⟨trivial, hk⟩)) hg hat); have n1_ := am_ (hb); have n2_ := am_ (ho); clear HO_3; clear HB; clear HO_5; have HO_3 := n0_; have HB := n1_; have HO436 := n2_; clear n0_ n1_ n2_; clear ho hb hg hat))
      go_roundg k2
      case measure => have := HK1.out; have := HK2.out; omega
      case rel => exact ⟨(y434), (true), (wrap64 (x7_2 + 1)), rs_, rs_, H', ⟨by have := HK1.out; have := HK2.out; omega⟩, ⟨by (with_reducible repeat (first | apply Kd.R_alloc | apply Kd.R_drewN | apply Kd.R_drew)); exact Kd.R_mono HO_3.out (fun _ hk => hk.2)⟩, ⟨rk_ HO436.out⟩, ⟨bh_⟩⟩
     replace c4 := Bool.eq_false_iff.mpr c4
     subst c4
     replace H := if_ H
     by_cases c10 : 0 ≤ x4_1
     rotate_left
     ·rw [if_neg c10] at H
      exact absurd H (by simp)
     rw [if_pos c10] at H
     have c10b0 : decide (0 ≤ x4_1) = true := decide_eq_true c10
     clear c10
     by_cases c11 : x4_1 < (l0.length : Int)
     rotate_left
     ·rw [if_neg c11] at H
      exact absurd H (by simp)
     rw [if_pos c11] at H
     have c11b0 : decide (x4_1 < (l0.length : Int)) = true := decide_eq_true c11
     clear c11
     by_cases c12 : 0 ≤ x7_2
     rotate_left
     ·rw [if_neg c12] at H
      exact absurd H (by simp)
     rw [if_pos c12] at H
     have c12b0 : decide (0 ≤ x7_2) = true := decide_eq_true c12
     clear c12
     obtain ⟨t439, A13, H⟩ := bs_ H
     by_cases c14 : t439 = true
     rotate_left
     ·replace c14 := Bool.eq_false_iff.mpr c14
      subst c14
      replace H := if_ H
      by_cases c22 : x5_2.length < 3518437208883
      rotate_left
      ·rw [if_neg c22] at H
       exact absurd H (by simp)
      rw [if_pos c22] at H
      have LMc22 := am_ c22
      clear c22
      obtain ⟨y449, hy449⟩ : ∃ y_ : List (S44), y_ = (x5_2 ++ [(⟨(rd_T44 x3_1 x7_2).f0, (rd_T44 x3_1 x7_2).f1, (rd_T44 x3_1 x7_2).f2, (rd_T44 x3_1 x7_2).f3⟩ : S44)]) := ⟨_, rfl⟩
      replace H : (computusref20_Sort.l1 k2 l0 x3_1 x4_1 y449 false (wrap64 (x7_2 + 1))) = some r := by first | (rw [hy449]; with_reducible exact H) | (have H2_ := (Option.bind_some _ _).symm.trans H; rw [hy449]; with_reducible exact H2_) | (have H2_ := (Option.bind_some _ _).symm.trans H; with_reducible exact H2_) | with_reducible exact H | (rw [hy449]; exact H) | exact H
      have Ny449 := am_ hy449
      clear hy449
      have H' := am_ H
      clear H
      obtain ⟨Ao23, co23, eo23⟩ := Kd.R_slice HO_3.out
      subst eo23
      try go_wp2
      replace HO_3 := am_ (Kd.R_drew HO_3.out)
      replace HO_5 := am_ (Kd.R_drew HO_5.out)
      replace HB := am_ (below_drew1 HB.out)
      have p437 : 0 ≤ (x4_1 : Int) := of_decide_eq_true as_
      have q437 : x4_1 < (l0.length : Int) := of_decide_eq_true as_
      obtain ⟨ad437, e437, hx437_0, hx437_1, hx437_2, hx437_3⟩ := at_T44 HR0.out x4_1 p437 q437
      have hw437_3 := hx437_3
      have hw437_2 := hx437_2
      have hw437_1 := hx437_1
      have hw437_0 := hx437_0
      cases e437
      replace hx437_0 := cm_ HB.out hx437_0
      replace hx437_1 := cm_ HB.out hx437_1
      replace hx437_2 := cm_ HB.out hx437_2
      replace hx437_3 := cm_ HB.out hx437_3
      replace p437 := eq_true p437
      replace q437 := eq_true q437
      have p438 : 0 ≤ (x7_2 : Int) := of_decide_eq_true as_
      have q438 : x7_2 < (x3_1.length : Int) := of_decide_eq_true as_
      obtain ⟨ad438, e438, hx438_0, hx438_1, hx438_2, hx438_3⟩ := at_T44 (Kd.R_reads' HO_3.out).2.2 x7_2 p438 q438
      cases e438
      replace p438 := eq_true p438
      replace q438 := eq_true q438
      refine start_ (n := 13) (S := fun w' => w'.cell? (ad437.add ((x4_1).toNat * 4)) = some (.int .i64 ((rd_T44 l0 x4_1).f0)) ∧ w'.cell? ⟨(ad437.add ((x4_1).toNat * 4)).block, (ad437.add ((x4_1).toNat * 4)).off + 1, none⟩ = some (.int .i64 ((rd_T44 l0 x4_1).f1)) ∧ w'.cell? ⟨(ad437.add ((x4_1).toNat * 4)).block, (ad437.add ((x4_1).toNat * 4)).off + 2, none⟩ = some (.int .i64 ((rd_T44 l0 x4_1).f2)) ∧ w'.cell? ⟨(ad437.add ((x4_1).toNat * 4)).block, (ad437.add ((x4_1).toNat * 4)).off + 3, none⟩ = some (.string ((rd_T44 l0 x4_1).f3)) ∧ w'.cell? (ad438.add ((x7_2).toNat * 4)) = some (.int .i64 ((rd_T44 x3_1 x7_2).f0)) ∧ w'.cell? ⟨(ad438.add ((x7_2).toNat * 4)).block, (ad438.add ((x7_2).toNat * 4)).off + 1, none⟩ = some (.int .i64 ((rd_T44 x3_1 x7_2).f1)) ∧ w'.cell? ⟨(ad438.add ((x7_2).toNat * 4)).block, (ad438.add ((x7_2).toNat * 4)).off + 2, none⟩ = some (.int .i64 ((rd_T44 x3_1 x7_2).f2)) ∧ w'.cell? ⟨(ad438.add ((x7_2).toNat * 4)).block, (ad438.add ((x7_2).toNat * 4)).off + 3, none⟩ = some (.string ((rd_T44 x3_1 x7_2).f3))) (ds := []) (bf_ 13 0) (by kernel_rfl) rfl rfl ⟨((HB.out.cell (World.block_lt_of_cell? w _ hw437_0)).trans hw437_0), ((HB.out.cell (World.block_lt_of_cell? w _ hw437_1)).trans hw437_1), ((HB.out.cell (World.block_lt_of_cell? w _ hw437_2)).trans hw437_2), ((HB.out.cell (World.block_lt_of_cell? w _ hw437_3)).trans hw437_3), hx438_0, hx438_1, hx438_2, hx438_3⟩ (fun hHeld => ?_); refine with_tabW computusref20_Sort.tab10 computusref20_Sort.bits10 (fun HT_ HW_ => ?_)
      generalize wr.drew = w24 at HO_3 HO_5 HB hx437_0 hx437_1 hx437_2 hx437_3 hx438_0 hx438_1 hx438_2 hx438_3 hHeld ⊢
      refine pu_ 0 (some 20) (bf_ 13 1) HT_.out ?_
      refine pu_ 1 (some 21) (bf_ 13 3) HT_.out ?_
      refine pu_ 2 (some 22) (bf_ 13 7) HT_.out ?_
      refine pu_ 3 (some 23) (bf_ 13 15) HT_.out ?_
      refine pu_ 4 (some 24) (bf_ 13 31) HT_.out ?_
      refine pu_ 5 (some 25) (bf_ 13 63) HT_.out ?_
      refine pu_ 7 (some 27) (bf_ 13 191) HT_.out ?_
      refine pu_ 8 (some 28) (bf_ 13 447) HT_.out ?_
      refine pu_ 9 (some 29) (bf_ 13 959) HT_.out ?_
      refine ta_ 6 (some 26) (bf_ 13 1023) HT_.out HW_.out hHeld ?_
      refine ta_ 10 (some 30) (bf_ 13 2047) HT_.out HW_.out hHeld ?_
      refine one_ (i := 11) (N := some 31) (bf_ 13 4095) rfl rfl (one_of HT_.out (by kernel_rfl)) (by decide) (fun K hK => ?_)
      refine gs_ Try.func24 #[.agg #[.int .i64 ((rd_T44 l0 x4_1).f0), .int .i64 ((rd_T44 l0 x4_1).f1), .int .i64 ((rd_T44 l0 x4_1).f2), .string ((rd_T44 l0 x4_1).f3)], .agg #[.int .i64 ((rd_T44 x3_1 x7_2).f0), .int .i64 ((rd_T44 x3_1 x7_2).f1), .int .i64 ((rd_T44 x3_1 x7_2).f2), .string ((rd_T44 x3_1 x7_2).f3)]] ?_
      with_reducible refine (computusref20_Precedes.calls ((rd_T44 l0 x4_1).f0) ((rd_T44 l0 x4_1).f1) ((rd_T44 l0 x4_1).f2) ((rd_T44 l0 x4_1).f3) ((rd_T44 x3_1 x7_2).f0) ((rd_T44 x3_1 x7_2).f1) ((rd_T44 x3_1 x7_2).f2) ((rd_T44 x3_1 x7_2).f3) false _ A13.out).mono ?_
      rintro e w25 ⟨rfl, hb⟩
      have HS4_ := (hb.cell (World.block_lt_of_cell? _ _ (hHeld.2.2.2.2.1))).trans (hHeld.2.2.2.2.1)
      have HS5_ := (hb.cell (World.block_lt_of_cell? _ _ (hHeld.2.2.2.2.2.1))).trans (hHeld.2.2.2.2.2.1)
      have HS6_ := (hb.cell (World.block_lt_of_cell? _ _ (hHeld.2.2.2.2.2.2.1))).trans (hHeld.2.2.2.2.2.2.1)
      have HS7_ := (hb.cell (World.block_lt_of_cell? _ _ (hHeld.2.2.2.2.2.2.2))).trans (hHeld.2.2.2.2.2.2.2)
      refine ⟨_, rfl, ?_⟩
      replace HO_3 := am_ (Kd.R_below (rk_ HO_3.out) hb)
      replace HO_5 := am_ (Kd.R_below (rk_ HO_5.out) hb)
      replace HB := bt_ hb
      (try clear hb)
      (try clear hb2)
      (try clear hk)
      (try clear hi)
      refine hK.out _ _ ⟨((HB.out.cell (World.block_lt_of_cell? w _ hw437_0)).trans hw437_0), ((HB.out.cell (World.block_lt_of_cell? w _ hw437_1)).trans hw437_1), ((HB.out.cell (World.block_lt_of_cell? w _ hw437_2)).trans hw437_2), ((HB.out.cell (World.block_lt_of_cell? w _ hw437_3)).trans hw437_3), HS4_, HS5_, HS6_, HS7_⟩ (fun hHeld => ?_)
      clear hK K
      refine norm_ (a' := ?_) ?_ ?_
      rotate_left
      ·show Act.put _ (some 31) _ = _
       simp only [Act.put, sA_, sZ_, sS_, i64_w, i32_w]
       rfl
      refine pu_ 12 (some 32) (bf_ 13 8191) HT_.out ?_
      refine done_ (done_of HT_.out (by kernel_rfl)) ?_
      have p448 : 0 ≤ (x7_2 : Int) := of_decide_eq_true as_
      have q448 : x7_2 < (x3_1.length : Int) := of_decide_eq_true as_
      obtain ⟨ad448, e448, hx448_0, hx448_1, hx448_2, hx448_3⟩ := at_T44 (Kd.R_reads' HO_3.out).2.2 x7_2 p448 q448
      obtain rfl : ad438 = ad448 := (by injection e448)
      replace p448 := eq_true p448
      replace q448 := eq_true q448
      try go_wp2_with (first | ((with_reducible refine gate_builtin (b := .append) (xs := #[.tmp 40, .tmp 45]) rfl ?_); at_builtin; refine Kd.R_append k44 (w0 := w) w.heap.size rfl (.tmp 40) (.tmp 45) 22 44 (.agg #[(.int .i64 0), (.int .i64 0), (.int .i64 0), (.string ⟨#[]⟩)]) 40 rfl Try.underlying22 info44 rfl (by decide) (by omega) u5 x5_2 (⟨(rd_T44 x3_1 x7_2).f0, (rd_T44 x3_1 x7_2).f1, (rd_T44 x3_1 x7_2).f2, (rd_T44 x3_1 x7_2).f3⟩ : S44) [.int .i64 ((rd_T44 x3_1 x7_2).f0), .int .i64 ((rd_T44 x3_1 x7_2).f1), .int .i64 ((rd_T44 x3_1 x7_2).f2), .string ((rd_T44 x3_1 x7_2).f3)] (fun k_ => some k_ ≠ (.slice (some ad438) x3_1.length co23 : Value).ownBlock) (fun _ => False) rfl rfl ?aP (fun _ hk => hk.elim) ?aF ?aO ?aB ?aS ?aL ?_; (case aP => exact k44_mkM _ _ _ (⟨(rd_T44 x3_1 x7_2).f0, (rd_T44 x3_1 x7_2).f1, (rd_T44 x3_1 x7_2).f2, (rd_T44 x3_1 x7_2).f3⟩ : S44)); (case aB => exact bh_); (case aF => exact (fun k_ hk => Kd.fresh' (Kd.R_lt (rk_ HO_3.out)) k_ hk)); (case aO => exact (rk_ HO_5.out)); (case aS => exact bz_); (case aL => have := LMc22.out; omega); intro v450 w26 ho hb hg hat; rw [← Ny449.out] at ho; have n0_ := am_ (Kd.R_after (ok := (fun _ => True)) (by (with_reducible repeat (first | apply Kd.R_alloc | apply Kd.R_drewN | apply Kd.R_drew)); exact Kd.R_mono HO_3.out (fun _ hk => ⟨trivial, hk⟩)) hg hat); have n1_ := am_ (hb); have n2_ := am_ (ho); clear HO_3; clear HB; clear HO_5; have HO_3 := n0_; have HB := n1_; have HO451 := n2_; clear n0_ n1_ n2_; clear ho hb hg hat))
      go_roundg k2
      case measure => have := HK1.out; have := HK2.out; omega
      case rel => exact ⟨(y449), (false), (wrap64 (x7_2 + 1)), rs_, rs_, H', ⟨by have := HK1.out; have := HK2.out; omega⟩, ⟨by (with_reducible repeat (first | apply Kd.R_alloc | apply Kd.R_drewN | apply Kd.R_drew)); exact Kd.R_mono HO_3.out (fun _ hk => hk.2)⟩, ⟨rk_ HO451.out⟩, ⟨bh_⟩⟩
     subst c14
     replace H := it_ H
     by_cases c15 : x5_2.length < 3518437208883
     rotate_left
     ·rw [if_neg c15] at H
      exact absurd H (by simp)
     rw [if_pos c15] at H
     have LMc15 := am_ c15
     clear c15
     obtain ⟨y441, hy441⟩ : ∃ y_ : List (S44), y_ = (x5_2 ++ [(⟨(rd_T44 l0 x4_1).f0, (rd_T44 l0 x4_1).f1, (rd_T44 l0 x4_1).f2, (rd_T44 l0 x4_1).f3⟩ : S44)]) := ⟨_, rfl⟩
     replace H : (if y441.length < 3518437208883 then (computusref20_Sort.l1 k2 l0 x3_1 x4_1 (y441 ++ [(⟨(rd_T44 x3_1 x7_2).f0, (rd_T44 x3_1 x7_2).f1, (rd_T44 x3_1 x7_2).f2, (rd_T44 x3_1 x7_2).f3⟩ : S44)]) true (wrap64 (x7_2 + 1))) else (none)) = some r := by first | (rw [hy441]; with_reducible exact H) | (have H2_ := (Option.bind_some _ _).symm.trans H; rw [hy441]; with_reducible exact H2_) | (have H2_ := (Option.bind_some _ _).symm.trans H; with_reducible exact H2_) | with_reducible exact H | (rw [hy441]; exact H) | exact H
     have Ny441 := am_ hy441
     clear hy441
     by_cases c16 : y441.length < 3518437208883
     rotate_left
     ·rw [if_neg c16] at H
      exact absurd H (by simp)
     rw [if_pos c16] at H
     have LMc16 := am_ c16
     clear c16
     obtain ⟨y445, hy445⟩ : ∃ y_ : List (S44), y_ = (y441 ++ [(⟨(rd_T44 x3_1 x7_2).f0, (rd_T44 x3_1 x7_2).f1, (rd_T44 x3_1 x7_2).f2, (rd_T44 x3_1 x7_2).f3⟩ : S44)]) := ⟨_, rfl⟩
     replace H : (computusref20_Sort.l1 k2 l0 x3_1 x4_1 y445 true (wrap64 (x7_2 + 1))) = some r := by first | (rw [hy445]; with_reducible exact H) | (have H2_ := (Option.bind_some _ _).symm.trans H; rw [hy445]; with_reducible exact H2_) | (have H2_ := (Option.bind_some _ _).symm.trans H; with_reducible exact H2_) | with_reducible exact H | (rw [hy445]; exact H) | exact H
     have Ny445 := am_ hy445
     clear hy445
     have H' := am_ H
     clear H
     obtain ⟨Ao17, co17, eo17⟩ := Kd.R_slice HO_3.out
     subst eo17
     try go_wp2
     replace HO_3 := am_ (Kd.R_drew HO_3.out)
     replace HO_5 := am_ (Kd.R_drew HO_5.out)
     replace HB := am_ (below_drew1 HB.out)
     have p437 : 0 ≤ (x4_1 : Int) := of_decide_eq_true as_
     have q437 : x4_1 < (l0.length : Int) := of_decide_eq_true as_
     obtain ⟨ad437, e437, hx437_0, hx437_1, hx437_2, hx437_3⟩ := at_T44 HR0.out x4_1 p437 q437
     have hw437_3 := hx437_3
     have hw437_2 := hx437_2
     have hw437_1 := hx437_1
     have hw437_0 := hx437_0
     cases e437
     replace hx437_0 := cm_ HB.out hx437_0
     replace hx437_1 := cm_ HB.out hx437_1
     replace hx437_2 := cm_ HB.out hx437_2
     replace hx437_3 := cm_ HB.out hx437_3
     replace p437 := eq_true p437
     replace q437 := eq_true q437
     have p438 : 0 ≤ (x7_2 : Int) := of_decide_eq_true as_
     have q438 : x7_2 < (x3_1.length : Int) := of_decide_eq_true as_
     obtain ⟨ad438, e438, hx438_0, hx438_1, hx438_2, hx438_3⟩ := at_T44 (Kd.R_reads' HO_3.out).2.2 x7_2 p438 q438
     cases e438
     replace p438 := eq_true p438
     replace q438 := eq_true q438
     refine start_ (n := 13) (S := fun w' => w'.cell? (ad437.add ((x4_1).toNat * 4)) = some (.int .i64 ((rd_T44 l0 x4_1).f0)) ∧ w'.cell? ⟨(ad437.add ((x4_1).toNat * 4)).block, (ad437.add ((x4_1).toNat * 4)).off + 1, none⟩ = some (.int .i64 ((rd_T44 l0 x4_1).f1)) ∧ w'.cell? ⟨(ad437.add ((x4_1).toNat * 4)).block, (ad437.add ((x4_1).toNat * 4)).off + 2, none⟩ = some (.int .i64 ((rd_T44 l0 x4_1).f2)) ∧ w'.cell? ⟨(ad437.add ((x4_1).toNat * 4)).block, (ad437.add ((x4_1).toNat * 4)).off + 3, none⟩ = some (.string ((rd_T44 l0 x4_1).f3)) ∧ w'.cell? (ad438.add ((x7_2).toNat * 4)) = some (.int .i64 ((rd_T44 x3_1 x7_2).f0)) ∧ w'.cell? ⟨(ad438.add ((x7_2).toNat * 4)).block, (ad438.add ((x7_2).toNat * 4)).off + 1, none⟩ = some (.int .i64 ((rd_T44 x3_1 x7_2).f1)) ∧ w'.cell? ⟨(ad438.add ((x7_2).toNat * 4)).block, (ad438.add ((x7_2).toNat * 4)).off + 2, none⟩ = some (.int .i64 ((rd_T44 x3_1 x7_2).f2)) ∧ w'.cell? ⟨(ad438.add ((x7_2).toNat * 4)).block, (ad438.add ((x7_2).toNat * 4)).off + 3, none⟩ = some (.string ((rd_T44 x3_1 x7_2).f3))) (ds := []) (bf_ 13 0) (by kernel_rfl) rfl rfl ⟨((HB.out.cell (World.block_lt_of_cell? w _ hw437_0)).trans hw437_0), ((HB.out.cell (World.block_lt_of_cell? w _ hw437_1)).trans hw437_1), ((HB.out.cell (World.block_lt_of_cell? w _ hw437_2)).trans hw437_2), ((HB.out.cell (World.block_lt_of_cell? w _ hw437_3)).trans hw437_3), hx438_0, hx438_1, hx438_2, hx438_3⟩ (fun hHeld => ?_); refine with_tabW computusref20_Sort.tab10 computusref20_Sort.bits10 (fun HT_ HW_ => ?_)
     generalize wr.drew = w18 at HO_3 HO_5 HB hx437_0 hx437_1 hx437_2 hx437_3 hx438_0 hx438_1 hx438_2 hx438_3 hHeld ⊢
     refine pu_ 0 (some 20) (bf_ 13 1) HT_.out ?_
     refine pu_ 1 (some 21) (bf_ 13 3) HT_.out ?_
     refine pu_ 2 (some 22) (bf_ 13 7) HT_.out ?_
     refine pu_ 3 (some 23) (bf_ 13 15) HT_.out ?_
     refine pu_ 4 (some 24) (bf_ 13 31) HT_.out ?_
     refine pu_ 5 (some 25) (bf_ 13 63) HT_.out ?_
     refine pu_ 7 (some 27) (bf_ 13 191) HT_.out ?_
     refine pu_ 8 (some 28) (bf_ 13 447) HT_.out ?_
     refine pu_ 9 (some 29) (bf_ 13 959) HT_.out ?_
     refine ta_ 6 (some 26) (bf_ 13 1023) HT_.out HW_.out hHeld ?_
     refine ta_ 10 (some 30) (bf_ 13 2047) HT_.out HW_.out hHeld ?_
     refine one_ (i := 11) (N := some 31) (bf_ 13 4095) rfl rfl (one_of HT_.out (by kernel_rfl)) (by decide) (fun K hK => ?_)
     refine gs_ Try.func24 #[.agg #[.int .i64 ((rd_T44 l0 x4_1).f0), .int .i64 ((rd_T44 l0 x4_1).f1), .int .i64 ((rd_T44 l0 x4_1).f2), .string ((rd_T44 l0 x4_1).f3)], .agg #[.int .i64 ((rd_T44 x3_1 x7_2).f0), .int .i64 ((rd_T44 x3_1 x7_2).f1), .int .i64 ((rd_T44 x3_1 x7_2).f2), .string ((rd_T44 x3_1 x7_2).f3)]] ?_
     with_reducible refine (computusref20_Precedes.calls ((rd_T44 l0 x4_1).f0) ((rd_T44 l0 x4_1).f1) ((rd_T44 l0 x4_1).f2) ((rd_T44 l0 x4_1).f3) ((rd_T44 x3_1 x7_2).f0) ((rd_T44 x3_1 x7_2).f1) ((rd_T44 x3_1 x7_2).f2) ((rd_T44 x3_1 x7_2).f3) true _ A13.out).mono ?_
     rintro e w19 ⟨rfl, hb⟩
     have HS4_ := (hb.cell (World.block_lt_of_cell? _ _ (hHeld.2.2.2.2.1))).trans (hHeld.2.2.2.2.1)
     have HS5_ := (hb.cell (World.block_lt_of_cell? _ _ (hHeld.2.2.2.2.2.1))).trans (hHeld.2.2.2.2.2.1)
     have HS6_ := (hb.cell (World.block_lt_of_cell? _ _ (hHeld.2.2.2.2.2.2.1))).trans (hHeld.2.2.2.2.2.2.1)
     have HS7_ := (hb.cell (World.block_lt_of_cell? _ _ (hHeld.2.2.2.2.2.2.2))).trans (hHeld.2.2.2.2.2.2.2)
     refine ⟨_, rfl, ?_⟩
     replace HO_3 := am_ (Kd.R_below (rk_ HO_3.out) hb)
     replace HO_5 := am_ (Kd.R_below (rk_ HO_5.out) hb)
     replace HB := bt_ hb
     (try clear hb)
     (try clear hb2)
     (try clear hk)
     (try clear hi)
     refine hK.out _ _ ⟨((HB.out.cell (World.block_lt_of_cell? w _ hw437_0)).trans hw437_0), ((HB.out.cell (World.block_lt_of_cell? w _ hw437_1)).trans hw437_1), ((HB.out.cell (World.block_lt_of_cell? w _ hw437_2)).trans hw437_2), ((HB.out.cell (World.block_lt_of_cell? w _ hw437_3)).trans hw437_3), HS4_, HS5_, HS6_, HS7_⟩ (fun hHeld => ?_)
     clear hK K
     refine norm_ (a' := ?_) ?_ ?_
     rotate_left
     ·show Act.put _ (some 31) _ = _
      simp only [Act.put, sA_, sZ_, sS_, i64_w, i32_w]
      rfl
     refine pu_ 12 (some 32) (bf_ 13 8191) HT_.out ?_
     refine done_ (done_of HT_.out (by kernel_rfl)) ?_
     have p440 : 0 ≤ (x4_1 : Int) := of_decide_eq_true as_
     have q440 : x4_1 < (l0.length : Int) := of_decide_eq_true as_
     obtain ⟨ad440, e440, hx440_0, hx440_1, hx440_2, hx440_3⟩ := at_T44 HR0.out x4_1 p440 q440
     obtain rfl : ad437 = ad440 := (by injection e440)
     replace hx440_0 := cm_ HB.out hx440_0
     replace hx440_1 := cm_ HB.out hx440_1
     replace hx440_2 := cm_ HB.out hx440_2
     replace hx440_3 := cm_ HB.out hx440_3
     replace p440 := eq_true p440
     replace q440 := eq_true q440
     try go_wp2_with (first | ((with_reducible refine gate_builtin (b := .append) (xs := #[.tmp 33, .tmp 38]) rfl ?_); at_builtin; refine Kd.R_append k44 (w0 := w) w.heap.size rfl (.tmp 33) (.tmp 38) 22 44 (.agg #[(.int .i64 0), (.int .i64 0), (.int .i64 0), (.string ⟨#[]⟩)]) 40 rfl Try.underlying22 info44 rfl (by decide) (by omega) u5 x5_2 (⟨(rd_T44 l0 x4_1).f0, (rd_T44 l0 x4_1).f1, (rd_T44 l0 x4_1).f2, (rd_T44 l0 x4_1).f3⟩ : S44) [.int .i64 ((rd_T44 l0 x4_1).f0), .int .i64 ((rd_T44 l0 x4_1).f1), .int .i64 ((rd_T44 l0 x4_1).f2), .string ((rd_T44 l0 x4_1).f3)] (fun k_ => some k_ ≠ (.slice (some ad438) x3_1.length co17 : Value).ownBlock) (fun _ => False) rfl rfl ?aP (fun _ hk => hk.elim) ?aF ?aO ?aB ?aS ?aL ?_; (case aP => exact k44_mkM _ _ _ (⟨(rd_T44 l0 x4_1).f0, (rd_T44 l0 x4_1).f1, (rd_T44 l0 x4_1).f2, (rd_T44 l0 x4_1).f3⟩ : S44)); (case aB => exact bh_); (case aF => exact (fun k_ hk => Kd.fresh' (Kd.R_lt (rk_ HO_3.out)) k_ hk)); (case aO => exact (rk_ HO_5.out)); (case aS => exact bz_); (case aL => have := LMc15.out; omega); intro v442 w20 ho hb hg hat; rw [← Ny441.out] at ho; have n0_ := am_ (Kd.R_after (ok := (fun _ => True)) (by (with_reducible repeat (first | apply Kd.R_alloc | apply Kd.R_drewN | apply Kd.R_drew)); exact Kd.R_mono HO_3.out (fun _ hk => ⟨trivial, hk⟩)) hg hat); have n1_ := am_ (hb); have n2_ := am_ (ho); clear HO_3; clear HB; clear HO_5; have HO_3 := n0_; have HB := n1_; have HO443 := n2_; clear n0_ n1_ n2_; clear ho hb hg hat; have p444 : 0 ≤ (x7_2 : Int) := of_decide_eq_true as_; have q444 : x7_2 < (x3_1.length : Int) := of_decide_eq_true as_; obtain ⟨ad444, e444, hx444_0, hx444_1, hx444_2, hx444_3⟩ := at_T44 (Kd.R_reads' HO_3.out).2.2 x7_2 p444 q444; obtain rfl : ad438 = ad444 := (by injection e444); replace p444 := eq_true p444; replace q444 := eq_true q444) | ((with_reducible refine gate_builtin (b := .append) (xs := #[.tmp 40, .tmp 45]) rfl ?_); at_builtin; refine Kd.R_append k44 (w0 := w) w.heap.size rfl (.tmp 40) (.tmp 45) 22 44 (.agg #[(.int .i64 0), (.int .i64 0), (.int .i64 0), (.string ⟨#[]⟩)]) 40 rfl Try.underlying22 info44 rfl (by decide) (by omega) v442 y441 (⟨(rd_T44 x3_1 x7_2).f0, (rd_T44 x3_1 x7_2).f1, (rd_T44 x3_1 x7_2).f2, (rd_T44 x3_1 x7_2).f3⟩ : S44) [.int .i64 ((rd_T44 x3_1 x7_2).f0), .int .i64 ((rd_T44 x3_1 x7_2).f1), .int .i64 ((rd_T44 x3_1 x7_2).f2), .string ((rd_T44 x3_1 x7_2).f3)] (fun k_ => some k_ ≠ (.slice (some ad438) x3_1.length co17 : Value).ownBlock) (fun _ => False) rfl rfl ?aP (fun _ hk => hk.elim) ?aF ?aO ?aB ?aS ?aL ?_; (case aP => exact k44_mkM _ _ _ (⟨(rd_T44 x3_1 x7_2).f0, (rd_T44 x3_1 x7_2).f1, (rd_T44 x3_1 x7_2).f2, (rd_T44 x3_1 x7_2).f3⟩ : S44)); (case aB => exact bh_); (case aF => exact (fun k_ hk => Kd.fresh' (Kd.R_lt (rk_ HO_3.out)) k_ hk)); (case aO => exact (rk_ HO443.out)); (case aS => exact bz_); (case aL => have := LMc16.out; omega); intro v446 w21 ho hb hg hat; rw [← Ny445.out] at ho; have n0_ := am_ (Kd.R_after (ok := (fun _ => True)) (rk_ HO_3.out) hg hat); have n1_ := am_ (hb); have n2_ := am_ (ho); clear HO_3; clear HB; clear HO443; have HO_3 := n0_; have HB := n1_; have HO447 := n2_; clear n0_ n1_ n2_; clear ho hb hg hat))
     go_roundg k2
     case measure => have := HK1.out; have := HK2.out; omega
     case rel => exact ⟨(y445), (true), (wrap64 (x7_2 + 1)), rs_, rs_, H', ⟨by have := HK1.out; have := HK2.out; omega⟩, ⟨by (with_reducible repeat (first | apply Kd.R_alloc | apply Kd.R_drewN | apply Kd.R_drew)); exact Kd.R_mono HO_3.out (fun _ hk => hk.2)⟩, ⟨rk_ HO447.out⟩, ⟨bh_⟩⟩
def computusref21_Resolve.l0 : Nat → List (S44) → Int → Int → List (S66) → List (S68) → Int → Int → Int → ByteArray → List Int → List Int → List Int → Option (Int × Int × Int × ByteArray × List Int × List Int × List Int)
 | 0, _, _, _, _, _, _, _, _, _, _, _, _ => none
 | k + 1, x5, x7, x457000, x457001, x457002, x463000, x463001, x463002, x463003, x463004, x463005, x463006 => if x7 < (x5.length : Int) then (if 0 ≤ x7 then (if ((rd_T44 x5 x7).f0) = 2 then (if 0 ≤ ((rd_T44 x5 x7).f1) then (if ((rd_T44 x5 x7).f1) < (x457002.length : Int) then (if ((rd_T68 x457002 ((rd_T44 x5 x7).f1)).f2) = 1 then (if x463006.length < 17592186044416 then (computusref21_Resolve.l0 k x5 (wrap64 (x7 + 1)) x457000 x457001 x457002 x463000 x463001 x463002 x463003 x463004 x463005 (x463006 ++ [(rd_T44 x5 x7).f1])) else (none)) else (if ((rd_T68 x457002 ((rd_T44 x5 x7).f1)).f2) = 2 then (if x463004.length < 17592186044416 then (computusref21_Resolve.l0 k x5 (wrap64 (x7 + 1)) x457000 x457001 x457002 x463000 x463001 x463002 x463003 (x463004 ++ [(rd_T44 x5 x7).f1]) x463005 x463006) else (none)) else (if ((rd_T68 x457002 ((rd_T44 x5 x7).f1)).f2) = 3 then (if x463005.length < 17592186044416 then (computusref21_Resolve.l0 k x5 (wrap64 (x7 + 1)) x457000 x457001 x457002 x463000 x463001 x463002 x463003 x463004 (x463005 ++ [(rd_T44 x5 x7).f1]) x463006) else (none)) else (computusref21_Resolve.l0 k x5 (wrap64 (x7 + 1)) x457000 x457001 x457002 x463000 x463001 x463002 x463003 x463004 x463005 x463006)))) else (none)) else (none)) else (computusref21_Resolve.l0 k x5 (wrap64 (x7 + 1)) x457000 x457001 x457002 x463000 x463001 x463002 x463003 x463004 x463005 x463006)) else (none)) else (some (x463000, x463001, x463002, x463003, x463004, x463005, x463006))
def computusref21_Resolve.f (k : Nat) (a0_0 : Int) (l0_1 : List (S66)) (l0_2 : List (S68)) (l1 : List (S44)) : Option (Int × Int × Int × ByteArray × List Int × List Int × List Int) := (computusref20_Sort.f k l1).bind fun t458 => (if 0 < (t458.length : Int) then (computusref21_Resolve.l0 k t458 1 a0_0 l0_1 l0_2 ((rd_T44 t458 0).f0) ((rd_T44 t458 0).f1) ((rd_T44 t458 0).f2) ((rd_T44 t458 0).f3) ([] : List Int) ([] : List Int) ([] : List Int)) else (none))
theorem computusref21_Resolve.calls (k : Nat) (a0_0 : Int) (A0_1 : Option Addr) (c0_1 : Nat) (l0_1 : List (S66)) (A0_2 : Option Addr) (c0_2 : Nat) (l0_2 : List (S68)) (A1 : Option Addr) (c1 : Nat) (l1 : List (S44)) (r1 : Int) (r2 : Int) (r3 : Int) (r4 : ByteArray) (r5 : List Int) (r6 : List Int) (r7 : List Int) (w : World) (hr0_1 : Kd.C k66 w A0_1 l0_1.length l0_1) (hc0_1 : l0_1.length ≤ c0_1) (hr0_2 : Kd.C k68 w A0_2 l0_2.length l0_2) (hc0_2 : l0_2.length ≤ c0_2) (hr1 : Kd.C k44 w A1 l1.length l1) (hc1 : l1.length ≤ c1) (h : computusref21_Resolve.f k a0_0 l0_1 l0_2 l1 = some (r1, r2, r3, r4, r5, r6, r7)) :
  Calls Try.prog 19 #[.agg #[.int .i64 a0_0, .slice A0_1 l0_1.length c0_1, .slice A0_2 l0_2.length c0_2], .slice A1 l1.length c1] w fun e w' => ∃ v4_ v5_ v6_ : Value, e = .returned (.agg #[.int .i64 r1, .int .i64 r2, .int .i64 r3, .string r4, v4_, v5_, v6_]) ∧ Kd.R (Kd.int .i64) 3 w' w.heap.size (fun k_ => some k_ ≠ (v5_ : Value).ownBlock ∧ some k_ ≠ (v6_ : Value).ownBlock) v4_ r5 ∧ Kd.R (Kd.int .i64) 3 w' w.heap.size (fun k_ => some k_ ≠ (v4_ : Value).ownBlock ∧ some k_ ≠ (v6_ : Value).ownBlock) v5_ r6 ∧ Kd.R (Kd.int .i64) 3 w' w.heap.size (fun k_ => some k_ ≠ (v4_ : Value).ownBlock ∧ some k_ ≠ (v5_ : Value).ownBlock) v6_ r7 ∧ Below w.heap.size w w' := by
 have hu36 := Try.underlying36
 have hu46 := Try.underlying46
 have hu44 := Try.underlying44
 have HR0_1 := am_ hr0_1
 have HC0_1 := am_ hc0_1
 clear hr0_1 hc0_1
 have HR0_2 := am_ hr0_2
 have HC0_2 := am_ hc0_2
 clear hr0_2 hc0_2
 have HR1 := am_ hr1
 have HC1 := am_ hc1
 clear hr1 hc1
 have HB := am_ (Below.refl w.heap.size w)
 have H := h
 clear h
 unfold computusref21_Resolve.f at H
 obtain ⟨t458, A3, H⟩ := bs_ H
 by_cases c4 : 0 < (t458.length : Int)
 rotate_left
 ·rw [if_neg c4] at H
  exact absurd H (by simp)
 rw [if_pos c4] at H
 have c4b0 : decide (0 < (t458.length : Int)) = true := decide_eq_true c4
 have c4b1 : decide (0 < t458.length) = true := decide_eq_true (by omega)
 (try (have c4b6 : 0 < t458.length := of_decide_eq_true c4b1))
 clear c4
 have H' := am_ H
 clear H
 go_enter Try.func19, Try.ntmps19
 go_wp2_with (first | ((with_reducible refine gate_dst (N := 2) rfl ?_); refine bx_ (w := w) (N := 2) (cs := #[.int .i64 a0_0, .slice A0_1 l0_1.length c0_1, .slice A0_2 l0_2.length c0_2]) (t := 36) ?_; intro gb456 w5 BK456 n0_ GW456 GE456; clear HB; have HB := n0_; clear n0_) | ((with_reducible refine gate_dst (N := 4) rfl ?_); refine be_ (N := 4) (cs := #[.int .i64 0, .int .i64 0, .int .i64 0, .string (⟨#[]⟩ : ByteArray), .slice none 0 0, .slice none 0 0, .slice none 0 0]) (t := 46) ?_; intro gb457 hg w6 hbox hb; have BK457 := am_ (hbox); have GW457 := gw_ (w := w) hg; have GE457 := gw_ (w := w) hg; replace HB := bt_ hb; have NB456_457 := ne_ hg BK456; have NB457_456 := nf_ hg BK456; replace BK456 := bw_ BK456 hb; clear hb hbox hg) | ((with_reducible refine gate_callee (f := 39) rfl ?_); refine gl_ (some 10) Try.func39 #[.slice A1 l1.length c1] ?_; (with_reducible refine (computusref20_Sort.calls k _ _ l1 t458 _ ?side1 ?side2 A3.out).mono ?_); (case side1 => exact ck_ (Kd.C_below HR1.out HB.out)); (case side2 => exact HC1.out); rintro e w7 ⟨v459, rfl, ho0, hb⟩; refine ⟨_, rfl, ?_⟩; have HO460 := am_ (Kd.R_lower ho0 bz_); replace BK456 := bw_ BK456 hb; replace BK457 := bw_ BK457 hb; replace HB := bt_ hb; (try clear hb); (try clear ho0); obtain ⟨Ao8, co8, eo8⟩ := Kd.R_slice HO460.out; subst eo8; have p461 : 0 ≤ (0 : Int) := (by omega); have q461 : 0 < (t458.length : Int) := of_decide_eq_true as_; obtain ⟨ad461, e461, hx461_0, hx461_1, hx461_2, hx461_3⟩ := at_T44 (Kd.R_reads' HO460.out).2.2 0 p461 q461; cases e461; have qi461 : (0 < t458.length) = True := eq_true (by omega); (try rw [show ((0 : Int)).toNat = 0 from rfl] at hx461_0); (try rw [show 0 * 4 = 0 from rfl] at hx461_0); (try rw [Addr.add_zero'] at hx461_0); (try rw [show ((0 : Int)).toNat = 0 from rfl] at hx461_1); (try rw [show 0 * 4 = 0 from rfl] at hx461_1); (try rw [Addr.add_zero'] at hx461_1); (try rw [show ((0 : Int)).toNat = 0 from rfl] at hx461_2); (try rw [show 0 * 4 = 0 from rfl] at hx461_2); (try rw [Addr.add_zero'] at hx461_2); (try rw [show ((0 : Int)).toNat = 0 from rfl] at hx461_3); (try rw [show 0 * 4 = 0 from rfl] at hx461_3); (try rw [Addr.add_zero'] at hx461_3); replace p461 := eq_true p461; replace q461 := eq_true q461) | ((with_reducible refine gate_dst (N := 6) rfl ?_); refine be_ (N := 6) (cs := #[.int .i64 0, .int .i64 0, .int .i64 0, .string (⟨#[]⟩ : ByteArray), .slice none 0 0, .slice none 0 0, .slice none 0 0]) (t := 46) ?_; intro gb462 hg w9 hbox hb; replace HO460 := rw_ HO460 hb; have BK462 := am_ (hbox); have GW462 := gw_ (w := w) hg; have GE462 := gw_ (w := w) hg; replace HB := bt_ hb; have NB456_462 := ne_ hg BK456; have NB462_456 := nf_ hg BK456; replace BK456 := bw_ BK456 hb; have NB457_462 := ne_ hg BK457; have NB462_457 := nf_ hg BK457; replace BK457 := bw_ BK457 hb; clear hb hbox hg; have hnb10 := NB462_456.out; have hnc10 := NB456_462.out; have hnb11 := NB462_457.out; have hnc11 := NB457_462.out; obtain ⟨hcz12_0, hcz12_1, hcz12_2, hcz12_3, hcz12_4, hcz12_5, hcz12_6⟩ := cz7_ BK462.out; obtain ⟨hfz12_0, hfz12_1, hfz12_2, hfz12_3, hfz12_4, hfz12_5, hfz12_6⟩ := fz7_ BK462.out))
 go_loopg [7] k (fun kq v7 w' => ∃ (x7_1 : Int) (x463004_1 : List Int) (x463005_1 : List Int) (x463006_1 : List Int) (u463004 : Value) (u463005 : Value) (u463006 : Value), v7 = .int .i64 x7_1 ∧ Aside0 (computusref21_Resolve.l0 kq t458 x7_1 a0_0 l0_1 l0_2 ((rd_T44 t458 0).f0) ((rd_T44 t458 0).f1) ((rd_T44 t458 0).f2) ((rd_T44 t458 0).f3) x463004_1 x463005_1 x463006_1 = some (r1, r2, r3, r4, r5, r6, r7)) ∧ Aside0 (kq ≤ k) ∧ Aside0 (Kd.R k44 44 w' w.heap.size (fun _ => True) (.slice (some ad461) t458.length co8) t458) ∧ Aside0 (Kd.R (Kd.int .i64) 3 w' w.heap.size (fun k_ => some k_ ≠ (u463005 : Value).ownBlock ∧ some k_ ≠ (u463006 : Value).ownBlock) u463004 x463004_1) ∧ Aside0 (Kd.R (Kd.int .i64) 3 w' w.heap.size (fun k_ => some k_ ≠ (u463004 : Value).ownBlock ∧ some k_ ≠ (u463006 : Value).ownBlock) u463005 x463005_1) ∧ Aside0 (Kd.R (Kd.int .i64) 3 w' w.heap.size (fun k_ => some k_ ≠ (u463004 : Value).ownBlock ∧ some k_ ≠ (u463005 : Value).ownBlock) u463006 x463006_1) ∧ Aside0 (w'.heap[gb456]? = some (.cells #[.int .i64 a0_0, (.slice A0_1 l0_1.length c0_1), (.slice A0_2 l0_2.length c0_2)] 36 (0, 0))) ∧ Aside0 (w'.heap[gb457]? = some (.cells #[.int .i64 0, .int .i64 0, .int .i64 0, .string (⟨#[]⟩ : ByteArray), (.slice none 0 0), (.slice none 0 0), (.slice none 0 0)] 46 (0, 0))) ∧ Aside0 (w'.heap[gb462]? = some (.cells #[.int .i64 ((rd_T44 t458 0).f0), .int .i64 ((rd_T44 t458 0).f1), .int .i64 ((rd_T44 t458 0).f2), .string ((rd_T44 t458 0).f3), u463004, u463005, u463006] 46 (0, 0))) ∧ Aside0 (Below w.heap.size w w'))
 case atStart => exact ⟨(1), (([] : List Int)), (([] : List Int)), (([] : List Int)), (.slice none 0 0), (.slice none 0 0), (.slice none 0 0), rs_, H', ⟨Nat.le_refl _⟩, ⟨by (with_reducible repeat (first | apply Kd.R_alloc | apply Kd.R_drewN | apply Kd.R_drew)); exact Kd.R_mono (Kd.R_far (p := ⟨gb462, 6, none⟩) (Kd.R_far (p := ⟨gb462, 5, none⟩) (Kd.R_far (p := ⟨gb462, 4, none⟩) (Kd.R_far (p := ⟨gb462, 3, none⟩) (Kd.R_far (p := ⟨gb462, 2, none⟩) (Kd.R_far (p := ⟨gb462, 1, none⟩) (Kd.R_far (p := ⟨gb462, 0, none⟩) (Kd.R_types HO460.out BK462.out (by decide)) (fun _ hk => hk.2) (.int .i64 ((rd_T44 t458 0).f0))) (fun _ hk => hk.2) (.int .i64 ((rd_T44 t458 0).f1))) (fun _ hk => hk.2) (.int .i64 ((rd_T44 t458 0).f2))) (fun _ hk => hk.2) (.string ((rd_T44 t458 0).f3))) (fun _ hk => hk.2) (.slice none 0 0)) (fun _ hk => hk.2) (.slice none 0 0)) (fun _ hk => hk.2) (.slice none 0 0)) (fun _ hk => trivial)⟩, ⟨nl_⟩, ⟨nl_⟩, ⟨nl_⟩, ⟨by refine bp_ ?_; refine blk_far ?_ NB456_462.out _; refine bp_ ?_; refine blk_far ?_ NB456_462.out _; refine bp_ ?_; refine blk_far ?_ NB456_462.out _; refine bp_ ?_; refine blk_far ?_ NB456_462.out _; refine bp_ ?_; refine blk_far ?_ NB456_462.out _; refine bp_ ?_; refine blk_far ?_ NB456_462.out _; refine bp_ ?_; refine blk_far ?_ NB456_462.out _; exact bk_ BK456.out⟩, ⟨by refine bp_ ?_; refine blk_far ?_ NB457_462.out _; refine bp_ ?_; refine blk_far ?_ NB457_462.out _; refine bp_ ?_; refine blk_far ?_ NB457_462.out _; refine bp_ ?_; refine blk_far ?_ NB457_462.out _; refine bp_ ?_; refine blk_far ?_ NB457_462.out _; refine bp_ ?_; refine blk_far ?_ NB457_462.out _; refine bp_ ?_; refine blk_far ?_ NB457_462.out _; exact bk_ BK457.out⟩, ⟨by refine bp_ ?_; refine blk_put (cs := #[.int .i64 ((rd_T44 t458 0).f0), .int .i64 ((rd_T44 t458 0).f1), .int .i64 ((rd_T44 t458 0).f2), .string ((rd_T44 t458 0).f3), .slice none 0 0, .slice none 0 0, .slice none 0 0]) ?_ 6 _ rfl; refine bp_ ?_; refine blk_put (cs := #[.int .i64 ((rd_T44 t458 0).f0), .int .i64 ((rd_T44 t458 0).f1), .int .i64 ((rd_T44 t458 0).f2), .string ((rd_T44 t458 0).f3), .slice none 0 0, .slice none 0 0, .slice none 0 0]) ?_ 5 _ rfl; refine bp_ ?_; refine blk_put (cs := #[.int .i64 ((rd_T44 t458 0).f0), .int .i64 ((rd_T44 t458 0).f1), .int .i64 ((rd_T44 t458 0).f2), .string ((rd_T44 t458 0).f3), .slice none 0 0, .slice none 0 0, .slice none 0 0]) ?_ 4 _ rfl; refine bp_ ?_; refine blk_put (cs := #[.int .i64 ((rd_T44 t458 0).f0), .int .i64 ((rd_T44 t458 0).f1), .int .i64 ((rd_T44 t458 0).f2), .string (⟨#[]⟩ : ByteArray), .slice none 0 0, .slice none 0 0, .slice none 0 0]) ?_ 3 _ rfl; refine bp_ ?_; refine blk_put (cs := #[.int .i64 ((rd_T44 t458 0).f0), .int .i64 ((rd_T44 t458 0).f1), .int .i64 0, .string (⟨#[]⟩ : ByteArray), .slice none 0 0, .slice none 0 0, .slice none 0 0]) ?_ 2 _ rfl; refine bp_ ?_; refine blk_put (cs := #[.int .i64 ((rd_T44 t458 0).f0), .int .i64 0, .int .i64 0, .string (⟨#[]⟩ : ByteArray), .slice none 0 0, .slice none 0 0, .slice none 0 0]) ?_ 1 _ rfl; refine bp_ ?_; refine blk_put (cs := #[.int .i64 0, .int .i64 0, .int .i64 0, .string (⟨#[]⟩ : ByteArray), .slice none 0 0, .slice none 0 0, .slice none 0 0]) ?_ 0 _ rfl; exact bk_ BK462.out⟩, ⟨bh_⟩⟩
 case round =>
  clear H'
  obtain ⟨x7_1, x463004_1, x463005_1, x463006_1, u463004, u463005, u463006, rfl, HA, HK1, HO_5, HO_463004, HO_463005, HO_463006, BK456, BK457, BK462, HB⟩ := hrel
  cases gk with
  | zero => exact absurd HA.out (by simp [computusref21_Resolve.l0])
  | succ k1 =>
   have H := HA.out
   clear HA
   simp only [computusref21_Resolve.l0] at H
   by_cases c13 : x7_1 < (t458.length : Int)
   rotate_left
   ·rw [if_neg c13] at H
    have c13b0 : decide (x7_1 < (t458.length : Int)) = false := decide_eq_false c13
    clear c13
    simp only [Option.some.injEq, Prod.mk.injEq] at H
    obtain ⟨rfl, rfl, rfl, rfl, rfl, rfl, rfl⟩ := H
    have hnb51 := NB462_456.out
    have hnc51 := NB456_462.out
    have hnb52 := NB462_457.out
    have hnc52 := NB457_462.out
    obtain ⟨hcz53_0, hcz53_1, hcz53_2, hcz53_3, hcz53_4, hcz53_5, hcz53_6⟩ := cz7_ BK462.out
    obtain ⟨hfz53_0, hfz53_1, hfz53_2, hfz53_3, hfz53_4, hfz53_5, hfz53_6⟩ := fz7_ BK462.out
    have hnb54 := NB457_456.out
    have hnc54 := NB456_457.out
    obtain ⟨hcz55_0, hcz55_1, hcz55_2, hcz55_3, hcz55_4, hcz55_5, hcz55_6⟩ := cz7_ BK457.out
    obtain ⟨hfz55_0, hfz55_1, hfz55_2, hfz55_3, hfz55_4, hfz55_5, hfz55_6⟩ := fz7_ BK457.out
    obtain ⟨Ao56, co56, eo56⟩ := Kd.R_slice HO_463004.out
    subst eo56
    obtain ⟨Ao57, co57, eo57⟩ := Kd.R_slice HO_463005.out
    subst eo57
    obtain ⟨Ao58, co58, eo58⟩ := Kd.R_slice HO_463006.out
    subst eo58
    go_wp2
    refine bodyPost_ret (results_cell_row rfl _ _ gb457 46 #[.int .i64 ((rd_T44 t458 0).f0), .int .i64 ((rd_T44 t458 0).f1), .int .i64 ((rd_T44 t458 0).f2), .string ((rd_T44 t458 0).f3), .slice Ao56 x463004_1.length co56, .slice Ao57 x463005_1.length co57, .slice Ao58 x463006_1.length co58] (0, 0) _ rfl (by refine bp_ ?_; refine blk_put (cs := #[.int .i64 ((rd_T44 t458 0).f0), .int .i64 ((rd_T44 t458 0).f1), .int .i64 ((rd_T44 t458 0).f2), .string ((rd_T44 t458 0).f3), .slice Ao56 x463004_1.length co56, .slice Ao57 x463005_1.length co57, .slice none 0 0]) ?_ 6 _ rfl; refine bp_ ?_; refine blk_put (cs := #[.int .i64 ((rd_T44 t458 0).f0), .int .i64 ((rd_T44 t458 0).f1), .int .i64 ((rd_T44 t458 0).f2), .string ((rd_T44 t458 0).f3), .slice Ao56 x463004_1.length co56, .slice none 0 0, .slice none 0 0]) ?_ 5 _ rfl; refine bp_ ?_; refine blk_put (cs := #[.int .i64 ((rd_T44 t458 0).f0), .int .i64 ((rd_T44 t458 0).f1), .int .i64 ((rd_T44 t458 0).f2), .string ((rd_T44 t458 0).f3), .slice none 0 0, .slice none 0 0, .slice none 0 0]) ?_ 4 _ rfl; refine bp_ ?_; refine blk_put (cs := #[.int .i64 ((rd_T44 t458 0).f0), .int .i64 ((rd_T44 t458 0).f1), .int .i64 ((rd_T44 t458 0).f2), .string (⟨#[]⟩ : ByteArray), .slice none 0 0, .slice none 0 0, .slice none 0 0]) ?_ 3 _ rfl; refine bp_ ?_; refine blk_put (cs := #[.int .i64 ((rd_T44 t458 0).f0), .int .i64 ((rd_T44 t458 0).f1), .int .i64 0, .string (⟨#[]⟩ : ByteArray), .slice none 0 0, .slice none 0 0, .slice none 0 0]) ?_ 2 _ rfl; refine bp_ ?_; refine blk_put (cs := #[.int .i64 ((rd_T44 t458 0).f0), .int .i64 0, .int .i64 0, .string (⟨#[]⟩ : ByteArray), .slice none 0 0, .slice none 0 0, .slice none 0 0]) ?_ 1 _ rfl; refine bp_ ?_; refine blk_put (cs := #[.int .i64 0, .int .i64 0, .int .i64 0, .string (⟨#[]⟩ : ByteArray), .slice none 0 0, .slice none 0 0, .slice none 0 0]) ?_ 0 _ rfl; exact bk_ BK457.out) Try.underlying46 rfl (by kernel_rfl)) rfl ?_
    exact ⟨_, _, _, by first | rfl | (simp [errW_none, errW_some] <;> rfl) | (simp [*, errW_none, errW_some] <;> rfl), by (with_reducible repeat (first | apply Kd.R_alloc | apply Kd.R_drewN | apply Kd.R_drew)); exact Kd.R_mono (Kd.R_far (p := ⟨gb457, 6, none⟩) (Kd.R_far (p := ⟨gb457, 5, none⟩) (Kd.R_far (p := ⟨gb457, 4, none⟩) (Kd.R_far (p := ⟨gb457, 3, none⟩) (Kd.R_far (p := ⟨gb457, 2, none⟩) (Kd.R_far (p := ⟨gb457, 1, none⟩) (Kd.R_far (p := ⟨gb457, 0, none⟩) (Kd.R_types HO_463004.out BK457.out (by decide)) (fun _ hk => hk.2) (.int .i64 ((rd_T44 t458 0).f0))) (fun _ hk => hk.2) (.int .i64 ((rd_T44 t458 0).f1))) (fun _ hk => hk.2) (.int .i64 ((rd_T44 t458 0).f2))) (fun _ hk => hk.2) (.string ((rd_T44 t458 0).f3))) (fun _ hk => hk.2) (.slice Ao56 x463004_1.length co56)) (fun _ hk => hk.2) (.slice Ao57 x463005_1.length co57)) (fun _ hk => hk.2) (.slice Ao58 x463006_1.length co58)) (fun _ hk => ⟨hk.1.1, hk.1.2⟩), by (with_reducible repeat (first | apply Kd.R_alloc | apply Kd.R_drewN | apply Kd.R_drew)); exact Kd.R_mono (Kd.R_far (p := ⟨gb457, 6, none⟩) (Kd.R_far (p := ⟨gb457, 5, none⟩) (Kd.R_far (p := ⟨gb457, 4, none⟩) (Kd.R_far (p := ⟨gb457, 3, none⟩) (Kd.R_far (p := ⟨gb457, 2, none⟩) (Kd.R_far (p := ⟨gb457, 1, none⟩) (Kd.R_far (p := ⟨gb457, 0, none⟩) (Kd.R_types HO_463005.out BK457.out (by decide)) (fun _ hk => hk.2) (.int .i64 ((rd_T44 t458 0).f0))) (fun _ hk => hk.2) (.int .i64 ((rd_T44 t458 0).f1))) (fun _ hk => hk.2) (.int .i64 ((rd_T44 t458 0).f2))) (fun _ hk => hk.2) (.string ((rd_T44 t458 0).f3))) (fun _ hk => hk.2) (.slice Ao56 x463004_1.length co56)) (fun _ hk => hk.2) (.slice Ao57 x463005_1.length co57)) (fun _ hk => hk.2) (.slice Ao58 x463006_1.length co58)) (fun _ hk => ⟨hk.1.1, hk.1.2⟩), by (with_reducible repeat (first | apply Kd.R_alloc | apply Kd.R_drewN | apply Kd.R_drew)); exact Kd.R_mono (Kd.R_far (p := ⟨gb457, 6, none⟩) (Kd.R_far (p := ⟨gb457, 5, none⟩) (Kd.R_far (p := ⟨gb457, 4, none⟩) (Kd.R_far (p := ⟨gb457, 3, none⟩) (Kd.R_far (p := ⟨gb457, 2, none⟩) (Kd.R_far (p := ⟨gb457, 1, none⟩) (Kd.R_far (p := ⟨gb457, 0, none⟩) (Kd.R_types HO_463006.out BK457.out (by decide)) (fun _ hk => hk.2) (.int .i64 ((rd_T44 t458 0).f0))) (fun _ hk => hk.2) (.int .i64 ((rd_T44 t458 0).f1))) (fun _ hk => hk.2) (.int .i64 ((rd_T44 t458 0).f2))) (fun _ hk => hk.2) (.string ((rd_T44 t458 0).f3))) (fun _ hk => hk.2) (.slice Ao56 x463004_1.length co56)) (fun _ hk => hk.2) (.slice Ao57 x463005_1.length co57)) (fun _ hk => hk.2) (.slice Ao58 x463006_1.length co58)) (fun _ hk => ⟨hk.1.1, hk.1.2⟩), bh_⟩
   rw [if_pos c13] at H
   have c13b0 : decide (x7_1 < (t458.length : Int)) = true := decide_eq_true c13
   clear c13
   by_cases c14 : 0 ≤ x7_1
   rotate_left
   ·rw [if_neg c14] at H
    exact absurd H (by simp)
   rw [if_pos c14] at H
   have c14b0 : decide (0 ≤ x7_1) = true := decide_eq_true c14
   clear c14
   by_cases c15 : ((rd_T44 t458 x7_1).f0) = 2
   rotate_left
   ·rw [if_neg c15] at H
    have c15b0 : (((rd_T44 t458 x7_1).f0) == 2) = false := beq_eq_false_iff_ne.mpr c15
    have c15b1 : (((rd_T44 t458 x7_1).f0) != 2) = true := bne_iff_ne.mpr c15
    have H' := am_ H
    clear H
    have p463 : 0 ≤ (x7_1 : Int) := of_decide_eq_true as_
    have q463 : x7_1 < (t458.length : Int) := of_decide_eq_true as_
    obtain ⟨ad463, e463, hx463_0, hx463_1, hx463_2, hx463_3⟩ := at_T44 (Kd.R_reads' HO_5.out).2.2 x7_1 p463 q463
    obtain rfl : ad461 = ad463 := (by injection e463)
    replace p463 := eq_true p463
    replace q463 := eq_true q463
    go_wp2
    go_roundg k1
    case measure => have := HK1.out; omega
    case rel => exact ⟨(wrap64 (x7_1 + 1)), (x463004_1), (x463005_1), (x463006_1), (u463004), (u463005), (u463006), rs_, H', ⟨by have := HK1.out; omega⟩, ⟨rk_ HO_5.out⟩, ⟨rk_ HO_463004.out⟩, ⟨rk_ HO_463005.out⟩, ⟨rk_ HO_463006.out⟩, ⟨bk_ BK456.out⟩, ⟨bk_ BK457.out⟩, ⟨bk_ BK462.out⟩, ⟨bh_⟩⟩
   rw [if_pos c15] at H
   have c15b0 : (((rd_T44 t458 x7_1).f0) == 2) = true := beq_iff_eq.mpr c15
   have c15b1 : (((rd_T44 t458 x7_1).f0) != 2) = false := bne_eq_false_iff_eq.mpr c15
   clear c15
   by_cases c16 : 0 ≤ ((rd_T44 t458 x7_1).f1)
   rotate_left
   ·rw [if_neg c16] at H
    exact absurd H (by simp)
   rw [if_pos c16] at H
   have c16b0 : decide (0 ≤ ((rd_T44 t458 x7_1).f1)) = true := decide_eq_true c16
   clear c16
   by_cases c17 : ((rd_T44 t458 x7_1).f1) < (l0_2.length : Int)
   rotate_left
   ·rw [if_neg c17] at H
    exact absurd H (by simp)
   rw [if_pos c17] at H
   have c17b0 : decide (((rd_T44 t458 x7_1).f1) < (l0_2.length : Int)) = true := decide_eq_true c17
   clear c17
   by_cases c18 : ((rd_T68 l0_2 ((rd_T44 t458 x7_1).f1)).f2) = 1
   ·rw [if_pos c18] at H
    have c18b0 : (((rd_T68 l0_2 ((rd_T44 t458 x7_1).f1)).f2) == 1) = true := beq_iff_eq.mpr c18
    have c18b1 : (((rd_T68 l0_2 ((rd_T44 t458 x7_1).f1)).f2) != 1) = false := bne_eq_false_iff_eq.mpr c18
    clear c18
    by_cases c19 : x463006_1.length < 17592186044416
    rotate_left
    ·rw [if_neg c19] at H
     exact absurd H (by simp)
    rw [if_pos c19] at H
    have LMc19 := am_ c19
    clear c19
    obtain ⟨y466, hy466⟩ : ∃ y_ : List Int, y_ = (x463006_1 ++ [(rd_T44 t458 x7_1).f1]) := ⟨_, rfl⟩
    replace H : (computusref21_Resolve.l0 k1 t458 (wrap64 (x7_1 + 1)) a0_0 l0_1 l0_2 ((rd_T44 t458 0).f0) ((rd_T44 t458 0).f1) ((rd_T44 t458 0).f2) ((rd_T44 t458 0).f3) x463004_1 x463005_1 y466) = some (r1, r2, r3, r4, r5, r6, r7) := by first | (rw [hy466]; with_reducible exact H) | (have H2_ := (Option.bind_some _ _).symm.trans H; rw [hy466]; with_reducible exact H2_) | (have H2_ := (Option.bind_some _ _).symm.trans H; with_reducible exact H2_) | with_reducible exact H | (rw [hy466]; exact H) | exact H
    have Ny466 := am_ hy466
    clear hy466
    have H' := am_ H
    clear H
    have p463 : 0 ≤ (x7_1 : Int) := of_decide_eq_true as_
    have q463 : x7_1 < (t458.length : Int) := of_decide_eq_true as_
    obtain ⟨ad463, e463, hx463_0, hx463_1, hx463_2, hx463_3⟩ := at_T44 (Kd.R_reads' HO_5.out).2.2 x7_1 p463 q463
    obtain rfl : ad461 = ad463 := (by injection e463)
    replace p463 := eq_true p463
    replace q463 := eq_true q463
    have p464 : 0 ≤ (x7_1 : Int) := of_decide_eq_true as_
    have q464 : x7_1 < (t458.length : Int) := of_decide_eq_true as_
    obtain ⟨ad464, e464, hx464_0, hx464_1, hx464_2, hx464_3⟩ := at_T44 (Kd.R_reads' HO_5.out).2.2 x7_1 p464 q464
    obtain rfl : ad461 = ad464 := (by injection e464)
    replace p464 := eq_true p464
    replace q464 := eq_true q464
    have hnb20 := NB456_457.out
    have hnc20 := NB457_456.out
    have hnb21 := NB456_462.out
    have hnc21 := NB462_456.out
    obtain ⟨hcz22_0, hcz22_1, hcz22_2⟩ := cz3_ BK456.out
    obtain ⟨hfz22_0, hfz22_1, hfz22_2⟩ := fz3_ BK456.out
    have p465 : 0 ≤ (((rd_T44 t458 x7_1).f1) : Int) := of_decide_eq_true as_
    have q465 : ((rd_T44 t458 x7_1).f1) < (l0_2.length : Int) := of_decide_eq_true as_
    obtain ⟨ad465, e465, hx465_0, hx465_1, hx465_2, hx465_3, hx465_4, hx465_5, hx465_6, hx465_7, hx465_8⟩ := at_T68 HR0_2.out ((rd_T44 t458 x7_1).f1) p465 q465
    cases e465
    replace hx465_0 := cm_ HB.out hx465_0
    replace hx465_1 := cm_ HB.out hx465_1
    replace hx465_2 := cm_ HB.out hx465_2
    replace hx465_3 := cm_ HB.out hx465_3
    replace hx465_4 := cm_ HB.out hx465_4
    replace hx465_5 := cm_ HB.out hx465_5
    replace hx465_6 := cm_ HB.out hx465_6
    replace hx465_7 := cm_ HB.out hx465_7
    replace hx465_8 := cm_ HB.out hx465_8
    replace p465 := eq_true p465
    replace q465 := eq_true q465
    have hnb23 := NB462_457.out
    have hnc23 := NB457_462.out
    obtain ⟨hcz24_0, hcz24_1, hcz24_2, hcz24_3, hcz24_4, hcz24_5, hcz24_6⟩ := cz7_ BK462.out
    obtain ⟨hfz24_0, hfz24_1, hfz24_2, hfz24_3, hfz24_4, hfz24_5, hfz24_6⟩ := fz7_ BK462.out
    go_wp2_with (first | ((with_reducible refine gate_builtin (b := .append) (xs := #[.tmp 41, .tmp 43]) rfl ?_); at_builtin; refine Kd.R_append (Kd.int .i64) (w0 := w) w.heap.size rfl (.tmp 41) (.tmp 43) 40 3 (.int .i64 0) 8 rfl Try.underlying40 info3 rfl (by decide) (by omega) u463006 x463006_1 ((rd_T44 t458 x7_1).f1) [.int .i64 ((rd_T44 t458 x7_1).f1)] (fun k_ => some k_ ≠ (u463004 : Value).ownBlock ∧ some k_ ≠ (u463005 : Value).ownBlock) (fun _ => False) rfl rfl ?aP (fun _ hk => hk.elim) ?aF ?aO ?aB ?aS ?aL ?_; (case aP => exact rfl); (case aB => exact bh_); (case aF => exact (fun k_ hk => ⟨Kd.fresh' (Kd.R_lt (rk_ HO_463004.out)) k_ hk, Kd.fresh' (Kd.R_lt (rk_ HO_463005.out)) k_ hk⟩)); (case aO => exact (rk_ HO_463006.out)); (case aS => exact bz_); (case aL => have := LMc19.out; omega); intro v467 w25 ho hb hg hat; rw [← Ny466.out] at ho; have n0_ := am_ (Kd.R_over' (rk_ HO_5.out) (Kd.R_typed (rk_ HO_463006.out)) (by decide) hg); have n1_ := am_ (Kd.R_after (ok := (fun k_ => some k_ ≠ (u463005 : Value).ownBlock)) (rk_ HO_463004.out) hg hat); have n2_ := am_ (Kd.R_after (ok := (fun k_ => some k_ ≠ (u463004 : Value).ownBlock)) (rk_ HO_463005.out) hg hat); have n3_ := am_ (blk_grown (bk_ BK456.out) hg (Kd.R_ne HO_463006.out BK456.out (by decide))); have n4_ := am_ (blk_grown (bk_ BK457.out) hg (Kd.R_ne HO_463006.out BK457.out (by decide))); have n5_ := am_ (blk_grown (bk_ BK462.out) hg (Kd.R_ne HO_463006.out BK462.out (by decide))); have n6_ := am_ (hb); have n7_ := am_ (ho); clear HO_5; clear HO_463004; clear HO_463005; clear BK456; clear BK457; clear BK462; clear HB; clear HO_463006; have HO_5 := n0_; have HO_463004 := n1_; have HO_463005 := n2_; have BK456 := n3_; have BK457 := n4_; have BK462 := n5_; have HB := n6_; have HO468 := n7_; clear n0_ n1_ n2_ n3_ n4_ n5_ n6_ n7_; clear ho hb hg hat; obtain ⟨Ao26, co26, eo26⟩ := Kd.R_slice HO468.out; subst eo26; obtain ⟨hcz27_0, hcz27_1, hcz27_2, hcz27_3, hcz27_4, hcz27_5, hcz27_6⟩ := cz7_ BK462.out; obtain ⟨hfz27_0, hfz27_1, hfz27_2, hfz27_3, hfz27_4, hfz27_5, hfz27_6⟩ := fz7_ BK462.out))
    go_roundg k1
    case measure => have := HK1.out; omega
    case rel => exact ⟨(wrap64 (x7_1 + 1)), (x463004_1), (x463005_1), (y466), (u463004), (u463005), (.slice Ao26 y466.length co26), rs_, H', ⟨by have := HK1.out; omega⟩, ⟨by (with_reducible repeat (first | apply Kd.R_alloc | apply Kd.R_drewN | apply Kd.R_drew)); exact Kd.R_mono (Kd.R_far (p := ⟨gb462, 6, none⟩) (Kd.R_types HO_5.out BK462.out (by decide)) (fun _ hk => hk.2) (.slice Ao26 y466.length co26)) (fun _ hk => trivial)⟩, ⟨by (with_reducible repeat (first | apply Kd.R_alloc | apply Kd.R_drewN | apply Kd.R_drew)); exact Kd.R_mono (Kd.R_far (p := ⟨gb462, 6, none⟩) (Kd.R_types HO_463004.out BK462.out (by decide)) (fun _ hk => hk.2) (.slice Ao26 y466.length co26)) (fun _ hk => ⟨hk.1.1, hk.1.2⟩)⟩, ⟨by (with_reducible repeat (first | apply Kd.R_alloc | apply Kd.R_drewN | apply Kd.R_drew)); exact Kd.R_mono (Kd.R_far (p := ⟨gb462, 6, none⟩) (Kd.R_types HO_463005.out BK462.out (by decide)) (fun _ hk => hk.2) (.slice Ao26 y466.length co26)) (fun _ hk => ⟨hk.1.1, hk.1.2⟩)⟩, ⟨by (with_reducible repeat (first | apply Kd.R_alloc | apply Kd.R_drewN | apply Kd.R_drew)); exact Kd.R_mono (Kd.R_far (p := ⟨gb462, 6, none⟩) (Kd.R_types HO468.out BK462.out (by decide)) (fun _ hk => hk.2) (.slice Ao26 y466.length co26)) (fun _ hk => ⟨hk.1.1, hk.1.2⟩)⟩, ⟨by refine bp_ ?_; refine blk_far ?_ NB456_462.out _; exact bk_ BK456.out⟩, ⟨by refine bp_ ?_; refine blk_far ?_ NB457_462.out _; exact bk_ BK457.out⟩, ⟨by refine bp_ ?_; refine blk_put (cs := #[.int .i64 ((rd_T44 t458 0).f0), .int .i64 ((rd_T44 t458 0).f1), .int .i64 ((rd_T44 t458 0).f2), .string ((rd_T44 t458 0).f3), u463004, u463005, u463006]) ?_ 6 _ rfl; exact bk_ BK462.out⟩, ⟨bh_⟩⟩
   rw [if_neg c18] at H
   have c18b0 : (((rd_T68 l0_2 ((rd_T44 t458 x7_1).f1)).f2) == 1) = false := beq_eq_false_iff_ne.mpr c18
   have c18b1 : (((rd_T68 l0_2 ((rd_T44 t458 x7_1).f1)).f2) != 1) = true := bne_iff_ne.mpr c18
   by_cases c28 : ((rd_T68 l0_2 ((rd_T44 t458 x7_1).f1)).f2) = 2
   ·rw [if_pos c28] at H
    have c28b0 : (((rd_T68 l0_2 ((rd_T44 t458 x7_1).f1)).f2) == 2) = true := beq_iff_eq.mpr c28
    have c28b1 : (((rd_T68 l0_2 ((rd_T44 t458 x7_1).f1)).f2) != 2) = false := bne_eq_false_iff_eq.mpr c28
    clear c28
    by_cases c29 : x463004_1.length < 17592186044416
    rotate_left
    ·rw [if_neg c29] at H
     exact absurd H (by simp)
    rw [if_pos c29] at H
    have LMc29 := am_ c29
    clear c29
    obtain ⟨y469, hy469⟩ : ∃ y_ : List Int, y_ = (x463004_1 ++ [(rd_T44 t458 x7_1).f1]) := ⟨_, rfl⟩
    replace H : (computusref21_Resolve.l0 k1 t458 (wrap64 (x7_1 + 1)) a0_0 l0_1 l0_2 ((rd_T44 t458 0).f0) ((rd_T44 t458 0).f1) ((rd_T44 t458 0).f2) ((rd_T44 t458 0).f3) y469 x463005_1 x463006_1) = some (r1, r2, r3, r4, r5, r6, r7) := by first | (rw [hy469]; with_reducible exact H) | (have H2_ := (Option.bind_some _ _).symm.trans H; rw [hy469]; with_reducible exact H2_) | (have H2_ := (Option.bind_some _ _).symm.trans H; with_reducible exact H2_) | with_reducible exact H | (rw [hy469]; exact H) | exact H
    have Ny469 := am_ hy469
    clear hy469
    have H' := am_ H
    clear H
    have p463 : 0 ≤ (x7_1 : Int) := of_decide_eq_true as_
    have q463 : x7_1 < (t458.length : Int) := of_decide_eq_true as_
    obtain ⟨ad463, e463, hx463_0, hx463_1, hx463_2, hx463_3⟩ := at_T44 (Kd.R_reads' HO_5.out).2.2 x7_1 p463 q463
    obtain rfl : ad461 = ad463 := (by injection e463)
    replace p463 := eq_true p463
    replace q463 := eq_true q463
    have p464 : 0 ≤ (x7_1 : Int) := of_decide_eq_true as_
    have q464 : x7_1 < (t458.length : Int) := of_decide_eq_true as_
    obtain ⟨ad464, e464, hx464_0, hx464_1, hx464_2, hx464_3⟩ := at_T44 (Kd.R_reads' HO_5.out).2.2 x7_1 p464 q464
    obtain rfl : ad461 = ad464 := (by injection e464)
    replace p464 := eq_true p464
    replace q464 := eq_true q464
    have hnb30 := NB456_457.out
    have hnc30 := NB457_456.out
    have hnb31 := NB456_462.out
    have hnc31 := NB462_456.out
    obtain ⟨hcz32_0, hcz32_1, hcz32_2⟩ := cz3_ BK456.out
    obtain ⟨hfz32_0, hfz32_1, hfz32_2⟩ := fz3_ BK456.out
    have p465 : 0 ≤ (((rd_T44 t458 x7_1).f1) : Int) := of_decide_eq_true as_
    have q465 : ((rd_T44 t458 x7_1).f1) < (l0_2.length : Int) := of_decide_eq_true as_
    obtain ⟨ad465, e465, hx465_0, hx465_1, hx465_2, hx465_3, hx465_4, hx465_5, hx465_6, hx465_7, hx465_8⟩ := at_T68 HR0_2.out ((rd_T44 t458 x7_1).f1) p465 q465
    cases e465
    replace hx465_0 := cm_ HB.out hx465_0
    replace hx465_1 := cm_ HB.out hx465_1
    replace hx465_2 := cm_ HB.out hx465_2
    replace hx465_3 := cm_ HB.out hx465_3
    replace hx465_4 := cm_ HB.out hx465_4
    replace hx465_5 := cm_ HB.out hx465_5
    replace hx465_6 := cm_ HB.out hx465_6
    replace hx465_7 := cm_ HB.out hx465_7
    replace hx465_8 := cm_ HB.out hx465_8
    replace p465 := eq_true p465
    replace q465 := eq_true q465
    have hnb33 := NB462_457.out
    have hnc33 := NB457_462.out
    obtain ⟨hcz34_0, hcz34_1, hcz34_2, hcz34_3, hcz34_4, hcz34_5, hcz34_6⟩ := cz7_ BK462.out
    obtain ⟨hfz34_0, hfz34_1, hfz34_2, hfz34_3, hfz34_4, hfz34_5, hfz34_6⟩ := fz7_ BK462.out
    go_wp2_with (first | ((with_reducible refine gate_builtin (b := .append) (xs := #[.tmp 49, .tmp 51]) rfl ?_); at_builtin; refine Kd.R_append (Kd.int .i64) (w0 := w) w.heap.size rfl (.tmp 49) (.tmp 51) 40 3 (.int .i64 0) 8 rfl Try.underlying40 info3 rfl (by decide) (by omega) u463004 x463004_1 ((rd_T44 t458 x7_1).f1) [.int .i64 ((rd_T44 t458 x7_1).f1)] (fun k_ => some k_ ≠ (u463005 : Value).ownBlock ∧ some k_ ≠ (u463006 : Value).ownBlock) (fun _ => False) rfl rfl ?aP (fun _ hk => hk.elim) ?aF ?aO ?aB ?aS ?aL ?_; (case aP => exact rfl); (case aB => exact bh_); (case aF => exact (fun k_ hk => ⟨Kd.fresh' (Kd.R_lt (rk_ HO_463005.out)) k_ hk, Kd.fresh' (Kd.R_lt (rk_ HO_463006.out)) k_ hk⟩)); (case aO => exact (rk_ HO_463004.out)); (case aS => exact bz_); (case aL => have := LMc29.out; omega); intro v470 w35 ho hb hg hat; rw [← Ny469.out] at ho; have n0_ := am_ (Kd.R_over' (rk_ HO_5.out) (Kd.R_typed (rk_ HO_463004.out)) (by decide) hg); have n1_ := am_ (Kd.R_after (ok := (fun k_ => some k_ ≠ (u463006 : Value).ownBlock)) (by (with_reducible repeat (first | apply Kd.R_alloc | apply Kd.R_drewN | apply Kd.R_drew)); exact Kd.R_mono HO_463005.out (fun _ hk => ⟨hk.2, hk.1⟩)) hg hat); have n2_ := am_ (Kd.R_after (ok := (fun k_ => some k_ ≠ (u463005 : Value).ownBlock)) (by (with_reducible repeat (first | apply Kd.R_alloc | apply Kd.R_drewN | apply Kd.R_drew)); exact Kd.R_mono HO_463006.out (fun _ hk => ⟨hk.2, hk.1⟩)) hg hat); have n3_ := am_ (blk_grown (bk_ BK456.out) hg (Kd.R_ne HO_463004.out BK456.out (by decide))); have n4_ := am_ (blk_grown (bk_ BK457.out) hg (Kd.R_ne HO_463004.out BK457.out (by decide))); have n5_ := am_ (blk_grown (bk_ BK462.out) hg (Kd.R_ne HO_463004.out BK462.out (by decide))); have n6_ := am_ (hb); have n7_ := am_ (ho); clear HO_5; clear HO_463005; clear HO_463006; clear BK456; clear BK457; clear BK462; clear HB; clear HO_463004; have HO_5 := n0_; have HO_463005 := n1_; have HO_463006 := n2_; have BK456 := n3_; have BK457 := n4_; have BK462 := n5_; have HB := n6_; have HO471 := n7_; clear n0_ n1_ n2_ n3_ n4_ n5_ n6_ n7_; clear ho hb hg hat; obtain ⟨Ao36, co36, eo36⟩ := Kd.R_slice HO471.out; subst eo36; obtain ⟨hcz37_0, hcz37_1, hcz37_2, hcz37_3, hcz37_4, hcz37_5, hcz37_6⟩ := cz7_ BK462.out; obtain ⟨hfz37_0, hfz37_1, hfz37_2, hfz37_3, hfz37_4, hfz37_5, hfz37_6⟩ := fz7_ BK462.out))
    go_roundg k1
    case measure => have := HK1.out; omega
    case rel => exact ⟨(wrap64 (x7_1 + 1)), (y469), (x463005_1), (x463006_1), (.slice Ao36 y469.length co36), (u463005), (u463006), rs_, H', ⟨by have := HK1.out; omega⟩, ⟨by (with_reducible repeat (first | apply Kd.R_alloc | apply Kd.R_drewN | apply Kd.R_drew)); exact Kd.R_mono (Kd.R_far (p := ⟨gb462, 4, none⟩) (Kd.R_types HO_5.out BK462.out (by decide)) (fun _ hk => hk.2) (.slice Ao36 y469.length co36)) (fun _ hk => trivial)⟩, ⟨by (with_reducible repeat (first | apply Kd.R_alloc | apply Kd.R_drewN | apply Kd.R_drew)); exact Kd.R_mono (Kd.R_far (p := ⟨gb462, 4, none⟩) (Kd.R_types HO471.out BK462.out (by decide)) (fun _ hk => hk.2) (.slice Ao36 y469.length co36)) (fun _ hk => ⟨hk.1.1, hk.1.2⟩)⟩, ⟨by (with_reducible repeat (first | apply Kd.R_alloc | apply Kd.R_drewN | apply Kd.R_drew)); exact Kd.R_mono (Kd.R_far (p := ⟨gb462, 4, none⟩) (Kd.R_types HO_463005.out BK462.out (by decide)) (fun _ hk => hk.2) (.slice Ao36 y469.length co36)) (fun _ hk => ⟨hk.1.2, hk.1.1⟩)⟩, ⟨by (with_reducible repeat (first | apply Kd.R_alloc | apply Kd.R_drewN | apply Kd.R_drew)); exact Kd.R_mono (Kd.R_far (p := ⟨gb462, 4, none⟩) (Kd.R_types HO_463006.out BK462.out (by decide)) (fun _ hk => hk.2) (.slice Ao36 y469.length co36)) (fun _ hk => ⟨hk.1.2, hk.1.1⟩)⟩, ⟨by refine bp_ ?_; refine blk_far ?_ NB456_462.out _; exact bk_ BK456.out⟩, ⟨by refine bp_ ?_; refine blk_far ?_ NB457_462.out _; exact bk_ BK457.out⟩, ⟨by refine bp_ ?_; refine blk_put (cs := #[.int .i64 ((rd_T44 t458 0).f0), .int .i64 ((rd_T44 t458 0).f1), .int .i64 ((rd_T44 t458 0).f2), .string ((rd_T44 t458 0).f3), u463004, u463005, u463006]) ?_ 4 _ rfl; exact bk_ BK462.out⟩, ⟨bh_⟩⟩
   rw [if_neg c28] at H
   have c28b0 : (((rd_T68 l0_2 ((rd_T44 t458 x7_1).f1)).f2) == 2) = false := beq_eq_false_iff_ne.mpr c28
   have c28b1 : (((rd_T68 l0_2 ((rd_T44 t458 x7_1).f1)).f2) != 2) = true := bne_iff_ne.mpr c28
   by_cases c38 : ((rd_T68 l0_2 ((rd_T44 t458 x7_1).f1)).f2) = 3
   rotate_left
   ·rw [if_neg c38] at H
    have c38b0 : (((rd_T68 l0_2 ((rd_T44 t458 x7_1).f1)).f2) == 3) = false := beq_eq_false_iff_ne.mpr c38
    have c38b1 : (((rd_T68 l0_2 ((rd_T44 t458 x7_1).f1)).f2) != 3) = true := bne_iff_ne.mpr c38
    have H' := am_ H
    clear H
    have p463 : 0 ≤ (x7_1 : Int) := of_decide_eq_true as_
    have q463 : x7_1 < (t458.length : Int) := of_decide_eq_true as_
    obtain ⟨ad463, e463, hx463_0, hx463_1, hx463_2, hx463_3⟩ := at_T44 (Kd.R_reads' HO_5.out).2.2 x7_1 p463 q463
    obtain rfl : ad461 = ad463 := (by injection e463)
    replace p463 := eq_true p463
    replace q463 := eq_true q463
    have p464 : 0 ≤ (x7_1 : Int) := of_decide_eq_true as_
    have q464 : x7_1 < (t458.length : Int) := of_decide_eq_true as_
    obtain ⟨ad464, e464, hx464_0, hx464_1, hx464_2, hx464_3⟩ := at_T44 (Kd.R_reads' HO_5.out).2.2 x7_1 p464 q464
    obtain rfl : ad461 = ad464 := (by injection e464)
    replace p464 := eq_true p464
    replace q464 := eq_true q464
    have hnb48 := NB456_457.out
    have hnc48 := NB457_456.out
    have hnb49 := NB456_462.out
    have hnc49 := NB462_456.out
    obtain ⟨hcz50_0, hcz50_1, hcz50_2⟩ := cz3_ BK456.out
    obtain ⟨hfz50_0, hfz50_1, hfz50_2⟩ := fz3_ BK456.out
    have p465 : 0 ≤ (((rd_T44 t458 x7_1).f1) : Int) := of_decide_eq_true as_
    have q465 : ((rd_T44 t458 x7_1).f1) < (l0_2.length : Int) := of_decide_eq_true as_
    obtain ⟨ad465, e465, hx465_0, hx465_1, hx465_2, hx465_3, hx465_4, hx465_5, hx465_6, hx465_7, hx465_8⟩ := at_T68 HR0_2.out ((rd_T44 t458 x7_1).f1) p465 q465
    cases e465
    replace hx465_0 := cm_ HB.out hx465_0
    replace hx465_1 := cm_ HB.out hx465_1
    replace hx465_2 := cm_ HB.out hx465_2
    replace hx465_3 := cm_ HB.out hx465_3
    replace hx465_4 := cm_ HB.out hx465_4
    replace hx465_5 := cm_ HB.out hx465_5
    replace hx465_6 := cm_ HB.out hx465_6
    replace hx465_7 := cm_ HB.out hx465_7
    replace hx465_8 := cm_ HB.out hx465_8
    replace p465 := eq_true p465
    replace q465 := eq_true q465
    go_wp2
    go_roundg k1
    case measure => have := HK1.out; omega
    case rel => exact ⟨(wrap64 (x7_1 + 1)), (x463004_1), (x463005_1), (x463006_1), (u463004), (u463005), (u463006), rs_, H', ⟨by have := HK1.out; omega⟩, ⟨rk_ HO_5.out⟩, ⟨rk_ HO_463004.out⟩, ⟨rk_ HO_463005.out⟩, ⟨rk_ HO_463006.out⟩, ⟨bk_ BK456.out⟩, ⟨bk_ BK457.out⟩, ⟨bk_ BK462.out⟩, ⟨bh_⟩⟩
   rw [if_pos c38] at H
   have c38b0 : (((rd_T68 l0_2 ((rd_T44 t458 x7_1).f1)).f2) == 3) = true := beq_iff_eq.mpr c38
   have c38b1 : (((rd_T68 l0_2 ((rd_T44 t458 x7_1).f1)).f2) != 3) = false := bne_eq_false_iff_eq.mpr c38
   clear c38
   by_cases c39 : x463005_1.length < 17592186044416
   rotate_left
   ·rw [if_neg c39] at H
    exact absurd H (by simp)
   rw [if_pos c39] at H
   have LMc39 := am_ c39
   clear c39
   obtain ⟨y472, hy472⟩ : ∃ y_ : List Int, y_ = (x463005_1 ++ [(rd_T44 t458 x7_1).f1]) := ⟨_, rfl⟩
   replace H : (computusref21_Resolve.l0 k1 t458 (wrap64 (x7_1 + 1)) a0_0 l0_1 l0_2 ((rd_T44 t458 0).f0) ((rd_T44 t458 0).f1) ((rd_T44 t458 0).f2) ((rd_T44 t458 0).f3) x463004_1 y472 x463006_1) = some (r1, r2, r3, r4, r5, r6, r7) := by first | (rw [hy472]; with_reducible exact H) | (have H2_ := (Option.bind_some _ _).symm.trans H; rw [hy472]; with_reducible exact H2_) | (have H2_ := (Option.bind_some _ _).symm.trans H; with_reducible exact H2_) | with_reducible exact H | (rw [hy472]; exact H) | exact H
   have Ny472 := am_ hy472
   clear hy472
   have H' := am_ H
   clear H
   have p463 : 0 ≤ (x7_1 : Int) := of_decide_eq_true as_
   have q463 : x7_1 < (t458.length : Int) := of_decide_eq_true as_
   obtain ⟨ad463, e463, hx463_0, hx463_1, hx463_2, hx463_3⟩ := at_T44 (Kd.R_reads' HO_5.out).2.2 x7_1 p463 q463
   obtain rfl : ad461 = ad463 := (by injection e463)
   replace p463 := eq_true p463
   replace q463 := eq_true q463
   have p464 : 0 ≤ (x7_1 : Int) := of_decide_eq_true as_
   have q464 : x7_1 < (t458.length : Int) := of_decide_eq_true as_
   obtain ⟨ad464, e464, hx464_0, hx464_1, hx464_2, hx464_3⟩ := at_T44 (Kd.R_reads' HO_5.out).2.2 x7_1 p464 q464
   obtain rfl : ad461 = ad464 := (by injection e464)
   replace p464 := eq_true p464
   replace q464 := eq_true q464
   have hnb40 := NB456_457.out
   have hnc40 := NB457_456.out
   have hnb41 := NB456_462.out
   have hnc41 := NB462_456.out
   obtain ⟨hcz42_0, hcz42_1, hcz42_2⟩ := cz3_ BK456.out
   obtain ⟨hfz42_0, hfz42_1, hfz42_2⟩ := fz3_ BK456.out
   have p465 : 0 ≤ (((rd_T44 t458 x7_1).f1) : Int) := of_decide_eq_true as_
   have q465 : ((rd_T44 t458 x7_1).f1) < (l0_2.length : Int) := of_decide_eq_true as_
   obtain ⟨ad465, e465, hx465_0, hx465_1, hx465_2, hx465_3, hx465_4, hx465_5, hx465_6, hx465_7, hx465_8⟩ := at_T68 HR0_2.out ((rd_T44 t458 x7_1).f1) p465 q465
   cases e465
   replace hx465_0 := cm_ HB.out hx465_0
   replace hx465_1 := cm_ HB.out hx465_1
   replace hx465_2 := cm_ HB.out hx465_2
   replace hx465_3 := cm_ HB.out hx465_3
   replace hx465_4 := cm_ HB.out hx465_4
   replace hx465_5 := cm_ HB.out hx465_5
   replace hx465_6 := cm_ HB.out hx465_6
   replace hx465_7 := cm_ HB.out hx465_7
   replace hx465_8 := cm_ HB.out hx465_8
   replace p465 := eq_true p465
   replace q465 := eq_true q465
   have hnb43 := NB462_457.out
   have hnc43 := NB457_462.out
   obtain ⟨hcz44_0, hcz44_1, hcz44_2, hcz44_3, hcz44_4, hcz44_5, hcz44_6⟩ := cz7_ BK462.out
   obtain ⟨hfz44_0, hfz44_1, hfz44_2, hfz44_3, hfz44_4, hfz44_5, hfz44_6⟩ := fz7_ BK462.out
   go_wp2_with (first | ((with_reducible refine gate_builtin (b := .append) (xs := #[.tmp 57, .tmp 59]) rfl ?_); at_builtin; refine Kd.R_append (Kd.int .i64) (w0 := w) w.heap.size rfl (.tmp 57) (.tmp 59) 40 3 (.int .i64 0) 8 rfl Try.underlying40 info3 rfl (by decide) (by omega) u463005 x463005_1 ((rd_T44 t458 x7_1).f1) [.int .i64 ((rd_T44 t458 x7_1).f1)] (fun k_ => some k_ ≠ (u463004 : Value).ownBlock ∧ some k_ ≠ (u463006 : Value).ownBlock) (fun _ => False) rfl rfl ?aP (fun _ hk => hk.elim) ?aF ?aO ?aB ?aS ?aL ?_; (case aP => exact rfl); (case aB => exact bh_); (case aF => exact (fun k_ hk => ⟨Kd.fresh' (Kd.R_lt (rk_ HO_463004.out)) k_ hk, Kd.fresh' (Kd.R_lt (rk_ HO_463006.out)) k_ hk⟩)); (case aO => exact (rk_ HO_463005.out)); (case aS => exact bz_); (case aL => have := LMc39.out; omega); intro v473 w45 ho hb hg hat; rw [← Ny472.out] at ho; have n0_ := am_ (Kd.R_over' (rk_ HO_5.out) (Kd.R_typed (rk_ HO_463005.out)) (by decide) hg); have n1_ := am_ (Kd.R_after (ok := (fun k_ => some k_ ≠ (u463006 : Value).ownBlock)) (by (with_reducible repeat (first | apply Kd.R_alloc | apply Kd.R_drewN | apply Kd.R_drew)); exact Kd.R_mono HO_463004.out (fun _ hk => ⟨hk.2, hk.1⟩)) hg hat); have n2_ := am_ (Kd.R_after (ok := (fun k_ => some k_ ≠ (u463004 : Value).ownBlock)) (rk_ HO_463006.out) hg hat); have n3_ := am_ (blk_grown (bk_ BK456.out) hg (Kd.R_ne HO_463005.out BK456.out (by decide))); have n4_ := am_ (blk_grown (bk_ BK457.out) hg (Kd.R_ne HO_463005.out BK457.out (by decide))); have n5_ := am_ (blk_grown (bk_ BK462.out) hg (Kd.R_ne HO_463005.out BK462.out (by decide))); have n6_ := am_ (hb); have n7_ := am_ (ho); clear HO_5; clear HO_463004; clear HO_463006; clear BK456; clear BK457; clear BK462; clear HB; clear HO_463005; have HO_5 := n0_; have HO_463004 := n1_; have HO_463006 := n2_; have BK456 := n3_; have BK457 := n4_; have BK462 := n5_; have HB := n6_; have HO474 := n7_; clear n0_ n1_ n2_ n3_ n4_ n5_ n6_ n7_; clear ho hb hg hat; obtain ⟨Ao46, co46, eo46⟩ := Kd.R_slice HO474.out; subst eo46; obtain ⟨hcz47_0, hcz47_1, hcz47_2, hcz47_3, hcz47_4, hcz47_5, hcz47_6⟩ := cz7_ BK462.out; obtain ⟨hfz47_0, hfz47_1, hfz47_2, hfz47_3, hfz47_4, hfz47_5, hfz47_6⟩ := fz7_ BK462.out))
   go_roundg k1
   case measure => have := HK1.out; omega
   case rel => exact ⟨(wrap64 (x7_1 + 1)), (x463004_1), (y472), (x463006_1), (u463004), (.slice Ao46 y472.length co46), (u463006), rs_, H', ⟨by have := HK1.out; omega⟩, ⟨by (with_reducible repeat (first | apply Kd.R_alloc | apply Kd.R_drewN | apply Kd.R_drew)); exact Kd.R_mono (Kd.R_far (p := ⟨gb462, 5, none⟩) (Kd.R_types HO_5.out BK462.out (by decide)) (fun _ hk => hk.2) (.slice Ao46 y472.length co46)) (fun _ hk => trivial)⟩, ⟨by (with_reducible repeat (first | apply Kd.R_alloc | apply Kd.R_drewN | apply Kd.R_drew)); exact Kd.R_mono (Kd.R_far (p := ⟨gb462, 5, none⟩) (Kd.R_types HO_463004.out BK462.out (by decide)) (fun _ hk => hk.2) (.slice Ao46 y472.length co46)) (fun _ hk => ⟨hk.1.2, hk.1.1⟩)⟩, ⟨by (with_reducible repeat (first | apply Kd.R_alloc | apply Kd.R_drewN | apply Kd.R_drew)); exact Kd.R_mono (Kd.R_far (p := ⟨gb462, 5, none⟩) (Kd.R_types HO474.out BK462.out (by decide)) (fun _ hk => hk.2) (.slice Ao46 y472.length co46)) (fun _ hk => ⟨hk.1.1, hk.1.2⟩)⟩, ⟨by (with_reducible repeat (first | apply Kd.R_alloc | apply Kd.R_drewN | apply Kd.R_drew)); exact Kd.R_mono (Kd.R_far (p := ⟨gb462, 5, none⟩) (Kd.R_types HO_463006.out BK462.out (by decide)) (fun _ hk => hk.2) (.slice Ao46 y472.length co46)) (fun _ hk => ⟨hk.1.1, hk.1.2⟩)⟩, ⟨by refine bp_ ?_; refine blk_far ?_ NB456_462.out _; exact bk_ BK456.out⟩, ⟨by refine bp_ ?_; refine blk_far ?_ NB457_462.out _; exact bk_ BK457.out⟩, ⟨by refine bp_ ?_; refine blk_put (cs := #[.int .i64 ((rd_T44 t458 0).f0), .int .i64 ((rd_T44 t458 0).f1), .int .i64 ((rd_T44 t458 0).f2), .string ((rd_T44 t458 0).f3), u463004, u463005, u463006]) ?_ 5 _ rfl; exact bk_ BK462.out⟩, ⟨bh_⟩⟩
theorem eqA44 (d : Nat) (w : World) (x0 y0 : Int) (x1 y1 : Int) (x2 y2 : Int) (x3 y3 : ByteArray) :
  (Op.equalIn (d + 2) 44 (.agg #[.int .i64 x0, .int .i64 x1, .int .i64 x2, .string x3]) (.agg #[.int .i64 y0, .int .i64 y1, .int .i64 y2, .string y3])).run Try.prog w = .ok (x0 == y0 && (x1 == y1 && (x2 == y2 && (x3.toList == y3.toList)))) w := by
 refine eqA_of Try.underlying44 (by kernel_rfl) ?_
 refine eqf_cons (by rfl) (by go_simp; rfl) (by go_simp; rfl) (by go_simp) ?_
 refine eqf_cons (by rfl) (by go_simp; rfl) (by go_simp; rfl) (by go_simp) ?_
 refine eqf_cons (by rfl) (by go_simp; rfl) (by go_simp; rfl) (by go_simp) ?_
 exact eqf_last (by rfl) (by go_simp; rfl) (by go_simp; rfl) (by go_simp)
section
attribute [local go_sem high] eqA44
def computuslaw21_same.f (k : Nat) (a0_0 : Int) (a0_1 : Int) (a0_2 : Int) (a0_3 : ByteArray) (l0_4 : List Int) (l0_5 : List Int) (l0_6 : List Int) (a1_0 : Int) (a1_1 : Int) (a1_2 : Int) (a1_3 : ByteArray) (l1_4 : List Int) (l1_5 : List Int) (l1_6 : List Int) : Option (Bool) := if (a0_0 == a1_0 && (a0_1 == a1_1 && (a0_2 == a1_2 && (a0_3.toList == a1_3.toList)))) = true then ((computusref08_Numbers.f k l0_4 l1_4).bind fun t478 => (if t478 = true then ((computusref08_Numbers.f k l0_5 l1_5).bind fun t479 => (if t479 = true then ((computusref08_Numbers.f k l0_6 l1_6).bind fun t480 => (some t480)) else (some false))) else (some false))) else (some false)
theorem computuslaw21_same.calls (k : Nat) (a0_0 : Int) (a0_1 : Int) (a0_2 : Int) (a0_3 : ByteArray) (A0_4 : Option Addr) (c0_4 : Nat) (l0_4 : List Int) (A0_5 : Option Addr) (c0_5 : Nat) (l0_5 : List Int) (A0_6 : Option Addr) (c0_6 : Nat) (l0_6 : List Int) (a1_0 : Int) (a1_1 : Int) (a1_2 : Int) (a1_3 : ByteArray) (A1_4 : Option Addr) (c1_4 : Nat) (l1_4 : List Int) (A1_5 : Option Addr) (c1_5 : Nat) (l1_5 : List Int) (A1_6 : Option Addr) (c1_6 : Nat) (l1_6 : List Int) (r : Bool) (w : World) (hr0_4 : Kd.C (Kd.int .i64) w A0_4 l0_4.length l0_4) (hc0_4 : l0_4.length ≤ c0_4) (hr0_5 : Kd.C (Kd.int .i64) w A0_5 l0_5.length l0_5) (hc0_5 : l0_5.length ≤ c0_5) (hr0_6 : Kd.C (Kd.int .i64) w A0_6 l0_6.length l0_6) (hc0_6 : l0_6.length ≤ c0_6) (hr1_4 : Kd.C (Kd.int .i64) w A1_4 l1_4.length l1_4) (hc1_4 : l1_4.length ≤ c1_4) (hr1_5 : Kd.C (Kd.int .i64) w A1_5 l1_5.length l1_5) (hc1_5 : l1_5.length ≤ c1_5) (hr1_6 : Kd.C (Kd.int .i64) w A1_6 l1_6.length l1_6) (hc1_6 : l1_6.length ≤ c1_6) (h : computuslaw21_same.f k a0_0 a0_1 a0_2 a0_3 l0_4 l0_5 l0_6 a1_0 a1_1 a1_2 a1_3 l1_4 l1_5 l1_6 = some r) :
  Calls Try.prog 20 #[.agg #[.int .i64 a0_0, .int .i64 a0_1, .int .i64 a0_2, .string a0_3, .slice A0_4 l0_4.length c0_4, .slice A0_5 l0_5.length c0_5, .slice A0_6 l0_6.length c0_6], .agg #[.int .i64 a1_0, .int .i64 a1_1, .int .i64 a1_2, .string a1_3, .slice A1_4 l1_4.length c1_4, .slice A1_5 l1_5.length c1_5, .slice A1_6 l1_6.length c1_6]] w fun e w' => e = .returned (.bool r) ∧ Below w.heap.size w w' := by
 have hu42 := Try.underlying42
 have hu46 := Try.underlying46
 have hu44 := Try.underlying44
 have HR0_4 := am_ hr0_4
 have HC0_4 := am_ hc0_4
 clear hr0_4 hc0_4
 have HR0_5 := am_ hr0_5
 have HC0_5 := am_ hc0_5
 clear hr0_5 hc0_5
 have HR0_6 := am_ hr0_6
 have HC0_6 := am_ hc0_6
 clear hr0_6 hc0_6
 have HR1_4 := am_ hr1_4
 have HC1_4 := am_ hc1_4
 clear hr1_4 hc1_4
 have HR1_5 := am_ hr1_5
 have HC1_5 := am_ hc1_5
 clear hr1_5 hc1_5
 have HR1_6 := am_ hr1_6
 have HC1_6 := am_ hc1_6
 clear hr1_6 hc1_6
 have HB := am_ (Below.refl w.heap.size w)
 have H := h
 clear h
 unfold computuslaw21_same.f at H
 by_cases c3 : (a0_0 == a1_0 && (a0_1 == a1_1 && (a0_2 == a1_2 && (a0_3.toList == a1_3.toList)))) = true
 rotate_left
 ·rw [if_neg c3] at H
  have c3b0 : (a0_0 == a1_0 && (a0_1 == a1_1 && (a0_2 == a1_2 && (a0_3.toList == a1_3.toList)))) = false := by simpa using c3
  (try (have c3b1 : decide (a0_0 = a1_0 && (a0_1 == a1_1 && (a0_2 == a1_2 && (a0_3.toList == a1_3.toList)))) = false := by simpa using c3))
  (try (have c3b2 : (a0_0 == a1_0 && (a0_1 == a1_1 && (a0_2 == a1_2 && (a0_3.toList == a1_3.toList)))) = false := by simpa using c3))
  (try (have c3b3 : ¬ (a0_0 = a1_0 && (a0_1 == a1_1 && (a0_2 == a1_2 && (a0_3.toList == a1_3.toList)))) := by simpa using c3))
  clear c3
  obtain rfl := Option.some.inj H
  go_enter Try.func20, Try.ntmps20
  go_wp2_with (first | ((with_reducible refine gate_dst (N := 2) rfl ?_); refine bx_ (w := w) (N := 2) (cs := #[.int .i64 a0_0, .int .i64 a0_1, .int .i64 a0_2, .string a0_3, .slice A0_4 l0_4.length c0_4, .slice A0_5 l0_5.length c0_5, .slice A0_6 l0_6.length c0_6]) (t := 42) ?_; intro gb475 w39 BK475 n0_ GW475 GE475; clear HB; have HB := n0_; clear n0_) | ((with_reducible refine gate_dst (N := 3) rfl ?_); refine be_ (N := 3) (cs := #[.int .i64 a1_0, .int .i64 a1_1, .int .i64 a1_2, .string a1_3, .slice A1_4 l1_4.length c1_4, .slice A1_5 l1_5.length c1_5, .slice A1_6 l1_6.length c1_6]) (t := 46) ?_; intro gb476 hg w40 hbox hb; have BK476 := am_ (hbox); have GW476 := gw_ (w := w) hg; have GE476 := gw_ (w := w) hg; replace HB := bt_ hb; have NB475_476 := ne_ hg BK475; have NB476_475 := nf_ hg BK475; replace BK475 := bw_ BK475 hb; clear hb hbox hg; have hnb41 := NB475_476.out; have hnc41 := NB476_475.out; obtain ⟨hcz42_0, hcz42_1, hcz42_2, hcz42_3, hcz42_4, hcz42_5, hcz42_6⟩ := cz7_ BK475.out; obtain ⟨hfz42_0, hfz42_1, hfz42_2, hfz42_3, hfz42_4, hfz42_5, hfz42_6⟩ := fz7_ BK475.out) | ((with_reducible refine gate_dst (N := 5) rfl ?_); refine be_ (N := 5) (cs := #[.int .i64 0, .int .i64 0, .int .i64 0, .string (⟨#[]⟩ : ByteArray)]) (t := 44) ?_; intro gb477 hg w43 hbox hb; have BK477 := am_ (hbox); have GW477 := gw_ (w := w) hg; have GE477 := gw_ (w := w) hg; replace HB := bt_ hb; have NB475_477 := ne_ hg BK475; have NB477_475 := nf_ hg BK475; replace BK475 := bw_ BK475 hb; have NB476_477 := ne_ hg BK476; have NB477_476 := nf_ hg BK476; replace BK476 := bw_ BK476 hb; clear hb hbox hg; have hnb44 := NB477_475.out; have hnc44 := NB475_477.out; have hnb45 := NB477_476.out; have hnc45 := NB476_477.out; obtain ⟨hcz46_0, hcz46_1, hcz46_2, hcz46_3⟩ := cz4_ BK477.out; obtain ⟨hfz46_0, hfz46_1, hfz46_2, hfz46_3⟩ := fz4_ BK477.out; obtain ⟨hcz47_0, hcz47_1, hcz47_2, hcz47_3, hcz47_4, hcz47_5, hcz47_6⟩ := cz7_ BK476.out; obtain ⟨hfz47_0, hfz47_1, hfz47_2, hfz47_3, hfz47_4, hfz47_5, hfz47_6⟩ := fz7_ BK476.out))
  go_ret
  exact rt_
 rw [if_pos c3] at H
 have c3b0 : (a0_0 == a1_0 && (a0_1 == a1_1 && (a0_2 == a1_2 && (a0_3.toList == a1_3.toList)))) = true := c3
 (try (have c3b1 : decide (a0_0 = a1_0 && (a0_1 == a1_1 && (a0_2 == a1_2 && (a0_3.toList == a1_3.toList)))) = true := by simpa using c3))
 (try (have c3b2 : (a0_0 == a1_0 && (a0_1 == a1_1 && (a0_2 == a1_2 && (a0_3.toList == a1_3.toList)))) = true := by simpa using c3))
 clear c3
 obtain ⟨t478, A4, H⟩ := bs_ H
 by_cases c5 : t478 = true
 rotate_left
 ·replace c5 := Bool.eq_false_iff.mpr c5
  subst c5
  replace H := if_ H
  obtain rfl := Option.some.inj H
  go_enter Try.func20, Try.ntmps20
  go_wp2_with (first | ((with_reducible refine gate_dst (N := 2) rfl ?_); refine bx_ (w := w) (N := 2) (cs := #[.int .i64 a0_0, .int .i64 a0_1, .int .i64 a0_2, .string a0_3, .slice A0_4 l0_4.length c0_4, .slice A0_5 l0_5.length c0_5, .slice A0_6 l0_6.length c0_6]) (t := 42) ?_; intro gb475 w29 BK475 n0_ GW475 GE475; clear HB; have HB := n0_; clear n0_) | ((with_reducible refine gate_dst (N := 3) rfl ?_); refine be_ (N := 3) (cs := #[.int .i64 a1_0, .int .i64 a1_1, .int .i64 a1_2, .string a1_3, .slice A1_4 l1_4.length c1_4, .slice A1_5 l1_5.length c1_5, .slice A1_6 l1_6.length c1_6]) (t := 46) ?_; intro gb476 hg w30 hbox hb; have BK476 := am_ (hbox); have GW476 := gw_ (w := w) hg; have GE476 := gw_ (w := w) hg; replace HB := bt_ hb; have NB475_476 := ne_ hg BK475; have NB476_475 := nf_ hg BK475; replace BK475 := bw_ BK475 hb; clear hb hbox hg; have hnb31 := NB475_476.out; have hnc31 := NB476_475.out; obtain ⟨hcz32_0, hcz32_1, hcz32_2, hcz32_3, hcz32_4, hcz32_5, hcz32_6⟩ := cz7_ BK475.out; obtain ⟨hfz32_0, hfz32_1, hfz32_2, hfz32_3, hfz32_4, hfz32_5, hfz32_6⟩ := fz7_ BK475.out) | ((with_reducible refine gate_dst (N := 5) rfl ?_); refine be_ (N := 5) (cs := #[.int .i64 0, .int .i64 0, .int .i64 0, .string (⟨#[]⟩ : ByteArray)]) (t := 44) ?_; intro gb477 hg w33 hbox hb; have BK477 := am_ (hbox); have GW477 := gw_ (w := w) hg; have GE477 := gw_ (w := w) hg; replace HB := bt_ hb; have NB475_477 := ne_ hg BK475; have NB477_475 := nf_ hg BK475; replace BK475 := bw_ BK475 hb; have NB476_477 := ne_ hg BK476; have NB477_476 := nf_ hg BK476; replace BK476 := bw_ BK476 hb; clear hb hbox hg; have hnb34 := NB477_475.out; have hnc34 := NB475_477.out; have hnb35 := NB477_476.out; have hnc35 := NB476_477.out; obtain ⟨hcz36_0, hcz36_1, hcz36_2, hcz36_3⟩ := cz4_ BK477.out; obtain ⟨hfz36_0, hfz36_1, hfz36_2, hfz36_3⟩ := fz4_ BK477.out; obtain ⟨hcz37_0, hcz37_1, hcz37_2, hcz37_3, hcz37_4, hcz37_5, hcz37_6⟩ := cz7_ BK476.out; obtain ⟨hfz37_0, hfz37_1, hfz37_2, hfz37_3, hfz37_4, hfz37_5, hfz37_6⟩ := fz7_ BK476.out; obtain ⟨hcz38_0, hcz38_1, hcz38_2, hcz38_3, hcz38_4, hcz38_5, hcz38_6⟩ := cz7_ BK475.out; obtain ⟨hfz38_0, hfz38_1, hfz38_2, hfz38_3, hfz38_4, hfz38_5, hfz38_6⟩ := fz7_ BK475.out) | (go_at_call 27; (with_reducible refine (computusref08_Numbers.calls k _ _ l0_4 _ _ l1_4 false _ ?side1 ?side2 ?side3 ?side4 A4.out).mono ?_); (case side1 => exact Kd.C_below HR0_4.out bh_); (case side2 => exact HC0_4.out); (case side3 => exact Kd.C_below HR1_4.out bh_); (case side4 => exact HC1_4.out); rintro e w' ⟨rfl, ⟨nd, rfl⟩⟩))
  go_ret
  exact rt_
 subst c5
 replace H := it_ H
 obtain ⟨t479, A6, H⟩ := bs_ H
 by_cases c7 : t479 = true
 rotate_left
 ·replace c7 := Bool.eq_false_iff.mpr c7
  subst c7
  replace H := if_ H
  obtain rfl := Option.some.inj H
  go_enter Try.func20, Try.ntmps20
  go_wp2_with (first | ((with_reducible refine gate_dst (N := 2) rfl ?_); refine bx_ (w := w) (N := 2) (cs := #[.int .i64 a0_0, .int .i64 a0_1, .int .i64 a0_2, .string a0_3, .slice A0_4 l0_4.length c0_4, .slice A0_5 l0_5.length c0_5, .slice A0_6 l0_6.length c0_6]) (t := 42) ?_; intro gb475 w19 BK475 n0_ GW475 GE475; clear HB; have HB := n0_; clear n0_) | ((with_reducible refine gate_dst (N := 3) rfl ?_); refine be_ (N := 3) (cs := #[.int .i64 a1_0, .int .i64 a1_1, .int .i64 a1_2, .string a1_3, .slice A1_4 l1_4.length c1_4, .slice A1_5 l1_5.length c1_5, .slice A1_6 l1_6.length c1_6]) (t := 46) ?_; intro gb476 hg w20 hbox hb; have BK476 := am_ (hbox); have GW476 := gw_ (w := w) hg; have GE476 := gw_ (w := w) hg; replace HB := bt_ hb; have NB475_476 := ne_ hg BK475; have NB476_475 := nf_ hg BK475; replace BK475 := bw_ BK475 hb; clear hb hbox hg; have hnb21 := NB475_476.out; have hnc21 := NB476_475.out; obtain ⟨hcz22_0, hcz22_1, hcz22_2, hcz22_3, hcz22_4, hcz22_5, hcz22_6⟩ := cz7_ BK475.out; obtain ⟨hfz22_0, hfz22_1, hfz22_2, hfz22_3, hfz22_4, hfz22_5, hfz22_6⟩ := fz7_ BK475.out) | ((with_reducible refine gate_dst (N := 5) rfl ?_); refine be_ (N := 5) (cs := #[.int .i64 0, .int .i64 0, .int .i64 0, .string (⟨#[]⟩ : ByteArray)]) (t := 44) ?_; intro gb477 hg w23 hbox hb; have BK477 := am_ (hbox); have GW477 := gw_ (w := w) hg; have GE477 := gw_ (w := w) hg; replace HB := bt_ hb; have NB475_477 := ne_ hg BK475; have NB477_475 := nf_ hg BK475; replace BK475 := bw_ BK475 hb; have NB476_477 := ne_ hg BK476; have NB477_476 := nf_ hg BK476; replace BK476 := bw_ BK476 hb; clear hb hbox hg; have hnb24 := NB477_475.out; have hnc24 := NB475_477.out; have hnb25 := NB477_476.out; have hnc25 := NB476_477.out; obtain ⟨hcz26_0, hcz26_1, hcz26_2, hcz26_3⟩ := cz4_ BK477.out; obtain ⟨hfz26_0, hfz26_1, hfz26_2, hfz26_3⟩ := fz4_ BK477.out; obtain ⟨hcz27_0, hcz27_1, hcz27_2, hcz27_3, hcz27_4, hcz27_5, hcz27_6⟩ := cz7_ BK476.out; obtain ⟨hfz27_0, hfz27_1, hfz27_2, hfz27_3, hfz27_4, hfz27_5, hfz27_6⟩ := fz7_ BK476.out; obtain ⟨hcz28_0, hcz28_1, hcz28_2, hcz28_3, hcz28_4, hcz28_5, hcz28_6⟩ := cz7_ BK475.out; obtain ⟨hfz28_0, hfz28_1, hfz28_2, hfz28_3, hfz28_4, hfz28_5, hfz28_6⟩ := fz7_ BK475.out) | (go_at_call 27; (with_reducible refine (computusref08_Numbers.calls k _ _ l0_4 _ _ l1_4 true _ ?side1 ?side2 ?side3 ?side4 A4.out).mono ?_); (case side1 => exact Kd.C_below HR0_4.out bh_); (case side2 => exact HC0_4.out); (case side3 => exact Kd.C_below HR1_4.out bh_); (case side4 => exact HC1_4.out); rintro e w' ⟨rfl, ⟨nd, rfl⟩⟩) | (go_at_call 27; (with_reducible refine (computusref08_Numbers.calls k _ _ l0_5 _ _ l1_5 false _ ?side1 ?side2 ?side3 ?side4 A6.out).mono ?_); (case side1 => exact Kd.C_below HR0_5.out bh_); (case side2 => exact HC0_5.out); (case side3 => exact Kd.C_below HR1_5.out bh_); (case side4 => exact HC1_5.out); rintro e w' ⟨rfl, ⟨nd, rfl⟩⟩))
  go_ret
  exact rt_
 subst c7
 replace H := it_ H
 obtain ⟨t480, A8, H⟩ := bs_ H
 obtain rfl := Option.some.inj H
 go_enter Try.func20, Try.ntmps20
 go_wp2_with (first | ((with_reducible refine gate_dst (N := 2) rfl ?_); refine bx_ (w := w) (N := 2) (cs := #[.int .i64 a0_0, .int .i64 a0_1, .int .i64 a0_2, .string a0_3, .slice A0_4 l0_4.length c0_4, .slice A0_5 l0_5.length c0_5, .slice A0_6 l0_6.length c0_6]) (t := 42) ?_; intro gb475 w9 BK475 n0_ GW475 GE475; clear HB; have HB := n0_; clear n0_) | ((with_reducible refine gate_dst (N := 3) rfl ?_); refine be_ (N := 3) (cs := #[.int .i64 a1_0, .int .i64 a1_1, .int .i64 a1_2, .string a1_3, .slice A1_4 l1_4.length c1_4, .slice A1_5 l1_5.length c1_5, .slice A1_6 l1_6.length c1_6]) (t := 46) ?_; intro gb476 hg w10 hbox hb; have BK476 := am_ (hbox); have GW476 := gw_ (w := w) hg; have GE476 := gw_ (w := w) hg; replace HB := bt_ hb; have NB475_476 := ne_ hg BK475; have NB476_475 := nf_ hg BK475; replace BK475 := bw_ BK475 hb; clear hb hbox hg; have hnb11 := NB475_476.out; have hnc11 := NB476_475.out; obtain ⟨hcz12_0, hcz12_1, hcz12_2, hcz12_3, hcz12_4, hcz12_5, hcz12_6⟩ := cz7_ BK475.out; obtain ⟨hfz12_0, hfz12_1, hfz12_2, hfz12_3, hfz12_4, hfz12_5, hfz12_6⟩ := fz7_ BK475.out) | ((with_reducible refine gate_dst (N := 5) rfl ?_); refine be_ (N := 5) (cs := #[.int .i64 0, .int .i64 0, .int .i64 0, .string (⟨#[]⟩ : ByteArray)]) (t := 44) ?_; intro gb477 hg w13 hbox hb; have BK477 := am_ (hbox); have GW477 := gw_ (w := w) hg; have GE477 := gw_ (w := w) hg; replace HB := bt_ hb; have NB475_477 := ne_ hg BK475; have NB477_475 := nf_ hg BK475; replace BK475 := bw_ BK475 hb; have NB476_477 := ne_ hg BK476; have NB477_476 := nf_ hg BK476; replace BK476 := bw_ BK476 hb; clear hb hbox hg; have hnb14 := NB477_475.out; have hnc14 := NB475_477.out; have hnb15 := NB477_476.out; have hnc15 := NB476_477.out; obtain ⟨hcz16_0, hcz16_1, hcz16_2, hcz16_3⟩ := cz4_ BK477.out; obtain ⟨hfz16_0, hfz16_1, hfz16_2, hfz16_3⟩ := fz4_ BK477.out; obtain ⟨hcz17_0, hcz17_1, hcz17_2, hcz17_3, hcz17_4, hcz17_5, hcz17_6⟩ := cz7_ BK476.out; obtain ⟨hfz17_0, hfz17_1, hfz17_2, hfz17_3, hfz17_4, hfz17_5, hfz17_6⟩ := fz7_ BK476.out; obtain ⟨hcz18_0, hcz18_1, hcz18_2, hcz18_3, hcz18_4, hcz18_5, hcz18_6⟩ := cz7_ BK475.out; obtain ⟨hfz18_0, hfz18_1, hfz18_2, hfz18_3, hfz18_4, hfz18_5, hfz18_6⟩ := fz7_ BK475.out) | (go_at_call 27; (with_reducible refine (computusref08_Numbers.calls k _ _ l0_4 _ _ l1_4 true _ ?side1 ?side2 ?side3 ?side4 A4.out).mono ?_); (case side1 => exact Kd.C_below HR0_4.out bh_); (case side2 => exact HC0_4.out); (case side3 => exact Kd.C_below HR1_4.out bh_); (case side4 => exact HC1_4.out); rintro e w' ⟨rfl, ⟨nd, rfl⟩⟩) | (go_at_call 27; (with_reducible refine (computusref08_Numbers.calls k _ _ l0_5 _ _ l1_5 true _ ?side1 ?side2 ?side3 ?side4 A6.out).mono ?_); (case side1 => exact Kd.C_below HR0_5.out bh_); (case side2 => exact HC0_5.out); (case side3 => exact Kd.C_below HR1_5.out bh_); (case side4 => exact HC1_5.out); rintro e w' ⟨rfl, ⟨nd, rfl⟩⟩) | (go_at_call 27; (with_reducible refine (computusref08_Numbers.calls k _ _ l0_6 _ _ l1_6 t480 _ ?side1 ?side2 ?side3 ?side4 A8.out).mono ?_); (case side1 => exact Kd.C_below HR0_6.out bh_); (case side2 => exact HC0_6.out); (case side3 => exact Kd.C_below HR1_6.out bh_); (case side4 => exact HC1_6.out); rintro e w' ⟨rfl, ⟨nd, rfl⟩⟩))
 go_ret
 exact rt_
end
end Go.Proofs.Ytopfjjdkffdjpaa.Q
end
section
namespace Go.Proofs.Ytopfjjdkffdjpaa.Q
open Go.RowKit Go.Proofs.YtopfjjdkffdjpaaW.PrintWords Go.Proofs.YtopfjjdkffdjpaaW.PrintLast Go.Proofs.YtopfjjdkffdjpaaW.PrintMore
theorem put_size (a : Act) (i : Nat) (v : Value) : (a.put (some i) v).tmps.size = a.tmps.size := by simp [Act.put]
theorem put_get (a : Act) {i : Nat} (v : Value) (h : i < a.tmps.size) : (a.put (some i) v).eval (.tmp i) = v := by simp [Act.put, Act.eval, h]
theorem put_ne (a : Act) {i j : Nat} (v : Value) (h : i ≠ j) : (a.put (some i) v).eval (.tmp j) = a.eval (.tmp j) := by
 simp only [Act.put, Act.eval]
 simp [Array.getElem?_setIfInBounds_ne h]
theorem put_comm (a : Act) {i j : Nat} (v u : Value) (h : i ≠ j) : (a.put (some i) v).put (some j) u = (a.put (some j) u).put (some i) v := by
 simp only [Act.put]
 rw [Array.setIfInBounds_comm _ _ h]
def NoKey (j : Nat) : List (Tmp × Value) → Prop
 | [] => True
 | (i, _) :: r => @Ne Nat i j ∧ NoKey j r
theorem putAll_ne {j : Nat} : ∀ (L : List (Tmp × Value)) (a : Act), NoKey j L → (putAll a L).eval (.tmp j) = a.eval (.tmp j)
 | [], a, _ => rfl
 | (i, v) :: r, a, h => by rw [putAll, putAll_ne r _ h.2, put_ne _ _ h.1]
theorem putAll_get {j : Nat} {v : Value} {L2 : List (Tmp × Value)} : ∀ (L1 : List (Tmp × Value)) (a : Act), j < a.tmps.size → NoKey j L2 → (putAll a (L1 ++ (j, v) :: L2)).eval (.tmp j) = v
 | [], a, h, h2 => by rw [List.nil_append, putAll, putAll_ne _ _ h2, put_get _ _ h]
 | (i, u) :: r, a, h, h2 => by rw [List.cons_append, putAll, putAll_get r _ (by rw [put_size]; exact h) h2]
theorem putAll_ins {j : Nat} {v : Value} : ∀ (L2 : List (Tmp × Value)) (a : Act), NoKey j L2 → (putAll a L2).put (some j) v = putAll (a.put (some j) v) L2
 | [], a, _ => rfl
 | (i, u) :: r, a, h => by rw [putAll, putAll, putAll_ins r _ h.2, put_comm _ _ _ h.1]
theorem putAll_at {j : Nat} {v : Value} {d : Option Tmp} (L1 L2 : List (Tmp × Value)) (a : Act) (hd : d = some j) (h : NoKey j L2) : (putAll a (L1 ++ L2)).put d v = putAll a (L1 ++ (j, v) :: L2) := by
 subst hd
 induction L1 generalizing a with
 | nil => exact putAll_ins L2 a h
 | cons p r ih => exact ih _
def zeroS : Obj := .cells #[.int .i64 0, .int .i64 0, .int .i64 0, .string (⟨#[]⟩ : ByteArray), .slice none 0 0, .slice none 0 0, .slice none 0 0] 46 (0, 0)
structure D3 (W0 W : World) (G : Option Nat) (v1 : Value) (l1 : List Int) (v2 : Value) (l2 : List Int) (v3 : Value) (l3 : List Int) : Prop where
 B : Below W0.heap.size W0 W
 r1 : Kd.R (Kd.int .i64) 3 W W0.heap.size (fun k => some k ≠ v2.ownBlock ∧ some k ≠ v3.ownBlock ∧ some k ≠ G) v1 l1
 r2 : Kd.R (Kd.int .i64) 3 W W0.heap.size (fun k => some k ≠ v1.ownBlock ∧ some k ≠ v3.ownBlock ∧ some k ≠ G) v2 l2
 r3 : Kd.R (Kd.int .i64) 3 W W0.heap.size (fun k => some k ≠ v1.ownBlock ∧ some k ≠ v2.ownBlock ∧ some k ≠ G) v3 l3
 g : ∀ g, G = some g → W.heap[g]? = some zeroS ∧ W0.heap.size ≤ g
section
variable {W0 W W1 : World} {G : Option Nat} {v1 v2 v3 u : Value} {l1 l2 l3 m : List Int}
theorem D3.swap2 (h : D3 W0 W G v1 l1 v2 l2 v3 l3) : D3 W0 W G v2 l2 v1 l1 v3 l3 := ⟨h.B, h.r2, h.r1, Kd.R_mono h.r3 (fun k hk => ⟨hk.2.1, hk.1, hk.2.2⟩), h.g⟩
theorem D3.swap3 (h : D3 W0 W G v1 l1 v2 l2 v3 l3) : D3 W0 W G v3 l3 v2 l2 v1 l1 := ⟨h.B, Kd.R_mono h.r3 (fun k hk => ⟨hk.2.1, hk.1, hk.2.2⟩), Kd.R_mono h.r2 (fun k hk => ⟨hk.2.1, hk.1, hk.2.2⟩), Kd.R_mono h.r1 (fun k hk => ⟨hk.2.1, hk.1, hk.2.2⟩), h.g⟩
theorem D3.fresh (h : D3 W0 W G v1 l1 v2 l2 v3 l3) (k : Nat) (hk : W.heap.size ≤ k) : some k ≠ v2.ownBlock ∧ some k ≠ v3.ownBlock ∧ some k ≠ G := by
 refine ⟨fun e => ?_, fun e => ?_, fun e => ?_⟩
 ·have := ((Kd.R_bound h.r2).1 k e.symm).2.2.1; omega
 ·have := ((Kd.R_bound h.r3).1 k e.symm).2.2.1; omega
 ·have := blk_lt (h.g k e.symm).1; omega
theorem D3.change (h : D3 W0 W G v1 l1 v2 l2 v3 l3) (hr : Kd.R (Kd.int .i64) 3 W1 W0.heap.size (fun k => some k ≠ v2.ownBlock ∧ some k ≠ v3.ownBlock ∧ some k ≠ G) u m) (hb : Below W0.heap.size W0 W1) (hg : W.grownBy W1 v1.ownBlock) (hat : u.ownBlock = v1.ownBlock ∨ ∃ b, u.ownBlock = some b ∧ W.heap.size ≤ b) : D3 W0 W1 G u m v2 l2 v3 l3 := by
 refine ⟨hb, hr, ?_, ?_, fun g e => ⟨?_, (h.g g e).2⟩⟩
 ·exact Kd.R_mono (Kd.R_after (ok := fun k => some k ≠ v3.ownBlock ∧ some k ≠ G) (Kd.R_mono h.r2 (fun k hk => ⟨⟨hk.2.1, hk.2.2⟩, hk.1⟩)) hg hat) (fun k hk => ⟨hk.2, hk.1.1, hk.1.2⟩)
 ·exact Kd.R_mono (Kd.R_after (ok := fun k => some k ≠ v2.ownBlock ∧ some k ≠ G) (Kd.R_mono h.r3 (fun k hk => ⟨⟨hk.2.1, hk.2.2⟩, hk.1⟩)) hg hat) (fun k hk => ⟨hk.2, hk.1.1, hk.1.2⟩)
 ·exact (hg.block g (blk_lt (h.g g e).1) (fun e2 => (h.r1.1 g e2.symm).2.2 e.symm)).trans (h.g g e).1
theorem D3.alloc (h : D3 W0 W none v1 l1 v2 l2 v3 l3) : D3 W0 (W.alloc zeroS) (some W.heap.size) v1 l1 v2 l2 v3 l3 := by
 have go : ∀ {ok : Nat → Prop} {v : Value} {l : List Int}, Kd.R (Kd.int .i64) 3 W W0.heap.size ok v l → Kd.R (Kd.int .i64) 3 (W.alloc zeroS) W0.heap.size (fun k => ok k ∧ some k ≠ some W.heap.size) v l := fun hr =>
  Kd.R_mono (Kd.R_grown (Kd.R_bound hr) (World.grownBy_alloc W zeroS none) (fun k _ => by simp)) (fun k hk => ⟨hk.1, fun e => by injection e with e; have := hk.2.2.1; omega⟩)
 refine ⟨h.B.alloc h.B.size _, Kd.R_mono (go h.r1) (fun k hk => ⟨hk.1.1, hk.1.2.1, hk.2⟩), Kd.R_mono (go h.r2) (fun k hk => ⟨hk.1.1, hk.1.2.1, hk.2⟩), Kd.R_mono (go h.r3) (fun k hk => ⟨hk.1.1, hk.1.2.1, hk.2⟩), fun g e => ?_⟩
 injection e with e
 subst e
 exact ⟨blk_new W _, h.B.size⟩
theorem D3.start (W0 : World) : D3 W0 W0 none (.slice none 0 0) [] (.slice none 0 0) [] (.slice none 0 0) [] := ⟨Below.refl _ _, Kd.R_nil _ _ _ _ _, Kd.R_nil _ _ _ _ _, Kd.R_nil _ _ _ _ _, fun g e => by cases e⟩
end
theorem R_slice {e base : Nat} {W : World} {ok : Nat → Prop} {v : Value} {l : List Int} (h : Kd.R (Kd.int .i64) e W base ok v l) : ∃ A n c, v = .slice A n c := by
 obtain ⟨_, inner, ho, _⟩ := h
 rcases ho.2 with ⟨rfl, _⟩ | ⟨g, cap, cur, rfl, _⟩
 ·exact ⟨_, _, _, rfl⟩
 ·exact ⟨_, _, _, rfl⟩
def lit3T : Bool × List (List Nat × List Nat) := (true, [([], []), ([], []), ([1], [1]), ([0, 2], [0, 2]), ([], []), ([], []), ([5], [5]), ([4, 6, 3], [4, 6]), ([], []), ([], []), ([9], [9]), ([8, 10, 7], [8, 10]), ([3, 7, 11], [3, 7, 11]), ([], []), ([13, 12, 11, 0, 1, 2, 3, 4, 5, 6, 7, 8, 9, 10, 11, 12, 13], [12, 13])])
def lit3V (x y z : Value) : Value := .agg #[.int .i64 0, .int .i64 0, .int .i64 0, .string (⟨#[]⟩ : ByteArray), x, y, z]
structure Lit3 (ops : Array Oper) (S : World → Prop) (a : Act) (W0 : World) (b N : Nat) (o0 o3 o4 o7 o8 o11 o12 o13 : Oper) (A1 A2 A3 : Option Addr) (n1 c1 n2 c2 n3 c3 : Nat) (L1 L2 L3 : List Int) : Prop where
 T : rtab .any ops = lit3T
 a0 : ops[0]? = some o0
 a3 : ops[3]? = some o3
 a4 : ops[4]? = some o4
 a7 : ops[7]? = some o7
 a8 : ops[8]? = some o8
 a11 : ops[11]? = some o11
 a12 : ops[12]? = some o12
 a13 : ops[13]? = some o13
 d0 : o0.dst = some b
 g0 : o0.guard = none
 d3 : o3.dst = some (b + 3)
 g3 : o3.guard = none
 d4 : o4.dst = some (b + 4)
 g4 : o4.guard = none
 d7 : o7.dst = some (b + 7)
 g7 : o7.guard = none
 d8 : o8.dst = some (b + 8)
 g8 : o8.guard = none
 d11 : o11.dst = some (b + 11)
 g11 : o11.guard = none
 d12 : o12.dst = some (b + 12)
 g12 : o12.guard = none
 d13 : o13.dst = some N
 g13 : o13.guard = none
 r0 : ∀ (ev : Operand → Value) (W : World), (execOp ev o0).run Try.prog W = .ok (.value (.slice (some ⟨W.heap.size, 0, none⟩) 0 0)) (W.alloc (.cells #[] 3))
 r4 : ∀ (ev : Operand → Value) (W : World), (execOp ev o4).run Try.prog W = .ok (.value (.slice (some ⟨W.heap.size, 0, none⟩) 0 0)) (W.alloc (.cells #[] 3))
 r8 : ∀ (ev : Operand → Value) (W : World), (execOp ev o8).run Try.prog W = .ok (.value (.slice (some ⟨W.heap.size, 0, none⟩) 0 0)) (W.alloc (.cells #[] 3))
 p3 : o3.op = .call { callee := .builtin .append, args := #[.tmp b, .tmp (b + 2)], argTypes := #[40, 40] }
 p7 : o7.op = .call { callee := .builtin .append, args := #[.tmp (b + 4), .tmp (b + 6)], argTypes := #[40, 40] }
 p11 : o11.op = .call { callee := .builtin .append, args := #[.tmp (b + 8), .tmp (b + 10)], argTypes := #[40, 40] }
 r12 : ∀ (ev : Operand → Value) (W : World) (B1 : Option Addr) (i1 j1 : Nat) (B2 : Option Addr) (i2 j2 : Nat) (B3 : Option Addr) (i3 j3 : Nat), ev (.tmp (b + 3)) = .slice B1 i1 j1 → ev (.tmp (b + 7)) = .slice B2 i2 j2 → ev (.tmp (b + 11)) = .slice B3 i3 j3 → (execOp ev o12).run Try.prog W = .ok (.value (lit3V (.slice B1 i1 j1) (.slice B2 i2 j2) (.slice B3 i3 j3))) W
 r13 : ∀ (ev : Operand → Value) (W : World), (execOp ev o13).run Try.prog W = .ok (.value (.pointer (some ⟨W.heap.size, 0, none⟩))) (W.alloc zeroS)
 sz : b + 12 < a.tmps.size
 lt : N < b
 e1 : a.eval (.tmp (b + 2)) = .slice A1 n1 c1
 e2 : a.eval (.tmp (b + 6)) = .slice A2 n2 c2
 e3 : a.eval (.tmp (b + 10)) = .slice A3 n3 c3
 C1 : Kd.C (Kd.int .i64) W0 A1 n1 L1
 C2 : Kd.C (Kd.int .i64) W0 A2 n2 L2
 C3 : Kd.C (Kd.int .i64) W0 A3 n3 L3
 m1 : n1 ≤ 17592186044416
 m2 : n2 ≤ 17592186044416
 m3 : n3 ≤ 17592186044416
 hS : ∀ W, Below W0.heap.size W0 W → S W
theorem lit_wanted {o : Oper} (h : o.guard = none) (y : Nat → Option Bool) : Region.wanted o y = true := by unfold Region.wanted; rw [h]
theorem pa_ {j b N : Nat} {v : Value} {d : Option Tmp} (L1 L2 : List (Tmp × Value)) (a : Act) (hd : d = some j) (hl : N < b) (h : NoKey j L2 := by first | exact trivial | (simp only [NoKey, and_true]; omega)) : (putAll a (L1 ++ L2)).put d v = putAll a (L1 ++ (j, v) :: L2) := putAll_at L1 L2 a hd h
theorem pg_ {j b N : Nat} {v : Value} {L2 : List (Tmp × Value)} (L1 : List (Tmp × Value)) (a : Act) (hz : b + 12 < a.tmps.size) (hl : N < b) (hj : j < a.tmps.size := by omega) (h : NoKey j L2 := by first | exact trivial | (simp only [NoKey, and_true]; omega)) : (putAll a (L1 ++ (j, v) :: L2)).eval (.tmp j) = v := putAll_get L1 a hj h
theorem pn_ {j b N : Nat} {x : Value} (L : List (Tmp × Value)) (a : Act) (hl : N < b) (he : a.eval (.tmp j) = x) (h : NoKey j L := by first | exact trivial | (simp only [NoKey, and_true]; omega)) : (putAll a L).eval (.tmp j) = x := (putAll_ne L a h).trans he
section
variable {ops : Array Oper} {Q : Exit → Act → World → Prop} {Kc : Act → World → Prop} {a : Act} {W0 W : World} {G : Option Nat} {v1 v2 v3 : Value} {l1 l2 l3 : List Int} {o : Oper} {b : Tmp}
theorem lit_build (hg : o.guard = none) (hd : o.dst = some b) (hr : ∀ (ev : Operand → Value) (W : World), (execOp ev o).run Try.prog W = .ok (.value (.slice (some ⟨W.heap.size, 0, none⟩) 0 0)) (W.alloc (.cells #[] 3))) (H : D3 W0 W G (.slice none 0 0) l1 v2 l2 v3 l3)
  (h : ∀ u W1, D3 W0 W1 G u [] v2 l2 v3 l3 → Kc (a.put o.dst u) W1) : if Region.wanted o (yielded ops a.tmps) = true then Oper.wp Try.prog o a W Kc Q else Kc (a.put o.dst undef) W := by
 refine Kd.R_lit_step (Kd.int .i64) (w0 := W0) W0.heap.size 3 (lit_wanted hg _) (N := b) hd (xs := ([] : List Int)) (inner := []) (ok := fun k => some k ≠ v2.ownBlock ∧ some k ≠ v3.ownBlock ∧ some k ≠ G) (okp := fun _ => False) (hr _ _) (Reps.none _ _) (fun _ h => h.elim) (H.fresh _ (Nat.le_refl _)) H.B H.B.size (by simp) ?_
 intro u W1 h1 hb h2 hat
 exact h u W1 (H.change h1 hb h2 (.inr hat))
theorem lit_app {s x : Operand} {A : Option Addr} {n c : Nat} {Lx : List Int} (hg : o.guard = none) (ho : o.op = .call { callee := .builtin .append, args := #[s, x], argTypes := #[40, 40] }) (H : D3 W0 W G v1 [] v2 l2 v3 l3) (hC : Kd.C (Kd.int .i64) W0 A n Lx) (hm : n ≤ 17592186044416) (hs : a.eval s = v1) (hx : a.eval x = .slice A n c)
  (h : ∀ u W1, D3 W0 W1 G u Lx v2 l2 v3 l3 → Kc (a.put o.dst u) W1) : if Region.wanted o (yielded ops a.tmps) = true then Oper.wp Try.prog o a W Kc Q else Kc (a.put o.dst undef) W := by
 refine Kd.R_append_rows_step (Kd.int .i64) (w0 := W0) W0.heap.size (lit_wanted hg _) s x 40 3 (.int .i64 0) 8 ho Try.underlying40 info3 rfl (by decide) (by omega) v1 ([] : List Int) Lx A n c (fun k => some k ≠ v2.ownBlock ∧ some k ≠ v3.ownBlock ∧ some k ≠ G) (fun _ => False) hs hx H.r1 (Kd.C_below hC H.B) (fun _ _ h => h) (fun _ h => h.elim) H.fresh H.B H.B.size (by simp; omega) ?_
 intro u W1 h1 hb h2 hat
 rw [List.nil_append] at h1
 exact h u W1 (H.change h1 hb h2 hat)
end
section
variable {ops : Array Oper} {S : World → Prop} {a : Act} {W0 : World} {b N : Nat} {o0 o3 o4 o7 o8 o11 o12 o13 : Oper} {A1 A2 A3 : Option Addr} {n1 c1 n2 c2 n3 c3 : Nat} {L1 L2 L3 : List Int} {Q : Exit → Act → World → Prop}
def Lit3J (ops : Array Oper) (S : World → Prop) (a : Act) (W0 : World) (b N : Nat) (L1 L2 L3 : List Int) (Q : Exit → Act → World → Prop) : Prop :=
 (∀ c (a : Act) (d : Tmp) v w, Q (.panic c) (a.put (some d) v) w → Q (.panic c) a w) ∧ ∀ (x1 y1 x2 y2 x3 y3 : Value) (g : Nat) (W : World), D3 W0 W (some g) y1 L1 y2 L2 y3 L3 → wpAnyLast Try.prog .any ops Q S [] 1 #[true, true, true, true, true, true, true, true, true, true, true, true, true, true, false] (putAll a [(b, x1), (b + 3, y1), (b + 4, x2), (b + 7, y2), (b + 8, x3), (b + 11, y3), (N, .pointer (some ⟨g, 0, none⟩)), (b + 12, lit3V y1 y2 y3)]) W
variable (L : Lit3 ops S a W0 b N o0 o3 o4 o7 o8 o11 o12 o13 A1 A2 A3 n1 c1 n2 c2 n3 c3 L1 L2 L3) (HJ : Lit3J ops S a W0 b N L1 L2 L3 Q)
include L HJ
theorem lit3_11131 (x1 y1 x2 y2 x3 y3 : Value) (g : Nat) (W : World) (H : D3 W0 W (some g) y1 L1 y2 L2 y3 L3) : wpAnyLast Try.prog .any ops Q S [] 2 (bf_ 15 12287) (putAll a [(b, x1), ((b + 3), y1), ((b + 4), x2), ((b + 7), y2), ((b + 8), x3), ((b + 11), y3), (N, .pointer (some ⟨g, 0, none⟩))]) W := by
 have hl := L.lt
 have hz := L.sz
 obtain ⟨B1, i1, j1, rfl⟩ := R_slice H.r1
 obtain ⟨B2, i2, j2, rfl⟩ := R_slice H.r2
 obtain ⟨B3, i3, j3, rfl⟩ := R_slice H.r3
 refine pure_ (i := 12) (N := some (b + 12)) (v := lit3V (.slice B1 i1 j1) (.slice B2 i2 j2) (.slice B3 i3 j3)) (bf_ 15 16383) L.a12 L.d12 (any_of L.T (by kernel_rfl)) (fun c a w h => HJ.1 c a (b + 12) _ w (by rw [L.d12] at h; exact h)) (Or.inl ⟨lit_wanted L.g12 _, fun w => ?_⟩) (pa_ [(b, x1), ((b + 3), (.slice B1 i1 j1)), ((b + 4), x2), ((b + 7), (.slice B2 i2 j2)), ((b + 8), x3), ((b + 11), (.slice B3 i3 j3)), (N, .pointer (some ⟨g, 0, none⟩))] [] a rfl L.lt) ?_
 ·exact L.r12 _ w _ _ _ _ _ _ _ _ _ (pg_ (b := b) (N := N) [(b, x1)] a L.sz L.lt) (pg_ (b := b) (N := N) [(b, x1), ((b + 3), (.slice B1 i1 j1)), ((b + 4), x2)] a L.sz L.lt) (pg_ (b := b) (N := N) [(b, x1), ((b + 3), (.slice B1 i1 j1)), ((b + 4), x2), ((b + 7), (.slice B2 i2 j2)), ((b + 8), x3)] a L.sz L.lt)
 ·exact HJ.2 _ _ _ _ _ _ _ _ H
theorem lit3_11121 (x1 y1 x2 y2 x3 : Value) (g : Nat) (W : World) (H : D3 W0 W (some g) y1 L1 y2 L2 x3 []) : wpAnyLast Try.prog .any ops Q S [] 3 (bf_ 15 10239) (putAll a [(b, x1), ((b + 3), y1), ((b + 4), x2), ((b + 7), y2), ((b + 8), x3), (N, .pointer (some ⟨g, 0, none⟩))]) W := by
 have hl := L.lt
 have hz := L.sz
 refine one_ (i := 11) (N := o11.dst) (bf_ 15 12287) L.a11 rfl (one_of L.T (by kernel_rfl)) (by decide) (fun K hK => ?_)
 ·exact lit_app L.g11 L.p11 H.swap3 L.C3 L.m3 (pg_ (b := b) (N := N) [(b, x1), ((b + 3), y1), ((b + 4), x2), ((b + 7), y2)] a L.sz L.lt) (pn_ [(b, x1), ((b + 3), y1), ((b + 4), x2), ((b + 7), y2), ((b + 8), x3), (N, .pointer (some ⟨g, 0, none⟩))] a L.lt L.e3) (fun u W1 h => hK.out _ _ (L.hS _ h.B) (fun _ => norm_ (pa_ [(b, x1), ((b + 3), y1), ((b + 4), x2), ((b + 7), y2), ((b + 8), x3)] [(N, .pointer (some ⟨g, 0, none⟩))] a L.d11 L.lt) (lit3_11131 L HJ _ _ _ _ _ _ _ _ (h.swap3))))
theorem lit3_11130 (x1 y1 x2 y2 x3 y3 : Value) (W : World) (H : D3 W0 W none y1 L1 y2 L2 y3 L3) : wpAnyLast Try.prog .any ops Q S [] 3 (bf_ 15 4095) (putAll a [(b, x1), ((b + 3), y1), ((b + 4), x2), ((b + 7), y2), ((b + 8), x3), ((b + 11), y3)]) W := by
 have hl := L.lt
 have hz := L.sz
 obtain ⟨B1, i1, j1, rfl⟩ := R_slice H.r1
 obtain ⟨B2, i2, j2, rfl⟩ := R_slice H.r2
 obtain ⟨B3, i3, j3, rfl⟩ := R_slice H.r3
 refine pure_ (i := 12) (N := some (b + 12)) (v := lit3V (.slice B1 i1 j1) (.slice B2 i2 j2) (.slice B3 i3 j3)) (bf_ 15 8191) L.a12 L.d12 (any_of L.T (by kernel_rfl)) (fun c a w h => HJ.1 c a (b + 12) _ w (by rw [L.d12] at h; exact h)) (Or.inl ⟨lit_wanted L.g12 _, fun w => ?_⟩) (pa_ [(b, x1), ((b + 3), (.slice B1 i1 j1)), ((b + 4), x2), ((b + 7), (.slice B2 i2 j2)), ((b + 8), x3), ((b + 11), (.slice B3 i3 j3))] [] a rfl L.lt) ?_
 ·exact L.r12 _ w _ _ _ _ _ _ _ _ _ (pg_ (b := b) (N := N) [(b, x1)] a L.sz L.lt) (pg_ (b := b) (N := N) [(b, x1), ((b + 3), (.slice B1 i1 j1)), ((b + 4), x2)] a L.sz L.lt) (pg_ (b := b) (N := N) [(b, x1), ((b + 3), (.slice B1 i1 j1)), ((b + 4), x2), ((b + 7), (.slice B2 i2 j2)), ((b + 8), x3)] a L.sz L.lt)
 ·refine one_ (i := 13) (N := o13.dst) (bf_ 15 16383) L.a13 rfl (one_of L.T (by kernel_rfl)) (by decide) (fun K hK => ?_)
  exact event_step (lit_wanted L.g13 _) (L.r13 _ _) (hK.out _ _ (L.hS _ H.alloc.B) (fun _ => norm_ (pa_ [(b, x1), ((b + 3), (.slice B1 i1 j1)), ((b + 4), x2), ((b + 7), (.slice B2 i2 j2)), ((b + 8), x3), ((b + 11), (.slice B3 i3 j3))] [((b + 12), lit3V (.slice B1 i1 j1) (.slice B2 i2 j2) (.slice B3 i3 j3))] a L.d13 L.lt) (HJ.2 _ _ _ _ _ _ _ _ (H.alloc))))
theorem lit3_11021 (x1 y1 x2 y2 : Value) (g : Nat) (W : World) (H : D3 W0 W (some g) y1 L1 y2 L2 (.slice none 0 0) []) : wpAnyLast Try.prog .any ops Q S [] 4 (bf_ 15 9983) (putAll a [(b, x1), ((b + 3), y1), ((b + 4), x2), ((b + 7), y2), (N, .pointer (some ⟨g, 0, none⟩))]) W := by
 have hl := L.lt
 have hz := L.sz
 refine one_ (i := 8) (N := o8.dst) (bf_ 15 10239) L.a8 rfl (one_of L.T (by kernel_rfl)) (by decide) (fun K hK => ?_)
 ·exact lit_build L.g8 L.d8 L.r8 H.swap3 (fun u W1 h => hK.out _ _ (L.hS _ h.B) (fun _ => norm_ (pa_ [(b, x1), ((b + 3), y1), ((b + 4), x2), ((b + 7), y2)] [(N, .pointer (some ⟨g, 0, none⟩))] a L.d8 L.lt) (lit3_11121 L HJ _ _ _ _ _ _ _ (h.swap3))))
theorem lit3_11111 (x1 y1 x2 x3 : Value) (g : Nat) (W : World) (H : D3 W0 W (some g) y1 L1 x2 [] x3 []) : wpAnyLast Try.prog .any ops Q S [] 4 (bf_ 15 10111) (putAll a [(b, x1), ((b + 3), y1), ((b + 4), x2), ((b + 8), x3), (N, .pointer (some ⟨g, 0, none⟩))]) W := by
 have hl := L.lt
 have hz := L.sz
 refine one_ (i := 7) (N := o7.dst) (bf_ 15 10239) L.a7 rfl (one_of L.T (by kernel_rfl)) (by decide) (fun K hK => ?_)
 ·exact lit_app L.g7 L.p7 H.swap2 L.C2 L.m2 (pg_ (b := b) (N := N) [(b, x1), ((b + 3), y1)] a L.sz L.lt) (pn_ [(b, x1), ((b + 3), y1), ((b + 4), x2), ((b + 8), x3), (N, .pointer (some ⟨g, 0, none⟩))] a L.lt L.e2) (fun u W1 h => hK.out _ _ (L.hS _ h.B) (fun _ => norm_ (pa_ [(b, x1), ((b + 3), y1), ((b + 4), x2)] [((b + 8), x3), (N, .pointer (some ⟨g, 0, none⟩))] a L.d7 L.lt) (lit3_11121 L HJ _ _ _ _ _ _ _ (h.swap2))))
theorem lit3_11120 (x1 y1 x2 y2 x3 : Value) (W : World) (H : D3 W0 W none y1 L1 y2 L2 x3 []) : wpAnyLast Try.prog .any ops Q S [] 4 (bf_ 15 2047) (putAll a [(b, x1), ((b + 3), y1), ((b + 4), x2), ((b + 7), y2), ((b + 8), x3)]) W := by
 have hl := L.lt
 have hz := L.sz
 refine two_ (i := 11) (j := 13) (Ni := o11.dst) (Nj := o13.dst) (bf_ 15 4095) (bf_ 15 10239) L.a11 L.a13 rfl rfl (two_of L.T (by kernel_rfl)) (by decide) (by decide) (fun K hK => ?_) (fun K hK => ?_)
 ·exact lit_app L.g11 L.p11 H.swap3 L.C3 L.m3 (pg_ (b := b) (N := N) [(b, x1), ((b + 3), y1), ((b + 4), x2), ((b + 7), y2)] a L.sz L.lt) (pn_ [(b, x1), ((b + 3), y1), ((b + 4), x2), ((b + 7), y2), ((b + 8), x3)] a L.lt L.e3) (fun u W1 h => hK.out _ _ (L.hS _ h.B) (fun _ => norm_ (pa_ [(b, x1), ((b + 3), y1), ((b + 4), x2), ((b + 7), y2), ((b + 8), x3)] [] a L.d11 L.lt) (lit3_11130 L HJ _ _ _ _ _ _ _ (h.swap3))))
 ·exact event_step (lit_wanted L.g13 _) (L.r13 _ _) (hK.out _ _ (L.hS _ H.alloc.B) (fun _ => norm_ (pa_ [(b, x1), ((b + 3), y1), ((b + 4), x2), ((b + 7), y2), ((b + 8), x3)] [] a L.d13 L.lt) (lit3_11121 L HJ _ _ _ _ _ _ _ (H.alloc))))
theorem lit3_10111 (x1 y1 x3 : Value) (g : Nat) (W : World) (H : D3 W0 W (some g) y1 L1 (.slice none 0 0) [] x3 []) : wpAnyLast Try.prog .any ops Q S [] 5 (bf_ 15 10095) (putAll a [(b, x1), ((b + 3), y1), ((b + 8), x3), (N, .pointer (some ⟨g, 0, none⟩))]) W := by
 have hl := L.lt
 have hz := L.sz
 refine one_ (i := 4) (N := o4.dst) (bf_ 15 10111) L.a4 rfl (one_of L.T (by kernel_rfl)) (by decide) (fun K hK => ?_)
 ·exact lit_build L.g4 L.d4 L.r4 H.swap2 (fun u W1 h => hK.out _ _ (L.hS _ h.B) (fun _ => norm_ (pa_ [(b, x1), ((b + 3), y1)] [((b + 8), x3), (N, .pointer (some ⟨g, 0, none⟩))] a L.d4 L.lt) (lit3_11111 L HJ _ _ _ _ _ _ (h.swap2))))
theorem lit3_11011 (x1 y1 x2 : Value) (g : Nat) (W : World) (H : D3 W0 W (some g) y1 L1 x2 [] (.slice none 0 0) []) : wpAnyLast Try.prog .any ops Q S [] 5 (bf_ 15 9855) (putAll a [(b, x1), ((b + 3), y1), ((b + 4), x2), (N, .pointer (some ⟨g, 0, none⟩))]) W := by
 have hl := L.lt
 have hz := L.sz
 refine two_ (i := 7) (j := 8) (Ni := o7.dst) (Nj := o8.dst) (bf_ 15 9983) (bf_ 15 10111) L.a7 L.a8 rfl rfl (two_of L.T (by kernel_rfl)) (by decide) (by decide) (fun K hK => ?_) (fun K hK => ?_)
 ·exact lit_app L.g7 L.p7 H.swap2 L.C2 L.m2 (pg_ (b := b) (N := N) [(b, x1), ((b + 3), y1)] a L.sz L.lt) (pn_ [(b, x1), ((b + 3), y1), ((b + 4), x2), (N, .pointer (some ⟨g, 0, none⟩))] a L.lt L.e2) (fun u W1 h => hK.out _ _ (L.hS _ h.B) (fun _ => norm_ (pa_ [(b, x1), ((b + 3), y1), ((b + 4), x2)] [(N, .pointer (some ⟨g, 0, none⟩))] a L.d7 L.lt) (lit3_11021 L HJ _ _ _ _ _ _ (h.swap2))))
 ·exact lit_build L.g8 L.d8 L.r8 H.swap3 (fun u W1 h => hK.out _ _ (L.hS _ h.B) (fun _ => norm_ (pa_ [(b, x1), ((b + 3), y1), ((b + 4), x2)] [(N, .pointer (some ⟨g, 0, none⟩))] a L.d8 L.lt) (lit3_11111 L HJ _ _ _ _ _ _ (h.swap3))))
theorem lit3_11020 (x1 y1 x2 y2 : Value) (W : World) (H : D3 W0 W none y1 L1 y2 L2 (.slice none 0 0) []) : wpAnyLast Try.prog .any ops Q S [] 5 (bf_ 15 1791) (putAll a [(b, x1), ((b + 3), y1), ((b + 4), x2), ((b + 7), y2)]) W := by
 have hl := L.lt
 have hz := L.sz
 refine two_ (i := 8) (j := 13) (Ni := o8.dst) (Nj := o13.dst) (bf_ 15 2047) (bf_ 15 9983) L.a8 L.a13 rfl rfl (two_of L.T (by kernel_rfl)) (by decide) (by decide) (fun K hK => ?_) (fun K hK => ?_)
 ·exact lit_build L.g8 L.d8 L.r8 H.swap3 (fun u W1 h => hK.out _ _ (L.hS _ h.B) (fun _ => norm_ (pa_ [(b, x1), ((b + 3), y1), ((b + 4), x2), ((b + 7), y2)] [] a L.d8 L.lt) (lit3_11120 L HJ _ _ _ _ _ _ (h.swap3))))
 ·exact event_step (lit_wanted L.g13 _) (L.r13 _ _) (hK.out _ _ (L.hS _ H.alloc.B) (fun _ => norm_ (pa_ [(b, x1), ((b + 3), y1), ((b + 4), x2), ((b + 7), y2)] [] a L.d13 L.lt) (lit3_11021 L HJ _ _ _ _ _ _ (H.alloc))))
theorem lit3_11101 (x1 x2 x3 : Value) (g : Nat) (W : World) (H : D3 W0 W (some g) x1 [] x2 [] x3 []) : wpAnyLast Try.prog .any ops Q S [] 5 (bf_ 15 10103) (putAll a [(b, x1), ((b + 4), x2), ((b + 8), x3), (N, .pointer (some ⟨g, 0, none⟩))]) W := by
 have hl := L.lt
 have hz := L.sz
 refine one_ (i := 3) (N := o3.dst) (bf_ 15 10111) L.a3 rfl (one_of L.T (by kernel_rfl)) (by decide) (fun K hK => ?_)
 ·exact lit_app L.g3 L.p3 H L.C1 L.m1 (pg_ (b := b) (N := N) [] a L.sz L.lt) (pn_ [(b, x1), ((b + 4), x2), ((b + 8), x3), (N, .pointer (some ⟨g, 0, none⟩))] a L.lt L.e1) (fun u W1 h => hK.out _ _ (L.hS _ h.B) (fun _ => norm_ (pa_ [(b, x1)] [((b + 4), x2), ((b + 8), x3), (N, .pointer (some ⟨g, 0, none⟩))] a L.d3 L.lt) (lit3_11111 L HJ _ _ _ _ _ _ (h))))
theorem lit3_11110 (x1 y1 x2 x3 : Value) (W : World) (H : D3 W0 W none y1 L1 x2 [] x3 []) : wpAnyLast Try.prog .any ops Q S [] 5 (bf_ 15 1919) (putAll a [(b, x1), ((b + 3), y1), ((b + 4), x2), ((b + 8), x3)]) W := by
 have hl := L.lt
 have hz := L.sz
 refine two_ (i := 7) (j := 13) (Ni := o7.dst) (Nj := o13.dst) (bf_ 15 2047) (bf_ 15 10111) L.a7 L.a13 rfl rfl (two_of L.T (by kernel_rfl)) (by decide) (by decide) (fun K hK => ?_) (fun K hK => ?_)
 ·exact lit_app L.g7 L.p7 H.swap2 L.C2 L.m2 (pg_ (b := b) (N := N) [(b, x1), ((b + 3), y1)] a L.sz L.lt) (pn_ [(b, x1), ((b + 3), y1), ((b + 4), x2), ((b + 8), x3)] a L.lt L.e2) (fun u W1 h => hK.out _ _ (L.hS _ h.B) (fun _ => norm_ (pa_ [(b, x1), ((b + 3), y1), ((b + 4), x2)] [((b + 8), x3)] a L.d7 L.lt) (lit3_11120 L HJ _ _ _ _ _ _ (h.swap2))))
 ·exact event_step (lit_wanted L.g13 _) (L.r13 _ _) (hK.out _ _ (L.hS _ H.alloc.B) (fun _ => norm_ (pa_ [(b, x1), ((b + 3), y1), ((b + 4), x2), ((b + 8), x3)] [] a L.d13 L.lt) (lit3_11111 L HJ _ _ _ _ _ _ (H.alloc))))
theorem lit3_01101 (x2 x3 : Value) (g : Nat) (W : World) (H : D3 W0 W (some g) (.slice none 0 0) [] x2 [] x3 []) : wpAnyLast Try.prog .any ops Q S [] 6 (bf_ 15 10102) (putAll a [((b + 4), x2), ((b + 8), x3), (N, .pointer (some ⟨g, 0, none⟩))]) W := by
 have hl := L.lt
 have hz := L.sz
 refine one_ (i := 0) (N := o0.dst) (bf_ 15 10103) L.a0 rfl (one_of L.T (by kernel_rfl)) (by decide) (fun K hK => ?_)
 ·exact lit_build L.g0 L.d0 L.r0 H (fun u W1 h => hK.out _ _ (L.hS _ h.B) (fun _ => norm_ (pa_ [] [((b + 4), x2), ((b + 8), x3), (N, .pointer (some ⟨g, 0, none⟩))] a L.d0 L.lt) (lit3_11101 L HJ _ _ _ _ _ (h))))
theorem lit3_10011 (x1 y1 : Value) (g : Nat) (W : World) (H : D3 W0 W (some g) y1 L1 (.slice none 0 0) [] (.slice none 0 0) []) : wpAnyLast Try.prog .any ops Q S [] 6 (bf_ 15 9839) (putAll a [(b, x1), ((b + 3), y1), (N, .pointer (some ⟨g, 0, none⟩))]) W := by
 have hl := L.lt
 have hz := L.sz
 refine two_ (i := 4) (j := 8) (Ni := o4.dst) (Nj := o8.dst) (bf_ 15 9855) (bf_ 15 10095) L.a4 L.a8 rfl rfl (two_of L.T (by kernel_rfl)) (by decide) (by decide) (fun K hK => ?_) (fun K hK => ?_)
 ·exact lit_build L.g4 L.d4 L.r4 H.swap2 (fun u W1 h => hK.out _ _ (L.hS _ h.B) (fun _ => norm_ (pa_ [(b, x1), ((b + 3), y1)] [(N, .pointer (some ⟨g, 0, none⟩))] a L.d4 L.lt) (lit3_11011 L HJ _ _ _ _ _ (h.swap2))))
 ·exact lit_build L.g8 L.d8 L.r8 H.swap3 (fun u W1 h => hK.out _ _ (L.hS _ h.B) (fun _ => norm_ (pa_ [(b, x1), ((b + 3), y1)] [(N, .pointer (some ⟨g, 0, none⟩))] a L.d8 L.lt) (lit3_10111 L HJ _ _ _ _ _ (h.swap3))))
theorem lit3_10101 (x1 x3 : Value) (g : Nat) (W : World) (H : D3 W0 W (some g) x1 [] (.slice none 0 0) [] x3 []) : wpAnyLast Try.prog .any ops Q S [] 6 (bf_ 15 10087) (putAll a [(b, x1), ((b + 8), x3), (N, .pointer (some ⟨g, 0, none⟩))]) W := by
 have hl := L.lt
 have hz := L.sz
 refine two_ (i := 3) (j := 4) (Ni := o3.dst) (Nj := o4.dst) (bf_ 15 10095) (bf_ 15 10103) L.a3 L.a4 rfl rfl (two_of L.T (by kernel_rfl)) (by decide) (by decide) (fun K hK => ?_) (fun K hK => ?_)
 ·exact lit_app L.g3 L.p3 H L.C1 L.m1 (pg_ (b := b) (N := N) [] a L.sz L.lt) (pn_ [(b, x1), ((b + 8), x3), (N, .pointer (some ⟨g, 0, none⟩))] a L.lt L.e1) (fun u W1 h => hK.out _ _ (L.hS _ h.B) (fun _ => norm_ (pa_ [(b, x1)] [((b + 8), x3), (N, .pointer (some ⟨g, 0, none⟩))] a L.d3 L.lt) (lit3_10111 L HJ _ _ _ _ _ (h))))
 ·exact lit_build L.g4 L.d4 L.r4 H.swap2 (fun u W1 h => hK.out _ _ (L.hS _ h.B) (fun _ => norm_ (pa_ [(b, x1)] [((b + 8), x3), (N, .pointer (some ⟨g, 0, none⟩))] a L.d4 L.lt) (lit3_11101 L HJ _ _ _ _ _ (h.swap2))))
theorem lit3_10110 (x1 y1 x3 : Value) (W : World) (H : D3 W0 W none y1 L1 (.slice none 0 0) [] x3 []) : wpAnyLast Try.prog .any ops Q S [] 6 (bf_ 15 1903) (putAll a [(b, x1), ((b + 3), y1), ((b + 8), x3)]) W := by
 have hl := L.lt
 have hz := L.sz
 refine two_ (i := 4) (j := 13) (Ni := o4.dst) (Nj := o13.dst) (bf_ 15 1919) (bf_ 15 10095) L.a4 L.a13 rfl rfl (two_of L.T (by kernel_rfl)) (by decide) (by decide) (fun K hK => ?_) (fun K hK => ?_)
 ·exact lit_build L.g4 L.d4 L.r4 H.swap2 (fun u W1 h => hK.out _ _ (L.hS _ h.B) (fun _ => norm_ (pa_ [(b, x1), ((b + 3), y1)] [((b + 8), x3)] a L.d4 L.lt) (lit3_11110 L HJ _ _ _ _ _ (h.swap2))))
 ·exact event_step (lit_wanted L.g13 _) (L.r13 _ _) (hK.out _ _ (L.hS _ H.alloc.B) (fun _ => norm_ (pa_ [(b, x1), ((b + 3), y1), ((b + 8), x3)] [] a L.d13 L.lt) (lit3_10111 L HJ _ _ _ _ _ (H.alloc))))
theorem lit3_11001 (x1 x2 : Value) (g : Nat) (W : World) (H : D3 W0 W (some g) x1 [] x2 [] (.slice none 0 0) []) : wpAnyLast Try.prog .any ops Q S [] 6 (bf_ 15 9847) (putAll a [(b, x1), ((b + 4), x2), (N, .pointer (some ⟨g, 0, none⟩))]) W := by
 have hl := L.lt
 have hz := L.sz
 refine two_ (i := 3) (j := 8) (Ni := o3.dst) (Nj := o8.dst) (bf_ 15 9855) (bf_ 15 10103) L.a3 L.a8 rfl rfl (two_of L.T (by kernel_rfl)) (by decide) (by decide) (fun K hK => ?_) (fun K hK => ?_)
 ·exact lit_app L.g3 L.p3 H L.C1 L.m1 (pg_ (b := b) (N := N) [] a L.sz L.lt) (pn_ [(b, x1), ((b + 4), x2), (N, .pointer (some ⟨g, 0, none⟩))] a L.lt L.e1) (fun u W1 h => hK.out _ _ (L.hS _ h.B) (fun _ => norm_ (pa_ [(b, x1)] [((b + 4), x2), (N, .pointer (some ⟨g, 0, none⟩))] a L.d3 L.lt) (lit3_11011 L HJ _ _ _ _ _ (h))))
 ·exact lit_build L.g8 L.d8 L.r8 H.swap3 (fun u W1 h => hK.out _ _ (L.hS _ h.B) (fun _ => norm_ (pa_ [(b, x1), ((b + 4), x2)] [(N, .pointer (some ⟨g, 0, none⟩))] a L.d8 L.lt) (lit3_11101 L HJ _ _ _ _ _ (h.swap3))))
theorem lit3_11010 (x1 y1 x2 : Value) (W : World) (H : D3 W0 W none y1 L1 x2 [] (.slice none 0 0) []) : wpAnyLast Try.prog .any ops Q S [] 6 (bf_ 15 1663) (putAll a [(b, x1), ((b + 3), y1), ((b + 4), x2)]) W := by
 have hl := L.lt
 have hz := L.sz
 refine three_ (i := 7) (j := 8) (k := 13) (Ni := o7.dst) (Nj := o8.dst) (Nk := o13.dst) (bf_ 15 1791) (bf_ 15 1919) (bf_ 15 9855) L.a7 L.a8 L.a13 rfl rfl rfl (three_of L.T (by kernel_rfl)) (by decide) (by decide) (by decide) (fun K hK => ?_) (fun K hK => ?_) (fun K hK => ?_)
 ·exact lit_app L.g7 L.p7 H.swap2 L.C2 L.m2 (pg_ (b := b) (N := N) [(b, x1), ((b + 3), y1)] a L.sz L.lt) (pn_ [(b, x1), ((b + 3), y1), ((b + 4), x2)] a L.lt L.e2) (fun u W1 h => hK.out _ _ (L.hS _ h.B) (fun _ => norm_ (pa_ [(b, x1), ((b + 3), y1), ((b + 4), x2)] [] a L.d7 L.lt) (lit3_11020 L HJ _ _ _ _ _ (h.swap2))))
 ·exact lit_build L.g8 L.d8 L.r8 H.swap3 (fun u W1 h => hK.out _ _ (L.hS _ h.B) (fun _ => norm_ (pa_ [(b, x1), ((b + 3), y1), ((b + 4), x2)] [] a L.d8 L.lt) (lit3_11110 L HJ _ _ _ _ _ (h.swap3))))
 ·exact event_step (lit_wanted L.g13 _) (L.r13 _ _) (hK.out _ _ (L.hS _ H.alloc.B) (fun _ => norm_ (pa_ [(b, x1), ((b + 3), y1), ((b + 4), x2)] [] a L.d13 L.lt) (lit3_11011 L HJ _ _ _ _ _ (H.alloc))))
theorem lit3_11100 (x1 x2 x3 : Value) (W : World) (H : D3 W0 W none x1 [] x2 [] x3 []) : wpAnyLast Try.prog .any ops Q S [] 6 (bf_ 15 1911) (putAll a [(b, x1), ((b + 4), x2), ((b + 8), x3)]) W := by
 have hl := L.lt
 have hz := L.sz
 refine two_ (i := 3) (j := 13) (Ni := o3.dst) (Nj := o13.dst) (bf_ 15 1919) (bf_ 15 10103) L.a3 L.a13 rfl rfl (two_of L.T (by kernel_rfl)) (by decide) (by decide) (fun K hK => ?_) (fun K hK => ?_)
 ·exact lit_app L.g3 L.p3 H L.C1 L.m1 (pg_ (b := b) (N := N) [] a L.sz L.lt) (pn_ [(b, x1), ((b + 4), x2), ((b + 8), x3)] a L.lt L.e1) (fun u W1 h => hK.out _ _ (L.hS _ h.B) (fun _ => norm_ (pa_ [(b, x1)] [((b + 4), x2), ((b + 8), x3)] a L.d3 L.lt) (lit3_11110 L HJ _ _ _ _ _ (h))))
 ·exact event_step (lit_wanted L.g13 _) (L.r13 _ _) (hK.out _ _ (L.hS _ H.alloc.B) (fun _ => norm_ (pa_ [(b, x1), ((b + 4), x2), ((b + 8), x3)] [] a L.d13 L.lt) (lit3_11101 L HJ _ _ _ _ _ (H.alloc))))
theorem lit3_00101 (x3 : Value) (g : Nat) (W : World) (H : D3 W0 W (some g) (.slice none 0 0) [] (.slice none 0 0) [] x3 []) : wpAnyLast Try.prog .any ops Q S [] 7 (bf_ 15 10086) (putAll a [((b + 8), x3), (N, .pointer (some ⟨g, 0, none⟩))]) W := by
 have hl := L.lt
 have hz := L.sz
 refine two_ (i := 0) (j := 4) (Ni := o0.dst) (Nj := o4.dst) (bf_ 15 10087) (bf_ 15 10102) L.a0 L.a4 rfl rfl (two_of L.T (by kernel_rfl)) (by decide) (by decide) (fun K hK => ?_) (fun K hK => ?_)
 ·exact lit_build L.g0 L.d0 L.r0 H (fun u W1 h => hK.out _ _ (L.hS _ h.B) (fun _ => norm_ (pa_ [] [((b + 8), x3), (N, .pointer (some ⟨g, 0, none⟩))] a L.d0 L.lt) (lit3_10101 L HJ _ _ _ _ (h))))
 ·exact lit_build L.g4 L.d4 L.r4 H.swap2 (fun u W1 h => hK.out _ _ (L.hS _ h.B) (fun _ => norm_ (pa_ [] [((b + 8), x3), (N, .pointer (some ⟨g, 0, none⟩))] a L.d4 L.lt) (lit3_01101 L HJ _ _ _ _ (h.swap2))))
theorem lit3_01001 (x2 : Value) (g : Nat) (W : World) (H : D3 W0 W (some g) (.slice none 0 0) [] x2 [] (.slice none 0 0) []) : wpAnyLast Try.prog .any ops Q S [] 7 (bf_ 15 9846) (putAll a [((b + 4), x2), (N, .pointer (some ⟨g, 0, none⟩))]) W := by
 have hl := L.lt
 have hz := L.sz
 refine two_ (i := 0) (j := 8) (Ni := o0.dst) (Nj := o8.dst) (bf_ 15 9847) (bf_ 15 10102) L.a0 L.a8 rfl rfl (two_of L.T (by kernel_rfl)) (by decide) (by decide) (fun K hK => ?_) (fun K hK => ?_)
 ·exact lit_build L.g0 L.d0 L.r0 H (fun u W1 h => hK.out _ _ (L.hS _ h.B) (fun _ => norm_ (pa_ [] [((b + 4), x2), (N, .pointer (some ⟨g, 0, none⟩))] a L.d0 L.lt) (lit3_11001 L HJ _ _ _ _ (h))))
 ·exact lit_build L.g8 L.d8 L.r8 H.swap3 (fun u W1 h => hK.out _ _ (L.hS _ h.B) (fun _ => norm_ (pa_ [((b + 4), x2)] [(N, .pointer (some ⟨g, 0, none⟩))] a L.d8 L.lt) (lit3_01101 L HJ _ _ _ _ (h.swap3))))
theorem lit3_01100 (x2 x3 : Value) (W : World) (H : D3 W0 W none (.slice none 0 0) [] x2 [] x3 []) : wpAnyLast Try.prog .any ops Q S [] 7 (bf_ 15 1910) (putAll a [((b + 4), x2), ((b + 8), x3)]) W := by
 have hl := L.lt
 have hz := L.sz
 refine two_ (i := 0) (j := 13) (Ni := o0.dst) (Nj := o13.dst) (bf_ 15 1911) (bf_ 15 10102) L.a0 L.a13 rfl rfl (two_of L.T (by kernel_rfl)) (by decide) (by decide) (fun K hK => ?_) (fun K hK => ?_)
 ·exact lit_build L.g0 L.d0 L.r0 H (fun u W1 h => hK.out _ _ (L.hS _ h.B) (fun _ => norm_ (pa_ [] [((b + 4), x2), ((b + 8), x3)] a L.d0 L.lt) (lit3_11100 L HJ _ _ _ _ (h))))
 ·exact event_step (lit_wanted L.g13 _) (L.r13 _ _) (hK.out _ _ (L.hS _ H.alloc.B) (fun _ => norm_ (pa_ [((b + 4), x2), ((b + 8), x3)] [] a L.d13 L.lt) (lit3_01101 L HJ _ _ _ _ (H.alloc))))
theorem lit3_10001 (x1 : Value) (g : Nat) (W : World) (H : D3 W0 W (some g) x1 [] (.slice none 0 0) [] (.slice none 0 0) []) : wpAnyLast Try.prog .any ops Q S [] 7 (bf_ 15 9831) (putAll a [(b, x1), (N, .pointer (some ⟨g, 0, none⟩))]) W := by
 have hl := L.lt
 have hz := L.sz
 refine three_ (i := 3) (j := 4) (k := 8) (Ni := o3.dst) (Nj := o4.dst) (Nk := o8.dst) (bf_ 15 9839) (bf_ 15 9847) (bf_ 15 10087) L.a3 L.a4 L.a8 rfl rfl rfl (three_of L.T (by kernel_rfl)) (by decide) (by decide) (by decide) (fun K hK => ?_) (fun K hK => ?_) (fun K hK => ?_)
 ·exact lit_app L.g3 L.p3 H L.C1 L.m1 (pg_ (b := b) (N := N) [] a L.sz L.lt) (pn_ [(b, x1), (N, .pointer (some ⟨g, 0, none⟩))] a L.lt L.e1) (fun u W1 h => hK.out _ _ (L.hS _ h.B) (fun _ => norm_ (pa_ [(b, x1)] [(N, .pointer (some ⟨g, 0, none⟩))] a L.d3 L.lt) (lit3_10011 L HJ _ _ _ _ (h))))
 ·exact lit_build L.g4 L.d4 L.r4 H.swap2 (fun u W1 h => hK.out _ _ (L.hS _ h.B) (fun _ => norm_ (pa_ [(b, x1)] [(N, .pointer (some ⟨g, 0, none⟩))] a L.d4 L.lt) (lit3_11001 L HJ _ _ _ _ (h.swap2))))
 ·exact lit_build L.g8 L.d8 L.r8 H.swap3 (fun u W1 h => hK.out _ _ (L.hS _ h.B) (fun _ => norm_ (pa_ [(b, x1)] [(N, .pointer (some ⟨g, 0, none⟩))] a L.d8 L.lt) (lit3_10101 L HJ _ _ _ _ (h.swap3))))
theorem lit3_10010 (x1 y1 : Value) (W : World) (H : D3 W0 W none y1 L1 (.slice none 0 0) [] (.slice none 0 0) []) : wpAnyLast Try.prog .any ops Q S [] 7 (bf_ 15 1647) (putAll a [(b, x1), ((b + 3), y1)]) W := by
 have hl := L.lt
 have hz := L.sz
 refine three_ (i := 4) (j := 8) (k := 13) (Ni := o4.dst) (Nj := o8.dst) (Nk := o13.dst) (bf_ 15 1663) (bf_ 15 1903) (bf_ 15 9839) L.a4 L.a8 L.a13 rfl rfl rfl (three_of L.T (by kernel_rfl)) (by decide) (by decide) (by decide) (fun K hK => ?_) (fun K hK => ?_) (fun K hK => ?_)
 ·exact lit_build L.g4 L.d4 L.r4 H.swap2 (fun u W1 h => hK.out _ _ (L.hS _ h.B) (fun _ => norm_ (pa_ [(b, x1), ((b + 3), y1)] [] a L.d4 L.lt) (lit3_11010 L HJ _ _ _ _ (h.swap2))))
 ·exact lit_build L.g8 L.d8 L.r8 H.swap3 (fun u W1 h => hK.out _ _ (L.hS _ h.B) (fun _ => norm_ (pa_ [(b, x1), ((b + 3), y1)] [] a L.d8 L.lt) (lit3_10110 L HJ _ _ _ _ (h.swap3))))
 ·exact event_step (lit_wanted L.g13 _) (L.r13 _ _) (hK.out _ _ (L.hS _ H.alloc.B) (fun _ => norm_ (pa_ [(b, x1), ((b + 3), y1)] [] a L.d13 L.lt) (lit3_10011 L HJ _ _ _ _ (H.alloc))))
theorem lit3_10100 (x1 x3 : Value) (W : World) (H : D3 W0 W none x1 [] (.slice none 0 0) [] x3 []) : wpAnyLast Try.prog .any ops Q S [] 7 (bf_ 15 1895) (putAll a [(b, x1), ((b + 8), x3)]) W := by
 have hl := L.lt
 have hz := L.sz
 refine three_ (i := 3) (j := 4) (k := 13) (Ni := o3.dst) (Nj := o4.dst) (Nk := o13.dst) (bf_ 15 1903) (bf_ 15 1911) (bf_ 15 10087) L.a3 L.a4 L.a13 rfl rfl rfl (three_of L.T (by kernel_rfl)) (by decide) (by decide) (by decide) (fun K hK => ?_) (fun K hK => ?_) (fun K hK => ?_)
 ·exact lit_app L.g3 L.p3 H L.C1 L.m1 (pg_ (b := b) (N := N) [] a L.sz L.lt) (pn_ [(b, x1), ((b + 8), x3)] a L.lt L.e1) (fun u W1 h => hK.out _ _ (L.hS _ h.B) (fun _ => norm_ (pa_ [(b, x1)] [((b + 8), x3)] a L.d3 L.lt) (lit3_10110 L HJ _ _ _ _ (h))))
 ·exact lit_build L.g4 L.d4 L.r4 H.swap2 (fun u W1 h => hK.out _ _ (L.hS _ h.B) (fun _ => norm_ (pa_ [(b, x1)] [((b + 8), x3)] a L.d4 L.lt) (lit3_11100 L HJ _ _ _ _ (h.swap2))))
 ·exact event_step (lit_wanted L.g13 _) (L.r13 _ _) (hK.out _ _ (L.hS _ H.alloc.B) (fun _ => norm_ (pa_ [(b, x1), ((b + 8), x3)] [] a L.d13 L.lt) (lit3_10101 L HJ _ _ _ _ (H.alloc))))
theorem lit3_11000 (x1 x2 : Value) (W : World) (H : D3 W0 W none x1 [] x2 [] (.slice none 0 0) []) : wpAnyLast Try.prog .any ops Q S [] 7 (bf_ 15 1655) (putAll a [(b, x1), ((b + 4), x2)]) W := by
 have hl := L.lt
 have hz := L.sz
 refine three_ (i := 3) (j := 8) (k := 13) (Ni := o3.dst) (Nj := o8.dst) (Nk := o13.dst) (bf_ 15 1663) (bf_ 15 1911) (bf_ 15 9847) L.a3 L.a8 L.a13 rfl rfl rfl (three_of L.T (by kernel_rfl)) (by decide) (by decide) (by decide) (fun K hK => ?_) (fun K hK => ?_) (fun K hK => ?_)
 ·exact lit_app L.g3 L.p3 H L.C1 L.m1 (pg_ (b := b) (N := N) [] a L.sz L.lt) (pn_ [(b, x1), ((b + 4), x2)] a L.lt L.e1) (fun u W1 h => hK.out _ _ (L.hS _ h.B) (fun _ => norm_ (pa_ [(b, x1)] [((b + 4), x2)] a L.d3 L.lt) (lit3_11010 L HJ _ _ _ _ (h))))
 ·exact lit_build L.g8 L.d8 L.r8 H.swap3 (fun u W1 h => hK.out _ _ (L.hS _ h.B) (fun _ => norm_ (pa_ [(b, x1), ((b + 4), x2)] [] a L.d8 L.lt) (lit3_11100 L HJ _ _ _ _ (h.swap3))))
 ·exact event_step (lit_wanted L.g13 _) (L.r13 _ _) (hK.out _ _ (L.hS _ H.alloc.B) (fun _ => norm_ (pa_ [(b, x1), ((b + 4), x2)] [] a L.d13 L.lt) (lit3_11001 L HJ _ _ _ _ (H.alloc))))
theorem lit3_00001 (g : Nat) (W : World) (H : D3 W0 W (some g) (.slice none 0 0) [] (.slice none 0 0) [] (.slice none 0 0) []) : wpAnyLast Try.prog .any ops Q S [] 8 (bf_ 15 9830) (putAll a [(N, .pointer (some ⟨g, 0, none⟩))]) W := by
 have hl := L.lt
 have hz := L.sz
 refine three_ (i := 0) (j := 4) (k := 8) (Ni := o0.dst) (Nj := o4.dst) (Nk := o8.dst) (bf_ 15 9831) (bf_ 15 9846) (bf_ 15 10086) L.a0 L.a4 L.a8 rfl rfl rfl (three_of L.T (by kernel_rfl)) (by decide) (by decide) (by decide) (fun K hK => ?_) (fun K hK => ?_) (fun K hK => ?_)
 ·exact lit_build L.g0 L.d0 L.r0 H (fun u W1 h => hK.out _ _ (L.hS _ h.B) (fun _ => norm_ (pa_ [] [(N, .pointer (some ⟨g, 0, none⟩))] a L.d0 L.lt) (lit3_10001 L HJ _ _ _ (h))))
 ·exact lit_build L.g4 L.d4 L.r4 H.swap2 (fun u W1 h => hK.out _ _ (L.hS _ h.B) (fun _ => norm_ (pa_ [] [(N, .pointer (some ⟨g, 0, none⟩))] a L.d4 L.lt) (lit3_01001 L HJ _ _ _ (h.swap2))))
 ·exact lit_build L.g8 L.d8 L.r8 H.swap3 (fun u W1 h => hK.out _ _ (L.hS _ h.B) (fun _ => norm_ (pa_ [] [(N, .pointer (some ⟨g, 0, none⟩))] a L.d8 L.lt) (lit3_00101 L HJ _ _ _ (h.swap3))))
theorem lit3_00100 (x3 : Value) (W : World) (H : D3 W0 W none (.slice none 0 0) [] (.slice none 0 0) [] x3 []) : wpAnyLast Try.prog .any ops Q S [] 8 (bf_ 15 1894) (putAll a [((b + 8), x3)]) W := by
 have hl := L.lt
 have hz := L.sz
 refine three_ (i := 0) (j := 4) (k := 13) (Ni := o0.dst) (Nj := o4.dst) (Nk := o13.dst) (bf_ 15 1895) (bf_ 15 1910) (bf_ 15 10086) L.a0 L.a4 L.a13 rfl rfl rfl (three_of L.T (by kernel_rfl)) (by decide) (by decide) (by decide) (fun K hK => ?_) (fun K hK => ?_) (fun K hK => ?_)
 ·exact lit_build L.g0 L.d0 L.r0 H (fun u W1 h => hK.out _ _ (L.hS _ h.B) (fun _ => norm_ (pa_ [] [((b + 8), x3)] a L.d0 L.lt) (lit3_10100 L HJ _ _ _ (h))))
 ·exact lit_build L.g4 L.d4 L.r4 H.swap2 (fun u W1 h => hK.out _ _ (L.hS _ h.B) (fun _ => norm_ (pa_ [] [((b + 8), x3)] a L.d4 L.lt) (lit3_01100 L HJ _ _ _ (h.swap2))))
 ·exact event_step (lit_wanted L.g13 _) (L.r13 _ _) (hK.out _ _ (L.hS _ H.alloc.B) (fun _ => norm_ (pa_ [((b + 8), x3)] [] a L.d13 L.lt) (lit3_00101 L HJ _ _ _ (H.alloc))))
theorem lit3_01000 (x2 : Value) (W : World) (H : D3 W0 W none (.slice none 0 0) [] x2 [] (.slice none 0 0) []) : wpAnyLast Try.prog .any ops Q S [] 8 (bf_ 15 1654) (putAll a [((b + 4), x2)]) W := by
 have hl := L.lt
 have hz := L.sz
 refine three_ (i := 0) (j := 8) (k := 13) (Ni := o0.dst) (Nj := o8.dst) (Nk := o13.dst) (bf_ 15 1655) (bf_ 15 1910) (bf_ 15 9846) L.a0 L.a8 L.a13 rfl rfl rfl (three_of L.T (by kernel_rfl)) (by decide) (by decide) (by decide) (fun K hK => ?_) (fun K hK => ?_) (fun K hK => ?_)
 ·exact lit_build L.g0 L.d0 L.r0 H (fun u W1 h => hK.out _ _ (L.hS _ h.B) (fun _ => norm_ (pa_ [] [((b + 4), x2)] a L.d0 L.lt) (lit3_11000 L HJ _ _ _ (h))))
 ·exact lit_build L.g8 L.d8 L.r8 H.swap3 (fun u W1 h => hK.out _ _ (L.hS _ h.B) (fun _ => norm_ (pa_ [((b + 4), x2)] [] a L.d8 L.lt) (lit3_01100 L HJ _ _ _ (h.swap3))))
 ·exact event_step (lit_wanted L.g13 _) (L.r13 _ _) (hK.out _ _ (L.hS _ H.alloc.B) (fun _ => norm_ (pa_ [((b + 4), x2)] [] a L.d13 L.lt) (lit3_01001 L HJ _ _ _ (H.alloc))))
theorem lit3_10000 (x1 : Value) (W : World) (H : D3 W0 W none x1 [] (.slice none 0 0) [] (.slice none 0 0) []) : wpAnyLast Try.prog .any ops Q S [] 8 (bf_ 15 1639) (putAll a [(b, x1)]) W := by
 have hl := L.lt
 have hz := L.sz
 refine four_ (i := 3) (j := 4) (k := 8) (m := 13) (Ni := o3.dst) (Nj := o4.dst) (Nk := o8.dst) (Nm := o13.dst) (bf_ 15 1647) (bf_ 15 1655) (bf_ 15 1895) (bf_ 15 9831) L.a3 L.a4 L.a8 L.a13 rfl rfl rfl rfl (four_of L.T (by kernel_rfl)) (by decide) (by decide) (by decide) (by decide) (fun K hK => ?_) (fun K hK => ?_) (fun K hK => ?_) (fun K hK => ?_)
 ·exact lit_app L.g3 L.p3 H L.C1 L.m1 (pg_ (b := b) (N := N) [] a L.sz L.lt) (pn_ [(b, x1)] a L.lt L.e1) (fun u W1 h => hK.out _ _ (L.hS _ h.B) (fun _ => norm_ (pa_ [(b, x1)] [] a L.d3 L.lt) (lit3_10010 L HJ _ _ _ (h))))
 ·exact lit_build L.g4 L.d4 L.r4 H.swap2 (fun u W1 h => hK.out _ _ (L.hS _ h.B) (fun _ => norm_ (pa_ [(b, x1)] [] a L.d4 L.lt) (lit3_11000 L HJ _ _ _ (h.swap2))))
 ·exact lit_build L.g8 L.d8 L.r8 H.swap3 (fun u W1 h => hK.out _ _ (L.hS _ h.B) (fun _ => norm_ (pa_ [(b, x1)] [] a L.d8 L.lt) (lit3_10100 L HJ _ _ _ (h.swap3))))
 ·exact event_step (lit_wanted L.g13 _) (L.r13 _ _) (hK.out _ _ (L.hS _ H.alloc.B) (fun _ => norm_ (pa_ [(b, x1)] [] a L.d13 L.lt) (lit3_10001 L HJ _ _ _ (H.alloc))))
theorem lit3_00000 (W : World) (H : D3 W0 W none (.slice none 0 0) [] (.slice none 0 0) [] (.slice none 0 0) []) : wpAnyLast Try.prog .any ops Q S [] 9 (bf_ 15 1638) (putAll a []) W := by
 have hl := L.lt
 have hz := L.sz
 refine four_ (i := 0) (j := 4) (k := 8) (m := 13) (Ni := o0.dst) (Nj := o4.dst) (Nk := o8.dst) (Nm := o13.dst) (bf_ 15 1639) (bf_ 15 1654) (bf_ 15 1894) (bf_ 15 9830) L.a0 L.a4 L.a8 L.a13 rfl rfl rfl rfl (four_of L.T (by kernel_rfl)) (by decide) (by decide) (by decide) (by decide) (fun K hK => ?_) (fun K hK => ?_) (fun K hK => ?_) (fun K hK => ?_)
 ·exact lit_build L.g0 L.d0 L.r0 H (fun u W1 h => hK.out _ _ (L.hS _ h.B) (fun _ => norm_ (pa_ [] [] a L.d0 L.lt) (lit3_10000 L HJ _ _ (h))))
 ·exact lit_build L.g4 L.d4 L.r4 H.swap2 (fun u W1 h => hK.out _ _ (L.hS _ h.B) (fun _ => norm_ (pa_ [] [] a L.d4 L.lt) (lit3_01000 L HJ _ _ (h.swap2))))
 ·exact lit_build L.g8 L.d8 L.r8 H.swap3 (fun u W1 h => hK.out _ _ (L.hS _ h.B) (fun _ => norm_ (pa_ [] [] a L.d8 L.lt) (lit3_00100 L HJ _ _ (h.swap3))))
 ·exact event_step (lit_wanted L.g13 _) (L.r13 _ _) (hK.out _ _ (L.hS _ H.alloc.B) (fun _ => norm_ (pa_ [] [] a L.d13 L.lt) (lit3_00001 L HJ  _ _ (H.alloc))))
theorem lit3_.start : wpAnyLast Try.prog .any ops Q S [] 9 #[false, true, true, false, false, true, true, false, false, true, true, false, false, false, false] a W0 := lit3_00000 L HJ W0 (D3.start W0)
end
end Go.Proofs.Ytopfjjdkffdjpaa.Q
end
