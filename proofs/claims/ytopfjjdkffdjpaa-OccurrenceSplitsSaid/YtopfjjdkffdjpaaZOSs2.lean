/- What is proved: what the statement OccurrenceSplitsSaid needs, part 3 of 7; the last part proves the statement. No condition. -/
import Derived.Test.YtopfjjdkffdjpaaZOSs1
set_option linter.unusedVariables false
set_option linter.unusedSimpArgs false
section
namespace Go.Proofs.Ytopfjjdkffdjpaa.Q
open Go.RowKit Go.Proofs.YtopfjjdkffdjpaaW.PrintWords Go.Proofs.YtopfjjdkffdjpaaW.PrintLast Go.Proofs.YtopfjjdkffdjpaaW.PrintMore
attribute [local go_sem] max2_int min2_int max_two min_two max_three min_three max_four min_four
section
attribute [local go_sem high] eqA28
def computuslaw21_awake.f (k : Nat)  : Option (Bool) := (some (([(⟨(⟨#[115]⟩ : ByteArray), 9, 9, (⟨1, 1, 1, 0, 0, 0⟩ : S64)⟩ : S66)] : List (S66)) : List (S66))).bind fun y155 => ((some (([(⟨(⟨#[97]⟩ : ByteArray), 1, 3, (⟨1, 1, 1, 0, 0, 0⟩ : S64)⟩ : S68), (⟨(⟨#[98]⟩ : ByteArray), 3, 1, (⟨1, 1, 1, 0, 0, 0⟩ : S64)⟩ : S68)] : List (S68)) : List (S68))).bind fun y158 => ((some (([(⟨1, 0, 9, (⟨#[115]⟩ : ByteArray)⟩ : S28), (⟨2, 0, 1, (⟨#[97]⟩ : ByteArray)⟩ : S28), (⟨2, 1, 3, (⟨#[98]⟩ : ByteArray)⟩ : S28)] : List (S28)) : List (S28))).bind fun y162 => ((occurrence_Resolve.f 2 y155 y158 y162).bind fun bt165 => ((occurrence_Displace.f 2 y155 y158 bt165.1 bt165.2.1 bt165.2.2.1 bt165.2.2.2.1 bt165.2.2.2.2.1 bt165.2.2.2.2.2.1 bt165.2.2.2.2.2.2).bind fun bt179 => (if 1 < (y162.length : Int) then (if (bt165.1 == ((rd_T28 y162 1).f0) && (bt165.2.1 == ((rd_T28 y162 1).f1) && (bt165.2.2.1 == ((rd_T28 y162 1).f2) && (bt165.2.2.2.1.toList == (((rd_T28 y162 1).f3).toList))))) = true then (if (bt165.2.2.2.2.1.length : Int) = 0 then (if (bt165.2.2.2.2.2.1.length : Int) = 0 then ((computusref08_Numbers.f k bt165.2.2.2.2.2.2 (([1] : List Int))).bind fun t197 => (if t197 = true then ((occurrence_Free.f 2 y155 y158 bt165.1 bt165.2.1 bt165.2.2.1 bt165.2.2.2.1 bt165.2.2.2.2.1 bt165.2.2.2.2.2.1 bt165.2.2.2.2.2.2).bind fun t198 => (if t198 = true then (none) else (if 1 ≤ (y162.length : Int) then ((occurrence_Resolve.f 2 y155 y158 (y162.take 1)).bind fun bt203 => ((occurrence_Free.f 2 y155 y158 bt203.1 bt203.2.1 bt203.2.2.1 bt203.2.2.2.1 bt203.2.2.2.2.1 bt203.2.2.2.2.2.1 bt203.2.2.2.2.2.2).bind fun t216 => (if t216 = true then (if (bt179.1 == 0 && (bt179.2.1 == 0 && (bt179.2.2.1 == 0 && (bt179.2.2.2.1.toList == ([] : List UInt8))))) = true then ((computusref08_Numbers.f k bt179.2.2.2.2.2.1 (([0] : List Int))).bind fun t220 => (some t220)) else (none)) else (none)))) else (none)))) else (none))) else (none)) else (none)) else (none)) else (none))))))
theorem computuslaw21_awake.mono : ∀ k, LeO (computuslaw21_awake.f k ) (computuslaw21_awake.f (k + 1) ) := by
 intro  k
 unfold computuslaw21_awake.f
 repeat' first | (with_reducible first | exact computusref08_Numbers.mono _ _ _ | exact LeO.refl _ | exact LeO.none _ | refine LeO.ite ?_ ?_ | refine LeO.bind ?_ (fun _ => ?_)) | exact LeO.none _ | refine LeO.ite ?_ ?_ | refine LeO.bind ?_ (fun _ => ?_)
def computuslaw21_awake.T6 : Bool × List (List Nat × List Nat) := (true, [([], []), ([0], [0]), ([], []), ([2], [2]), ([3], [3]), ([1, 4], [1, 4]), ([5], [5]), ([6], [6]), ([7, 6], [6, 7]), ([8, 6], [6, 8]), ([9, 6], [6, 9]), ([6, 10], [6, 10]), ([11, 6], [11]), ([12], [12]), ([13, 12], [12, 13]), ([14, 12], [12, 14]), ([15, 12], [12, 15]), ([12, 16], [12, 16]), ([17, 12], [17]), ([18], [18]), ([19, 18], [18, 19]), ([18], [18]), ([20, 21, 18, 18], [18, 20, 21]), ([18, 22], [18, 22]), ([23, 22], [23]), ([24], [24]), ([24], [24]), ([25, 26, 24, 24], [24, 25, 26]), ([27, 24], [24, 27]), ([24, 28], [24, 28]), ([29, 27], [29]), ([30], [30]), ([30], [30]), ([30], [30]), ([33, 30], [30, 33]), ([32, 34, 30, 30], [30, 32, 34]), ([31, 35, 35, 30], [30, 31, 35]), ([30, 36], [30, 36]), ([37, 36], [37]), ([38], [38]), ([39, 38], [38, 39]), ([38], [38]), ([40, 41, 38], [38, 40, 41]), ([38, 42], [38, 42]), ([43, 38], [43]), ([44], [44]), ([45, 44], [44, 45]), ([44], [44]), ([46, 47, 44, 44], [44, 46, 47]), ([44, 48], [44, 48]), ([49, 48, 0, 1, 2, 3, 4, 5, 6, 7, 8, 9, 10, 11, 12, 13, 14, 15, 16, 17, 18, 19, 20, 21, 22, 23, 24, 25, 26, 27, 28, 29, 30, 31, 32, 33, 34, 35, 36, 37, 38, 39, 40, 41, 42, 43, 44, 45, 46, 47, 48, 49], [49])])
def computuslaw21_awake.B6 : List Nat := [0, 1, 0, 4, 12, 31, 63, 127, 255, 511, 1023, 2047, 4095, 8191, 16383, 32767, 65535, 131071, 262143, 524287, 1048575, 524287, 4194303, 8388607, 16777215, 33554431, 33554431, 134217727, 268435455, 536870911, 1073741823, 2147483647, 2147483647, 2147483647, 10737418239, 32212254719, 68719476735, 137438953471, 274877906943, 549755813887, 1099511627775, 549755813887, 4398046511103, 8796093022207, 17592186044415, 35184372088831, 70368744177663, 35184372088831, 281474976710655, 562949953421311, 1125899906842623]
theorem computuslaw21_awake.tab6 : rtab .any (opsOf Try.f13 6) = computuslaw21_awake.T6 := by kernel_rfl
theorem computuslaw21_awake.bits6 : waitsOk computuslaw21_awake.T6.2 computuslaw21_awake.B6 = true := by kernel_rfl
set_option maxHeartbeats 8000000 in
set_option maxRecDepth 100000 in
theorem computuslaw21_awake.calls (k : Nat)  (r : Bool) (w : World) (h : computuslaw21_awake.f k  = some r) :
  Calls Try.prog 13 #[] w fun e w' => e = .returned (.bool r) ∧ Below w.heap.size w w' := by
 have hu64 := Try.underlying64
 have hu66 := Try.underlying66
 have hu68 := Try.underlying68
 have hu36 := Try.underlying36
 have hu28 := Try.underlying28
 have hu42 := Try.underlying42
 have HB := Aside0.mk (Below.refl w.heap.size w)
 have H := h
 clear h
 unfold computuslaw21_awake.f at H
 obtain ⟨y155, hy155⟩ : ∃ y_ : List (S66), y_ = (([(⟨(⟨#[115]⟩ : ByteArray), 9, 9, (⟨1, 1, 1, 0, 0, 0⟩ : S64)⟩ : S66)] : List (S66))) := ⟨_, rfl⟩
 replace H : ((some (([(⟨(⟨#[97]⟩ : ByteArray), 1, 3, (⟨1, 1, 1, 0, 0, 0⟩ : S64)⟩ : S68), (⟨(⟨#[98]⟩ : ByteArray), 3, 1, (⟨1, 1, 1, 0, 0, 0⟩ : S64)⟩ : S68)] : List (S68)) : List (S68))).bind fun y158 => ((some (([(⟨1, 0, 9, (⟨#[115]⟩ : ByteArray)⟩ : S28), (⟨2, 0, 1, (⟨#[97]⟩ : ByteArray)⟩ : S28), (⟨2, 1, 3, (⟨#[98]⟩ : ByteArray)⟩ : S28)] : List (S28)) : List (S28))).bind fun y162 => ((occurrence_Resolve.f 2 y155 y158 y162).bind fun bt165 => ((occurrence_Displace.f 2 y155 y158 bt165.1 bt165.2.1 bt165.2.2.1 bt165.2.2.2.1 bt165.2.2.2.2.1 bt165.2.2.2.2.2.1 bt165.2.2.2.2.2.2).bind fun bt179 => (if 1 < (y162.length : Int) then (if (bt165.1 == ((rd_T28 y162 1).f0) && (bt165.2.1 == ((rd_T28 y162 1).f1) && (bt165.2.2.1 == ((rd_T28 y162 1).f2) && (bt165.2.2.2.1.toList == (((rd_T28 y162 1).f3).toList))))) = true then (if (bt165.2.2.2.2.1.length : Int) = 0 then (if (bt165.2.2.2.2.2.1.length : Int) = 0 then ((computusref08_Numbers.f k bt165.2.2.2.2.2.2 (([1] : List Int))).bind fun t197 => (if t197 = true then ((occurrence_Free.f 2 y155 y158 bt165.1 bt165.2.1 bt165.2.2.1 bt165.2.2.2.1 bt165.2.2.2.2.1 bt165.2.2.2.2.2.1 bt165.2.2.2.2.2.2).bind fun t198 => (if t198 = true then (none) else (if 1 ≤ (y162.length : Int) then ((occurrence_Resolve.f 2 y155 y158 (y162.take 1)).bind fun bt203 => ((occurrence_Free.f 2 y155 y158 bt203.1 bt203.2.1 bt203.2.2.1 bt203.2.2.2.1 bt203.2.2.2.2.1 bt203.2.2.2.2.2.1 bt203.2.2.2.2.2.2).bind fun t216 => (if t216 = true then (if (bt179.1 == 0 && (bt179.2.1 == 0 && (bt179.2.2.1 == 0 && (bt179.2.2.2.1.toList == ([] : List UInt8))))) = true then ((computusref08_Numbers.f k bt179.2.2.2.2.2.1 (([0] : List Int))).bind fun t220 => (some t220)) else (none)) else (none)))) else (none)))) else (none))) else (none)) else (none)) else (none)) else (none)))))) = some r := by first | (rw [hy155]; with_reducible exact H) | (have H2_ := (Option.bind_some _ _).symm.trans H; rw [hy155]; with_reducible exact H2_) | (have H2_ := (Option.bind_some _ _).symm.trans H; with_reducible exact H2_) | with_reducible exact H | (rw [hy155]; exact H) | exact H
 have Ny155 := Aside0.mk hy155
 clear hy155
 obtain ⟨y158, hy158⟩ : ∃ y_ : List (S68), y_ = (([(⟨(⟨#[97]⟩ : ByteArray), 1, 3, (⟨1, 1, 1, 0, 0, 0⟩ : S64)⟩ : S68), (⟨(⟨#[98]⟩ : ByteArray), 3, 1, (⟨1, 1, 1, 0, 0, 0⟩ : S64)⟩ : S68)] : List (S68))) := ⟨_, rfl⟩
 replace H : ((some (([(⟨1, 0, 9, (⟨#[115]⟩ : ByteArray)⟩ : S28), (⟨2, 0, 1, (⟨#[97]⟩ : ByteArray)⟩ : S28), (⟨2, 1, 3, (⟨#[98]⟩ : ByteArray)⟩ : S28)] : List (S28)) : List (S28))).bind fun y162 => ((occurrence_Resolve.f 2 y155 y158 y162).bind fun bt165 => ((occurrence_Displace.f 2 y155 y158 bt165.1 bt165.2.1 bt165.2.2.1 bt165.2.2.2.1 bt165.2.2.2.2.1 bt165.2.2.2.2.2.1 bt165.2.2.2.2.2.2).bind fun bt179 => (if 1 < (y162.length : Int) then (if (bt165.1 == ((rd_T28 y162 1).f0) && (bt165.2.1 == ((rd_T28 y162 1).f1) && (bt165.2.2.1 == ((rd_T28 y162 1).f2) && (bt165.2.2.2.1.toList == (((rd_T28 y162 1).f3).toList))))) = true then (if (bt165.2.2.2.2.1.length : Int) = 0 then (if (bt165.2.2.2.2.2.1.length : Int) = 0 then ((computusref08_Numbers.f k bt165.2.2.2.2.2.2 (([1] : List Int))).bind fun t197 => (if t197 = true then ((occurrence_Free.f 2 y155 y158 bt165.1 bt165.2.1 bt165.2.2.1 bt165.2.2.2.1 bt165.2.2.2.2.1 bt165.2.2.2.2.2.1 bt165.2.2.2.2.2.2).bind fun t198 => (if t198 = true then (none) else (if 1 ≤ (y162.length : Int) then ((occurrence_Resolve.f 2 y155 y158 (y162.take 1)).bind fun bt203 => ((occurrence_Free.f 2 y155 y158 bt203.1 bt203.2.1 bt203.2.2.1 bt203.2.2.2.1 bt203.2.2.2.2.1 bt203.2.2.2.2.2.1 bt203.2.2.2.2.2.2).bind fun t216 => (if t216 = true then (if (bt179.1 == 0 && (bt179.2.1 == 0 && (bt179.2.2.1 == 0 && (bt179.2.2.2.1.toList == ([] : List UInt8))))) = true then ((computusref08_Numbers.f k bt179.2.2.2.2.2.1 (([0] : List Int))).bind fun t220 => (some t220)) else (none)) else (none)))) else (none)))) else (none))) else (none)) else (none)) else (none)) else (none))))) = some r := by first | (rw [hy158]; with_reducible exact H) | (have H2_ := (Option.bind_some _ _).symm.trans H; rw [hy158]; with_reducible exact H2_) | (have H2_ := (Option.bind_some _ _).symm.trans H; with_reducible exact H2_) | with_reducible exact H | (rw [hy158]; exact H) | exact H
 have Ny158 := Aside0.mk hy158
 clear hy158
 obtain ⟨y162, hy162⟩ : ∃ y_ : List (S28), y_ = (([(⟨1, 0, 9, (⟨#[115]⟩ : ByteArray)⟩ : S28), (⟨2, 0, 1, (⟨#[97]⟩ : ByteArray)⟩ : S28), (⟨2, 1, 3, (⟨#[98]⟩ : ByteArray)⟩ : S28)] : List (S28))) := ⟨_, rfl⟩
 replace H : ((occurrence_Resolve.f 2 y155 y158 y162).bind fun bt165 => ((occurrence_Displace.f 2 y155 y158 bt165.1 bt165.2.1 bt165.2.2.1 bt165.2.2.2.1 bt165.2.2.2.2.1 bt165.2.2.2.2.2.1 bt165.2.2.2.2.2.2).bind fun bt179 => (if 1 < (y162.length : Int) then (if (bt165.1 == ((rd_T28 y162 1).f0) && (bt165.2.1 == ((rd_T28 y162 1).f1) && (bt165.2.2.1 == ((rd_T28 y162 1).f2) && (bt165.2.2.2.1.toList == (((rd_T28 y162 1).f3).toList))))) = true then (if (bt165.2.2.2.2.1.length : Int) = 0 then (if (bt165.2.2.2.2.2.1.length : Int) = 0 then ((computusref08_Numbers.f k bt165.2.2.2.2.2.2 (([1] : List Int))).bind fun t197 => (if t197 = true then ((occurrence_Free.f 2 y155 y158 bt165.1 bt165.2.1 bt165.2.2.1 bt165.2.2.2.1 bt165.2.2.2.2.1 bt165.2.2.2.2.2.1 bt165.2.2.2.2.2.2).bind fun t198 => (if t198 = true then (none) else (if 1 ≤ (y162.length : Int) then ((occurrence_Resolve.f 2 y155 y158 (y162.take 1)).bind fun bt203 => ((occurrence_Free.f 2 y155 y158 bt203.1 bt203.2.1 bt203.2.2.1 bt203.2.2.2.1 bt203.2.2.2.2.1 bt203.2.2.2.2.2.1 bt203.2.2.2.2.2.2).bind fun t216 => (if t216 = true then (if (bt179.1 == 0 && (bt179.2.1 == 0 && (bt179.2.2.1 == 0 && (bt179.2.2.2.1.toList == ([] : List UInt8))))) = true then ((computusref08_Numbers.f k bt179.2.2.2.2.2.1 (([0] : List Int))).bind fun t220 => (some t220)) else (none)) else (none)))) else (none)))) else (none))) else (none)) else (none)) else (none)) else (none)))) = some r := by first | (rw [hy162]; with_reducible exact H) | (have H2_ := (Option.bind_some _ _).symm.trans H; rw [hy162]; with_reducible exact H2_) | (have H2_ := (Option.bind_some _ _).symm.trans H; with_reducible exact H2_) | with_reducible exact H | (rw [hy162]; exact H) | exact H
 have Ny162 := Aside0.mk hy162
 clear hy162
 obtain ⟨⟨t165, t166, t167, t168, t169, t172, t175⟩, A1, H⟩ := bs_ H
 dsimp only at H
 obtain ⟨⟨t179, t180, t181, t182, t183, t186, t189⟩, A2, H⟩ := bs_ H
 dsimp only at H
 by_cases c3 : 1 < (y162.length : Int)
 rotate_left
 ·rw [if_neg c3] at H
  exact absurd H (by simp)
 rw [if_pos c3] at H
 have c3b0 : decide (1 < (y162.length : Int)) = true := decide_eq_true c3
 have c3b1 : decide (1 < y162.length) = true := decide_eq_true (by omega)
 clear c3
 by_cases c4 : (t165 == ((rd_T28 y162 1).f0) && (t166 == ((rd_T28 y162 1).f1) && (t167 == ((rd_T28 y162 1).f2) && (t168.toList == (((rd_T28 y162 1).f3).toList))))) = true
 rotate_left
 ·rw [if_neg c4] at H
  exact absurd H (by simp)
 rw [if_pos c4] at H
 have c4b0 : (t165 == ((rd_T28 y162 1).f0) && (t166 == ((rd_T28 y162 1).f1) && (t167 == ((rd_T28 y162 1).f2) && (t168.toList == (((rd_T28 y162 1).f3).toList))))) = true := c4
 (try (have c4b1 : decide (t165 = ((rd_T28 y162 1).f0) && (t166 == ((rd_T28 y162 1).f1) && (t167 == ((rd_T28 y162 1).f2) && (t168.toList == (((rd_T28 y162 1).f3).toList))))) = true := by simpa using c4))
 (try (have c4b2 : (t165 == ((rd_T28 y162 1).f0) && (t166 == ((rd_T28 y162 1).f1) && (t167 == ((rd_T28 y162 1).f2) && (t168.toList == (((rd_T28 y162 1).f3).toList))))) = true := by simpa using c4))
 clear c4
 by_cases c5 : (t169.length : Int) = 0
 rotate_left
 ·rw [if_neg c5] at H
  exact absurd H (by simp)
 rw [if_pos c5] at H
 have c5b0 : ((t169.length : Int) == 0) = true := beq_iff_eq.mpr c5
 have c5b1 : ((t169.length : Int) != 0) = false := bne_eq_false_iff_eq.mpr c5
 clear c5
 by_cases c6 : (t172.length : Int) = 0
 rotate_left
 ·rw [if_neg c6] at H
  exact absurd H (by simp)
 rw [if_pos c6] at H
 have c6b0 : ((t172.length : Int) == 0) = true := beq_iff_eq.mpr c6
 have c6b1 : ((t172.length : Int) != 0) = false := bne_eq_false_iff_eq.mpr c6
 clear c6
 obtain ⟨y194, hy194⟩ : ∃ y_ : List Int, y_ = (([1] : List Int)) := ⟨_, rfl⟩
 replace H : ((computusref08_Numbers.f k t175 y194).bind fun t197 => (if t197 = true then ((occurrence_Free.f 2 y155 y158 t165 t166 t167 t168 t169 t172 t175).bind fun t198 => (if t198 = true then (none) else (if 1 ≤ (y162.length : Int) then ((occurrence_Resolve.f 2 y155 y158 (y162.take 1)).bind fun bt203 => ((occurrence_Free.f 2 y155 y158 bt203.1 bt203.2.1 bt203.2.2.1 bt203.2.2.2.1 bt203.2.2.2.2.1 bt203.2.2.2.2.2.1 bt203.2.2.2.2.2.2).bind fun t216 => (if t216 = true then (if (t179 == 0 && (t180 == 0 && (t181 == 0 && (t182.toList == ([] : List UInt8))))) = true then ((computusref08_Numbers.f k t186 (([0] : List Int))).bind fun t220 => (some t220)) else (none)) else (none)))) else (none)))) else (none))) = some r := by first | (rw [hy194]; with_reducible exact H) | (have H2_ := (Option.bind_some _ _).symm.trans H; rw [hy194]; with_reducible exact H2_) | (have H2_ := (Option.bind_some _ _).symm.trans H; with_reducible exact H2_) | with_reducible exact H | (rw [hy194]; exact H) | exact H
 have Ny194 := Aside0.mk hy194
 clear hy194
 obtain ⟨t197, A7, H⟩ := bs_ H
 by_cases c8 : t197 = true
 rotate_left
 ·replace c8 := Bool.eq_false_iff.mpr c8
  subst c8
  replace H := if_ H
  exact absurd H (by simp)
 subst c8
 replace H := it_ H
 obtain ⟨t198, A9, H⟩ := bs_ H
 by_cases c10 : t198 = true
 ·subst c10
  replace H := it_ H
  exact absurd H (by simp)
 replace c10 := Bool.eq_false_iff.mpr c10
 subst c10
 replace H := if_ H
 by_cases c11 : 1 ≤ (y162.length : Int)
 rotate_left
 ·rw [if_neg c11] at H
  exact absurd H (by simp)
 rw [if_pos c11] at H
 have c11b0 := eq_true c11
 have c11b1 : decide (1 ≤ (y162.length : Int)) = true := decide_eq_true c11
 clear c11
 obtain ⟨y199, hy199⟩ : ∃ y_ : List (S28), y_ = (y162.take 1) := ⟨_, rfl⟩
 replace H : ((occurrence_Resolve.f 2 y155 y158 y199).bind fun bt203 => ((occurrence_Free.f 2 y155 y158 bt203.1 bt203.2.1 bt203.2.2.1 bt203.2.2.2.1 bt203.2.2.2.2.1 bt203.2.2.2.2.2.1 bt203.2.2.2.2.2.2).bind fun t216 => (if t216 = true then (if (t179 == 0 && (t180 == 0 && (t181 == 0 && (t182.toList == ([] : List UInt8))))) = true then ((computusref08_Numbers.f k t186 (([0] : List Int))).bind fun t220 => (some t220)) else (none)) else (none)))) = some r := by first | (rw [hy199]; with_reducible exact H) | (have H2_ := (Option.bind_some _ _).symm.trans H; rw [hy199]; with_reducible exact H2_) | (have H2_ := (Option.bind_some _ _).symm.trans H; with_reducible exact H2_) | with_reducible exact H | (rw [hy199]; exact H) | exact H
 have Ny199 := Aside0.mk hy199
 clear hy199
 obtain ⟨⟨t203, t204, t205, t206, t207, t210, t213⟩, A12, H⟩ := bs_ H
 dsimp only at H
 obtain ⟨t216, A13, H⟩ := bs_ H
 by_cases c14 : t216 = true
 rotate_left
 ·replace c14 := Bool.eq_false_iff.mpr c14
  subst c14
  replace H := if_ H
  exact absurd H (by simp)
 subst c14
 replace H := it_ H
 by_cases c15 : (t179 == 0 && (t180 == 0 && (t181 == 0 && (t182.toList == ([] : List UInt8))))) = true
 rotate_left
 ·rw [if_neg c15] at H
  exact absurd H (by simp)
 rw [if_pos c15] at H
 have c15b0 : (t179 == 0 && (t180 == 0 && (t181 == 0 && (t182.toList == ([] : List UInt8))))) = true := c15
 (try (have c15b9 : ((t179 == 0 && (t180 == 0 && (t181 == 0 && (t182.toList.isEmpty))))) = true := by simpa using c15b0))
 (try (have c15b1 : decide (t179 = 0 && (t180 == 0 && (t181 == 0 && (t182.toList == ([] : List UInt8))))) = true := by simpa using c15))
 (try (have c15b2 : (t179 == 0 && (t180 == 0 && (t181 == 0 && (t182.toList == ([] : List UInt8))))) = true := by simpa using c15))
 clear c15
 obtain ⟨y217, hy217⟩ : ∃ y_ : List Int, y_ = (([0] : List Int)) := ⟨_, rfl⟩
 replace H : ((computusref08_Numbers.f k t186 y217).bind fun t220 => (some t220)) = some r := by first | (rw [hy217]; with_reducible exact H) | (have H2_ := (Option.bind_some _ _).symm.trans H; rw [hy217]; with_reducible exact H2_) | (have H2_ := (Option.bind_some _ _).symm.trans H; with_reducible exact H2_) | with_reducible exact H | (rw [hy217]; exact H) | exact H
 have Ny217 := Aside0.mk hy217
 clear hy217
 obtain ⟨t220, A16, H⟩ := bs_ H
 obtain rfl := Option.some.inj H
 go_enter Try.func13, Try.ntmps13
 try go_wp2_with (first | ((with_reducible refine gate_dst (N := 1) rfl ?_); (try (refine gate_guard (by rfl) ?_; dsimp only)); refine bx_ (w := w) (N := 1) (cs := #[.int .i64 0, .int .i64 0, .int .i64 0, .int .i64 0, .int .i64 0, .int .i64 0]) (t := 64) ?_; intro gb154 w17 BK154 n0_ GW154 GE154; clear HB; have HB := n0_; clear n0_; obtain ⟨hcz18_0, hcz18_1, hcz18_2, hcz18_3, hcz18_4, hcz18_5⟩ := cz6_ BK154.out; obtain ⟨hfz18_0, hfz18_1, hfz18_2, hfz18_3, hfz18_4, hfz18_5⟩ := fz6_ BK154.out) | ((with_reducible refine gate_dst (N := 9) rfl ?_); (try (refine gate_guard (by rfl) ?_; dsimp only)); refine Kd.R_lit k66 _ 66 ?hg (N := 9) ?hd (xs := ([(⟨(⟨#[115]⟩ : ByteArray), 9, 9, (⟨1, 1, 1, 0, 0, 0⟩ : S64)⟩ : S66)] : List (S66))) (inner := [.string (⟨#[115]⟩ : ByteArray), .int .i64 9, .int .i64 9, .int .i64 1, .int .i64 1, .int .i64 1, .int .i64 0, .int .i64 0, .int .i64 0]) (ok := fun _ => True) (okp := fun _ => True) ?hr ?hp (fun _ hk => hk) trivial (Below.refl _ _) (Nat.le_refl _) (by simp) ?_; (case hd => rfl); (case hg => rfl); (case hr => first | (go_simp; done) | (go_simp; rfl)); (case hp => exact (Reps.c9 (show Kd.M k66 _ _ _ (⟨(⟨#[115]⟩ : ByteArray), 9, 9, (⟨1, 1, 1, 0, 0, 0⟩ : S64)⟩ : S66) [.string (⟨#[115]⟩ : ByteArray), .int .i64 9, .int .i64 9, .int .i64 1, .int .i64 1, .int .i64 1, .int .i64 0, .int .i64 0, .int .i64 0] from (k66_mkM _ _ _ (⟨(⟨#[115]⟩ : ByteArray), 9, 9, (⟨1, 1, 1, 0, 0, 0⟩ : S64)⟩ : S66) )) (Reps.none _ _))); intro v156 w19 ho20 hb hg_ hnew_; clear hg_ hnew_; (first | rw [← Ny155.out] at ho20 | (simp only [Int.reduceToNat] at ho20; rw [← Ny155.out] at ho20)); have n0_ := Aside0.mk (Kd.R_lower ho20 bz_); have n1_ := Aside0.mk (blk_below (g := gb154) (o := .cells #[.int .i64 1, .int .i64 1, .int .i64 1, .int .i64 0, .int .i64 0, .int .i64 0] 64 (0, 0)) (by refine bp_ ?_; refine blk_put (cs := #[.int .i64 1, .int .i64 1, .int .i64 1, .int .i64 0, .int .i64 0, .int .i64 0]) ?_ 5 _ rfl; refine bp_ ?_; refine blk_put (cs := #[.int .i64 1, .int .i64 1, .int .i64 1, .int .i64 0, .int .i64 0, .int .i64 0]) ?_ 4 _ rfl; refine bp_ ?_; refine blk_put (cs := #[.int .i64 1, .int .i64 1, .int .i64 1, .int .i64 0, .int .i64 0, .int .i64 0]) ?_ 3 _ rfl; refine bp_ ?_; refine blk_put (cs := #[.int .i64 1, .int .i64 1, .int .i64 0, .int .i64 0, .int .i64 0, .int .i64 0]) ?_ 2 _ rfl; refine bp_ ?_; refine blk_put (cs := #[.int .i64 1, .int .i64 0, .int .i64 0, .int .i64 0, .int .i64 0, .int .i64 0]) ?_ 1 _ rfl; refine bp_ ?_; refine blk_put (cs := #[.int .i64 0, .int .i64 0, .int .i64 0, .int .i64 0, .int .i64 0, .int .i64 0]) ?_ 0 _ rfl; exact bk_ BK154.out) hb); have n2_ := bt_ hb; clear BK154; clear HB; have HO157 := n0_; have BK154 := n1_; have HB := n2_; clear n0_ n1_ n2_; clear hb ho20; obtain ⟨hcz21_0, hcz21_1, hcz21_2, hcz21_3, hcz21_4, hcz21_5⟩ := cz6_ BK154.out; obtain ⟨hfz21_0, hfz21_1, hfz21_2, hfz21_3, hfz21_4, hfz21_5⟩ := fz6_ BK154.out) | ((with_reducible refine gate_dst (N := 14) rfl ?_); (try (refine gate_guard (by rfl) ?_; dsimp only)); refine Kd.R_lit k68 _ 68 ?hg (N := 14) ?hd (xs := ([(⟨(⟨#[97]⟩ : ByteArray), 1, 3, (⟨1, 1, 1, 0, 0, 0⟩ : S64)⟩ : S68), (⟨(⟨#[98]⟩ : ByteArray), 3, 1, (⟨1, 1, 1, 0, 0, 0⟩ : S64)⟩ : S68)] : List (S68))) (inner := [.string (⟨#[97]⟩ : ByteArray), .int .i64 1, .int .i64 3, .int .i64 1, .int .i64 1, .int .i64 1, .int .i64 0, .int .i64 0, .int .i64 0, .string (⟨#[98]⟩ : ByteArray), .int .i64 3, .int .i64 1, .int .i64 1, .int .i64 1, .int .i64 1, .int .i64 0, .int .i64 0, .int .i64 0]) (ok := fun _ => True) (okp := fun _ => True) ?hr ?hp (fun _ hk => hk) trivial (Below.refl _ _) (Nat.le_refl _) (by simp) ?_; (case hd => rfl); (case hg => rfl); (case hr => first | (go_simp; done) | (go_simp; rfl)); (case hp => exact (Reps.c9 (show Kd.M k68 _ _ _ (⟨(⟨#[97]⟩ : ByteArray), 1, 3, (⟨1, 1, 1, 0, 0, 0⟩ : S64)⟩ : S68) [.string (⟨#[97]⟩ : ByteArray), .int .i64 1, .int .i64 3, .int .i64 1, .int .i64 1, .int .i64 1, .int .i64 0, .int .i64 0, .int .i64 0] from (k68_mkM _ _ _ (⟨(⟨#[97]⟩ : ByteArray), 1, 3, (⟨1, 1, 1, 0, 0, 0⟩ : S64)⟩ : S68) )) (Reps.c9 (show Kd.M k68 _ _ _ (⟨(⟨#[98]⟩ : ByteArray), 3, 1, (⟨1, 1, 1, 0, 0, 0⟩ : S64)⟩ : S68) [.string (⟨#[98]⟩ : ByteArray), .int .i64 3, .int .i64 1, .int .i64 1, .int .i64 1, .int .i64 1, .int .i64 0, .int .i64 0, .int .i64 0] from (k68_mkM _ _ _ (⟨(⟨#[98]⟩ : ByteArray), 3, 1, (⟨1, 1, 1, 0, 0, 0⟩ : S64)⟩ : S68) )) (Reps.none _ _)))); intro v159 w22 ho23 hb hg_ hnew_; clear hg_ hnew_; (first | rw [← Ny158.out] at ho23 | (simp only [Int.reduceToNat] at ho23; rw [← Ny158.out] at ho23)); have n0_ := Aside0.mk (Kd.R_below (rk_ HO157.out) hb); have n1_ := Aside0.mk (Kd.R_lower ho23 bz_); have n2_ := Aside0.mk (blk_below (g := gb154) (o := .cells #[.int .i64 1, .int .i64 1, .int .i64 1, .int .i64 0, .int .i64 0, .int .i64 0] 64 (0, 0)) (bk_ BK154.out) hb); have n3_ := bt_ hb; clear HO157; clear BK154; clear HB; have HO157 := n0_; have HO160 := n1_; have BK154 := n2_; have HB := n3_; clear n0_ n1_ n2_ n3_; clear hb ho23; obtain ⟨Ao24, co24, eo24⟩ := Kd.R_slice HO160.out; subst eo24; obtain ⟨Ao25, co25, eo25⟩ := Kd.R_slice HO157.out; subst eo25) | ((with_reducible refine gate_dst (N := 2) rfl ?_); (try (refine gate_guard (by rfl) ?_; dsimp only)); refine box_event ?hg (N := 2) ?hd (cs := #[.int .i64 0, .slice none 0 0, .slice none 0 0]) (t := 36) ?hr ?_; (case hd => rfl); (case hg => rfl); (case hr => first | (go_simp; done) | (go_simp; rfl)); intro gb161 hg w26 hbox hb; have n0_ := Aside0.mk (Kd.R_below (rk_ HO157.out) hb); have n1_ := Aside0.mk (Kd.R_below (rk_ HO160.out) hb); have n2_ := Aside0.mk (blk_below (g := gb154) (o := .cells #[.int .i64 1, .int .i64 1, .int .i64 1, .int .i64 0, .int .i64 0, .int .i64 0] 64 (0, 0)) (bk_ BK154.out) hb); have n3_ := bt_ hb; have n4_ := Aside0.mk (hbox); have n5_ := Aside0.mk ((by rw [hg]; exact bz_ : w.heap.size ≤ gb161)); have n6_ := Aside0.mk ((by rw [hg]; exact bz_ : w.heap.size ≤ gb161)); have n7_ := Aside0.mk ((by rw [hg]; exact Nat.ne_of_lt (blk_lt (g := gb154) (o := .cells #[.int .i64 1, .int .i64 1, .int .i64 1, .int .i64 0, .int .i64 0, .int .i64 0] 64 (0, 0)) (bk_ BK154.out)) : gb154 ≠ gb161)); have n8_ := Aside0.mk ((by rw [hg]; exact Nat.ne_of_gt (blk_lt (g := gb154) (o := .cells #[.int .i64 1, .int .i64 1, .int .i64 1, .int .i64 0, .int .i64 0, .int .i64 0] 64 (0, 0)) (bk_ BK154.out)) : gb161 ≠ gb154)); clear HO157; clear HO160; clear BK154; clear HB; have HO157 := n0_; have HO160 := n1_; have BK154 := n2_; have HB := n3_; have BK161 := n4_; have GW161 := n5_; have GE161 := n6_; have NB154_161 := n7_; have NB161_154 := n8_; clear n0_ n1_ n2_ n3_ n4_ n5_ n6_ n7_ n8_; clear hb hbox hg; have hnb27 := NB161_154.out; have hnc27 := NB154_161.out; obtain ⟨hcz28_0, hcz28_1, hcz28_2⟩ := cz3_ BK161.out; obtain ⟨hfz28_0, hfz28_1, hfz28_2⟩ := fz3_ BK161.out) | ((with_reducible refine gate_dst (N := 19) rfl ?_); (try (refine gate_guard (by rfl) ?_; dsimp only)); refine Kd.R_lit k28 _ 28 ?hg (N := 19) ?hd (xs := ([(⟨1, 0, 9, (⟨#[115]⟩ : ByteArray)⟩ : S28), (⟨2, 0, 1, (⟨#[97]⟩ : ByteArray)⟩ : S28), (⟨2, 1, 3, (⟨#[98]⟩ : ByteArray)⟩ : S28)] : List (S28))) (inner := [.int .i64 1, .int .i64 0, .int .i64 9, .string (⟨#[115]⟩ : ByteArray), .int .i64 2, .int .i64 0, .int .i64 1, .string (⟨#[97]⟩ : ByteArray), .int .i64 2, .int .i64 1, .int .i64 3, .string (⟨#[98]⟩ : ByteArray)]) (ok := fun _ => True) (okp := fun _ => True) ?hr ?hp (fun _ hk => hk) trivial (Below.refl _ _) (Nat.le_refl _) (by simp) ?_; (case hd => rfl); (case hg => rfl); (case hr => first | (go_simp; done) | (go_simp; rfl)); (case hp => exact (Reps.c4 (show Kd.M k28 _ _ _ (⟨1, 0, 9, (⟨#[115]⟩ : ByteArray)⟩ : S28) [.int .i64 1, .int .i64 0, .int .i64 9, .string (⟨#[115]⟩ : ByteArray)] from (k28_mkM _ _ _ (⟨1, 0, 9, (⟨#[115]⟩ : ByteArray)⟩ : S28) )) (Reps.c4 (show Kd.M k28 _ _ _ (⟨2, 0, 1, (⟨#[97]⟩ : ByteArray)⟩ : S28) [.int .i64 2, .int .i64 0, .int .i64 1, .string (⟨#[97]⟩ : ByteArray)] from (k28_mkM _ _ _ (⟨2, 0, 1, (⟨#[97]⟩ : ByteArray)⟩ : S28) )) (Reps.c4 (show Kd.M k28 _ _ _ (⟨2, 1, 3, (⟨#[98]⟩ : ByteArray)⟩ : S28) [.int .i64 2, .int .i64 1, .int .i64 3, .string (⟨#[98]⟩ : ByteArray)] from (k28_mkM _ _ _ (⟨2, 1, 3, (⟨#[98]⟩ : ByteArray)⟩ : S28) )) (Reps.none _ _))))); intro v163 w29 ho30 hb hg_ hnew_; clear hg_ hnew_; (first | rw [← Ny162.out] at ho30 | (simp only [Int.reduceToNat] at ho30; rw [← Ny162.out] at ho30)); have n0_ := Aside0.mk (Kd.R_below (by (with_reducible repeat (first | apply Kd.R_alloc | apply Kd.R_drewN | apply Kd.R_drew)); exact (Kd.R_mono (Kd.R_far (p := ⟨gb161, 2, none⟩) (Kd.R_far (p := ⟨gb161, 1, none⟩) (Kd.R_far (p := ⟨gb161, 0, none⟩) (Kd.R_types HO157.out BK161.out (by decide)) (fun _ hk => hk.2) (.int .i64 2)) (fun _ hk => hk.2) (.slice Ao25 y155.length co25)) (fun _ hk => hk.2) (.slice Ao24 y158.length co24)) (fun _ h_ => h_.1))) hb); have n1_ := Aside0.mk (Kd.R_below (by (with_reducible repeat (first | apply Kd.R_alloc | apply Kd.R_drewN | apply Kd.R_drew)); exact (Kd.R_mono (Kd.R_far (p := ⟨gb161, 2, none⟩) (Kd.R_far (p := ⟨gb161, 1, none⟩) (Kd.R_far (p := ⟨gb161, 0, none⟩) (Kd.R_types HO160.out BK161.out (by decide)) (fun _ hk => hk.2) (.int .i64 2)) (fun _ hk => hk.2) (.slice Ao25 y155.length co25)) (fun _ hk => hk.2) (.slice Ao24 y158.length co24)) (fun _ h_ => h_.1))) hb); have n2_ := Aside0.mk (Kd.R_lower ho30 bz_); have n3_ := Aside0.mk (blk_below (g := gb154) (o := .cells #[.int .i64 1, .int .i64 1, .int .i64 1, .int .i64 0, .int .i64 0, .int .i64 0] 64 (0, 0)) (by refine bp_ ?_; refine blk_far ?_ NB154_161.out _; refine bp_ ?_; refine blk_far ?_ NB154_161.out _; refine bp_ ?_; refine blk_far ?_ NB154_161.out _; exact bk_ BK154.out) hb); have n4_ := Aside0.mk (blk_below (g := gb161) (o := .cells #[.int .i64 2, .slice Ao25 y155.length co25, .slice Ao24 y158.length co24] 36 (0, 0)) (by refine bp_ ?_; refine blk_put (cs := #[.int .i64 2, .slice Ao25 y155.length co25, .slice none 0 0]) ?_ 2 _ rfl; refine bp_ ?_; refine blk_put (cs := #[.int .i64 2, .slice none 0 0, .slice none 0 0]) ?_ 1 _ rfl; refine bp_ ?_; refine blk_put (cs := #[.int .i64 0, .slice none 0 0, .slice none 0 0]) ?_ 0 _ rfl; exact bk_ BK161.out) hb); have n5_ := bt_ hb; clear HO157; clear HO160; clear BK154; clear BK161; clear HB; have HO157 := n0_; have HO160 := n1_; have HO164 := n2_; have BK154 := n3_; have BK161 := n4_; have HB := n5_; clear n0_ n1_ n2_ n3_ n4_ n5_; clear hb ho30; obtain ⟨hcz31_0, hcz31_1, hcz31_2⟩ := cz3_ BK161.out; obtain ⟨hfz31_0, hfz31_1, hfz31_2⟩ := fz3_ BK161.out; obtain ⟨Ao32, co32, eo32⟩ := Kd.R_slice HO164.out; subst eo32) | ((with_reducible refine gate_callee (f := 17) rfl ?_); refine gl_ (some 22) Try.func17 #[.agg #[.int .i64 2, .slice Ao25 y155.length co25, .slice Ao24 y158.length co24], .slice Ao32 y162.length co32] ?_; (with_reducible refine (occurrence_Resolve.calls 2 _ _ y155 _ _ y158 _ _ y162 t165 t166 t167 t168 t169 t172 t175 _ ?side1 ?side2 ?side3 ?side4 ?side5 ?side6 A1.out).mono ?_); (case side1 => repeat (first | exact (Kd.R_reads' HO157.out).2.2 | (with_reducible refine Kd.C_alloc ?_ _) | (with_reducible refine Kd.C_drewN ?_ _) | (with_reducible refine Kd.C_drew ?_))); (case side2 => exact (Kd.R_reads' HO157.out).2.1); (case side3 => repeat (first | exact (Kd.R_reads' HO160.out).2.2 | (with_reducible refine Kd.C_alloc ?_ _) | (with_reducible refine Kd.C_drewN ?_ _) | (with_reducible refine Kd.C_drew ?_))); (case side4 => exact (Kd.R_reads' HO160.out).2.1); (case side5 => repeat (first | exact (Kd.R_reads' HO164.out).2.2 | (with_reducible refine Kd.C_alloc ?_ _) | (with_reducible refine Kd.C_drewN ?_ _) | (with_reducible refine Kd.C_drew ?_))); (case side6 => exact (Kd.R_reads' HO164.out).2.1); rintro e w33 ⟨v170, v173, v176, rfl, ho0, ho1, ho2, hb⟩; refine ⟨_, rfl, ?_⟩; have n0_ := Aside0.mk (Kd.R_below (rk_ HO157.out) hb); have n1_ := Aside0.mk (Kd.R_below (rk_ HO160.out) hb); have n2_ := Aside0.mk (Kd.R_below (rk_ HO164.out) hb); have n3_ := Aside0.mk (Kd.R_lower ho0 bz_); have n4_ := Aside0.mk (Kd.R_lower ho1 bz_); have n5_ := Aside0.mk (Kd.R_lower ho2 bz_); have n6_ := Aside0.mk (blk_below (g := gb154) (o := .cells #[.int .i64 1, .int .i64 1, .int .i64 1, .int .i64 0, .int .i64 0, .int .i64 0] 64 (0, 0)) (bk_ BK154.out) hb); have n7_ := Aside0.mk (blk_below (g := gb161) (o := .cells #[.int .i64 2, .slice Ao25 y155.length co25, .slice Ao24 y158.length co24] 36 (0, 0)) (bk_ BK161.out) hb); have n8_ := bt_ hb; clear HO157; clear HO160; clear HO164; clear BK154; clear BK161; clear HB; have HO157 := n0_; have HO160 := n1_; have HO164 := n2_; have HO171 := n3_; have HO174 := n4_; have HO177 := n5_; have BK154 := n6_; have BK161 := n7_; have HB := n8_; clear n0_ n1_ n2_ n3_ n4_ n5_ n6_ n7_ n8_; (try clear hb); (try clear hb2); (try clear hk); (try clear hi); (try clear ho0); (try clear ho1); (try clear ho2)) | ((with_reducible refine gate_dst (N := 4) rfl ?_); (try (refine gate_guard (by rfl) ?_; dsimp only)); refine box_event ?hg (N := 4) ?hd (cs := #[.int .i64 0, .int .i64 0, .int .i64 0, .string (⟨#[]⟩ : ByteArray), .slice none 0 0, .slice none 0 0, .slice none 0 0]) (t := 42) ?hr ?_; (case hd => rfl); (case hg => rfl); (case hr => first | (go_simp; done) | (go_simp; rfl)); intro gb178 hg w34 hbox hb; have n0_ := Aside0.mk (Kd.R_below (rk_ HO157.out) hb); have n1_ := Aside0.mk (Kd.R_below (rk_ HO160.out) hb); have n2_ := Aside0.mk (Kd.R_below (rk_ HO164.out) hb); have n3_ := Aside0.mk (Kd.R_below (rk_ HO171.out) hb); have n4_ := Aside0.mk (Kd.R_below (rk_ HO174.out) hb); have n5_ := Aside0.mk (Kd.R_below (rk_ HO177.out) hb); have n6_ := Aside0.mk (blk_below (g := gb154) (o := .cells #[.int .i64 1, .int .i64 1, .int .i64 1, .int .i64 0, .int .i64 0, .int .i64 0] 64 (0, 0)) (bk_ BK154.out) hb); have n7_ := Aside0.mk (blk_below (g := gb161) (o := .cells #[.int .i64 2, .slice Ao25 y155.length co25, .slice Ao24 y158.length co24] 36 (0, 0)) (bk_ BK161.out) hb); have n8_ := bt_ hb; have n9_ := Aside0.mk (hbox); have n10_ := Aside0.mk ((by rw [hg]; exact bz_ : w.heap.size ≤ gb178)); have n11_ := Aside0.mk ((by rw [hg]; exact bz_ : w.heap.size ≤ gb178)); have n12_ := Aside0.mk ((by rw [hg]; exact Nat.ne_of_lt (blk_lt (g := gb154) (o := .cells #[.int .i64 1, .int .i64 1, .int .i64 1, .int .i64 0, .int .i64 0, .int .i64 0] 64 (0, 0)) (bk_ BK154.out)) : gb154 ≠ gb178)); have n13_ := Aside0.mk ((by rw [hg]; exact Nat.ne_of_gt (blk_lt (g := gb154) (o := .cells #[.int .i64 1, .int .i64 1, .int .i64 1, .int .i64 0, .int .i64 0, .int .i64 0] 64 (0, 0)) (bk_ BK154.out)) : gb178 ≠ gb154)); have n14_ := Aside0.mk ((by rw [hg]; exact Nat.ne_of_lt (blk_lt (g := gb161) (o := .cells #[.int .i64 2, .slice Ao25 y155.length co25, .slice Ao24 y158.length co24] 36 (0, 0)) (bk_ BK161.out)) : gb161 ≠ gb178)); have n15_ := Aside0.mk ((by rw [hg]; exact Nat.ne_of_gt (blk_lt (g := gb161) (o := .cells #[.int .i64 2, .slice Ao25 y155.length co25, .slice Ao24 y158.length co24] 36 (0, 0)) (bk_ BK161.out)) : gb178 ≠ gb161)); clear HO157; clear HO160; clear HO164; clear HO171; clear HO174; clear HO177; clear BK154; clear BK161; clear HB; have HO157 := n0_; have HO160 := n1_; have HO164 := n2_; have HO171 := n3_; have HO174 := n4_; have HO177 := n5_; have BK154 := n6_; have BK161 := n7_; have HB := n8_; have BK178 := n9_; have GW178 := n10_; have GE178 := n11_; have NB154_178 := n12_; have NB178_154 := n13_; have NB161_178 := n14_; have NB178_161 := n15_; clear n0_ n1_ n2_ n3_ n4_ n5_ n6_ n7_ n8_ n9_ n10_ n11_ n12_ n13_ n14_ n15_; clear hb hbox hg; have hnb35 := NB178_154.out; have hnc35 := NB154_178.out; have hnb36 := NB178_161.out; have hnc36 := NB161_178.out; obtain ⟨hcz37_0, hcz37_1, hcz37_2, hcz37_3, hcz37_4, hcz37_5, hcz37_6⟩ := cz7_ BK178.out; obtain ⟨hfz37_0, hfz37_1, hfz37_2, hfz37_3, hfz37_4, hfz37_5, hfz37_6⟩ := fz7_ BK178.out; obtain ⟨Ao38, co38, eo38⟩ := Kd.R_slice HO171.out; subst eo38; obtain ⟨Ao39, co39, eo39⟩ := Kd.R_slice HO174.out; subst eo39; obtain ⟨Ao40, co40, eo40⟩ := Kd.R_slice HO177.out; subst eo40; obtain ⟨hcz41_0, hcz41_1, hcz41_2⟩ := cz3_ BK161.out; obtain ⟨hfz41_0, hfz41_1, hfz41_2⟩ := fz3_ BK161.out) | ((with_reducible refine gate_callee (f := 22) rfl ?_); refine gl_ (some 25) Try.func22 #[.agg #[.int .i64 2, .slice Ao25 y155.length co25, .slice Ao24 y158.length co24], .agg #[.int .i64 t165, .int .i64 t166, .int .i64 t167, .string t168, .slice Ao38 t169.length co38, .slice Ao39 t172.length co39, .slice Ao40 t175.length co40]] ?_; (with_reducible refine (occurrence_Displace.calls 2 _ _ y155 _ _ y158 t165 t166 t167 t168 _ _ t169 _ _ t172 _ _ t175 t179 t180 t181 t182 t183 t186 t189 _ ?side1 ?side2 ?side3 ?side4 ?side5 ?side6 ?side7 ?side8 ?side9 ?side10 A2.out).mono ?_); (case side1 => refine (Kd.R_reads' (e := 66) (base := w.heap.size) (ok := fun k_ => True) (n := y155.length) (c := co25) ?_).2.2; exact (by (with_reducible repeat (first | apply Kd.R_alloc | apply Kd.R_drewN | apply Kd.R_drew)); exact (Kd.R_mono (Kd.R_far (p := ⟨gb178, 6, none⟩) (Kd.R_far (p := ⟨gb178, 5, none⟩) (Kd.R_far (p := ⟨gb178, 4, none⟩) (Kd.R_far (p := ⟨gb178, 3, none⟩) (Kd.R_far (p := ⟨gb178, 2, none⟩) (Kd.R_far (p := ⟨gb178, 1, none⟩) (Kd.R_far (p := ⟨gb178, 0, none⟩) (Kd.R_types HO157.out BK178.out (by decide)) (fun _ hk => hk.2) (.int .i64 t165)) (fun _ hk => hk.2) (.int .i64 t166)) (fun _ hk => hk.2) (.int .i64 t167)) (fun _ hk => hk.2) (.string t168)) (fun _ hk => hk.2) (.slice Ao38 t169.length co38)) (fun _ hk => hk.2) (.slice Ao39 t172.length co39)) (fun _ hk => hk.2) (.slice Ao40 t175.length co40)) (fun _ h_ => h_.1)))); (case side2 => exact (Kd.R_reads' HO157.out).2.1); (case side3 => refine (Kd.R_reads' (e := 68) (base := w.heap.size) (ok := fun k_ => True) (n := y158.length) (c := co24) ?_).2.2; exact (by (with_reducible repeat (first | apply Kd.R_alloc | apply Kd.R_drewN | apply Kd.R_drew)); exact (Kd.R_mono (Kd.R_far (p := ⟨gb178, 6, none⟩) (Kd.R_far (p := ⟨gb178, 5, none⟩) (Kd.R_far (p := ⟨gb178, 4, none⟩) (Kd.R_far (p := ⟨gb178, 3, none⟩) (Kd.R_far (p := ⟨gb178, 2, none⟩) (Kd.R_far (p := ⟨gb178, 1, none⟩) (Kd.R_far (p := ⟨gb178, 0, none⟩) (Kd.R_types HO160.out BK178.out (by decide)) (fun _ hk => hk.2) (.int .i64 t165)) (fun _ hk => hk.2) (.int .i64 t166)) (fun _ hk => hk.2) (.int .i64 t167)) (fun _ hk => hk.2) (.string t168)) (fun _ hk => hk.2) (.slice Ao38 t169.length co38)) (fun _ hk => hk.2) (.slice Ao39 t172.length co39)) (fun _ hk => hk.2) (.slice Ao40 t175.length co40)) (fun _ h_ => h_.1)))); (case side4 => exact (Kd.R_reads' HO160.out).2.1); (case side5 => refine (Kd.R_reads' (e := 3) (base := w.heap.size) (ok := fun k_ => (some k_ ≠ (.slice Ao39 t172.length co39 : Value).ownBlock ∧ some k_ ≠ (.slice Ao40 t175.length co40 : Value).ownBlock)) (n := t169.length) (c := co38) ?_).2.2; exact (by (with_reducible repeat (first | apply Kd.R_alloc | apply Kd.R_drewN | apply Kd.R_drew)); exact (Kd.R_mono (Kd.R_far (p := ⟨gb178, 6, none⟩) (Kd.R_far (p := ⟨gb178, 5, none⟩) (Kd.R_far (p := ⟨gb178, 4, none⟩) (Kd.R_far (p := ⟨gb178, 3, none⟩) (Kd.R_far (p := ⟨gb178, 2, none⟩) (Kd.R_far (p := ⟨gb178, 1, none⟩) (Kd.R_far (p := ⟨gb178, 0, none⟩) (Kd.R_types HO171.out BK178.out (by decide)) (fun _ hk => hk.2) (.int .i64 t165)) (fun _ hk => hk.2) (.int .i64 t166)) (fun _ hk => hk.2) (.int .i64 t167)) (fun _ hk => hk.2) (.string t168)) (fun _ hk => hk.2) (.slice Ao38 t169.length co38)) (fun _ hk => hk.2) (.slice Ao39 t172.length co39)) (fun _ hk => hk.2) (.slice Ao40 t175.length co40)) (fun _ h_ => h_.1)))); (case side6 => exact (Kd.R_reads' HO171.out).2.1); (case side7 => refine (Kd.R_reads' (e := 3) (base := w.heap.size) (ok := fun k_ => (some k_ ≠ (.slice Ao38 t169.length co38 : Value).ownBlock ∧ some k_ ≠ (.slice Ao40 t175.length co40 : Value).ownBlock)) (n := t172.length) (c := co39) ?_).2.2; exact (by (with_reducible repeat (first | apply Kd.R_alloc | apply Kd.R_drewN | apply Kd.R_drew)); exact (Kd.R_mono (Kd.R_far (p := ⟨gb178, 6, none⟩) (Kd.R_far (p := ⟨gb178, 5, none⟩) (Kd.R_far (p := ⟨gb178, 4, none⟩) (Kd.R_far (p := ⟨gb178, 3, none⟩) (Kd.R_far (p := ⟨gb178, 2, none⟩) (Kd.R_far (p := ⟨gb178, 1, none⟩) (Kd.R_far (p := ⟨gb178, 0, none⟩) (Kd.R_types HO174.out BK178.out (by decide)) (fun _ hk => hk.2) (.int .i64 t165)) (fun _ hk => hk.2) (.int .i64 t166)) (fun _ hk => hk.2) (.int .i64 t167)) (fun _ hk => hk.2) (.string t168)) (fun _ hk => hk.2) (.slice Ao38 t169.length co38)) (fun _ hk => hk.2) (.slice Ao39 t172.length co39)) (fun _ hk => hk.2) (.slice Ao40 t175.length co40)) (fun _ h_ => h_.1)))); (case side8 => exact (Kd.R_reads' HO174.out).2.1); (case side9 => refine (Kd.R_reads' (e := 3) (base := w.heap.size) (ok := fun k_ => (some k_ ≠ (.slice Ao38 t169.length co38 : Value).ownBlock ∧ some k_ ≠ (.slice Ao39 t172.length co39 : Value).ownBlock)) (n := t175.length) (c := co40) ?_).2.2; exact (by (with_reducible repeat (first | apply Kd.R_alloc | apply Kd.R_drewN | apply Kd.R_drew)); exact (Kd.R_mono (Kd.R_far (p := ⟨gb178, 6, none⟩) (Kd.R_far (p := ⟨gb178, 5, none⟩) (Kd.R_far (p := ⟨gb178, 4, none⟩) (Kd.R_far (p := ⟨gb178, 3, none⟩) (Kd.R_far (p := ⟨gb178, 2, none⟩) (Kd.R_far (p := ⟨gb178, 1, none⟩) (Kd.R_far (p := ⟨gb178, 0, none⟩) (Kd.R_types HO177.out BK178.out (by decide)) (fun _ hk => hk.2) (.int .i64 t165)) (fun _ hk => hk.2) (.int .i64 t166)) (fun _ hk => hk.2) (.int .i64 t167)) (fun _ hk => hk.2) (.string t168)) (fun _ hk => hk.2) (.slice Ao38 t169.length co38)) (fun _ hk => hk.2) (.slice Ao39 t172.length co39)) (fun _ hk => hk.2) (.slice Ao40 t175.length co40)) (fun _ h_ => h_.1)))); (case side10 => exact (Kd.R_reads' HO177.out).2.1); rintro e w42 ⟨v184, v187, v190, rfl, ho0, ho1, ho2, hb⟩; refine ⟨_, rfl, ?_⟩; have n0_ := Aside0.mk (Kd.R_below (by (with_reducible repeat (first | apply Kd.R_alloc | apply Kd.R_drewN | apply Kd.R_drew)); exact (Kd.R_mono (Kd.R_far (p := ⟨gb178, 6, none⟩) (Kd.R_far (p := ⟨gb178, 5, none⟩) (Kd.R_far (p := ⟨gb178, 4, none⟩) (Kd.R_far (p := ⟨gb178, 3, none⟩) (Kd.R_far (p := ⟨gb178, 2, none⟩) (Kd.R_far (p := ⟨gb178, 1, none⟩) (Kd.R_far (p := ⟨gb178, 0, none⟩) (Kd.R_types HO157.out BK178.out (by decide)) (fun _ hk => hk.2) (.int .i64 t165)) (fun _ hk => hk.2) (.int .i64 t166)) (fun _ hk => hk.2) (.int .i64 t167)) (fun _ hk => hk.2) (.string t168)) (fun _ hk => hk.2) (.slice Ao38 t169.length co38)) (fun _ hk => hk.2) (.slice Ao39 t172.length co39)) (fun _ hk => hk.2) (.slice Ao40 t175.length co40)) (fun _ h_ => h_.1))) hb); have n1_ := Aside0.mk (Kd.R_below (by (with_reducible repeat (first | apply Kd.R_alloc | apply Kd.R_drewN | apply Kd.R_drew)); exact (Kd.R_mono (Kd.R_far (p := ⟨gb178, 6, none⟩) (Kd.R_far (p := ⟨gb178, 5, none⟩) (Kd.R_far (p := ⟨gb178, 4, none⟩) (Kd.R_far (p := ⟨gb178, 3, none⟩) (Kd.R_far (p := ⟨gb178, 2, none⟩) (Kd.R_far (p := ⟨gb178, 1, none⟩) (Kd.R_far (p := ⟨gb178, 0, none⟩) (Kd.R_types HO160.out BK178.out (by decide)) (fun _ hk => hk.2) (.int .i64 t165)) (fun _ hk => hk.2) (.int .i64 t166)) (fun _ hk => hk.2) (.int .i64 t167)) (fun _ hk => hk.2) (.string t168)) (fun _ hk => hk.2) (.slice Ao38 t169.length co38)) (fun _ hk => hk.2) (.slice Ao39 t172.length co39)) (fun _ hk => hk.2) (.slice Ao40 t175.length co40)) (fun _ h_ => h_.1))) hb); have n2_ := Aside0.mk (Kd.R_below (by (with_reducible repeat (first | apply Kd.R_alloc | apply Kd.R_drewN | apply Kd.R_drew)); exact (Kd.R_mono (Kd.R_far (p := ⟨gb178, 6, none⟩) (Kd.R_far (p := ⟨gb178, 5, none⟩) (Kd.R_far (p := ⟨gb178, 4, none⟩) (Kd.R_far (p := ⟨gb178, 3, none⟩) (Kd.R_far (p := ⟨gb178, 2, none⟩) (Kd.R_far (p := ⟨gb178, 1, none⟩) (Kd.R_far (p := ⟨gb178, 0, none⟩) (Kd.R_types HO164.out BK178.out (by decide)) (fun _ hk => hk.2) (.int .i64 t165)) (fun _ hk => hk.2) (.int .i64 t166)) (fun _ hk => hk.2) (.int .i64 t167)) (fun _ hk => hk.2) (.string t168)) (fun _ hk => hk.2) (.slice Ao38 t169.length co38)) (fun _ hk => hk.2) (.slice Ao39 t172.length co39)) (fun _ hk => hk.2) (.slice Ao40 t175.length co40)) (fun _ h_ => h_.1))) hb); have n3_ := Aside0.mk (Kd.R_mono (Kd.R_told (Kd.R_told (Kd.R_told (Kd.R_old (by (with_reducible repeat (first | apply Kd.R_alloc | apply Kd.R_drewN | apply Kd.R_drew)); exact (Kd.R_mono (Kd.R_far (p := ⟨gb178, 6, none⟩) (Kd.R_far (p := ⟨gb178, 5, none⟩) (Kd.R_far (p := ⟨gb178, 4, none⟩) (Kd.R_far (p := ⟨gb178, 3, none⟩) (Kd.R_far (p := ⟨gb178, 2, none⟩) (Kd.R_far (p := ⟨gb178, 1, none⟩) (Kd.R_far (p := ⟨gb178, 0, none⟩) (Kd.R_types HO171.out BK178.out (by decide)) (fun _ hk => hk.2) (.int .i64 t165)) (fun _ hk => hk.2) (.int .i64 t166)) (fun _ hk => hk.2) (.int .i64 t167)) (fun _ hk => hk.2) (.string t168)) (fun _ hk => hk.2) (.slice Ao38 t169.length co38)) (fun _ hk => hk.2) (.slice Ao39 t172.length co39)) (fun _ hk => hk.2) (.slice Ao40 t175.length co40)) (fun _ h_ => h_.1))) hb) (Kd.R_base ho0)) (Kd.R_base ho1)) (Kd.R_base ho2)) (fun _ h_ => h_.1)); have n4_ := Aside0.mk (Kd.R_mono (Kd.R_told (Kd.R_told (Kd.R_told (Kd.R_old (by (with_reducible repeat (first | apply Kd.R_alloc | apply Kd.R_drewN | apply Kd.R_drew)); exact (Kd.R_mono (Kd.R_far (p := ⟨gb178, 6, none⟩) (Kd.R_far (p := ⟨gb178, 5, none⟩) (Kd.R_far (p := ⟨gb178, 4, none⟩) (Kd.R_far (p := ⟨gb178, 3, none⟩) (Kd.R_far (p := ⟨gb178, 2, none⟩) (Kd.R_far (p := ⟨gb178, 1, none⟩) (Kd.R_far (p := ⟨gb178, 0, none⟩) (Kd.R_types HO174.out BK178.out (by decide)) (fun _ hk => hk.2) (.int .i64 t165)) (fun _ hk => hk.2) (.int .i64 t166)) (fun _ hk => hk.2) (.int .i64 t167)) (fun _ hk => hk.2) (.string t168)) (fun _ hk => hk.2) (.slice Ao38 t169.length co38)) (fun _ hk => hk.2) (.slice Ao39 t172.length co39)) (fun _ hk => hk.2) (.slice Ao40 t175.length co40)) (fun _ h_ => h_.1))) hb) (Kd.R_base ho0)) (Kd.R_base ho1)) (Kd.R_base ho2)) (fun _ h_ => h_.1)); have n5_ := Aside0.mk (Kd.R_mono (Kd.R_told (Kd.R_told (Kd.R_told (Kd.R_old (by (with_reducible repeat (first | apply Kd.R_alloc | apply Kd.R_drewN | apply Kd.R_drew)); exact (Kd.R_mono (Kd.R_far (p := ⟨gb178, 6, none⟩) (Kd.R_far (p := ⟨gb178, 5, none⟩) (Kd.R_far (p := ⟨gb178, 4, none⟩) (Kd.R_far (p := ⟨gb178, 3, none⟩) (Kd.R_far (p := ⟨gb178, 2, none⟩) (Kd.R_far (p := ⟨gb178, 1, none⟩) (Kd.R_far (p := ⟨gb178, 0, none⟩) (Kd.R_types HO177.out BK178.out (by decide)) (fun _ hk => hk.2) (.int .i64 t165)) (fun _ hk => hk.2) (.int .i64 t166)) (fun _ hk => hk.2) (.int .i64 t167)) (fun _ hk => hk.2) (.string t168)) (fun _ hk => hk.2) (.slice Ao38 t169.length co38)) (fun _ hk => hk.2) (.slice Ao39 t172.length co39)) (fun _ hk => hk.2) (.slice Ao40 t175.length co40)) (fun _ h_ => h_.1))) hb) (Kd.R_base ho0)) (Kd.R_base ho1)) (Kd.R_base ho2)) (fun _ h_ => h_.1)); have n6_ := Aside0.mk (Kd.R_lower (Kd.R_new' (Kd.R_new' (Kd.R_new' ho0 (Kd.R_lt (by (with_reducible repeat (first | apply Kd.R_alloc | apply Kd.R_drewN | apply Kd.R_drew)); exact (Kd.R_mono (Kd.R_far (p := ⟨gb178, 6, none⟩) (Kd.R_far (p := ⟨gb178, 5, none⟩) (Kd.R_far (p := ⟨gb178, 4, none⟩) (Kd.R_far (p := ⟨gb178, 3, none⟩) (Kd.R_far (p := ⟨gb178, 2, none⟩) (Kd.R_far (p := ⟨gb178, 1, none⟩) (Kd.R_far (p := ⟨gb178, 0, none⟩) (Kd.R_types HO171.out BK178.out (by decide)) (fun _ hk => hk.2) (.int .i64 t165)) (fun _ hk => hk.2) (.int .i64 t166)) (fun _ hk => hk.2) (.int .i64 t167)) (fun _ hk => hk.2) (.string t168)) (fun _ hk => hk.2) (.slice Ao38 t169.length co38)) (fun _ hk => hk.2) (.slice Ao39 t172.length co39)) (fun _ hk => hk.2) (.slice Ao40 t175.length co40)) (fun _ h_ => h_.1))))) (Kd.R_lt (by (with_reducible repeat (first | apply Kd.R_alloc | apply Kd.R_drewN | apply Kd.R_drew)); exact (Kd.R_mono (Kd.R_far (p := ⟨gb178, 6, none⟩) (Kd.R_far (p := ⟨gb178, 5, none⟩) (Kd.R_far (p := ⟨gb178, 4, none⟩) (Kd.R_far (p := ⟨gb178, 3, none⟩) (Kd.R_far (p := ⟨gb178, 2, none⟩) (Kd.R_far (p := ⟨gb178, 1, none⟩) (Kd.R_far (p := ⟨gb178, 0, none⟩) (Kd.R_types HO174.out BK178.out (by decide)) (fun _ hk => hk.2) (.int .i64 t165)) (fun _ hk => hk.2) (.int .i64 t166)) (fun _ hk => hk.2) (.int .i64 t167)) (fun _ hk => hk.2) (.string t168)) (fun _ hk => hk.2) (.slice Ao38 t169.length co38)) (fun _ hk => hk.2) (.slice Ao39 t172.length co39)) (fun _ hk => hk.2) (.slice Ao40 t175.length co40)) (fun _ h_ => h_.1))))) (Kd.R_lt (by (with_reducible repeat (first | apply Kd.R_alloc | apply Kd.R_drewN | apply Kd.R_drew)); exact (Kd.R_mono (Kd.R_far (p := ⟨gb178, 6, none⟩) (Kd.R_far (p := ⟨gb178, 5, none⟩) (Kd.R_far (p := ⟨gb178, 4, none⟩) (Kd.R_far (p := ⟨gb178, 3, none⟩) (Kd.R_far (p := ⟨gb178, 2, none⟩) (Kd.R_far (p := ⟨gb178, 1, none⟩) (Kd.R_far (p := ⟨gb178, 0, none⟩) (Kd.R_types HO177.out BK178.out (by decide)) (fun _ hk => hk.2) (.int .i64 t165)) (fun _ hk => hk.2) (.int .i64 t166)) (fun _ hk => hk.2) (.int .i64 t167)) (fun _ hk => hk.2) (.string t168)) (fun _ hk => hk.2) (.slice Ao38 t169.length co38)) (fun _ hk => hk.2) (.slice Ao39 t172.length co39)) (fun _ hk => hk.2) (.slice Ao40 t175.length co40)) (fun _ h_ => h_.1))))) bz_); have n7_ := Aside0.mk (Kd.R_lower (Kd.R_new' (Kd.R_new' (Kd.R_new' ho1 (Kd.R_lt (by (with_reducible repeat (first | apply Kd.R_alloc | apply Kd.R_drewN | apply Kd.R_drew)); exact (Kd.R_mono (Kd.R_far (p := ⟨gb178, 6, none⟩) (Kd.R_far (p := ⟨gb178, 5, none⟩) (Kd.R_far (p := ⟨gb178, 4, none⟩) (Kd.R_far (p := ⟨gb178, 3, none⟩) (Kd.R_far (p := ⟨gb178, 2, none⟩) (Kd.R_far (p := ⟨gb178, 1, none⟩) (Kd.R_far (p := ⟨gb178, 0, none⟩) (Kd.R_types HO171.out BK178.out (by decide)) (fun _ hk => hk.2) (.int .i64 t165)) (fun _ hk => hk.2) (.int .i64 t166)) (fun _ hk => hk.2) (.int .i64 t167)) (fun _ hk => hk.2) (.string t168)) (fun _ hk => hk.2) (.slice Ao38 t169.length co38)) (fun _ hk => hk.2) (.slice Ao39 t172.length co39)) (fun _ hk => hk.2) (.slice Ao40 t175.length co40)) (fun _ h_ => h_.1))))) (Kd.R_lt (by (with_reducible repeat (first | apply Kd.R_alloc | apply Kd.R_drewN | apply Kd.R_drew)); exact (Kd.R_mono (Kd.R_far (p := ⟨gb178, 6, none⟩) (Kd.R_far (p := ⟨gb178, 5, none⟩) (Kd.R_far (p := ⟨gb178, 4, none⟩) (Kd.R_far (p := ⟨gb178, 3, none⟩) (Kd.R_far (p := ⟨gb178, 2, none⟩) (Kd.R_far (p := ⟨gb178, 1, none⟩) (Kd.R_far (p := ⟨gb178, 0, none⟩) (Kd.R_types HO174.out BK178.out (by decide)) (fun _ hk => hk.2) (.int .i64 t165)) (fun _ hk => hk.2) (.int .i64 t166)) (fun _ hk => hk.2) (.int .i64 t167)) (fun _ hk => hk.2) (.string t168)) (fun _ hk => hk.2) (.slice Ao38 t169.length co38)) (fun _ hk => hk.2) (.slice Ao39 t172.length co39)) (fun _ hk => hk.2) (.slice Ao40 t175.length co40)) (fun _ h_ => h_.1))))) (Kd.R_lt (by (with_reducible repeat (first | apply Kd.R_alloc | apply Kd.R_drewN | apply Kd.R_drew)); exact (Kd.R_mono (Kd.R_far (p := ⟨gb178, 6, none⟩) (Kd.R_far (p := ⟨gb178, 5, none⟩) (Kd.R_far (p := ⟨gb178, 4, none⟩) (Kd.R_far (p := ⟨gb178, 3, none⟩) (Kd.R_far (p := ⟨gb178, 2, none⟩) (Kd.R_far (p := ⟨gb178, 1, none⟩) (Kd.R_far (p := ⟨gb178, 0, none⟩) (Kd.R_types HO177.out BK178.out (by decide)) (fun _ hk => hk.2) (.int .i64 t165)) (fun _ hk => hk.2) (.int .i64 t166)) (fun _ hk => hk.2) (.int .i64 t167)) (fun _ hk => hk.2) (.string t168)) (fun _ hk => hk.2) (.slice Ao38 t169.length co38)) (fun _ hk => hk.2) (.slice Ao39 t172.length co39)) (fun _ hk => hk.2) (.slice Ao40 t175.length co40)) (fun _ h_ => h_.1))))) bz_); have n8_ := Aside0.mk (Kd.R_lower (Kd.R_new' (Kd.R_new' (Kd.R_new' ho2 (Kd.R_lt (by (with_reducible repeat (first | apply Kd.R_alloc | apply Kd.R_drewN | apply Kd.R_drew)); exact (Kd.R_mono (Kd.R_far (p := ⟨gb178, 6, none⟩) (Kd.R_far (p := ⟨gb178, 5, none⟩) (Kd.R_far (p := ⟨gb178, 4, none⟩) (Kd.R_far (p := ⟨gb178, 3, none⟩) (Kd.R_far (p := ⟨gb178, 2, none⟩) (Kd.R_far (p := ⟨gb178, 1, none⟩) (Kd.R_far (p := ⟨gb178, 0, none⟩) (Kd.R_types HO171.out BK178.out (by decide)) (fun _ hk => hk.2) (.int .i64 t165)) (fun _ hk => hk.2) (.int .i64 t166)) (fun _ hk => hk.2) (.int .i64 t167)) (fun _ hk => hk.2) (.string t168)) (fun _ hk => hk.2) (.slice Ao38 t169.length co38)) (fun _ hk => hk.2) (.slice Ao39 t172.length co39)) (fun _ hk => hk.2) (.slice Ao40 t175.length co40)) (fun _ h_ => h_.1))))) (Kd.R_lt (by (with_reducible repeat (first | apply Kd.R_alloc | apply Kd.R_drewN | apply Kd.R_drew)); exact (Kd.R_mono (Kd.R_far (p := ⟨gb178, 6, none⟩) (Kd.R_far (p := ⟨gb178, 5, none⟩) (Kd.R_far (p := ⟨gb178, 4, none⟩) (Kd.R_far (p := ⟨gb178, 3, none⟩) (Kd.R_far (p := ⟨gb178, 2, none⟩) (Kd.R_far (p := ⟨gb178, 1, none⟩) (Kd.R_far (p := ⟨gb178, 0, none⟩) (Kd.R_types HO174.out BK178.out (by decide)) (fun _ hk => hk.2) (.int .i64 t165)) (fun _ hk => hk.2) (.int .i64 t166)) (fun _ hk => hk.2) (.int .i64 t167)) (fun _ hk => hk.2) (.string t168)) (fun _ hk => hk.2) (.slice Ao38 t169.length co38)) (fun _ hk => hk.2) (.slice Ao39 t172.length co39)) (fun _ hk => hk.2) (.slice Ao40 t175.length co40)) (fun _ h_ => h_.1))))) (Kd.R_lt (by (with_reducible repeat (first | apply Kd.R_alloc | apply Kd.R_drewN | apply Kd.R_drew)); exact (Kd.R_mono (Kd.R_far (p := ⟨gb178, 6, none⟩) (Kd.R_far (p := ⟨gb178, 5, none⟩) (Kd.R_far (p := ⟨gb178, 4, none⟩) (Kd.R_far (p := ⟨gb178, 3, none⟩) (Kd.R_far (p := ⟨gb178, 2, none⟩) (Kd.R_far (p := ⟨gb178, 1, none⟩) (Kd.R_far (p := ⟨gb178, 0, none⟩) (Kd.R_types HO177.out BK178.out (by decide)) (fun _ hk => hk.2) (.int .i64 t165)) (fun _ hk => hk.2) (.int .i64 t166)) (fun _ hk => hk.2) (.int .i64 t167)) (fun _ hk => hk.2) (.string t168)) (fun _ hk => hk.2) (.slice Ao38 t169.length co38)) (fun _ hk => hk.2) (.slice Ao39 t172.length co39)) (fun _ hk => hk.2) (.slice Ao40 t175.length co40)) (fun _ h_ => h_.1))))) bz_); have n9_ := Aside0.mk (blk_below (g := gb154) (o := .cells #[.int .i64 1, .int .i64 1, .int .i64 1, .int .i64 0, .int .i64 0, .int .i64 0] 64 (0, 0)) (by refine bp_ ?_; refine blk_far ?_ NB154_178.out _; refine bp_ ?_; refine blk_far ?_ NB154_178.out _; refine bp_ ?_; refine blk_far ?_ NB154_178.out _; refine bp_ ?_; refine blk_far ?_ NB154_178.out _; refine bp_ ?_; refine blk_far ?_ NB154_178.out _; refine bp_ ?_; refine blk_far ?_ NB154_178.out _; refine bp_ ?_; refine blk_far ?_ NB154_178.out _; exact bk_ BK154.out) hb); have n10_ := Aside0.mk (blk_below (g := gb161) (o := .cells #[.int .i64 2, .slice Ao25 y155.length co25, .slice Ao24 y158.length co24] 36 (0, 0)) (by refine bp_ ?_; refine blk_far ?_ NB161_178.out _; refine bp_ ?_; refine blk_far ?_ NB161_178.out _; refine bp_ ?_; refine blk_far ?_ NB161_178.out _; refine bp_ ?_; refine blk_far ?_ NB161_178.out _; refine bp_ ?_; refine blk_far ?_ NB161_178.out _; refine bp_ ?_; refine blk_far ?_ NB161_178.out _; refine bp_ ?_; refine blk_far ?_ NB161_178.out _; exact bk_ BK161.out) hb); have n11_ := Aside0.mk (blk_below (g := gb178) (o := .cells #[.int .i64 t165, .int .i64 t166, .int .i64 t167, .string t168, .slice Ao38 t169.length co38, .slice Ao39 t172.length co39, .slice Ao40 t175.length co40] 42 (0, 0)) (by refine bp_ ?_; refine blk_put (cs := #[.int .i64 t165, .int .i64 t166, .int .i64 t167, .string t168, .slice Ao38 t169.length co38, .slice Ao39 t172.length co39, .slice none 0 0]) ?_ 6 _ rfl; refine bp_ ?_; refine blk_put (cs := #[.int .i64 t165, .int .i64 t166, .int .i64 t167, .string t168, .slice Ao38 t169.length co38, .slice none 0 0, .slice none 0 0]) ?_ 5 _ rfl; refine bp_ ?_; refine blk_put (cs := #[.int .i64 t165, .int .i64 t166, .int .i64 t167, .string t168, .slice none 0 0, .slice none 0 0, .slice none 0 0]) ?_ 4 _ rfl; refine bp_ ?_; refine blk_put (cs := #[.int .i64 t165, .int .i64 t166, .int .i64 t167, .string (⟨#[]⟩ : ByteArray), .slice none 0 0, .slice none 0 0, .slice none 0 0]) ?_ 3 _ rfl; refine bp_ ?_; refine blk_put (cs := #[.int .i64 t165, .int .i64 t166, .int .i64 0, .string (⟨#[]⟩ : ByteArray), .slice none 0 0, .slice none 0 0, .slice none 0 0]) ?_ 2 _ rfl; refine bp_ ?_; refine blk_put (cs := #[.int .i64 t165, .int .i64 0, .int .i64 0, .string (⟨#[]⟩ : ByteArray), .slice none 0 0, .slice none 0 0, .slice none 0 0]) ?_ 1 _ rfl; refine bp_ ?_; refine blk_put (cs := #[.int .i64 0, .int .i64 0, .int .i64 0, .string (⟨#[]⟩ : ByteArray), .slice none 0 0, .slice none 0 0, .slice none 0 0]) ?_ 0 _ rfl; exact bk_ BK178.out) hb); have n12_ := bt_ hb; clear HO157; clear HO160; clear HO164; clear HO171; clear HO174; clear HO177; clear BK154; clear BK161; clear BK178; clear HB; have HO157 := n0_; have HO160 := n1_; have HO164 := n2_; have HO171 := n3_; have HO174 := n4_; have HO177 := n5_; have HO185 := n6_; have HO188 := n7_; have HO191 := n8_; have BK154 := n9_; have BK161 := n10_; have BK178 := n11_; have HB := n12_; clear n0_ n1_ n2_ n3_ n4_ n5_ n6_ n7_ n8_ n9_ n10_ n11_ n12_; (try clear hb); (try clear hb2); (try clear hk); (try clear hi); (try clear ho0); (try clear ho1); (try clear ho2)) | ((with_reducible refine gate_dst (N := 5) rfl ?_); (try (refine gate_guard (by rfl) ?_; dsimp only)); refine box_event ?hg (N := 5) ?hd (cs := #[.int .i64 0, .int .i64 0, .int .i64 0, .string (⟨#[]⟩ : ByteArray), .slice none 0 0, .slice none 0 0, .slice none 0 0]) (t := 42) ?hr ?_; (case hd => rfl); (case hg => rfl); (case hr => first | (go_simp; done) | (go_simp; rfl)); intro gb192 hg w43 hbox hb; have n0_ := Aside0.mk (Kd.R_below (rk_ HO157.out) hb); have n1_ := Aside0.mk (Kd.R_below (rk_ HO160.out) hb); have n2_ := Aside0.mk (Kd.R_below (rk_ HO164.out) hb); have n3_ := Aside0.mk (Kd.R_below (rk_ HO171.out) hb); have n4_ := Aside0.mk (Kd.R_below (rk_ HO174.out) hb); have n5_ := Aside0.mk (Kd.R_below (rk_ HO177.out) hb); have n6_ := Aside0.mk (Kd.R_below (rk_ HO185.out) hb); have n7_ := Aside0.mk (Kd.R_below (rk_ HO188.out) hb); have n8_ := Aside0.mk (Kd.R_below (rk_ HO191.out) hb); have n9_ := Aside0.mk (blk_below (g := gb154) (o := .cells #[.int .i64 1, .int .i64 1, .int .i64 1, .int .i64 0, .int .i64 0, .int .i64 0] 64 (0, 0)) (bk_ BK154.out) hb); have n10_ := Aside0.mk (blk_below (g := gb161) (o := .cells #[.int .i64 2, .slice Ao25 y155.length co25, .slice Ao24 y158.length co24] 36 (0, 0)) (bk_ BK161.out) hb); have n11_ := Aside0.mk (blk_below (g := gb178) (o := .cells #[.int .i64 t165, .int .i64 t166, .int .i64 t167, .string t168, .slice Ao38 t169.length co38, .slice Ao39 t172.length co39, .slice Ao40 t175.length co40] 42 (0, 0)) (bk_ BK178.out) hb); have n12_ := bt_ hb; have n13_ := Aside0.mk (hbox); have n14_ := Aside0.mk ((by rw [hg]; exact bz_ : w.heap.size ≤ gb192)); have n15_ := Aside0.mk ((by rw [hg]; exact bz_ : w.heap.size ≤ gb192)); have n16_ := Aside0.mk ((by rw [hg]; exact Nat.ne_of_lt (blk_lt (g := gb154) (o := .cells #[.int .i64 1, .int .i64 1, .int .i64 1, .int .i64 0, .int .i64 0, .int .i64 0] 64 (0, 0)) (bk_ BK154.out)) : gb154 ≠ gb192)); have n17_ := Aside0.mk ((by rw [hg]; exact Nat.ne_of_gt (blk_lt (g := gb154) (o := .cells #[.int .i64 1, .int .i64 1, .int .i64 1, .int .i64 0, .int .i64 0, .int .i64 0] 64 (0, 0)) (bk_ BK154.out)) : gb192 ≠ gb154)); have n18_ := Aside0.mk ((by rw [hg]; exact Nat.ne_of_lt (blk_lt (g := gb161) (o := .cells #[.int .i64 2, .slice Ao25 y155.length co25, .slice Ao24 y158.length co24] 36 (0, 0)) (bk_ BK161.out)) : gb161 ≠ gb192)); have n19_ := Aside0.mk ((by rw [hg]; exact Nat.ne_of_gt (blk_lt (g := gb161) (o := .cells #[.int .i64 2, .slice Ao25 y155.length co25, .slice Ao24 y158.length co24] 36 (0, 0)) (bk_ BK161.out)) : gb192 ≠ gb161)); have n20_ := Aside0.mk ((by rw [hg]; exact Nat.ne_of_lt (blk_lt (g := gb178) (o := .cells #[.int .i64 t165, .int .i64 t166, .int .i64 t167, .string t168, .slice Ao38 t169.length co38, .slice Ao39 t172.length co39, .slice Ao40 t175.length co40] 42 (0, 0)) (bk_ BK178.out)) : gb178 ≠ gb192)); have n21_ := Aside0.mk ((by rw [hg]; exact Nat.ne_of_gt (blk_lt (g := gb178) (o := .cells #[.int .i64 t165, .int .i64 t166, .int .i64 t167, .string t168, .slice Ao38 t169.length co38, .slice Ao39 t172.length co39, .slice Ao40 t175.length co40] 42 (0, 0)) (bk_ BK178.out)) : gb192 ≠ gb178)); clear HO157; clear HO160; clear HO164; clear HO171; clear HO174; clear HO177; clear HO185; clear HO188; clear HO191; clear BK154; clear BK161; clear BK178; clear HB; have HO157 := n0_; have HO160 := n1_; have HO164 := n2_; have HO171 := n3_; have HO174 := n4_; have HO177 := n5_; have HO185 := n6_; have HO188 := n7_; have HO191 := n8_; have BK154 := n9_; have BK161 := n10_; have BK178 := n11_; have HB := n12_; have BK192 := n13_; have GW192 := n14_; have GE192 := n15_; have NB154_192 := n16_; have NB192_154 := n17_; have NB161_192 := n18_; have NB192_161 := n19_; have NB178_192 := n20_; have NB192_178 := n21_; clear n0_ n1_ n2_ n3_ n4_ n5_ n6_ n7_ n8_ n9_ n10_ n11_ n12_ n13_ n14_ n15_ n16_ n17_ n18_ n19_ n20_ n21_; clear hb hbox hg; have hnb44 := NB192_154.out; have hnc44 := NB154_192.out; have hnb45 := NB192_161.out; have hnc45 := NB161_192.out; have hnb46 := NB192_178.out; have hnc46 := NB178_192.out; obtain ⟨hcz47_0, hcz47_1, hcz47_2, hcz47_3, hcz47_4, hcz47_5, hcz47_6⟩ := cz7_ BK192.out; obtain ⟨hfz47_0, hfz47_1, hfz47_2, hfz47_3, hfz47_4, hfz47_5, hfz47_6⟩ := fz7_ BK192.out; obtain ⟨Ao48, co48, eo48⟩ := Kd.R_slice HO185.out; subst eo48; obtain ⟨Ao49, co49, eo49⟩ := Kd.R_slice HO188.out; subst eo49; obtain ⟨Ao50, co50, eo50⟩ := Kd.R_slice HO191.out; subst eo50))
 have n0_ : Aside0 (Kd.R k66 66 (((((((w43.setCell ⟨gb192, 0, none⟩ (.int .i64 t179)).setCell ⟨gb192, 1, none⟩ (.int .i64 t180)).setCell ⟨gb192, 2, none⟩ (.int .i64 t181)).setCell ⟨gb192, 3, none⟩ (.string t182)).setCell ⟨gb192, 4, none⟩ (.slice Ao48 t183.length co48)).setCell ⟨gb192, 5, none⟩ (.slice Ao49 t186.length co49)).setCell ⟨gb192, 6, none⟩ (.slice Ao50 t189.length co50)) w.heap.size (fun _ => True) (.slice Ao25 y155.length co25) y155) := ⟨by (with_reducible repeat (first | apply Kd.R_alloc | apply Kd.R_drewN | apply Kd.R_drew)); exact Kd.R_mono (Kd.R_far (p := ⟨gb192, 6, none⟩) (Kd.R_far (p := ⟨gb192, 5, none⟩) (Kd.R_far (p := ⟨gb192, 4, none⟩) (Kd.R_far (p := ⟨gb192, 3, none⟩) (Kd.R_far (p := ⟨gb192, 2, none⟩) (Kd.R_far (p := ⟨gb192, 1, none⟩) (Kd.R_far (p := ⟨gb192, 0, none⟩) (Kd.R_types HO157.out BK192.out (by decide)) (fun _ hk => hk.2) (.int .i64 t179)) (fun _ hk => hk.2) (.int .i64 t180)) (fun _ hk => hk.2) (.int .i64 t181)) (fun _ hk => hk.2) (.string t182)) (fun _ hk => hk.2) (.slice Ao48 t183.length co48)) (fun _ hk => hk.2) (.slice Ao49 t186.length co49)) (fun _ hk => hk.2) (.slice Ao50 t189.length co50)) (fun _ hk => trivial)⟩
 have n1_ : Aside0 (Kd.R k68 68 (((((((w43.setCell ⟨gb192, 0, none⟩ (.int .i64 t179)).setCell ⟨gb192, 1, none⟩ (.int .i64 t180)).setCell ⟨gb192, 2, none⟩ (.int .i64 t181)).setCell ⟨gb192, 3, none⟩ (.string t182)).setCell ⟨gb192, 4, none⟩ (.slice Ao48 t183.length co48)).setCell ⟨gb192, 5, none⟩ (.slice Ao49 t186.length co49)).setCell ⟨gb192, 6, none⟩ (.slice Ao50 t189.length co50)) w.heap.size (fun _ => True) (.slice Ao24 y158.length co24) y158) := ⟨by (with_reducible repeat (first | apply Kd.R_alloc | apply Kd.R_drewN | apply Kd.R_drew)); exact Kd.R_mono (Kd.R_far (p := ⟨gb192, 6, none⟩) (Kd.R_far (p := ⟨gb192, 5, none⟩) (Kd.R_far (p := ⟨gb192, 4, none⟩) (Kd.R_far (p := ⟨gb192, 3, none⟩) (Kd.R_far (p := ⟨gb192, 2, none⟩) (Kd.R_far (p := ⟨gb192, 1, none⟩) (Kd.R_far (p := ⟨gb192, 0, none⟩) (Kd.R_types HO160.out BK192.out (by decide)) (fun _ hk => hk.2) (.int .i64 t179)) (fun _ hk => hk.2) (.int .i64 t180)) (fun _ hk => hk.2) (.int .i64 t181)) (fun _ hk => hk.2) (.string t182)) (fun _ hk => hk.2) (.slice Ao48 t183.length co48)) (fun _ hk => hk.2) (.slice Ao49 t186.length co49)) (fun _ hk => hk.2) (.slice Ao50 t189.length co50)) (fun _ hk => trivial)⟩
 have n2_ : Aside0 (Kd.R k28 28 (((((((w43.setCell ⟨gb192, 0, none⟩ (.int .i64 t179)).setCell ⟨gb192, 1, none⟩ (.int .i64 t180)).setCell ⟨gb192, 2, none⟩ (.int .i64 t181)).setCell ⟨gb192, 3, none⟩ (.string t182)).setCell ⟨gb192, 4, none⟩ (.slice Ao48 t183.length co48)).setCell ⟨gb192, 5, none⟩ (.slice Ao49 t186.length co49)).setCell ⟨gb192, 6, none⟩ (.slice Ao50 t189.length co50)) w.heap.size (fun _ => True) (.slice Ao32 y162.length co32) y162) := ⟨by (with_reducible repeat (first | apply Kd.R_alloc | apply Kd.R_drewN | apply Kd.R_drew)); exact Kd.R_mono (Kd.R_far (p := ⟨gb192, 6, none⟩) (Kd.R_far (p := ⟨gb192, 5, none⟩) (Kd.R_far (p := ⟨gb192, 4, none⟩) (Kd.R_far (p := ⟨gb192, 3, none⟩) (Kd.R_far (p := ⟨gb192, 2, none⟩) (Kd.R_far (p := ⟨gb192, 1, none⟩) (Kd.R_far (p := ⟨gb192, 0, none⟩) (Kd.R_types HO164.out BK192.out (by decide)) (fun _ hk => hk.2) (.int .i64 t179)) (fun _ hk => hk.2) (.int .i64 t180)) (fun _ hk => hk.2) (.int .i64 t181)) (fun _ hk => hk.2) (.string t182)) (fun _ hk => hk.2) (.slice Ao48 t183.length co48)) (fun _ hk => hk.2) (.slice Ao49 t186.length co49)) (fun _ hk => hk.2) (.slice Ao50 t189.length co50)) (fun _ hk => trivial)⟩
 have n3_ : Aside0 (Kd.R (Kd.int .i64) 3 (((((((w43.setCell ⟨gb192, 0, none⟩ (.int .i64 t179)).setCell ⟨gb192, 1, none⟩ (.int .i64 t180)).setCell ⟨gb192, 2, none⟩ (.int .i64 t181)).setCell ⟨gb192, 3, none⟩ (.string t182)).setCell ⟨gb192, 4, none⟩ (.slice Ao48 t183.length co48)).setCell ⟨gb192, 5, none⟩ (.slice Ao49 t186.length co49)).setCell ⟨gb192, 6, none⟩ (.slice Ao50 t189.length co50)) w.heap.size (fun k_ => some k_ ≠ (.slice Ao39 t172.length co39 : Value).ownBlock ∧ some k_ ≠ (.slice Ao40 t175.length co40 : Value).ownBlock ∧ some k_ ≠ (.slice Ao48 t183.length co48 : Value).ownBlock ∧ some k_ ≠ (.slice Ao49 t186.length co49 : Value).ownBlock ∧ some k_ ≠ (.slice Ao50 t189.length co50 : Value).ownBlock) (.slice Ao38 t169.length co38) t169) := ⟨by (with_reducible repeat (first | apply Kd.R_alloc | apply Kd.R_drewN | apply Kd.R_drew)); exact Kd.R_mono (Kd.R_far (p := ⟨gb192, 6, none⟩) (Kd.R_far (p := ⟨gb192, 5, none⟩) (Kd.R_far (p := ⟨gb192, 4, none⟩) (Kd.R_far (p := ⟨gb192, 3, none⟩) (Kd.R_far (p := ⟨gb192, 2, none⟩) (Kd.R_far (p := ⟨gb192, 1, none⟩) (Kd.R_far (p := ⟨gb192, 0, none⟩) (Kd.R_types HO171.out BK192.out (by decide)) (fun _ hk => hk.2) (.int .i64 t179)) (fun _ hk => hk.2) (.int .i64 t180)) (fun _ hk => hk.2) (.int .i64 t181)) (fun _ hk => hk.2) (.string t182)) (fun _ hk => hk.2) (.slice Ao48 t183.length co48)) (fun _ hk => hk.2) (.slice Ao49 t186.length co49)) (fun _ hk => hk.2) (.slice Ao50 t189.length co50)) (fun _ hk => ⟨hk.1.1.1.1.1, ⟨hk.1.1.1.1.2, ⟨hk.1.1.1.2, ⟨hk.1.1.2, hk.1.2⟩⟩⟩⟩)⟩
 have n4_ : Aside0 (Kd.R (Kd.int .i64) 3 (((((((w43.setCell ⟨gb192, 0, none⟩ (.int .i64 t179)).setCell ⟨gb192, 1, none⟩ (.int .i64 t180)).setCell ⟨gb192, 2, none⟩ (.int .i64 t181)).setCell ⟨gb192, 3, none⟩ (.string t182)).setCell ⟨gb192, 4, none⟩ (.slice Ao48 t183.length co48)).setCell ⟨gb192, 5, none⟩ (.slice Ao49 t186.length co49)).setCell ⟨gb192, 6, none⟩ (.slice Ao50 t189.length co50)) w.heap.size (fun k_ => some k_ ≠ (.slice Ao38 t169.length co38 : Value).ownBlock ∧ some k_ ≠ (.slice Ao40 t175.length co40 : Value).ownBlock ∧ some k_ ≠ (.slice Ao48 t183.length co48 : Value).ownBlock ∧ some k_ ≠ (.slice Ao49 t186.length co49 : Value).ownBlock ∧ some k_ ≠ (.slice Ao50 t189.length co50 : Value).ownBlock) (.slice Ao39 t172.length co39) t172) := ⟨by (with_reducible repeat (first | apply Kd.R_alloc | apply Kd.R_drewN | apply Kd.R_drew)); exact Kd.R_mono (Kd.R_far (p := ⟨gb192, 6, none⟩) (Kd.R_far (p := ⟨gb192, 5, none⟩) (Kd.R_far (p := ⟨gb192, 4, none⟩) (Kd.R_far (p := ⟨gb192, 3, none⟩) (Kd.R_far (p := ⟨gb192, 2, none⟩) (Kd.R_far (p := ⟨gb192, 1, none⟩) (Kd.R_far (p := ⟨gb192, 0, none⟩) (Kd.R_types HO174.out BK192.out (by decide)) (fun _ hk => hk.2) (.int .i64 t179)) (fun _ hk => hk.2) (.int .i64 t180)) (fun _ hk => hk.2) (.int .i64 t181)) (fun _ hk => hk.2) (.string t182)) (fun _ hk => hk.2) (.slice Ao48 t183.length co48)) (fun _ hk => hk.2) (.slice Ao49 t186.length co49)) (fun _ hk => hk.2) (.slice Ao50 t189.length co50)) (fun _ hk => ⟨hk.1.1.1.1.1, ⟨hk.1.1.1.1.2, ⟨hk.1.1.1.2, ⟨hk.1.1.2, hk.1.2⟩⟩⟩⟩)⟩
 have n5_ : Aside0 (Kd.R (Kd.int .i64) 3 (((((((w43.setCell ⟨gb192, 0, none⟩ (.int .i64 t179)).setCell ⟨gb192, 1, none⟩ (.int .i64 t180)).setCell ⟨gb192, 2, none⟩ (.int .i64 t181)).setCell ⟨gb192, 3, none⟩ (.string t182)).setCell ⟨gb192, 4, none⟩ (.slice Ao48 t183.length co48)).setCell ⟨gb192, 5, none⟩ (.slice Ao49 t186.length co49)).setCell ⟨gb192, 6, none⟩ (.slice Ao50 t189.length co50)) w.heap.size (fun k_ => some k_ ≠ (.slice Ao38 t169.length co38 : Value).ownBlock ∧ some k_ ≠ (.slice Ao39 t172.length co39 : Value).ownBlock ∧ some k_ ≠ (.slice Ao48 t183.length co48 : Value).ownBlock ∧ some k_ ≠ (.slice Ao49 t186.length co49 : Value).ownBlock ∧ some k_ ≠ (.slice Ao50 t189.length co50 : Value).ownBlock) (.slice Ao40 t175.length co40) t175) := ⟨by (with_reducible repeat (first | apply Kd.R_alloc | apply Kd.R_drewN | apply Kd.R_drew)); exact Kd.R_mono (Kd.R_far (p := ⟨gb192, 6, none⟩) (Kd.R_far (p := ⟨gb192, 5, none⟩) (Kd.R_far (p := ⟨gb192, 4, none⟩) (Kd.R_far (p := ⟨gb192, 3, none⟩) (Kd.R_far (p := ⟨gb192, 2, none⟩) (Kd.R_far (p := ⟨gb192, 1, none⟩) (Kd.R_far (p := ⟨gb192, 0, none⟩) (Kd.R_types HO177.out BK192.out (by decide)) (fun _ hk => hk.2) (.int .i64 t179)) (fun _ hk => hk.2) (.int .i64 t180)) (fun _ hk => hk.2) (.int .i64 t181)) (fun _ hk => hk.2) (.string t182)) (fun _ hk => hk.2) (.slice Ao48 t183.length co48)) (fun _ hk => hk.2) (.slice Ao49 t186.length co49)) (fun _ hk => hk.2) (.slice Ao50 t189.length co50)) (fun _ hk => ⟨hk.1.1.1.1.1, ⟨hk.1.1.1.1.2, ⟨hk.1.1.1.2, ⟨hk.1.1.2, hk.1.2⟩⟩⟩⟩)⟩
 have n6_ : Aside0 (Kd.R (Kd.int .i64) 3 (((((((w43.setCell ⟨gb192, 0, none⟩ (.int .i64 t179)).setCell ⟨gb192, 1, none⟩ (.int .i64 t180)).setCell ⟨gb192, 2, none⟩ (.int .i64 t181)).setCell ⟨gb192, 3, none⟩ (.string t182)).setCell ⟨gb192, 4, none⟩ (.slice Ao48 t183.length co48)).setCell ⟨gb192, 5, none⟩ (.slice Ao49 t186.length co49)).setCell ⟨gb192, 6, none⟩ (.slice Ao50 t189.length co50)) w.heap.size (fun k_ => some k_ ≠ (.slice Ao38 t169.length co38 : Value).ownBlock ∧ some k_ ≠ (.slice Ao39 t172.length co39 : Value).ownBlock ∧ some k_ ≠ (.slice Ao40 t175.length co40 : Value).ownBlock ∧ some k_ ≠ (.slice Ao49 t186.length co49 : Value).ownBlock ∧ some k_ ≠ (.slice Ao50 t189.length co50 : Value).ownBlock) (.slice Ao48 t183.length co48) t183) := ⟨by (with_reducible repeat (first | apply Kd.R_alloc | apply Kd.R_drewN | apply Kd.R_drew)); exact Kd.R_mono (Kd.R_far (p := ⟨gb192, 6, none⟩) (Kd.R_far (p := ⟨gb192, 5, none⟩) (Kd.R_far (p := ⟨gb192, 4, none⟩) (Kd.R_far (p := ⟨gb192, 3, none⟩) (Kd.R_far (p := ⟨gb192, 2, none⟩) (Kd.R_far (p := ⟨gb192, 1, none⟩) (Kd.R_far (p := ⟨gb192, 0, none⟩) (Kd.R_types HO185.out BK192.out (by decide)) (fun _ hk => hk.2) (.int .i64 t179)) (fun _ hk => hk.2) (.int .i64 t180)) (fun _ hk => hk.2) (.int .i64 t181)) (fun _ hk => hk.2) (.string t182)) (fun _ hk => hk.2) (.slice Ao48 t183.length co48)) (fun _ hk => hk.2) (.slice Ao49 t186.length co49)) (fun _ hk => hk.2) (.slice Ao50 t189.length co50)) (fun _ hk => ⟨hk.1.1.1.2, ⟨hk.1.1.2, ⟨hk.1.2, ⟨hk.1.1.1.1.1, hk.1.1.1.1.2⟩⟩⟩⟩)⟩
 have n7_ : Aside0 (Kd.R (Kd.int .i64) 3 (((((((w43.setCell ⟨gb192, 0, none⟩ (.int .i64 t179)).setCell ⟨gb192, 1, none⟩ (.int .i64 t180)).setCell ⟨gb192, 2, none⟩ (.int .i64 t181)).setCell ⟨gb192, 3, none⟩ (.string t182)).setCell ⟨gb192, 4, none⟩ (.slice Ao48 t183.length co48)).setCell ⟨gb192, 5, none⟩ (.slice Ao49 t186.length co49)).setCell ⟨gb192, 6, none⟩ (.slice Ao50 t189.length co50)) w.heap.size (fun k_ => some k_ ≠ (.slice Ao38 t169.length co38 : Value).ownBlock ∧ some k_ ≠ (.slice Ao39 t172.length co39 : Value).ownBlock ∧ some k_ ≠ (.slice Ao40 t175.length co40 : Value).ownBlock ∧ some k_ ≠ (.slice Ao48 t183.length co48 : Value).ownBlock ∧ some k_ ≠ (.slice Ao50 t189.length co50 : Value).ownBlock) (.slice Ao49 t186.length co49) t186) := ⟨by (with_reducible repeat (first | apply Kd.R_alloc | apply Kd.R_drewN | apply Kd.R_drew)); exact Kd.R_mono (Kd.R_far (p := ⟨gb192, 6, none⟩) (Kd.R_far (p := ⟨gb192, 5, none⟩) (Kd.R_far (p := ⟨gb192, 4, none⟩) (Kd.R_far (p := ⟨gb192, 3, none⟩) (Kd.R_far (p := ⟨gb192, 2, none⟩) (Kd.R_far (p := ⟨gb192, 1, none⟩) (Kd.R_far (p := ⟨gb192, 0, none⟩) (Kd.R_types HO188.out BK192.out (by decide)) (fun _ hk => hk.2) (.int .i64 t179)) (fun _ hk => hk.2) (.int .i64 t180)) (fun _ hk => hk.2) (.int .i64 t181)) (fun _ hk => hk.2) (.string t182)) (fun _ hk => hk.2) (.slice Ao48 t183.length co48)) (fun _ hk => hk.2) (.slice Ao49 t186.length co49)) (fun _ hk => hk.2) (.slice Ao50 t189.length co50)) (fun _ hk => ⟨hk.1.1.1.2, ⟨hk.1.1.2, ⟨hk.1.2, ⟨hk.1.1.1.1.1, hk.1.1.1.1.2⟩⟩⟩⟩)⟩
 have n8_ : Aside0 (Kd.R (Kd.int .i64) 3 (((((((w43.setCell ⟨gb192, 0, none⟩ (.int .i64 t179)).setCell ⟨gb192, 1, none⟩ (.int .i64 t180)).setCell ⟨gb192, 2, none⟩ (.int .i64 t181)).setCell ⟨gb192, 3, none⟩ (.string t182)).setCell ⟨gb192, 4, none⟩ (.slice Ao48 t183.length co48)).setCell ⟨gb192, 5, none⟩ (.slice Ao49 t186.length co49)).setCell ⟨gb192, 6, none⟩ (.slice Ao50 t189.length co50)) w.heap.size (fun k_ => some k_ ≠ (.slice Ao38 t169.length co38 : Value).ownBlock ∧ some k_ ≠ (.slice Ao39 t172.length co39 : Value).ownBlock ∧ some k_ ≠ (.slice Ao40 t175.length co40 : Value).ownBlock ∧ some k_ ≠ (.slice Ao48 t183.length co48 : Value).ownBlock ∧ some k_ ≠ (.slice Ao49 t186.length co49 : Value).ownBlock) (.slice Ao50 t189.length co50) t189) := ⟨by (with_reducible repeat (first | apply Kd.R_alloc | apply Kd.R_drewN | apply Kd.R_drew)); exact Kd.R_mono (Kd.R_far (p := ⟨gb192, 6, none⟩) (Kd.R_far (p := ⟨gb192, 5, none⟩) (Kd.R_far (p := ⟨gb192, 4, none⟩) (Kd.R_far (p := ⟨gb192, 3, none⟩) (Kd.R_far (p := ⟨gb192, 2, none⟩) (Kd.R_far (p := ⟨gb192, 1, none⟩) (Kd.R_far (p := ⟨gb192, 0, none⟩) (Kd.R_types HO191.out BK192.out (by decide)) (fun _ hk => hk.2) (.int .i64 t179)) (fun _ hk => hk.2) (.int .i64 t180)) (fun _ hk => hk.2) (.int .i64 t181)) (fun _ hk => hk.2) (.string t182)) (fun _ hk => hk.2) (.slice Ao48 t183.length co48)) (fun _ hk => hk.2) (.slice Ao49 t186.length co49)) (fun _ hk => hk.2) (.slice Ao50 t189.length co50)) (fun _ hk => ⟨hk.1.1.1.2, ⟨hk.1.1.2, ⟨hk.1.2, ⟨hk.1.1.1.1.1, hk.1.1.1.1.2⟩⟩⟩⟩)⟩
 have n9_ : Aside0 ((((((((w43.setCell ⟨gb192, 0, none⟩ (.int .i64 t179)).setCell ⟨gb192, 1, none⟩ (.int .i64 t180)).setCell ⟨gb192, 2, none⟩ (.int .i64 t181)).setCell ⟨gb192, 3, none⟩ (.string t182)).setCell ⟨gb192, 4, none⟩ (.slice Ao48 t183.length co48)).setCell ⟨gb192, 5, none⟩ (.slice Ao49 t186.length co49)).setCell ⟨gb192, 6, none⟩ (.slice Ao50 t189.length co50)).heap[gb154]? = some (.cells #[.int .i64 1, .int .i64 1, .int .i64 1, .int .i64 0, .int .i64 0, .int .i64 0] 64 (0, 0))) := ⟨by refine bp_ ?_; refine blk_far ?_ NB154_192.out _; refine bp_ ?_; refine blk_far ?_ NB154_192.out _; refine bp_ ?_; refine blk_far ?_ NB154_192.out _; refine bp_ ?_; refine blk_far ?_ NB154_192.out _; refine bp_ ?_; refine blk_far ?_ NB154_192.out _; refine bp_ ?_; refine blk_far ?_ NB154_192.out _; refine bp_ ?_; refine blk_far ?_ NB154_192.out _; exact bk_ BK154.out⟩
 have n10_ : Aside0 ((((((((w43.setCell ⟨gb192, 0, none⟩ (.int .i64 t179)).setCell ⟨gb192, 1, none⟩ (.int .i64 t180)).setCell ⟨gb192, 2, none⟩ (.int .i64 t181)).setCell ⟨gb192, 3, none⟩ (.string t182)).setCell ⟨gb192, 4, none⟩ (.slice Ao48 t183.length co48)).setCell ⟨gb192, 5, none⟩ (.slice Ao49 t186.length co49)).setCell ⟨gb192, 6, none⟩ (.slice Ao50 t189.length co50)).heap[gb161]? = some (.cells #[.int .i64 2, .slice Ao25 y155.length co25, .slice Ao24 y158.length co24] 36 (0, 0))) := ⟨by refine bp_ ?_; refine blk_far ?_ NB161_192.out _; refine bp_ ?_; refine blk_far ?_ NB161_192.out _; refine bp_ ?_; refine blk_far ?_ NB161_192.out _; refine bp_ ?_; refine blk_far ?_ NB161_192.out _; refine bp_ ?_; refine blk_far ?_ NB161_192.out _; refine bp_ ?_; refine blk_far ?_ NB161_192.out _; refine bp_ ?_; refine blk_far ?_ NB161_192.out _; exact bk_ BK161.out⟩
 have n11_ : Aside0 ((((((((w43.setCell ⟨gb192, 0, none⟩ (.int .i64 t179)).setCell ⟨gb192, 1, none⟩ (.int .i64 t180)).setCell ⟨gb192, 2, none⟩ (.int .i64 t181)).setCell ⟨gb192, 3, none⟩ (.string t182)).setCell ⟨gb192, 4, none⟩ (.slice Ao48 t183.length co48)).setCell ⟨gb192, 5, none⟩ (.slice Ao49 t186.length co49)).setCell ⟨gb192, 6, none⟩ (.slice Ao50 t189.length co50)).heap[gb178]? = some (.cells #[.int .i64 t165, .int .i64 t166, .int .i64 t167, .string t168, .slice Ao38 t169.length co38, .slice Ao39 t172.length co39, .slice Ao40 t175.length co40] 42 (0, 0))) := ⟨by refine bp_ ?_; refine blk_far ?_ NB178_192.out _; refine bp_ ?_; refine blk_far ?_ NB178_192.out _; refine bp_ ?_; refine blk_far ?_ NB178_192.out _; refine bp_ ?_; refine blk_far ?_ NB178_192.out _; refine bp_ ?_; refine blk_far ?_ NB178_192.out _; refine bp_ ?_; refine blk_far ?_ NB178_192.out _; refine bp_ ?_; refine blk_far ?_ NB178_192.out _; exact bk_ BK178.out⟩
 have n12_ : Aside0 ((((((((w43.setCell ⟨gb192, 0, none⟩ (.int .i64 t179)).setCell ⟨gb192, 1, none⟩ (.int .i64 t180)).setCell ⟨gb192, 2, none⟩ (.int .i64 t181)).setCell ⟨gb192, 3, none⟩ (.string t182)).setCell ⟨gb192, 4, none⟩ (.slice Ao48 t183.length co48)).setCell ⟨gb192, 5, none⟩ (.slice Ao49 t186.length co49)).setCell ⟨gb192, 6, none⟩ (.slice Ao50 t189.length co50)).heap[gb192]? = some (.cells #[.int .i64 t179, .int .i64 t180, .int .i64 t181, .string t182, .slice Ao48 t183.length co48, .slice Ao49 t186.length co49, .slice Ao50 t189.length co50] 42 (0, 0))) := ⟨by refine bp_ ?_; refine blk_put (cs := #[.int .i64 t179, .int .i64 t180, .int .i64 t181, .string t182, .slice Ao48 t183.length co48, .slice Ao49 t186.length co49, .slice none 0 0]) ?_ 6 _ rfl; refine bp_ ?_; refine blk_put (cs := #[.int .i64 t179, .int .i64 t180, .int .i64 t181, .string t182, .slice Ao48 t183.length co48, .slice none 0 0, .slice none 0 0]) ?_ 5 _ rfl; refine bp_ ?_; refine blk_put (cs := #[.int .i64 t179, .int .i64 t180, .int .i64 t181, .string t182, .slice none 0 0, .slice none 0 0, .slice none 0 0]) ?_ 4 _ rfl; refine bp_ ?_; refine blk_put (cs := #[.int .i64 t179, .int .i64 t180, .int .i64 t181, .string (⟨#[]⟩ : ByteArray), .slice none 0 0, .slice none 0 0, .slice none 0 0]) ?_ 3 _ rfl; refine bp_ ?_; refine blk_put (cs := #[.int .i64 t179, .int .i64 t180, .int .i64 0, .string (⟨#[]⟩ : ByteArray), .slice none 0 0, .slice none 0 0, .slice none 0 0]) ?_ 2 _ rfl; refine bp_ ?_; refine blk_put (cs := #[.int .i64 t179, .int .i64 0, .int .i64 0, .string (⟨#[]⟩ : ByteArray), .slice none 0 0, .slice none 0 0, .slice none 0 0]) ?_ 1 _ rfl; refine bp_ ?_; refine blk_put (cs := #[.int .i64 0, .int .i64 0, .int .i64 0, .string (⟨#[]⟩ : ByteArray), .slice none 0 0, .slice none 0 0, .slice none 0 0]) ?_ 0 _ rfl; exact bk_ BK192.out⟩
 have n13_ : Aside0 (Below w.heap.size w (((((((w43.setCell ⟨gb192, 0, none⟩ (.int .i64 t179)).setCell ⟨gb192, 1, none⟩ (.int .i64 t180)).setCell ⟨gb192, 2, none⟩ (.int .i64 t181)).setCell ⟨gb192, 3, none⟩ (.string t182)).setCell ⟨gb192, 4, none⟩ (.slice Ao48 t183.length co48)).setCell ⟨gb192, 5, none⟩ (.slice Ao49 t186.length co49)).setCell ⟨gb192, 6, none⟩ (.slice Ao50 t189.length co50))) := ⟨bh_⟩
 (try clear HO157)
 (try clear HO160)
 (try clear HO164)
 (try clear HO171)
 (try clear HO174)
 (try clear HO177)
 (try clear HO185)
 (try clear HO188)
 (try clear HO191)
 (try clear BK154)
 (try clear BK161)
 (try clear BK178)
 (try clear BK192)
 (try clear HB)
 generalize (((((((w43.setCell ⟨gb192, 0, none⟩ (.int .i64 t179)).setCell ⟨gb192, 1, none⟩ (.int .i64 t180)).setCell ⟨gb192, 2, none⟩ (.int .i64 t181)).setCell ⟨gb192, 3, none⟩ (.string t182)).setCell ⟨gb192, 4, none⟩ (.slice Ao48 t183.length co48)).setCell ⟨gb192, 5, none⟩ (.slice Ao49 t186.length co49)).setCell ⟨gb192, 6, none⟩ (.slice Ao50 t189.length co50)) = w51 at n0_ n1_ n2_ n3_ n4_ n5_ n6_ n7_ n8_ n9_ n10_ n11_ n12_ n13_ ⊢
 have HO157 := n0_
 have HO160 := n1_
 have HO164 := n2_
 have HO171 := n3_
 have HO174 := n4_
 have HO177 := n5_
 have HO185 := n6_
 have HO188 := n7_
 have HO191 := n8_
 have BK154 := n9_
 have BK161 := n10_
 have BK178 := n11_
 have BK192 := n12_
 have HB := n13_
 clear n0_ n1_ n2_ n3_ n4_ n5_ n6_ n7_ n8_ n9_ n10_ n11_ n12_ n13_
 have n0_ := Aside0.mk (Kd.R_drew HO157.out)
 have n1_ := Aside0.mk (Kd.R_drew HO160.out)
 have n2_ := Aside0.mk (Kd.R_drew HO164.out)
 have n3_ := Aside0.mk (Kd.R_drew HO171.out)
 have n4_ := Aside0.mk (Kd.R_drew HO174.out)
 have n5_ := Aside0.mk (Kd.R_drew HO177.out)
 have n6_ := Aside0.mk (Kd.R_drew HO185.out)
 have n7_ := Aside0.mk (Kd.R_drew HO188.out)
 have n8_ := Aside0.mk (Kd.R_drew HO191.out)
 have n9_ := Aside0.mk (blk_drew BK154.out)
 have n10_ := Aside0.mk (blk_drew BK161.out)
 have n11_ := Aside0.mk (blk_drew BK178.out)
 have n12_ := Aside0.mk (blk_drew BK192.out)
 have n13_ := Aside0.mk (below_drew1 HB.out)
 clear HO157
 clear HO160
 clear HO164
 clear HO171
 clear HO174
 clear HO177
 clear HO185
 clear HO188
 clear HO191
 clear BK154
 clear BK161
 clear BK178
 clear BK192
 clear HB
 have HO157 := n0_
 have HO160 := n1_
 have HO164 := n2_
 have HO171 := n3_
 have HO174 := n4_
 have HO177 := n5_
 have HO185 := n6_
 have HO188 := n7_
 have HO191 := n8_
 have BK154 := n9_
 have BK161 := n10_
 have BK178 := n11_
 have BK192 := n12_
 have HB := n13_
 clear n0_ n1_ n2_ n3_ n4_ n5_ n6_ n7_ n8_ n9_ n10_ n11_ n12_ n13_
 have p193 : 0 ≤ (1 : Int) := (by omega)
 have q193 : 1 < (y162.length : Int) := of_decide_eq_true as_
 obtain ⟨ad193, e193, hx193_0, hx193_1, hx193_2, hx193_3⟩ := at_T28 (Kd.R_reads' HO164.out).2.2 1 p193 q193
 cases e193
 (try simp only [show (1 : Int).toNat = 1 from rfl, Nat.reduceMul, Nat.reduceEqDiff, Go.Addr.add, ↓reduceIte] at hx193_0)
 (try simp only [show (1 : Int).toNat = 1 from rfl, Nat.reduceMul, Nat.reduceEqDiff, Go.Addr.add, ↓reduceIte] at hx193_1)
 (try simp only [show (1 : Int).toNat = 1 from rfl, Nat.reduceMul, Nat.reduceEqDiff, Go.Addr.add, ↓reduceIte] at hx193_2)
 (try simp only [show (1 : Int).toNat = 1 from rfl, Nat.reduceMul, Nat.reduceEqDiff, Go.Addr.add, ↓reduceIte] at hx193_3)
 have qi193 : (1 < y162.length) = True := eq_true (by omega)
 (try rw [show ((1 : Int)).toNat = 1 from rfl] at hx193_0)
 (try rw [show 1 * 4 = 4 from rfl] at hx193_0)
 (try rw [show ((1 : Int)).toNat = 1 from rfl] at hx193_1)
 (try rw [show 1 * 4 = 4 from rfl] at hx193_1)
 (try rw [show ((1 : Int)).toNat = 1 from rfl] at hx193_2)
 (try rw [show 1 * 4 = 4 from rfl] at hx193_2)
 (try rw [show ((1 : Int)).toNat = 1 from rfl] at hx193_3)
 (try rw [show 1 * 4 = 4 from rfl] at hx193_3)
 replace p193 := eq_true p193
 replace q193 := eq_true q193
 refine start_ (n := 51) (S := fun w' => w'.cell? ⟨gb178, 0, none⟩ = some (.int .i64 t165) ∧ w'.cell? ⟨gb178, 1, none⟩ = some (.int .i64 t166) ∧ w'.cell? ⟨gb178, 2, none⟩ = some (.int .i64 t167) ∧ w'.cell? ⟨gb178, 3, none⟩ = some (.string t168) ∧ w'.cell? ⟨gb178, 4, none⟩ = some (.slice Ao38 t169.length co38) ∧ w'.cell? ⟨gb178, 5, none⟩ = some (.slice Ao39 t172.length co39) ∧ w'.cell? ⟨gb178, 6, none⟩ = some (.slice Ao40 t175.length co40) ∧ w'.cell? ⟨gb161, 0, none⟩ = some (.int .i64 2) ∧ w'.cell? ⟨gb161, 1, none⟩ = some (.slice Ao25 y155.length co25) ∧ w'.cell? ⟨gb161, 2, none⟩ = some (.slice Ao24 y158.length co24) ∧ w'.cell? ⟨gb192, 0, none⟩ = some (.int .i64 t179) ∧ w'.cell? ⟨gb192, 1, none⟩ = some (.int .i64 t180) ∧ w'.cell? ⟨gb192, 2, none⟩ = some (.int .i64 t181) ∧ w'.cell? ⟨gb192, 3, none⟩ = some (.string t182) ∧ w'.cell? ⟨gb192, 4, none⟩ = some (.slice Ao48 t183.length co48) ∧ w'.cell? ⟨gb192, 5, none⟩ = some (.slice Ao49 t186.length co49) ∧ w'.cell? ⟨gb192, 6, none⟩ = some (.slice Ao50 t189.length co50) ∧ w'.cell? ⟨ad193.block, ad193.off + 4, none⟩ = some (.int .i64 ((rd_T28 y162 1).f0)) ∧ w'.cell? ⟨ad193.block, ad193.off + 4 + 1, none⟩ = some (.int .i64 ((rd_T28 y162 1).f1)) ∧ w'.cell? ⟨ad193.block, ad193.off + 4 + 2, none⟩ = some (.int .i64 ((rd_T28 y162 1).f2)) ∧ w'.cell? ⟨ad193.block, ad193.off + 4 + 3, none⟩ = some (.string ((rd_T28 y162 1).f3))) (ds := []) #[false, false, false, false, false, false, false, false, false, false, false, false, false, false, false, false, false, false, false, false, false, false, false, false, false, false, false, false, false, false, false, false, false, false, false, false, false, false, false, false, false, false, false, false, false, false, false, false, false, false, false] (by kernel_rfl) rfl rfl ⟨(blk_cell BK178.out 0).trans rfl, (blk_cell BK178.out 1).trans rfl, (blk_cell BK178.out 2).trans rfl, (blk_cell BK178.out 3).trans rfl, (blk_cell BK178.out 4).trans rfl, (blk_cell BK178.out 5).trans rfl, (blk_cell BK178.out 6).trans rfl, (blk_cell BK161.out 0).trans rfl, (blk_cell BK161.out 1).trans rfl, (blk_cell BK161.out 2).trans rfl, (blk_cell BK192.out 0).trans rfl, (blk_cell BK192.out 1).trans rfl, (blk_cell BK192.out 2).trans rfl, (blk_cell BK192.out 3).trans rfl, (blk_cell BK192.out 4).trans rfl, (blk_cell BK192.out 5).trans rfl, (blk_cell BK192.out 6).trans rfl, hx193_0, hx193_1, hx193_2, hx193_3⟩ (fun hHeld => ?_); refine with_tabW computuslaw21_awake.tab6 computuslaw21_awake.bits6 (fun HT_ HW_ => ?_)
 generalize w51.drew = w52 at HO157 HO160 HO164 HO171 HO174 HO177 HO185 HO188 HO191 BK154 BK161 BK178 BK192 HB hx193_0 hx193_1 hx193_2 hx193_3 hHeld ⊢
 refine pure_ (i := 0) (N := some 26) (v := ?_) (a' := ?_) (bf_ 51 1) rfl rfl (any_of HT_.out (by kernel_rfl)) (fun _ _ _ h => h) (Or.inl ⟨by rfl, ?_⟩) ?_ ?_
 rotate_left
 ·intro w'
  go_simp
  with_reducible rfl
 rotate_left
 ·simp only [Act.put, sA_, sZ_, sS_, i64_w, i32_w]
  rfl
 refine pure_ (i := 2) (N := some 28) (v := ?_) (a' := ?_) (bf_ 51 5) rfl rfl (any_of HT_.out (by kernel_rfl)) (fun _ _ _ h => h) (Or.inl ⟨by rfl, ?_⟩) ?_ ?_
 rotate_left
 ·intro w'
  go_simp
  with_reducible rfl
 rotate_left
 ·simp only [Act.put, sA_, sZ_, sS_, i64_w, i32_w]
  rfl
 refine pure_ (i := 3) (N := some 29) (v := ?_) (a' := ?_) (bf_ 51 13) rfl rfl (any_of HT_.out (by kernel_rfl)) (fun _ _ _ h => h) (Or.inl ⟨by rfl, ?_⟩) ?_ ?_
 rotate_left
 ·intro w'
  go_simp
  with_reducible rfl
 rotate_left
 ·simp only [Act.put, sA_, sZ_, sS_, i64_w, i32_w]
  rfl
 refine take_ (i := 1) (N := some 27) (v := ?_) (a' := ?_) (bf_ 51 15) rfl rfl (take_ofW HT_.out HW_.out (by kernel_rfl)) (fun _ _ _ h => h) (Or.inl ⟨by rfl, ?_⟩) hHeld ?_ ?_
 rotate_left
 ·rintro w' ⟨s0, s1, s2, s3, s4, s5, s6, s7, s8, s9, s10, s11, s12, s13, s14, s15, s16, s17, s18, s19, s20⟩
  go_simp
  with_reducible rfl
 rotate_left
 ·simp only [Act.put, sA_, sZ_, sS_, i64_w, i32_w]
  rfl
 refine take_ (i := 4) (N := some 30) (v := ?_) (a' := ?_) (bf_ 51 31) rfl rfl (take_ofW HT_.out HW_.out (by kernel_rfl)) (fun _ _ _ h => h) (Or.inl ⟨by rfl, ?_⟩) hHeld ?_ ?_
 rotate_left
 ·rintro w' ⟨s0, s1, s2, s3, s4, s5, s6, s7, s8, s9, s10, s11, s12, s13, s14, s15, s16, s17, s18, s19, s20⟩
  go_simp
  with_reducible rfl
 rotate_left
 ·simp only [Act.put, sA_, sZ_, sS_, i64_w, i32_w]
  rfl
 refine pure_ (i := 5) (N := some 31) (v := ?_) (a' := ?_) (bf_ 51 63) rfl rfl (any_of HT_.out (by kernel_rfl)) (fun _ _ _ h => h) (Or.inl ⟨by rfl, ?_⟩) ?_ ?_
 rotate_left
 ·intro w'
  go_simp
  with_reducible rfl
 rotate_left
 ·simp only [Act.put, sA_, sZ_, sS_, i64_w, i32_w]
  rfl
 refine pure_ (i := 6) (N := some 32) (v := ?_) (a' := ?_) (bf_ 51 127) rfl rfl (any_of HT_.out (by kernel_rfl)) (fun _ _ _ h => h) (Or.inl ⟨by rfl, ?_⟩) ?_ ?_
 rotate_left
 ·intro w'
  go_simp
  with_reducible rfl
 rotate_left
 ·simp only [Act.put, sA_, sZ_, sS_, i64_w, i32_w]
  rfl
 refine pure_ (i := 7) (N := some 33) (v := ?_) (a' := ?_) (bf_ 51 255) rfl rfl (any_of HT_.out (by kernel_rfl)) (fun _ _ _ h => h) (Or.inl ⟨by rfl, ?_⟩) ?_ ?_
 rotate_left
 ·intro w'
  go_simp
  with_reducible rfl
 rotate_left
 ·simp only [Act.put, sA_, sZ_, sS_, i64_w, i32_w]
  rfl
 refine take_ (i := 8) (N := some 34) (v := ?_) (a' := ?_) (bf_ 51 511) rfl rfl (take_ofW HT_.out HW_.out (by kernel_rfl)) (fun _ _ _ h => h) (Or.inl ⟨by rfl, ?_⟩) hHeld ?_ ?_
 rotate_left
 ·rintro w' ⟨s0, s1, s2, s3, s4, s5, s6, s7, s8, s9, s10, s11, s12, s13, s14, s15, s16, s17, s18, s19, s20⟩
  go_simp
  with_reducible rfl
 rotate_left
 ·simp only [Act.put, sA_, sZ_, sS_, i64_w, i32_w]
  rfl
 refine pure_ (i := 9) (N := some 35) (v := ?_) (a' := ?_) (bf_ 51 1023) rfl rfl (any_of HT_.out (by kernel_rfl)) (fun _ _ _ h => h) (Or.inl ⟨by rfl, ?_⟩) ?_ ?_
 rotate_left
 ·intro w'
  go_simp
  with_reducible rfl
 rotate_left
 ·simp only [Act.put, sA_, sZ_, sS_, i64_w, i32_w]
  rfl
 refine pure_ (i := 10) (N := some 36) (v := ?_) (a' := ?_) (bf_ 51 2047) rfl rfl (any_of HT_.out (by kernel_rfl)) (fun _ _ _ h => h) (Or.inl ⟨by rfl, ?_⟩) ?_ ?_
 rotate_left
 ·intro w'
  go_simp
  with_reducible rfl
 rotate_left
 ·simp only [Act.put, sA_, sZ_, sS_, i64_w, i32_w]
  rfl
 refine pure_ (i := 11) (N := some 37) (v := ?_) (a' := ?_) (bf_ 51 4095) rfl rfl (any_of HT_.out (by kernel_rfl)) (fun _ _ _ h => h) (Or.inl ⟨by rfl, ?_⟩) ?_ ?_
 rotate_left
 ·intro w'
  go_simp
  with_reducible rfl
 rotate_left
 ·simp only [Act.put, sA_, sZ_, sS_, i64_w, i32_w]
  rfl
 refine pure_ (i := 12) (N := some 38) (v := ?_) (a' := ?_) (bf_ 51 8191) rfl rfl (any_of HT_.out (by kernel_rfl)) (fun _ _ _ h => h) (Or.inl ⟨by rfl, ?_⟩) ?_ ?_
 rotate_left
 ·intro w'
  go_simp
  with_reducible rfl
 rotate_left
 ·simp only [Act.put, sA_, sZ_, sS_, i64_w, i32_w]
  rfl
 refine pure_ (i := 13) (N := some 39) (v := ?_) (a' := ?_) (bf_ 51 16383) rfl rfl (any_of HT_.out (by kernel_rfl)) (fun _ _ _ h => h) (Or.inl ⟨by rfl, ?_⟩) ?_ ?_
 rotate_left
 ·intro w'
  go_simp
  with_reducible rfl
 rotate_left
 ·simp only [Act.put, sA_, sZ_, sS_, i64_w, i32_w]
  rfl
 refine take_ (i := 14) (N := some 40) (v := ?_) (a' := ?_) (bf_ 51 32767) rfl rfl (take_ofW HT_.out HW_.out (by kernel_rfl)) (fun _ _ _ h => h) (Or.inl ⟨by rfl, ?_⟩) hHeld ?_ ?_
 rotate_left
 ·rintro w' ⟨s0, s1, s2, s3, s4, s5, s6, s7, s8, s9, s10, s11, s12, s13, s14, s15, s16, s17, s18, s19, s20⟩
  go_simp
  with_reducible rfl
 rotate_left
 ·simp only [Act.put, sA_, sZ_, sS_, i64_w, i32_w]
  rfl
 refine pure_ (i := 15) (N := some 41) (v := ?_) (a' := ?_) (bf_ 51 65535) rfl rfl (any_of HT_.out (by kernel_rfl)) (fun _ _ _ h => h) (Or.inl ⟨by rfl, ?_⟩) ?_ ?_
 rotate_left
 ·intro w'
  go_simp
  with_reducible rfl
 rotate_left
 ·simp only [Act.put, sA_, sZ_, sS_, i64_w, i32_w]
  rfl
 refine pure_ (i := 16) (N := some 42) (v := ?_) (a' := ?_) (bf_ 51 131071) rfl rfl (any_of HT_.out (by kernel_rfl)) (fun _ _ _ h => h) (Or.inl ⟨by rfl, ?_⟩) ?_ ?_
 rotate_left
 ·intro w'
  go_simp
  with_reducible rfl
 rotate_left
 ·simp only [Act.put, sA_, sZ_, sS_, i64_w, i32_w]
  rfl
 refine pure_ (i := 17) (N := some 43) (v := ?_) (a' := ?_) (bf_ 51 262143) rfl rfl (any_of HT_.out (by kernel_rfl)) (fun _ _ _ h => h) (Or.inl ⟨by rfl, ?_⟩) ?_ ?_
 rotate_left
 ·intro w'
  go_simp
  with_reducible rfl
 rotate_left
 ·simp only [Act.put, sA_, sZ_, sS_, i64_w, i32_w]
  rfl
 refine pure_ (i := 18) (N := some 44) (v := ?_) (a' := ?_) (bf_ 51 524287) rfl rfl (any_of HT_.out (by kernel_rfl)) (fun _ _ _ h => h) (Or.inl ⟨by rfl, ?_⟩) ?_ ?_
 rotate_left
 ·intro w'
  go_simp
  with_reducible rfl
 rotate_left
 ·simp only [Act.put, sA_, sZ_, sS_, i64_w, i32_w]
  rfl
 refine pure_ (i := 19) (N := some 45) (v := ?_) (a' := ?_) (bf_ 51 1048575) rfl rfl (any_of HT_.out (by kernel_rfl)) (fun _ _ _ h => h) (Or.inl ⟨by rfl, ?_⟩) ?_ ?_
 rotate_left
 ·intro w'
  go_simp
  with_reducible rfl
 rotate_left
 ·simp only [Act.put, sA_, sZ_, sS_, i64_w, i32_w]
  rfl
 refine take_ (i := 20) (N := some 46) (v := ?_) (a' := ?_) (bf_ 51 2097151) rfl rfl (take_ofW HT_.out HW_.out (by kernel_rfl)) (fun _ _ _ h => h) (Or.inl ⟨by rfl, ?_⟩) hHeld ?_ ?_
 rotate_left
 ·rintro w' ⟨s0, s1, s2, s3, s4, s5, s6, s7, s8, s9, s10, s11, s12, s13, s14, s15, s16, s17, s18, s19, s20⟩
  go_simp
  with_reducible rfl
 rotate_left
 ·simp only [Act.put, sA_, sZ_, sS_, i64_w, i32_w]
  rfl
 refine one_ (i := 21) (N := some 47) (bf_ 51 4194303) rfl rfl (one_of HT_.out (by kernel_rfl)) (by decide) (fun K hK => ?_)
 refine Kd.R_lit_step (Kd.int .i64) _ 3 ?hg (N := 47) ?hd (xs := ([1] : List Int)) (inner := [.int .i64 1]) (ok := fun _ => True) (okp := fun _ => True) ?hr ?hp (fun _ hk => hk) trivial (Below.refl _ _) (Nat.le_refl _) (by simp) ?_; (case hd => rfl); (case hg => rfl); (case hr => first | (go_simp; done) | (go_simp; rfl)); (case hp => exact (Reps.one (show Kd.M (Kd.int .i64) _ _ _ 1 [.int .i64 1] from rfl) (Reps.none _ _)))
 intro v195 w53 ho54 hb hg_ hnew_
 have HS17_ := (hb.cell (World.block_lt_of_cell? _ _ (hHeld.2.2.2.2.2.2.2.2.2.2.2.2.2.2.2.2.2.1))).trans (hHeld.2.2.2.2.2.2.2.2.2.2.2.2.2.2.2.2.2.1)
 have HS18_ := (hb.cell (World.block_lt_of_cell? _ _ (hHeld.2.2.2.2.2.2.2.2.2.2.2.2.2.2.2.2.2.2.1))).trans (hHeld.2.2.2.2.2.2.2.2.2.2.2.2.2.2.2.2.2.2.1)
 have HS19_ := (hb.cell (World.block_lt_of_cell? _ _ (hHeld.2.2.2.2.2.2.2.2.2.2.2.2.2.2.2.2.2.2.2.1))).trans (hHeld.2.2.2.2.2.2.2.2.2.2.2.2.2.2.2.2.2.2.2.1)
 have HS20_ := (hb.cell (World.block_lt_of_cell? _ _ (hHeld.2.2.2.2.2.2.2.2.2.2.2.2.2.2.2.2.2.2.2.2))).trans (hHeld.2.2.2.2.2.2.2.2.2.2.2.2.2.2.2.2.2.2.2.2)
 clear hg_ hnew_
 (first | rw [← Ny194.out] at ho54 | (simp only [Int.reduceToNat] at ho54; rw [← Ny194.out] at ho54))
 have n0_ := Aside0.mk (Kd.R_below (rk_ HO157.out) hb)
 have n1_ := Aside0.mk (Kd.R_below (rk_ HO160.out) hb)
 have n2_ := Aside0.mk (Kd.R_below (rk_ HO164.out) hb)
 have n3_ := Aside0.mk (Kd.R_elder' (rk_ HO171.out) (Kd.R_base ho54) hb)
 have n4_ := Aside0.mk (Kd.R_elder' (rk_ HO174.out) (Kd.R_base ho54) hb)
 have n5_ := Aside0.mk (Kd.R_elder' (rk_ HO177.out) (Kd.R_base ho54) hb)
 have n6_ := Aside0.mk (Kd.R_elder' (rk_ HO185.out) (Kd.R_base ho54) hb)
 have n7_ := Aside0.mk (Kd.R_elder' (rk_ HO188.out) (Kd.R_base ho54) hb)
 have n8_ := Aside0.mk (Kd.R_elder' (rk_ HO191.out) (Kd.R_base ho54) hb)
 have n9_ := Aside0.mk (Kd.R_lower (Kd.R_new' (Kd.R_new' (Kd.R_new' (Kd.R_new' (Kd.R_new' (Kd.R_new' ho54 (Kd.R_lt (rk_ HO171.out))) (Kd.R_lt (rk_ HO174.out))) (Kd.R_lt (rk_ HO177.out))) (Kd.R_lt (rk_ HO185.out))) (Kd.R_lt (rk_ HO188.out))) (Kd.R_lt (rk_ HO191.out))) bz_)
 have n10_ := Aside0.mk (blk_below (g := gb154) (o := .cells #[.int .i64 1, .int .i64 1, .int .i64 1, .int .i64 0, .int .i64 0, .int .i64 0] 64 (0, 0)) (bk_ BK154.out) hb)
 have n11_ := Aside0.mk (blk_below (g := gb161) (o := .cells #[.int .i64 2, .slice Ao25 y155.length co25, .slice Ao24 y158.length co24] 36 (0, 0)) (bk_ BK161.out) hb)
 have n12_ := Aside0.mk (blk_below (g := gb178) (o := .cells #[.int .i64 t165, .int .i64 t166, .int .i64 t167, .string t168, .slice Ao38 t169.length co38, .slice Ao39 t172.length co39, .slice Ao40 t175.length co40] 42 (0, 0)) (bk_ BK178.out) hb)
 have n13_ := Aside0.mk (blk_below (g := gb192) (o := .cells #[.int .i64 t179, .int .i64 t180, .int .i64 t181, .string t182, .slice Ao48 t183.length co48, .slice Ao49 t186.length co49, .slice Ao50 t189.length co50] 42 (0, 0)) (bk_ BK192.out) hb)
 have n14_ := bt_ hb
 clear HO157
 clear HO160
 clear HO164
 clear HO171
 clear HO174
 clear HO177
 clear HO185
 clear HO188
 clear HO191
 clear BK154
 clear BK161
 clear BK178
 clear BK192
 clear HB
 have HO157 := n0_
 have HO160 := n1_
 have HO164 := n2_
 have HO171 := n3_
 have HO174 := n4_
 have HO177 := n5_
 have HO185 := n6_
 have HO188 := n7_
 have HO191 := n8_
 have HO196 := n9_
 have BK154 := n10_
 have BK161 := n11_
 have BK178 := n12_
 have BK192 := n13_
 have HB := n14_
 clear n0_ n1_ n2_ n3_ n4_ n5_ n6_ n7_ n8_ n9_ n10_ n11_ n12_ n13_ n14_
 clear hb ho54
 obtain ⟨Ao55, co55, eo55⟩ := Kd.R_slice HO196.out
 (first | subst eo55 | (injection eo55 with f1_ f2_ f3_; have f4_ := f1_.symm; have f5_ := f3_.symm; clear f1_ f2_ f3_; subst f4_; subst f5_))
 refine hK.out _ _ (by first | exact ⟨(blk_cell BK178.out 0).trans rfl, (blk_cell BK178.out 1).trans rfl, (blk_cell BK178.out 2).trans rfl, (blk_cell BK178.out 3).trans rfl, (blk_cell BK178.out 4).trans rfl, (blk_cell BK178.out 5).trans rfl, (blk_cell BK178.out 6).trans rfl, (blk_cell BK161.out 0).trans rfl, (blk_cell BK161.out 1).trans rfl, (blk_cell BK161.out 2).trans rfl, (blk_cell BK192.out 0).trans rfl, (blk_cell BK192.out 1).trans rfl, (blk_cell BK192.out 2).trans rfl, (blk_cell BK192.out 3).trans rfl, (blk_cell BK192.out 4).trans rfl, (blk_cell BK192.out 5).trans rfl, (blk_cell BK192.out 6).trans rfl, HS17_, HS18_, HS19_, HS20_⟩ | exact hHeld) (fun hHeld => ?_)
 clear hK K
 refine norm_ (a' := ?_) ?_ ?_
 rotate_left
 ·show Act.put _ (some 47) _ = _
  simp only [Act.put, sA_, sZ_, sS_, i64_w, i32_w]
  rfl
 refine one_ (i := 22) (N := some 48) (bf_ 51 8388607) rfl rfl (one_of HT_.out (by kernel_rfl)) (by decide) (fun K hK => ?_)
 refine goes_ Try.func27 (by kernel_rfl) rfl #[.slice Ao40 t175.length co40, .slice Ao55 y194.length co55] (by rfl) rfl rfl (by (try simp only [List.map_toArray, List.map_cons, List.map_nil]); first | done | rfl | (simp only [List.length_drop, List.length_take]; rfl)) ?_
 with_reducible refine (computusref08_Numbers.calls k _ _ t175 _ _ y194 true _ ?side1 ?side2 ?side3 ?side4 A7.out).mono ?_
 (case side1 => repeat (first | exact (Kd.R_reads' HO177.out).2.2 | (with_reducible refine Kd.C_alloc ?_ _) | (with_reducible refine Kd.C_drewN ?_ _) | (with_reducible refine Kd.C_drew ?_)))
 (case side2 => exact (Kd.R_reads' HO177.out).2.1)
 (case side3 => repeat (first | exact (Kd.R_reads' HO196.out).2.2 | (with_reducible refine Kd.C_alloc ?_ _) | (with_reducible refine Kd.C_drewN ?_ _) | (with_reducible refine Kd.C_drew ?_)))
 (case side4 => exact (Kd.R_reads' HO196.out).2.1)
 rintro e w' ⟨rfl, ⟨nd, rfl⟩⟩
 refine ⟨_, rfl, ?_⟩
 refine hK.out _ _ (by first | exact ⟨(blk_cell BK178.out 0).trans rfl, (blk_cell BK178.out 1).trans rfl, (blk_cell BK178.out 2).trans rfl, (blk_cell BK178.out 3).trans rfl, (blk_cell BK178.out 4).trans rfl, (blk_cell BK178.out 5).trans rfl, (blk_cell BK178.out 6).trans rfl, (blk_cell BK161.out 0).trans rfl, (blk_cell BK161.out 1).trans rfl, (blk_cell BK161.out 2).trans rfl, (blk_cell BK192.out 0).trans rfl, (blk_cell BK192.out 1).trans rfl, (blk_cell BK192.out 2).trans rfl, (blk_cell BK192.out 3).trans rfl, (blk_cell BK192.out 4).trans rfl, (blk_cell BK192.out 5).trans rfl, (blk_cell BK192.out 6).trans rfl, hHeld.2.2.2.2.2.2.2.2.2.2.2.2.2.2.2.2.2.1, hHeld.2.2.2.2.2.2.2.2.2.2.2.2.2.2.2.2.2.2.1, hHeld.2.2.2.2.2.2.2.2.2.2.2.2.2.2.2.2.2.2.2.1, hHeld.2.2.2.2.2.2.2.2.2.2.2.2.2.2.2.2.2.2.2.2⟩ | exact hHeld) (fun hHeld => ?_)
 clear hK K
 refine norm_ (a' := ?_) ?_ ?_
 rotate_left
 ·show Act.put _ (some 48) _ = _
  simp only [Act.put, sA_, sZ_, sS_, i64_w, i32_w]
  rfl
 refine pure_ (i := 23) (N := some 49) (v := ?_) (a' := ?_) (bf_ 51 16777215) rfl rfl (any_of HT_.out (by kernel_rfl)) (fun _ _ _ h => h) (Or.inl ⟨by rfl, ?_⟩) ?_ ?_
 rotate_left
 ·intro w'
  go_simp
  with_reducible rfl
 rotate_left
 ·simp only [Act.put, sA_, sZ_, sS_, i64_w, i32_w]
  rfl
 refine pure_ (i := 24) (N := some 50) (v := ?_) (a' := ?_) (bf_ 51 33554431) rfl rfl (any_of HT_.out (by kernel_rfl)) (fun _ _ _ h => h) (Or.inl ⟨by rfl, ?_⟩) ?_ ?_
 rotate_left
 ·intro w'
  go_simp
  with_reducible rfl
 rotate_left
 ·simp only [Act.put, sA_, sZ_, sS_, i64_w, i32_w]
  rfl
 refine take_ (i := 25) (N := some 51) (v := ?_) (a' := ?_) (bf_ 51 67108863) rfl rfl (take_ofW HT_.out HW_.out (by kernel_rfl)) (fun _ _ _ h => h) (Or.inl ⟨by rfl, ?_⟩) hHeld ?_ ?_
 rotate_left
 ·rintro w' ⟨s0, s1, s2, s3, s4, s5, s6, s7, s8, s9, s10, s11, s12, s13, s14, s15, s16, s17, s18, s19, s20⟩
  go_simp
  with_reducible rfl
 rotate_left
 ·simp only [Act.put, sA_, sZ_, sS_, i64_w, i32_w]
  rfl
 refine take_ (i := 26) (N := some 52) (v := ?_) (a' := ?_) (bf_ 51 134217727) rfl rfl (take_ofW HT_.out HW_.out (by kernel_rfl)) (fun _ _ _ h => h) (Or.inl ⟨by rfl, ?_⟩) hHeld ?_ ?_
 rotate_left
 ·rintro w' ⟨s0, s1, s2, s3, s4, s5, s6, s7, s8, s9, s10, s11, s12, s13, s14, s15, s16, s17, s18, s19, s20⟩
  go_simp
  with_reducible rfl
 rotate_left
 ·simp only [Act.put, sA_, sZ_, sS_, i64_w, i32_w]
  rfl
 refine one_ (i := 27) (N := some 53) (bf_ 51 268435455) rfl rfl (one_of HT_.out (by kernel_rfl)) (by decide) (fun K hK => ?_)
 refine goes_ Try.func21 (by kernel_rfl) rfl #[.agg #[.int .i64 2, .slice Ao25 y155.length co25, .slice Ao24 y158.length co24], .agg #[.int .i64 t165, .int .i64 t166, .int .i64 t167, .string t168, .slice Ao38 t169.length co38, .slice Ao39 t172.length co39, .slice Ao40 t175.length co40]] (by rfl) rfl rfl (by (try simp only [List.map_toArray, List.map_cons, List.map_nil]); first | done | rfl | (simp only [List.length_drop, List.length_take]; rfl)) ?_
 with_reducible refine (occurrence_Free.calls 2 _ _ y155 _ _ y158 t165 t166 t167 t168 _ _ t169 _ _ t172 _ _ t175 false _ ?side1 ?side2 ?side3 ?side4 ?side5 ?side6 ?side7 ?side8 ?side9 ?side10 A9.out).mono ?_
 (case side1 => repeat (first | exact (Kd.R_reads' HO157.out).2.2 | (with_reducible refine Kd.C_alloc ?_ _) | (with_reducible refine Kd.C_drewN ?_ _) | (with_reducible refine Kd.C_drew ?_)))
 (case side2 => exact (Kd.R_reads' HO157.out).2.1)
 (case side3 => repeat (first | exact (Kd.R_reads' HO160.out).2.2 | (with_reducible refine Kd.C_alloc ?_ _) | (with_reducible refine Kd.C_drewN ?_ _) | (with_reducible refine Kd.C_drew ?_)))
 (case side4 => exact (Kd.R_reads' HO160.out).2.1)
 (case side5 => repeat (first | exact (Kd.R_reads' HO171.out).2.2 | (with_reducible refine Kd.C_alloc ?_ _) | (with_reducible refine Kd.C_drewN ?_ _) | (with_reducible refine Kd.C_drew ?_)))
 (case side6 => exact (Kd.R_reads' HO171.out).2.1)
 (case side7 => repeat (first | exact (Kd.R_reads' HO174.out).2.2 | (with_reducible refine Kd.C_alloc ?_ _) | (with_reducible refine Kd.C_drewN ?_ _) | (with_reducible refine Kd.C_drew ?_)))
 (case side8 => exact (Kd.R_reads' HO174.out).2.1)
 (case side9 => repeat (first | exact (Kd.R_reads' HO177.out).2.2 | (with_reducible refine Kd.C_alloc ?_ _) | (with_reducible refine Kd.C_drewN ?_ _) | (with_reducible refine Kd.C_drew ?_)))
 (case side10 => exact (Kd.R_reads' HO177.out).2.1)
 rintro e w56 ⟨rfl, hb⟩
 have HS17_ := (hb.cell (World.block_lt_of_cell? _ _ (hHeld.2.2.2.2.2.2.2.2.2.2.2.2.2.2.2.2.2.1))).trans (hHeld.2.2.2.2.2.2.2.2.2.2.2.2.2.2.2.2.2.1)
 have HS18_ := (hb.cell (World.block_lt_of_cell? _ _ (hHeld.2.2.2.2.2.2.2.2.2.2.2.2.2.2.2.2.2.2.1))).trans (hHeld.2.2.2.2.2.2.2.2.2.2.2.2.2.2.2.2.2.2.1)
 have HS19_ := (hb.cell (World.block_lt_of_cell? _ _ (hHeld.2.2.2.2.2.2.2.2.2.2.2.2.2.2.2.2.2.2.2.1))).trans (hHeld.2.2.2.2.2.2.2.2.2.2.2.2.2.2.2.2.2.2.2.1)
 have HS20_ := (hb.cell (World.block_lt_of_cell? _ _ (hHeld.2.2.2.2.2.2.2.2.2.2.2.2.2.2.2.2.2.2.2.2))).trans (hHeld.2.2.2.2.2.2.2.2.2.2.2.2.2.2.2.2.2.2.2.2)
 refine ⟨_, rfl, ?_⟩
 have n0_ := Aside0.mk (Kd.R_below (rk_ HO157.out) hb)
 have n1_ := Aside0.mk (Kd.R_below (rk_ HO160.out) hb)
 have n2_ := Aside0.mk (Kd.R_below (rk_ HO164.out) hb)
 have n3_ := Aside0.mk (Kd.R_below (rk_ HO171.out) hb)
 have n4_ := Aside0.mk (Kd.R_below (rk_ HO174.out) hb)
 have n5_ := Aside0.mk (Kd.R_below (rk_ HO177.out) hb)
 have n6_ := Aside0.mk (Kd.R_below (rk_ HO185.out) hb)
 have n7_ := Aside0.mk (Kd.R_below (rk_ HO188.out) hb)
 have n8_ := Aside0.mk (Kd.R_below (rk_ HO191.out) hb)
 have n9_ := Aside0.mk (Kd.R_below (rk_ HO196.out) hb)
 have n10_ := Aside0.mk (blk_below (g := gb154) (o := .cells #[.int .i64 1, .int .i64 1, .int .i64 1, .int .i64 0, .int .i64 0, .int .i64 0] 64 (0, 0)) (bk_ BK154.out) hb)
 have n11_ := Aside0.mk (blk_below (g := gb161) (o := .cells #[.int .i64 2, .slice Ao25 y155.length co25, .slice Ao24 y158.length co24] 36 (0, 0)) (bk_ BK161.out) hb)
 have n12_ := Aside0.mk (blk_below (g := gb178) (o := .cells #[.int .i64 t165, .int .i64 t166, .int .i64 t167, .string t168, .slice Ao38 t169.length co38, .slice Ao39 t172.length co39, .slice Ao40 t175.length co40] 42 (0, 0)) (bk_ BK178.out) hb)
 have n13_ := Aside0.mk (blk_below (g := gb192) (o := .cells #[.int .i64 t179, .int .i64 t180, .int .i64 t181, .string t182, .slice Ao48 t183.length co48, .slice Ao49 t186.length co49, .slice Ao50 t189.length co50] 42 (0, 0)) (bk_ BK192.out) hb)
 have n14_ := bt_ hb
 clear HO157
 clear HO160
 clear HO164
 clear HO171
 clear HO174
 clear HO177
 clear HO185
 clear HO188
 clear HO191
 clear HO196
 clear BK154
 clear BK161
 clear BK178
 clear BK192
 clear HB
 have HO157 := n0_
 have HO160 := n1_
 have HO164 := n2_
 have HO171 := n3_
 have HO174 := n4_
 have HO177 := n5_
 have HO185 := n6_
 have HO188 := n7_
 have HO191 := n8_
 have HO196 := n9_
 have BK154 := n10_
 have BK161 := n11_
 have BK178 := n12_
 have BK192 := n13_
 have HB := n14_
 clear n0_ n1_ n2_ n3_ n4_ n5_ n6_ n7_ n8_ n9_ n10_ n11_ n12_ n13_ n14_
 (try clear hb)
 (try clear hb2)
 (try clear hk)
 (try clear hi)
 have q57 : (1 : Int) ≤ ((y162.length : Int) : Int) := of_decide_eq_true as_
 obtain ⟨i057, hi057, _, hsz57, _⟩ := info_parts info28
 have hroom57 : y162.length ≤ co32 := (Kd.R_reads' HO164.out).2.1
 have hC57 : Kd.C k28 _ (some ad193) y162.length y162 := (Kd.R_reads' HO164.out).2.2
 have hcut57 := cut_to (P := Try.prog) 24 28 .i64 Try.underlying24 hi057 (some ad193) y162.length co32 1 (by omega) q57 hroom57
 have hr57 := Kd.C_take (m := 1) hC57 (by omega)
 have hy57 : y199.length = (1 : Int).toNat := (by rw [Ny199.out, List.length_take]; omega)
 rw [← Ny199.out] at hr57
 rw [← hy57] at hcut57
 have HR202 := Aside0.mk hr57
 have HC202 := Aside0.mk (show y199.length ≤ co32 from by omega)
 clear hr57 hC57 hroom57 hi057 hsz57
 have KY57 := Aside0.mk hy57
 clear hy57
 have KL57 := Aside0.mk (show 1 ≤ y162.length from by omega)
 replace q57 := eq_true q57
 refine hK.out _ _ (by first | exact ⟨(blk_cell BK178.out 0).trans rfl, (blk_cell BK178.out 1).trans rfl, (blk_cell BK178.out 2).trans rfl, (blk_cell BK178.out 3).trans rfl, (blk_cell BK178.out 4).trans rfl, (blk_cell BK178.out 5).trans rfl, (blk_cell BK178.out 6).trans rfl, (blk_cell BK161.out 0).trans rfl, (blk_cell BK161.out 1).trans rfl, (blk_cell BK161.out 2).trans rfl, (blk_cell BK192.out 0).trans rfl, (blk_cell BK192.out 1).trans rfl, (blk_cell BK192.out 2).trans rfl, (blk_cell BK192.out 3).trans rfl, (blk_cell BK192.out 4).trans rfl, (blk_cell BK192.out 5).trans rfl, (blk_cell BK192.out 6).trans rfl, HS17_, HS18_, HS19_, HS20_⟩ | exact hHeld) (fun hHeld => ?_)
 clear hK K
 refine norm_ (a' := ?_) ?_ ?_
 rotate_left
 ·show Act.put _ (some 53) _ = _
  simp only [Act.put, sA_, sZ_, sS_, i64_w, i32_w]
  rfl
 refine pure_ (i := 28) (N := some 54) (v := ?_) (a' := ?_) (bf_ 51 536870911) rfl rfl (any_of HT_.out (by kernel_rfl)) (fun _ _ _ h => h) (Or.inl ⟨by rfl, ?_⟩) ?_ ?_
 rotate_left
 ·intro w'
  go_simp
  with_reducible rfl
 rotate_left
 ·simp only [Act.put, sA_, sZ_, sS_, i64_w, i32_w]
  rfl
 refine pure_ (i := 29) (N := some 55) (v := ?_) (a' := ?_) (bf_ 51 1073741823) rfl rfl (any_of HT_.out (by kernel_rfl)) (fun _ _ _ h => h) (Or.inl ⟨by rfl, ?_⟩) ?_ ?_
 rotate_left
 ·intro w'
  go_simp
  with_reducible rfl
 rotate_left
 ·simp only [Act.put, sA_, sZ_, sS_, i64_w, i32_w]
  rfl
 refine pure_ (i := 30) (N := some 56) (v := ?_) (a' := ?_) (bf_ 51 2147483647) rfl rfl (any_of HT_.out (by kernel_rfl)) (fun _ _ _ h => h) (Or.inl ⟨by rfl, ?_⟩) ?_ ?_
 rotate_left
 ·intro w'
  go_simp
  with_reducible rfl
 rotate_left
 ·simp only [Act.put, sA_, sZ_, sS_, i64_w, i32_w]
  rfl
 refine pure_ (i := 33) (N := some 59) (v := ?_) (a' := ?_) (bf_ 51 10737418239) rfl rfl (any_of HT_.out (by kernel_rfl)) (fun _ _ _ h => h) (Or.inl ⟨by rfl, ?_⟩) ?_ ?_
 rotate_left
 ·intro w'
  go_simp
  with_reducible rfl
 rotate_left
 ·simp only [Act.put, sA_, sZ_, sS_, i64_w, i32_w]
  rfl
 refine pure_ (i := 34) (N := some 60) (v := ?_) (a' := ?_) (bf_ 51 27917287423) rfl rfl (any_of HT_.out (by kernel_rfl)) (fun _ _ _ h => h) (Or.inl ⟨by rfl, ?_⟩) ?_ ?_
 rotate_left
 ·intro w'
  go_simp
  with_reducible rfl
 rotate_left
 ·simp only [Act.put, sA_, sZ_, sS_, i64_w, i32_w]
  rfl
 refine take_ (i := 31) (N := some 57) (v := ?_) (a' := ?_) (bf_ 51 30064771071) rfl rfl (take_ofW HT_.out HW_.out (by kernel_rfl)) (fun _ _ _ h => h) (Or.inl ⟨by rfl, ?_⟩) hHeld ?_ ?_
 rotate_left
 ·rintro w' ⟨s0, s1, s2, s3, s4, s5, s6, s7, s8, s9, s10, s11, s12, s13, s14, s15, s16, s17, s18, s19, s20⟩
  go_simp
  with_reducible rfl
 rotate_left
 ·simp only [Act.put, sA_, sZ_, sS_, i64_w, i32_w]
  rfl
 refine take_ (i := 32) (N := some 58) (v := ?_) (a' := ?_) (bf_ 51 34359738367) rfl rfl (take_ofW HT_.out HW_.out (by kernel_rfl)) (fun _ _ _ h => h) (Or.inl ⟨by rfl, ?_⟩) hHeld ?_ ?_
 rotate_left
 ·rintro w' ⟨s0, s1, s2, s3, s4, s5, s6, s7, s8, s9, s10, s11, s12, s13, s14, s15, s16, s17, s18, s19, s20⟩
  go_simp
  with_reducible rfl
 rotate_left
 ·simp only [Act.put, sA_, sZ_, sS_, i64_w, i32_w]
  rfl
 refine one_ (i := 35) (N := some 61) (bf_ 51 68719476735) rfl rfl (one_of HT_.out (by kernel_rfl)) (by decide) (fun K hK => ?_)
 refine goes_ Try.func17 (by kernel_rfl) rfl #[.agg #[.int .i64 2, .slice Ao25 y155.length co25, .slice Ao24 y158.length co24], .slice (some ad193) y199.length co32] (by rfl) rfl rfl (by (try simp only [List.map_toArray, List.map_cons, List.map_nil]); first | done | rfl | (simp only [List.length_drop, List.length_take]; rfl)) ?_
 with_reducible refine (occurrence_Resolve.calls 2 _ _ y155 _ _ y158 _ _ y199 t203 t204 t205 t206 t207 t210 t213 _ ?side1 ?side2 ?side3 ?side4 ?side5 ?side6 A12.out).mono ?_
 (case side1 => repeat (first | exact (Kd.R_reads' HO157.out).2.2 | (with_reducible refine Kd.C_alloc ?_ _) | (with_reducible refine Kd.C_drewN ?_ _) | (with_reducible refine Kd.C_drew ?_)))
 (case side2 => exact (Kd.R_reads' HO157.out).2.1)
 (case side3 => repeat (first | exact (Kd.R_reads' HO160.out).2.2 | (with_reducible refine Kd.C_alloc ?_ _) | (with_reducible refine Kd.C_drewN ?_ _) | (with_reducible refine Kd.C_drew ?_)))
 (case side4 => exact (Kd.R_reads' HO160.out).2.1)
 (case side5 => repeat (first | exact (by repeat (first | (with_reducible exact HR202.out) | (with_reducible refine Kd.C_alloc ?_ _) | (with_reducible refine Kd.C_drewN ?_ _) | (with_reducible refine Kd.C_drew ?_) | exact HR202.out)) | (with_reducible refine Kd.C_alloc ?_ _) | (with_reducible refine Kd.C_drewN ?_ _) | (with_reducible refine Kd.C_drew ?_)))
 (case side6 => exact HC202.out)
 rintro e w58 ⟨v208, v211, v214, rfl, ho0, ho1, ho2, hb⟩
 have HS17_ := (hb.cell (World.block_lt_of_cell? _ _ (hHeld.2.2.2.2.2.2.2.2.2.2.2.2.2.2.2.2.2.1))).trans (hHeld.2.2.2.2.2.2.2.2.2.2.2.2.2.2.2.2.2.1)
 have HS18_ := (hb.cell (World.block_lt_of_cell? _ _ (hHeld.2.2.2.2.2.2.2.2.2.2.2.2.2.2.2.2.2.2.1))).trans (hHeld.2.2.2.2.2.2.2.2.2.2.2.2.2.2.2.2.2.2.1)
 have HS19_ := (hb.cell (World.block_lt_of_cell? _ _ (hHeld.2.2.2.2.2.2.2.2.2.2.2.2.2.2.2.2.2.2.2.1))).trans (hHeld.2.2.2.2.2.2.2.2.2.2.2.2.2.2.2.2.2.2.2.1)
 have HS20_ := (hb.cell (World.block_lt_of_cell? _ _ (hHeld.2.2.2.2.2.2.2.2.2.2.2.2.2.2.2.2.2.2.2.2))).trans (hHeld.2.2.2.2.2.2.2.2.2.2.2.2.2.2.2.2.2.2.2.2)
 refine ⟨_, rfl, ?_⟩
 have n0_ := Aside0.mk (Kd.R_below (rk_ HO157.out) hb)
 have n1_ := Aside0.mk (Kd.R_below (rk_ HO160.out) hb)
 have n2_ := Aside0.mk (Kd.R_below (rk_ HO164.out) hb)
 have n3_ := Aside0.mk (Kd.R_mono (Kd.R_told (Kd.R_told (Kd.R_told (Kd.R_old (rk_ HO171.out) hb) (Kd.R_base ho0)) (Kd.R_base ho1)) (Kd.R_base ho2)) (fun _ h_ => h_.1))
 have n4_ := Aside0.mk (Kd.R_mono (Kd.R_told (Kd.R_told (Kd.R_told (Kd.R_old (rk_ HO174.out) hb) (Kd.R_base ho0)) (Kd.R_base ho1)) (Kd.R_base ho2)) (fun _ h_ => h_.1))
 have n5_ := Aside0.mk (Kd.R_mono (Kd.R_told (Kd.R_told (Kd.R_told (Kd.R_old (rk_ HO177.out) hb) (Kd.R_base ho0)) (Kd.R_base ho1)) (Kd.R_base ho2)) (fun _ h_ => h_.1))
 have n6_ := Aside0.mk (Kd.R_mono (Kd.R_told (Kd.R_told (Kd.R_told (Kd.R_old (rk_ HO185.out) hb) (Kd.R_base ho0)) (Kd.R_base ho1)) (Kd.R_base ho2)) (fun _ h_ => h_.1))
 have n7_ := Aside0.mk (Kd.R_mono (Kd.R_told (Kd.R_told (Kd.R_told (Kd.R_old (rk_ HO188.out) hb) (Kd.R_base ho0)) (Kd.R_base ho1)) (Kd.R_base ho2)) (fun _ h_ => h_.1))
 have n8_ := Aside0.mk (Kd.R_mono (Kd.R_told (Kd.R_told (Kd.R_told (Kd.R_old (rk_ HO191.out) hb) (Kd.R_base ho0)) (Kd.R_base ho1)) (Kd.R_base ho2)) (fun _ h_ => h_.1))
 have n9_ := Aside0.mk (Kd.R_mono (Kd.R_told (Kd.R_told (Kd.R_told (Kd.R_old (rk_ HO196.out) hb) (Kd.R_base ho0)) (Kd.R_base ho1)) (Kd.R_base ho2)) (fun _ h_ => h_.1))
 have n10_ := Aside0.mk (Kd.R_lower (Kd.R_new' (Kd.R_new' (Kd.R_new' (Kd.R_new' (Kd.R_new' (Kd.R_new' (Kd.R_new' ho0 (Kd.R_lt (rk_ HO171.out))) (Kd.R_lt (rk_ HO174.out))) (Kd.R_lt (rk_ HO177.out))) (Kd.R_lt (rk_ HO185.out))) (Kd.R_lt (rk_ HO188.out))) (Kd.R_lt (rk_ HO191.out))) (Kd.R_lt (rk_ HO196.out))) bz_)
 have n11_ := Aside0.mk (Kd.R_lower (Kd.R_new' (Kd.R_new' (Kd.R_new' (Kd.R_new' (Kd.R_new' (Kd.R_new' (Kd.R_new' ho1 (Kd.R_lt (rk_ HO171.out))) (Kd.R_lt (rk_ HO174.out))) (Kd.R_lt (rk_ HO177.out))) (Kd.R_lt (rk_ HO185.out))) (Kd.R_lt (rk_ HO188.out))) (Kd.R_lt (rk_ HO191.out))) (Kd.R_lt (rk_ HO196.out))) bz_)
 have n12_ := Aside0.mk (Kd.R_lower (Kd.R_new' (Kd.R_new' (Kd.R_new' (Kd.R_new' (Kd.R_new' (Kd.R_new' (Kd.R_new' ho2 (Kd.R_lt (rk_ HO171.out))) (Kd.R_lt (rk_ HO174.out))) (Kd.R_lt (rk_ HO177.out))) (Kd.R_lt (rk_ HO185.out))) (Kd.R_lt (rk_ HO188.out))) (Kd.R_lt (rk_ HO191.out))) (Kd.R_lt (rk_ HO196.out))) bz_)
 have n13_ := Aside0.mk (blk_below (g := gb154) (o := .cells #[.int .i64 1, .int .i64 1, .int .i64 1, .int .i64 0, .int .i64 0, .int .i64 0] 64 (0, 0)) (bk_ BK154.out) hb)
 have n14_ := Aside0.mk (blk_below (g := gb161) (o := .cells #[.int .i64 2, .slice Ao25 y155.length co25, .slice Ao24 y158.length co24] 36 (0, 0)) (bk_ BK161.out) hb)
 have n15_ := Aside0.mk (blk_below (g := gb178) (o := .cells #[.int .i64 t165, .int .i64 t166, .int .i64 t167, .string t168, .slice Ao38 t169.length co38, .slice Ao39 t172.length co39, .slice Ao40 t175.length co40] 42 (0, 0)) (bk_ BK178.out) hb)
 have n16_ := Aside0.mk (blk_below (g := gb192) (o := .cells #[.int .i64 t179, .int .i64 t180, .int .i64 t181, .string t182, .slice Ao48 t183.length co48, .slice Ao49 t186.length co49, .slice Ao50 t189.length co50] 42 (0, 0)) (bk_ BK192.out) hb)
 have n17_ := Aside0.mk (Kd.C_below (by repeat (first | (with_reducible exact HR202.out) | (with_reducible refine Kd.C_alloc ?_ _) | (with_reducible refine Kd.C_drewN ?_ _) | (with_reducible refine Kd.C_drew ?_) | exact HR202.out)) hb)
 have n18_ := bt_ hb
 clear HO157
 clear HO160
 clear HO164
 clear HO171
 clear HO174
 clear HO177
 clear HO185
 clear HO188
 clear HO191
 clear HO196
 clear BK154
 clear BK161
 clear BK178
 clear BK192
 clear HR202
 clear HB
 have HO157 := n0_
 have HO160 := n1_
 have HO164 := n2_
 have HO171 := n3_
 have HO174 := n4_
 have HO177 := n5_
 have HO185 := n6_
 have HO188 := n7_
 have HO191 := n8_
 have HO196 := n9_
 have HO209 := n10_
 have HO212 := n11_
 have HO215 := n12_
 have BK154 := n13_
 have BK161 := n14_
 have BK178 := n15_
 have BK192 := n16_
 have HR202 := n17_
 have HB := n18_
 clear n0_ n1_ n2_ n3_ n4_ n5_ n6_ n7_ n8_ n9_ n10_ n11_ n12_ n13_ n14_ n15_ n16_ n17_ n18_
 (try clear hb)
 (try clear hb2)
 (try clear hk)
 (try clear hi)
 (try clear ho0)
 (try clear ho1)
 (try clear ho2)
 obtain ⟨Ao59, co59, eo59⟩ := Kd.R_slice HO209.out
 (first | subst eo59 | (injection eo59 with f1_ f2_ f3_; have f4_ := f1_.symm; have f5_ := f3_.symm; clear f1_ f2_ f3_; subst f4_; subst f5_))
 obtain ⟨Ao60, co60, eo60⟩ := Kd.R_slice HO212.out
 (first | subst eo60 | (injection eo60 with f1_ f2_ f3_; have f4_ := f1_.symm; have f5_ := f3_.symm; clear f1_ f2_ f3_; subst f4_; subst f5_))
 obtain ⟨Ao61, co61, eo61⟩ := Kd.R_slice HO215.out
 (first | subst eo61 | (injection eo61 with f1_ f2_ f3_; have f4_ := f1_.symm; have f5_ := f3_.symm; clear f1_ f2_ f3_; subst f4_; subst f5_))
 refine hK.out _ _ (by first | exact ⟨(blk_cell BK178.out 0).trans rfl, (blk_cell BK178.out 1).trans rfl, (blk_cell BK178.out 2).trans rfl, (blk_cell BK178.out 3).trans rfl, (blk_cell BK178.out 4).trans rfl, (blk_cell BK178.out 5).trans rfl, (blk_cell BK178.out 6).trans rfl, (blk_cell BK161.out 0).trans rfl, (blk_cell BK161.out 1).trans rfl, (blk_cell BK161.out 2).trans rfl, (blk_cell BK192.out 0).trans rfl, (blk_cell BK192.out 1).trans rfl, (blk_cell BK192.out 2).trans rfl, (blk_cell BK192.out 3).trans rfl, (blk_cell BK192.out 4).trans rfl, (blk_cell BK192.out 5).trans rfl, (blk_cell BK192.out 6).trans rfl, HS17_, HS18_, HS19_, HS20_⟩ | exact hHeld) (fun hHeld => ?_)
 clear hK K
 refine norm_ (a' := ?_) ?_ ?_
 rotate_left
 ·show Act.put _ (some 61) _ = _
  simp only [Act.put, sA_, sZ_, sS_, i64_w, i32_w]
  rfl
 refine one_ (i := 36) (N := some 62) (bf_ 51 137438953471) rfl rfl (one_of HT_.out (by kernel_rfl)) (by decide) (fun K hK => ?_)
 refine goes_ Try.func21 (by kernel_rfl) rfl #[.agg #[.int .i64 2, .slice Ao25 y155.length co25, .slice Ao24 y158.length co24], .agg #[.int .i64 t203, .int .i64 t204, .int .i64 t205, .string t206, .slice Ao59 t207.length co59, .slice Ao60 t210.length co60, .slice Ao61 t213.length co61]] (by rfl) rfl rfl (by (try simp only [List.map_toArray, List.map_cons, List.map_nil]); first | done | rfl | (simp only [List.length_drop, List.length_take]; rfl)) ?_
 with_reducible refine (occurrence_Free.calls 2 _ _ y155 _ _ y158 t203 t204 t205 t206 _ _ t207 _ _ t210 _ _ t213 true _ ?side1 ?side2 ?side3 ?side4 ?side5 ?side6 ?side7 ?side8 ?side9 ?side10 A13.out).mono ?_
 (case side1 => repeat (first | exact (Kd.R_reads' HO157.out).2.2 | (with_reducible refine Kd.C_alloc ?_ _) | (with_reducible refine Kd.C_drewN ?_ _) | (with_reducible refine Kd.C_drew ?_)))
 (case side2 => exact (Kd.R_reads' HO157.out).2.1)
 (case side3 => repeat (first | exact (Kd.R_reads' HO160.out).2.2 | (with_reducible refine Kd.C_alloc ?_ _) | (with_reducible refine Kd.C_drewN ?_ _) | (with_reducible refine Kd.C_drew ?_)))
 (case side4 => exact (Kd.R_reads' HO160.out).2.1)
 (case side5 => repeat (first | exact (Kd.R_reads' HO209.out).2.2 | (with_reducible refine Kd.C_alloc ?_ _) | (with_reducible refine Kd.C_drewN ?_ _) | (with_reducible refine Kd.C_drew ?_)))
 (case side6 => exact (Kd.R_reads' HO209.out).2.1)
 (case side7 => repeat (first | exact (Kd.R_reads' HO212.out).2.2 | (with_reducible refine Kd.C_alloc ?_ _) | (with_reducible refine Kd.C_drewN ?_ _) | (with_reducible refine Kd.C_drew ?_)))
 (case side8 => exact (Kd.R_reads' HO212.out).2.1)
 (case side9 => repeat (first | exact (Kd.R_reads' HO215.out).2.2 | (with_reducible refine Kd.C_alloc ?_ _) | (with_reducible refine Kd.C_drewN ?_ _) | (with_reducible refine Kd.C_drew ?_)))
 (case side10 => exact (Kd.R_reads' HO215.out).2.1)
 rintro e w62 ⟨rfl, hb⟩
 have HS17_ := (hb.cell (World.block_lt_of_cell? _ _ (hHeld.2.2.2.2.2.2.2.2.2.2.2.2.2.2.2.2.2.1))).trans (hHeld.2.2.2.2.2.2.2.2.2.2.2.2.2.2.2.2.2.1)
 have HS18_ := (hb.cell (World.block_lt_of_cell? _ _ (hHeld.2.2.2.2.2.2.2.2.2.2.2.2.2.2.2.2.2.2.1))).trans (hHeld.2.2.2.2.2.2.2.2.2.2.2.2.2.2.2.2.2.2.1)
 have HS19_ := (hb.cell (World.block_lt_of_cell? _ _ (hHeld.2.2.2.2.2.2.2.2.2.2.2.2.2.2.2.2.2.2.2.1))).trans (hHeld.2.2.2.2.2.2.2.2.2.2.2.2.2.2.2.2.2.2.2.1)
 have HS20_ := (hb.cell (World.block_lt_of_cell? _ _ (hHeld.2.2.2.2.2.2.2.2.2.2.2.2.2.2.2.2.2.2.2.2))).trans (hHeld.2.2.2.2.2.2.2.2.2.2.2.2.2.2.2.2.2.2.2.2)
 refine ⟨_, rfl, ?_⟩
 have n0_ := Aside0.mk (Kd.R_below (rk_ HO157.out) hb)
 have n1_ := Aside0.mk (Kd.R_below (rk_ HO160.out) hb)
 have n2_ := Aside0.mk (Kd.R_below (rk_ HO164.out) hb)
 have n3_ := Aside0.mk (Kd.R_below (rk_ HO171.out) hb)
 have n4_ := Aside0.mk (Kd.R_below (rk_ HO174.out) hb)
 have n5_ := Aside0.mk (Kd.R_below (rk_ HO177.out) hb)
 have n6_ := Aside0.mk (Kd.R_below (rk_ HO185.out) hb)
 have n7_ := Aside0.mk (Kd.R_below (rk_ HO188.out) hb)
 have n8_ := Aside0.mk (Kd.R_below (rk_ HO191.out) hb)
 have n9_ := Aside0.mk (Kd.R_below (rk_ HO196.out) hb)
 have n10_ := Aside0.mk (Kd.R_below (rk_ HO209.out) hb)
 have n11_ := Aside0.mk (Kd.R_below (rk_ HO212.out) hb)
 have n12_ := Aside0.mk (Kd.R_below (rk_ HO215.out) hb)
 have n13_ := Aside0.mk (blk_below (g := gb154) (o := .cells #[.int .i64 1, .int .i64 1, .int .i64 1, .int .i64 0, .int .i64 0, .int .i64 0] 64 (0, 0)) (bk_ BK154.out) hb)
 have n14_ := Aside0.mk (blk_below (g := gb161) (o := .cells #[.int .i64 2, .slice Ao25 y155.length co25, .slice Ao24 y158.length co24] 36 (0, 0)) (bk_ BK161.out) hb)
 have n15_ := Aside0.mk (blk_below (g := gb178) (o := .cells #[.int .i64 t165, .int .i64 t166, .int .i64 t167, .string t168, .slice Ao38 t169.length co38, .slice Ao39 t172.length co39, .slice Ao40 t175.length co40] 42 (0, 0)) (bk_ BK178.out) hb)
 have n16_ := Aside0.mk (blk_below (g := gb192) (o := .cells #[.int .i64 t179, .int .i64 t180, .int .i64 t181, .string t182, .slice Ao48 t183.length co48, .slice Ao49 t186.length co49, .slice Ao50 t189.length co50] 42 (0, 0)) (bk_ BK192.out) hb)
 have n17_ := Aside0.mk (Kd.C_below (by repeat (first | (with_reducible exact HR202.out) | (with_reducible refine Kd.C_alloc ?_ _) | (with_reducible refine Kd.C_drewN ?_ _) | (with_reducible refine Kd.C_drew ?_) | exact HR202.out)) hb)
 have n18_ := bt_ hb
 clear HO157
 clear HO160
 clear HO164
 clear HO171
 clear HO174
 clear HO177
 clear HO185
 clear HO188
 clear HO191
 clear HO196
 clear HO209
 clear HO212
 clear HO215
 clear BK154
 clear BK161
 clear BK178
 clear BK192
 clear HR202
 clear HB
 have HO157 := n0_
 have HO160 := n1_
 have HO164 := n2_
 have HO171 := n3_
 have HO174 := n4_
 have HO177 := n5_
 have HO185 := n6_
 have HO188 := n7_
 have HO191 := n8_
 have HO196 := n9_
 have HO209 := n10_
 have HO212 := n11_
 have HO215 := n12_
 have BK154 := n13_
 have BK161 := n14_
 have BK178 := n15_
 have BK192 := n16_
 have HR202 := n17_
 have HB := n18_
 clear n0_ n1_ n2_ n3_ n4_ n5_ n6_ n7_ n8_ n9_ n10_ n11_ n12_ n13_ n14_ n15_ n16_ n17_ n18_
 (try clear hb)
 (try clear hb2)
 (try clear hk)
 (try clear hi)
 refine hK.out _ _ (by first | exact ⟨(blk_cell BK178.out 0).trans rfl, (blk_cell BK178.out 1).trans rfl, (blk_cell BK178.out 2).trans rfl, (blk_cell BK178.out 3).trans rfl, (blk_cell BK178.out 4).trans rfl, (blk_cell BK178.out 5).trans rfl, (blk_cell BK178.out 6).trans rfl, (blk_cell BK161.out 0).trans rfl, (blk_cell BK161.out 1).trans rfl, (blk_cell BK161.out 2).trans rfl, (blk_cell BK192.out 0).trans rfl, (blk_cell BK192.out 1).trans rfl, (blk_cell BK192.out 2).trans rfl, (blk_cell BK192.out 3).trans rfl, (blk_cell BK192.out 4).trans rfl, (blk_cell BK192.out 5).trans rfl, (blk_cell BK192.out 6).trans rfl, HS17_, HS18_, HS19_, HS20_⟩ | exact hHeld) (fun hHeld => ?_)
 clear hK K
 refine norm_ (a' := ?_) ?_ ?_
 rotate_left
 ·show Act.put _ (some 62) _ = _
  simp only [Act.put, sA_, sZ_, sS_, i64_w, i32_w]
  rfl
 refine pure_ (i := 37) (N := some 63) (v := ?_) (a' := ?_) (bf_ 51 274877906943) rfl rfl (any_of HT_.out (by kernel_rfl)) (fun _ _ _ h => h) (Or.inl ⟨by rfl, ?_⟩) ?_ ?_
 rotate_left
 ·intro w'
  go_simp
  with_reducible rfl
 rotate_left
 ·simp only [Act.put, sA_, sZ_, sS_, i64_w, i32_w]
  rfl
 refine pure_ (i := 38) (N := some 64) (v := ?_) (a' := ?_) (bf_ 51 549755813887) rfl rfl (any_of HT_.out (by kernel_rfl)) (fun _ _ _ h => h) (Or.inl ⟨by rfl, ?_⟩) ?_ ?_
 rotate_left
 ·intro w'
  go_simp
  with_reducible rfl
 rotate_left
 ·simp only [Act.put, sA_, sZ_, sS_, i64_w, i32_w]
  rfl
 refine pure_ (i := 39) (N := some 65) (v := ?_) (a' := ?_) (bf_ 51 1099511627775) rfl rfl (any_of HT_.out (by kernel_rfl)) (fun _ _ _ h => h) (Or.inl ⟨by rfl, ?_⟩) ?_ ?_
 rotate_left
 ·intro w'
  go_simp
  with_reducible rfl
 rotate_left
 ·simp only [Act.put, sA_, sZ_, sS_, i64_w, i32_w]
  rfl
 refine pure_ (i := 41) (N := some 67) (v := ?_) (a' := ?_) (bf_ 51 3298534883327) rfl rfl (any_of HT_.out (by kernel_rfl)) (fun _ _ _ h => h) (Or.inl ⟨by rfl, ?_⟩) ?_ ?_
 rotate_left
 ·intro w'
  go_simp
  with_reducible rfl
 rotate_left
 ·simp only [Act.put, sA_, sZ_, sS_, i64_w, i32_w]
  rfl
 refine take_ (i := 40) (N := some 66) (v := ?_) (a' := ?_) (bf_ 51 4398046511103) rfl rfl (take_ofW HT_.out HW_.out (by kernel_rfl)) (fun _ _ _ h => h) (Or.inl ⟨by rfl, ?_⟩) hHeld ?_ ?_
 rotate_left
 ·rintro w' ⟨s0, s1, s2, s3, s4, s5, s6, s7, s8, s9, s10, s11, s12, s13, s14, s15, s16, s17, s18, s19, s20⟩
  go_simp
  with_reducible rfl
 rotate_left
 ·simp only [Act.put, sA_, sZ_, sS_, i64_w, i32_w]
  rfl
 refine pure_ (i := 42) (N := some 68) (v := ?_) (a' := ?_) (bf_ 51 8796093022207) rfl rfl (any_of HT_.out (by kernel_rfl)) (fun _ _ _ h => h) (Or.inl ⟨by rfl, ?_⟩) ?_ ?_
 rotate_left
 ·intro w'
  go_simp
  with_reducible rfl
 rotate_left
 ·simp only [Act.put, sA_, sZ_, sS_, i64_w, i32_w]
  rfl
 refine pure_ (i := 43) (N := some 69) (v := ?_) (a' := ?_) (bf_ 51 17592186044415) rfl rfl (any_of HT_.out (by kernel_rfl)) (fun _ _ _ h => h) (Or.inl ⟨by rfl, ?_⟩) ?_ ?_
 rotate_left
 ·intro w'
  go_simp
  with_reducible rfl
 rotate_left
 ·simp only [Act.put, sA_, sZ_, sS_, i64_w, i32_w]
  rfl
 refine pure_ (i := 44) (N := some 70) (v := ?_) (a' := ?_) (bf_ 51 35184372088831) rfl rfl (any_of HT_.out (by kernel_rfl)) (fun _ _ _ h => h) (Or.inl ⟨by rfl, ?_⟩) ?_ ?_
 rotate_left
 ·intro w'
  go_simp
  with_reducible rfl
 rotate_left
 ·simp only [Act.put, sA_, sZ_, sS_, i64_w, i32_w]
  rfl
 refine pure_ (i := 45) (N := some 71) (v := ?_) (a' := ?_) (bf_ 51 70368744177663) rfl rfl (any_of HT_.out (by kernel_rfl)) (fun _ _ _ h => h) (Or.inl ⟨by rfl, ?_⟩) ?_ ?_
 rotate_left
 ·intro w'
  go_simp
  with_reducible rfl
 rotate_left
 ·simp only [Act.put, sA_, sZ_, sS_, i64_w, i32_w]
  rfl
 refine take_ (i := 46) (N := some 72) (v := ?_) (a' := ?_) (bf_ 51 140737488355327) rfl rfl (take_ofW HT_.out HW_.out (by kernel_rfl)) (fun _ _ _ h => h) (Or.inl ⟨by rfl, ?_⟩) hHeld ?_ ?_
 rotate_left
 ·rintro w' ⟨s0, s1, s2, s3, s4, s5, s6, s7, s8, s9, s10, s11, s12, s13, s14, s15, s16, s17, s18, s19, s20⟩
  go_simp
  with_reducible rfl
 rotate_left
 ·simp only [Act.put, sA_, sZ_, sS_, i64_w, i32_w]
  rfl
 refine one_ (i := 47) (N := some 73) (bf_ 51 281474976710655) rfl rfl (one_of HT_.out (by kernel_rfl)) (by decide) (fun K hK => ?_)
 refine Kd.R_lit_step (Kd.int .i64) _ 3 ?hg (N := 73) ?hd (xs := ([0] : List Int)) (inner := [.int .i64 0]) (ok := fun _ => True) (okp := fun _ => True) ?hr ?hp (fun _ hk => hk) trivial (Below.refl _ _) (Nat.le_refl _) (by simp) ?_; (case hd => rfl); (case hg => rfl); (case hr => first | (go_simp; done) | (go_simp; rfl)); (case hp => exact (Reps.one (show Kd.M (Kd.int .i64) _ _ _ 0 [.int .i64 0] from rfl) (Reps.none _ _)))
 intro v218 w63 ho64 hb hg_ hnew_
 have HS17_ := (hb.cell (World.block_lt_of_cell? _ _ (hHeld.2.2.2.2.2.2.2.2.2.2.2.2.2.2.2.2.2.1))).trans (hHeld.2.2.2.2.2.2.2.2.2.2.2.2.2.2.2.2.2.1)
 have HS18_ := (hb.cell (World.block_lt_of_cell? _ _ (hHeld.2.2.2.2.2.2.2.2.2.2.2.2.2.2.2.2.2.2.1))).trans (hHeld.2.2.2.2.2.2.2.2.2.2.2.2.2.2.2.2.2.2.1)
 have HS19_ := (hb.cell (World.block_lt_of_cell? _ _ (hHeld.2.2.2.2.2.2.2.2.2.2.2.2.2.2.2.2.2.2.2.1))).trans (hHeld.2.2.2.2.2.2.2.2.2.2.2.2.2.2.2.2.2.2.2.1)
 have HS20_ := (hb.cell (World.block_lt_of_cell? _ _ (hHeld.2.2.2.2.2.2.2.2.2.2.2.2.2.2.2.2.2.2.2.2))).trans (hHeld.2.2.2.2.2.2.2.2.2.2.2.2.2.2.2.2.2.2.2.2)
 clear hg_ hnew_
 (first | rw [← Ny217.out] at ho64 | (simp only [Int.reduceToNat] at ho64; rw [← Ny217.out] at ho64))
 have n0_ := Aside0.mk (Kd.R_below (rk_ HO157.out) hb)
 have n1_ := Aside0.mk (Kd.R_below (rk_ HO160.out) hb)
 have n2_ := Aside0.mk (Kd.R_below (rk_ HO164.out) hb)
 have n3_ := Aside0.mk (Kd.R_elder' (rk_ HO171.out) (Kd.R_base ho64) hb)
 have n4_ := Aside0.mk (Kd.R_elder' (rk_ HO174.out) (Kd.R_base ho64) hb)
 have n5_ := Aside0.mk (Kd.R_elder' (rk_ HO177.out) (Kd.R_base ho64) hb)
 have n6_ := Aside0.mk (Kd.R_elder' (rk_ HO185.out) (Kd.R_base ho64) hb)
 have n7_ := Aside0.mk (Kd.R_elder' (rk_ HO188.out) (Kd.R_base ho64) hb)
 have n8_ := Aside0.mk (Kd.R_elder' (rk_ HO191.out) (Kd.R_base ho64) hb)
 have n9_ := Aside0.mk (Kd.R_elder' (rk_ HO196.out) (Kd.R_base ho64) hb)
 have n10_ := Aside0.mk (Kd.R_elder' (rk_ HO209.out) (Kd.R_base ho64) hb)
 have n11_ := Aside0.mk (Kd.R_elder' (rk_ HO212.out) (Kd.R_base ho64) hb)
 have n12_ := Aside0.mk (Kd.R_elder' (rk_ HO215.out) (Kd.R_base ho64) hb)
 have n13_ := Aside0.mk (Kd.R_lower (Kd.R_new' (Kd.R_new' (Kd.R_new' (Kd.R_new' (Kd.R_new' (Kd.R_new' (Kd.R_new' (Kd.R_new' (Kd.R_new' (Kd.R_new' ho64 (Kd.R_lt (rk_ HO171.out))) (Kd.R_lt (rk_ HO174.out))) (Kd.R_lt (rk_ HO177.out))) (Kd.R_lt (rk_ HO185.out))) (Kd.R_lt (rk_ HO188.out))) (Kd.R_lt (rk_ HO191.out))) (Kd.R_lt (rk_ HO196.out))) (Kd.R_lt (rk_ HO209.out))) (Kd.R_lt (rk_ HO212.out))) (Kd.R_lt (rk_ HO215.out))) bz_)
 have n14_ := Aside0.mk (blk_below (g := gb154) (o := .cells #[.int .i64 1, .int .i64 1, .int .i64 1, .int .i64 0, .int .i64 0, .int .i64 0] 64 (0, 0)) (bk_ BK154.out) hb)
 have n15_ := Aside0.mk (blk_below (g := gb161) (o := .cells #[.int .i64 2, .slice Ao25 y155.length co25, .slice Ao24 y158.length co24] 36 (0, 0)) (bk_ BK161.out) hb)
 have n16_ := Aside0.mk (blk_below (g := gb178) (o := .cells #[.int .i64 t165, .int .i64 t166, .int .i64 t167, .string t168, .slice Ao38 t169.length co38, .slice Ao39 t172.length co39, .slice Ao40 t175.length co40] 42 (0, 0)) (bk_ BK178.out) hb)
 have n17_ := Aside0.mk (blk_below (g := gb192) (o := .cells #[.int .i64 t179, .int .i64 t180, .int .i64 t181, .string t182, .slice Ao48 t183.length co48, .slice Ao49 t186.length co49, .slice Ao50 t189.length co50] 42 (0, 0)) (bk_ BK192.out) hb)
 have n18_ := Aside0.mk (Kd.C_below (by repeat (first | (with_reducible exact HR202.out) | (with_reducible refine Kd.C_alloc ?_ _) | (with_reducible refine Kd.C_drewN ?_ _) | (with_reducible refine Kd.C_drew ?_) | exact HR202.out)) hb)
 have n19_ := bt_ hb
 clear HO157
 clear HO160
 clear HO164
 clear HO171
 clear HO174
 clear HO177
 clear HO185
 clear HO188
 clear HO191
 clear HO196
 clear HO209
 clear HO212
 clear HO215
 clear BK154
 clear BK161
 clear BK178
 clear BK192
 clear HR202
 clear HB
 have HO157 := n0_
 have HO160 := n1_
 have HO164 := n2_
 have HO171 := n3_
 have HO174 := n4_
 have HO177 := n5_
 have HO185 := n6_
 have HO188 := n7_
 have HO191 := n8_
 have HO196 := n9_
 have HO209 := n10_
 have HO212 := n11_
 have HO215 := n12_
 have HO219 := n13_
 have BK154 := n14_
 have BK161 := n15_
 have BK178 := n16_
 have BK192 := n17_
 have HR202 := n18_
 have HB := n19_
 clear n0_ n1_ n2_ n3_ n4_ n5_ n6_ n7_ n8_ n9_ n10_ n11_ n12_ n13_ n14_ n15_ n16_ n17_ n18_ n19_
 clear hb ho64
 obtain ⟨Ao65, co65, eo65⟩ := Kd.R_slice HO219.out
 (first | subst eo65 | (injection eo65 with f1_ f2_ f3_; have f4_ := f1_.symm; have f5_ := f3_.symm; clear f1_ f2_ f3_; subst f4_; subst f5_))
 refine hK.out _ _ (by first | exact ⟨(blk_cell BK178.out 0).trans rfl, (blk_cell BK178.out 1).trans rfl, (blk_cell BK178.out 2).trans rfl, (blk_cell BK178.out 3).trans rfl, (blk_cell BK178.out 4).trans rfl, (blk_cell BK178.out 5).trans rfl, (blk_cell BK178.out 6).trans rfl, (blk_cell BK161.out 0).trans rfl, (blk_cell BK161.out 1).trans rfl, (blk_cell BK161.out 2).trans rfl, (blk_cell BK192.out 0).trans rfl, (blk_cell BK192.out 1).trans rfl, (blk_cell BK192.out 2).trans rfl, (blk_cell BK192.out 3).trans rfl, (blk_cell BK192.out 4).trans rfl, (blk_cell BK192.out 5).trans rfl, (blk_cell BK192.out 6).trans rfl, HS17_, HS18_, HS19_, HS20_⟩ | exact hHeld) (fun hHeld => ?_)
 clear hK K
 refine norm_ (a' := ?_) ?_ ?_
 rotate_left
 ·show Act.put _ (some 73) _ = _
  simp only [Act.put, sA_, sZ_, sS_, i64_w, i32_w]
  rfl
 refine one_ (i := 48) (N := some 74) (bf_ 51 562949953421311) rfl rfl (one_of HT_.out (by kernel_rfl)) (by decide) (fun K hK => ?_)
 refine goes_ Try.func27 (by kernel_rfl) rfl #[.slice Ao49 t186.length co49, .slice Ao65 y217.length co65] (by rfl) rfl rfl (by (try simp only [List.map_toArray, List.map_cons, List.map_nil]); first | done | rfl | (simp only [List.length_drop, List.length_take]; rfl)) ?_
 with_reducible refine (computusref08_Numbers.calls k _ _ t186 _ _ y217 t220 _ ?side1 ?side2 ?side3 ?side4 A16.out).mono ?_
 (case side1 => repeat (first | exact (Kd.R_reads' HO188.out).2.2 | (with_reducible refine Kd.C_alloc ?_ _) | (with_reducible refine Kd.C_drewN ?_ _) | (with_reducible refine Kd.C_drew ?_)))
 (case side2 => exact (Kd.R_reads' HO188.out).2.1)
 (case side3 => repeat (first | exact (Kd.R_reads' HO219.out).2.2 | (with_reducible refine Kd.C_alloc ?_ _) | (with_reducible refine Kd.C_drewN ?_ _) | (with_reducible refine Kd.C_drew ?_)))
 (case side4 => exact (Kd.R_reads' HO219.out).2.1)
 rintro e w' ⟨rfl, ⟨nd, rfl⟩⟩
 refine ⟨_, rfl, ?_⟩
 refine hK.out _ _ (by first | exact ⟨(blk_cell BK178.out 0).trans rfl, (blk_cell BK178.out 1).trans rfl, (blk_cell BK178.out 2).trans rfl, (blk_cell BK178.out 3).trans rfl, (blk_cell BK178.out 4).trans rfl, (blk_cell BK178.out 5).trans rfl, (blk_cell BK178.out 6).trans rfl, (blk_cell BK161.out 0).trans rfl, (blk_cell BK161.out 1).trans rfl, (blk_cell BK161.out 2).trans rfl, (blk_cell BK192.out 0).trans rfl, (blk_cell BK192.out 1).trans rfl, (blk_cell BK192.out 2).trans rfl, (blk_cell BK192.out 3).trans rfl, (blk_cell BK192.out 4).trans rfl, (blk_cell BK192.out 5).trans rfl, (blk_cell BK192.out 6).trans rfl, hHeld.2.2.2.2.2.2.2.2.2.2.2.2.2.2.2.2.2.1, hHeld.2.2.2.2.2.2.2.2.2.2.2.2.2.2.2.2.2.2.1, hHeld.2.2.2.2.2.2.2.2.2.2.2.2.2.2.2.2.2.2.2.1, hHeld.2.2.2.2.2.2.2.2.2.2.2.2.2.2.2.2.2.2.2.2⟩ | exact hHeld) (fun hHeld => ?_)
 clear hK K
 refine norm_ (a' := ?_) ?_ ?_
 rotate_left
 ·show Act.put _ (some 74) _ = _
  simp only [Act.put, sA_, sZ_, sS_, i64_w, i32_w]
  rfl
 refine pure_ (i := 49) (N := some 75) (v := ?_) (a' := ?_) (bf_ 51 1125899906842623) rfl rfl (any_of HT_.out (by kernel_rfl)) (fun _ _ _ h => h) (Or.inl ⟨by rfl, ?_⟩) ?_ ?_
 rotate_left
 ·intro w'
  go_simp
  with_reducible rfl
 rotate_left
 ·simp only [Act.put, sA_, sZ_, sS_, i64_w, i32_w]
  rfl
 refine pure_ (i := 50) (N := some 0) (v := ?_) (a' := ?_) (bf_ 51 2251799813685247) rfl rfl (any_of HT_.out (by kernel_rfl)) (fun _ _ _ h => h) (Or.inl ⟨by rfl, ?_⟩) ?_ ?_
 rotate_left
 ·intro w'
  go_simp
  with_reducible rfl
 rotate_left
 ·simp only [Act.put, sA_, sZ_, sS_, i64_w, i32_w]
  rfl
 refine done_ (done_of HT_.out (by kernel_rfl)) ?_
 try go_wp2
 go_ret
 exact rt_
end
def computusref17_Few.f (a0_0 : Int) (l0_1 : List (S66)) (l0_2 : List (S68)) : Option (Bool) := if (l0_1.length : Int) ≤ 8 then (some (decide ((l0_2.length : Int) ≤ 30))) else (some false)
set_option maxHeartbeats 8000000 in
set_option maxRecDepth 100000 in
theorem computusref17_Few.calls (a0_0 : Int) (A0_1 : Option Addr) (c0_1 : Nat) (l0_1 : List (S66)) (A0_2 : Option Addr) (c0_2 : Nat) (l0_2 : List (S68)) (r : Bool) (w : World) (hr0_1 : Kd.C k66 w A0_1 l0_1.length l0_1) (hc0_1 : l0_1.length ≤ c0_1) (hr0_2 : Kd.C k68 w A0_2 l0_2.length l0_2) (hc0_2 : l0_2.length ≤ c0_2) (h : computusref17_Few.f a0_0 l0_1 l0_2 = some r) :
  Calls Try.prog 31 #[.agg #[.int .i64 a0_0, .slice A0_1 l0_1.length c0_1, .slice A0_2 l0_2.length c0_2]] w fun e w' => e = .returned (.bool r) ∧ Below w.heap.size w w' := by
 have hu36 := Try.underlying36
 have HR0_1 := Aside0.mk hr0_1
 have HC0_1 := Aside0.mk hc0_1
 clear hr0_1 hc0_1
 have HR0_2 := Aside0.mk hr0_2
 have HC0_2 := Aside0.mk hc0_2
 clear hr0_2 hc0_2
 have HB := Aside0.mk (Below.refl w.heap.size w)
 have H := h
 clear h
 unfold computusref17_Few.f at H
 by_cases c2 : (l0_1.length : Int) ≤ 8
 ·rw [if_pos c2] at H
  have c2b0 : decide ((l0_1.length : Int) ≤ 8) = true := decide_eq_true c2
  have c2b1 : decide (l0_1.length ≤ 8) = true := decide_eq_true (by omega)
  clear c2
  obtain rfl := Option.some.inj H
  go_enter Try.func31, Try.ntmps31
  go_wp2_with (first | ((with_reducible refine gate_dst (N := 1) rfl ?_); (try (refine gate_guard (by rfl) ?_; dsimp only)); refine bx_ (w := w) (N := 1) (cs := #[.int .i64 a0_0, .slice A0_1 l0_1.length c0_1, .slice A0_2 l0_2.length c0_2]) (t := 36) ?_; intro gb221 w3 BK221 n0_ GW221 GE221; clear HB; have HB := n0_; clear n0_; obtain ⟨hcz4_0, hcz4_1, hcz4_2⟩ := cz3_ BK221.out; obtain ⟨hfz4_0, hfz4_1, hfz4_2⟩ := fz3_ BK221.out))
  go_ret
  exact rt_
 rw [if_neg c2] at H
 have c2b0 : decide ((l0_1.length : Int) ≤ 8) = false := decide_eq_false c2
 have c2b1 : decide (l0_1.length ≤ 8) = false := decide_eq_false (by omega)
 clear c2
 obtain rfl := Option.some.inj H
 go_enter Try.func31, Try.ntmps31
 go_wp2_with (first | ((with_reducible refine gate_dst (N := 1) rfl ?_); (try (refine gate_guard (by rfl) ?_; dsimp only)); refine bx_ (w := w) (N := 1) (cs := #[.int .i64 a0_0, .slice A0_1 l0_1.length c0_1, .slice A0_2 l0_2.length c0_2]) (t := 36) ?_; intro gb221 w5 BK221 n0_ GW221 GE221; clear HB; have HB := n0_; clear n0_; obtain ⟨hcz6_0, hcz6_1, hcz6_2⟩ := cz3_ BK221.out; obtain ⟨hfz6_0, hfz6_1, hfz6_2⟩ := fz3_ BK221.out))
 go_ret
 exact rt_
mutual
def computusref17_Identifier.j0 : Nat → ByteArray → Bool → Option (Bool)
 | 0, _, _ => none
 | k + 1, x0, x12 => if x12 = true then (some false) else (computusref17_Identifier.l0 k x0 0)
def computusref17_Identifier.l0 : Nat → ByteArray → Int → Option (Bool)
 | 0, _, _ => none
 | k + 1, x0, x3 => if x3 < (x0.size : Int) then (if 0 ≤ x3 then (if (bt x0 x3) ≥ 97 then (computusref17_Identifier.j2 k x0 x3 (bt x0 x3) (decide ((bt x0 x3) ≤ 122))) else (computusref17_Identifier.j2 k x0 x3 (bt x0 x3) false)) else (none)) else (some true)
def computusref17_Identifier.j2 : Nat → ByteArray → Int → Int → Bool → Option (Bool)
 | 0, _, _, _, _ => none
 | k + 1, x0, x3, x4, x27 => if x27 = true then (computusref17_Identifier.l0 k x0 (wrap64 (x3 + 1))) else (if x4 ≥ 48 then (if x4 ≤ 57 then (computusref17_Identifier.j3 k x0 x3 x4 (decide (x3 > 0))) else (computusref17_Identifier.j3 k x0 x3 x4 false)) else (computusref17_Identifier.j3 k x0 x3 x4 false))
def computusref17_Identifier.j3 : Nat → ByteArray → Int → Int → Bool → Option (Bool)
 | 0, _, _, _, _ => none
 | k + 1, x0, x3, x4, x37 => if x37 = true then (computusref17_Identifier.l0 k x0 (wrap64 (x3 + 1))) else (if x4 = 45 then (if x3 = 0 then (some false) else (if x3 = (wrap64 ((x0.size : Int) - 1)) then (some false) else (if 0 ≤ (wrap64 (x3 - 1)) then (if (wrap64 (x3 - 1)) < (x0.size : Int) then (if (bt x0 (wrap64 (x3 - 1))) = 45 then (some false) else (computusref17_Identifier.l0 k x0 (wrap64 (x3 + 1)))) else (none)) else (none)))) else (some false))
end
def computusref17_Identifier.f (k : Nat) (a0 : ByteArray) : Option (Bool) := if (a0.size : Int) < 1 then (computusref17_Identifier.j0 k a0 true) else (computusref17_Identifier.j0 k a0 (decide ((a0.size : Int) > 40)))
theorem computusref17_Identifier.mono_l : ∀ k, (∀ y0 y1, LeO (computusref17_Identifier.j0 k y0 y1) (computusref17_Identifier.j0 (k + 1) y0 y1)) ∧ (∀ y0 y1, LeO (computusref17_Identifier.l0 k y0 y1) (computusref17_Identifier.l0 (k + 1) y0 y1)) ∧ (∀ y0 y1 y2 y3, LeO (computusref17_Identifier.j2 k y0 y1 y2 y3) (computusref17_Identifier.j2 (k + 1) y0 y1 y2 y3)) ∧ (∀ y0 y1 y2 y3, LeO (computusref17_Identifier.j3 k y0 y1 y2 y3) (computusref17_Identifier.j3 (k + 1) y0 y1 y2 y3))
 | 0 => ⟨fun _ _ r h => by simp [computusref17_Identifier.j0] at h, fun _ _ r h => by simp [computusref17_Identifier.l0] at h, fun _ _ _ _ r h => by simp [computusref17_Identifier.j2] at h, fun _ _ _ _ r h => by simp [computusref17_Identifier.j3] at h⟩
 | k + 1 => by
  obtain ⟨ih0, ih1, ih2, ih3⟩ := computusref17_Identifier.mono_l k
  refine ⟨?_, ?_, ?_, ?_⟩
  ·intro y0 y1
   unfold computusref17_Identifier.j0
   repeat' first | (with_reducible first | exact ih0 _ _ | exact ih1 _ _ | exact ih2 _ _ _ _ | exact ih3 _ _ _ _ | exact LeO.refl _ | exact LeO.none _ | refine LeO.ite ?_ ?_ | refine LeO.bind ?_ (fun _ => ?_)) | exact LeO.none _ | refine LeO.ite ?_ ?_ | refine LeO.bind ?_ (fun _ => ?_)
  ·intro y0 y1
   unfold computusref17_Identifier.l0
   repeat' first | (with_reducible first | exact ih0 _ _ | exact ih1 _ _ | exact ih2 _ _ _ _ | exact ih3 _ _ _ _ | exact LeO.refl _ | exact LeO.none _ | refine LeO.ite ?_ ?_ | refine LeO.bind ?_ (fun _ => ?_)) | exact LeO.none _ | refine LeO.ite ?_ ?_ | refine LeO.bind ?_ (fun _ => ?_)
  ·intro y0 y1 y2 y3
   unfold computusref17_Identifier.j2
   repeat' first | (with_reducible first | exact ih0 _ _ | exact ih1 _ _ | exact ih2 _ _ _ _ | exact ih3 _ _ _ _ | exact LeO.refl _ | exact LeO.none _ | refine LeO.ite ?_ ?_ | refine LeO.bind ?_ (fun _ => ?_)) | exact LeO.none _ | refine LeO.ite ?_ ?_ | refine LeO.bind ?_ (fun _ => ?_)
  ·intro y0 y1 y2 y3
   unfold computusref17_Identifier.j3
   repeat' first | (with_reducible first | exact ih0 _ _ | exact ih1 _ _ | exact ih2 _ _ _ _ | exact ih3 _ _ _ _ | exact LeO.refl _ | exact LeO.none _ | refine LeO.ite ?_ ?_ | refine LeO.bind ?_ (fun _ => ?_)) | exact LeO.none _ | refine LeO.ite ?_ ?_ | refine LeO.bind ?_ (fun _ => ?_)
theorem computusref17_Identifier.mono : ∀ a0 k, LeO (computusref17_Identifier.f k a0) (computusref17_Identifier.f (k + 1) a0) := by
 intro a0 k
 obtain ⟨ih0, ih1, ih2, ih3⟩ := computusref17_Identifier.mono_l k
 unfold computusref17_Identifier.f
 repeat' first | (with_reducible first | exact ih0 _ _ | exact ih1 _ _ | exact ih2 _ _ _ _ | exact ih3 _ _ _ _ | exact LeO.refl _ | exact LeO.none _ | refine LeO.ite ?_ ?_ | refine LeO.bind ?_ (fun _ => ?_)) | exact LeO.none _ | refine LeO.ite ?_ ?_ | refine LeO.bind ?_ (fun _ => ?_)
set_option maxHeartbeats 8000000 in
set_option maxRecDepth 100000 in
theorem computusref17_Identifier.calls (k : Nat) (a0 : ByteArray) (r : Bool) (w : World) (h : computusref17_Identifier.f k a0 = some r) :
  Calls Try.prog 56 #[.string a0] w fun e w' => e = .returned (.bool r) ∧ Drawn0 w w' := by
 have H := h
 clear h
 unfold computusref17_Identifier.f at H
 have HC2 := Aside0.mk H
 clear H
 go_enter Try.func56, Try.ntmps56
 go_upto_region 1 with (fail)
 go_cut [12] (fun v12 wc => ∃ (kq : Nat) (x12_1 : Bool), v12 = .bool x12_1 ∧ Aside0 (computusref17_Identifier.j0 kq a0 x12_1 = some r) ∧ Aside0 (kq ≤ k) ∧ Drawn0 w wc)
 case first =>
  have H := HC2.out
  clear HC2
  by_cases c3 : (a0.size : Int) < 1
  ·rw [if_pos c3] at H
   have c3b0 : decide ((a0.size : Int) < 1) = true := decide_eq_true c3
   have c3b1 : decide (a0.size < 1) = true := decide_eq_true (by omega)
   clear c3
   (first | rw [c3b0] | (simp only [i64_w, i32_w]; rw [c3b0]) | skip)
   have H' := Aside0.mk H
   clear H
   go_wp2
   go_meet
   case rel => exact ⟨_, (true), rs_, H', ⟨by first | omega | exact Nat.le_refl _⟩, by repeat (first | exact Drawn0.refl _ | apply Drawn0.step)⟩
  rw [if_neg c3] at H
  have c3b0 : decide ((a0.size : Int) < 1) = false := decide_eq_false c3
  have c3b1 : decide (a0.size < 1) = false := decide_eq_false (by omega)
  clear c3
  (first | rw [c3b0] | (simp only [i64_w, i32_w]; rw [c3b0]) | skip)
  have H' := Aside0.mk H
  clear H
  go_wp2
  go_meet
  case rel => exact ⟨_, (decide ((a0.size : Int) > 40)), rs_, H', ⟨by first | omega | exact Nat.le_refl _⟩, by repeat (first | exact Drawn0.refl _ | apply Drawn0.step)⟩
 case rest =>
  clear HC2
  try clear p2
  try clear c3
  try clear c3b0
  try clear c3b1
  obtain ⟨kq, x12_1, rfl, HA, HJ1, ⟨mc1, rfl⟩⟩ := hcut
  cases kq with
  | zero => exact absurd HA.out (by simp [computusref17_Identifier.j0])
  | succ kj1 =>
   have H := HA.out
   clear HA
   simp only [computusref17_Identifier.j0] at H
   by_cases c4 : x12_1 = true
   ·subst c4
    replace H := it_ H
    obtain rfl := Option.some.inj H
    go_wp2
    go_ret
    exact ⟨by first | rfl | (simp; done) | (simp [*]; done), by repeat (first | exact Drawn0.refl _ | apply Drawn0.step)⟩
   replace c4 := Bool.eq_false_iff.mpr c4
   subst c4
   replace H := if_ H
   have H' := Aside0.mk H
   clear H
   go_wp2
   go_loopg [3] kj1 (fun kq v3 w' => ∃ (x3_2 : Int), v3 = .int .i64 x3_2 ∧ Aside0 (computusref17_Identifier.l0 kq a0 x3_2 = some r) ∧ Aside0 (kq ≤ kj1) ∧ Drawn0 w w')
   case atStart => exact ⟨(0), rs_, H', ⟨Nat.le_refl _⟩, by repeat (first | exact Drawn0.refl _ | apply Drawn0.step)⟩
   case round =>
    clear H'
    try clear c1
    try clear p2
    try clear c3
    try clear c3b0
    try clear c3b1
    try clear c4
    try clear p2
    obtain ⟨x3_2, rfl, HA, HK2, ⟨m2, rfl⟩⟩ := hrel
    cases gk with
    | zero => exact absurd HA.out (by simp [computusref17_Identifier.l0])
    | succ k2 =>
     have H := HA.out
     clear HA
     simp only [computusref17_Identifier.l0] at H
     by_cases c5 : x3_2 < (a0.size : Int)
     rotate_left
     ·rw [if_neg c5] at H
      have c5b0 : decide (x3_2 < (a0.size : Int)) = false := decide_eq_false c5
      clear c5
      obtain rfl := Option.some.inj H
      go_wp2
      go_ret
      exact ⟨by first | rfl | (simp; done) | (simp [*]; done), by repeat (first | exact Drawn0.refl _ | apply Drawn0.step)⟩
     rw [if_pos c5] at H
     have c5b0 : decide (x3_2 < (a0.size : Int)) = true := decide_eq_true c5
     clear c5
     by_cases c6 : 0 ≤ x3_2
     rotate_left
     ·rw [if_neg c6] at H
      exact absurd H (by simp)
     rw [if_pos c6] at H
     have c6b0 : decide (0 ≤ x3_2) = true := decide_eq_true c6
     clear c6
     have HC8 := Aside0.mk H
     clear H
     have p7 : 0 ≤ (x3_2 : Int) := of_decide_eq_true as_
     have q7 : x3_2 < (a0.size : Int) := of_decide_eq_true as_
     have hx7 := bt_at a0 x3_2
     replace p7 := eq_true p7
     replace q7 := eq_true q7
     go_upto_region 7 with (fail)
     go_cut [27] (fun v27 wc => ∃ (kq : Nat) (x27_7 : Bool), v27 = .bool x27_7 ∧ Aside0 (computusref17_Identifier.j2 kq a0 x3_2 (bt a0 x3_2) x27_7 = some r) ∧ Aside0 (kq ≤ k2) ∧ Drawn0 w wc)
     case first =>
      have H := HC8.out
      clear HC8
      by_cases c9 : (bt a0 x3_2) ≥ 97
      rotate_left
      ·rw [if_neg c9] at H
       have c9b0 : decide (97 ≤ (bt a0 x3_2)) = false := decide_eq_false c9
       clear c9
       (first | rw [c9b0] | (simp only [i64_w, i32_w]; rw [c9b0]) | skip)
       have H' := Aside0.mk H
       clear H
       go_wp2
       go_meet
       case rel => exact ⟨_, (false), rs_, H', ⟨by have := HJ1.out; have := HK2.out; first | omega | exact Nat.le_refl _⟩, by repeat (first | exact Drawn0.refl _ | apply Drawn0.step)⟩
      rw [if_pos c9] at H
      have c9b0 : decide (97 ≤ (bt a0 x3_2)) = true := decide_eq_true c9
      clear c9
      (first | rw [c9b0] | (simp only [i64_w, i32_w]; rw [c9b0]) | skip)
      have H' := Aside0.mk H
      clear H
      go_wp2
      go_meet
      case rel => exact ⟨_, (decide ((bt a0 x3_2) ≤ 122)), rs_, H', ⟨by have := HJ1.out; have := HK2.out; first | omega | exact Nat.le_refl _⟩, by repeat (first | exact Drawn0.refl _ | apply Drawn0.step)⟩
     case rest =>
      clear HC8
      try clear c1
      try clear p2
      try clear c3
      try clear c3b0
      try clear c3b1
      try clear c4
      try clear c5
      try clear c5b0
      try clear c6
      try clear c6b0
      try clear p7
      try clear q7
      try clear hx7
      try clear c9
      try clear c9b0
      try clear p2
      try clear p7
      try clear q7
      obtain ⟨kq, x27_7, rfl, HA, HJ7, ⟨mc7, rfl⟩⟩ := hcut
      cases kq with
      | zero => exact absurd HA.out (by simp [computusref17_Identifier.j2])
      | succ kj7 =>
       have H := HA.out
       clear HA
       simp only [computusref17_Identifier.j2] at H
       by_cases c10 : x27_7 = true
       ·subst c10
        replace H := it_ H
        have H' := Aside0.mk H
        clear H
        go_wp2
        go_roundg kj7
        case measure => have := HJ1.out; have := HK2.out; have := HJ7.out; omega
        case rel => exact ⟨(wrap64 (x3_2 + 1)), rs_, H', ⟨by have := HJ1.out; have := HK2.out; have := HJ7.out; omega⟩, by repeat (first | exact Drawn0.refl _ | apply Drawn0.step)⟩
       replace c10 := Bool.eq_false_iff.mpr c10
       subst c10
       replace H := if_ H
       have HC11 := Aside0.mk H
       clear H
       go_upto_region 8 with (fail)
       go_cut [37] (fun v37 wc => ∃ (kq : Nat) (x37_10 : Bool), v37 = .bool x37_10 ∧ Aside0 (computusref17_Identifier.j3 kq a0 x3_2 (bt a0 x3_2) x37_10 = some r) ∧ Aside0 (kq ≤ kj7) ∧ Drawn0 w wc)
       case first =>
        have H := HC11.out
        clear HC11
        by_cases c12 : (bt a0 x3_2) ≥ 48
        rotate_left
        ·rw [if_neg c12] at H
         have c12b0 : decide (48 ≤ (bt a0 x3_2)) = false := decide_eq_false c12
         clear c12
         (first | rw [c12b0] | (simp only [i64_w, i32_w]; rw [c12b0]) | skip)
         have H' := Aside0.mk H
         clear H
         go_wp2
         go_meet
         case rel => exact ⟨_, (false), rs_, H', ⟨by have := HJ1.out; have := HK2.out; have := HJ7.out; first | omega | exact Nat.le_refl _⟩, by repeat (first | exact Drawn0.refl _ | apply Drawn0.step)⟩
        rw [if_pos c12] at H
        have c12b0 : decide (48 ≤ (bt a0 x3_2)) = true := decide_eq_true c12
        clear c12
        (first | rw [c12b0] | (simp only [i64_w, i32_w]; rw [c12b0]) | skip)
        by_cases c13 : (bt a0 x3_2) ≤ 57
        rotate_left
        ·rw [if_neg c13] at H
         have c13b0 : decide ((bt a0 x3_2) ≤ 57) = false := decide_eq_false c13
         clear c13
         have H' := Aside0.mk H
         clear H
         go_wp2
         go_meet
         case rel => exact ⟨_, (false), rs_, H', ⟨by have := HJ1.out; have := HK2.out; have := HJ7.out; first | omega | exact Nat.le_refl _⟩, by repeat (first | exact Drawn0.refl _ | apply Drawn0.step)⟩
        rw [if_pos c13] at H
        have c13b0 : decide ((bt a0 x3_2) ≤ 57) = true := decide_eq_true c13
        clear c13
        have H' := Aside0.mk H
        clear H
        go_wp2
        go_meet
        case rel => exact ⟨_, (decide (x3_2 > 0)), rs_, H', ⟨by have := HJ1.out; have := HK2.out; have := HJ7.out; first | omega | exact Nat.le_refl _⟩, by repeat (first | exact Drawn0.refl _ | apply Drawn0.step)⟩
       case rest =>
        clear HC11
        try clear c1
        try clear p2
        try clear c3
        try clear c3b0
        try clear c3b1
        try clear c4
        try clear c5
        try clear c5b0
        try clear c6
        try clear c6b0
        try clear p6
        try clear c7
        try clear p7
        try clear q7
        try clear hx7
        try clear c9
        try clear c9b0
        try clear c10
        try clear c12
        try clear c12b0
        try clear c13
        try clear c13b0
        try clear p2
        try clear p7
        try clear q7
        obtain ⟨kq, x37_10, rfl, HA, HJ10, ⟨mc10, rfl⟩⟩ := hcut
        cases kq with
        | zero => exact absurd HA.out (by simp [computusref17_Identifier.j3])
        | succ kj10 =>
         have H := HA.out
         clear HA
         simp only [computusref17_Identifier.j3] at H
         by_cases c14 : x37_10 = true
         ·subst c14
          replace H := it_ H
          have H' := Aside0.mk H
          clear H
          go_wp2
          go_roundg kj10
          case measure => have := HJ1.out; have := HK2.out; have := HJ7.out; have := HJ10.out; omega
          case rel => exact ⟨(wrap64 (x3_2 + 1)), rs_, H', ⟨by have := HJ1.out; have := HK2.out; have := HJ7.out; have := HJ10.out; omega⟩, by repeat (first | exact Drawn0.refl _ | apply Drawn0.step)⟩
         replace c14 := Bool.eq_false_iff.mpr c14
         subst c14
         replace H := if_ H
         by_cases c15 : (bt a0 x3_2) = 45
         rotate_left
         ·rw [if_neg c15] at H
          have c15b0 : ((bt a0 x3_2) == 45) = false := beq_eq_false_iff_ne.mpr c15
          have c15b1 : ((bt a0 x3_2) != 45) = true := bne_iff_ne.mpr c15
          obtain rfl := Option.some.inj H
          go_wp2
          go_ret
          exact ⟨by first | rfl | (simp; done) | (simp [*]; done), by repeat (first | exact Drawn0.refl _ | apply Drawn0.step)⟩
         rw [if_pos c15] at H
         have c15b0 : ((bt a0 x3_2) == 45) = true := beq_iff_eq.mpr c15
         have c15b1 : ((bt a0 x3_2) != 45) = false := bne_eq_false_iff_eq.mpr c15
         clear c15
         by_cases c16 : x3_2 = 0
         ·rw [if_pos c16] at H
          have c16b0 : (x3_2 == 0) = true := beq_iff_eq.mpr c16
          have c16b1 : (x3_2 != 0) = false := bne_eq_false_iff_eq.mpr c16
          clear c16
          obtain rfl := Option.some.inj H
          go_wp2
          go_ret
          exact ⟨by first | rfl | (simp; done) | (simp [*]; done), by repeat (first | exact Drawn0.refl _ | apply Drawn0.step)⟩
         rw [if_neg c16] at H
         have c16b0 : (x3_2 == 0) = false := beq_eq_false_iff_ne.mpr c16
         have c16b1 : (x3_2 != 0) = true := bne_iff_ne.mpr c16
         by_cases c17 : x3_2 = (wrap64 ((a0.size : Int) - 1))
         ·rw [if_pos c17] at H
          have c17b0 : (x3_2 == (wrap64 ((a0.size : Int) - 1))) = true := beq_iff_eq.mpr c17
          have c17b1 : (x3_2 != (wrap64 ((a0.size : Int) - 1))) = false := bne_eq_false_iff_eq.mpr c17
          clear c17
          obtain rfl := Option.some.inj H
          go_wp2
          go_ret
          exact ⟨by first | rfl | (simp; done) | (simp [*]; done), by repeat (first | exact Drawn0.refl _ | apply Drawn0.step)⟩
         rw [if_neg c17] at H
         have c17b0 : (x3_2 == (wrap64 ((a0.size : Int) - 1))) = false := beq_eq_false_iff_ne.mpr c17
         have c17b1 : (x3_2 != (wrap64 ((a0.size : Int) - 1))) = true := bne_iff_ne.mpr c17
         obtain ⟨ji18, hji18⟩ : ∃ j_ : Int, (wrap64 (x3_2 - 1)) = j_ := ⟨_, rfl⟩
         replace H : (if 0 ≤ (ji18) then (if (ji18) < (a0.size : Int) then (if (bt a0 (ji18)) = 45 then (some false) else (computusref17_Identifier.l0 kj10 a0 (wrap64 (x3_2 + 1)))) else (none)) else (none)) = some r := by first | (rw [hji18] at H; exact H) | (simp only [hji18] at H ⊢; exact H)
         have hji18w : (IntKind.i64.wrap (x3_2 - 1)) = ji18 := (i64_w _).trans hji18
         by_cases c19 : 0 ≤ (ji18)
         rotate_left
         ·rw [if_neg c19] at H
          exact absurd H (by simp)
         rw [if_pos c19] at H
         have c19b0 : decide (0 ≤ (ji18)) = true := decide_eq_true c19
         clear c19
         by_cases c20 : (ji18) < (a0.size : Int)
         rotate_left
         ·rw [if_neg c20] at H
          exact absurd H (by simp)
         rw [if_pos c20] at H
         have c20b0 : decide ((ji18) < (a0.size : Int)) = true := decide_eq_true c20
         clear c20
         by_cases c22 : (bt a0 (ji18)) = 45
         ·rw [if_pos c22] at H
          have c22b0 : ((bt a0 (ji18)) == 45) = true := beq_iff_eq.mpr c22
          have c22b1 : ((bt a0 (ji18)) != 45) = false := bne_eq_false_iff_eq.mpr c22
          clear c22
          obtain rfl := Option.some.inj H
          have p21 : 0 ≤ ((ji18) : Int) := of_decide_eq_true as_
          have q21 : (ji18) < (a0.size : Int) := of_decide_eq_true as_
          have hx21 := bt_at a0 (ji18)
          replace p21 := eq_true p21
          replace q21 := eq_true q21
          go_wp2
          go_ret
          exact ⟨by first | rfl | (simp; done) | (simp only [← hji18] <;> (first | rfl | simp)) | (simp [*]; done), by repeat (first | exact Drawn0.refl _ | apply Drawn0.step)⟩
         rw [if_neg c22] at H
         have c22b0 : ((bt a0 (ji18)) == 45) = false := beq_eq_false_iff_ne.mpr c22
         have c22b1 : ((bt a0 (ji18)) != 45) = true := bne_iff_ne.mpr c22
         have H' := Aside0.mk H
         clear H
         have p21 : 0 ≤ ((ji18) : Int) := of_decide_eq_true as_
         have q21 : (ji18) < (a0.size : Int) := of_decide_eq_true as_
         have hx21 := bt_at a0 (ji18)
         replace p21 := eq_true p21
         replace q21 := eq_true q21
         go_wp2
         go_roundg kj10
         case measure => have := HJ1.out; have := HK2.out; have := HJ7.out; have := HJ10.out; omega
         case rel => exact ⟨(wrap64 (x3_2 + 1)), rs_, H', ⟨by have := HJ1.out; have := HK2.out; have := HJ7.out; have := HJ10.out; omega⟩, by repeat (first | exact Drawn0.refl _ | apply Drawn0.step)⟩
mutual
def computusref02_Length.j0 : Nat → Bool → Int → Bool → Option (Int)
 | 0, _, _, _ => none
 | k + 1, x0, x5, x6 => if x6 = true then (some 31) else (if x5 = 4 then (computusref02_Length.j1 k x0 x5 (x5 == 4)) else (if x5 = 6 then (computusref02_Length.j1 k x0 x5 (x5 == 6)) else (if x5 = 9 then (computusref02_Length.j1 k x0 x5 (x5 == 9)) else (computusref02_Length.j1 k x0 x5 (x5 == 11)))))
def computusref02_Length.j1 : Nat → Bool → Int → Bool → Option (Int)
 | 0, _, _, _ => none
 | k + 1, x0, x5, x14 => if x14 = true then (some 30) else (if x5 = 2 then (if x0 = true then (some 29) else (some 28)) else (some 0))
end
def computusref02_Length.f (k : Nat) (a0 : Bool) (a1 : Int) : Option (Int) := if a1 = 1 then (computusref02_Length.j0 k a0 a1 (a1 == 1)) else (if a1 = 3 then (computusref02_Length.j0 k a0 a1 (a1 == 3)) else (if a1 = 5 then (computusref02_Length.j0 k a0 a1 (a1 == 5)) else (if a1 = 7 then (computusref02_Length.j0 k a0 a1 (a1 == 7)) else (if a1 = 8 then (computusref02_Length.j0 k a0 a1 (a1 == 8)) else (if a1 = 10 then (computusref02_Length.j0 k a0 a1 (a1 == 10)) else (computusref02_Length.j0 k a0 a1 (a1 == 12)))))))
theorem computusref02_Length.mono_l : ∀ k, (∀ y0 y1 y2, LeO (computusref02_Length.j0 k y0 y1 y2) (computusref02_Length.j0 (k + 1) y0 y1 y2)) ∧ (∀ y0 y1 y2, LeO (computusref02_Length.j1 k y0 y1 y2) (computusref02_Length.j1 (k + 1) y0 y1 y2))
 | 0 => ⟨fun _ _ _ r h => by simp [computusref02_Length.j0] at h, fun _ _ _ r h => by simp [computusref02_Length.j1] at h⟩
 | k + 1 => by
  obtain ⟨ih0, ih1⟩ := computusref02_Length.mono_l k
  refine ⟨?_, ?_⟩
  ·intro y0 y1 y2
   unfold computusref02_Length.j0
   repeat' first | (with_reducible first | exact ih0 _ _ _ | exact ih1 _ _ _ | exact LeO.refl _ | exact LeO.none _ | refine LeO.ite ?_ ?_ | refine LeO.bind ?_ (fun _ => ?_)) | exact LeO.none _ | refine LeO.ite ?_ ?_ | refine LeO.bind ?_ (fun _ => ?_)
  ·intro y0 y1 y2
   unfold computusref02_Length.j1
   repeat' first | (with_reducible first | exact ih0 _ _ _ | exact ih1 _ _ _ | exact LeO.refl _ | exact LeO.none _ | refine LeO.ite ?_ ?_ | refine LeO.bind ?_ (fun _ => ?_)) | exact LeO.none _ | refine LeO.ite ?_ ?_ | refine LeO.bind ?_ (fun _ => ?_)
theorem computusref02_Length.mono : ∀ a0 a1 k, LeO (computusref02_Length.f k a0 a1) (computusref02_Length.f (k + 1) a0 a1) := by
 intro a0 a1 k
 obtain ⟨ih0, ih1⟩ := computusref02_Length.mono_l k
 unfold computusref02_Length.f
 repeat' first | (with_reducible first | exact ih0 _ _ _ | exact ih1 _ _ _ | exact LeO.refl _ | exact LeO.none _ | refine LeO.ite ?_ ?_ | refine LeO.bind ?_ (fun _ => ?_)) | exact LeO.none _ | refine LeO.ite ?_ ?_ | refine LeO.bind ?_ (fun _ => ?_)
set_option maxHeartbeats 8000000 in
set_option maxRecDepth 100000 in
theorem computusref02_Length.calls (k : Nat) (a0 : Bool) (a1 : Int) (r : Int) (w : World) (h : computusref02_Length.f k a0 a1 = some r) :
  Calls Try.prog 71 #[.bool a0, .int .i64 a1] w fun e w' => e = .returned (.int .i64 r) ∧ Drawn0 w w' := by
 have H := h
 clear h
 unfold computusref02_Length.f at H
 have HC3 := Aside0.mk H
 clear H
 go_enter Try.func71, Try.ntmps71
 go_upto_if 6 with (fail)
 go_cut [6] (fun v6 wc => ∃ (kq : Nat) (x6_2 : Bool), v6 = .bool x6_2 ∧ Aside0 (computusref02_Length.j0 kq a0 a1 x6_2 = some r) ∧ Aside0 (kq ≤ k) ∧ Drawn0 w wc)
 case first =>
  have H := HC3.out
  clear HC3
  by_cases c4 : a1 = 1
  ·rw [if_pos c4] at H
   have c4b0 : (a1 == 1) = true := beq_iff_eq.mpr c4
   have c4b1 : (a1 != 1) = false := bne_eq_false_iff_eq.mpr c4
   clear c4
   (first | rw [c4b0] | (simp only [i64_w, i32_w]; rw [c4b0]) | skip)
   have H' := Aside0.mk H
   clear H
   go_wp2
   go_meet
   case rel => exact ⟨_, ((a1 == 1)), rs_, H', ⟨by first | omega | exact Nat.le_refl _⟩, by repeat (first | exact Drawn0.refl _ | apply Drawn0.step)⟩
  rw [if_neg c4] at H
  have c4b0 : (a1 == 1) = false := beq_eq_false_iff_ne.mpr c4
  have c4b1 : (a1 != 1) = true := bne_iff_ne.mpr c4
  (first | rw [c4b0] | (simp only [i64_w, i32_w]; rw [c4b0]) | skip)
  by_cases c5 : a1 = 3
  ·rw [if_pos c5] at H
   have c5b0 : (a1 == 3) = true := beq_iff_eq.mpr c5
   have c5b1 : (a1 != 3) = false := bne_eq_false_iff_eq.mpr c5
   clear c5
   have H' := Aside0.mk H
   clear H
   go_wp2
   go_meet
   case rel => exact ⟨_, ((a1 == 3)), rs_, H', ⟨by first | omega | exact Nat.le_refl _⟩, by repeat (first | exact Drawn0.refl _ | apply Drawn0.step)⟩
  rw [if_neg c5] at H
  have c5b0 : (a1 == 3) = false := beq_eq_false_iff_ne.mpr c5
  have c5b1 : (a1 != 3) = true := bne_iff_ne.mpr c5
  by_cases c6 : a1 = 5
  ·rw [if_pos c6] at H
   have c6b0 : (a1 == 5) = true := beq_iff_eq.mpr c6
   have c6b1 : (a1 != 5) = false := bne_eq_false_iff_eq.mpr c6
   clear c6
   have H' := Aside0.mk H
   clear H
   go_wp2
   go_meet
   case rel => exact ⟨_, ((a1 == 5)), rs_, H', ⟨by first | omega | exact Nat.le_refl _⟩, by repeat (first | exact Drawn0.refl _ | apply Drawn0.step)⟩
  rw [if_neg c6] at H
  have c6b0 : (a1 == 5) = false := beq_eq_false_iff_ne.mpr c6
  have c6b1 : (a1 != 5) = true := bne_iff_ne.mpr c6
  by_cases c7 : a1 = 7
  ·rw [if_pos c7] at H
   have c7b0 : (a1 == 7) = true := beq_iff_eq.mpr c7
   have c7b1 : (a1 != 7) = false := bne_eq_false_iff_eq.mpr c7
   clear c7
   have H' := Aside0.mk H
   clear H
   go_wp2
   go_meet
   case rel => exact ⟨_, ((a1 == 7)), rs_, H', ⟨by first | omega | exact Nat.le_refl _⟩, by repeat (first | exact Drawn0.refl _ | apply Drawn0.step)⟩
  rw [if_neg c7] at H
  have c7b0 : (a1 == 7) = false := beq_eq_false_iff_ne.mpr c7
  have c7b1 : (a1 != 7) = true := bne_iff_ne.mpr c7
  by_cases c8 : a1 = 8
  ·rw [if_pos c8] at H
   have c8b0 : (a1 == 8) = true := beq_iff_eq.mpr c8
   have c8b1 : (a1 != 8) = false := bne_eq_false_iff_eq.mpr c8
   clear c8
   have H' := Aside0.mk H
   clear H
   go_wp2
   go_meet
   case rel => exact ⟨_, ((a1 == 8)), rs_, H', ⟨by first | omega | exact Nat.le_refl _⟩, by repeat (first | exact Drawn0.refl _ | apply Drawn0.step)⟩
  rw [if_neg c8] at H
  have c8b0 : (a1 == 8) = false := beq_eq_false_iff_ne.mpr c8
  have c8b1 : (a1 != 8) = true := bne_iff_ne.mpr c8
  by_cases c9 : a1 = 10
  rotate_left
  ·rw [if_neg c9] at H
   have c9b0 : (a1 == 10) = false := beq_eq_false_iff_ne.mpr c9
   have c9b1 : (a1 != 10) = true := bne_iff_ne.mpr c9
   have H' := Aside0.mk H
   clear H
   go_wp2
   go_meet
   case rel => exact ⟨_, ((a1 == 12)), rs_, H', ⟨by first | omega | exact Nat.le_refl _⟩, by repeat (first | exact Drawn0.refl _ | apply Drawn0.step)⟩
  rw [if_pos c9] at H
  have c9b0 : (a1 == 10) = true := beq_iff_eq.mpr c9
  have c9b1 : (a1 != 10) = false := bne_eq_false_iff_eq.mpr c9
  clear c9
  have H' := Aside0.mk H
  clear H
  go_wp2
  go_meet
  case rel => exact ⟨_, ((a1 == 10)), rs_, H', ⟨by first | omega | exact Nat.le_refl _⟩, by repeat (first | exact Drawn0.refl _ | apply Drawn0.step)⟩
 case rest =>
  clear HC3
  try clear p2
  try clear c4
  try clear c4b0
  try clear c4b1
  try clear c5
  try clear c5b0
  try clear c5b1
  try clear c6
  try clear c6b0
  try clear c6b1
  try clear c7
  try clear c7b0
  try clear c7b1
  try clear c8
  try clear c8b0
  try clear c8b1
  try clear c9
  try clear c9b0
  try clear c9b1
  obtain ⟨kq, x6_2, rfl, HA, HJ2, ⟨mc2, rfl⟩⟩ := hcut
  cases kq with
  | zero => exact absurd HA.out (by simp [computusref02_Length.j0])
  | succ kj2 =>
   have H := HA.out
   clear HA
   simp only [computusref02_Length.j0] at H
   by_cases c10 : x6_2 = true
   ·subst c10
    replace H := it_ H
    obtain rfl := Option.some.inj H
    go_wp2
    go_ret
    exact ⟨by first | rfl | (simp; done) | (simp [*]; done), by repeat (first | exact Drawn0.refl _ | apply Drawn0.step)⟩
   replace c10 := Bool.eq_false_iff.mpr c10
   subst c10
   replace H := if_ H
   have HC11 := Aside0.mk H
   clear H
   go_upto_if 14 with (fail)
   go_cut [14] (fun v14 wc => ∃ (kq : Nat) (x14_10 : Bool), v14 = .bool x14_10 ∧ Aside0 (computusref02_Length.j1 kq a0 a1 x14_10 = some r) ∧ Aside0 (kq ≤ kj2) ∧ Drawn0 w wc)
   case first =>
    have H := HC11.out
    clear HC11
    by_cases c12 : a1 = 4
    ·rw [if_pos c12] at H
     have c12b0 : (a1 == 4) = true := beq_iff_eq.mpr c12
     have c12b1 : (a1 != 4) = false := bne_eq_false_iff_eq.mpr c12
     clear c12
     (first | rw [c12b0] | (simp only [i64_w, i32_w]; rw [c12b0]) | skip)
     have H' := Aside0.mk H
     clear H
     go_wp2
     go_meet
     case rel => exact ⟨_, ((a1 == 4)), rs_, H', ⟨by have := HJ2.out; first | omega | exact Nat.le_refl _⟩, by repeat (first | exact Drawn0.refl _ | apply Drawn0.step)⟩
    rw [if_neg c12] at H
    have c12b0 : (a1 == 4) = false := beq_eq_false_iff_ne.mpr c12
    have c12b1 : (a1 != 4) = true := bne_iff_ne.mpr c12
    (first | rw [c12b0] | (simp only [i64_w, i32_w]; rw [c12b0]) | skip)
    by_cases c13 : a1 = 6
    ·rw [if_pos c13] at H
     have c13b0 : (a1 == 6) = true := beq_iff_eq.mpr c13
     have c13b1 : (a1 != 6) = false := bne_eq_false_iff_eq.mpr c13
     clear c13
     have H' := Aside0.mk H
     clear H
     go_wp2
     go_meet
     case rel => exact ⟨_, ((a1 == 6)), rs_, H', ⟨by have := HJ2.out; first | omega | exact Nat.le_refl _⟩, by repeat (first | exact Drawn0.refl _ | apply Drawn0.step)⟩
    rw [if_neg c13] at H
    have c13b0 : (a1 == 6) = false := beq_eq_false_iff_ne.mpr c13
    have c13b1 : (a1 != 6) = true := bne_iff_ne.mpr c13
    by_cases c14 : a1 = 9
    rotate_left
    ·rw [if_neg c14] at H
     have c14b0 : (a1 == 9) = false := beq_eq_false_iff_ne.mpr c14
     have c14b1 : (a1 != 9) = true := bne_iff_ne.mpr c14
     have H' := Aside0.mk H
     clear H
     go_wp2
     go_meet
     case rel => exact ⟨_, ((a1 == 11)), rs_, H', ⟨by have := HJ2.out; first | omega | exact Nat.le_refl _⟩, by repeat (first | exact Drawn0.refl _ | apply Drawn0.step)⟩
    rw [if_pos c14] at H
    have c14b0 : (a1 == 9) = true := beq_iff_eq.mpr c14
    have c14b1 : (a1 != 9) = false := bne_eq_false_iff_eq.mpr c14
    clear c14
    have H' := Aside0.mk H
    clear H
    go_wp2
    go_meet
    case rel => exact ⟨_, ((a1 == 9)), rs_, H', ⟨by have := HJ2.out; first | omega | exact Nat.le_refl _⟩, by repeat (first | exact Drawn0.refl _ | apply Drawn0.step)⟩
   case rest =>
    clear HC11
    try clear c1
    try clear c2
    try clear p2
    try clear c4
    try clear c4b0
    try clear c4b1
    try clear c5
    try clear c5b0
    try clear c5b1
    try clear c6
    try clear c6b0
    try clear c6b1
    try clear c7
    try clear c7b0
    try clear c7b1
    try clear c8
    try clear c8b0
    try clear c8b1
    try clear c9
    try clear c9b0
    try clear c9b1
    try clear c10
    try clear c12
    try clear c12b0
    try clear c12b1
    try clear c13
    try clear c13b0
    try clear c13b1
    try clear c14
    try clear c14b0
    try clear c14b1
    try clear p2
    obtain ⟨kq, x14_10, rfl, HA, HJ10, ⟨mc10, rfl⟩⟩ := hcut
    cases kq with
    | zero => exact absurd HA.out (by simp [computusref02_Length.j1])
    | succ kj10 =>
     have H := HA.out
     clear HA
     simp only [computusref02_Length.j1] at H
     by_cases c15 : x14_10 = true
     ·subst c15
      replace H := it_ H
      obtain rfl := Option.some.inj H
      go_wp2
      go_ret
      exact ⟨by first | rfl | (simp; done) | (simp [*]; done), by repeat (first | exact Drawn0.refl _ | apply Drawn0.step)⟩
     replace c15 := Bool.eq_false_iff.mpr c15
     subst c15
     replace H := if_ H
     by_cases c16 : a1 = 2
     rotate_left
     ·rw [if_neg c16] at H
      have c16b0 : (a1 == 2) = false := beq_eq_false_iff_ne.mpr c16
      have c16b1 : (a1 != 2) = true := bne_iff_ne.mpr c16
      obtain rfl := Option.some.inj H
      go_wp2
      go_ret
      exact ⟨by first | rfl | (simp; done) | (simp [*]; done), by repeat (first | exact Drawn0.refl _ | apply Drawn0.step)⟩
     rw [if_pos c16] at H
     have c16b0 : (a1 == 2) = true := beq_iff_eq.mpr c16
     have c16b1 : (a1 != 2) = false := bne_eq_false_iff_eq.mpr c16
     clear c16
     by_cases c17 : a0 = true
     ·subst c17
      replace H := it_ H
      obtain rfl := Option.some.inj H
      go_wp2
      go_ret
      exact ⟨by first | rfl | (simp; done) | (simp [*]; done), by repeat (first | exact Drawn0.refl _ | apply Drawn0.step)⟩
     replace c17 := Bool.eq_false_iff.mpr c17
     subst c17
     replace H := if_ H
     obtain rfl := Option.some.inj H
     go_wp2
     go_ret
     exact ⟨by first | rfl | (simp; done) | (simp [*]; done), by repeat (first | exact Drawn0.refl _ | apply Drawn0.step)⟩
def computusref08_Exists.f (k : Nat) (a0 : Int) (a1 : Int) : Option (Bool) := if a1 ≥ 1 then ((computusref02_Length.f k false a0).bind fun t222 => (some (decide (a1 ≤ t222)))) else (some false)
theorem computusref08_Exists.mono : ∀ a0 a1 k, LeO (computusref08_Exists.f k a0 a1) (computusref08_Exists.f (k + 1) a0 a1) := by
 intro a0 a1 k
 unfold computusref08_Exists.f
 repeat' first | (with_reducible first | exact computusref02_Length.mono _ _ _ | exact LeO.refl _ | exact LeO.none _ | refine LeO.ite ?_ ?_ | refine LeO.bind ?_ (fun _ => ?_)) | exact LeO.none _ | refine LeO.ite ?_ ?_ | refine LeO.bind ?_ (fun _ => ?_)
set_option maxHeartbeats 8000000 in
set_option maxRecDepth 100000 in
theorem computusref08_Exists.calls (k : Nat) (a0 : Int) (a1 : Int) (r : Bool) (w : World) (h : computusref08_Exists.f k a0 a1 = some r) :
  Calls Try.prog 64 #[.int .i64 a0, .int .i64 a1] w fun e w' => e = .returned (.bool r) ∧ Drawn0 w w' := by
 have H := h
 clear h
 unfold computusref08_Exists.f at H
 by_cases c3 : a1 ≥ 1
 rotate_left
 ·rw [if_neg c3] at H
  have c3b0 : decide (1 ≤ a1) = false := decide_eq_false c3
  clear c3
  obtain rfl := Option.some.inj H
  go_enter Try.func64, Try.ntmps64
  go_wp2
  go_ret
  exact ⟨by first | rfl | (simp; done) | (simp [*]; done), by repeat (first | exact Drawn0.refl _ | apply Drawn0.step)⟩
 rw [if_pos c3] at H
 have c3b0 : decide (1 ≤ a1) = true := decide_eq_true c3
 clear c3
 obtain ⟨t222, A4, H⟩ := bs_ H
 obtain rfl := Option.some.inj H
 go_enter Try.func64, Try.ntmps64
 go_wp2_with (first | (go_at_call 71; (with_reducible refine (computusref02_Length.calls k false a0 t222 _ A4.out).mono ?_); rintro e w' ⟨rfl, ⟨nd, rfl⟩⟩))
 go_ret
 exact ⟨by first | rfl | (simp; done) | (simp [*]; done), by repeat (first | exact Drawn0.refl _ | apply Drawn0.step)⟩
def computusref03_First.f (a0 : Int) : Option (Int) := some (wrap64 ((wrap64 ((wrap64 ((wrap64 ((wrap64 (365 * (wrap64 (a0 - 1)))) + (wrap64 (Int.tdiv (wrap64 (a0 - 1)) 4)))) - (wrap64 (Int.tdiv (wrap64 (a0 - 1)) 100)))) + (wrap64 (Int.tdiv (wrap64 (a0 - 1)) 400)))) + 1))
set_option maxHeartbeats 8000000 in
set_option maxRecDepth 100000 in
theorem computusref03_First.calls (a0 : Int) (r : Int) (w : World) (h : computusref03_First.f a0 = some r) :
  Calls Try.prog 34 #[.int .i64 a0] w fun e w' => e = .returned (.int .i64 r) ∧ Drawn0 w w' := by
 have H := h
 clear h
 unfold computusref03_First.f at H
 obtain rfl := Option.some.inj H
 go_enter Try.func34, Try.ntmps34
 go_wp2
 go_ret
 exact ⟨by first | rfl | (simp; done) | (simp [*]; done), by repeat (first | exact Drawn0.refl _ | apply Drawn0.step)⟩
def computusref02_In.f (a0 : Int) : Option (Bool) := if a0 ≥ 1 then (some (decide (a0 ≤ 1000000000))) else (some false)
set_option maxHeartbeats 8000000 in
set_option maxRecDepth 100000 in
theorem computusref02_In.calls (a0 : Int) (r : Bool) (w : World) (h : computusref02_In.f a0 = some r) :
  Calls Try.prog 69 #[.int .i64 a0] w fun e w' => e = .returned (.bool r) ∧ Drawn0 w w' := by
 have H := h
 clear h
 unfold computusref02_In.f at H
 by_cases c2 : a0 ≥ 1
 ·rw [if_pos c2] at H
  have c2b0 : decide (1 ≤ a0) = true := decide_eq_true c2
  clear c2
  obtain rfl := Option.some.inj H
  go_enter Try.func69, Try.ntmps69
  go_wp2
  go_ret
  exact ⟨by first | rfl | (simp; done) | (simp [*]; done), by repeat (first | exact Drawn0.refl _ | apply Drawn0.step)⟩
 rw [if_neg c2] at H
 have c2b0 : decide (1 ≤ a0) = false := decide_eq_false c2
 clear c2
 obtain rfl := Option.some.inj H
 go_enter Try.func69, Try.ntmps69
 go_wp2
 go_ret
 exact ⟨by first | rfl | (simp; done) | (simp [*]; done), by repeat (first | exact Drawn0.refl _ | apply Drawn0.step)⟩
def computusref01_Div.f (a0 : Int) (a1 : Int) : Option (Int) := if a1 = 0 then (none) else (if (wrap64 ((wrap64 (Int.tdiv a0 a1)) * a1)) = a0 then (some (wrap64 (Int.tdiv a0 a1))) else (if ((decide (a0 < 0)) != (decide (a1 < 0))) = true then (some (wrap64 ((wrap64 (Int.tdiv a0 a1)) - 1))) else (some (wrap64 (Int.tdiv a0 a1)))))
set_option maxHeartbeats 8000000 in
set_option maxRecDepth 100000 in
theorem computusref01_Div.calls (a0 : Int) (a1 : Int) (r : Int) (w : World) (h : computusref01_Div.f a0 a1 = some r) :
  Calls Try.prog 66 #[.int .i64 a0, .int .i64 a1] w fun e w' => e = .returned (.int .i64 r) ∧ Drawn0 w w' := by
 have H := h
 clear h
 unfold computusref01_Div.f at H
 by_cases c3 : a1 = 0
 ·rw [if_pos c3] at H
  exact absurd H (by simp)
 rw [if_neg c3] at H
 have c3b0 : (a1 == 0) = false := beq_eq_false_iff_ne.mpr c3
 have c3b1 : (a1 != 0) = true := bne_iff_ne.mpr c3
 by_cases c4 : (wrap64 ((wrap64 (Int.tdiv a0 a1)) * a1)) = a0
 ·rw [if_pos c4] at H
  have c4b0 : ((wrap64 ((wrap64 (Int.tdiv a0 a1)) * a1)) == a0) = true := beq_iff_eq.mpr c4
  have c4b1 : ((wrap64 ((wrap64 (Int.tdiv a0 a1)) * a1)) != a0) = false := bne_eq_false_iff_eq.mpr c4
  clear c4
  obtain rfl := Option.some.inj H
  go_enter Try.func66, Try.ntmps66
  go_wp2
  all_goals (first | (exfalso; simp_all; done) | (exfalso; simp_all; omega) | (go_ret; exact ⟨by first | rfl | (simp; done) | (simp [*]; done), by repeat (first | exact Drawn0.refl _ | apply Drawn0.step)⟩))
 rw [if_neg c4] at H
 have c4b0 : ((wrap64 ((wrap64 (Int.tdiv a0 a1)) * a1)) == a0) = false := beq_eq_false_iff_ne.mpr c4
 have c4b1 : ((wrap64 ((wrap64 (Int.tdiv a0 a1)) * a1)) != a0) = true := bne_iff_ne.mpr c4
 by_cases c5 : ((decide (a0 < 0)) != (decide (a1 < 0))) = true
 rotate_left
 ·rw [if_neg c5] at H
  have c5b0 : ((decide (a0 < 0)) != (decide (a1 < 0))) = false := by simpa using c5
  (try (have c5b1 : decide ((decide (a0 < 0)) = (decide (a1 < 0))) = true := by simpa using c5))
  (try (have c5b2 : ((decide (a0 < 0)) == (decide (a1 < 0))) = true := by simpa using c5))
  clear c5
  obtain rfl := Option.some.inj H
  go_enter Try.func66, Try.ntmps66
  go_wp2
  all_goals (first | (exfalso; simp_all; done) | (exfalso; simp_all; omega) | (go_ret; exact ⟨by first | rfl | (simp; done) | (simp [*]; done), by repeat (first | exact Drawn0.refl _ | apply Drawn0.step)⟩))
 rw [if_pos c5] at H
 have c5b0 : ((decide (a0 < 0)) != (decide (a1 < 0))) = true := c5
 (try (have c5b1 : decide ((decide (a0 < 0)) = (decide (a1 < 0))) = false := by simpa using c5))
 (try (have c5b2 : ((decide (a0 < 0)) == (decide (a1 < 0))) = false := by simpa using c5))
 (try (have c5b3 : ¬ ((decide (a0 < 0)) = (decide (a1 < 0))) := by simpa using c5))
 clear c5
 obtain rfl := Option.some.inj H
 go_enter Try.func66, Try.ntmps66
 go_wp2
 all_goals (first | (exfalso; simp_all; done) | (exfalso; simp_all; omega) | (go_ret; exact ⟨by first | rfl | (simp; done) | (simp [*]; done), by repeat (first | exact Drawn0.refl _ | apply Drawn0.step)⟩))
def computusref01_Mod.f (a0 : Int) (a1 : Int) : Option (Int) := (computusref01_Div.f a0 a1).bind fun t223 => (some (wrap64 (a0 - (wrap64 (a1 * t223)))))
set_option maxHeartbeats 8000000 in
set_option maxRecDepth 100000 in
theorem computusref01_Mod.calls (a0 : Int) (a1 : Int) (r : Int) (w : World) (h : computusref01_Mod.f a0 a1 = some r) :
  Calls Try.prog 58 #[.int .i64 a0, .int .i64 a1] w fun e w' => e = .returned (.int .i64 r) ∧ Drawn0 w w' := by
 have H := h
 clear h
 unfold computusref01_Mod.f at H
 obtain ⟨t223, A3, H⟩ := bs_ H
 obtain rfl := Option.some.inj H
 go_enter Try.func58, Try.ntmps58
 go_wp2_with (first | ((with_reducible refine gate_callee (f := 66) rfl ?_); refine gl_ (some 9) Try.func66 #[.int .i64 a0, .int .i64 a1] ?_; (with_reducible refine (computusref01_Div.calls a0 a1 t223 _ A3.out).mono ?_); rintro e w' ⟨rfl, ⟨nd, rfl⟩⟩; refine ⟨_, rfl, ?_⟩))
 all_goals (first | (exfalso; simp_all; done) | (exfalso; simp_all; omega) | (go_ret; exact ⟨by first | rfl | (simp; done) | (simp [*]; done), by repeat (first | exact Drawn0.refl _ | apply Drawn0.step)⟩))
def computusref03_Leap.f (a0 : Int) : Option (Bool) := (computusref01_Mod.f a0 400).bind fun t224 => (if t224 = 0 then (some true) else ((computusref01_Mod.f a0 4).bind fun t225 => (if t225 = 0 then ((computusref01_Mod.f a0 100).bind fun t226 => (some (t226 != 0))) else (some false))))
set_option maxHeartbeats 8000000 in
set_option maxRecDepth 100000 in
theorem computusref03_Leap.calls (a0 : Int) (r : Bool) (w : World) (h : computusref03_Leap.f a0 = some r) :
  Calls Try.prog 72 #[.int .i64 a0] w fun e w' => e = .returned (.bool r) ∧ Drawn0 w w' := by
 have H := h
 clear h
 unfold computusref03_Leap.f at H
 obtain ⟨t224, A2, H⟩ := bs_ H
 by_cases c3 : t224 = 0
 ·rw [if_pos c3] at H
  have c3b0 : (t224 == 0) = true := beq_iff_eq.mpr c3
  have c3b1 : (t224 != 0) = false := bne_eq_false_iff_eq.mpr c3
  clear c3
  obtain rfl := Option.some.inj H
  go_enter Try.func72, Try.ntmps72
  go_wp2_with (first | ((with_reducible refine gate_callee (f := 58) rfl ?_); refine gl_ (some 4) Try.func58 #[.int .i64 a0, .int .i64 400] ?_; (with_reducible refine (computusref01_Mod.calls a0 400 t224 _ A2.out).mono ?_); rintro e w' ⟨rfl, ⟨nd, rfl⟩⟩; refine ⟨_, rfl, ?_⟩))
  go_ret
  exact ⟨by first | rfl | (simp; done) | (simp [*]; done), by repeat (first | exact Drawn0.refl _ | apply Drawn0.step)⟩
 rw [if_neg c3] at H
 have c3b0 : (t224 == 0) = false := beq_eq_false_iff_ne.mpr c3
 have c3b1 : (t224 != 0) = true := bne_iff_ne.mpr c3
 obtain ⟨t225, A4, H⟩ := bs_ H
 by_cases c5 : t225 = 0
 rotate_left
 ·rw [if_neg c5] at H
  have c5b0 : (t225 == 0) = false := beq_eq_false_iff_ne.mpr c5
  have c5b1 : (t225 != 0) = true := bne_iff_ne.mpr c5
  obtain rfl := Option.some.inj H
  go_enter Try.func72, Try.ntmps72
  go_wp2_with (first | ((with_reducible refine gate_callee (f := 58) rfl ?_); refine gl_ (some 4) Try.func58 #[.int .i64 a0, .int .i64 400] ?_; (with_reducible refine (computusref01_Mod.calls a0 400 t224 _ A2.out).mono ?_); rintro e w' ⟨rfl, ⟨nd, rfl⟩⟩; refine ⟨_, rfl, ?_⟩) | ((with_reducible refine gate_callee (f := 58) rfl ?_); refine gl_ (some 7) Try.func58 #[.int .i64 a0, .int .i64 4] ?_; (with_reducible refine (computusref01_Mod.calls a0 4 t225 _ A4.out).mono ?_); rintro e w' ⟨rfl, ⟨nd, rfl⟩⟩; refine ⟨_, rfl, ?_⟩))
  go_ret
  exact ⟨by first | rfl | (simp; done) | (simp [*]; done), by repeat (first | exact Drawn0.refl _ | apply Drawn0.step)⟩
 rw [if_pos c5] at H
 have c5b0 : (t225 == 0) = true := beq_iff_eq.mpr c5
 have c5b1 : (t225 != 0) = false := bne_eq_false_iff_eq.mpr c5
 clear c5
 obtain ⟨t226, A6, H⟩ := bs_ H
 obtain rfl := Option.some.inj H
 go_enter Try.func72, Try.ntmps72
 go_wp2_with (first | ((with_reducible refine gate_callee (f := 58) rfl ?_); refine gl_ (some 4) Try.func58 #[.int .i64 a0, .int .i64 400] ?_; (with_reducible refine (computusref01_Mod.calls a0 400 t224 _ A2.out).mono ?_); rintro e w' ⟨rfl, ⟨nd, rfl⟩⟩; refine ⟨_, rfl, ?_⟩) | ((with_reducible refine gate_callee (f := 58) rfl ?_); refine gl_ (some 7) Try.func58 #[.int .i64 a0, .int .i64 4] ?_; (with_reducible refine (computusref01_Mod.calls a0 4 t225 _ A4.out).mono ?_); rintro e w' ⟨rfl, ⟨nd, rfl⟩⟩; refine ⟨_, rfl, ?_⟩) | (go_at_call 58; (with_reducible refine (computusref01_Mod.calls a0 100 t226 _ A6.out).mono ?_); rintro e w' ⟨rfl, ⟨nd, rfl⟩⟩))
 go_ret
 exact ⟨by first | rfl | (simp; done) | (simp [*]; done), by repeat (first | exact Drawn0.refl _ | apply Drawn0.step)⟩
def computusref03_Valid.f (k : Nat) (a0_0 : Int) (a0_1 : Int) (a0_2 : Int) : Option (Bool) := (computusref02_In.f a0_0).bind fun t228 => (if t228 = true then (if a0_2 ≥ 1 then ((computusref03_Leap.f a0_0).bind fun t229 => ((computusref02_Length.f k t229 a0_1).bind fun t230 => (some (decide (a0_2 ≤ t230))))) else (some false)) else (some false))
theorem computusref03_Valid.mono : ∀ a0 a1 a2 k, LeO (computusref03_Valid.f k a0 a1 a2) (computusref03_Valid.f (k + 1) a0 a1 a2) := by
 intro a0 a1 a2 k
 unfold computusref03_Valid.f
 repeat' first | (with_reducible first | exact computusref02_Length.mono _ _ _ | exact LeO.refl _ | exact LeO.none _ | refine LeO.ite ?_ ?_ | refine LeO.bind ?_ (fun _ => ?_)) | exact LeO.none _ | refine LeO.ite ?_ ?_ | refine LeO.bind ?_ (fun _ => ?_)
set_option maxHeartbeats 8000000 in
set_option maxRecDepth 100000 in
theorem computusref03_Valid.calls (k : Nat) (a0_0 : Int) (a0_1 : Int) (a0_2 : Int) (r : Bool) (w : World) (h : computusref03_Valid.f k a0_0 a0_1 a0_2 = some r) :
  Calls Try.prog 70 #[.agg #[.int .i64 a0_0, .int .i64 a0_1, .int .i64 a0_2]] w fun e w' => e = .returned (.bool r) ∧ Below w.heap.size w w' := by
 have hu98 := Try.underlying98
 have HB := Aside0.mk (Below.refl w.heap.size w)
 have H := h
 clear h
 unfold computusref03_Valid.f at H
 obtain ⟨t228, A2, H⟩ := bs_ H
 by_cases c3 : t228 = true
 rotate_left
 ·replace c3 := Bool.eq_false_iff.mpr c3
  subst c3
  replace H := if_ H
  obtain rfl := Option.some.inj H
  go_enter Try.func70, Try.ntmps70
  go_wp2_with (first | ((with_reducible refine gate_dst (N := 1) rfl ?_); refine bx_ (w := w) (N := 1) (cs := #[.int .i64 a0_0, .int .i64 a0_1, .int .i64 a0_2]) (t := 98) ?_; intro gb227 w11 BK227 n0_ GW227 GE227; clear HB; have HB := n0_; clear n0_; obtain ⟨hcz12_0, hcz12_1, hcz12_2⟩ := cz3_ BK227.out; obtain ⟨hfz12_0, hfz12_1, hfz12_2⟩ := fz3_ BK227.out) | (go_at_call 69; (with_reducible refine (computusref02_In.calls a0_0 false _ A2.out).mono ?_); rintro e w' ⟨rfl, ⟨nd, rfl⟩⟩; (try first | exact ⟨rfl, _, World.drewN_drewN _ _ _⟩ | exact ⟨rfl, _, Eq.trans (World.drewN_drewN _ _ _) (congrArg (World.drewN _) (Nat.add_assoc _ _ _))⟩)))
  repeat (go_quiet (first | ((with_reducible refine gate_dst (N := 1) rfl ?_); refine bx_ (w := w) (N := 1) (cs := #[.int .i64 a0_0, .int .i64 a0_1, .int .i64 a0_2]) (t := 98) ?_; intro gb227 w11 BK227 n0_ GW227 GE227; clear HB; have HB := n0_; clear n0_; obtain ⟨hcz12_0, hcz12_1, hcz12_2⟩ := cz3_ BK227.out; obtain ⟨hfz12_0, hfz12_1, hfz12_2⟩ := fz3_ BK227.out) | (go_at_call 69; (with_reducible refine (computusref02_In.calls a0_0 false _ A2.out).mono ?_); rintro e w' ⟨rfl, ⟨nd, rfl⟩⟩; (try first | exact ⟨rfl, _, World.drewN_drewN _ _ _⟩ | exact ⟨rfl, _, Eq.trans (World.drewN_drewN _ _ _) (congrArg (World.drewN _) (Nat.add_assoc _ _ _))⟩))); try go_wp2_with (first | ((with_reducible refine gate_dst (N := 1) rfl ?_); refine bx_ (w := w) (N := 1) (cs := #[.int .i64 a0_0, .int .i64 a0_1, .int .i64 a0_2]) (t := 98) ?_; intro gb227 w11 BK227 n0_ GW227 GE227; clear HB; have HB := n0_; clear n0_; obtain ⟨hcz12_0, hcz12_1, hcz12_2⟩ := cz3_ BK227.out; obtain ⟨hfz12_0, hfz12_1, hfz12_2⟩ := fz3_ BK227.out) | (go_at_call 69; (with_reducible refine (computusref02_In.calls a0_0 false _ A2.out).mono ?_); rintro e w' ⟨rfl, ⟨nd, rfl⟩⟩; (try first | exact ⟨rfl, _, World.drewN_drewN _ _ _⟩ | exact ⟨rfl, _, Eq.trans (World.drewN_drewN _ _ _) (congrArg (World.drewN _) (Nat.add_assoc _ _ _))⟩))))
  go_ret
  exact rt_
 subst c3
 replace H := it_ H
 by_cases c4 : a0_2 ≥ 1
 rotate_left
 ·rw [if_neg c4] at H
  have c4b0 : decide (1 ≤ a0_2) = false := decide_eq_false c4
  clear c4
  obtain rfl := Option.some.inj H
  go_enter Try.func70, Try.ntmps70
  go_wp2_with (first | ((with_reducible refine gate_dst (N := 1) rfl ?_); refine bx_ (w := w) (N := 1) (cs := #[.int .i64 a0_0, .int .i64 a0_1, .int .i64 a0_2]) (t := 98) ?_; intro gb227 w9 BK227 n0_ GW227 GE227; clear HB; have HB := n0_; clear n0_; obtain ⟨hcz10_0, hcz10_1, hcz10_2⟩ := cz3_ BK227.out; obtain ⟨hfz10_0, hfz10_1, hfz10_2⟩ := fz3_ BK227.out) | (go_at_call 69; (with_reducible refine (computusref02_In.calls a0_0 true _ A2.out).mono ?_); rintro e w' ⟨rfl, ⟨nd, rfl⟩⟩; (try first | exact ⟨rfl, _, World.drewN_drewN _ _ _⟩ | exact ⟨rfl, _, Eq.trans (World.drewN_drewN _ _ _) (congrArg (World.drewN _) (Nat.add_assoc _ _ _))⟩)))
  repeat (go_quiet (first | ((with_reducible refine gate_dst (N := 1) rfl ?_); refine bx_ (w := w) (N := 1) (cs := #[.int .i64 a0_0, .int .i64 a0_1, .int .i64 a0_2]) (t := 98) ?_; intro gb227 w9 BK227 n0_ GW227 GE227; clear HB; have HB := n0_; clear n0_; obtain ⟨hcz10_0, hcz10_1, hcz10_2⟩ := cz3_ BK227.out; obtain ⟨hfz10_0, hfz10_1, hfz10_2⟩ := fz3_ BK227.out) | (go_at_call 69; (with_reducible refine (computusref02_In.calls a0_0 true _ A2.out).mono ?_); rintro e w' ⟨rfl, ⟨nd, rfl⟩⟩; (try first | exact ⟨rfl, _, World.drewN_drewN _ _ _⟩ | exact ⟨rfl, _, Eq.trans (World.drewN_drewN _ _ _) (congrArg (World.drewN _) (Nat.add_assoc _ _ _))⟩))); try go_wp2_with (first | ((with_reducible refine gate_dst (N := 1) rfl ?_); refine bx_ (w := w) (N := 1) (cs := #[.int .i64 a0_0, .int .i64 a0_1, .int .i64 a0_2]) (t := 98) ?_; intro gb227 w9 BK227 n0_ GW227 GE227; clear HB; have HB := n0_; clear n0_; obtain ⟨hcz10_0, hcz10_1, hcz10_2⟩ := cz3_ BK227.out; obtain ⟨hfz10_0, hfz10_1, hfz10_2⟩ := fz3_ BK227.out) | (go_at_call 69; (with_reducible refine (computusref02_In.calls a0_0 true _ A2.out).mono ?_); rintro e w' ⟨rfl, ⟨nd, rfl⟩⟩; (try first | exact ⟨rfl, _, World.drewN_drewN _ _ _⟩ | exact ⟨rfl, _, Eq.trans (World.drewN_drewN _ _ _) (congrArg (World.drewN _) (Nat.add_assoc _ _ _))⟩))))
  go_ret
  exact rt_
 rw [if_pos c4] at H
 have c4b0 : decide (1 ≤ a0_2) = true := decide_eq_true c4
 clear c4
 obtain ⟨t229, A5, H⟩ := bs_ H
 obtain ⟨t230, A6, H⟩ := bs_ H
 obtain rfl := Option.some.inj H
 go_enter Try.func70, Try.ntmps70
 go_wp2_with (first | ((with_reducible refine gate_dst (N := 1) rfl ?_); refine bx_ (w := w) (N := 1) (cs := #[.int .i64 a0_0, .int .i64 a0_1, .int .i64 a0_2]) (t := 98) ?_; intro gb227 w7 BK227 n0_ GW227 GE227; clear HB; have HB := n0_; clear n0_; obtain ⟨hcz8_0, hcz8_1, hcz8_2⟩ := cz3_ BK227.out; obtain ⟨hfz8_0, hfz8_1, hfz8_2⟩ := fz3_ BK227.out) | (go_at_call 69; (with_reducible refine (computusref02_In.calls a0_0 true _ A2.out).mono ?_); rintro e w' ⟨rfl, ⟨nd, rfl⟩⟩; (try first | exact ⟨rfl, _, World.drewN_drewN _ _ _⟩ | exact ⟨rfl, _, Eq.trans (World.drewN_drewN _ _ _) (congrArg (World.drewN _) (Nat.add_assoc _ _ _))⟩)) | (go_at_call 72; (with_reducible refine (computusref03_Leap.calls a0_0 t229 _ A5.out).mono ?_); rintro e w' ⟨rfl, ⟨nd, rfl⟩⟩; (try first | exact ⟨rfl, _, World.drewN_drewN _ _ _⟩ | exact ⟨rfl, _, Eq.trans (World.drewN_drewN _ _ _) (congrArg (World.drewN _) (Nat.add_assoc _ _ _))⟩)) | (go_at_call 71; (with_reducible refine (computusref02_Length.calls k t229 a0_1 t230 _ A6.out).mono ?_); rintro e w' ⟨rfl, ⟨nd, rfl⟩⟩; (try first | exact ⟨rfl, _, World.drewN_drewN _ _ _⟩ | exact ⟨rfl, _, Eq.trans (World.drewN_drewN _ _ _) (congrArg (World.drewN _) (Nat.add_assoc _ _ _))⟩)))
 repeat (go_quiet (first | ((with_reducible refine gate_dst (N := 1) rfl ?_); refine bx_ (w := w) (N := 1) (cs := #[.int .i64 a0_0, .int .i64 a0_1, .int .i64 a0_2]) (t := 98) ?_; intro gb227 w7 BK227 n0_ GW227 GE227; clear HB; have HB := n0_; clear n0_; obtain ⟨hcz8_0, hcz8_1, hcz8_2⟩ := cz3_ BK227.out; obtain ⟨hfz8_0, hfz8_1, hfz8_2⟩ := fz3_ BK227.out) | (go_at_call 69; (with_reducible refine (computusref02_In.calls a0_0 true _ A2.out).mono ?_); rintro e w' ⟨rfl, ⟨nd, rfl⟩⟩; (try first | exact ⟨rfl, _, World.drewN_drewN _ _ _⟩ | exact ⟨rfl, _, Eq.trans (World.drewN_drewN _ _ _) (congrArg (World.drewN _) (Nat.add_assoc _ _ _))⟩)) | (go_at_call 72; (with_reducible refine (computusref03_Leap.calls a0_0 t229 _ A5.out).mono ?_); rintro e w' ⟨rfl, ⟨nd, rfl⟩⟩; (try first | exact ⟨rfl, _, World.drewN_drewN _ _ _⟩ | exact ⟨rfl, _, Eq.trans (World.drewN_drewN _ _ _) (congrArg (World.drewN _) (Nat.add_assoc _ _ _))⟩)) | (go_at_call 71; (with_reducible refine (computusref02_Length.calls k t229 a0_1 t230 _ A6.out).mono ?_); rintro e w' ⟨rfl, ⟨nd, rfl⟩⟩; (try first | exact ⟨rfl, _, World.drewN_drewN _ _ _⟩ | exact ⟨rfl, _, Eq.trans (World.drewN_drewN _ _ _) (congrArg (World.drewN _) (Nat.add_assoc _ _ _))⟩))); try go_wp2_with (first | ((with_reducible refine gate_dst (N := 1) rfl ?_); refine bx_ (w := w) (N := 1) (cs := #[.int .i64 a0_0, .int .i64 a0_1, .int .i64 a0_2]) (t := 98) ?_; intro gb227 w7 BK227 n0_ GW227 GE227; clear HB; have HB := n0_; clear n0_; obtain ⟨hcz8_0, hcz8_1, hcz8_2⟩ := cz3_ BK227.out; obtain ⟨hfz8_0, hfz8_1, hfz8_2⟩ := fz3_ BK227.out) | (go_at_call 69; (with_reducible refine (computusref02_In.calls a0_0 true _ A2.out).mono ?_); rintro e w' ⟨rfl, ⟨nd, rfl⟩⟩; (try first | exact ⟨rfl, _, World.drewN_drewN _ _ _⟩ | exact ⟨rfl, _, Eq.trans (World.drewN_drewN _ _ _) (congrArg (World.drewN _) (Nat.add_assoc _ _ _))⟩)) | (go_at_call 72; (with_reducible refine (computusref03_Leap.calls a0_0 t229 _ A5.out).mono ?_); rintro e w' ⟨rfl, ⟨nd, rfl⟩⟩; (try first | exact ⟨rfl, _, World.drewN_drewN _ _ _⟩ | exact ⟨rfl, _, Eq.trans (World.drewN_drewN _ _ _) (congrArg (World.drewN _) (Nat.add_assoc _ _ _))⟩)) | (go_at_call 71; (with_reducible refine (computusref02_Length.calls k t229 a0_1 t230 _ A6.out).mono ?_); rintro e w' ⟨rfl, ⟨nd, rfl⟩⟩; (try first | exact ⟨rfl, _, World.drewN_drewN _ _ _⟩ | exact ⟨rfl, _, Eq.trans (World.drewN_drewN _ _ _) (congrArg (World.drewN _) (Nat.add_assoc _ _ _))⟩))))
 go_ret
 exact rt_
def computusref03_ToDay.l0 : Nat → Int → Int → Int → Int → Int → Option (Int × Int)
 | 0, _, _, _, _, _ => none
 | k + 1, x4, x5, x232000, x232001, x232002 => if x5 < x232001 then ((computusref03_Leap.f x232000).bind fun t235 => ((computusref02_Length.f k t235 x5).bind fun t236 => (computusref03_ToDay.l0 k (wrap64 (x4 + t236)) (wrap64 (x5 + 1)) x232000 x232001 x232002))) else (some (wrap64 ((wrap64 (x4 + x232002)) - 1), 0))
def computusref03_ToDay.f (k : Nat) (a0_0 : Int) (a0_1 : Int) (a0_2 : Int) : Option (Int × Int) := (computusref02_In.f a0_0).bind fun t232 => (if t232 = true then ((computusref03_Valid.f k a0_0 a0_1 a0_2).bind fun t233 => (if t233 = true then ((computusref03_First.f a0_0).bind fun t234 => (computusref03_ToDay.l0 k t234 1 a0_0 a0_1 a0_2)) else (some (0, 2)))) else (some (0, 1)))
theorem computusref03_ToDay.mono_l : ∀ k, (∀ y0 y1 y2 y3 y4, LeO (computusref03_ToDay.l0 k y0 y1 y2 y3 y4) (computusref03_ToDay.l0 (k + 1) y0 y1 y2 y3 y4))
 | 0 => fun _ _ _ _ _ r h => by simp [computusref03_ToDay.l0] at h
 | k + 1 => by
  have ih0 := computusref03_ToDay.mono_l k
  ·intro y0 y1 y2 y3 y4
   unfold computusref03_ToDay.l0
   repeat' first | (with_reducible first | exact ih0 _ _ _ _ _ | exact computusref02_Length.mono _ _ _ | exact computusref03_Valid.mono _ _ _ _ | exact LeO.refl _ | exact LeO.none _ | refine LeO.ite ?_ ?_ | refine LeO.bind ?_ (fun _ => ?_)) | exact LeO.none _ | refine LeO.ite ?_ ?_ | refine LeO.bind ?_ (fun _ => ?_)
theorem computusref03_ToDay.mono : ∀ a0 a1 a2 k, LeO (computusref03_ToDay.f k a0 a1 a2) (computusref03_ToDay.f (k + 1) a0 a1 a2) := by
 intro a0 a1 a2 k
 have ih0 := computusref03_ToDay.mono_l k
 unfold computusref03_ToDay.f
 repeat' first | (with_reducible first | exact ih0 _ _ _ _ _ | exact computusref02_Length.mono _ _ _ | exact computusref03_Valid.mono _ _ _ _ | exact LeO.refl _ | exact LeO.none _ | refine LeO.ite ?_ ?_ | refine LeO.bind ?_ (fun _ => ?_)) | exact LeO.none _ | refine LeO.ite ?_ ?_ | refine LeO.bind ?_ (fun _ => ?_)
set_option maxHeartbeats 8000000 in
set_option maxRecDepth 100000 in
theorem computusref03_ToDay.calls (k : Nat) (a0_0 : Int) (a0_1 : Int) (a0_2 : Int) (r1 : Int) (r2 : Int) (w : World) (h : computusref03_ToDay.f k a0_0 a0_1 a0_2 = some (r1, r2)) :
  Calls Try.prog 60 #[.agg #[.int .i64 a0_0, .int .i64 a0_1, .int .i64 a0_2]] w fun e w' => e = .returned (.tuple #[.int .i64 r1, .int .i64 r2]) ∧ Below w.heap.size w w' := by
 have hu98 := Try.underlying98
 have HB := Aside0.mk (Below.refl w.heap.size w)
 have H := h
 clear h
 unfold computusref03_ToDay.f at H
 obtain ⟨t232, A2, H⟩ := bs_ H
 by_cases c3 : t232 = true
 rotate_left
 ·replace c3 := Bool.eq_false_iff.mpr c3
  subst c3
  replace H := if_ H
  simp only [Option.some.injEq, Prod.mk.injEq] at H
  obtain ⟨rfl, rfl⟩ := H
  go_enter Try.func60, Try.ntmps60
  go_wp2_with (first | ((with_reducible refine gate_dst (N := 1) rfl ?_); refine bx_ (w := w) (N := 1) (cs := #[.int .i64 a0_0, .int .i64 a0_1, .int .i64 a0_2]) (t := 98) ?_; intro gb231 w19 BK231 n0_ GW231 GE231; clear HB; have HB := n0_; clear n0_; obtain ⟨hcz20_0, hcz20_1, hcz20_2⟩ := cz3_ BK231.out; obtain ⟨hfz20_0, hfz20_1, hfz20_2⟩ := fz3_ BK231.out) | ((with_reducible refine gate_callee (f := 69) rfl ?_); refine gl_ (some 8) Try.func69 #[.int .i64 a0_0] ?_; (with_reducible refine (computusref02_In.calls a0_0 false _ A2.out).mono ?_); rintro e w' ⟨rfl, ⟨nd, rfl⟩⟩; refine ⟨_, rfl, ?_⟩))
  go_ret2
  exact rt_
 subst c3
 replace H := it_ H
 obtain ⟨t233, A4, H⟩ := bs_ H
 by_cases c5 : t233 = true
 rotate_left
 ·replace c5 := Bool.eq_false_iff.mpr c5
  subst c5
  replace H := if_ H
  simp only [Option.some.injEq, Prod.mk.injEq] at H
  obtain ⟨rfl, rfl⟩ := H
  go_enter Try.func60, Try.ntmps60
  go_wp2_with (first | ((with_reducible refine gate_dst (N := 1) rfl ?_); refine bx_ (w := w) (N := 1) (cs := #[.int .i64 a0_0, .int .i64 a0_1, .int .i64 a0_2]) (t := 98) ?_; intro gb231 w16 BK231 n0_ GW231 GE231; clear HB; have HB := n0_; clear n0_; obtain ⟨hcz17_0, hcz17_1, hcz17_2⟩ := cz3_ BK231.out; obtain ⟨hfz17_0, hfz17_1, hfz17_2⟩ := fz3_ BK231.out) | ((with_reducible refine gate_callee (f := 69) rfl ?_); refine gl_ (some 8) Try.func69 #[.int .i64 a0_0] ?_; (with_reducible refine (computusref02_In.calls a0_0 true _ A2.out).mono ?_); rintro e w' ⟨rfl, ⟨nd, rfl⟩⟩; refine ⟨_, rfl, ?_⟩) | ((with_reducible refine gate_callee (f := 70) rfl ?_); refine gl_ (some 11) Try.func70 #[.agg #[.int .i64 a0_0, .int .i64 a0_1, .int .i64 a0_2]] ?_; (with_reducible refine (computusref03_Valid.calls k a0_0 a0_1 a0_2 false _ A4.out).mono ?_); rintro e w18 ⟨rfl, hb⟩; refine ⟨_, rfl, ?_⟩; have n0_ := Aside0.mk (blk_below (g := gb231) (o := .cells #[.int .i64 a0_0, .int .i64 a0_1, .int .i64 a0_2] 98 (0, 0)) (bk_ BK231.out) hb); have n1_ := bt_ hb; clear BK231; clear HB; have BK231 := n0_; have HB := n1_; clear n0_ n1_; (try clear hb); (try clear hb2); (try clear hk); (try clear hi)))
  go_ret2
  exact rt_
 subst c5
 replace H := it_ H
 obtain ⟨t234, A6, H⟩ := bs_ H
 have H' := Aside0.mk H
 clear H
 go_enter Try.func60, Try.ntmps60
 go_wp2_with (first | ((with_reducible refine gate_dst (N := 1) rfl ?_); refine bx_ (w := w) (N := 1) (cs := #[.int .i64 a0_0, .int .i64 a0_1, .int .i64 a0_2]) (t := 98) ?_; intro gb231 w7 BK231 n0_ GW231 GE231; clear HB; have HB := n0_; clear n0_; obtain ⟨hcz8_0, hcz8_1, hcz8_2⟩ := cz3_ BK231.out; obtain ⟨hfz8_0, hfz8_1, hfz8_2⟩ := fz3_ BK231.out) | ((with_reducible refine gate_callee (f := 69) rfl ?_); refine gl_ (some 8) Try.func69 #[.int .i64 a0_0] ?_; (with_reducible refine (computusref02_In.calls a0_0 true _ A2.out).mono ?_); rintro e w' ⟨rfl, ⟨nd, rfl⟩⟩; refine ⟨_, rfl, ?_⟩) | ((with_reducible refine gate_callee (f := 70) rfl ?_); refine gl_ (some 11) Try.func70 #[.agg #[.int .i64 a0_0, .int .i64 a0_1, .int .i64 a0_2]] ?_; (with_reducible refine (computusref03_Valid.calls k a0_0 a0_1 a0_2 true _ A4.out).mono ?_); rintro e w9 ⟨rfl, hb⟩; refine ⟨_, rfl, ?_⟩; have n0_ := Aside0.mk (blk_below (g := gb231) (o := .cells #[.int .i64 a0_0, .int .i64 a0_1, .int .i64 a0_2] 98 (0, 0)) (bk_ BK231.out) hb); have n1_ := bt_ hb; clear BK231; clear HB; have BK231 := n0_; have HB := n1_; clear n0_ n1_; (try clear hb); (try clear hb2); (try clear hk); (try clear hi); obtain ⟨hcz10_0, hcz10_1, hcz10_2⟩ := cz3_ BK231.out; obtain ⟨hfz10_0, hfz10_1, hfz10_2⟩ := fz3_ BK231.out) | ((with_reducible refine gate_callee (f := 34) rfl ?_); refine gl_ (some 15) Try.func34 #[.int .i64 a0_0] ?_; (with_reducible refine (computusref03_First.calls a0_0 t234 _ A6.out).mono ?_); rintro e w' ⟨rfl, ⟨nd, rfl⟩⟩; refine ⟨_, rfl, ?_⟩))
 go_loopg [4, 5] k (fun kq v4 v5 w' => ∃ (x4_1 : Int) (x5_1 : Int), v4 = .int .i64 x4_1 ∧ v5 = .int .i64 x5_1 ∧ Aside0 (computusref03_ToDay.l0 kq x4_1 x5_1 a0_0 a0_1 a0_2 = some (r1, r2)) ∧ Aside0 (kq ≤ k) ∧ Aside0 (w'.heap[gb231]? = some (.cells #[.int .i64 a0_0, .int .i64 a0_1, .int .i64 a0_2] 98 (0, 0))) ∧ Aside0 (Below w.heap.size w w'))
 case atStart => exact ⟨(t234), (1), rs_, rs_, H', ⟨Nat.le_refl _⟩, ⟨bk_ BK231.out⟩, ⟨bh_⟩⟩
 case round =>
  clear H'
  try clear p2
  try clear c3
  try clear c5
  try clear c6
  try clear c7
  try clear hcz10_0
  try clear hcz10_1
  try clear hcz10_2
  try clear hcz8_0
  try clear hcz8_1
  try clear hcz8_2
  try clear hfz10_0
  try clear hfz10_1
  try clear hfz10_2
  try clear hfz8_0
  try clear hfz8_1
  try clear hfz8_2
  obtain ⟨x4_1, x5_1, rfl, rfl, HA, HK1, BK231, HB⟩ := hrel
  cases gk with
  | zero => exact absurd HA.out (by simp [computusref03_ToDay.l0])
  | succ k1 =>
   have H := HA.out
   clear HA
   simp only [computusref03_ToDay.l0] at H
   by_cases c11 : x5_1 < a0_1
   rotate_left
   ·rw [if_neg c11] at H
    have c11b0 : decide (x5_1 < a0_1) = false := decide_eq_false c11
    clear c11
    simp only [Option.some.injEq, Prod.mk.injEq] at H
    obtain ⟨rfl, rfl⟩ := H
    obtain ⟨hcz15_0, hcz15_1, hcz15_2⟩ := cz3_ BK231.out
    obtain ⟨hfz15_0, hfz15_1, hfz15_2⟩ := fz3_ BK231.out
    go_wp2
    go_ret2
    exact rt_
   rw [if_pos c11] at H
   have c11b0 : decide (x5_1 < a0_1) = true := decide_eq_true c11
   clear c11
   obtain ⟨t235, A12, H⟩ := bs_ H
   obtain ⟨t236, A13, H⟩ := bs_ H
   have H' := Aside0.mk H
   clear H
   obtain ⟨hcz14_0, hcz14_1, hcz14_2⟩ := cz3_ BK231.out
   obtain ⟨hfz14_0, hfz14_1, hfz14_2⟩ := fz3_ BK231.out
   go_wp2_with (first | ((with_reducible refine gate_callee (f := 72) rfl ?_); refine gl_ (some 25) Try.func72 #[.int .i64 a0_0] ?_; (with_reducible refine (computusref03_Leap.calls a0_0 t235 _ A12.out).mono ?_); rintro e w' ⟨rfl, ⟨nd, rfl⟩⟩; refine ⟨_, rfl, ?_⟩) | ((with_reducible refine gate_callee (f := 71) rfl ?_); refine gl_ (some 27) Try.func71 #[.bool t235, .int .i64 x5_1] ?_; (with_reducible refine (computusref02_Length.calls k1 t235 x5_1 t236 _ A13.out).mono ?_); rintro e w' ⟨rfl, ⟨nd, rfl⟩⟩; refine ⟨_, rfl, ?_⟩))
   go_roundg k1
   case measure => have := HK1.out; omega
   case rel => exact ⟨(wrap64 (x4_1 + t236)), (wrap64 (x5_1 + 1)), rs_, rs_, H', ⟨by have := HK1.out; omega⟩, ⟨bk_ BK231.out⟩, ⟨bh_⟩⟩
def computusref16_ofYear.f (k : Nat) (a0 : Int) (a1 : Int) : Option (Int) := (computusref03_ToDay.f k 2001 a0 a1).bind fun bt237 => ((computusref03_First.f 2001).bind fun t239 => (some (wrap64 ((wrap64 (bt237.1 - t239)) + 1))))
theorem computusref16_ofYear.mono : ∀ a0 a1 k, LeO (computusref16_ofYear.f k a0 a1) (computusref16_ofYear.f (k + 1) a0 a1) := by
 intro a0 a1 k
 unfold computusref16_ofYear.f
 repeat' first | (with_reducible first | exact computusref03_ToDay.mono _ _ _ _ | exact LeO.refl _ | exact LeO.none _ | refine LeO.ite ?_ ?_ | refine LeO.bind ?_ (fun _ => ?_)) | exact LeO.none _ | refine LeO.ite ?_ ?_ | refine LeO.bind ?_ (fun _ => ?_)
set_option maxHeartbeats 8000000 in
set_option maxRecDepth 100000 in
theorem computusref16_ofYear.calls (k : Nat) (a0 : Int) (a1 : Int) (r : Int) (w : World) (h : computusref16_ofYear.f k a0 a1 = some r) :
  Calls Try.prog 65 #[.int .i64 a0, .int .i64 a1] w fun e w' => e = .returned (.int .i64 r) ∧ Below w.heap.size w w' := by
 have hu98 := Try.underlying98
 have HB := Aside0.mk (Below.refl w.heap.size w)
 have H := h
 clear h
 unfold computusref16_ofYear.f at H
 obtain ⟨⟨t237, t238⟩, A3, H⟩ := bs_ H
 dsimp only at H
 obtain ⟨t239, A4, H⟩ := bs_ H
 obtain rfl := Option.some.inj H
 go_enter Try.func65, Try.ntmps65
 go_wp2_with (first | ((with_reducible refine gate_callee (f := 60) rfl ?_); refine gl_ (some 11) Try.func60 #[.agg #[.int .i64 2001, .int .i64 a0, .int .i64 a1]] ?_; (with_reducible refine (computusref03_ToDay.calls k 2001 a0 a1 t237 t238 _ A3.out).mono ?_); rintro e w5 ⟨rfl, hb⟩; refine ⟨_, rfl, ?_⟩; have n0_ := bt_ hb; clear HB; have HB := n0_; clear n0_; (try clear hb); (try clear hb2); (try clear hk); (try clear hi)) | ((with_reducible refine gate_callee (f := 34) rfl ?_); refine gl_ (some 15) Try.func34 #[.int .i64 2001] ?_; (with_reducible refine (computusref03_First.calls 2001 t239 _ A4.out).mono ?_); rintro e w' ⟨rfl, ⟨nd, rfl⟩⟩; refine ⟨_, rfl, ?_⟩))
 go_ret
 exact rt_
mutual
def computusref16_Check.j0 : Nat → Bool → Int → Int → Int → Int → Int → Int → Option (Bool)
 | 0, _, _, _, _, _, _, _ => none
 | k + 1, x45, x241000, x241001, x241002, x241003, x241004, x241005 => if x45 = true then (some false) else (if x241000 = 1 then (if x241004 = 0 then (some (x241005 == 0)) else (some false)) else ((computusref16_ofYear.f k x241001 x241002).bind fun t242 => (if x241000 = 3 then (if x241004 < 0 then (computusref16_Check.j1 k t242 true x241000 x241001 x241002 x241003 x241004 x241005) else (computusref16_Check.j1 k t242 (decide (x241004 > 6)) x241000 x241001 x241002 x241003 x241004 x241005)) else (computusref16_Check.j1 k t242 true x241000 x241001 x241002 x241003 x241004 x241005))))
def computusref16_Check.j1 : Nat → Int → Bool → Int → Int → Int → Int → Int → Int → Option (Bool)
 | 0, _, _, _, _, _, _, _, _ => none
 | k + 1, x3, x74, x241000, x241001, x241002, x241003, x241004, x241005 => if x74 = true then (some false) else (if x241005 ≥ 1 then (if x241005 ≤ 8 then (some (decide ((wrap64 ((wrap64 (x3 + 6)) + (wrap64 (7 * (wrap64 (x241005 - 1)))))) ≤ 365))) else (if x241005 ≤ (-1) then (if x241005 ≥ (-8) then (some (decide ((wrap64 ((wrap64 (x3 - 6)) - (wrap64 (7 * (wrap64 ((wrap64 (-x241005)) - 1)))))) ≥ 1))) else (some false)) else (some false))) else (if x241005 ≤ (-1) then (if x241005 ≥ (-8) then (some (decide ((wrap64 ((wrap64 (x3 - 6)) - (wrap64 (7 * (wrap64 ((wrap64 (-x241005)) - 1)))))) ≥ 1))) else (some false)) else (some false)))
end
def computusref16_Check.f (k : Nat) (a0_0 : Int) (a0_1 : Int) (a0_2 : Int) (a0_3 : Int) (a0_4 : Int) (a0_5 : Int) : Option (Bool) := if a0_0 = 2 then (if a0_1 = 0 then (if a0_2 = 0 then (if a0_4 = 0 then (if a0_5 = 0 then (if a0_3 ≥ (-80) then (some (decide (a0_3 ≤ 250))) else (some false)) else (some false)) else (some false)) else (some false)) else (some false)) else ((computusref08_Exists.f k a0_1 a0_2).bind fun t241 => (if t241 = true then (computusref16_Check.j0 k (a0_3 != 0) a0_0 a0_1 a0_2 a0_3 a0_4 a0_5) else (computusref16_Check.j0 k true a0_0 a0_1 a0_2 a0_3 a0_4 a0_5)))
theorem computusref16_Check.mono_l : ∀ k, (∀ y0 y1 y2 y3 y4 y5 y6, LeO (computusref16_Check.j0 k y0 y1 y2 y3 y4 y5 y6) (computusref16_Check.j0 (k + 1) y0 y1 y2 y3 y4 y5 y6)) ∧ (∀ y0 y1 y2 y3 y4 y5 y6 y7, LeO (computusref16_Check.j1 k y0 y1 y2 y3 y4 y5 y6 y7) (computusref16_Check.j1 (k + 1) y0 y1 y2 y3 y4 y5 y6 y7))
 | 0 => ⟨fun _ _ _ _ _ _ _ r h => by simp [computusref16_Check.j0] at h, fun _ _ _ _ _ _ _ _ r h => by simp [computusref16_Check.j1] at h⟩
 | k + 1 => by
  obtain ⟨ih0, ih1⟩ := computusref16_Check.mono_l k
  refine ⟨?_, ?_⟩
  ·intro y0 y1 y2 y3 y4 y5 y6
   unfold computusref16_Check.j0
   repeat' first | (with_reducible first | exact ih0 _ _ _ _ _ _ _ | exact ih1 _ _ _ _ _ _ _ _ | exact computusref08_Exists.mono _ _ _ | exact computusref16_ofYear.mono _ _ _ | exact LeO.refl _ | exact LeO.none _ | refine LeO.ite ?_ ?_ | refine LeO.bind ?_ (fun _ => ?_)) | exact LeO.none _ | refine LeO.ite ?_ ?_ | refine LeO.bind ?_ (fun _ => ?_)
  ·intro y0 y1 y2 y3 y4 y5 y6 y7
   unfold computusref16_Check.j1
   repeat' first | (with_reducible first | exact ih0 _ _ _ _ _ _ _ | exact ih1 _ _ _ _ _ _ _ _ | exact computusref08_Exists.mono _ _ _ | exact computusref16_ofYear.mono _ _ _ | exact LeO.refl _ | exact LeO.none _ | refine LeO.ite ?_ ?_ | refine LeO.bind ?_ (fun _ => ?_)) | exact LeO.none _ | refine LeO.ite ?_ ?_ | refine LeO.bind ?_ (fun _ => ?_)
theorem computusref16_Check.mono : ∀ a0 a1 a2 a3 a4 a5 k, LeO (computusref16_Check.f k a0 a1 a2 a3 a4 a5) (computusref16_Check.f (k + 1) a0 a1 a2 a3 a4 a5) := by
 intro a0 a1 a2 a3 a4 a5 k
 obtain ⟨ih0, ih1⟩ := computusref16_Check.mono_l k
 unfold computusref16_Check.f
 repeat' first | (with_reducible first | exact ih0 _ _ _ _ _ _ _ | exact ih1 _ _ _ _ _ _ _ _ | exact computusref08_Exists.mono _ _ _ | exact computusref16_ofYear.mono _ _ _ | exact LeO.refl _ | exact LeO.none _ | refine LeO.ite ?_ ?_ | refine LeO.bind ?_ (fun _ => ?_)) | exact LeO.none _ | refine LeO.ite ?_ ?_ | refine LeO.bind ?_ (fun _ => ?_)
set_option maxHeartbeats 8000000 in
set_option maxRecDepth 100000 in
theorem computusref16_Check.calls (k : Nat) (a0_0 : Int) (a0_1 : Int) (a0_2 : Int) (a0_3 : Int) (a0_4 : Int) (a0_5 : Int) (r : Bool) (w : World) (h : computusref16_Check.f k a0_0 a0_1 a0_2 a0_3 a0_4 a0_5 = some r) :
  Calls Try.prog 57 #[.agg #[.int .i64 a0_0, .int .i64 a0_1, .int .i64 a0_2, .int .i64 a0_3, .int .i64 a0_4, .int .i64 a0_5]] w fun e w' => e = .returned (.bool r) ∧ Below w.heap.size w w' := by
 have hu64 := Try.underlying64
 have HB := Aside0.mk (Below.refl w.heap.size w)
 have H := h
 clear h
 unfold computusref16_Check.f at H
 by_cases c2 : a0_0 = 2
 ·rw [if_pos c2] at H
  have c2b0 : (a0_0 == 2) = true := beq_iff_eq.mpr c2
  have c2b1 : (a0_0 != 2) = false := bne_eq_false_iff_eq.mpr c2
  clear c2
  by_cases c3 : a0_1 = 0
  rotate_left
  ·rw [if_neg c3] at H
   have c3b0 : (a0_1 == 0) = false := beq_eq_false_iff_ne.mpr c3
   have c3b1 : (a0_1 != 0) = true := bne_iff_ne.mpr c3
   obtain rfl := Option.some.inj H
   go_enter Try.func57, Try.ntmps57
   go_wp2_with (first | ((with_reducible refine gate_dst (N := 1) rfl ?_); refine bx_ (w := w) (N := 1) (cs := #[.int .i64 a0_0, .int .i64 a0_1, .int .i64 a0_2, .int .i64 a0_3, .int .i64 a0_4, .int .i64 a0_5]) (t := 64) ?_; intro gb240 w18 BK240 n0_ GW240 GE240; clear HB; have HB := n0_; clear n0_; obtain ⟨hcz19_0, hcz19_1, hcz19_2, hcz19_3, hcz19_4, hcz19_5⟩ := cz6_ BK240.out; obtain ⟨hfz19_0, hfz19_1, hfz19_2, hfz19_3, hfz19_4, hfz19_5⟩ := fz6_ BK240.out))
   go_ret
   exact rt_
  rw [if_pos c3] at H
  have c3b0 : (a0_1 == 0) = true := beq_iff_eq.mpr c3
  have c3b1 : (a0_1 != 0) = false := bne_eq_false_iff_eq.mpr c3
  clear c3
  by_cases c4 : a0_2 = 0
  rotate_left
  ·rw [if_neg c4] at H
   have c4b0 : (a0_2 == 0) = false := beq_eq_false_iff_ne.mpr c4
   have c4b1 : (a0_2 != 0) = true := bne_iff_ne.mpr c4
   obtain rfl := Option.some.inj H
   go_enter Try.func57, Try.ntmps57
   go_wp2_with (first | ((with_reducible refine gate_dst (N := 1) rfl ?_); refine bx_ (w := w) (N := 1) (cs := #[.int .i64 a0_0, .int .i64 a0_1, .int .i64 a0_2, .int .i64 a0_3, .int .i64 a0_4, .int .i64 a0_5]) (t := 64) ?_; intro gb240 w16 BK240 n0_ GW240 GE240; clear HB; have HB := n0_; clear n0_; obtain ⟨hcz17_0, hcz17_1, hcz17_2, hcz17_3, hcz17_4, hcz17_5⟩ := cz6_ BK240.out; obtain ⟨hfz17_0, hfz17_1, hfz17_2, hfz17_3, hfz17_4, hfz17_5⟩ := fz6_ BK240.out))
   go_ret
   exact rt_
  rw [if_pos c4] at H
  have c4b0 : (a0_2 == 0) = true := beq_iff_eq.mpr c4
  have c4b1 : (a0_2 != 0) = false := bne_eq_false_iff_eq.mpr c4
  clear c4
  by_cases c5 : a0_4 = 0
  rotate_left
  ·rw [if_neg c5] at H
   have c5b0 : (a0_4 == 0) = false := beq_eq_false_iff_ne.mpr c5
   have c5b1 : (a0_4 != 0) = true := bne_iff_ne.mpr c5
   obtain rfl := Option.some.inj H
   go_enter Try.func57, Try.ntmps57
   go_wp2_with (first | ((with_reducible refine gate_dst (N := 1) rfl ?_); refine bx_ (w := w) (N := 1) (cs := #[.int .i64 a0_0, .int .i64 a0_1, .int .i64 a0_2, .int .i64 a0_3, .int .i64 a0_4, .int .i64 a0_5]) (t := 64) ?_; intro gb240 w14 BK240 n0_ GW240 GE240; clear HB; have HB := n0_; clear n0_; obtain ⟨hcz15_0, hcz15_1, hcz15_2, hcz15_3, hcz15_4, hcz15_5⟩ := cz6_ BK240.out; obtain ⟨hfz15_0, hfz15_1, hfz15_2, hfz15_3, hfz15_4, hfz15_5⟩ := fz6_ BK240.out))
   go_ret
   exact rt_
  rw [if_pos c5] at H
  have c5b0 : (a0_4 == 0) = true := beq_iff_eq.mpr c5
  have c5b1 : (a0_4 != 0) = false := bne_eq_false_iff_eq.mpr c5
  clear c5
  by_cases c6 : a0_5 = 0
  rotate_left
  ·rw [if_neg c6] at H
   have c6b0 : (a0_5 == 0) = false := beq_eq_false_iff_ne.mpr c6
   have c6b1 : (a0_5 != 0) = true := bne_iff_ne.mpr c6
   obtain rfl := Option.some.inj H
   go_enter Try.func57, Try.ntmps57
   go_wp2_with (first | ((with_reducible refine gate_dst (N := 1) rfl ?_); refine bx_ (w := w) (N := 1) (cs := #[.int .i64 a0_0, .int .i64 a0_1, .int .i64 a0_2, .int .i64 a0_3, .int .i64 a0_4, .int .i64 a0_5]) (t := 64) ?_; intro gb240 w12 BK240 n0_ GW240 GE240; clear HB; have HB := n0_; clear n0_; obtain ⟨hcz13_0, hcz13_1, hcz13_2, hcz13_3, hcz13_4, hcz13_5⟩ := cz6_ BK240.out; obtain ⟨hfz13_0, hfz13_1, hfz13_2, hfz13_3, hfz13_4, hfz13_5⟩ := fz6_ BK240.out))
   go_ret
   exact rt_
  rw [if_pos c6] at H
  have c6b0 : (a0_5 == 0) = true := beq_iff_eq.mpr c6
  have c6b1 : (a0_5 != 0) = false := bne_eq_false_iff_eq.mpr c6
  clear c6
  by_cases c7 : a0_3 ≥ (-80)
  ·rw [if_pos c7] at H
   have c7b0 : decide ((-80) ≤ a0_3) = true := decide_eq_true c7
   clear c7
   obtain rfl := Option.some.inj H
   go_enter Try.func57, Try.ntmps57
   go_wp2_with (first | ((with_reducible refine gate_dst (N := 1) rfl ?_); refine bx_ (w := w) (N := 1) (cs := #[.int .i64 a0_0, .int .i64 a0_1, .int .i64 a0_2, .int .i64 a0_3, .int .i64 a0_4, .int .i64 a0_5]) (t := 64) ?_; intro gb240 w8 BK240 n0_ GW240 GE240; clear HB; have HB := n0_; clear n0_; obtain ⟨hcz9_0, hcz9_1, hcz9_2, hcz9_3, hcz9_4, hcz9_5⟩ := cz6_ BK240.out; obtain ⟨hfz9_0, hfz9_1, hfz9_2, hfz9_3, hfz9_4, hfz9_5⟩ := fz6_ BK240.out))
   go_ret
   exact rt_
  rw [if_neg c7] at H
  have c7b0 : decide ((-80) ≤ a0_3) = false := decide_eq_false c7
  clear c7
  obtain rfl := Option.some.inj H
  go_enter Try.func57, Try.ntmps57
  go_wp2_with (first | ((with_reducible refine gate_dst (N := 1) rfl ?_); refine bx_ (w := w) (N := 1) (cs := #[.int .i64 a0_0, .int .i64 a0_1, .int .i64 a0_2, .int .i64 a0_3, .int .i64 a0_4, .int .i64 a0_5]) (t := 64) ?_; intro gb240 w10 BK240 n0_ GW240 GE240; clear HB; have HB := n0_; clear n0_; obtain ⟨hcz11_0, hcz11_1, hcz11_2, hcz11_3, hcz11_4, hcz11_5⟩ := cz6_ BK240.out; obtain ⟨hfz11_0, hfz11_1, hfz11_2, hfz11_3, hfz11_4, hfz11_5⟩ := fz6_ BK240.out))
  go_ret
  exact rt_
 rw [if_neg c2] at H
 have c2b0 : (a0_0 == 2) = false := beq_eq_false_iff_ne.mpr c2
 have c2b1 : (a0_0 != 2) = true := bne_iff_ne.mpr c2
 have HC20 := Aside0.mk H
 clear H
 go_enter Try.func57, Try.ntmps57
 go_upto_region 3 with (first | ((with_reducible refine gate_dst (N := 1) rfl ?_); refine bx_ (w := w) (N := 1) (cs := #[.int .i64 a0_0, .int .i64 a0_1, .int .i64 a0_2, .int .i64 a0_3, .int .i64 a0_4, .int .i64 a0_5]) (t := 64) ?_; intro gb240 w21 BK240 n0_ GW240 GE240; clear HB; have HB := n0_; clear n0_; obtain ⟨hcz22_0, hcz22_1, hcz22_2, hcz22_3, hcz22_4, hcz22_5⟩ := cz6_ BK240.out; obtain ⟨hfz22_0, hfz22_1, hfz22_2, hfz22_3, hfz22_4, hfz22_5⟩ := fz6_ BK240.out))
 (try simp only [Act.put, sA_, sZ_, sS_])
 go_cut [45] (fun v45 wc => ∃ (kq : Nat) (x45_19 : Bool), v45 = .bool x45_19 ∧ Aside0 (computusref16_Check.j0 kq x45_19 a0_0 a0_1 a0_2 a0_3 a0_4 a0_5 = some r) ∧ Aside0 (kq ≤ k) ∧ Aside0 (wc.heap[gb240]? = some (.cells #[.int .i64 a0_0, .int .i64 a0_1, .int .i64 a0_2, .int .i64 a0_3, .int .i64 a0_4, .int .i64 a0_5] 64 (0, 0))) ∧ Aside0 (Below w.heap.size w wc))
 case first =>
  have H := HC20.out
  clear HC20
  obtain ⟨t241, A23, H⟩ := bs_ H
  by_cases c24 : t241 = true
  ·subst c24
   replace H := it_ H
   have H' := Aside0.mk H
   clear H
   obtain ⟨hcz25_0, hcz25_1, hcz25_2, hcz25_3, hcz25_4, hcz25_5⟩ := cz6_ BK240.out
   obtain ⟨hfz25_0, hfz25_1, hfz25_2, hfz25_3, hfz25_4, hfz25_5⟩ := fz6_ BK240.out
   go_wp2_with (first | ((with_reducible refine gate_callee (f := 64) rfl ?_); refine gl_ (some 39) Try.func64 #[.int .i64 a0_1, .int .i64 a0_2] ?_; (with_reducible refine (computusref08_Exists.calls k a0_1 a0_2 true _ A23.out).mono ?_); rintro e w' ⟨rfl, ⟨nd, rfl⟩⟩; refine ⟨_, rfl, ?_⟩))
   go_meet
   case rel => exact ⟨_, ((a0_3 != 0)), rs_, H', ⟨by first | omega | exact Nat.le_refl _⟩, ⟨bk_ BK240.out⟩, ⟨bh_⟩⟩
  replace c24 := Bool.eq_false_iff.mpr c24
  subst c24
  replace H := if_ H
  have H' := Aside0.mk H
  clear H
  obtain ⟨hcz26_0, hcz26_1, hcz26_2, hcz26_3, hcz26_4, hcz26_5⟩ := cz6_ BK240.out
  obtain ⟨hfz26_0, hfz26_1, hfz26_2, hfz26_3, hfz26_4, hfz26_5⟩ := fz6_ BK240.out
  go_wp2_with (first | ((with_reducible refine gate_callee (f := 64) rfl ?_); refine gl_ (some 39) Try.func64 #[.int .i64 a0_1, .int .i64 a0_2] ?_; (with_reducible refine (computusref08_Exists.calls k a0_1 a0_2 false _ A23.out).mono ?_); rintro e w' ⟨rfl, ⟨nd, rfl⟩⟩; refine ⟨_, rfl, ?_⟩))
  go_meet
  case rel => exact ⟨_, (true), rs_, H', ⟨by first | omega | exact Nat.le_refl _⟩, ⟨bk_ BK240.out⟩, ⟨bh_⟩⟩
 case rest =>
  clear HC20
  try clear c2
  try clear c2b0
  try clear c2b1
  try clear p2
  try clear c3
  try clear c3b0
  try clear c3b1
  try clear c4
  try clear c4b0
  try clear c4b1
  try clear c5
  try clear c5b0
  try clear c5b1
  try clear c6
  try clear c6b0
  try clear c6b1
  try clear c7
  try clear c7b0
  try clear c24
  try clear hcz11_0
  try clear hcz11_1
  try clear hcz11_2
  try clear hcz11_3
  try clear hcz11_4
  try clear hcz11_5
  try clear hcz13_0
  try clear hcz13_1
  try clear hcz13_2
  try clear hcz13_3
  try clear hcz13_4
  try clear hcz13_5
  try clear hcz15_0
  try clear hcz15_1
  try clear hcz15_2
  try clear hcz15_3
  try clear hcz15_4
  try clear hcz15_5
  try clear hcz17_0
  try clear hcz17_1
  try clear hcz17_2
  try clear hcz17_3
  try clear hcz17_4
  try clear hcz17_5
  try clear hcz19_0
  try clear hcz19_1
  try clear hcz19_2
  try clear hcz19_3
  try clear hcz19_4
  try clear hcz19_5
  try clear hcz22_0
  try clear hcz22_1
  try clear hcz22_2
  try clear hcz22_3
  try clear hcz22_4
  try clear hcz22_5
  try clear hcz25_0
  try clear hcz25_1
  try clear hcz25_2
  try clear hcz25_3
  try clear hcz25_4
  try clear hcz25_5
  try clear hcz26_0
  try clear hcz26_1
  try clear hcz26_2
  try clear hcz26_3
  try clear hcz26_4
  try clear hcz26_5
  try clear hcz9_0
  try clear hcz9_1
  try clear hcz9_2
  try clear hcz9_3
  try clear hcz9_4
  try clear hcz9_5
  try clear hfz11_0
  try clear hfz11_1
  try clear hfz11_2
  try clear hfz11_3
  try clear hfz11_4
  try clear hfz11_5
  try clear hfz13_0
  try clear hfz13_1
  try clear hfz13_2
  try clear hfz13_3
  try clear hfz13_4
  try clear hfz13_5
  try clear hfz15_0
  try clear hfz15_1
  try clear hfz15_2
  try clear hfz15_3
  try clear hfz15_4
  try clear hfz15_5
  try clear hfz17_0
  try clear hfz17_1
  try clear hfz17_2
  try clear hfz17_3
  try clear hfz17_4
  try clear hfz17_5
  try clear hfz19_0
  try clear hfz19_1
  try clear hfz19_2
  try clear hfz19_3
  try clear hfz19_4
  try clear hfz19_5
  try clear hfz22_0
  try clear hfz22_1
  try clear hfz22_2
  try clear hfz22_3
  try clear hfz22_4
  try clear hfz22_5
  try clear hfz25_0
  try clear hfz25_1
  try clear hfz25_2
  try clear hfz25_3
  try clear hfz25_4
  try clear hfz25_5
  try clear hfz26_0
  try clear hfz26_1
  try clear hfz26_2
  try clear hfz26_3
  try clear hfz26_4
  try clear hfz26_5
  try clear hfz9_0
  try clear hfz9_1
  try clear hfz9_2
  try clear hfz9_3
  try clear hfz9_4
  try clear hfz9_5
  obtain ⟨kq, x45_19, rfl, HA, HJ19, BK240, HB⟩ := hcut
  cases kq with
  | zero => exact absurd HA.out (by simp [computusref16_Check.j0])
  | succ kj19 =>
   have H := HA.out
   clear HA
   simp only [computusref16_Check.j0] at H
   by_cases c27 : x45_19 = true
   ·subst c27
    replace H := it_ H
    obtain rfl := Option.some.inj H
    go_wp2
    go_ret
    exact rt_
   replace c27 := Bool.eq_false_iff.mpr c27
   subst c27
   replace H := if_ H
   by_cases c28 : a0_0 = 1
   ·rw [if_pos c28] at H
    have c28b0 : (a0_0 == 1) = true := beq_iff_eq.mpr c28
    have c28b1 : (a0_0 != 1) = false := bne_eq_false_iff_eq.mpr c28
    clear c28
    by_cases c29 : a0_4 = 0
    rotate_left
    ·rw [if_neg c29] at H
     have c29b0 : (a0_4 == 0) = false := beq_eq_false_iff_ne.mpr c29
     have c29b1 : (a0_4 != 0) = true := bne_iff_ne.mpr c29
     obtain rfl := Option.some.inj H
     obtain ⟨hcz31_0, hcz31_1, hcz31_2, hcz31_3, hcz31_4, hcz31_5⟩ := cz6_ BK240.out
     obtain ⟨hfz31_0, hfz31_1, hfz31_2, hfz31_3, hfz31_4, hfz31_5⟩ := fz6_ BK240.out
     go_wp2
     go_ret
     exact rt_
    rw [if_pos c29] at H
    have c29b0 : (a0_4 == 0) = true := beq_iff_eq.mpr c29
    have c29b1 : (a0_4 != 0) = false := bne_eq_false_iff_eq.mpr c29
    clear c29
    obtain rfl := Option.some.inj H
    obtain ⟨hcz30_0, hcz30_1, hcz30_2, hcz30_3, hcz30_4, hcz30_5⟩ := cz6_ BK240.out
    obtain ⟨hfz30_0, hfz30_1, hfz30_2, hfz30_3, hfz30_4, hfz30_5⟩ := fz6_ BK240.out
    go_wp2
    go_ret
    exact rt_
   rw [if_neg c28] at H
   have c28b0 : (a0_0 == 1) = false := beq_eq_false_iff_ne.mpr c28
   have c28b1 : (a0_0 != 1) = true := bne_iff_ne.mpr c28
   obtain ⟨t242, A32, H⟩ := bs_ H
   have HC33 := Aside0.mk H
   clear H
   obtain ⟨hcz34_0, hcz34_1, hcz34_2, hcz34_3, hcz34_4, hcz34_5⟩ := cz6_ BK240.out
   obtain ⟨hfz34_0, hfz34_1, hfz34_2, hfz34_3, hfz34_4, hfz34_5⟩ := fz6_ BK240.out
   go_upto_region 8 with (first | ((with_reducible refine gate_callee (f := 65) rfl ?_); refine gl_ (some 61) Try.func65 #[.int .i64 a0_1, .int .i64 a0_2] ?_; (with_reducible refine (computusref16_ofYear.calls kj19 a0_1 a0_2 t242 _ A32.out).mono ?_); rintro e w35 ⟨rfl, hb⟩; refine ⟨_, rfl, ?_⟩; have n0_ := Aside0.mk (blk_below (g := gb240) (o := .cells #[.int .i64 a0_0, .int .i64 a0_1, .int .i64 a0_2, .int .i64 a0_3, .int .i64 a0_4, .int .i64 a0_5] 64 (0, 0)) (bk_ BK240.out) hb); have n1_ := bt_ hb; clear BK240; clear HB; have BK240 := n0_; have HB := n1_; clear n0_ n1_; (try clear hb); (try clear hb2); (try clear hk); (try clear hi)))
   (try simp only [Act.put, sA_, sZ_, sS_])
   go_cut [74] (fun v74 wc => ∃ (kq : Nat) (x74_32 : Bool), v74 = .bool x74_32 ∧ Aside0 (computusref16_Check.j1 kq t242 x74_32 a0_0 a0_1 a0_2 a0_3 a0_4 a0_5 = some r) ∧ Aside0 (kq ≤ kj19) ∧ Aside0 (wc.heap[gb240]? = some (.cells #[.int .i64 a0_0, .int .i64 a0_1, .int .i64 a0_2, .int .i64 a0_3, .int .i64 a0_4, .int .i64 a0_5] 64 (0, 0))) ∧ Aside0 (Below w.heap.size w wc))
   case first =>
    have H := HC33.out
    clear HC33
    by_cases c36 : a0_0 = 3
    rotate_left
    ·rw [if_neg c36] at H
     have c36b0 : (a0_0 == 3) = false := beq_eq_false_iff_ne.mpr c36
     have c36b1 : (a0_0 != 3) = true := bne_iff_ne.mpr c36
     (first | rw [c36b0] | (simp only [i64_w, i32_w]; rw [c36b0]) | skip)
     have H' := Aside0.mk H
     clear H
     obtain ⟨hcz40_0, hcz40_1, hcz40_2, hcz40_3, hcz40_4, hcz40_5⟩ := cz6_ BK240.out
     obtain ⟨hfz40_0, hfz40_1, hfz40_2, hfz40_3, hfz40_4, hfz40_5⟩ := fz6_ BK240.out
     go_wp2
     go_meet
     case rel => exact ⟨_, (true), rs_, H', ⟨by have := HJ19.out; first | omega | exact Nat.le_refl _⟩, ⟨bk_ BK240.out⟩, ⟨bh_⟩⟩
    rw [if_pos c36] at H
    have c36b0 : (a0_0 == 3) = true := beq_iff_eq.mpr c36
    have c36b1 : (a0_0 != 3) = false := bne_eq_false_iff_eq.mpr c36
    clear c36
    (first | rw [c36b0] | (simp only [i64_w, i32_w]; rw [c36b0]) | skip)
    by_cases c37 : a0_4 < 0
    ·rw [if_pos c37] at H
     have c37b0 : decide (a0_4 < 0) = true := decide_eq_true c37
     clear c37
     have H' := Aside0.mk H
     clear H
     obtain ⟨hcz38_0, hcz38_1, hcz38_2, hcz38_3, hcz38_4, hcz38_5⟩ := cz6_ BK240.out
     obtain ⟨hfz38_0, hfz38_1, hfz38_2, hfz38_3, hfz38_4, hfz38_5⟩ := fz6_ BK240.out
     go_wp2
     go_meet
     case rel => exact ⟨_, (true), rs_, H', ⟨by have := HJ19.out; first | omega | exact Nat.le_refl _⟩, ⟨bk_ BK240.out⟩, ⟨bh_⟩⟩
    rw [if_neg c37] at H
    have c37b0 : decide (a0_4 < 0) = false := decide_eq_false c37
    clear c37
    have H' := Aside0.mk H
    clear H
    obtain ⟨hcz39_0, hcz39_1, hcz39_2, hcz39_3, hcz39_4, hcz39_5⟩ := cz6_ BK240.out
    obtain ⟨hfz39_0, hfz39_1, hfz39_2, hfz39_3, hfz39_4, hfz39_5⟩ := fz6_ BK240.out
    go_wp2
    go_meet
    case rel => exact ⟨_, (decide (a0_4 > 6)), rs_, H', ⟨by have := HJ19.out; first | omega | exact Nat.le_refl _⟩, ⟨bk_ BK240.out⟩, ⟨bh_⟩⟩
   case rest =>
    clear HC33
    try clear c2
    try clear c2b0
    try clear c2b1
    try clear p2
    try clear c3
    try clear c3b0
    try clear c3b1
    try clear c4
    try clear c4b0
    try clear c4b1
    try clear c5
    try clear c5b0
    try clear c5b1
    try clear c6
    try clear c6b0
    try clear c6b1
    try clear c7
    try clear c7b0
    try clear c24
    try clear c27
    try clear c28
    try clear c28b0
    try clear c28b1
    try clear c29
    try clear c29b0
    try clear c29b1
    try clear c36
    try clear c36b0
    try clear c36b1
    try clear c37
    try clear c37b0
    try clear hcz11_0
    try clear hcz11_1
    try clear hcz11_2
    try clear hcz11_3
    try clear hcz11_4
    try clear hcz11_5
    try clear hcz13_0
    try clear hcz13_1
    try clear hcz13_2
    try clear hcz13_3
    try clear hcz13_4
    try clear hcz13_5
    try clear hcz15_0
    try clear hcz15_1
    try clear hcz15_2
    try clear hcz15_3
    try clear hcz15_4
    try clear hcz15_5
    try clear hcz17_0
    try clear hcz17_1
    try clear hcz17_2
    try clear hcz17_3
    try clear hcz17_4
    try clear hcz17_5
    try clear hcz19_0
    try clear hcz19_1
    try clear hcz19_2
    try clear hcz19_3
    try clear hcz19_4
    try clear hcz19_5
    try clear hcz22_0
    try clear hcz22_1
    try clear hcz22_2
    try clear hcz22_3
    try clear hcz22_4
    try clear hcz22_5
    try clear hcz25_0
    try clear hcz25_1
    try clear hcz25_2
    try clear hcz25_3
    try clear hcz25_4
    try clear hcz25_5
    try clear hcz26_0
    try clear hcz26_1
    try clear hcz26_2
    try clear hcz26_3
    try clear hcz26_4
    try clear hcz26_5
    try clear hcz30_0
    try clear hcz30_1
    try clear hcz30_2
    try clear hcz30_3
    try clear hcz30_4
    try clear hcz30_5
    try clear hcz31_0
    try clear hcz31_1
    try clear hcz31_2
    try clear hcz31_3
    try clear hcz31_4
    try clear hcz31_5
    try clear hcz34_0
    try clear hcz34_1
    try clear hcz34_2
    try clear hcz34_3
    try clear hcz34_4
    try clear hcz34_5
    try clear hcz38_0
    try clear hcz38_1
    try clear hcz38_2
    try clear hcz38_3
    try clear hcz38_4
    try clear hcz38_5
    try clear hcz39_0
    try clear hcz39_1
    try clear hcz39_2
    try clear hcz39_3
    try clear hcz39_4
    try clear hcz39_5
    try clear hcz40_0
    try clear hcz40_1
    try clear hcz40_2
    try clear hcz40_3
    try clear hcz40_4
    try clear hcz40_5
    try clear hcz9_0
    try clear hcz9_1
    try clear hcz9_2
    try clear hcz9_3
    try clear hcz9_4
    try clear hcz9_5
    try clear hfz11_0
    try clear hfz11_1
    try clear hfz11_2
    try clear hfz11_3
    try clear hfz11_4
    try clear hfz11_5
    try clear hfz13_0
    try clear hfz13_1
    try clear hfz13_2
    try clear hfz13_3
    try clear hfz13_4
    try clear hfz13_5
    try clear hfz15_0
    try clear hfz15_1
    try clear hfz15_2
    try clear hfz15_3
    try clear hfz15_4
    try clear hfz15_5
    try clear hfz17_0
    try clear hfz17_1
    try clear hfz17_2
    try clear hfz17_3
    try clear hfz17_4
    try clear hfz17_5
    try clear hfz19_0
    try clear hfz19_1
    try clear hfz19_2
    try clear hfz19_3
    try clear hfz19_4
    try clear hfz19_5
    try clear hfz22_0
    try clear hfz22_1
    try clear hfz22_2
    try clear hfz22_3
    try clear hfz22_4
    try clear hfz22_5
    try clear hfz25_0
    try clear hfz25_1
    try clear hfz25_2
    try clear hfz25_3
    try clear hfz25_4
    try clear hfz25_5
    try clear hfz26_0
    try clear hfz26_1
    try clear hfz26_2
    try clear hfz26_3
    try clear hfz26_4
    try clear hfz26_5
    try clear hfz30_0
    try clear hfz30_1
    try clear hfz30_2
    try clear hfz30_3
    try clear hfz30_4
    try clear hfz30_5
    try clear hfz31_0
    try clear hfz31_1
    try clear hfz31_2
    try clear hfz31_3
    try clear hfz31_4
    try clear hfz31_5
    try clear hfz34_0
    try clear hfz34_1
    try clear hfz34_2
    try clear hfz34_3
    try clear hfz34_4
    try clear hfz34_5
    try clear hfz38_0
    try clear hfz38_1
    try clear hfz38_2
    try clear hfz38_3
    try clear hfz38_4
    try clear hfz38_5
    try clear hfz39_0
    try clear hfz39_1
    try clear hfz39_2
    try clear hfz39_3
    try clear hfz39_4
    try clear hfz39_5
    try clear hfz40_0
    try clear hfz40_1
    try clear hfz40_2
    try clear hfz40_3
    try clear hfz40_4
    try clear hfz40_5
    try clear hfz9_0
    try clear hfz9_1
    try clear hfz9_2
    try clear hfz9_3
    try clear hfz9_4
    try clear hfz9_5
    try clear p2
    obtain ⟨kq, x74_32, rfl, HA, HJ32, BK240, HB⟩ := hcut
    cases kq with
    | zero => exact absurd HA.out (by simp [computusref16_Check.j1])
    | succ kj32 =>
     have H := HA.out
     clear HA
     simp only [computusref16_Check.j1] at H
     by_cases c41 : x74_32 = true
     ·subst c41
      replace H := it_ H
      obtain rfl := Option.some.inj H
      go_wp2
      go_ret
      exact rt_
     replace c41 := Bool.eq_false_iff.mpr c41
     subst c41
     replace H := if_ H
     by_cases c42 : a0_5 ≥ 1
     rotate_left
     ·rw [if_neg c42] at H
      have c42b0 : decide (1 ≤ a0_5) = false := decide_eq_false c42
      clear c42
      by_cases c50 : a0_5 ≤ (-1)
      rotate_left
      ·rw [if_neg c50] at H
       have c50b0 : decide (a0_5 ≤ (-1)) = false := decide_eq_false c50
       clear c50
       obtain rfl := Option.some.inj H
       obtain ⟨hcz54_0, hcz54_1, hcz54_2, hcz54_3, hcz54_4, hcz54_5⟩ := cz6_ BK240.out
       obtain ⟨hfz54_0, hfz54_1, hfz54_2, hfz54_3, hfz54_4, hfz54_5⟩ := fz6_ BK240.out
       go_wp2
       go_ret
       exact rt_
      rw [if_pos c50] at H
      have c50b0 : decide (a0_5 ≤ (-1)) = true := decide_eq_true c50
      clear c50
      by_cases c51 : a0_5 ≥ (-8)
      ·rw [if_pos c51] at H
       have c51b0 : decide ((-8) ≤ a0_5) = true := decide_eq_true c51
       clear c51
       obtain rfl := Option.some.inj H
       obtain ⟨hcz52_0, hcz52_1, hcz52_2, hcz52_3, hcz52_4, hcz52_5⟩ := cz6_ BK240.out
       obtain ⟨hfz52_0, hfz52_1, hfz52_2, hfz52_3, hfz52_4, hfz52_5⟩ := fz6_ BK240.out
       go_wp2
       go_ret
       exact rt_
      rw [if_neg c51] at H
      have c51b0 : decide ((-8) ≤ a0_5) = false := decide_eq_false c51
      clear c51
      obtain rfl := Option.some.inj H
      obtain ⟨hcz53_0, hcz53_1, hcz53_2, hcz53_3, hcz53_4, hcz53_5⟩ := cz6_ BK240.out
      obtain ⟨hfz53_0, hfz53_1, hfz53_2, hfz53_3, hfz53_4, hfz53_5⟩ := fz6_ BK240.out
      go_wp2
      go_ret
      exact rt_
     rw [if_pos c42] at H
     have c42b0 : decide (1 ≤ a0_5) = true := decide_eq_true c42
     clear c42
     by_cases c43 : a0_5 ≤ 8
     ·rw [if_pos c43] at H
      have c43b0 : decide (a0_5 ≤ 8) = true := decide_eq_true c43
      clear c43
      obtain rfl := Option.some.inj H
      obtain ⟨hcz44_0, hcz44_1, hcz44_2, hcz44_3, hcz44_4, hcz44_5⟩ := cz6_ BK240.out
      obtain ⟨hfz44_0, hfz44_1, hfz44_2, hfz44_3, hfz44_4, hfz44_5⟩ := fz6_ BK240.out
      go_wp2
      go_ret
      exact rt_
     rw [if_neg c43] at H
     have c43b0 : decide (a0_5 ≤ 8) = false := decide_eq_false c43
     clear c43
     by_cases c45 : a0_5 ≤ (-1)
     rotate_left
     ·rw [if_neg c45] at H
      have c45b0 : decide (a0_5 ≤ (-1)) = false := decide_eq_false c45
      clear c45
      obtain rfl := Option.some.inj H
      obtain ⟨hcz49_0, hcz49_1, hcz49_2, hcz49_3, hcz49_4, hcz49_5⟩ := cz6_ BK240.out
      obtain ⟨hfz49_0, hfz49_1, hfz49_2, hfz49_3, hfz49_4, hfz49_5⟩ := fz6_ BK240.out
      go_wp2
      go_ret
      exact rt_
     rw [if_pos c45] at H
     have c45b0 : decide (a0_5 ≤ (-1)) = true := decide_eq_true c45
     clear c45
     by_cases c46 : a0_5 ≥ (-8)
     ·rw [if_pos c46] at H
      have c46b0 : decide ((-8) ≤ a0_5) = true := decide_eq_true c46
      clear c46
      obtain rfl := Option.some.inj H
      obtain ⟨hcz47_0, hcz47_1, hcz47_2, hcz47_3, hcz47_4, hcz47_5⟩ := cz6_ BK240.out
      obtain ⟨hfz47_0, hfz47_1, hfz47_2, hfz47_3, hfz47_4, hfz47_5⟩ := fz6_ BK240.out
      go_wp2
      go_ret
      exact rt_
     rw [if_neg c46] at H
     have c46b0 : decide ((-8) ≤ a0_5) = false := decide_eq_false c46
     clear c46
     obtain rfl := Option.some.inj H
     obtain ⟨hcz48_0, hcz48_1, hcz48_2, hcz48_3, hcz48_4, hcz48_5⟩ := cz6_ BK240.out
     obtain ⟨hfz48_0, hfz48_1, hfz48_2, hfz48_3, hfz48_4, hfz48_5⟩ := fz6_ BK240.out
     go_wp2
     go_ret
     exact rt_
def computusref17_Season.f (k : Nat) (a0_0 : ByteArray) (a0_1 : Int) (a0_2 : Int) (a0_3 : Int) (a0_4 : Int) (a0_5 : Int) (a0_6 : Int) (a0_7 : Int) (a0_8 : Int) : Option (Bool) := (computusref17_Identifier.f k a0_0).bind fun t244 => (if t244 = true then (if a0_1 ≥ 1 then (if a0_1 ≤ 9 then (if a0_2 ≥ 1 then (if a0_2 ≤ 9 then ((computusref16_Check.f k a0_3 a0_4 a0_5 a0_6 a0_7 a0_8).bind fun t245 => (some t245)) else (some false)) else (some false)) else (some false)) else (some false)) else (some false))
theorem computusref17_Season.mono : ∀ a0 a1 a2 a3 a4 a5 a6 a7 a8 k, LeO (computusref17_Season.f k a0 a1 a2 a3 a4 a5 a6 a7 a8) (computusref17_Season.f (k + 1) a0 a1 a2 a3 a4 a5 a6 a7 a8) := by
 intro a0 a1 a2 a3 a4 a5 a6 a7 a8 k
 unfold computusref17_Season.f
 repeat' first | (with_reducible first | exact computusref16_Check.mono _ _ _ _ _ _ _ | exact computusref17_Identifier.mono _ _ | exact LeO.refl _ | exact LeO.none _ | refine LeO.ite ?_ ?_ | refine LeO.bind ?_ (fun _ => ?_)) | exact LeO.none _ | refine LeO.ite ?_ ?_ | refine LeO.bind ?_ (fun _ => ?_)
set_option maxHeartbeats 8000000 in
set_option maxRecDepth 100000 in
theorem computusref17_Season.calls (k : Nat) (a0_0 : ByteArray) (a0_1 : Int) (a0_2 : Int) (a0_3 : Int) (a0_4 : Int) (a0_5 : Int) (a0_6 : Int) (a0_7 : Int) (a0_8 : Int) (r : Bool) (w : World) (h : computusref17_Season.f k a0_0 a0_1 a0_2 a0_3 a0_4 a0_5 a0_6 a0_7 a0_8 = some r) :
  Calls Try.prog 44 #[.agg #[.string a0_0, .int .i64 a0_1, .int .i64 a0_2, .int .i64 a0_3, .int .i64 a0_4, .int .i64 a0_5, .int .i64 a0_6, .int .i64 a0_7, .int .i64 a0_8]] w fun e w' => e = .returned (.bool r) ∧ Below w.heap.size w w' := by
 have hu66 := Try.underlying66
 have hu64 := Try.underlying64
 have HB := Aside0.mk (Below.refl w.heap.size w)
 have H := h
 clear h
 unfold computusref17_Season.f at H
 obtain ⟨t244, A2, H⟩ := bs_ H
 by_cases c3 : t244 = true
 rotate_left
 ·replace c3 := Bool.eq_false_iff.mpr c3
  subst c3
  replace H := if_ H
  obtain rfl := Option.some.inj H
  go_enter Try.func44, Try.ntmps44
  go_wp2_with (first | ((with_reducible refine gate_dst (N := 1) rfl ?_); refine bx_ (w := w) (N := 1) (cs := #[.string a0_0, .int .i64 a0_1, .int .i64 a0_2, .int .i64 a0_3, .int .i64 a0_4, .int .i64 a0_5, .int .i64 a0_6, .int .i64 a0_7, .int .i64 a0_8]) (t := 66) ?_; intro gb243 w20 BK243 n0_ GW243 GE243; clear HB; have HB := n0_; clear n0_; have hcz21_0 : w20.cell? ⟨gb243, 0, none⟩ = some (.string a0_0) := (blk_cell BK243.out 0).trans rfl; have hcz21_1 : w20.cell? ⟨gb243, 1, none⟩ = some (.int .i64 a0_1) := (blk_cell BK243.out 1).trans rfl; have hcz21_2 : w20.cell? ⟨gb243, 2, none⟩ = some (.int .i64 a0_2) := (blk_cell BK243.out 2).trans rfl; have hcz21_3 : w20.cell? ⟨gb243, 3, none⟩ = some (.int .i64 a0_3) := (blk_cell BK243.out 3).trans rfl; have hcz21_4 : w20.cell? ⟨gb243, 4, none⟩ = some (.int .i64 a0_4) := (blk_cell BK243.out 4).trans rfl; have hcz21_5 : w20.cell? ⟨gb243, 5, none⟩ = some (.int .i64 a0_5) := (blk_cell BK243.out 5).trans rfl; have hcz21_6 : w20.cell? ⟨gb243, 6, none⟩ = some (.int .i64 a0_6) := (blk_cell BK243.out 6).trans rfl; have hcz21_7 : w20.cell? ⟨gb243, 7, none⟩ = some (.int .i64 a0_7) := (blk_cell BK243.out 7).trans rfl; have hcz21_8 : w20.cell? ⟨gb243, 8, none⟩ = some (.int .i64 a0_8) := (blk_cell BK243.out 8).trans rfl; have hfz21_0 := blk_frozen BK243.out 0; have hfz21_1 := blk_frozen BK243.out 1; have hfz21_2 := blk_frozen BK243.out 2; have hfz21_3 := blk_frozen BK243.out 3; have hfz21_4 := blk_frozen BK243.out 4; have hfz21_5 := blk_frozen BK243.out 5; have hfz21_6 := blk_frozen BK243.out 6; have hfz21_7 := blk_frozen BK243.out 7; have hfz21_8 := blk_frozen BK243.out 8) | ((with_reducible refine gate_callee (f := 56) rfl ?_); refine gl_ (some 5) Try.func56 #[.string a0_0] ?_; (with_reducible refine (computusref17_Identifier.calls k a0_0 false _ A2.out).mono ?_); rintro e w' ⟨rfl, ⟨nd, rfl⟩⟩; refine ⟨_, rfl, ?_⟩))
  go_ret
  exact rt_
 subst c3
 replace H := it_ H
 by_cases c4 : a0_1 ≥ 1
 rotate_left
 ·rw [if_neg c4] at H
  have c4b0 : decide (1 ≤ a0_1) = false := decide_eq_false c4
  clear c4
  obtain rfl := Option.some.inj H
  go_enter Try.func44, Try.ntmps44
  go_wp2_with (first | ((with_reducible refine gate_dst (N := 1) rfl ?_); refine bx_ (w := w) (N := 1) (cs := #[.string a0_0, .int .i64 a0_1, .int .i64 a0_2, .int .i64 a0_3, .int .i64 a0_4, .int .i64 a0_5, .int .i64 a0_6, .int .i64 a0_7, .int .i64 a0_8]) (t := 66) ?_; intro gb243 w18 BK243 n0_ GW243 GE243; clear HB; have HB := n0_; clear n0_; have hcz19_0 : w18.cell? ⟨gb243, 0, none⟩ = some (.string a0_0) := (blk_cell BK243.out 0).trans rfl; have hcz19_1 : w18.cell? ⟨gb243, 1, none⟩ = some (.int .i64 a0_1) := (blk_cell BK243.out 1).trans rfl; have hcz19_2 : w18.cell? ⟨gb243, 2, none⟩ = some (.int .i64 a0_2) := (blk_cell BK243.out 2).trans rfl; have hcz19_3 : w18.cell? ⟨gb243, 3, none⟩ = some (.int .i64 a0_3) := (blk_cell BK243.out 3).trans rfl; have hcz19_4 : w18.cell? ⟨gb243, 4, none⟩ = some (.int .i64 a0_4) := (blk_cell BK243.out 4).trans rfl; have hcz19_5 : w18.cell? ⟨gb243, 5, none⟩ = some (.int .i64 a0_5) := (blk_cell BK243.out 5).trans rfl; have hcz19_6 : w18.cell? ⟨gb243, 6, none⟩ = some (.int .i64 a0_6) := (blk_cell BK243.out 6).trans rfl; have hcz19_7 : w18.cell? ⟨gb243, 7, none⟩ = some (.int .i64 a0_7) := (blk_cell BK243.out 7).trans rfl; have hcz19_8 : w18.cell? ⟨gb243, 8, none⟩ = some (.int .i64 a0_8) := (blk_cell BK243.out 8).trans rfl; have hfz19_0 := blk_frozen BK243.out 0; have hfz19_1 := blk_frozen BK243.out 1; have hfz19_2 := blk_frozen BK243.out 2; have hfz19_3 := blk_frozen BK243.out 3; have hfz19_4 := blk_frozen BK243.out 4; have hfz19_5 := blk_frozen BK243.out 5; have hfz19_6 := blk_frozen BK243.out 6; have hfz19_7 := blk_frozen BK243.out 7; have hfz19_8 := blk_frozen BK243.out 8) | ((with_reducible refine gate_callee (f := 56) rfl ?_); refine gl_ (some 5) Try.func56 #[.string a0_0] ?_; (with_reducible refine (computusref17_Identifier.calls k a0_0 true _ A2.out).mono ?_); rintro e w' ⟨rfl, ⟨nd, rfl⟩⟩; refine ⟨_, rfl, ?_⟩))
  go_ret
  exact rt_
 rw [if_pos c4] at H
 have c4b0 : decide (1 ≤ a0_1) = true := decide_eq_true c4
 clear c4
 by_cases c5 : a0_1 ≤ 9
 rotate_left
 ·rw [if_neg c5] at H
  have c5b0 : decide (a0_1 ≤ 9) = false := decide_eq_false c5
  clear c5
  obtain rfl := Option.some.inj H
  go_enter Try.func44, Try.ntmps44
  go_wp2_with (first | ((with_reducible refine gate_dst (N := 1) rfl ?_); refine bx_ (w := w) (N := 1) (cs := #[.string a0_0, .int .i64 a0_1, .int .i64 a0_2, .int .i64 a0_3, .int .i64 a0_4, .int .i64 a0_5, .int .i64 a0_6, .int .i64 a0_7, .int .i64 a0_8]) (t := 66) ?_; intro gb243 w16 BK243 n0_ GW243 GE243; clear HB; have HB := n0_; clear n0_; have hcz17_0 : w16.cell? ⟨gb243, 0, none⟩ = some (.string a0_0) := (blk_cell BK243.out 0).trans rfl; have hcz17_1 : w16.cell? ⟨gb243, 1, none⟩ = some (.int .i64 a0_1) := (blk_cell BK243.out 1).trans rfl; have hcz17_2 : w16.cell? ⟨gb243, 2, none⟩ = some (.int .i64 a0_2) := (blk_cell BK243.out 2).trans rfl; have hcz17_3 : w16.cell? ⟨gb243, 3, none⟩ = some (.int .i64 a0_3) := (blk_cell BK243.out 3).trans rfl; have hcz17_4 : w16.cell? ⟨gb243, 4, none⟩ = some (.int .i64 a0_4) := (blk_cell BK243.out 4).trans rfl; have hcz17_5 : w16.cell? ⟨gb243, 5, none⟩ = some (.int .i64 a0_5) := (blk_cell BK243.out 5).trans rfl; have hcz17_6 : w16.cell? ⟨gb243, 6, none⟩ = some (.int .i64 a0_6) := (blk_cell BK243.out 6).trans rfl; have hcz17_7 : w16.cell? ⟨gb243, 7, none⟩ = some (.int .i64 a0_7) := (blk_cell BK243.out 7).trans rfl; have hcz17_8 : w16.cell? ⟨gb243, 8, none⟩ = some (.int .i64 a0_8) := (blk_cell BK243.out 8).trans rfl; have hfz17_0 := blk_frozen BK243.out 0; have hfz17_1 := blk_frozen BK243.out 1; have hfz17_2 := blk_frozen BK243.out 2; have hfz17_3 := blk_frozen BK243.out 3; have hfz17_4 := blk_frozen BK243.out 4; have hfz17_5 := blk_frozen BK243.out 5; have hfz17_6 := blk_frozen BK243.out 6; have hfz17_7 := blk_frozen BK243.out 7; have hfz17_8 := blk_frozen BK243.out 8) | ((with_reducible refine gate_callee (f := 56) rfl ?_); refine gl_ (some 5) Try.func56 #[.string a0_0] ?_; (with_reducible refine (computusref17_Identifier.calls k a0_0 true _ A2.out).mono ?_); rintro e w' ⟨rfl, ⟨nd, rfl⟩⟩; refine ⟨_, rfl, ?_⟩))
  go_ret
  exact rt_
 rw [if_pos c5] at H
 have c5b0 : decide (a0_1 ≤ 9) = true := decide_eq_true c5
 clear c5
 by_cases c6 : a0_2 ≥ 1
 rotate_left
 ·rw [if_neg c6] at H
  have c6b0 : decide (1 ≤ a0_2) = false := decide_eq_false c6
  clear c6
  obtain rfl := Option.some.inj H
  go_enter Try.func44, Try.ntmps44
  go_wp2_with (first | ((with_reducible refine gate_dst (N := 1) rfl ?_); refine bx_ (w := w) (N := 1) (cs := #[.string a0_0, .int .i64 a0_1, .int .i64 a0_2, .int .i64 a0_3, .int .i64 a0_4, .int .i64 a0_5, .int .i64 a0_6, .int .i64 a0_7, .int .i64 a0_8]) (t := 66) ?_; intro gb243 w14 BK243 n0_ GW243 GE243; clear HB; have HB := n0_; clear n0_; have hcz15_0 : w14.cell? ⟨gb243, 0, none⟩ = some (.string a0_0) := (blk_cell BK243.out 0).trans rfl; have hcz15_1 : w14.cell? ⟨gb243, 1, none⟩ = some (.int .i64 a0_1) := (blk_cell BK243.out 1).trans rfl; have hcz15_2 : w14.cell? ⟨gb243, 2, none⟩ = some (.int .i64 a0_2) := (blk_cell BK243.out 2).trans rfl; have hcz15_3 : w14.cell? ⟨gb243, 3, none⟩ = some (.int .i64 a0_3) := (blk_cell BK243.out 3).trans rfl; have hcz15_4 : w14.cell? ⟨gb243, 4, none⟩ = some (.int .i64 a0_4) := (blk_cell BK243.out 4).trans rfl; have hcz15_5 : w14.cell? ⟨gb243, 5, none⟩ = some (.int .i64 a0_5) := (blk_cell BK243.out 5).trans rfl; have hcz15_6 : w14.cell? ⟨gb243, 6, none⟩ = some (.int .i64 a0_6) := (blk_cell BK243.out 6).trans rfl; have hcz15_7 : w14.cell? ⟨gb243, 7, none⟩ = some (.int .i64 a0_7) := (blk_cell BK243.out 7).trans rfl; have hcz15_8 : w14.cell? ⟨gb243, 8, none⟩ = some (.int .i64 a0_8) := (blk_cell BK243.out 8).trans rfl; have hfz15_0 := blk_frozen BK243.out 0; have hfz15_1 := blk_frozen BK243.out 1; have hfz15_2 := blk_frozen BK243.out 2; have hfz15_3 := blk_frozen BK243.out 3; have hfz15_4 := blk_frozen BK243.out 4; have hfz15_5 := blk_frozen BK243.out 5; have hfz15_6 := blk_frozen BK243.out 6; have hfz15_7 := blk_frozen BK243.out 7; have hfz15_8 := blk_frozen BK243.out 8) | ((with_reducible refine gate_callee (f := 56) rfl ?_); refine gl_ (some 5) Try.func56 #[.string a0_0] ?_; (with_reducible refine (computusref17_Identifier.calls k a0_0 true _ A2.out).mono ?_); rintro e w' ⟨rfl, ⟨nd, rfl⟩⟩; refine ⟨_, rfl, ?_⟩))
  go_ret
  exact rt_
 rw [if_pos c6] at H
 have c6b0 : decide (1 ≤ a0_2) = true := decide_eq_true c6
 clear c6
 by_cases c7 : a0_2 ≤ 9
 rotate_left
 ·rw [if_neg c7] at H
  have c7b0 : decide (a0_2 ≤ 9) = false := decide_eq_false c7
  clear c7
  obtain rfl := Option.some.inj H
  go_enter Try.func44, Try.ntmps44
  go_wp2_with (first | ((with_reducible refine gate_dst (N := 1) rfl ?_); refine bx_ (w := w) (N := 1) (cs := #[.string a0_0, .int .i64 a0_1, .int .i64 a0_2, .int .i64 a0_3, .int .i64 a0_4, .int .i64 a0_5, .int .i64 a0_6, .int .i64 a0_7, .int .i64 a0_8]) (t := 66) ?_; intro gb243 w12 BK243 n0_ GW243 GE243; clear HB; have HB := n0_; clear n0_; have hcz13_0 : w12.cell? ⟨gb243, 0, none⟩ = some (.string a0_0) := (blk_cell BK243.out 0).trans rfl; have hcz13_1 : w12.cell? ⟨gb243, 1, none⟩ = some (.int .i64 a0_1) := (blk_cell BK243.out 1).trans rfl; have hcz13_2 : w12.cell? ⟨gb243, 2, none⟩ = some (.int .i64 a0_2) := (blk_cell BK243.out 2).trans rfl; have hcz13_3 : w12.cell? ⟨gb243, 3, none⟩ = some (.int .i64 a0_3) := (blk_cell BK243.out 3).trans rfl; have hcz13_4 : w12.cell? ⟨gb243, 4, none⟩ = some (.int .i64 a0_4) := (blk_cell BK243.out 4).trans rfl; have hcz13_5 : w12.cell? ⟨gb243, 5, none⟩ = some (.int .i64 a0_5) := (blk_cell BK243.out 5).trans rfl; have hcz13_6 : w12.cell? ⟨gb243, 6, none⟩ = some (.int .i64 a0_6) := (blk_cell BK243.out 6).trans rfl; have hcz13_7 : w12.cell? ⟨gb243, 7, none⟩ = some (.int .i64 a0_7) := (blk_cell BK243.out 7).trans rfl; have hcz13_8 : w12.cell? ⟨gb243, 8, none⟩ = some (.int .i64 a0_8) := (blk_cell BK243.out 8).trans rfl; have hfz13_0 := blk_frozen BK243.out 0; have hfz13_1 := blk_frozen BK243.out 1; have hfz13_2 := blk_frozen BK243.out 2; have hfz13_3 := blk_frozen BK243.out 3; have hfz13_4 := blk_frozen BK243.out 4; have hfz13_5 := blk_frozen BK243.out 5; have hfz13_6 := blk_frozen BK243.out 6; have hfz13_7 := blk_frozen BK243.out 7; have hfz13_8 := blk_frozen BK243.out 8) | ((with_reducible refine gate_callee (f := 56) rfl ?_); refine gl_ (some 5) Try.func56 #[.string a0_0] ?_; (with_reducible refine (computusref17_Identifier.calls k a0_0 true _ A2.out).mono ?_); rintro e w' ⟨rfl, ⟨nd, rfl⟩⟩; refine ⟨_, rfl, ?_⟩))
  go_ret
  exact rt_
 rw [if_pos c7] at H
 have c7b0 : decide (a0_2 ≤ 9) = true := decide_eq_true c7
 clear c7
 obtain ⟨t245, A8, H⟩ := bs_ H
 obtain rfl := Option.some.inj H
 go_enter Try.func44, Try.ntmps44
 go_wp2_with (first | ((with_reducible refine gate_dst (N := 1) rfl ?_); refine bx_ (w := w) (N := 1) (cs := #[.string a0_0, .int .i64 a0_1, .int .i64 a0_2, .int .i64 a0_3, .int .i64 a0_4, .int .i64 a0_5, .int .i64 a0_6, .int .i64 a0_7, .int .i64 a0_8]) (t := 66) ?_; intro gb243 w9 BK243 n0_ GW243 GE243; clear HB; have HB := n0_; clear n0_; have hcz10_0 : w9.cell? ⟨gb243, 0, none⟩ = some (.string a0_0) := (blk_cell BK243.out 0).trans rfl; have hcz10_1 : w9.cell? ⟨gb243, 1, none⟩ = some (.int .i64 a0_1) := (blk_cell BK243.out 1).trans rfl; have hcz10_2 : w9.cell? ⟨gb243, 2, none⟩ = some (.int .i64 a0_2) := (blk_cell BK243.out 2).trans rfl; have hcz10_3 : w9.cell? ⟨gb243, 3, none⟩ = some (.int .i64 a0_3) := (blk_cell BK243.out 3).trans rfl; have hcz10_4 : w9.cell? ⟨gb243, 4, none⟩ = some (.int .i64 a0_4) := (blk_cell BK243.out 4).trans rfl; have hcz10_5 : w9.cell? ⟨gb243, 5, none⟩ = some (.int .i64 a0_5) := (blk_cell BK243.out 5).trans rfl; have hcz10_6 : w9.cell? ⟨gb243, 6, none⟩ = some (.int .i64 a0_6) := (blk_cell BK243.out 6).trans rfl; have hcz10_7 : w9.cell? ⟨gb243, 7, none⟩ = some (.int .i64 a0_7) := (blk_cell BK243.out 7).trans rfl; have hcz10_8 : w9.cell? ⟨gb243, 8, none⟩ = some (.int .i64 a0_8) := (blk_cell BK243.out 8).trans rfl; have hfz10_0 := blk_frozen BK243.out 0; have hfz10_1 := blk_frozen BK243.out 1; have hfz10_2 := blk_frozen BK243.out 2; have hfz10_3 := blk_frozen BK243.out 3; have hfz10_4 := blk_frozen BK243.out 4; have hfz10_5 := blk_frozen BK243.out 5; have hfz10_6 := blk_frozen BK243.out 6; have hfz10_7 := blk_frozen BK243.out 7; have hfz10_8 := blk_frozen BK243.out 8) | ((with_reducible refine gate_callee (f := 56) rfl ?_); refine gl_ (some 5) Try.func56 #[.string a0_0] ?_; (with_reducible refine (computusref17_Identifier.calls k a0_0 true _ A2.out).mono ?_); rintro e w' ⟨rfl, ⟨nd, rfl⟩⟩; refine ⟨_, rfl, ?_⟩) | (go_at_call 57; (with_reducible refine (computusref16_Check.calls k a0_3 a0_4 a0_5 a0_6 a0_7 a0_8 t245 _ A8.out).mono ?_); rintro e w11 ⟨rfl, hb⟩; have n0_ := Aside0.mk (blk_below (g := gb243) (o := .cells #[.string a0_0, .int .i64 a0_1, .int .i64 a0_2, .int .i64 a0_3, .int .i64 a0_4, .int .i64 a0_5, .int .i64 a0_6, .int .i64 a0_7, .int .i64 a0_8] 66 (0, 0)) (bk_ BK243.out) hb); have n1_ := bt_ hb; clear BK243; clear HB; have BK243 := n0_; have HB := n1_; clear n0_ n1_; (try clear hb); (try clear hb2); (try clear hk); (try clear hi)))
 go_ret
 exact rt_
def computusref17_Feast.f (k : Nat) (a0_0 : ByteArray) (a0_1 : Int) (a0_2 : Int) (a0_3 : Int) (a0_4 : Int) (a0_5 : Int) (a0_6 : Int) (a0_7 : Int) (a0_8 : Int) : Option (Bool) := (computusref17_Identifier.f k a0_0).bind fun t247 => (if t247 = true then (if a0_1 ≥ 1 then (if a0_1 ≤ 9 then (if a0_2 ≥ 1 then (if a0_2 ≤ 3 then ((computusref16_Check.f k a0_3 a0_4 a0_5 a0_6 a0_7 a0_8).bind fun t248 => (some t248)) else (some false)) else (some false)) else (some false)) else (some false)) else (some false))
theorem computusref17_Feast.mono : ∀ a0 a1 a2 a3 a4 a5 a6 a7 a8 k, LeO (computusref17_Feast.f k a0 a1 a2 a3 a4 a5 a6 a7 a8) (computusref17_Feast.f (k + 1) a0 a1 a2 a3 a4 a5 a6 a7 a8) := by
 intro a0 a1 a2 a3 a4 a5 a6 a7 a8 k
 unfold computusref17_Feast.f
 repeat' first | (with_reducible first | exact computusref16_Check.mono _ _ _ _ _ _ _ | exact computusref17_Identifier.mono _ _ | exact LeO.refl _ | exact LeO.none _ | refine LeO.ite ?_ ?_ | refine LeO.bind ?_ (fun _ => ?_)) | exact LeO.none _ | refine LeO.ite ?_ ?_ | refine LeO.bind ?_ (fun _ => ?_)
set_option maxHeartbeats 8000000 in
set_option maxRecDepth 100000 in
theorem computusref17_Feast.calls (k : Nat) (a0_0 : ByteArray) (a0_1 : Int) (a0_2 : Int) (a0_3 : Int) (a0_4 : Int) (a0_5 : Int) (a0_6 : Int) (a0_7 : Int) (a0_8 : Int) (r : Bool) (w : World) (h : computusref17_Feast.f k a0_0 a0_1 a0_2 a0_3 a0_4 a0_5 a0_6 a0_7 a0_8 = some r) :
  Calls Try.prog 45 #[.agg #[.string a0_0, .int .i64 a0_1, .int .i64 a0_2, .int .i64 a0_3, .int .i64 a0_4, .int .i64 a0_5, .int .i64 a0_6, .int .i64 a0_7, .int .i64 a0_8]] w fun e w' => e = .returned (.bool r) ∧ Below w.heap.size w w' := by
 have hu68 := Try.underlying68
 have hu64 := Try.underlying64
 have HB := Aside0.mk (Below.refl w.heap.size w)
 have H := h
 clear h
 unfold computusref17_Feast.f at H
 obtain ⟨t247, A2, H⟩ := bs_ H
 by_cases c3 : t247 = true
 rotate_left
 ·replace c3 := Bool.eq_false_iff.mpr c3
  subst c3
  replace H := if_ H
  obtain rfl := Option.some.inj H
  go_enter Try.func45, Try.ntmps45
  go_wp2_with (first | ((with_reducible refine gate_dst (N := 1) rfl ?_); refine bx_ (w := w) (N := 1) (cs := #[.string a0_0, .int .i64 a0_1, .int .i64 a0_2, .int .i64 a0_3, .int .i64 a0_4, .int .i64 a0_5, .int .i64 a0_6, .int .i64 a0_7, .int .i64 a0_8]) (t := 68) ?_; intro gb246 w20 BK246 n0_ GW246 GE246; clear HB; have HB := n0_; clear n0_; have hcz21_0 : w20.cell? ⟨gb246, 0, none⟩ = some (.string a0_0) := (blk_cell BK246.out 0).trans rfl; have hcz21_1 : w20.cell? ⟨gb246, 1, none⟩ = some (.int .i64 a0_1) := (blk_cell BK246.out 1).trans rfl; have hcz21_2 : w20.cell? ⟨gb246, 2, none⟩ = some (.int .i64 a0_2) := (blk_cell BK246.out 2).trans rfl; have hcz21_3 : w20.cell? ⟨gb246, 3, none⟩ = some (.int .i64 a0_3) := (blk_cell BK246.out 3).trans rfl; have hcz21_4 : w20.cell? ⟨gb246, 4, none⟩ = some (.int .i64 a0_4) := (blk_cell BK246.out 4).trans rfl; have hcz21_5 : w20.cell? ⟨gb246, 5, none⟩ = some (.int .i64 a0_5) := (blk_cell BK246.out 5).trans rfl; have hcz21_6 : w20.cell? ⟨gb246, 6, none⟩ = some (.int .i64 a0_6) := (blk_cell BK246.out 6).trans rfl; have hcz21_7 : w20.cell? ⟨gb246, 7, none⟩ = some (.int .i64 a0_7) := (blk_cell BK246.out 7).trans rfl; have hcz21_8 : w20.cell? ⟨gb246, 8, none⟩ = some (.int .i64 a0_8) := (blk_cell BK246.out 8).trans rfl; have hfz21_0 := blk_frozen BK246.out 0; have hfz21_1 := blk_frozen BK246.out 1; have hfz21_2 := blk_frozen BK246.out 2; have hfz21_3 := blk_frozen BK246.out 3; have hfz21_4 := blk_frozen BK246.out 4; have hfz21_5 := blk_frozen BK246.out 5; have hfz21_6 := blk_frozen BK246.out 6; have hfz21_7 := blk_frozen BK246.out 7; have hfz21_8 := blk_frozen BK246.out 8) | ((with_reducible refine gate_callee (f := 56) rfl ?_); refine gl_ (some 5) Try.func56 #[.string a0_0] ?_; (with_reducible refine (computusref17_Identifier.calls k a0_0 false _ A2.out).mono ?_); rintro e w' ⟨rfl, ⟨nd, rfl⟩⟩; refine ⟨_, rfl, ?_⟩))
  go_ret
  exact rt_
 subst c3
 replace H := it_ H
 by_cases c4 : a0_1 ≥ 1
 rotate_left
 ·rw [if_neg c4] at H
  have c4b0 : decide (1 ≤ a0_1) = false := decide_eq_false c4
  clear c4
  obtain rfl := Option.some.inj H
  go_enter Try.func45, Try.ntmps45
  go_wp2_with (first | ((with_reducible refine gate_dst (N := 1) rfl ?_); refine bx_ (w := w) (N := 1) (cs := #[.string a0_0, .int .i64 a0_1, .int .i64 a0_2, .int .i64 a0_3, .int .i64 a0_4, .int .i64 a0_5, .int .i64 a0_6, .int .i64 a0_7, .int .i64 a0_8]) (t := 68) ?_; intro gb246 w18 BK246 n0_ GW246 GE246; clear HB; have HB := n0_; clear n0_; have hcz19_0 : w18.cell? ⟨gb246, 0, none⟩ = some (.string a0_0) := (blk_cell BK246.out 0).trans rfl; have hcz19_1 : w18.cell? ⟨gb246, 1, none⟩ = some (.int .i64 a0_1) := (blk_cell BK246.out 1).trans rfl; have hcz19_2 : w18.cell? ⟨gb246, 2, none⟩ = some (.int .i64 a0_2) := (blk_cell BK246.out 2).trans rfl; have hcz19_3 : w18.cell? ⟨gb246, 3, none⟩ = some (.int .i64 a0_3) := (blk_cell BK246.out 3).trans rfl; have hcz19_4 : w18.cell? ⟨gb246, 4, none⟩ = some (.int .i64 a0_4) := (blk_cell BK246.out 4).trans rfl; have hcz19_5 : w18.cell? ⟨gb246, 5, none⟩ = some (.int .i64 a0_5) := (blk_cell BK246.out 5).trans rfl; have hcz19_6 : w18.cell? ⟨gb246, 6, none⟩ = some (.int .i64 a0_6) := (blk_cell BK246.out 6).trans rfl; have hcz19_7 : w18.cell? ⟨gb246, 7, none⟩ = some (.int .i64 a0_7) := (blk_cell BK246.out 7).trans rfl; have hcz19_8 : w18.cell? ⟨gb246, 8, none⟩ = some (.int .i64 a0_8) := (blk_cell BK246.out 8).trans rfl; have hfz19_0 := blk_frozen BK246.out 0; have hfz19_1 := blk_frozen BK246.out 1; have hfz19_2 := blk_frozen BK246.out 2; have hfz19_3 := blk_frozen BK246.out 3; have hfz19_4 := blk_frozen BK246.out 4; have hfz19_5 := blk_frozen BK246.out 5; have hfz19_6 := blk_frozen BK246.out 6; have hfz19_7 := blk_frozen BK246.out 7; have hfz19_8 := blk_frozen BK246.out 8) | ((with_reducible refine gate_callee (f := 56) rfl ?_); refine gl_ (some 5) Try.func56 #[.string a0_0] ?_; (with_reducible refine (computusref17_Identifier.calls k a0_0 true _ A2.out).mono ?_); rintro e w' ⟨rfl, ⟨nd, rfl⟩⟩; refine ⟨_, rfl, ?_⟩))
  go_ret
  exact rt_
 rw [if_pos c4] at H
 have c4b0 : decide (1 ≤ a0_1) = true := decide_eq_true c4
 clear c4
 by_cases c5 : a0_1 ≤ 9
 rotate_left
 ·rw [if_neg c5] at H
  have c5b0 : decide (a0_1 ≤ 9) = false := decide_eq_false c5
  clear c5
  obtain rfl := Option.some.inj H
  go_enter Try.func45, Try.ntmps45
  go_wp2_with (first | ((with_reducible refine gate_dst (N := 1) rfl ?_); refine bx_ (w := w) (N := 1) (cs := #[.string a0_0, .int .i64 a0_1, .int .i64 a0_2, .int .i64 a0_3, .int .i64 a0_4, .int .i64 a0_5, .int .i64 a0_6, .int .i64 a0_7, .int .i64 a0_8]) (t := 68) ?_; intro gb246 w16 BK246 n0_ GW246 GE246; clear HB; have HB := n0_; clear n0_; have hcz17_0 : w16.cell? ⟨gb246, 0, none⟩ = some (.string a0_0) := (blk_cell BK246.out 0).trans rfl; have hcz17_1 : w16.cell? ⟨gb246, 1, none⟩ = some (.int .i64 a0_1) := (blk_cell BK246.out 1).trans rfl; have hcz17_2 : w16.cell? ⟨gb246, 2, none⟩ = some (.int .i64 a0_2) := (blk_cell BK246.out 2).trans rfl; have hcz17_3 : w16.cell? ⟨gb246, 3, none⟩ = some (.int .i64 a0_3) := (blk_cell BK246.out 3).trans rfl; have hcz17_4 : w16.cell? ⟨gb246, 4, none⟩ = some (.int .i64 a0_4) := (blk_cell BK246.out 4).trans rfl; have hcz17_5 : w16.cell? ⟨gb246, 5, none⟩ = some (.int .i64 a0_5) := (blk_cell BK246.out 5).trans rfl; have hcz17_6 : w16.cell? ⟨gb246, 6, none⟩ = some (.int .i64 a0_6) := (blk_cell BK246.out 6).trans rfl; have hcz17_7 : w16.cell? ⟨gb246, 7, none⟩ = some (.int .i64 a0_7) := (blk_cell BK246.out 7).trans rfl; have hcz17_8 : w16.cell? ⟨gb246, 8, none⟩ = some (.int .i64 a0_8) := (blk_cell BK246.out 8).trans rfl; have hfz17_0 := blk_frozen BK246.out 0; have hfz17_1 := blk_frozen BK246.out 1; have hfz17_2 := blk_frozen BK246.out 2; have hfz17_3 := blk_frozen BK246.out 3; have hfz17_4 := blk_frozen BK246.out 4; have hfz17_5 := blk_frozen BK246.out 5; have hfz17_6 := blk_frozen BK246.out 6; have hfz17_7 := blk_frozen BK246.out 7; have hfz17_8 := blk_frozen BK246.out 8) | ((with_reducible refine gate_callee (f := 56) rfl ?_); refine gl_ (some 5) Try.func56 #[.string a0_0] ?_; (with_reducible refine (computusref17_Identifier.calls k a0_0 true _ A2.out).mono ?_); rintro e w' ⟨rfl, ⟨nd, rfl⟩⟩; refine ⟨_, rfl, ?_⟩))
  go_ret
  exact rt_
 rw [if_pos c5] at H
 have c5b0 : decide (a0_1 ≤ 9) = true := decide_eq_true c5
 clear c5
 by_cases c6 : a0_2 ≥ 1
 rotate_left
 ·rw [if_neg c6] at H
  have c6b0 : decide (1 ≤ a0_2) = false := decide_eq_false c6
  clear c6
  obtain rfl := Option.some.inj H
  go_enter Try.func45, Try.ntmps45
  go_wp2_with (first | ((with_reducible refine gate_dst (N := 1) rfl ?_); refine bx_ (w := w) (N := 1) (cs := #[.string a0_0, .int .i64 a0_1, .int .i64 a0_2, .int .i64 a0_3, .int .i64 a0_4, .int .i64 a0_5, .int .i64 a0_6, .int .i64 a0_7, .int .i64 a0_8]) (t := 68) ?_; intro gb246 w14 BK246 n0_ GW246 GE246; clear HB; have HB := n0_; clear n0_; have hcz15_0 : w14.cell? ⟨gb246, 0, none⟩ = some (.string a0_0) := (blk_cell BK246.out 0).trans rfl; have hcz15_1 : w14.cell? ⟨gb246, 1, none⟩ = some (.int .i64 a0_1) := (blk_cell BK246.out 1).trans rfl; have hcz15_2 : w14.cell? ⟨gb246, 2, none⟩ = some (.int .i64 a0_2) := (blk_cell BK246.out 2).trans rfl; have hcz15_3 : w14.cell? ⟨gb246, 3, none⟩ = some (.int .i64 a0_3) := (blk_cell BK246.out 3).trans rfl; have hcz15_4 : w14.cell? ⟨gb246, 4, none⟩ = some (.int .i64 a0_4) := (blk_cell BK246.out 4).trans rfl; have hcz15_5 : w14.cell? ⟨gb246, 5, none⟩ = some (.int .i64 a0_5) := (blk_cell BK246.out 5).trans rfl; have hcz15_6 : w14.cell? ⟨gb246, 6, none⟩ = some (.int .i64 a0_6) := (blk_cell BK246.out 6).trans rfl; have hcz15_7 : w14.cell? ⟨gb246, 7, none⟩ = some (.int .i64 a0_7) := (blk_cell BK246.out 7).trans rfl; have hcz15_8 : w14.cell? ⟨gb246, 8, none⟩ = some (.int .i64 a0_8) := (blk_cell BK246.out 8).trans rfl; have hfz15_0 := blk_frozen BK246.out 0; have hfz15_1 := blk_frozen BK246.out 1; have hfz15_2 := blk_frozen BK246.out 2; have hfz15_3 := blk_frozen BK246.out 3; have hfz15_4 := blk_frozen BK246.out 4; have hfz15_5 := blk_frozen BK246.out 5; have hfz15_6 := blk_frozen BK246.out 6; have hfz15_7 := blk_frozen BK246.out 7; have hfz15_8 := blk_frozen BK246.out 8) | ((with_reducible refine gate_callee (f := 56) rfl ?_); refine gl_ (some 5) Try.func56 #[.string a0_0] ?_; (with_reducible refine (computusref17_Identifier.calls k a0_0 true _ A2.out).mono ?_); rintro e w' ⟨rfl, ⟨nd, rfl⟩⟩; refine ⟨_, rfl, ?_⟩))
  go_ret
  exact rt_
 rw [if_pos c6] at H
 have c6b0 : decide (1 ≤ a0_2) = true := decide_eq_true c6
 clear c6
 by_cases c7 : a0_2 ≤ 3
 rotate_left
 ·rw [if_neg c7] at H
  have c7b0 : decide (a0_2 ≤ 3) = false := decide_eq_false c7
  clear c7
  obtain rfl := Option.some.inj H
  go_enter Try.func45, Try.ntmps45
  go_wp2_with (first | ((with_reducible refine gate_dst (N := 1) rfl ?_); refine bx_ (w := w) (N := 1) (cs := #[.string a0_0, .int .i64 a0_1, .int .i64 a0_2, .int .i64 a0_3, .int .i64 a0_4, .int .i64 a0_5, .int .i64 a0_6, .int .i64 a0_7, .int .i64 a0_8]) (t := 68) ?_; intro gb246 w12 BK246 n0_ GW246 GE246; clear HB; have HB := n0_; clear n0_; have hcz13_0 : w12.cell? ⟨gb246, 0, none⟩ = some (.string a0_0) := (blk_cell BK246.out 0).trans rfl; have hcz13_1 : w12.cell? ⟨gb246, 1, none⟩ = some (.int .i64 a0_1) := (blk_cell BK246.out 1).trans rfl; have hcz13_2 : w12.cell? ⟨gb246, 2, none⟩ = some (.int .i64 a0_2) := (blk_cell BK246.out 2).trans rfl; have hcz13_3 : w12.cell? ⟨gb246, 3, none⟩ = some (.int .i64 a0_3) := (blk_cell BK246.out 3).trans rfl; have hcz13_4 : w12.cell? ⟨gb246, 4, none⟩ = some (.int .i64 a0_4) := (blk_cell BK246.out 4).trans rfl; have hcz13_5 : w12.cell? ⟨gb246, 5, none⟩ = some (.int .i64 a0_5) := (blk_cell BK246.out 5).trans rfl; have hcz13_6 : w12.cell? ⟨gb246, 6, none⟩ = some (.int .i64 a0_6) := (blk_cell BK246.out 6).trans rfl; have hcz13_7 : w12.cell? ⟨gb246, 7, none⟩ = some (.int .i64 a0_7) := (blk_cell BK246.out 7).trans rfl; have hcz13_8 : w12.cell? ⟨gb246, 8, none⟩ = some (.int .i64 a0_8) := (blk_cell BK246.out 8).trans rfl; have hfz13_0 := blk_frozen BK246.out 0; have hfz13_1 := blk_frozen BK246.out 1; have hfz13_2 := blk_frozen BK246.out 2; have hfz13_3 := blk_frozen BK246.out 3; have hfz13_4 := blk_frozen BK246.out 4; have hfz13_5 := blk_frozen BK246.out 5; have hfz13_6 := blk_frozen BK246.out 6; have hfz13_7 := blk_frozen BK246.out 7; have hfz13_8 := blk_frozen BK246.out 8) | ((with_reducible refine gate_callee (f := 56) rfl ?_); refine gl_ (some 5) Try.func56 #[.string a0_0] ?_; (with_reducible refine (computusref17_Identifier.calls k a0_0 true _ A2.out).mono ?_); rintro e w' ⟨rfl, ⟨nd, rfl⟩⟩; refine ⟨_, rfl, ?_⟩))
  go_ret
  exact rt_
 rw [if_pos c7] at H
 have c7b0 : decide (a0_2 ≤ 3) = true := decide_eq_true c7
 clear c7
 obtain ⟨t248, A8, H⟩ := bs_ H
 obtain rfl := Option.some.inj H
 go_enter Try.func45, Try.ntmps45
 go_wp2_with (first | ((with_reducible refine gate_dst (N := 1) rfl ?_); refine bx_ (w := w) (N := 1) (cs := #[.string a0_0, .int .i64 a0_1, .int .i64 a0_2, .int .i64 a0_3, .int .i64 a0_4, .int .i64 a0_5, .int .i64 a0_6, .int .i64 a0_7, .int .i64 a0_8]) (t := 68) ?_; intro gb246 w9 BK246 n0_ GW246 GE246; clear HB; have HB := n0_; clear n0_; have hcz10_0 : w9.cell? ⟨gb246, 0, none⟩ = some (.string a0_0) := (blk_cell BK246.out 0).trans rfl; have hcz10_1 : w9.cell? ⟨gb246, 1, none⟩ = some (.int .i64 a0_1) := (blk_cell BK246.out 1).trans rfl; have hcz10_2 : w9.cell? ⟨gb246, 2, none⟩ = some (.int .i64 a0_2) := (blk_cell BK246.out 2).trans rfl; have hcz10_3 : w9.cell? ⟨gb246, 3, none⟩ = some (.int .i64 a0_3) := (blk_cell BK246.out 3).trans rfl; have hcz10_4 : w9.cell? ⟨gb246, 4, none⟩ = some (.int .i64 a0_4) := (blk_cell BK246.out 4).trans rfl; have hcz10_5 : w9.cell? ⟨gb246, 5, none⟩ = some (.int .i64 a0_5) := (blk_cell BK246.out 5).trans rfl; have hcz10_6 : w9.cell? ⟨gb246, 6, none⟩ = some (.int .i64 a0_6) := (blk_cell BK246.out 6).trans rfl; have hcz10_7 : w9.cell? ⟨gb246, 7, none⟩ = some (.int .i64 a0_7) := (blk_cell BK246.out 7).trans rfl; have hcz10_8 : w9.cell? ⟨gb246, 8, none⟩ = some (.int .i64 a0_8) := (blk_cell BK246.out 8).trans rfl; have hfz10_0 := blk_frozen BK246.out 0; have hfz10_1 := blk_frozen BK246.out 1; have hfz10_2 := blk_frozen BK246.out 2; have hfz10_3 := blk_frozen BK246.out 3; have hfz10_4 := blk_frozen BK246.out 4; have hfz10_5 := blk_frozen BK246.out 5; have hfz10_6 := blk_frozen BK246.out 6; have hfz10_7 := blk_frozen BK246.out 7; have hfz10_8 := blk_frozen BK246.out 8) | ((with_reducible refine gate_callee (f := 56) rfl ?_); refine gl_ (some 5) Try.func56 #[.string a0_0] ?_; (with_reducible refine (computusref17_Identifier.calls k a0_0 true _ A2.out).mono ?_); rintro e w' ⟨rfl, ⟨nd, rfl⟩⟩; refine ⟨_, rfl, ?_⟩) | (go_at_call 57; (with_reducible refine (computusref16_Check.calls k a0_3 a0_4 a0_5 a0_6 a0_7 a0_8 t248 _ A8.out).mono ?_); rintro e w11 ⟨rfl, hb⟩; have n0_ := Aside0.mk (blk_below (g := gb246) (o := .cells #[.string a0_0, .int .i64 a0_1, .int .i64 a0_2, .int .i64 a0_3, .int .i64 a0_4, .int .i64 a0_5, .int .i64 a0_6, .int .i64 a0_7, .int .i64 a0_8] 68 (0, 0)) (bk_ BK246.out) hb); have n1_ := bt_ hb; clear BK246; clear HB; have BK246 := n0_; have HB := n1_; clear n0_ n1_; (try clear hb); (try clear hb2); (try clear hk); (try clear hi)))
 go_ret
 exact rt_
end Go.Proofs.Ytopfjjdkffdjpaa.Q
end
