-- Written by wip/tool/qprint.py: the print of the kit, with hand-proved contracts put in. Lean checks it.
import Derived.Test.YtkpicinbckedoaaQx0
import Derived.Test.YtkpicinbckedoaaQx1
import Derived.Test.YtkpicinbckedoaaQx2
import Derived.Test.YtkpicinbckedoaaQx5
import Derived.Test.YtkpicinbckedoaaQx8
import Derived.Test.YtkpicinbckedoaaHAwake25
import Derived.Test.YtkpicinbckedoaaHRef25W
import Derived.Test.YtkpicinbckedoaaHWord
namespace Go.Proofs.Ytkpicinbckedoaa.Q
open Go.RowKit Go.Proofs.YtkpicinbckedoaaW.PrintWords Go.Proofs.YtkpicinbckedoaaW.PrintLast Go.Proofs.YtkpicinbckedoaaW.PrintMore
attribute [local go_sem] max2_int min2_int max_two min_two max_three min_three max_four min_four   -- for this text's walks alone
set_option linter.unusedVariables false
set_option linter.unusedSimpArgs false

/-! ### computuslaw25_LinescanMatchesReference: function 5 -/
mutual
def computuslaw25_LinescanMatchesReference.j0 : Nat → ByteArray → List (S46) → Bool → Option (Bool)
  | 0, _, _, _ => none
  | k + 1, x0, x1, x30 => if x30 = true then ((computuslaw25_awake.f).bind fun t130 => (some t130)) else ((linescan_New.f x0).bind fun bt131 => (computuslaw25_LinescanMatchesReference.l0 k x0 x1 0 bt131.1 bt131.2.1 bt131.2.2 x0 0 false))
def computuslaw25_LinescanMatchesReference.l0 : Nat → ByteArray → List (S46) → Int → ByteArray → Int → Bool → ByteArray → Int → Bool → Option (Bool)
  | 0, _, _, _, _, _, _, _, _, _ => none
  | k + 1, x0, x1, x7, x135000, x135001, x135002, x136000, x136001, x136002 => if x7 < (x1.length : Int) then (if 0 ≤ x7 then (if ((rd_T46 x1 x7).f1) < 0 then (computuslaw25_LinescanMatchesReference.j2 k x0 x1 x7 ((rd_T46 x1 x7).f1) true x135000 x135001 x135002 x136000 x136001 x136002) else (computuslaw25_LinescanMatchesReference.j2 k x0 x1 x7 ((rd_T46 x1 x7).f1) (decide (((rd_T46 x1 x7).f1) > 1000)) x135000 x135001 x135002 x136000 x136001 x136002)) else (none)) else (some true)
def computuslaw25_LinescanMatchesReference.j2 : Nat → ByteArray → List (S46) → Int → Int → Bool → ByteArray → Int → Bool → ByteArray → Int → Bool → Option (Bool)
  | 0, _, _, _, _, _, _, _, _, _, _, _ => none
  | k + 1, x0, x1, x7, x8, x54, x135000, x135001, x135002, x136000, x136001, x136002 => if x54 = true then (computuslaw25_LinescanMatchesReference.j3 k x0 x1 x7 0 x135000 x135001 x135002 x136000 x136001 x136002) else (computuslaw25_LinescanMatchesReference.j3 k x0 x1 x7 x8 x135000 x135001 x135002 x136000 x136001 x136002)
def computuslaw25_LinescanMatchesReference.j3 : Nat → ByteArray → List (S46) → Int → Int → ByteArray → Int → Bool → ByteArray → Int → Bool → Option (Bool)
  | 0, _, _, _, _, _, _, _, _, _, _ => none
  | k + 1, x0, x1, x7, x8, x135000, x135001, x135002, x136000, x136001, x136002 => if 0 ≤ x7 then (if x7 < (x1.length : Int) then (if ((rd_T46 x1 x7).f0) = 0 then ((computuslaw25_words.f x8).bind fun t138 => ((linescan_Scanner_Word.f x135000 x135001 x135002 t138).bind fun bt141 => ((computuslaw25_words.f x8).bind fun t145 => ((computusref25_Word.f k x136000 x136001 x136002 t145).bind fun bt148 => (if bt141.1 = bt148.2.2.2 then (computuslaw25_LinescanMatchesReference.j5 k x0 x1 x7 bt141.2.1 bt141.2.2.1 bt141.2.2.2 bt148.1 bt148.2.1 bt148.2.2.1) else (none)))))) else (if ((rd_T46 x1 x7).f0) = 1 then ((linescan_Scanner_Number.f x135000 x135001 x135002).bind fun bt153 => ((computusref25_Number.f x136000 x136001 x136002).bind fun bt157 => (if bt153.1 = bt157.2.2.2 then (computuslaw25_LinescanMatchesReference.j5 k x0 x1 x7 bt153.2.1 bt153.2.2.1 bt153.2.2.2 bt157.1 bt157.2.1 bt157.2.2.1) else (none)))) else (if ((rd_T46 x1 x7).f0) = 2 then ((linescan_Scanner_Identifier.f x135000 x135001 x135002).bind fun bt162 => ((computusref25_Identifier.f x136000 x136001 x136002).bind fun bt166 => (if bt162.1.toList = bt166.2.2.2.toList then (computuslaw25_LinescanMatchesReference.j5 k x0 x1 x7 bt162.2.1 bt162.2.2.1 bt162.2.2.2 bt166.1 bt166.2.1 bt166.2.2.1) else (none)))) else (if ((rd_T46 x1 x7).f0) = 3 then (if x136002 = true then (computuslaw25_LinescanMatchesReference.j4 k x0 x1 x7 0 false x135000 x135001 x135002 x136000 x136001 x136002) else (computuslaw25_LinescanMatchesReference.j4 k x0 x1 x7 0 (decide (x136001 < (x0.size : Int))) x135000 x135001 x135002 x136000 x136001 x136002)) else (if ((rd_T46 x1 x7).f0) = 4 then ((linescan_Scanner_End.f x135000 x135001 x135002).bind fun bt179 => ((computusref25_End.f x136000 x136001 x136002).bind fun bt182 => (computuslaw25_LinescanMatchesReference.j5 k x0 x1 x7 bt179.1 bt179.2.1 bt179.2.2 bt182.1 bt182.2.1 bt182.2.2))) else (computuslaw25_LinescanMatchesReference.j5 k x0 x1 x7 x135000 x135001 x135002 x136000 x136001 x136002)))))) else (none)) else (none)
def computuslaw25_LinescanMatchesReference.j5 : Nat → ByteArray → List (S46) → Int → ByteArray → Int → Bool → ByteArray → Int → Bool → Option (Bool)
  | 0, _, _, _, _, _, _, _, _, _ => none
  | k + 1, x0, x1, x7, x135000, x135001, x135002, x136000, x136001, x136002 => (linescan_Scanner_Offset.f x135000 x135001 x135002).bind fun bt185 => (if bt185.1 = x136001 then ((linescan_Scanner_Err.f bt185.2.1 bt185.2.2.1 bt185.2.2.2).bind fun bt189 => (if ((bt189.1 != 0) != x136002) = true then (none) else (computuslaw25_LinescanMatchesReference.l0 k x0 x1 (wrap64 (x7 + 1)) bt189.2.1 bt189.2.2.1 bt189.2.2.2 x136000 x136001 x136002))) else (none))
def computuslaw25_LinescanMatchesReference.j4 : Nat → ByteArray → List (S46) → Int → Int → Bool → ByteArray → Int → Bool → ByteArray → Int → Bool → Option (Bool)
  | 0, _, _, _, _, _, _, _, _, _, _, _ => none
  | k + 1, x0, x1, x7, x18, x114, x135000, x135001, x135002, x136000, x136001, x136002 => if x114 = true then (if 0 ≤ x136001 then (if x136001 < (x0.size : Int) then ((linescan_Scanner_Peek.f x135000 x135001 x135002).bind fun bt171 => (if bt171.1 = (bt x0 x136001) then (computuslaw25_LinescanMatchesReference.j5 k x0 x1 x7 bt171.2.1 bt171.2.2.1 bt171.2.2.2 x136000 x136001 x136002) else (none))) else (none)) else (none)) else ((linescan_Scanner_Peek.f x135000 x135001 x135002).bind fun bt175 => (if bt175.1 = x18 then (computuslaw25_LinescanMatchesReference.j5 k x0 x1 x7 bt175.2.1 bt175.2.2.1 bt175.2.2.2 x136000 x136001 x136002) else (none)))
end
def computuslaw25_LinescanMatchesReference.f (k : Nat) (a0 : ByteArray) (l1 : List (S46)) : Option (Bool) := (computuslaw25_awake.f).bind fun t129 => (if t129 = true then (if (a0.size : Int) > 1000 then (computuslaw25_LinescanMatchesReference.j0 k a0 l1 true) else (computuslaw25_LinescanMatchesReference.j0 k a0 l1 (decide ((l1.length : Int) > 60)))) else (computuslaw25_LinescanMatchesReference.j0 k a0 l1 true))
theorem computuslaw25_LinescanMatchesReference.mono_l : ∀ k, (∀ y0 y1 y2, LeO (computuslaw25_LinescanMatchesReference.j0 k y0 y1 y2) (computuslaw25_LinescanMatchesReference.j0 (k + 1) y0 y1 y2)) ∧ (∀ y0 y1 y2 y3 y4 y5 y6 y7 y8, LeO (computuslaw25_LinescanMatchesReference.l0 k y0 y1 y2 y3 y4 y5 y6 y7 y8) (computuslaw25_LinescanMatchesReference.l0 (k + 1) y0 y1 y2 y3 y4 y5 y6 y7 y8)) ∧ (∀ y0 y1 y2 y3 y4 y5 y6 y7 y8 y9 y10, LeO (computuslaw25_LinescanMatchesReference.j2 k y0 y1 y2 y3 y4 y5 y6 y7 y8 y9 y10) (computuslaw25_LinescanMatchesReference.j2 (k + 1) y0 y1 y2 y3 y4 y5 y6 y7 y8 y9 y10)) ∧ (∀ y0 y1 y2 y3 y4 y5 y6 y7 y8 y9, LeO (computuslaw25_LinescanMatchesReference.j3 k y0 y1 y2 y3 y4 y5 y6 y7 y8 y9) (computuslaw25_LinescanMatchesReference.j3 (k + 1) y0 y1 y2 y3 y4 y5 y6 y7 y8 y9)) ∧ (∀ y0 y1 y2 y3 y4 y5 y6 y7 y8, LeO (computuslaw25_LinescanMatchesReference.j5 k y0 y1 y2 y3 y4 y5 y6 y7 y8) (computuslaw25_LinescanMatchesReference.j5 (k + 1) y0 y1 y2 y3 y4 y5 y6 y7 y8)) ∧ (∀ y0 y1 y2 y3 y4 y5 y6 y7 y8 y9 y10, LeO (computuslaw25_LinescanMatchesReference.j4 k y0 y1 y2 y3 y4 y5 y6 y7 y8 y9 y10) (computuslaw25_LinescanMatchesReference.j4 (k + 1) y0 y1 y2 y3 y4 y5 y6 y7 y8 y9 y10))
  | 0 => ⟨fun _ _ _ r h => by simp [computuslaw25_LinescanMatchesReference.j0] at h, fun _ _ _ _ _ _ _ _ _ r h => by simp [computuslaw25_LinescanMatchesReference.l0] at h, fun _ _ _ _ _ _ _ _ _ _ _ r h => by simp [computuslaw25_LinescanMatchesReference.j2] at h, fun _ _ _ _ _ _ _ _ _ _ r h => by simp [computuslaw25_LinescanMatchesReference.j3] at h, fun _ _ _ _ _ _ _ _ _ r h => by simp [computuslaw25_LinescanMatchesReference.j5] at h, fun _ _ _ _ _ _ _ _ _ _ _ r h => by simp [computuslaw25_LinescanMatchesReference.j4] at h⟩
  | k + 1 => by
    obtain ⟨ih0, ih1, ih2, ih3, ih4, ih5⟩ := computuslaw25_LinescanMatchesReference.mono_l k
    refine ⟨?_, ?_, ?_, ?_, ?_, ?_⟩
    · intro y0 y1 y2
      unfold computuslaw25_LinescanMatchesReference.j0
      repeat' first
      | (with_reducible exact ih0 _ _ _)
      | (with_reducible exact ih1 _ _ _ _ _ _ _ _ _)
      | (with_reducible exact ih2 _ _ _ _ _ _ _ _ _ _ _)
      | (with_reducible exact ih3 _ _ _ _ _ _ _ _ _ _)
      | (with_reducible exact ih4 _ _ _ _ _ _ _ _ _)
      | (with_reducible exact ih5 _ _ _ _ _ _ _ _ _ _ _)
      | (with_reducible exact computusref25_Word.mono _ _ _ _ _)
      | (with_reducible exact LeO.refl _)
      | (with_reducible exact LeO.none _)
      | (with_reducible refine LeO.ite ?_ ?_)
      | (with_reducible refine LeO.bind ?_ (fun _ => ?_))
      | exact ih0 _ _ _
      | exact ih1 _ _ _ _ _ _ _ _ _
      | exact ih2 _ _ _ _ _ _ _ _ _ _ _
      | exact ih3 _ _ _ _ _ _ _ _ _ _
      | exact ih4 _ _ _ _ _ _ _ _ _
      | exact ih5 _ _ _ _ _ _ _ _ _ _ _
      | exact computusref25_Word.mono _ _ _ _ _
      | exact LeO.none _
      | refine LeO.ite ?_ ?_
      | refine LeO.bind ?_ (fun _ => ?_)
    · intro y0 y1 y2 y3 y4 y5 y6 y7 y8
      unfold computuslaw25_LinescanMatchesReference.l0
      repeat' first
      | (with_reducible exact ih0 _ _ _)
      | (with_reducible exact ih1 _ _ _ _ _ _ _ _ _)
      | (with_reducible exact ih2 _ _ _ _ _ _ _ _ _ _ _)
      | (with_reducible exact ih3 _ _ _ _ _ _ _ _ _ _)
      | (with_reducible exact ih4 _ _ _ _ _ _ _ _ _)
      | (with_reducible exact ih5 _ _ _ _ _ _ _ _ _ _ _)
      | (with_reducible exact computusref25_Word.mono _ _ _ _ _)
      | (with_reducible exact LeO.refl _)
      | (with_reducible exact LeO.none _)
      | (with_reducible refine LeO.ite ?_ ?_)
      | (with_reducible refine LeO.bind ?_ (fun _ => ?_))
      | exact ih0 _ _ _
      | exact ih1 _ _ _ _ _ _ _ _ _
      | exact ih2 _ _ _ _ _ _ _ _ _ _ _
      | exact ih3 _ _ _ _ _ _ _ _ _ _
      | exact ih4 _ _ _ _ _ _ _ _ _
      | exact ih5 _ _ _ _ _ _ _ _ _ _ _
      | exact computusref25_Word.mono _ _ _ _ _
      | exact LeO.none _
      | refine LeO.ite ?_ ?_
      | refine LeO.bind ?_ (fun _ => ?_)
    · intro y0 y1 y2 y3 y4 y5 y6 y7 y8 y9 y10
      unfold computuslaw25_LinescanMatchesReference.j2
      repeat' first
      | (with_reducible exact ih0 _ _ _)
      | (with_reducible exact ih1 _ _ _ _ _ _ _ _ _)
      | (with_reducible exact ih2 _ _ _ _ _ _ _ _ _ _ _)
      | (with_reducible exact ih3 _ _ _ _ _ _ _ _ _ _)
      | (with_reducible exact ih4 _ _ _ _ _ _ _ _ _)
      | (with_reducible exact ih5 _ _ _ _ _ _ _ _ _ _ _)
      | (with_reducible exact computusref25_Word.mono _ _ _ _ _)
      | (with_reducible exact LeO.refl _)
      | (with_reducible exact LeO.none _)
      | (with_reducible refine LeO.ite ?_ ?_)
      | (with_reducible refine LeO.bind ?_ (fun _ => ?_))
      | exact ih0 _ _ _
      | exact ih1 _ _ _ _ _ _ _ _ _
      | exact ih2 _ _ _ _ _ _ _ _ _ _ _
      | exact ih3 _ _ _ _ _ _ _ _ _ _
      | exact ih4 _ _ _ _ _ _ _ _ _
      | exact ih5 _ _ _ _ _ _ _ _ _ _ _
      | exact computusref25_Word.mono _ _ _ _ _
      | exact LeO.none _
      | refine LeO.ite ?_ ?_
      | refine LeO.bind ?_ (fun _ => ?_)
    · intro y0 y1 y2 y3 y4 y5 y6 y7 y8 y9
      unfold computuslaw25_LinescanMatchesReference.j3
      repeat' first
      | (with_reducible exact ih0 _ _ _)
      | (with_reducible exact ih1 _ _ _ _ _ _ _ _ _)
      | (with_reducible exact ih2 _ _ _ _ _ _ _ _ _ _ _)
      | (with_reducible exact ih3 _ _ _ _ _ _ _ _ _ _)
      | (with_reducible exact ih4 _ _ _ _ _ _ _ _ _)
      | (with_reducible exact ih5 _ _ _ _ _ _ _ _ _ _ _)
      | (with_reducible exact computusref25_Word.mono _ _ _ _ _)
      | (with_reducible exact LeO.refl _)
      | (with_reducible exact LeO.none _)
      | (with_reducible refine LeO.ite ?_ ?_)
      | (with_reducible refine LeO.bind ?_ (fun _ => ?_))
      | exact ih0 _ _ _
      | exact ih1 _ _ _ _ _ _ _ _ _
      | exact ih2 _ _ _ _ _ _ _ _ _ _ _
      | exact ih3 _ _ _ _ _ _ _ _ _ _
      | exact ih4 _ _ _ _ _ _ _ _ _
      | exact ih5 _ _ _ _ _ _ _ _ _ _ _
      | exact computusref25_Word.mono _ _ _ _ _
      | exact LeO.none _
      | refine LeO.ite ?_ ?_
      | refine LeO.bind ?_ (fun _ => ?_)
    · intro y0 y1 y2 y3 y4 y5 y6 y7 y8
      unfold computuslaw25_LinescanMatchesReference.j5
      repeat' first
      | (with_reducible exact ih0 _ _ _)
      | (with_reducible exact ih1 _ _ _ _ _ _ _ _ _)
      | (with_reducible exact ih2 _ _ _ _ _ _ _ _ _ _ _)
      | (with_reducible exact ih3 _ _ _ _ _ _ _ _ _ _)
      | (with_reducible exact ih4 _ _ _ _ _ _ _ _ _)
      | (with_reducible exact ih5 _ _ _ _ _ _ _ _ _ _ _)
      | (with_reducible exact computusref25_Word.mono _ _ _ _ _)
      | (with_reducible exact LeO.refl _)
      | (with_reducible exact LeO.none _)
      | (with_reducible refine LeO.ite ?_ ?_)
      | (with_reducible refine LeO.bind ?_ (fun _ => ?_))
      | exact ih0 _ _ _
      | exact ih1 _ _ _ _ _ _ _ _ _
      | exact ih2 _ _ _ _ _ _ _ _ _ _ _
      | exact ih3 _ _ _ _ _ _ _ _ _ _
      | exact ih4 _ _ _ _ _ _ _ _ _
      | exact ih5 _ _ _ _ _ _ _ _ _ _ _
      | exact computusref25_Word.mono _ _ _ _ _
      | exact LeO.none _
      | refine LeO.ite ?_ ?_
      | refine LeO.bind ?_ (fun _ => ?_)
    · intro y0 y1 y2 y3 y4 y5 y6 y7 y8 y9 y10
      unfold computuslaw25_LinescanMatchesReference.j4
      repeat' first
      | (with_reducible exact ih0 _ _ _)
      | (with_reducible exact ih1 _ _ _ _ _ _ _ _ _)
      | (with_reducible exact ih2 _ _ _ _ _ _ _ _ _ _ _)
      | (with_reducible exact ih3 _ _ _ _ _ _ _ _ _ _)
      | (with_reducible exact ih4 _ _ _ _ _ _ _ _ _)
      | (with_reducible exact ih5 _ _ _ _ _ _ _ _ _ _ _)
      | (with_reducible exact computusref25_Word.mono _ _ _ _ _)
      | (with_reducible exact LeO.refl _)
      | (with_reducible exact LeO.none _)
      | (with_reducible refine LeO.ite ?_ ?_)
      | (with_reducible refine LeO.bind ?_ (fun _ => ?_))
      | exact ih0 _ _ _
      | exact ih1 _ _ _ _ _ _ _ _ _
      | exact ih2 _ _ _ _ _ _ _ _ _ _ _
      | exact ih3 _ _ _ _ _ _ _ _ _ _
      | exact ih4 _ _ _ _ _ _ _ _ _
      | exact ih5 _ _ _ _ _ _ _ _ _ _ _
      | exact computusref25_Word.mono _ _ _ _ _
      | exact LeO.none _
      | refine LeO.ite ?_ ?_
      | refine LeO.bind ?_ (fun _ => ?_)
theorem computuslaw25_LinescanMatchesReference.mono : ∀ a0 a1 k, LeO (computuslaw25_LinescanMatchesReference.f k a0 a1) (computuslaw25_LinescanMatchesReference.f (k + 1) a0 a1) := by
  intro a0 a1 k
  obtain ⟨ih0, ih1, ih2, ih3, ih4, ih5⟩ := computuslaw25_LinescanMatchesReference.mono_l k
  unfold computuslaw25_LinescanMatchesReference.f
  repeat' first
      | (with_reducible exact ih0 _ _ _)
      | (with_reducible exact ih1 _ _ _ _ _ _ _ _ _)
      | (with_reducible exact ih2 _ _ _ _ _ _ _ _ _ _ _)
      | (with_reducible exact ih3 _ _ _ _ _ _ _ _ _ _)
      | (with_reducible exact ih4 _ _ _ _ _ _ _ _ _)
      | (with_reducible exact ih5 _ _ _ _ _ _ _ _ _ _ _)
      | (with_reducible exact computusref25_Word.mono _ _ _ _ _)
      | (with_reducible exact LeO.refl _)
      | (with_reducible exact LeO.none _)
      | (with_reducible refine LeO.ite ?_ ?_)
      | (with_reducible refine LeO.bind ?_ (fun _ => ?_))
      | exact ih0 _ _ _
      | exact ih1 _ _ _ _ _ _ _ _ _
      | exact ih2 _ _ _ _ _ _ _ _ _ _ _
      | exact ih3 _ _ _ _ _ _ _ _ _ _
      | exact ih4 _ _ _ _ _ _ _ _ _
      | exact ih5 _ _ _ _ _ _ _ _ _ _ _
      | exact computusref25_Word.mono _ _ _ _ _
      | exact LeO.none _
      | refine LeO.ite ?_ ?_
      | refine LeO.bind ?_ (fun _ => ?_)
def computuslaw25_LinescanMatchesReference.T16 : Bool × List (List Nat × List Nat) := (true, [([], []), ([], []), ([1], [1]), ([0, 2, 2], [0, 2]), ([3], [3]), ([4], [4]), ([4], [4]), ([], []), ([7, 5, 3, 0, 1, 2, 3, 4, 5, 7], [5, 7]), ([6, 8, 0, 1, 2, 3, 4, 5, 6, 7, 8], [6])])
def computuslaw25_LinescanMatchesReference.B16 : List Nat := [0, 0, 2, 7, 15, 31, 31, 0, 191, 511]
theorem computuslaw25_LinescanMatchesReference.tab16 : rtab .any (opsOf Try.f5 16) = computuslaw25_LinescanMatchesReference.T16 := by kernel_rfl
theorem computuslaw25_LinescanMatchesReference.bits16 : waitsOk computuslaw25_LinescanMatchesReference.T16.2 computuslaw25_LinescanMatchesReference.B16 = true := by kernel_rfl
def computuslaw25_LinescanMatchesReference.T41 : Bool × List (List Nat × List Nat) := (true, [([], []), ([0], [0]), ([], []), ([2], [2]), ([1, 3], [1, 3]), ([4, 1], [4]), ([5], [5]), ([6, 5, 5], [5, 6]), ([7, 5], [5, 7]), ([5], [5]), ([9, 5], [5, 9]), ([8, 10, 5], [5, 8, 10]), ([5, 11], [5, 11])])
def computuslaw25_LinescanMatchesReference.B41 : List Nat := [0, 1, 0, 4, 15, 31, 63, 127, 255, 63, 575, 2047, 4095]
theorem computuslaw25_LinescanMatchesReference.tab41 : rtab .any (opsOf Try.f5 41) = computuslaw25_LinescanMatchesReference.T41 := by kernel_rfl
theorem computuslaw25_LinescanMatchesReference.bits41 : waitsOk computuslaw25_LinescanMatchesReference.T41.2 computuslaw25_LinescanMatchesReference.B41 = true := by kernel_rfl
set_option maxHeartbeats 8000000 in
set_option maxRecDepth 100000 in
theorem computuslaw25_LinescanMatchesReference.calls (k : Nat) (a0 : ByteArray) (A1 : Option Addr) (c1 : Nat) (l1 : List (S46)) (r : Bool) (w : World) (hr1 : Kd.C k46 w A1 l1.length l1) (hc1 : l1.length ≤ c1) (h : computuslaw25_LinescanMatchesReference.f k a0 l1 = some r) :
    Calls Try.prog 5 #[.string a0, .slice A1 l1.length c1] w fun e w' => e = .returned (.bool r) ∧ Below w.heap.size w w' := by
  have hu44 := Try.underlying44
  have HR1 := Aside0.mk hr1
  have HC1 := Aside0.mk hc1
  clear hr1 hc1
  have HB := Aside0.mk (Below.refl w.heap.size w)
  have H : ((computuslaw25_awake.f).bind fun t129 => (if t129 = true then (if (a0.size : Int) > 1000 then (computuslaw25_LinescanMatchesReference.j0 k a0 l1 true) else (computuslaw25_LinescanMatchesReference.j0 k a0 l1 (decide ((l1.length : Int) > 60)))) else (computuslaw25_LinescanMatchesReference.j0 k a0 l1 true))) = some r := h
  clear h
  have HC3 := Aside0.mk H
  clear H
  go_enter Try.func5, Try.ntmps5
  go_upto_region 1 with (fail)
  go_cut [30] (fun v30 wc => ∃ (kq : Nat) (x30_2 : Bool), v30 = .bool x30_2 ∧ Aside0 (computuslaw25_LinescanMatchesReference.j0 kq a0 l1 x30_2 = some r) ∧ Aside0 (kq ≤ k) ∧ Aside0 (Below w.heap.size w wc))
  case first =>
    have H := HC3.out
    clear HC3
    replace H := Option.bind_eq_some_iff.mp H
    obtain ⟨t129, A40, H⟩ := H
    replace H : (if t129 = true then (if (a0.size : Int) > 1000 then (computuslaw25_LinescanMatchesReference.j0 k a0 l1 true) else (computuslaw25_LinescanMatchesReference.j0 k a0 l1 (decide ((l1.length : Int) > 60)))) else (computuslaw25_LinescanMatchesReference.j0 k a0 l1 true)) = some r := H
    have A4 := Aside0.mk A40
    clear A40
    by_cases c5 : t129 = true
    · subst c5
      have H1 : (if (a0.size : Int) > 1000 then (computuslaw25_LinescanMatchesReference.j0 k a0 l1 true) else (computuslaw25_LinescanMatchesReference.j0 k a0 l1 (decide ((l1.length : Int) > 60)))) = some r := by rw [if_pos rfl] at H; exact H
      clear H
      have H := H1
      clear H1
      by_cases c6 : (a0.size : Int) > 1000
      · rw [if_pos c6] at H
        have c6b0 : decide (1000 < (a0.size : Int)) = true := decide_eq_true c6
        have c6b1 : decide (1000 < a0.size) = true := decide_eq_true (by omega)
        clear c6
        (first | rw [c6b0] | (simp only [i64_w, i32_w]; rw [c6b0]) | skip)
        have H' := Aside0.mk H
        clear H
        go_wp2_with (first | ((with_reducible refine gate_callee (f := 12) rfl ?_); refine goesL_ (some 19) rfl rfl Try.func12 (by kernel_rfl) rfl #[] rfl (by (try simp only [List.map_toArray, List.map_cons, List.map_nil]); first | done | rfl | (simp only [List.length_drop, List.length_take]; rfl)) ?_; (with_reducible refine (computuslaw25_awake.calls  true _ A4.out).mono ?_); rintro e w7 ⟨rfl, hb⟩; refine ⟨_, rfl, ?_⟩; have n0_ := Aside0.mk (below_step (by repeat (first | (with_reducible first | exact HB.out | apply below_alloc | apply pw_below_drewN | apply below_drew1) | exact HB.out)) hb); clear HB; have HB := n0_; clear n0_; (try clear hb); (try clear hb2); (try clear hk); (try clear hi)))
        go_meet
        case rel => exact ⟨_, (true), (by first | rfl | (simp; done) | (simp [*]; done)), H', ⟨by first | omega | exact Nat.le_refl _⟩, ⟨by repeat (first | (with_reducible first | exact HB.out | apply below_alloc | apply pw_below_drewN | apply below_drew1) | exact HB.out)⟩⟩
      · rw [if_neg c6] at H
        have c6b0 : decide (1000 < (a0.size : Int)) = false := decide_eq_false c6
        have c6b1 : decide (1000 < a0.size) = false := decide_eq_false (by omega)
        clear c6
        (first | rw [c6b0] | (simp only [i64_w, i32_w]; rw [c6b0]) | skip)
        have H' := Aside0.mk H
        clear H
        go_wp2_with (first | ((with_reducible refine gate_callee (f := 12) rfl ?_); refine goesL_ (some 19) rfl rfl Try.func12 (by kernel_rfl) rfl #[] rfl (by (try simp only [List.map_toArray, List.map_cons, List.map_nil]); first | done | rfl | (simp only [List.length_drop, List.length_take]; rfl)) ?_; (with_reducible refine (computuslaw25_awake.calls  true _ A4.out).mono ?_); rintro e w8 ⟨rfl, hb⟩; refine ⟨_, rfl, ?_⟩; have n0_ := Aside0.mk (below_step (by repeat (first | (with_reducible first | exact HB.out | apply below_alloc | apply pw_below_drewN | apply below_drew1) | exact HB.out)) hb); clear HB; have HB := n0_; clear n0_; (try clear hb); (try clear hb2); (try clear hk); (try clear hi)))
        go_meet
        case rel => exact ⟨_, (decide ((l1.length : Int) > 60)), (by first | rfl | (simp; done) | (simp [*]; done)), H', ⟨by first | omega | exact Nat.le_refl _⟩, ⟨by repeat (first | (with_reducible first | exact HB.out | apply below_alloc | apply pw_below_drewN | apply below_drew1) | exact HB.out)⟩⟩
    · replace c5 := Bool.eq_false_iff.mpr c5
      subst c5
      have H1 : (computuslaw25_LinescanMatchesReference.j0 k a0 l1 true) = some r := by rw [if_neg (show ¬ (false = true) by decide)] at H; exact H
      clear H
      have H := H1
      clear H1
      have H' := Aside0.mk H
      clear H
      go_wp2_with (first | ((with_reducible refine gate_callee (f := 12) rfl ?_); refine goesL_ (some 19) rfl rfl Try.func12 (by kernel_rfl) rfl #[] rfl (by (try simp only [List.map_toArray, List.map_cons, List.map_nil]); first | done | rfl | (simp only [List.length_drop, List.length_take]; rfl)) ?_; (with_reducible refine (computuslaw25_awake.calls  false _ A4.out).mono ?_); rintro e w9 ⟨rfl, hb⟩; refine ⟨_, rfl, ?_⟩; have n0_ := Aside0.mk (below_step (by repeat (first | (with_reducible first | exact HB.out | apply below_alloc | apply pw_below_drewN | apply below_drew1) | exact HB.out)) hb); clear HB; have HB := n0_; clear n0_; (try clear hb); (try clear hb2); (try clear hk); (try clear hi)))
      go_meet
      case rel => exact ⟨_, (true), (by first | rfl | (simp; done) | (simp [*]; done)), H', ⟨by first | omega | exact Nat.le_refl _⟩, ⟨by repeat (first | (with_reducible first | exact HB.out | apply below_alloc | apply pw_below_drewN | apply below_drew1) | exact HB.out)⟩⟩
  case rest =>
    clear HC3
    try clear c1
    try clear p2
    try clear c5
    try clear c6
    try clear c6b0
    try clear c6b1
    obtain ⟨kq, x30_2, rfl, HA, HJ2, HB⟩ := hcut
    cases kq with
    | zero => exact absurd HA.out (by simp [computuslaw25_LinescanMatchesReference.j0])
    | succ kj2 =>
      have H := HA.out
      clear HA
      simp only [computuslaw25_LinescanMatchesReference.j0] at H
      by_cases c10 : x30_2 = true
      · subst c10
        have H1 : ((computuslaw25_awake.f).bind fun t130 => (some t130)) = some r := by rw [if_pos rfl] at H; exact H
        clear H
        have H := H1
        clear H1
        replace H := Option.bind_eq_some_iff.mp H
        obtain ⟨t130, A110, H⟩ := H
        replace H : (some t130) = some r := H
        have A11 := Aside0.mk A110
        clear A110
        obtain rfl := Option.some.inj H
        go_wp2_with (first | ((with_reducible refine gate_callee (f := 12) rfl ?_); refine goesL_ (some 31) rfl rfl Try.func12 (by kernel_rfl) rfl #[] rfl (by (try simp only [List.map_toArray, List.map_cons, List.map_nil]); first | done | rfl | (simp only [List.length_drop, List.length_take]; rfl)) ?_; (with_reducible refine (computuslaw25_awake.calls  t130 _ A11.out).mono ?_); rintro e w12 ⟨rfl, hb⟩; refine ⟨_, rfl, ?_⟩; have n0_ := Aside0.mk (below_step (by repeat (first | (with_reducible first | exact HB.out | apply below_alloc | apply pw_below_drewN | apply below_drew1) | exact HB.out)) hb); clear HB; have HB := n0_; clear n0_; (try clear hb); (try clear hb2); (try clear hk); (try clear hi)))
        go_ret
        exact ⟨by first | rfl | (simp [errW_none, errW_some] <;> rfl) | (simp [*, errW_none, errW_some] <;> rfl), by repeat (first | (with_reducible first | exact HB.out | apply below_alloc | apply pw_below_drewN | apply below_drew1) | exact HB.out)⟩
      · replace c10 := Bool.eq_false_iff.mpr c10
        subst c10
        have H1 : ((linescan_New.f a0).bind fun bt131 => (computuslaw25_LinescanMatchesReference.l0 kj2 a0 l1 0 bt131.1 bt131.2.1 bt131.2.2 a0 0 false)) = some r := by rw [if_neg (show ¬ (false = true) by decide)] at H; exact H
        clear H
        have H := H1
        clear H1
        replace H := Option.bind_eq_some_iff.mp H
        obtain ⟨⟨t131, t132, t133⟩, A130, H⟩ := H
        replace H : (computuslaw25_LinescanMatchesReference.l0 kj2 a0 l1 0 t131 t132 t133 a0 0 false) = some r := H
        have A13 := Aside0.mk A130
        clear A130
        have H' := Aside0.mk H
        clear H
        go_wp2_with (first | ((with_reducible refine gate_callee (f := 13) rfl ?_); refine goesL_ (some 33) rfl rfl Try.func13 (by kernel_rfl) rfl #[.string a0] rfl (by (try simp only [List.map_toArray, List.map_cons, List.map_nil]); first | done | rfl | (simp only [List.length_drop, List.length_take]; rfl)) ?_; (with_reducible refine (linescan_New.calls a0 t131 t132 t133 w _ ?side1 A13.out).mono ?_); (case side1 => repeat (first | (with_reducible first | exact HB.out | apply below_alloc | apply pw_below_drewN | apply below_drew1) | exact HB.out)); rintro e w14 ⟨g134, rfl, hi, hb, hb2⟩; refine ⟨_, rfl, ?_⟩; have n0_ := Aside0.mk (hb); have n1_ := Aside0.mk (hi); clear HB; have HB := n0_; have HI134 := n1_; clear n0_ n1_; (try clear hb); (try clear hb2); (try clear hk); (try clear hi)) | ((with_reducible refine gate_dst (N := 6) rfl ?_); (try (refine gate_guard (by rfl) ?_; dsimp only)); refine box_event ?hg (N := 6) ?hd (cs := #[.string (⟨#[]⟩ : ByteArray), .int .i64 0, .bool false]) (t := 44) ?hr ?_; (case hd => rfl); (case hg => rfl); (case hr => first | (go_simp; done) | (go_simp; rfl)); intro gb135 hg w15 hbox hb; have n0_ := Aside0.mk (IsS72.below (by repeat (first | (with_reducible first | exact HI134.out | apply IsS72.alloc | apply IsS72.drewN | apply IsS72.drew | apply IsS72.set_0 | apply IsS72.set_1 | apply IsS72.set_2) | exact HI134.out)) hb); have n1_ := Aside0.mk (below_step (by repeat (first | (with_reducible first | exact HB.out | apply below_alloc | apply pw_below_drewN | apply below_drew1 | refine below_set ?_ (IsS72.ge HI134.out)) | exact HB.out)) hb); have n2_ := Aside0.mk (hbox); have n3_ := Aside0.mk ((by rw [hg]; exact (below_size (by repeat (first | (with_reducible first | exact HB.out | apply below_alloc | apply pw_below_drewN | apply below_drew1 | refine below_set ?_ (IsS72.ge HI134.out)) | exact HB.out))) : w.heap.size ≤ gb135)); have n4_ := Aside0.mk ((by rw [hg]; exact (below_size (by repeat (first | (with_reducible first | exact HB.out | apply below_alloc | apply pw_below_drewN | apply below_drew1 | refine below_set ?_ (IsS72.ge HI134.out)) | exact HB.out))) : w.heap.size ≤ gb135)); have n5_ := Aside0.mk ((by rw [hg]; exact Nat.ne_of_lt (IsS72.lt (show IsS72 w _ g134 t131 t132 t133 from by repeat (first | (with_reducible first | exact HI134.out | apply IsS72.alloc | apply IsS72.drewN | apply IsS72.drew | apply IsS72.set_0 | apply IsS72.set_1 | apply IsS72.set_2) | exact HI134.out))) : g134 ≠ gb135)); have n6_ := Aside0.mk ((by rw [hg]; exact Nat.ne_of_gt (IsS72.lt (show IsS72 w _ g134 t131 t132 t133 from by repeat (first | (with_reducible first | exact HI134.out | apply IsS72.alloc | apply IsS72.drewN | apply IsS72.drew | apply IsS72.set_0 | apply IsS72.set_1 | apply IsS72.set_2) | exact HI134.out))) : gb135 ≠ g134)); clear HI134; clear HB; have HI134 := n0_; have HB := n1_; have BK135 := n2_; have GW135 := n3_; have GE135 := n4_; have NB134_135 := n5_; have NB135_134 := n6_; clear n0_ n1_ n2_ n3_ n4_ n5_ n6_; clear hb hbox hg; have hnb16 := NB135_134.out; have hnc16 := NB134_135.out; have hcz17_0 : w15.cell? ⟨gb135, 0, none⟩ = some (.string (⟨#[]⟩ : ByteArray)) := (blk_cell BK135.out 0).trans rfl; have hcz17_1 : w15.cell? ⟨gb135, 1, none⟩ = some (.int .i64 0) := (blk_cell BK135.out 1).trans rfl; have hcz17_2 : w15.cell? ⟨gb135, 2, none⟩ = some (.bool false) := (blk_cell BK135.out 2).trans rfl; have hfz17_0 := blk_frozen BK135.out 0; have hfz17_1 := blk_frozen BK135.out 1; have hfz17_2 := blk_frozen BK135.out 2))
        go_loopg [7] kj2 (fun kq v7 w' => ∃ (x7_2 : Int) (x135000_2 : ByteArray) (x135001_2 : Int) (x135002_2 : Bool) (x136000_2 : ByteArray) (x136001_2 : Int) (x136002_2 : Bool), v7 = .int .i64 x7_2 ∧ Aside0 (computuslaw25_LinescanMatchesReference.l0 kq a0 l1 x7_2 x135000_2 x135001_2 x135002_2 x136000_2 x136001_2 x136002_2 = some r) ∧ Aside0 (kq ≤ kj2) ∧ Aside0 (w'.heap[gb135]? = some (.cells #[.string x136000_2, .int .i64 x136001_2, .bool x136002_2] 44 (0, 0))) ∧ Aside0 (IsS72 w w' g134 x135000_2 x135001_2 x135002_2) ∧ Aside0 (Below w.heap.size w w'))
        case atStart => exact ⟨(0), (t131), (t132), (t133), (a0), (0), (false), (by first | rfl | (simp; done) | (simp [*]; done)), H', ⟨Nat.le_refl _⟩, ⟨by (with_reducible repeat (first | refine blk_drewN ?_ _ | refine blk_drew ?_ | refine blk_alloc ?_ _)); refine blk_put (cs := #[.string a0, .int .i64 0, .bool false]) ?_ 2 _ rfl; (with_reducible repeat (first | refine blk_drewN ?_ _ | refine blk_drew ?_ | refine blk_alloc ?_ _)); refine blk_put (cs := #[.string a0, .int .i64 0, .bool false]) ?_ 1 _ rfl; (with_reducible repeat (first | refine blk_drewN ?_ _ | refine blk_drew ?_ | refine blk_alloc ?_ _)); refine blk_put (cs := #[.string (⟨#[]⟩ : ByteArray), .int .i64 0, .bool false]) ?_ 0 _ rfl; (with_reducible repeat (first | refine blk_drewN ?_ _ | refine blk_drew ?_ | refine blk_alloc ?_ _)); exact BK135.out⟩, ⟨by repeat (first | (with_reducible first | exact HI134.out | apply IsS72.alloc | apply IsS72.drewN | apply IsS72.drew | apply IsS72.set_0 | apply IsS72.set_1 | apply IsS72.set_2 | refine IsS72.far ?_ NB134_135.out _) | exact HI134.out)⟩, ⟨by repeat (first | (with_reducible first | exact HB.out | apply below_alloc | apply pw_below_drewN | apply below_drew1 | refine below_set ?_ (IsS72.ge HI134.out) | refine below_set ?_ GE135.out) | exact HB.out)⟩⟩
        case round =>
          clear H'
          try clear c1
          try clear p2
          try clear c5
          try clear c6
          try clear c6b0
          try clear c6b1
          try clear c10
          try clear c12
          try clear c13
          try clear c16
          try clear hcz17_0
          try clear hcz17_1
          try clear hcz17_2
          try clear hfz17_0
          try clear hfz17_1
          try clear hfz17_2
          try clear p2
          obtain ⟨x7_2, x135000_2, x135001_2, x135002_2, x136000_2, x136001_2, x136002_2, rfl, HA, HK2, BK135, HI134, HB⟩ := hrel
          cases gk with
          | zero => exact absurd HA.out (by simp [computuslaw25_LinescanMatchesReference.l0])
          | succ k2 =>
            have H := HA.out
            clear HA
            simp only [computuslaw25_LinescanMatchesReference.l0] at H
            by_cases c18 : x7_2 < (l1.length : Int)
            · rw [if_pos c18] at H
              have c18b0 : decide (x7_2 < (l1.length : Int)) = true := decide_eq_true c18
              clear c18
              by_cases c19 : 0 ≤ x7_2
              · rw [if_pos c19] at H
                have c19b0 : decide (0 ≤ x7_2) = true := decide_eq_true c19
                clear c19
                have HC20 := Aside0.mk H
                clear H
                have p136 : 0 ≤ (x7_2 : Int) := of_decide_eq_true (by first | (with_reducible assumption) | assumption)
                have q136 : x7_2 < (l1.length : Int) := of_decide_eq_true (by first | (with_reducible assumption) | assumption)
                obtain ⟨ad136, e136, hx136_0, hx136_1⟩ := at_T46 HR1.out x7_2 p136 q136
                cases e136
                replace hx136_0 := (HB.out.cell (World.block_lt_of_cell? w _ hx136_0)).trans hx136_0
                replace hx136_1 := (HB.out.cell (World.block_lt_of_cell? w _ hx136_1)).trans hx136_1
                replace p136 := eq_true p136
                replace q136 := eq_true q136
                go_upto_region 11 with (fail)
                go_cut [54] (fun v54 wc => ∃ (kq : Nat) (x54_19 : Bool), v54 = .bool x54_19 ∧ Aside0 (computuslaw25_LinescanMatchesReference.j2 kq a0 l1 x7_2 ((rd_T46 l1 x7_2).f1) x54_19 x135000_2 x135001_2 x135002_2 x136000_2 x136001_2 x136002_2 = some r) ∧ Aside0 (kq ≤ k2) ∧ Aside0 (wc.heap[gb135]? = some (.cells #[.string x136000_2, .int .i64 x136001_2, .bool x136002_2] 44 (0, 0))) ∧ Aside0 (IsS72 w wc g134 x135000_2 x135001_2 x135002_2) ∧ Aside0 (Below w.heap.size w wc))
                case first =>
                  have H := HC20.out
                  clear HC20
                  by_cases c21 : ((rd_T46 l1 x7_2).f1) < 0
                  · rw [if_pos c21] at H
                    have c21b0 : decide (((rd_T46 l1 x7_2).f1) < 0) = true := decide_eq_true c21
                    clear c21
                    (first | rw [c21b0] | (simp only [i64_w, i32_w]; rw [c21b0]) | skip)
                    have H' := Aside0.mk H
                    clear H
                    go_wp2
                    go_meet
                    case rel => exact ⟨_, (true), (by first | rfl | (simp; done) | (simp [*]; done)), H', ⟨by have := HJ2.out; have := HK2.out; first | omega | exact Nat.le_refl _⟩, ⟨by (with_reducible repeat (first | refine blk_drewN ?_ _ | refine blk_drew ?_ | refine blk_alloc ?_ _)); exact BK135.out⟩, ⟨by repeat (first | (with_reducible first | exact HI134.out | apply IsS72.alloc | apply IsS72.drewN | apply IsS72.drew | apply IsS72.set_0 | apply IsS72.set_1 | apply IsS72.set_2 | refine IsS72.far ?_ NB134_135.out _) | exact HI134.out)⟩, ⟨by repeat (first | (with_reducible first | exact HB.out | apply below_alloc | apply pw_below_drewN | apply below_drew1 | refine below_set ?_ (IsS72.ge HI134.out) | refine below_set ?_ GE135.out) | exact HB.out)⟩⟩
                  · rw [if_neg c21] at H
                    have c21b0 : decide (((rd_T46 l1 x7_2).f1) < 0) = false := decide_eq_false c21
                    clear c21
                    (first | rw [c21b0] | (simp only [i64_w, i32_w]; rw [c21b0]) | skip)
                    have H' := Aside0.mk H
                    clear H
                    go_wp2
                    go_meet
                    case rel => exact ⟨_, (decide (((rd_T46 l1 x7_2).f1) > 1000)), (by first | rfl | (simp; done) | (simp [*]; done)), H', ⟨by have := HJ2.out; have := HK2.out; first | omega | exact Nat.le_refl _⟩, ⟨by (with_reducible repeat (first | refine blk_drewN ?_ _ | refine blk_drew ?_ | refine blk_alloc ?_ _)); exact BK135.out⟩, ⟨by repeat (first | (with_reducible first | exact HI134.out | apply IsS72.alloc | apply IsS72.drewN | apply IsS72.drew | apply IsS72.set_0 | apply IsS72.set_1 | apply IsS72.set_2 | refine IsS72.far ?_ NB134_135.out _) | exact HI134.out)⟩, ⟨by repeat (first | (with_reducible first | exact HB.out | apply below_alloc | apply pw_below_drewN | apply below_drew1 | refine below_set ?_ (IsS72.ge HI134.out) | refine below_set ?_ GE135.out) | exact HB.out)⟩⟩
                case rest =>
                  clear HC20
                  try clear c1
                  try clear p1
                  try clear q1
                  try clear hx1
                  try clear c2
                  try clear p2
                  try clear c5
                  try clear c6
                  try clear c6b0
                  try clear c6b1
                  try clear c10
                  try clear c12
                  try clear c13
                  try clear p13
                  try clear q13
                  try clear hx13
                  try clear c16
                  try clear c18
                  try clear c18b0
                  try clear c19
                  try clear c19b0
                  try clear c21
                  try clear c21b0
                  try clear hcz17_0
                  try clear hcz17_1
                  try clear hcz17_2
                  try clear hfz17_0
                  try clear hfz17_1
                  try clear hfz17_2
                  try clear hx136_0
                  try clear hx136_1
                  try clear p136
                  try clear p2
                  try clear q136
                  obtain ⟨kq, x54_19, rfl, HA, HJ19, BK135, HI134, HB⟩ := hcut
                  cases kq with
                  | zero => exact absurd HA.out (by simp [computuslaw25_LinescanMatchesReference.j2])
                  | succ kj19 =>
                    have H := HA.out
                    clear HA
                    simp only [computuslaw25_LinescanMatchesReference.j2] at H
                    have HC22 := Aside0.mk H
                    clear H
                    go_upto_if 54 with (fail)
                    go_cut [8] (fun v8 wc => ∃ (kq : Nat) (x8_21 : Int), v8 = .int .i64 x8_21 ∧ Aside0 (computuslaw25_LinescanMatchesReference.j3 kq a0 l1 x7_2 x8_21 x135000_2 x135001_2 x135002_2 x136000_2 x136001_2 x136002_2 = some r) ∧ Aside0 (kq ≤ kj19) ∧ Aside0 (wc.heap[gb135]? = some (.cells #[.string x136000_2, .int .i64 x136001_2, .bool x136002_2] 44 (0, 0))) ∧ Aside0 (IsS72 w wc g134 x135000_2 x135001_2 x135002_2) ∧ Aside0 (Below w.heap.size w wc))
                    case first =>
                      have H := HC22.out
                      clear HC22
                      by_cases c23 : x54_19 = true
                      · subst c23
                        have H1 : (computuslaw25_LinescanMatchesReference.j3 kj19 a0 l1 x7_2 0 x135000_2 x135001_2 x135002_2 x136000_2 x136001_2 x136002_2) = some r := by rw [if_pos rfl] at H; exact H
                        clear H
                        have H := H1
                        clear H1
                        have H' := Aside0.mk H
                        clear H
                        go_wp2
                        go_meet
                        case rel => exact ⟨_, (0), (by first | rfl | (simp; done) | (simp [*]; done)), H', ⟨by have := HJ2.out; have := HK2.out; have := HJ19.out; first | omega | exact Nat.le_refl _⟩, ⟨by (with_reducible repeat (first | refine blk_drewN ?_ _ | refine blk_drew ?_ | refine blk_alloc ?_ _)); exact BK135.out⟩, ⟨by repeat (first | (with_reducible first | exact HI134.out | apply IsS72.alloc | apply IsS72.drewN | apply IsS72.drew | apply IsS72.set_0 | apply IsS72.set_1 | apply IsS72.set_2 | refine IsS72.far ?_ NB134_135.out _) | exact HI134.out)⟩, ⟨by repeat (first | (with_reducible first | exact HB.out | apply below_alloc | apply pw_below_drewN | apply below_drew1 | refine below_set ?_ (IsS72.ge HI134.out) | refine below_set ?_ GE135.out) | exact HB.out)⟩⟩
                      · replace c23 := Bool.eq_false_iff.mpr c23
                        subst c23
                        have H1 : (computuslaw25_LinescanMatchesReference.j3 kj19 a0 l1 x7_2 ((rd_T46 l1 x7_2).f1) x135000_2 x135001_2 x135002_2 x136000_2 x136001_2 x136002_2) = some r := by rw [if_neg (show ¬ (false = true) by decide)] at H; exact H
                        clear H
                        have H := H1
                        clear H1
                        have H' := Aside0.mk H
                        clear H
                        go_wp2
                        go_meet
                        case rel => exact ⟨_, (((rd_T46 l1 x7_2).f1)), (by first | rfl | (simp; done) | (simp [*]; done)), H', ⟨by have := HJ2.out; have := HK2.out; have := HJ19.out; first | omega | exact Nat.le_refl _⟩, ⟨by (with_reducible repeat (first | refine blk_drewN ?_ _ | refine blk_drew ?_ | refine blk_alloc ?_ _)); exact BK135.out⟩, ⟨by repeat (first | (with_reducible first | exact HI134.out | apply IsS72.alloc | apply IsS72.drewN | apply IsS72.drew | apply IsS72.set_0 | apply IsS72.set_1 | apply IsS72.set_2 | refine IsS72.far ?_ NB134_135.out _) | exact HI134.out)⟩, ⟨by repeat (first | (with_reducible first | exact HB.out | apply below_alloc | apply pw_below_drewN | apply below_drew1 | refine below_set ?_ (IsS72.ge HI134.out) | refine below_set ?_ GE135.out) | exact HB.out)⟩⟩
                    case rest =>
                      clear HC22
                      try clear c1
                      try clear p1
                      try clear q1
                      try clear hx1
                      try clear c2
                      try clear p2
                      try clear c5
                      try clear c6
                      try clear c6b0
                      try clear c6b1
                      try clear c10
                      try clear c12
                      try clear c13
                      try clear p13
                      try clear q13
                      try clear hx13
                      try clear c16
                      try clear c18
                      try clear c18b0
                      try clear c19
                      try clear c19b0
                      try clear c21
                      try clear c21b0
                      try clear c23
                      try clear hcz17_0
                      try clear hcz17_1
                      try clear hcz17_2
                      try clear hfz17_0
                      try clear hfz17_1
                      try clear hfz17_2
                      try clear hx136_0
                      try clear hx136_1
                      try clear p1
                      try clear p13
                      try clear p136
                      try clear p2
                      try clear q1
                      try clear q13
                      try clear q136
                      obtain ⟨kq, x8_21, rfl, HA, HJ21, BK135, HI134, HB⟩ := hcut
                      cases kq with
                      | zero => exact absurd HA.out (by simp [computuslaw25_LinescanMatchesReference.j3])
                      | succ kj21 =>
                        have H := HA.out
                        clear HA
                        simp only [computuslaw25_LinescanMatchesReference.j3] at H
                        by_cases c24 : 0 ≤ x7_2
                        · rw [if_pos c24] at H
                          have c24b0 : decide (0 ≤ x7_2) = true := decide_eq_true c24
                          clear c24
                          by_cases c25 : x7_2 < (l1.length : Int)
                          · rw [if_pos c25] at H
                            have c25b0 : decide (x7_2 < (l1.length : Int)) = true := decide_eq_true c25
                            clear c25
                            have HC26 := Aside0.mk H
                            clear H
                            have p137 : 0 ≤ (x7_2 : Int) := of_decide_eq_true (by first | (with_reducible assumption) | assumption)
                            have q137 : x7_2 < (l1.length : Int) := of_decide_eq_true (by first | (with_reducible assumption) | assumption)
                            obtain ⟨ad137, e137, hx137_0, hx137_1⟩ := at_T46 HR1.out x7_2 p137 q137
                            obtain rfl : ad136 = ad137 := (by injection e137)
                            replace hx137_0 := (HB.out.cell (World.block_lt_of_cell? w _ hx137_0)).trans hx137_0
                            replace hx137_1 := (HB.out.cell (World.block_lt_of_cell? w _ hx137_1)).trans hx137_1
                            replace p137 := eq_true p137
                            replace q137 := eq_true q137
                            go_upto_block 2 with (fail)
                            go_cut [] (fun wc => ∃ (kq : Nat) (x135000_25 : ByteArray) (x135001_25 : Int) (x135002_25 : Bool) (x136000_25 : ByteArray) (x136001_25 : Int) (x136002_25 : Bool), Aside0 (computuslaw25_LinescanMatchesReference.j5 kq a0 l1 x7_2 x135000_25 x135001_25 x135002_25 x136000_25 x136001_25 x136002_25 = some r) ∧ Aside0 (kq ≤ kj21) ∧ Aside0 (wc.heap[gb135]? = some (.cells #[.string x136000_25, .int .i64 x136001_25, .bool x136002_25] 44 (0, 0))) ∧ Aside0 (IsS72 w wc g134 x135000_25 x135001_25 x135002_25) ∧ Aside0 (Below w.heap.size w wc))
                            case first =>
                              have H := HC26.out
                              clear HC26
                              by_cases c27 : ((rd_T46 l1 x7_2).f0) = 0
                              · rw [if_pos c27] at H
                                have c27b0 : (((rd_T46 l1 x7_2).f0) == 0) = true := beq_iff_eq.mpr c27
                                have c27b1 : (((rd_T46 l1 x7_2).f0) != 0) = false := bne_eq_false_iff_eq.mpr c27
                                clear c27
                                (first | rw [c27b0] | (simp only [i64_w, i32_w]; rw [c27b0]) | skip)
                                replace H := Option.bind_eq_some_iff.mp H
                                obtain ⟨t138, A280, H⟩ := H
                                replace H : ((linescan_Scanner_Word.f x135000_2 x135001_2 x135002_2 t138).bind fun bt141 => ((computuslaw25_words.f x8_21).bind fun t145 => ((computusref25_Word.f kj21 x136000_2 x136001_2 x136002_2 t145).bind fun bt148 => (if bt141.1 = bt148.2.2.2 then (computuslaw25_LinescanMatchesReference.j5 kj21 a0 l1 x7_2 bt141.2.1 bt141.2.2.1 bt141.2.2.2 bt148.1 bt148.2.1 bt148.2.2.1) else (none))))) = some r := H
                                have A28 := Aside0.mk A280
                                clear A280
                                replace H := Option.bind_eq_some_iff.mp H
                                obtain ⟨⟨t141, t142, t143, t144⟩, A290, H⟩ := H
                                replace H : ((computuslaw25_words.f x8_21).bind fun t145 => ((computusref25_Word.f kj21 x136000_2 x136001_2 x136002_2 t145).bind fun bt148 => (if t141 = bt148.2.2.2 then (computuslaw25_LinescanMatchesReference.j5 kj21 a0 l1 x7_2 t142 t143 t144 bt148.1 bt148.2.1 bt148.2.2.1) else (none)))) = some r := H
                                have A29 := Aside0.mk A290
                                clear A290
                                replace H := Option.bind_eq_some_iff.mp H
                                obtain ⟨t145, A300, H⟩ := H
                                replace H : ((computusref25_Word.f kj21 x136000_2 x136001_2 x136002_2 t145).bind fun bt148 => (if t141 = bt148.2.2.2 then (computuslaw25_LinescanMatchesReference.j5 kj21 a0 l1 x7_2 t142 t143 t144 bt148.1 bt148.2.1 bt148.2.2.1) else (none))) = some r := H
                                have A30 := Aside0.mk A300
                                clear A300
                                replace H := Option.bind_eq_some_iff.mp H
                                obtain ⟨⟨t148, t149, t150, t151⟩, A310, H⟩ := H
                                replace H : (if t141 = t151 then (computuslaw25_LinescanMatchesReference.j5 kj21 a0 l1 x7_2 t142 t143 t144 t148 t149 t150) else (none)) = some r := H
                                have A31 := Aside0.mk A310
                                clear A310
                                by_cases c32 : t141 = t151
                                · rw [if_pos c32] at H
                                  have c32b0 : (t141 == t151) = true := beq_iff_eq.mpr c32
                                  have c32b1 : (t141 != t151) = false := bne_eq_false_iff_eq.mpr c32
                                  clear c32
                                  have H' := Aside0.mk H
                                  clear H
                                  try go_wp2_with (first | ((with_reducible refine gate_callee (f := 15) rfl ?_); refine goesL_ (some 64) rfl rfl Try.func15 (by kernel_rfl) rfl #[.int .i64 x8_21] rfl (by (try simp only [List.map_toArray, List.map_cons, List.map_nil]); first | done | rfl | (simp only [List.length_drop, List.length_take]; rfl)) ?_; (with_reducible refine (computuslaw25_words.calls x8_21 t138 _ A28.out).mono ?_); rintro e w33 ⟨v139, rfl, ho0, hb⟩; refine ⟨_, rfl, ?_⟩; have n0_ := Aside0.mk (Kd.R_lower ho0 (below_size (by repeat (first | (with_reducible first | exact HB.out | apply below_alloc | apply pw_below_drewN | apply below_drew1 | refine below_set ?_ (IsS72.ge HI134.out) | refine below_set ?_ GE135.out) | exact HB.out)))); have n1_ := Aside0.mk (blk_below (g := gb135) (o := .cells #[.string x136000_2, .int .i64 x136001_2, .bool x136002_2] 44 (0, 0)) (by (with_reducible repeat (first | refine blk_drewN ?_ _ | refine blk_drew ?_ | refine blk_alloc ?_ _)); exact BK135.out) hb); have n2_ := Aside0.mk (IsS72.below (by repeat (first | (with_reducible first | exact HI134.out | apply IsS72.alloc | apply IsS72.drewN | apply IsS72.drew | apply IsS72.set_0 | apply IsS72.set_1 | apply IsS72.set_2 | refine IsS72.far ?_ NB134_135.out _) | exact HI134.out)) hb); have n3_ := Aside0.mk (below_step (by repeat (first | (with_reducible first | exact HB.out | apply below_alloc | apply pw_below_drewN | apply below_drew1 | refine below_set ?_ (IsS72.ge HI134.out) | refine below_set ?_ GE135.out) | exact HB.out)) hb); clear BK135; clear HI134; clear HB; have HO140 := n0_; have BK135 := n1_; have HI134 := n2_; have HB := n3_; clear n0_ n1_ n2_ n3_; (try clear hb); (try clear hb2); (try clear hk); (try clear hi); (try clear ho0); obtain ⟨Ao34, co34, eo34⟩ := Kd.R_slice HO140.out; subst eo34) | ((with_reducible refine gate_callee (f := 14) rfl ?_); refine goesL_ (some 65) rfl rfl Try.func14 (by kernel_rfl) rfl #[.pointer (some ⟨g134, 0, none⟩), .slice Ao34 t138.length co34] rfl (by (try simp only [List.map_toArray, List.map_cons, List.map_nil]); first | done | rfl | (simp only [List.length_drop, List.length_take]; rfl)) ?_; (with_reducible refine (linescan_Scanner_Word.calls g134 x135000_2 x135001_2 x135002_2 _ _ t138 t141 t142 t143 t144 w _ ?side1 ?side2 ?side3 ?side4 ?side5 A29.out).mono ?_); (case side1 => repeat (first | (with_reducible first | exact HI134.out | apply IsS72.alloc | apply IsS72.drewN | apply IsS72.drew | apply IsS72.set_0 | apply IsS72.set_1 | apply IsS72.set_2 | refine IsS72.far ?_ NB134_135.out _) | exact HI134.out)); (case side2 => repeat (first | (with_reducible first | exact HB.out | apply below_alloc | apply pw_below_drewN | apply below_drew1 | refine below_set ?_ (IsS72.ge HI134.out) | refine below_set ?_ GE135.out) | exact HB.out)); (case side3 => repeat (first | exact (Kd.R_reads' HO140.out).2.2 | (with_reducible refine Kd.C_alloc ?_ _) | (with_reducible refine Kd.C_drewN ?_ _) | (with_reducible refine Kd.C_drew ?_))); (case side4 => exact (Kd.R_reads' HO140.out).2.1); (case side5 => exact far_slice (IsS72.own_ne HI134.out HO140.out (by decide))); rintro e w35 ⟨rfl, hi, hb, hk⟩; refine ⟨_, rfl, ?_⟩; have n0_ := Aside0.mk (KeepBut.blk hk (g' := gb135) (o := .cells #[.string x136000_2, .int .i64 x136001_2, .bool x136002_2] 44 (0, 0)) (by (with_reducible repeat (first | refine blk_drewN ?_ _ | refine blk_drew ?_ | refine blk_alloc ?_ _)); exact BK135.out) NB135_134.out (by simp)); have n1_ := Aside0.mk (Kd.R_mono (Kd.R_keep (IsS72.apart (show IsS72 w _ g134 x135000_2 x135001_2 x135002_2 from by repeat (first | (with_reducible first | exact HI134.out | apply IsS72.alloc | apply IsS72.drewN | apply IsS72.drew | apply IsS72.set_0 | apply IsS72.set_1 | apply IsS72.set_2 | refine IsS72.far ?_ NB134_135.out _) | exact HI134.out)) (by (with_reducible repeat (first | apply Kd.R_alloc | apply Kd.R_drewN | apply Kd.R_drew)); exact HO140.out) (by decide)) hk (fun _ h => h.2)) (fun _ h => h.1)); have n2_ := Aside0.mk (hb); have n3_ := Aside0.mk (hi); clear BK135; clear HO140; clear HB; clear HI134; have BK135 := n0_; have HO140 := n1_; have HB := n2_; have HI134 := n3_; clear n0_ n1_ n2_ n3_; (try clear hb); (try clear hb2); (try clear hk); (try clear hi)))
                                  have n0_ := Aside0.mk (Kd.R_drew HO140.out)
                                  have n1_ := Aside0.mk (blk_drew BK135.out)
                                  have n2_ := Aside0.mk (IsS72.drew HI134.out)
                                  have n3_ := Aside0.mk (below_drew1 HB.out)
                                  clear HO140
                                  clear BK135
                                  clear HI134
                                  clear HB
                                  have HO140 := n0_
                                  have BK135 := n1_
                                  have HI134 := n2_
                                  have HB := n3_
                                  clear n0_ n1_ n2_ n3_
                                  refine start_ (n := 10) (S := fun w' => w'.cell? ⟨gb135, 0, none⟩ = some (.string x136000_2) ∧ w'.cell? ⟨gb135, 1, none⟩ = some (.int .i64 x136001_2) ∧ w'.cell? ⟨gb135, 2, none⟩ = some (.bool x136002_2)) (ds := []) #[false, false, false, false, false, false, false, false, false, false] (by kernel_rfl) rfl rfl ⟨(blk_cell BK135.out 0).trans rfl, (blk_cell BK135.out 1).trans rfl, (blk_cell BK135.out 2).trans rfl⟩ (fun hHeld => ?_); refine with_tabW computuslaw25_LinescanMatchesReference.tab16 computuslaw25_LinescanMatchesReference.bits16 (fun HT_ HW_ => ?_)
                                  generalize w35.drew = w36 at HO140 BK135 HI134 HB hHeld ⊢
                                  refine pure_ (i := 1) (N := some 68) (v := ?_) (a' := ?_) #[false, true, false, false, false, false, false, false, false, false] rfl rfl (any_of HT_.out (by kernel_rfl)) (fun _ _ _ h => h) (Or.inl ⟨by rfl, ?_⟩) ?_ ?_
                                  rotate_left
                                  · intro w'
                                    go_simp
                                    with_reducible rfl
                                  rotate_left
                                  · simp only [Act.put, List.setIfInBounds_toArray, List.set_cons_zero, List.set_cons_succ, i64_w, i32_w]
                                    rfl
                                  refine take_ (i := 0) (N := some 67) (v := ?_) (a' := ?_) #[true, true, false, false, false, false, false, false, false, false] rfl rfl (take_ofW HT_.out HW_.out (by kernel_rfl)) (fun _ _ _ h => h) (Or.inl ⟨by rfl, ?_⟩) hHeld ?_ ?_
                                  rotate_left
                                  · rintro w' ⟨s0, s1, s2⟩
                                    go_simp
                                    with_reducible rfl
                                  rotate_left
                                  · simp only [Act.put, List.setIfInBounds_toArray, List.set_cons_zero, List.set_cons_succ, i64_w, i32_w]
                                    rfl
                                  refine join_ (σ := Value × Nat) 2 #[true, true, true, true, true, true, true, true, false, false] (fun s_ => [(69, s_.1), (70, .tuple #[.agg #[.string t148, .int .i64 t149, .bool t150], .int .i64 t151]), (10, .pointer (some ⟨s_.2, 0, none⟩)), (66, .tuple #[.agg #[.string t148, .int .i64 t149, .bool t150], .int .i64 t151]), (71, .agg #[.string t148, .int .i64 t149, .bool t150]), (72, .int .i64 t151)]) (fun s_ w' => (w'.cell? ⟨gb135, 0, none⟩ = some (.string x136000_2) ∧ w'.cell? ⟨gb135, 1, none⟩ = some (.int .i64 x136001_2) ∧ w'.cell? ⟨gb135, 2, none⟩ = some (.bool x136002_2)) ∧ (Kd.R Kd.string 9 w' w.heap.size (fun k_ => some k_ ≠ (s_.1 : Value).ownBlock) (.slice Ao34 t138.length co34) t138) ∧ (Kd.R Kd.string 9 w' w.heap.size (fun k_ => some k_ ≠ (.slice Ao34 t138.length co34 : Value).ownBlock) s_.1 t145) ∧ (w'.heap[gb135]? = some (.cells #[.string x136000_2, .int .i64 x136001_2, .bool x136002_2] 44 (0, 0))) ∧ (w'.heap[s_.2]? = some (.cells #[.string (⟨#[]⟩ : ByteArray), .int .i64 0, .bool false] 44 (0, 0))) ∧ (w.heap.size ≤ s_.2) ∧ (w.heap.size ≤ s_.2) ∧ (g134 ≠ s_.2) ∧ (s_.2 ≠ g134) ∧ (gb135 ≠ s_.2) ∧ (s_.2 ≠ gb135) ∧ (IsS72 w w' g134 t142 t143 t144) ∧ (Below w.heap.size w w')) ?_ ?_
                                  rotate_left
                                  · intro hCont
                                    refine two_ (i := 2) (j := 7) (Ni := some 69) (Nj := some 10) #[true, true, true, false, false, false, false, false, false, false] #[true, true, false, false, false, false, false, true, false, false] rfl rfl rfl rfl (two_of HT_.out (by kernel_rfl)) (by decide) (by decide) (fun K hK => ?_) (fun K hK => ?_)
                                    · skip
                                      refine goes_ Try.func15 (by kernel_rfl) rfl #[.int .i64 x8_21] (by rfl) rfl rfl (by (try simp only [List.map_toArray, List.map_cons, List.map_nil]); first | done | rfl | (simp only [List.length_drop, List.length_take]; rfl)) ?_
                                      with_reducible refine (computuslaw25_words.calls x8_21 t145 _ A30.out).mono ?_
                                      rintro e w37 ⟨v146, rfl, ho0, hb⟩
                                      refine ⟨_, rfl, ?_⟩
                                      have n0_ := Aside0.mk (Kd.R_elder' (by (with_reducible repeat (first | apply Kd.R_alloc | apply Kd.R_drewN | apply Kd.R_drew)); exact HO140.out) (Kd.R_base ho0) hb)
                                      have n1_ := Aside0.mk (Kd.R_lower (Kd.R_new' ho0 (Kd.R_lt (by (with_reducible repeat (first | apply Kd.R_alloc | apply Kd.R_drewN | apply Kd.R_drew)); exact HO140.out))) (below_size (by repeat (first | (with_reducible first | exact HB.out | apply below_alloc | apply pw_below_drewN | apply below_drew1 | refine below_set ?_ (IsS72.ge HI134.out) | refine below_set ?_ GE135.out) | exact HB.out))))
                                      have n2_ := Aside0.mk (blk_below (g := gb135) (o := .cells #[.string x136000_2, .int .i64 x136001_2, .bool x136002_2] 44 (0, 0)) (by (with_reducible repeat (first | refine blk_drewN ?_ _ | refine blk_drew ?_ | refine blk_alloc ?_ _)); exact BK135.out) hb)
                                      have n3_ := Aside0.mk (IsS72.below (by repeat (first | (with_reducible first | exact HI134.out | apply IsS72.alloc | apply IsS72.drewN | apply IsS72.drew | apply IsS72.set_0 | apply IsS72.set_1 | apply IsS72.set_2 | refine IsS72.far ?_ NB134_135.out _) | exact HI134.out)) hb)
                                      have n4_ := Aside0.mk (below_step (by repeat (first | (with_reducible first | exact HB.out | apply below_alloc | apply pw_below_drewN | apply below_drew1 | refine below_set ?_ (IsS72.ge HI134.out) | refine below_set ?_ GE135.out) | exact HB.out)) hb)
                                      clear HO140
                                      clear BK135
                                      clear HI134
                                      clear HB
                                      have HO140 := n0_
                                      have HO147 := n1_
                                      have BK135 := n2_
                                      have HI134 := n3_
                                      have HB := n4_
                                      clear n0_ n1_ n2_ n3_ n4_
                                      (try clear hb)
                                      (try clear hb2)
                                      (try clear hk)
                                      (try clear hi)
                                      (try clear ho0)
                                      obtain ⟨Ao38, co38, eo38⟩ := Kd.R_slice HO147.out
                                      (first | subst eo38 | (injection eo38 with f1_ f2_ f3_; have f4_ := f1_.symm; have f5_ := f3_.symm; clear f1_ f2_ f3_; subst f4_; subst f5_))
                                      refine hK.out _ _ (by first | exact ⟨(blk_cell BK135.out 0).trans rfl, (blk_cell BK135.out 1).trans rfl, (blk_cell BK135.out 2).trans rfl⟩ | exact hHeld) (fun hHeld => ?_)
                                      clear hK K
                                      refine norm_ (a' := ?_) ?_ ?_
                                      rotate_left
                                      · show Act.put _ (some 69) _ = _
                                        simp only [Act.put, List.setIfInBounds_toArray, List.set_cons_zero, List.set_cons_succ, i64_w, i32_w]
                                        rfl
                                      refine two_ (i := 3) (j := 7) (Ni := some 70) (Nj := some 10) #[true, true, true, true, false, false, false, false, false, false] #[true, true, true, false, false, false, false, true, false, false] rfl rfl rfl rfl (two_of HT_.out (by kernel_rfl)) (by decide) (by decide) (fun K hK => ?_) (fun K hK => ?_)
                                      · skip
                                        refine goes_ Try.func16 (by kernel_rfl) rfl #[.agg #[.string x136000_2, .int .i64 x136001_2, .bool x136002_2], .slice Ao38 t145.length co38] (by rfl) rfl rfl (by (try simp only [List.map_toArray, List.map_cons, List.map_nil]); first | done | rfl | (simp only [List.length_drop, List.length_take]; rfl)) ?_
                                        with_reducible refine (computusref25_Word.calls kj21 x136000_2 x136001_2 x136002_2 _ _ t145 t148 t149 t150 t151 _ ?side1 ?side2 A31.out).mono ?_
                                        (case side1 => repeat (first | exact (Kd.R_reads' HO147.out).2.2 | (with_reducible refine Kd.C_alloc ?_ _) | (with_reducible refine Kd.C_drewN ?_ _) | (with_reducible refine Kd.C_drew ?_)))
                                        (case side2 => exact (Kd.R_reads' HO147.out).2.1)
                                        rintro e w39 ⟨rfl, hb⟩
                                        refine ⟨_, rfl, ?_⟩
                                        have n0_ := Aside0.mk (Kd.R_below (by (with_reducible repeat (first | apply Kd.R_alloc | apply Kd.R_drewN | apply Kd.R_drew)); exact HO140.out) hb)
                                        have n1_ := Aside0.mk (Kd.R_below (by (with_reducible repeat (first | apply Kd.R_alloc | apply Kd.R_drewN | apply Kd.R_drew)); exact HO147.out) hb)
                                        have n2_ := Aside0.mk (blk_below (g := gb135) (o := .cells #[.string x136000_2, .int .i64 x136001_2, .bool x136002_2] 44 (0, 0)) (by (with_reducible repeat (first | refine blk_drewN ?_ _ | refine blk_drew ?_ | refine blk_alloc ?_ _)); exact BK135.out) hb)
                                        have n3_ := Aside0.mk (IsS72.below (by repeat (first | (with_reducible first | exact HI134.out | apply IsS72.alloc | apply IsS72.drewN | apply IsS72.drew | apply IsS72.set_0 | apply IsS72.set_1 | apply IsS72.set_2 | refine IsS72.far ?_ NB134_135.out _) | exact HI134.out)) hb)
                                        have n4_ := Aside0.mk (below_step (by repeat (first | (with_reducible first | exact HB.out | apply below_alloc | apply pw_below_drewN | apply below_drew1 | refine below_set ?_ (IsS72.ge HI134.out) | refine below_set ?_ GE135.out) | exact HB.out)) hb)
                                        clear HO140
                                        clear HO147
                                        clear BK135
                                        clear HI134
                                        clear HB
                                        have HO140 := n0_
                                        have HO147 := n1_
                                        have BK135 := n2_
                                        have HI134 := n3_
                                        have HB := n4_
                                        clear n0_ n1_ n2_ n3_ n4_
                                        (try clear hb)
                                        (try clear hb2)
                                        (try clear hk)
                                        (try clear hi)
                                        refine hK.out _ _ (by first | exact ⟨(blk_cell BK135.out 0).trans rfl, (blk_cell BK135.out 1).trans rfl, (blk_cell BK135.out 2).trans rfl⟩ | exact hHeld) (fun hHeld => ?_)
                                        clear hK K
                                        refine norm_ (a' := ?_) ?_ ?_
                                        rotate_left
                                        · show Act.put _ (some 70) _ = _
                                          simp only [Act.put, List.setIfInBounds_toArray, List.set_cons_zero, List.set_cons_succ, i64_w, i32_w]
                                          rfl
                                        refine pure_ (i := 4) (N := some 66) (v := ?_) (a' := ?_) #[true, true, true, true, true, false, false, false, false, false] rfl rfl (any_of HT_.out (by kernel_rfl)) (fun _ _ _ h => h) (Or.inl ⟨by rfl, ?_⟩) ?_ ?_
                                        rotate_left
                                        · intro w'
                                          go_simp
                                          with_reducible rfl
                                        rotate_left
                                        · simp only [Act.put, List.setIfInBounds_toArray, List.set_cons_zero, List.set_cons_succ, i64_w, i32_w]
                                          rfl
                                        refine pure_ (i := 5) (N := some 71) (v := ?_) (a' := ?_) #[true, true, true, true, true, true, false, false, false, false] rfl rfl (any_of HT_.out (by kernel_rfl)) (fun _ _ _ h => h) (Or.inl ⟨by rfl, ?_⟩) ?_ ?_
                                        rotate_left
                                        · intro w'
                                          go_simp
                                          with_reducible rfl
                                        rotate_left
                                        · simp only [Act.put, List.setIfInBounds_toArray, List.set_cons_zero, List.set_cons_succ, i64_w, i32_w]
                                          rfl
                                        refine pure_ (i := 6) (N := some 72) (v := ?_) (a' := ?_) #[true, true, true, true, true, true, true, false, false, false] rfl rfl (any_of HT_.out (by kernel_rfl)) (fun _ _ _ h => h) (Or.inl ⟨by rfl, ?_⟩) ?_ ?_
                                        rotate_left
                                        · intro w'
                                          go_simp
                                          with_reducible rfl
                                        rotate_left
                                        · simp only [Act.put, List.setIfInBounds_toArray, List.set_cons_zero, List.set_cons_succ, i64_w, i32_w]
                                          rfl
                                        refine one_ (i := 7) (N := some 10) #[true, true, true, true, true, true, true, true, false, false] rfl rfl (one_of HT_.out (by kernel_rfl)) (by decide) (fun K hK => ?_)
                                        refine box_step ?hg (N := 10) ?hd (cs := #[.string (⟨#[]⟩ : ByteArray), .int .i64 0, .bool false]) (t := 44) ?hr ?_; (case hd => rfl); (case hg => rfl); (case hr => first | (go_simp; done) | (go_simp; rfl))
                                        intro gb152 hg w40 hbox hb
                                        have n0_ := Aside0.mk (Kd.R_below (by (with_reducible repeat (first | apply Kd.R_alloc | apply Kd.R_drewN | apply Kd.R_drew)); exact HO140.out) hb)
                                        have n1_ := Aside0.mk (Kd.R_below (by (with_reducible repeat (first | apply Kd.R_alloc | apply Kd.R_drewN | apply Kd.R_drew)); exact HO147.out) hb)
                                        have n2_ := Aside0.mk (blk_below (g := gb135) (o := .cells #[.string x136000_2, .int .i64 x136001_2, .bool x136002_2] 44 (0, 0)) (by (with_reducible repeat (first | refine blk_drewN ?_ _ | refine blk_drew ?_ | refine blk_alloc ?_ _)); exact BK135.out) hb)
                                        have n3_ := Aside0.mk (IsS72.below (by repeat (first | (with_reducible first | exact HI134.out | apply IsS72.alloc | apply IsS72.drewN | apply IsS72.drew | apply IsS72.set_0 | apply IsS72.set_1 | apply IsS72.set_2 | refine IsS72.far ?_ NB134_135.out _) | exact HI134.out)) hb)
                                        have n4_ := Aside0.mk (below_step (by repeat (first | (with_reducible first | exact HB.out | apply below_alloc | apply pw_below_drewN | apply below_drew1 | refine below_set ?_ (IsS72.ge HI134.out) | refine below_set ?_ GE135.out) | exact HB.out)) hb)
                                        have n5_ := Aside0.mk (hbox)
                                        have n6_ := Aside0.mk ((by rw [hg]; exact (below_size (by repeat (first | (with_reducible first | exact HB.out | apply below_alloc | apply pw_below_drewN | apply below_drew1 | refine below_set ?_ (IsS72.ge HI134.out) | refine below_set ?_ GE135.out) | exact HB.out))) : w.heap.size ≤ gb152))
                                        have n7_ := Aside0.mk ((by rw [hg]; exact (below_size (by repeat (first | (with_reducible first | exact HB.out | apply below_alloc | apply pw_below_drewN | apply below_drew1 | refine below_set ?_ (IsS72.ge HI134.out) | refine below_set ?_ GE135.out) | exact HB.out))) : w.heap.size ≤ gb152))
                                        have n8_ := Aside0.mk ((by rw [hg]; exact Nat.ne_of_lt (blk_lt (g := gb135) (o := .cells #[.string x136000_2, .int .i64 x136001_2, .bool x136002_2] 44 (0, 0)) (by (with_reducible repeat (first | refine blk_drewN ?_ _ | refine blk_drew ?_ | refine blk_alloc ?_ _)); exact BK135.out)) : gb135 ≠ gb152))
                                        have n9_ := Aside0.mk ((by rw [hg]; exact Nat.ne_of_gt (blk_lt (g := gb135) (o := .cells #[.string x136000_2, .int .i64 x136001_2, .bool x136002_2] 44 (0, 0)) (by (with_reducible repeat (first | refine blk_drewN ?_ _ | refine blk_drew ?_ | refine blk_alloc ?_ _)); exact BK135.out)) : gb152 ≠ gb135))
                                        have n10_ := Aside0.mk ((by rw [hg]; exact Nat.ne_of_lt (IsS72.lt (show IsS72 w _ g134 t142 t143 t144 from by repeat (first | (with_reducible first | exact HI134.out | apply IsS72.alloc | apply IsS72.drewN | apply IsS72.drew | apply IsS72.set_0 | apply IsS72.set_1 | apply IsS72.set_2 | refine IsS72.far ?_ NB134_135.out _) | exact HI134.out))) : g134 ≠ gb152))
                                        have n11_ := Aside0.mk ((by rw [hg]; exact Nat.ne_of_gt (IsS72.lt (show IsS72 w _ g134 t142 t143 t144 from by repeat (first | (with_reducible first | exact HI134.out | apply IsS72.alloc | apply IsS72.drewN | apply IsS72.drew | apply IsS72.set_0 | apply IsS72.set_1 | apply IsS72.set_2 | refine IsS72.far ?_ NB134_135.out _) | exact HI134.out))) : gb152 ≠ g134))
                                        clear HO140
                                        clear HO147
                                        clear BK135
                                        clear HI134
                                        clear HB
                                        have HO140 := n0_
                                        have HO147 := n1_
                                        have BK135 := n2_
                                        have HI134 := n3_
                                        have HB := n4_
                                        have BK152 := n5_
                                        have GW152 := n6_
                                        have GE152 := n7_
                                        have NB135_152 := n8_
                                        have NB152_135 := n9_
                                        have NB134_152 := n10_
                                        have NB152_134 := n11_
                                        clear n0_ n1_ n2_ n3_ n4_ n5_ n6_ n7_ n8_ n9_ n10_ n11_
                                        clear hb hbox hg
                                        refine hK.out _ _ (by first | exact ⟨(blk_cell BK135.out 0).trans rfl, (blk_cell BK135.out 1).trans rfl, (blk_cell BK135.out 2).trans rfl⟩ | exact hHeld) (fun hHeld => ?_)
                                        clear hK K
                                        refine norm_ (a' := ?_) ?_ ?_
                                        rotate_left
                                        · show Act.put _ (some 10) _ = _
                                          simp only [Act.put, List.setIfInBounds_toArray, List.set_cons_zero, List.set_cons_succ, i64_w, i32_w]
                                          rfl
                                        exact norm_ (by simp only [putAll, Act.put, List.setIfInBounds_toArray, List.set_cons_zero, List.set_cons_succ]) (hCont (.slice Ao38 t145.length co38, gb152) _ ⟨hHeld, (by (with_reducible repeat (first | apply Kd.R_alloc | apply Kd.R_drewN | apply Kd.R_drew)); exact Kd.R_mono HO140.out (fun _ hk => hk.2)), (by (with_reducible repeat (first | apply Kd.R_alloc | apply Kd.R_drewN | apply Kd.R_drew)); exact Kd.R_mono HO147.out (fun _ hk => hk.2)), (by (with_reducible repeat (first | refine blk_drewN ?_ _ | refine blk_drew ?_ | refine blk_alloc ?_ _)); exact BK135.out), (by (with_reducible repeat (first | refine blk_drewN ?_ _ | refine blk_drew ?_ | refine blk_alloc ?_ _)); exact BK152.out), GW152.out, GE152.out, NB134_152.out, NB152_134.out, NB135_152.out, NB152_135.out, (by repeat (first | (with_reducible first | exact HI134.out | apply IsS72.alloc | apply IsS72.drewN | apply IsS72.drew | apply IsS72.set_0 | apply IsS72.set_1 | apply IsS72.set_2 | refine IsS72.far ?_ NB134_135.out _ | refine IsS72.far ?_ NB134_152.out _) | exact HI134.out)), (by repeat (first | (with_reducible first | exact HB.out | apply below_alloc | apply pw_below_drewN | apply below_drew1 | refine below_set ?_ (IsS72.ge HI134.out) | refine below_set ?_ GE135.out | refine below_set ?_ GE152.out) | exact HB.out))⟩)
                                      · skip
                                        refine box_step ?hg (N := 10) ?hd (cs := #[.string (⟨#[]⟩ : ByteArray), .int .i64 0, .bool false]) (t := 44) ?hr ?_; (case hd => rfl); (case hg => rfl); (case hr => first | (go_simp; done) | (go_simp; rfl))
                                        intro gb152 hg w38 hbox hb
                                        have n0_ := Aside0.mk (Kd.R_below (by (with_reducible repeat (first | apply Kd.R_alloc | apply Kd.R_drewN | apply Kd.R_drew)); exact HO140.out) hb)
                                        have n1_ := Aside0.mk (Kd.R_below (by (with_reducible repeat (first | apply Kd.R_alloc | apply Kd.R_drewN | apply Kd.R_drew)); exact HO147.out) hb)
                                        have n2_ := Aside0.mk (blk_below (g := gb135) (o := .cells #[.string x136000_2, .int .i64 x136001_2, .bool x136002_2] 44 (0, 0)) (by (with_reducible repeat (first | refine blk_drewN ?_ _ | refine blk_drew ?_ | refine blk_alloc ?_ _)); exact BK135.out) hb)
                                        have n3_ := Aside0.mk (IsS72.below (by repeat (first | (with_reducible first | exact HI134.out | apply IsS72.alloc | apply IsS72.drewN | apply IsS72.drew | apply IsS72.set_0 | apply IsS72.set_1 | apply IsS72.set_2 | refine IsS72.far ?_ NB134_135.out _) | exact HI134.out)) hb)
                                        have n4_ := Aside0.mk (below_step (by repeat (first | (with_reducible first | exact HB.out | apply below_alloc | apply pw_below_drewN | apply below_drew1 | refine below_set ?_ (IsS72.ge HI134.out) | refine below_set ?_ GE135.out) | exact HB.out)) hb)
                                        have n5_ := Aside0.mk (hbox)
                                        have n6_ := Aside0.mk ((by rw [hg]; exact (below_size (by repeat (first | (with_reducible first | exact HB.out | apply below_alloc | apply pw_below_drewN | apply below_drew1 | refine below_set ?_ (IsS72.ge HI134.out) | refine below_set ?_ GE135.out) | exact HB.out))) : w.heap.size ≤ gb152))
                                        have n7_ := Aside0.mk ((by rw [hg]; exact (below_size (by repeat (first | (with_reducible first | exact HB.out | apply below_alloc | apply pw_below_drewN | apply below_drew1 | refine below_set ?_ (IsS72.ge HI134.out) | refine below_set ?_ GE135.out) | exact HB.out))) : w.heap.size ≤ gb152))
                                        have n8_ := Aside0.mk ((by rw [hg]; exact Nat.ne_of_lt (blk_lt (g := gb135) (o := .cells #[.string x136000_2, .int .i64 x136001_2, .bool x136002_2] 44 (0, 0)) (by (with_reducible repeat (first | refine blk_drewN ?_ _ | refine blk_drew ?_ | refine blk_alloc ?_ _)); exact BK135.out)) : gb135 ≠ gb152))
                                        have n9_ := Aside0.mk ((by rw [hg]; exact Nat.ne_of_gt (blk_lt (g := gb135) (o := .cells #[.string x136000_2, .int .i64 x136001_2, .bool x136002_2] 44 (0, 0)) (by (with_reducible repeat (first | refine blk_drewN ?_ _ | refine blk_drew ?_ | refine blk_alloc ?_ _)); exact BK135.out)) : gb152 ≠ gb135))
                                        have n10_ := Aside0.mk ((by rw [hg]; exact Nat.ne_of_lt (IsS72.lt (show IsS72 w _ g134 t142 t143 t144 from by repeat (first | (with_reducible first | exact HI134.out | apply IsS72.alloc | apply IsS72.drewN | apply IsS72.drew | apply IsS72.set_0 | apply IsS72.set_1 | apply IsS72.set_2 | refine IsS72.far ?_ NB134_135.out _) | exact HI134.out))) : g134 ≠ gb152))
                                        have n11_ := Aside0.mk ((by rw [hg]; exact Nat.ne_of_gt (IsS72.lt (show IsS72 w _ g134 t142 t143 t144 from by repeat (first | (with_reducible first | exact HI134.out | apply IsS72.alloc | apply IsS72.drewN | apply IsS72.drew | apply IsS72.set_0 | apply IsS72.set_1 | apply IsS72.set_2 | refine IsS72.far ?_ NB134_135.out _) | exact HI134.out))) : gb152 ≠ g134))
                                        clear HO140
                                        clear HO147
                                        clear BK135
                                        clear HI134
                                        clear HB
                                        have HO140 := n0_
                                        have HO147 := n1_
                                        have BK135 := n2_
                                        have HI134 := n3_
                                        have HB := n4_
                                        have BK152 := n5_
                                        have GW152 := n6_
                                        have GE152 := n7_
                                        have NB135_152 := n8_
                                        have NB152_135 := n9_
                                        have NB134_152 := n10_
                                        have NB152_134 := n11_
                                        clear n0_ n1_ n2_ n3_ n4_ n5_ n6_ n7_ n8_ n9_ n10_ n11_
                                        clear hb hbox hg
                                        obtain ⟨Ao39, co39, eo39⟩ := Kd.R_slice HO147.out
                                        (first | subst eo39 | (injection eo39 with f1_ f2_ f3_; have f4_ := f1_.symm; have f5_ := f3_.symm; clear f1_ f2_ f3_; subst f4_; subst f5_))
                                        refine hK.out _ _ (by first | exact ⟨(blk_cell BK135.out 0).trans rfl, (blk_cell BK135.out 1).trans rfl, (blk_cell BK135.out 2).trans rfl⟩ | exact hHeld) (fun hHeld => ?_)
                                        clear hK K
                                        refine norm_ (a' := ?_) ?_ ?_
                                        rotate_left
                                        · show Act.put _ (some 10) _ = _
                                          simp only [Act.put, List.setIfInBounds_toArray, List.set_cons_zero, List.set_cons_succ, i64_w, i32_w]
                                          rfl
                                        refine one_ (i := 3) (N := some 70) #[true, true, true, true, false, false, false, true, false, false] rfl rfl (one_of HT_.out (by kernel_rfl)) (by decide) (fun K hK => ?_)
                                        refine goes_ Try.func16 (by kernel_rfl) rfl #[.agg #[.string x136000_2, .int .i64 x136001_2, .bool x136002_2], .slice Ao39 t145.length co39] (by rfl) rfl rfl (by (try simp only [List.map_toArray, List.map_cons, List.map_nil]); first | done | rfl | (simp only [List.length_drop, List.length_take]; rfl)) ?_
                                        with_reducible refine (computusref25_Word.calls kj21 x136000_2 x136001_2 x136002_2 _ _ t145 t148 t149 t150 t151 _ ?side1 ?side2 A31.out).mono ?_
                                        (case side1 => repeat (first | exact (Kd.R_reads' HO147.out).2.2 | (with_reducible refine Kd.C_alloc ?_ _) | (with_reducible refine Kd.C_drewN ?_ _) | (with_reducible refine Kd.C_drew ?_)))
                                        (case side2 => exact (Kd.R_reads' HO147.out).2.1)
                                        rintro e w40 ⟨rfl, hb⟩
                                        refine ⟨_, rfl, ?_⟩
                                        have n0_ := Aside0.mk (Kd.R_below (by (with_reducible repeat (first | apply Kd.R_alloc | apply Kd.R_drewN | apply Kd.R_drew)); exact HO140.out) hb)
                                        have n1_ := Aside0.mk (Kd.R_below (by (with_reducible repeat (first | apply Kd.R_alloc | apply Kd.R_drewN | apply Kd.R_drew)); exact HO147.out) hb)
                                        have n2_ := Aside0.mk (blk_below (g := gb135) (o := .cells #[.string x136000_2, .int .i64 x136001_2, .bool x136002_2] 44 (0, 0)) (by (with_reducible repeat (first | refine blk_drewN ?_ _ | refine blk_drew ?_ | refine blk_alloc ?_ _)); exact BK135.out) hb)
                                        have n3_ := Aside0.mk (IsS72.below (by repeat (first | (with_reducible first | exact HI134.out | apply IsS72.alloc | apply IsS72.drewN | apply IsS72.drew | apply IsS72.set_0 | apply IsS72.set_1 | apply IsS72.set_2 | refine IsS72.far ?_ NB134_135.out _ | refine IsS72.far ?_ NB134_152.out _) | exact HI134.out)) hb)
                                        have n4_ := Aside0.mk (blk_below (g := gb152) (o := .cells #[.string (⟨#[]⟩ : ByteArray), .int .i64 0, .bool false] 44 (0, 0)) (by (with_reducible repeat (first | refine blk_drewN ?_ _ | refine blk_drew ?_ | refine blk_alloc ?_ _)); exact BK152.out) hb)
                                        have n5_ := Aside0.mk (below_step (by repeat (first | (with_reducible first | exact HB.out | apply below_alloc | apply pw_below_drewN | apply below_drew1 | refine below_set ?_ (IsS72.ge HI134.out) | refine below_set ?_ GE135.out | refine below_set ?_ GE152.out) | exact HB.out)) hb)
                                        clear HO140
                                        clear HO147
                                        clear BK135
                                        clear HI134
                                        clear BK152
                                        clear HB
                                        have HO140 := n0_
                                        have HO147 := n1_
                                        have BK135 := n2_
                                        have HI134 := n3_
                                        have BK152 := n4_
                                        have HB := n5_
                                        clear n0_ n1_ n2_ n3_ n4_ n5_
                                        (try clear hb)
                                        (try clear hb2)
                                        (try clear hk)
                                        (try clear hi)
                                        refine hK.out _ _ (by first | exact ⟨(blk_cell BK135.out 0).trans rfl, (blk_cell BK135.out 1).trans rfl, (blk_cell BK135.out 2).trans rfl⟩ | exact hHeld) (fun hHeld => ?_)
                                        clear hK K
                                        refine norm_ (a' := ?_) ?_ ?_
                                        rotate_left
                                        · show Act.put _ (some 70) _ = _
                                          simp only [Act.put, List.setIfInBounds_toArray, List.set_cons_zero, List.set_cons_succ, i64_w, i32_w]
                                          rfl
                                        refine pure_ (i := 4) (N := some 66) (v := ?_) (a' := ?_) #[true, true, true, true, true, false, false, true, false, false] rfl rfl (any_of HT_.out (by kernel_rfl)) (fun _ _ _ h => h) (Or.inl ⟨by rfl, ?_⟩) ?_ ?_
                                        rotate_left
                                        · intro w'
                                          go_simp
                                          with_reducible rfl
                                        rotate_left
                                        · simp only [Act.put, List.setIfInBounds_toArray, List.set_cons_zero, List.set_cons_succ, i64_w, i32_w]
                                          rfl
                                        refine pure_ (i := 5) (N := some 71) (v := ?_) (a' := ?_) #[true, true, true, true, true, true, false, true, false, false] rfl rfl (any_of HT_.out (by kernel_rfl)) (fun _ _ _ h => h) (Or.inl ⟨by rfl, ?_⟩) ?_ ?_
                                        rotate_left
                                        · intro w'
                                          go_simp
                                          with_reducible rfl
                                        rotate_left
                                        · simp only [Act.put, List.setIfInBounds_toArray, List.set_cons_zero, List.set_cons_succ, i64_w, i32_w]
                                          rfl
                                        refine pure_ (i := 6) (N := some 72) (v := ?_) (a' := ?_) #[true, true, true, true, true, true, true, true, false, false] rfl rfl (any_of HT_.out (by kernel_rfl)) (fun _ _ _ h => h) (Or.inl ⟨by rfl, ?_⟩) ?_ ?_
                                        rotate_left
                                        · intro w'
                                          go_simp
                                          with_reducible rfl
                                        rotate_left
                                        · simp only [Act.put, List.setIfInBounds_toArray, List.set_cons_zero, List.set_cons_succ, i64_w, i32_w]
                                          rfl
                                        exact norm_ (by simp only [putAll, Act.put, List.setIfInBounds_toArray, List.set_cons_zero, List.set_cons_succ]) (hCont (.slice Ao39 t145.length co39, gb152) _ ⟨hHeld, (by (with_reducible repeat (first | apply Kd.R_alloc | apply Kd.R_drewN | apply Kd.R_drew)); exact Kd.R_mono HO140.out (fun _ hk => hk.2)), (by (with_reducible repeat (first | apply Kd.R_alloc | apply Kd.R_drewN | apply Kd.R_drew)); exact Kd.R_mono HO147.out (fun _ hk => hk.2)), (by (with_reducible repeat (first | refine blk_drewN ?_ _ | refine blk_drew ?_ | refine blk_alloc ?_ _)); exact BK135.out), (by (with_reducible repeat (first | refine blk_drewN ?_ _ | refine blk_drew ?_ | refine blk_alloc ?_ _)); exact BK152.out), GW152.out, GE152.out, NB134_152.out, NB152_134.out, NB135_152.out, NB152_135.out, (by repeat (first | (with_reducible first | exact HI134.out | apply IsS72.alloc | apply IsS72.drewN | apply IsS72.drew | apply IsS72.set_0 | apply IsS72.set_1 | apply IsS72.set_2 | refine IsS72.far ?_ NB134_135.out _ | refine IsS72.far ?_ NB134_152.out _) | exact HI134.out)), (by repeat (first | (with_reducible first | exact HB.out | apply below_alloc | apply pw_below_drewN | apply below_drew1 | refine below_set ?_ (IsS72.ge HI134.out) | refine below_set ?_ GE135.out | refine below_set ?_ GE152.out) | exact HB.out))⟩)
                                    · skip
                                      refine box_step ?hg (N := 10) ?hd (cs := #[.string (⟨#[]⟩ : ByteArray), .int .i64 0, .bool false]) (t := 44) ?hr ?_; (case hd => rfl); (case hg => rfl); (case hr => first | (go_simp; done) | (go_simp; rfl))
                                      intro gb152 hg w37 hbox hb
                                      have n0_ := Aside0.mk (Kd.R_below (by (with_reducible repeat (first | apply Kd.R_alloc | apply Kd.R_drewN | apply Kd.R_drew)); exact HO140.out) hb)
                                      have n1_ := Aside0.mk (blk_below (g := gb135) (o := .cells #[.string x136000_2, .int .i64 x136001_2, .bool x136002_2] 44 (0, 0)) (by (with_reducible repeat (first | refine blk_drewN ?_ _ | refine blk_drew ?_ | refine blk_alloc ?_ _)); exact BK135.out) hb)
                                      have n2_ := Aside0.mk (IsS72.below (by repeat (first | (with_reducible first | exact HI134.out | apply IsS72.alloc | apply IsS72.drewN | apply IsS72.drew | apply IsS72.set_0 | apply IsS72.set_1 | apply IsS72.set_2 | refine IsS72.far ?_ NB134_135.out _) | exact HI134.out)) hb)
                                      have n3_ := Aside0.mk (below_step (by repeat (first | (with_reducible first | exact HB.out | apply below_alloc | apply pw_below_drewN | apply below_drew1 | refine below_set ?_ (IsS72.ge HI134.out) | refine below_set ?_ GE135.out) | exact HB.out)) hb)
                                      have n4_ := Aside0.mk (hbox)
                                      have n5_ := Aside0.mk ((by rw [hg]; exact (below_size (by repeat (first | (with_reducible first | exact HB.out | apply below_alloc | apply pw_below_drewN | apply below_drew1 | refine below_set ?_ (IsS72.ge HI134.out) | refine below_set ?_ GE135.out) | exact HB.out))) : w.heap.size ≤ gb152))
                                      have n6_ := Aside0.mk ((by rw [hg]; exact (below_size (by repeat (first | (with_reducible first | exact HB.out | apply below_alloc | apply pw_below_drewN | apply below_drew1 | refine below_set ?_ (IsS72.ge HI134.out) | refine below_set ?_ GE135.out) | exact HB.out))) : w.heap.size ≤ gb152))
                                      have n7_ := Aside0.mk ((by rw [hg]; exact Nat.ne_of_lt (blk_lt (g := gb135) (o := .cells #[.string x136000_2, .int .i64 x136001_2, .bool x136002_2] 44 (0, 0)) (by (with_reducible repeat (first | refine blk_drewN ?_ _ | refine blk_drew ?_ | refine blk_alloc ?_ _)); exact BK135.out)) : gb135 ≠ gb152))
                                      have n8_ := Aside0.mk ((by rw [hg]; exact Nat.ne_of_gt (blk_lt (g := gb135) (o := .cells #[.string x136000_2, .int .i64 x136001_2, .bool x136002_2] 44 (0, 0)) (by (with_reducible repeat (first | refine blk_drewN ?_ _ | refine blk_drew ?_ | refine blk_alloc ?_ _)); exact BK135.out)) : gb152 ≠ gb135))
                                      have n9_ := Aside0.mk ((by rw [hg]; exact Nat.ne_of_lt (IsS72.lt (show IsS72 w _ g134 t142 t143 t144 from by repeat (first | (with_reducible first | exact HI134.out | apply IsS72.alloc | apply IsS72.drewN | apply IsS72.drew | apply IsS72.set_0 | apply IsS72.set_1 | apply IsS72.set_2 | refine IsS72.far ?_ NB134_135.out _) | exact HI134.out))) : g134 ≠ gb152))
                                      have n10_ := Aside0.mk ((by rw [hg]; exact Nat.ne_of_gt (IsS72.lt (show IsS72 w _ g134 t142 t143 t144 from by repeat (first | (with_reducible first | exact HI134.out | apply IsS72.alloc | apply IsS72.drewN | apply IsS72.drew | apply IsS72.set_0 | apply IsS72.set_1 | apply IsS72.set_2 | refine IsS72.far ?_ NB134_135.out _) | exact HI134.out))) : gb152 ≠ g134))
                                      clear HO140
                                      clear BK135
                                      clear HI134
                                      clear HB
                                      have HO140 := n0_
                                      have BK135 := n1_
                                      have HI134 := n2_
                                      have HB := n3_
                                      have BK152 := n4_
                                      have GW152 := n5_
                                      have GE152 := n6_
                                      have NB135_152 := n7_
                                      have NB152_135 := n8_
                                      have NB134_152 := n9_
                                      have NB152_134 := n10_
                                      clear n0_ n1_ n2_ n3_ n4_ n5_ n6_ n7_ n8_ n9_ n10_
                                      clear hb hbox hg
                                      refine hK.out _ _ (by first | exact ⟨(blk_cell BK135.out 0).trans rfl, (blk_cell BK135.out 1).trans rfl, (blk_cell BK135.out 2).trans rfl⟩ | exact hHeld) (fun hHeld => ?_)
                                      clear hK K
                                      refine norm_ (a' := ?_) ?_ ?_
                                      rotate_left
                                      · show Act.put _ (some 10) _ = _
                                        simp only [Act.put, List.setIfInBounds_toArray, List.set_cons_zero, List.set_cons_succ, i64_w, i32_w]
                                        rfl
                                      refine one_ (i := 2) (N := some 69) #[true, true, true, false, false, false, false, true, false, false] rfl rfl (one_of HT_.out (by kernel_rfl)) (by decide) (fun K hK => ?_)
                                      refine goes_ Try.func15 (by kernel_rfl) rfl #[.int .i64 x8_21] (by rfl) rfl rfl (by (try simp only [List.map_toArray, List.map_cons, List.map_nil]); first | done | rfl | (simp only [List.length_drop, List.length_take]; rfl)) ?_
                                      with_reducible refine (computuslaw25_words.calls x8_21 t145 _ A30.out).mono ?_
                                      rintro e w38 ⟨v146, rfl, ho0, hb⟩
                                      refine ⟨_, rfl, ?_⟩
                                      have n0_ := Aside0.mk (Kd.R_elder' (by (with_reducible repeat (first | apply Kd.R_alloc | apply Kd.R_drewN | apply Kd.R_drew)); exact HO140.out) (Kd.R_base ho0) hb)
                                      have n1_ := Aside0.mk (Kd.R_lower (Kd.R_new' ho0 (Kd.R_lt (by (with_reducible repeat (first | apply Kd.R_alloc | apply Kd.R_drewN | apply Kd.R_drew)); exact HO140.out))) (below_size (by repeat (first | (with_reducible first | exact HB.out | apply below_alloc | apply pw_below_drewN | apply below_drew1 | refine below_set ?_ (IsS72.ge HI134.out) | refine below_set ?_ GE135.out | refine below_set ?_ GE152.out) | exact HB.out))))
                                      have n2_ := Aside0.mk (blk_below (g := gb135) (o := .cells #[.string x136000_2, .int .i64 x136001_2, .bool x136002_2] 44 (0, 0)) (by (with_reducible repeat (first | refine blk_drewN ?_ _ | refine blk_drew ?_ | refine blk_alloc ?_ _)); exact BK135.out) hb)
                                      have n3_ := Aside0.mk (IsS72.below (by repeat (first | (with_reducible first | exact HI134.out | apply IsS72.alloc | apply IsS72.drewN | apply IsS72.drew | apply IsS72.set_0 | apply IsS72.set_1 | apply IsS72.set_2 | refine IsS72.far ?_ NB134_135.out _ | refine IsS72.far ?_ NB134_152.out _) | exact HI134.out)) hb)
                                      have n4_ := Aside0.mk (blk_below (g := gb152) (o := .cells #[.string (⟨#[]⟩ : ByteArray), .int .i64 0, .bool false] 44 (0, 0)) (by (with_reducible repeat (first | refine blk_drewN ?_ _ | refine blk_drew ?_ | refine blk_alloc ?_ _)); exact BK152.out) hb)
                                      have n5_ := Aside0.mk (below_step (by repeat (first | (with_reducible first | exact HB.out | apply below_alloc | apply pw_below_drewN | apply below_drew1 | refine below_set ?_ (IsS72.ge HI134.out) | refine below_set ?_ GE135.out | refine below_set ?_ GE152.out) | exact HB.out)) hb)
                                      clear HO140
                                      clear BK135
                                      clear HI134
                                      clear BK152
                                      clear HB
                                      have HO140 := n0_
                                      have HO147 := n1_
                                      have BK135 := n2_
                                      have HI134 := n3_
                                      have BK152 := n4_
                                      have HB := n5_
                                      clear n0_ n1_ n2_ n3_ n4_ n5_
                                      (try clear hb)
                                      (try clear hb2)
                                      (try clear hk)
                                      (try clear hi)
                                      (try clear ho0)
                                      obtain ⟨Ao39, co39, eo39⟩ := Kd.R_slice HO147.out
                                      (first | subst eo39 | (injection eo39 with f1_ f2_ f3_; have f4_ := f1_.symm; have f5_ := f3_.symm; clear f1_ f2_ f3_; subst f4_; subst f5_))
                                      refine hK.out _ _ (by first | exact ⟨(blk_cell BK135.out 0).trans rfl, (blk_cell BK135.out 1).trans rfl, (blk_cell BK135.out 2).trans rfl⟩ | exact hHeld) (fun hHeld => ?_)
                                      clear hK K
                                      refine norm_ (a' := ?_) ?_ ?_
                                      rotate_left
                                      · show Act.put _ (some 69) _ = _
                                        simp only [Act.put, List.setIfInBounds_toArray, List.set_cons_zero, List.set_cons_succ, i64_w, i32_w]
                                        rfl
                                      refine one_ (i := 3) (N := some 70) #[true, true, true, true, false, false, false, true, false, false] rfl rfl (one_of HT_.out (by kernel_rfl)) (by decide) (fun K hK => ?_)
                                      refine goes_ Try.func16 (by kernel_rfl) rfl #[.agg #[.string x136000_2, .int .i64 x136001_2, .bool x136002_2], .slice Ao39 t145.length co39] (by rfl) rfl rfl (by (try simp only [List.map_toArray, List.map_cons, List.map_nil]); first | done | rfl | (simp only [List.length_drop, List.length_take]; rfl)) ?_
                                      with_reducible refine (computusref25_Word.calls kj21 x136000_2 x136001_2 x136002_2 _ _ t145 t148 t149 t150 t151 _ ?side1 ?side2 A31.out).mono ?_
                                      (case side1 => repeat (first | exact (Kd.R_reads' HO147.out).2.2 | (with_reducible refine Kd.C_alloc ?_ _) | (with_reducible refine Kd.C_drewN ?_ _) | (with_reducible refine Kd.C_drew ?_)))
                                      (case side2 => exact (Kd.R_reads' HO147.out).2.1)
                                      rintro e w40 ⟨rfl, hb⟩
                                      refine ⟨_, rfl, ?_⟩
                                      have n0_ := Aside0.mk (Kd.R_below (by (with_reducible repeat (first | apply Kd.R_alloc | apply Kd.R_drewN | apply Kd.R_drew)); exact HO140.out) hb)
                                      have n1_ := Aside0.mk (Kd.R_below (by (with_reducible repeat (first | apply Kd.R_alloc | apply Kd.R_drewN | apply Kd.R_drew)); exact HO147.out) hb)
                                      have n2_ := Aside0.mk (blk_below (g := gb135) (o := .cells #[.string x136000_2, .int .i64 x136001_2, .bool x136002_2] 44 (0, 0)) (by (with_reducible repeat (first | refine blk_drewN ?_ _ | refine blk_drew ?_ | refine blk_alloc ?_ _)); exact BK135.out) hb)
                                      have n3_ := Aside0.mk (IsS72.below (by repeat (first | (with_reducible first | exact HI134.out | apply IsS72.alloc | apply IsS72.drewN | apply IsS72.drew | apply IsS72.set_0 | apply IsS72.set_1 | apply IsS72.set_2 | refine IsS72.far ?_ NB134_135.out _ | refine IsS72.far ?_ NB134_152.out _) | exact HI134.out)) hb)
                                      have n4_ := Aside0.mk (blk_below (g := gb152) (o := .cells #[.string (⟨#[]⟩ : ByteArray), .int .i64 0, .bool false] 44 (0, 0)) (by (with_reducible repeat (first | refine blk_drewN ?_ _ | refine blk_drew ?_ | refine blk_alloc ?_ _)); exact BK152.out) hb)
                                      have n5_ := Aside0.mk (below_step (by repeat (first | (with_reducible first | exact HB.out | apply below_alloc | apply pw_below_drewN | apply below_drew1 | refine below_set ?_ (IsS72.ge HI134.out) | refine below_set ?_ GE135.out | refine below_set ?_ GE152.out) | exact HB.out)) hb)
                                      clear HO140
                                      clear HO147
                                      clear BK135
                                      clear HI134
                                      clear BK152
                                      clear HB
                                      have HO140 := n0_
                                      have HO147 := n1_
                                      have BK135 := n2_
                                      have HI134 := n3_
                                      have BK152 := n4_
                                      have HB := n5_
                                      clear n0_ n1_ n2_ n3_ n4_ n5_
                                      (try clear hb)
                                      (try clear hb2)
                                      (try clear hk)
                                      (try clear hi)
                                      refine hK.out _ _ (by first | exact ⟨(blk_cell BK135.out 0).trans rfl, (blk_cell BK135.out 1).trans rfl, (blk_cell BK135.out 2).trans rfl⟩ | exact hHeld) (fun hHeld => ?_)
                                      clear hK K
                                      refine norm_ (a' := ?_) ?_ ?_
                                      rotate_left
                                      · show Act.put _ (some 70) _ = _
                                        simp only [Act.put, List.setIfInBounds_toArray, List.set_cons_zero, List.set_cons_succ, i64_w, i32_w]
                                        rfl
                                      refine pure_ (i := 4) (N := some 66) (v := ?_) (a' := ?_) #[true, true, true, true, true, false, false, true, false, false] rfl rfl (any_of HT_.out (by kernel_rfl)) (fun _ _ _ h => h) (Or.inl ⟨by rfl, ?_⟩) ?_ ?_
                                      rotate_left
                                      · intro w'
                                        go_simp
                                        with_reducible rfl
                                      rotate_left
                                      · simp only [Act.put, List.setIfInBounds_toArray, List.set_cons_zero, List.set_cons_succ, i64_w, i32_w]
                                        rfl
                                      refine pure_ (i := 5) (N := some 71) (v := ?_) (a' := ?_) #[true, true, true, true, true, true, false, true, false, false] rfl rfl (any_of HT_.out (by kernel_rfl)) (fun _ _ _ h => h) (Or.inl ⟨by rfl, ?_⟩) ?_ ?_
                                      rotate_left
                                      · intro w'
                                        go_simp
                                        with_reducible rfl
                                      rotate_left
                                      · simp only [Act.put, List.setIfInBounds_toArray, List.set_cons_zero, List.set_cons_succ, i64_w, i32_w]
                                        rfl
                                      refine pure_ (i := 6) (N := some 72) (v := ?_) (a' := ?_) #[true, true, true, true, true, true, true, true, false, false] rfl rfl (any_of HT_.out (by kernel_rfl)) (fun _ _ _ h => h) (Or.inl ⟨by rfl, ?_⟩) ?_ ?_
                                      rotate_left
                                      · intro w'
                                        go_simp
                                        with_reducible rfl
                                      rotate_left
                                      · simp only [Act.put, List.setIfInBounds_toArray, List.set_cons_zero, List.set_cons_succ, i64_w, i32_w]
                                        rfl
                                      exact norm_ (by simp only [putAll, Act.put, List.setIfInBounds_toArray, List.set_cons_zero, List.set_cons_succ]) (hCont (.slice Ao39 t145.length co39, gb152) _ ⟨hHeld, (by (with_reducible repeat (first | apply Kd.R_alloc | apply Kd.R_drewN | apply Kd.R_drew)); exact Kd.R_mono HO140.out (fun _ hk => hk.2)), (by (with_reducible repeat (first | apply Kd.R_alloc | apply Kd.R_drewN | apply Kd.R_drew)); exact Kd.R_mono HO147.out (fun _ hk => hk.2)), (by (with_reducible repeat (first | refine blk_drewN ?_ _ | refine blk_drew ?_ | refine blk_alloc ?_ _)); exact BK135.out), (by (with_reducible repeat (first | refine blk_drewN ?_ _ | refine blk_drew ?_ | refine blk_alloc ?_ _)); exact BK152.out), GW152.out, GE152.out, NB134_152.out, NB152_134.out, NB135_152.out, NB152_135.out, (by repeat (first | (with_reducible first | exact HI134.out | apply IsS72.alloc | apply IsS72.drewN | apply IsS72.drew | apply IsS72.set_0 | apply IsS72.set_1 | apply IsS72.set_2 | refine IsS72.far ?_ NB134_135.out _ | refine IsS72.far ?_ NB134_152.out _) | exact HI134.out)), (by repeat (first | (with_reducible first | exact HB.out | apply below_alloc | apply pw_below_drewN | apply below_drew1 | refine below_set ?_ (IsS72.ge HI134.out) | refine below_set ?_ GE135.out | refine below_set ?_ GE152.out) | exact HB.out))⟩)
                                  rintro ⟨v146, gb152⟩ w41 ⟨hS_, h0_, h1_, h2_, h3_, h4_, h5_, h6_, h7_, h8_, h9_, h10_, h11_⟩
                                  have n0_ : Aside0 (Kd.R Kd.string 9 w41 w.heap.size (fun k_ => some k_ ≠ (v146 : Value).ownBlock) (.slice Ao34 t138.length co34) t138) := ⟨h0_⟩
                                  have n1_ : Aside0 (Kd.R Kd.string 9 w41 w.heap.size (fun k_ => some k_ ≠ (.slice Ao34 t138.length co34 : Value).ownBlock) v146 t145) := ⟨h1_⟩
                                  have n2_ : Aside0 (w41.heap[gb135]? = some (.cells #[.string x136000_2, .int .i64 x136001_2, .bool x136002_2] 44 (0, 0))) := ⟨h2_⟩
                                  have n3_ : Aside0 (w41.heap[gb152]? = some (.cells #[.string (⟨#[]⟩ : ByteArray), .int .i64 0, .bool false] 44 (0, 0))) := ⟨h3_⟩
                                  have n4_ : Aside0 (w.heap.size ≤ gb152) := ⟨h4_⟩
                                  have n5_ : Aside0 (w.heap.size ≤ gb152) := ⟨h5_⟩
                                  have n6_ : Aside0 (g134 ≠ gb152) := ⟨h6_⟩
                                  have n7_ : Aside0 (gb152 ≠ g134) := ⟨h7_⟩
                                  have n8_ : Aside0 (gb135 ≠ gb152) := ⟨h8_⟩
                                  have n9_ : Aside0 (gb152 ≠ gb135) := ⟨h9_⟩
                                  have n10_ : Aside0 (IsS72 w w41 g134 t142 t143 t144) := ⟨h10_⟩
                                  have n11_ : Aside0 (Below w.heap.size w w41) := ⟨h11_⟩
                                  clear HO140
                                  clear BK135
                                  clear HI134
                                  clear HB
                                  clear h0_ h1_ h2_ h3_ h4_ h5_ h6_ h7_ h8_ h9_ h10_ h11_
                                  have HO140 := n0_
                                  have HO147 := n1_
                                  have BK135 := n2_
                                  have BK152 := n3_
                                  have GW152 := n4_
                                  have GE152 := n5_
                                  have NB134_152 := n6_
                                  have NB152_134 := n7_
                                  have NB135_152 := n8_
                                  have NB152_135 := n9_
                                  have HI134 := n10_
                                  have HB := n11_
                                  clear n0_ n1_ n2_ n3_ n4_ n5_ n6_ n7_ n8_ n9_ n10_ n11_
                                  have hHeld : w41.cell? ⟨gb135, 0, none⟩ = some (.string x136000_2) ∧ w41.cell? ⟨gb135, 1, none⟩ = some (.int .i64 x136001_2) ∧ w41.cell? ⟨gb135, 2, none⟩ = some (.bool x136002_2) := hS_
                                  refine norm_ (a' := ?_) ?_ ?_
                                  rotate_left
                                  · simp only [putAll, Act.put, List.setIfInBounds_toArray, List.set_cons_zero, List.set_cons_succ]
                                    rfl
                                  refine one_ (i := 8) (N := none) #[true, true, true, true, true, true, true, true, true, false] rfl rfl (one_of HT_.out (by kernel_rfl)) (by decide) (fun K hK => ?_)
                                  have hs42 : w41.cell? ⟨gb152, 0, none⟩ = some (.string (⟨#[]⟩ : ByteArray)) := (blk_cell BK152.out 0).trans rfl
                                  have hfs42 := blk_frozen BK152.out 0
                                  have hns42_0 := NB135_152.out
                                  have hms42_0 := NB152_135.out
                                  have hs43 : w41.cell? ⟨gb152, 1, none⟩ = some (.int .i64 0) := (blk_cell BK152.out 1).trans rfl
                                  have hfs43 := blk_frozen BK152.out 1
                                  have hns43_0 := NB135_152.out
                                  have hms43_0 := NB152_135.out
                                  have hs44 : w41.cell? ⟨gb152, 2, none⟩ = some (.bool false) := (blk_cell BK152.out 2).trans rfl
                                  have hfs44 := blk_frozen BK152.out 2
                                  have hns44_0 := NB135_152.out
                                  have hms44_0 := NB152_135.out
                                  refine skip_ (w1 := ?_) (by rfl) rfl ?_ ?_
                                  rotate_left
                                  · go_simp
                                    rfl
                                  refine hK.out _ _ ⟨((cell_far (p := ⟨gb152, _, none⟩) NB135_152.out _).trans (((cell_far (p := ⟨gb152, _, none⟩) NB135_152.out _).trans (((cell_far (p := ⟨gb152, _, none⟩) NB135_152.out _).trans (hHeld.1)))))), ((cell_far (p := ⟨gb152, _, none⟩) NB135_152.out _).trans (((cell_far (p := ⟨gb152, _, none⟩) NB135_152.out _).trans (((cell_far (p := ⟨gb152, _, none⟩) NB135_152.out _).trans (hHeld.2.1)))))), ((cell_far (p := ⟨gb152, _, none⟩) NB135_152.out _).trans (((cell_far (p := ⟨gb152, _, none⟩) NB135_152.out _).trans (((cell_far (p := ⟨gb152, _, none⟩) NB135_152.out _).trans (hHeld.2.2))))))⟩ (fun hHeld => ?_)
                                  clear hK K
                                  refine pure_ (i := 9) (N := some 11) (v := ?_) (a' := ?_) #[true, true, true, true, true, true, true, true, true, true] rfl rfl (any_of HT_.out (by kernel_rfl)) (fun _ _ _ h => h) (Or.inl ⟨by rfl, ?_⟩) ?_ ?_
                                  rotate_left
                                  · intro w'
                                    go_simp
                                    with_reducible rfl
                                  rotate_left
                                  · simp only [Act.put, List.setIfInBounds_toArray, List.set_cons_zero, List.set_cons_succ, i64_w, i32_w]
                                    rfl
                                  refine done_ (done_of HT_.out (by kernel_rfl)) ?_
                                  have hnb45 := NB152_135.out
                                  have hnc45 := NB135_152.out
                                  have hnb46 := NB152_134.out
                                  have hnc46 := NB134_152.out
                                  have hcz47_0 : w41.cell? ⟨gb152, 0, none⟩ = some (.string (⟨#[]⟩ : ByteArray)) := (blk_cell BK152.out 0).trans rfl
                                  have hcz47_1 : w41.cell? ⟨gb152, 1, none⟩ = some (.int .i64 0) := (blk_cell BK152.out 1).trans rfl
                                  have hcz47_2 : w41.cell? ⟨gb152, 2, none⟩ = some (.bool false) := (blk_cell BK152.out 2).trans rfl
                                  have hfz47_0 := blk_frozen BK152.out 0
                                  have hfz47_1 := blk_frozen BK152.out 1
                                  have hfz47_2 := blk_frozen BK152.out 2
                                  have hnb48 := NB135_134.out
                                  have hnc48 := NB134_135.out
                                  have hcz49_0 : w41.cell? ⟨gb135, 0, none⟩ = some (.string x136000_2) := (blk_cell BK135.out 0).trans rfl
                                  have hcz49_1 : w41.cell? ⟨gb135, 1, none⟩ = some (.int .i64 x136001_2) := (blk_cell BK135.out 1).trans rfl
                                  have hcz49_2 : w41.cell? ⟨gb135, 2, none⟩ = some (.bool x136002_2) := (blk_cell BK135.out 2).trans rfl
                                  have hfz49_0 := blk_frozen BK135.out 0
                                  have hfz49_1 := blk_frozen BK135.out 1
                                  have hfz49_2 := blk_frozen BK135.out 2
                                  try go_wp2
                                  go_meet
                                  case rel => exact ⟨_, (t142), (t143), (t144), (t148), (t149), (t150), H', ⟨by have := HJ2.out; have := HK2.out; have := HJ19.out; have := HJ21.out; first | omega | exact Nat.le_refl _⟩, ⟨by (with_reducible repeat (first | refine blk_drewN ?_ _ | refine blk_drew ?_ | refine blk_alloc ?_ _)); refine blk_put (cs := #[.string t148, .int .i64 t149, .bool x136002_2]) ?_ 2 _ rfl; (with_reducible repeat (first | refine blk_drewN ?_ _ | refine blk_drew ?_ | refine blk_alloc ?_ _)); refine blk_put (cs := #[.string t148, .int .i64 x136001_2, .bool x136002_2]) ?_ 1 _ rfl; (with_reducible repeat (first | refine blk_drewN ?_ _ | refine blk_drew ?_ | refine blk_alloc ?_ _)); refine blk_put (cs := #[.string x136000_2, .int .i64 x136001_2, .bool x136002_2]) ?_ 0 _ rfl; (with_reducible repeat (first | refine blk_drewN ?_ _ | refine blk_drew ?_ | refine blk_alloc ?_ _)); refine blk_far ?_ NB135_152.out _; (with_reducible repeat (first | refine blk_drewN ?_ _ | refine blk_drew ?_ | refine blk_alloc ?_ _)); refine blk_far ?_ NB135_152.out _; (with_reducible repeat (first | refine blk_drewN ?_ _ | refine blk_drew ?_ | refine blk_alloc ?_ _)); refine blk_far ?_ NB135_152.out _; (with_reducible repeat (first | refine blk_drewN ?_ _ | refine blk_drew ?_ | refine blk_alloc ?_ _)); exact BK135.out⟩, ⟨by repeat (first | (with_reducible first | exact HI134.out | apply IsS72.alloc | apply IsS72.drewN | apply IsS72.drew | apply IsS72.set_0 | apply IsS72.set_1 | apply IsS72.set_2 | refine IsS72.far ?_ NB134_135.out _ | refine IsS72.far ?_ NB134_152.out _) | exact HI134.out)⟩, ⟨by repeat (first | (with_reducible first | exact HB.out | apply below_alloc | apply pw_below_drewN | apply below_drew1 | refine below_set ?_ (IsS72.ge HI134.out) | refine below_set ?_ GE135.out | refine below_set ?_ GE152.out) | exact HB.out)⟩⟩
                                · rw [if_neg c32] at H
                                  exact absurd H (by simp)
                              · rw [if_neg c27] at H
                                have c27b0 : (((rd_T46 l1 x7_2).f0) == 0) = false := beq_eq_false_iff_ne.mpr c27
                                have c27b1 : (((rd_T46 l1 x7_2).f0) != 0) = true := bne_iff_ne.mpr c27
                                (first | rw [c27b0] | (simp only [i64_w, i32_w]; rw [c27b0]) | skip)
                                by_cases c50 : ((rd_T46 l1 x7_2).f0) = 1
                                · rw [if_pos c50] at H
                                  have c50b0 : (((rd_T46 l1 x7_2).f0) == 1) = true := beq_iff_eq.mpr c50
                                  have c50b1 : (((rd_T46 l1 x7_2).f0) != 1) = false := bne_eq_false_iff_eq.mpr c50
                                  clear c50
                                  replace H := Option.bind_eq_some_iff.mp H
                                  obtain ⟨⟨t153, t154, t155, t156⟩, A510, H⟩ := H
                                  replace H : ((computusref25_Number.f x136000_2 x136001_2 x136002_2).bind fun bt157 => (if t153 = bt157.2.2.2 then (computuslaw25_LinescanMatchesReference.j5 kj21 a0 l1 x7_2 t154 t155 t156 bt157.1 bt157.2.1 bt157.2.2.1) else (none))) = some r := H
                                  have A51 := Aside0.mk A510
                                  clear A510
                                  replace H := Option.bind_eq_some_iff.mp H
                                  obtain ⟨⟨t157, t158, t159, t160⟩, A520, H⟩ := H
                                  replace H : (if t153 = t160 then (computuslaw25_LinescanMatchesReference.j5 kj21 a0 l1 x7_2 t154 t155 t156 t157 t158 t159) else (none)) = some r := H
                                  have A52 := Aside0.mk A520
                                  clear A520
                                  by_cases c53 : t153 = t160
                                  · rw [if_pos c53] at H
                                    have c53b0 : (t153 == t160) = true := beq_iff_eq.mpr c53
                                    have c53b1 : (t153 != t160) = false := bne_eq_false_iff_eq.mpr c53
                                    clear c53
                                    have H' := Aside0.mk H
                                    clear H
                                    go_wp2_with (first | ((with_reducible refine gate_callee (f := 17) rfl ?_); refine goesL_ (some 80) rfl rfl Try.func17 (by kernel_rfl) rfl #[.pointer (some ⟨g134, 0, none⟩)] rfl (by (try simp only [List.map_toArray, List.map_cons, List.map_nil]); first | done | rfl | (simp only [List.length_drop, List.length_take]; rfl)) ?_; (with_reducible refine (linescan_Scanner_Number.calls g134 x135000_2 x135001_2 x135002_2 t153 t154 t155 t156 w _ ?side1 ?side2 A51.out).mono ?_); (case side1 => repeat (first | (with_reducible first | exact HI134.out | apply IsS72.alloc | apply IsS72.drewN | apply IsS72.drew | apply IsS72.set_0 | apply IsS72.set_1 | apply IsS72.set_2 | refine IsS72.far ?_ NB134_135.out _) | exact HI134.out)); (case side2 => repeat (first | (with_reducible first | exact HB.out | apply below_alloc | apply pw_below_drewN | apply below_drew1 | refine below_set ?_ (IsS72.ge HI134.out) | refine below_set ?_ GE135.out) | exact HB.out)); rintro e w54 ⟨rfl, hi, hb, hk⟩; refine ⟨_, rfl, ?_⟩; have n0_ := Aside0.mk (KeepBut.blk hk (g' := gb135) (o := .cells #[.string x136000_2, .int .i64 x136001_2, .bool x136002_2] 44 (0, 0)) (by (with_reducible repeat (first | refine blk_drewN ?_ _ | refine blk_drew ?_ | refine blk_alloc ?_ _)); exact BK135.out) NB135_134.out (by simp)); have n1_ := Aside0.mk (hb); have n2_ := Aside0.mk (hi); clear BK135; clear HB; clear HI134; have BK135 := n0_; have HB := n1_; have HI134 := n2_; clear n0_ n1_ n2_; (try clear hb); (try clear hb2); (try clear hk); (try clear hi); have hnb55 := NB135_134.out; have hnc55 := NB134_135.out; have hcz56_0 : w54.cell? ⟨gb135, 0, none⟩ = some (.string x136000_2) := (blk_cell BK135.out 0).trans rfl; have hcz56_1 : w54.cell? ⟨gb135, 1, none⟩ = some (.int .i64 x136001_2) := (blk_cell BK135.out 1).trans rfl; have hcz56_2 : w54.cell? ⟨gb135, 2, none⟩ = some (.bool x136002_2) := (blk_cell BK135.out 2).trans rfl; have hfz56_0 := blk_frozen BK135.out 0; have hfz56_1 := blk_frozen BK135.out 1; have hfz56_2 := blk_frozen BK135.out 2) | ((with_reducible refine gate_callee (f := 18) rfl ?_); refine goesL_ (some 83) rfl rfl Try.func18 (by kernel_rfl) rfl #[.agg #[.string x136000_2, .int .i64 x136001_2, .bool x136002_2]] rfl (by (try simp only [List.map_toArray, List.map_cons, List.map_nil]); first | done | rfl | (simp only [List.length_drop, List.length_take]; rfl)) ?_; (with_reducible refine (computusref25_Number.calls x136000_2 x136001_2 x136002_2 t157 t158 t159 t160 _ A52.out).mono ?_); rintro e w57 ⟨rfl, hb⟩; refine ⟨_, rfl, ?_⟩; have n0_ := Aside0.mk (blk_below (g := gb135) (o := .cells #[.string x136000_2, .int .i64 x136001_2, .bool x136002_2] 44 (0, 0)) (by (with_reducible repeat (first | refine blk_drewN ?_ _ | refine blk_drew ?_ | refine blk_alloc ?_ _)); exact BK135.out) hb); have n1_ := Aside0.mk (IsS72.below (by repeat (first | (with_reducible first | exact HI134.out | apply IsS72.alloc | apply IsS72.drewN | apply IsS72.drew | apply IsS72.set_0 | apply IsS72.set_1 | apply IsS72.set_2 | refine IsS72.far ?_ NB134_135.out _) | exact HI134.out)) hb); have n2_ := Aside0.mk (below_step (by repeat (first | (with_reducible first | exact HB.out | apply below_alloc | apply pw_below_drewN | apply below_drew1 | refine below_set ?_ (IsS72.ge HI134.out) | refine below_set ?_ GE135.out) | exact HB.out)) hb); clear BK135; clear HI134; clear HB; have BK135 := n0_; have HI134 := n1_; have HB := n2_; clear n0_ n1_ n2_; (try clear hb); (try clear hb2); (try clear hk); (try clear hi)) | ((with_reducible refine gate_dst (N := 13) rfl ?_); (try (refine gate_guard (by rfl) ?_; dsimp only)); refine box_event ?hg (N := 13) ?hd (cs := #[.string (⟨#[]⟩ : ByteArray), .int .i64 0, .bool false]) (t := 44) ?hr ?_; (case hd => rfl); (case hg => rfl); (case hr => first | (go_simp; done) | (go_simp; rfl)); intro gb161 hg w58 hbox hb; have n0_ := Aside0.mk (blk_below (g := gb135) (o := .cells #[.string x136000_2, .int .i64 x136001_2, .bool x136002_2] 44 (0, 0)) (by (with_reducible repeat (first | refine blk_drewN ?_ _ | refine blk_drew ?_ | refine blk_alloc ?_ _)); exact BK135.out) hb); have n1_ := Aside0.mk (IsS72.below (by repeat (first | (with_reducible first | exact HI134.out | apply IsS72.alloc | apply IsS72.drewN | apply IsS72.drew | apply IsS72.set_0 | apply IsS72.set_1 | apply IsS72.set_2 | refine IsS72.far ?_ NB134_135.out _) | exact HI134.out)) hb); have n2_ := Aside0.mk (below_step (by repeat (first | (with_reducible first | exact HB.out | apply below_alloc | apply pw_below_drewN | apply below_drew1 | refine below_set ?_ (IsS72.ge HI134.out) | refine below_set ?_ GE135.out) | exact HB.out)) hb); have n3_ := Aside0.mk (hbox); have n4_ := Aside0.mk ((by rw [hg]; exact (below_size (by repeat (first | (with_reducible first | exact HB.out | apply below_alloc | apply pw_below_drewN | apply below_drew1 | refine below_set ?_ (IsS72.ge HI134.out) | refine below_set ?_ GE135.out) | exact HB.out))) : w.heap.size ≤ gb161)); have n5_ := Aside0.mk ((by rw [hg]; exact (below_size (by repeat (first | (with_reducible first | exact HB.out | apply below_alloc | apply pw_below_drewN | apply below_drew1 | refine below_set ?_ (IsS72.ge HI134.out) | refine below_set ?_ GE135.out) | exact HB.out))) : w.heap.size ≤ gb161)); have n6_ := Aside0.mk ((by rw [hg]; exact Nat.ne_of_lt (blk_lt (g := gb135) (o := .cells #[.string x136000_2, .int .i64 x136001_2, .bool x136002_2] 44 (0, 0)) (by (with_reducible repeat (first | refine blk_drewN ?_ _ | refine blk_drew ?_ | refine blk_alloc ?_ _)); exact BK135.out)) : gb135 ≠ gb161)); have n7_ := Aside0.mk ((by rw [hg]; exact Nat.ne_of_gt (blk_lt (g := gb135) (o := .cells #[.string x136000_2, .int .i64 x136001_2, .bool x136002_2] 44 (0, 0)) (by (with_reducible repeat (first | refine blk_drewN ?_ _ | refine blk_drew ?_ | refine blk_alloc ?_ _)); exact BK135.out)) : gb161 ≠ gb135)); have n8_ := Aside0.mk ((by rw [hg]; exact Nat.ne_of_lt (IsS72.lt (show IsS72 w _ g134 t154 t155 t156 from by repeat (first | (with_reducible first | exact HI134.out | apply IsS72.alloc | apply IsS72.drewN | apply IsS72.drew | apply IsS72.set_0 | apply IsS72.set_1 | apply IsS72.set_2 | refine IsS72.far ?_ NB134_135.out _) | exact HI134.out))) : g134 ≠ gb161)); have n9_ := Aside0.mk ((by rw [hg]; exact Nat.ne_of_gt (IsS72.lt (show IsS72 w _ g134 t154 t155 t156 from by repeat (first | (with_reducible first | exact HI134.out | apply IsS72.alloc | apply IsS72.drewN | apply IsS72.drew | apply IsS72.set_0 | apply IsS72.set_1 | apply IsS72.set_2 | refine IsS72.far ?_ NB134_135.out _) | exact HI134.out))) : gb161 ≠ g134)); clear BK135; clear HI134; clear HB; have BK135 := n0_; have HI134 := n1_; have HB := n2_; have BK161 := n3_; have GW161 := n4_; have GE161 := n5_; have NB135_161 := n6_; have NB161_135 := n7_; have NB134_161 := n8_; have NB161_134 := n9_; clear n0_ n1_ n2_ n3_ n4_ n5_ n6_ n7_ n8_ n9_; clear hb hbox hg; have hnb59 := NB161_135.out; have hnc59 := NB135_161.out; have hnb60 := NB161_134.out; have hnc60 := NB134_161.out; have hcz61_0 : w58.cell? ⟨gb161, 0, none⟩ = some (.string (⟨#[]⟩ : ByteArray)) := (blk_cell BK161.out 0).trans rfl; have hcz61_1 : w58.cell? ⟨gb161, 1, none⟩ = some (.int .i64 0) := (blk_cell BK161.out 1).trans rfl; have hcz61_2 : w58.cell? ⟨gb161, 2, none⟩ = some (.bool false) := (blk_cell BK161.out 2).trans rfl; have hfz61_0 := blk_frozen BK161.out 0; have hfz61_1 := blk_frozen BK161.out 1; have hfz61_2 := blk_frozen BK161.out 2; have hcz62_0 : w58.cell? ⟨gb135, 0, none⟩ = some (.string x136000_2) := (blk_cell BK135.out 0).trans rfl; have hcz62_1 : w58.cell? ⟨gb135, 1, none⟩ = some (.int .i64 x136001_2) := (blk_cell BK135.out 1).trans rfl; have hcz62_2 : w58.cell? ⟨gb135, 2, none⟩ = some (.bool x136002_2) := (blk_cell BK135.out 2).trans rfl; have hfz62_0 := blk_frozen BK135.out 0; have hfz62_1 := blk_frozen BK135.out 1; have hfz62_2 := blk_frozen BK135.out 2))
                                    go_meet
                                    case rel => exact ⟨_, (t154), (t155), (t156), (t157), (t158), (t159), H', ⟨by have := HJ2.out; have := HK2.out; have := HJ19.out; have := HJ21.out; first | omega | exact Nat.le_refl _⟩, ⟨by (with_reducible repeat (first | refine blk_drewN ?_ _ | refine blk_drew ?_ | refine blk_alloc ?_ _)); refine blk_put (cs := #[.string t157, .int .i64 t158, .bool x136002_2]) ?_ 2 _ rfl; (with_reducible repeat (first | refine blk_drewN ?_ _ | refine blk_drew ?_ | refine blk_alloc ?_ _)); refine blk_put (cs := #[.string t157, .int .i64 x136001_2, .bool x136002_2]) ?_ 1 _ rfl; (with_reducible repeat (first | refine blk_drewN ?_ _ | refine blk_drew ?_ | refine blk_alloc ?_ _)); refine blk_put (cs := #[.string x136000_2, .int .i64 x136001_2, .bool x136002_2]) ?_ 0 _ rfl; (with_reducible repeat (first | refine blk_drewN ?_ _ | refine blk_drew ?_ | refine blk_alloc ?_ _)); refine blk_far ?_ NB135_161.out _; (with_reducible repeat (first | refine blk_drewN ?_ _ | refine blk_drew ?_ | refine blk_alloc ?_ _)); refine blk_far ?_ NB135_161.out _; (with_reducible repeat (first | refine blk_drewN ?_ _ | refine blk_drew ?_ | refine blk_alloc ?_ _)); refine blk_far ?_ NB135_161.out _; (with_reducible repeat (first | refine blk_drewN ?_ _ | refine blk_drew ?_ | refine blk_alloc ?_ _)); exact BK135.out⟩, ⟨by repeat (first | (with_reducible first | exact HI134.out | apply IsS72.alloc | apply IsS72.drewN | apply IsS72.drew | apply IsS72.set_0 | apply IsS72.set_1 | apply IsS72.set_2 | refine IsS72.far ?_ NB134_135.out _ | refine IsS72.far ?_ NB134_161.out _) | exact HI134.out)⟩, ⟨by repeat (first | (with_reducible first | exact HB.out | apply below_alloc | apply pw_below_drewN | apply below_drew1 | refine below_set ?_ (IsS72.ge HI134.out) | refine below_set ?_ GE135.out | refine below_set ?_ GE161.out) | exact HB.out)⟩⟩
                                  · rw [if_neg c53] at H
                                    exact absurd H (by simp)
                                · rw [if_neg c50] at H
                                  have c50b0 : (((rd_T46 l1 x7_2).f0) == 1) = false := beq_eq_false_iff_ne.mpr c50
                                  have c50b1 : (((rd_T46 l1 x7_2).f0) != 1) = true := bne_iff_ne.mpr c50
                                  by_cases c63 : ((rd_T46 l1 x7_2).f0) = 2
                                  · rw [if_pos c63] at H
                                    have c63b0 : (((rd_T46 l1 x7_2).f0) == 2) = true := beq_iff_eq.mpr c63
                                    have c63b1 : (((rd_T46 l1 x7_2).f0) != 2) = false := bne_eq_false_iff_eq.mpr c63
                                    clear c63
                                    replace H := Option.bind_eq_some_iff.mp H
                                    obtain ⟨⟨t162, t163, t164, t165⟩, A640, H⟩ := H
                                    replace H : ((computusref25_Identifier.f x136000_2 x136001_2 x136002_2).bind fun bt166 => (if t162.toList = bt166.2.2.2.toList then (computuslaw25_LinescanMatchesReference.j5 kj21 a0 l1 x7_2 t163 t164 t165 bt166.1 bt166.2.1 bt166.2.2.1) else (none))) = some r := H
                                    have A64 := Aside0.mk A640
                                    clear A640
                                    replace H := Option.bind_eq_some_iff.mp H
                                    obtain ⟨⟨t166, t167, t168, t169⟩, A650, H⟩ := H
                                    replace H : (if t162.toList = t169.toList then (computuslaw25_LinescanMatchesReference.j5 kj21 a0 l1 x7_2 t163 t164 t165 t166 t167 t168) else (none)) = some r := H
                                    have A65 := Aside0.mk A650
                                    clear A650
                                    by_cases c66 : t162.toList = t169.toList
                                    · rw [if_pos c66] at H
                                      have c66b0 : (t162.toList == t169.toList) = true := beq_iff_eq.mpr c66
                                      have c66b1 : (t162.toList != t169.toList) = false := bne_eq_false_iff_eq.mpr c66
                                      clear c66
                                      have H' := Aside0.mk H
                                      clear H
                                      go_wp2_with (first | ((with_reducible refine gate_callee (f := 19) rfl ?_); refine goesL_ (some 93) rfl rfl Try.func19 (by kernel_rfl) rfl #[.pointer (some ⟨g134, 0, none⟩)] rfl (by (try simp only [List.map_toArray, List.map_cons, List.map_nil]); first | done | rfl | (simp only [List.length_drop, List.length_take]; rfl)) ?_; (with_reducible refine (linescan_Scanner_Identifier.calls g134 x135000_2 x135001_2 x135002_2 t162 t163 t164 t165 w _ ?side1 ?side2 A64.out).mono ?_); (case side1 => repeat (first | (with_reducible first | exact HI134.out | apply IsS72.alloc | apply IsS72.drewN | apply IsS72.drew | apply IsS72.set_0 | apply IsS72.set_1 | apply IsS72.set_2 | refine IsS72.far ?_ NB134_135.out _) | exact HI134.out)); (case side2 => repeat (first | (with_reducible first | exact HB.out | apply below_alloc | apply pw_below_drewN | apply below_drew1 | refine below_set ?_ (IsS72.ge HI134.out) | refine below_set ?_ GE135.out) | exact HB.out)); rintro e w67 ⟨rfl, hi, hb, hk⟩; refine ⟨_, rfl, ?_⟩; have n0_ := Aside0.mk (KeepBut.blk hk (g' := gb135) (o := .cells #[.string x136000_2, .int .i64 x136001_2, .bool x136002_2] 44 (0, 0)) (by (with_reducible repeat (first | refine blk_drewN ?_ _ | refine blk_drew ?_ | refine blk_alloc ?_ _)); exact BK135.out) NB135_134.out (by simp)); have n1_ := Aside0.mk (hb); have n2_ := Aside0.mk (hi); clear BK135; clear HB; clear HI134; have BK135 := n0_; have HB := n1_; have HI134 := n2_; clear n0_ n1_ n2_; (try clear hb); (try clear hb2); (try clear hk); (try clear hi); have hnb68 := NB135_134.out; have hnc68 := NB134_135.out; have hcz69_0 : w67.cell? ⟨gb135, 0, none⟩ = some (.string x136000_2) := (blk_cell BK135.out 0).trans rfl; have hcz69_1 : w67.cell? ⟨gb135, 1, none⟩ = some (.int .i64 x136001_2) := (blk_cell BK135.out 1).trans rfl; have hcz69_2 : w67.cell? ⟨gb135, 2, none⟩ = some (.bool x136002_2) := (blk_cell BK135.out 2).trans rfl; have hfz69_0 := blk_frozen BK135.out 0; have hfz69_1 := blk_frozen BK135.out 1; have hfz69_2 := blk_frozen BK135.out 2) | ((with_reducible refine gate_callee (f := 20) rfl ?_); refine goesL_ (some 96) rfl rfl Try.func20 (by kernel_rfl) rfl #[.agg #[.string x136000_2, .int .i64 x136001_2, .bool x136002_2]] rfl (by (try simp only [List.map_toArray, List.map_cons, List.map_nil]); first | done | rfl | (simp only [List.length_drop, List.length_take]; rfl)) ?_; (with_reducible refine (computusref25_Identifier.calls x136000_2 x136001_2 x136002_2 t166 t167 t168 t169 _ A65.out).mono ?_); rintro e w70 ⟨rfl, hb⟩; refine ⟨_, rfl, ?_⟩; have n0_ := Aside0.mk (blk_below (g := gb135) (o := .cells #[.string x136000_2, .int .i64 x136001_2, .bool x136002_2] 44 (0, 0)) (by (with_reducible repeat (first | refine blk_drewN ?_ _ | refine blk_drew ?_ | refine blk_alloc ?_ _)); exact BK135.out) hb); have n1_ := Aside0.mk (IsS72.below (by repeat (first | (with_reducible first | exact HI134.out | apply IsS72.alloc | apply IsS72.drewN | apply IsS72.drew | apply IsS72.set_0 | apply IsS72.set_1 | apply IsS72.set_2 | refine IsS72.far ?_ NB134_135.out _) | exact HI134.out)) hb); have n2_ := Aside0.mk (below_step (by repeat (first | (with_reducible first | exact HB.out | apply below_alloc | apply pw_below_drewN | apply below_drew1 | refine below_set ?_ (IsS72.ge HI134.out) | refine below_set ?_ GE135.out) | exact HB.out)) hb); clear BK135; clear HI134; clear HB; have BK135 := n0_; have HI134 := n1_; have HB := n2_; clear n0_ n1_ n2_; (try clear hb); (try clear hb2); (try clear hk); (try clear hi)) | ((with_reducible refine gate_dst (N := 16) rfl ?_); (try (refine gate_guard (by rfl) ?_; dsimp only)); refine box_event ?hg (N := 16) ?hd (cs := #[.string (⟨#[]⟩ : ByteArray), .int .i64 0, .bool false]) (t := 44) ?hr ?_; (case hd => rfl); (case hg => rfl); (case hr => first | (go_simp; done) | (go_simp; rfl)); intro gb170 hg w71 hbox hb; have n0_ := Aside0.mk (blk_below (g := gb135) (o := .cells #[.string x136000_2, .int .i64 x136001_2, .bool x136002_2] 44 (0, 0)) (by (with_reducible repeat (first | refine blk_drewN ?_ _ | refine blk_drew ?_ | refine blk_alloc ?_ _)); exact BK135.out) hb); have n1_ := Aside0.mk (IsS72.below (by repeat (first | (with_reducible first | exact HI134.out | apply IsS72.alloc | apply IsS72.drewN | apply IsS72.drew | apply IsS72.set_0 | apply IsS72.set_1 | apply IsS72.set_2 | refine IsS72.far ?_ NB134_135.out _) | exact HI134.out)) hb); have n2_ := Aside0.mk (below_step (by repeat (first | (with_reducible first | exact HB.out | apply below_alloc | apply pw_below_drewN | apply below_drew1 | refine below_set ?_ (IsS72.ge HI134.out) | refine below_set ?_ GE135.out) | exact HB.out)) hb); have n3_ := Aside0.mk (hbox); have n4_ := Aside0.mk ((by rw [hg]; exact (below_size (by repeat (first | (with_reducible first | exact HB.out | apply below_alloc | apply pw_below_drewN | apply below_drew1 | refine below_set ?_ (IsS72.ge HI134.out) | refine below_set ?_ GE135.out) | exact HB.out))) : w.heap.size ≤ gb170)); have n5_ := Aside0.mk ((by rw [hg]; exact (below_size (by repeat (first | (with_reducible first | exact HB.out | apply below_alloc | apply pw_below_drewN | apply below_drew1 | refine below_set ?_ (IsS72.ge HI134.out) | refine below_set ?_ GE135.out) | exact HB.out))) : w.heap.size ≤ gb170)); have n6_ := Aside0.mk ((by rw [hg]; exact Nat.ne_of_lt (blk_lt (g := gb135) (o := .cells #[.string x136000_2, .int .i64 x136001_2, .bool x136002_2] 44 (0, 0)) (by (with_reducible repeat (first | refine blk_drewN ?_ _ | refine blk_drew ?_ | refine blk_alloc ?_ _)); exact BK135.out)) : gb135 ≠ gb170)); have n7_ := Aside0.mk ((by rw [hg]; exact Nat.ne_of_gt (blk_lt (g := gb135) (o := .cells #[.string x136000_2, .int .i64 x136001_2, .bool x136002_2] 44 (0, 0)) (by (with_reducible repeat (first | refine blk_drewN ?_ _ | refine blk_drew ?_ | refine blk_alloc ?_ _)); exact BK135.out)) : gb170 ≠ gb135)); have n8_ := Aside0.mk ((by rw [hg]; exact Nat.ne_of_lt (IsS72.lt (show IsS72 w _ g134 t163 t164 t165 from by repeat (first | (with_reducible first | exact HI134.out | apply IsS72.alloc | apply IsS72.drewN | apply IsS72.drew | apply IsS72.set_0 | apply IsS72.set_1 | apply IsS72.set_2 | refine IsS72.far ?_ NB134_135.out _) | exact HI134.out))) : g134 ≠ gb170)); have n9_ := Aside0.mk ((by rw [hg]; exact Nat.ne_of_gt (IsS72.lt (show IsS72 w _ g134 t163 t164 t165 from by repeat (first | (with_reducible first | exact HI134.out | apply IsS72.alloc | apply IsS72.drewN | apply IsS72.drew | apply IsS72.set_0 | apply IsS72.set_1 | apply IsS72.set_2 | refine IsS72.far ?_ NB134_135.out _) | exact HI134.out))) : gb170 ≠ g134)); clear BK135; clear HI134; clear HB; have BK135 := n0_; have HI134 := n1_; have HB := n2_; have BK170 := n3_; have GW170 := n4_; have GE170 := n5_; have NB135_170 := n6_; have NB170_135 := n7_; have NB134_170 := n8_; have NB170_134 := n9_; clear n0_ n1_ n2_ n3_ n4_ n5_ n6_ n7_ n8_ n9_; clear hb hbox hg; have hnb72 := NB170_135.out; have hnc72 := NB135_170.out; have hnb73 := NB170_134.out; have hnc73 := NB134_170.out; have hcz74_0 : w71.cell? ⟨gb170, 0, none⟩ = some (.string (⟨#[]⟩ : ByteArray)) := (blk_cell BK170.out 0).trans rfl; have hcz74_1 : w71.cell? ⟨gb170, 1, none⟩ = some (.int .i64 0) := (blk_cell BK170.out 1).trans rfl; have hcz74_2 : w71.cell? ⟨gb170, 2, none⟩ = some (.bool false) := (blk_cell BK170.out 2).trans rfl; have hfz74_0 := blk_frozen BK170.out 0; have hfz74_1 := blk_frozen BK170.out 1; have hfz74_2 := blk_frozen BK170.out 2; have hcz75_0 : w71.cell? ⟨gb135, 0, none⟩ = some (.string x136000_2) := (blk_cell BK135.out 0).trans rfl; have hcz75_1 : w71.cell? ⟨gb135, 1, none⟩ = some (.int .i64 x136001_2) := (blk_cell BK135.out 1).trans rfl; have hcz75_2 : w71.cell? ⟨gb135, 2, none⟩ = some (.bool x136002_2) := (blk_cell BK135.out 2).trans rfl; have hfz75_0 := blk_frozen BK135.out 0; have hfz75_1 := blk_frozen BK135.out 1; have hfz75_2 := blk_frozen BK135.out 2))
                                      go_meet
                                      case rel => exact ⟨_, (t163), (t164), (t165), (t166), (t167), (t168), H', ⟨by have := HJ2.out; have := HK2.out; have := HJ19.out; have := HJ21.out; first | omega | exact Nat.le_refl _⟩, ⟨by (with_reducible repeat (first | refine blk_drewN ?_ _ | refine blk_drew ?_ | refine blk_alloc ?_ _)); refine blk_put (cs := #[.string t166, .int .i64 t167, .bool x136002_2]) ?_ 2 _ rfl; (with_reducible repeat (first | refine blk_drewN ?_ _ | refine blk_drew ?_ | refine blk_alloc ?_ _)); refine blk_put (cs := #[.string t166, .int .i64 x136001_2, .bool x136002_2]) ?_ 1 _ rfl; (with_reducible repeat (first | refine blk_drewN ?_ _ | refine blk_drew ?_ | refine blk_alloc ?_ _)); refine blk_put (cs := #[.string x136000_2, .int .i64 x136001_2, .bool x136002_2]) ?_ 0 _ rfl; (with_reducible repeat (first | refine blk_drewN ?_ _ | refine blk_drew ?_ | refine blk_alloc ?_ _)); refine blk_far ?_ NB135_170.out _; (with_reducible repeat (first | refine blk_drewN ?_ _ | refine blk_drew ?_ | refine blk_alloc ?_ _)); refine blk_far ?_ NB135_170.out _; (with_reducible repeat (first | refine blk_drewN ?_ _ | refine blk_drew ?_ | refine blk_alloc ?_ _)); refine blk_far ?_ NB135_170.out _; (with_reducible repeat (first | refine blk_drewN ?_ _ | refine blk_drew ?_ | refine blk_alloc ?_ _)); exact BK135.out⟩, ⟨by repeat (first | (with_reducible first | exact HI134.out | apply IsS72.alloc | apply IsS72.drewN | apply IsS72.drew | apply IsS72.set_0 | apply IsS72.set_1 | apply IsS72.set_2 | refine IsS72.far ?_ NB134_135.out _ | refine IsS72.far ?_ NB134_170.out _) | exact HI134.out)⟩, ⟨by repeat (first | (with_reducible first | exact HB.out | apply below_alloc | apply pw_below_drewN | apply below_drew1 | refine below_set ?_ (IsS72.ge HI134.out) | refine below_set ?_ GE135.out | refine below_set ?_ GE170.out) | exact HB.out)⟩⟩
                                    · rw [if_neg c66] at H
                                      exact absurd H (by simp)
                                  · rw [if_neg c63] at H
                                    have c63b0 : (((rd_T46 l1 x7_2).f0) == 2) = false := beq_eq_false_iff_ne.mpr c63
                                    have c63b1 : (((rd_T46 l1 x7_2).f0) != 2) = true := bne_iff_ne.mpr c63
                                    by_cases c76 : ((rd_T46 l1 x7_2).f0) = 3
                                    · rw [if_pos c76] at H
                                      have c76b0 : (((rd_T46 l1 x7_2).f0) == 3) = true := beq_iff_eq.mpr c76
                                      have c76b1 : (((rd_T46 l1 x7_2).f0) != 3) = false := bne_eq_false_iff_eq.mpr c76
                                      clear c76
                                      have HC77 := Aside0.mk H
                                      clear H
                                      go_upto_region 34 with (fail)
                                      go_cut [114] (fun v114 wc => ∃ (kq : Nat) (x114_76 : Bool), v114 = .bool x114_76 ∧ Aside0 (computuslaw25_LinescanMatchesReference.j4 kq a0 l1 x7_2 0 x114_76 x135000_2 x135001_2 x135002_2 x136000_2 x136001_2 x136002_2 = some r) ∧ Aside0 (kq ≤ kj21) ∧ Aside0 (wc.heap[gb135]? = some (.cells #[.string x136000_2, .int .i64 x136001_2, .bool x136002_2] 44 (0, 0))) ∧ Aside0 (IsS72 w wc g134 x135000_2 x135001_2 x135002_2) ∧ Aside0 (Below w.heap.size w wc))
                                      case first =>
                                        have H := HC77.out
                                        clear HC77
                                        by_cases c78 : x136002_2 = true
                                        · subst c78
                                          have H1 : (computuslaw25_LinescanMatchesReference.j4 kj21 a0 l1 x7_2 0 false x135000_2 x135001_2 x135002_2 x136000_2 x136001_2 true) = some r := by rw [if_pos rfl] at H; exact H
                                          clear H
                                          have H := H1
                                          clear H1
                                          have H' := Aside0.mk H
                                          clear H
                                          have hnb79 := NB135_134.out
                                          have hnc79 := NB134_135.out
                                          have hcz80_0 : wc.cell? ⟨gb135, 0, none⟩ = some (.string x136000_2) := (blk_cell BK135.out 0).trans rfl
                                          have hcz80_1 : wc.cell? ⟨gb135, 1, none⟩ = some (.int .i64 x136001_2) := (blk_cell BK135.out 1).trans rfl
                                          have hcz80_2 : wc.cell? ⟨gb135, 2, none⟩ = some (.bool true) := (blk_cell BK135.out 2).trans rfl
                                          have hfz80_0 := blk_frozen BK135.out 0
                                          have hfz80_1 := blk_frozen BK135.out 1
                                          have hfz80_2 := blk_frozen BK135.out 2
                                          go_wp2
                                          go_meet
                                          case rel => exact ⟨_, (false), (by first | rfl | (simp; done) | (simp [*]; done)), H', ⟨by have := HJ2.out; have := HK2.out; have := HJ19.out; have := HJ21.out; first | omega | exact Nat.le_refl _⟩, ⟨by (with_reducible repeat (first | refine blk_drewN ?_ _ | refine blk_drew ?_ | refine blk_alloc ?_ _)); exact BK135.out⟩, ⟨by repeat (first | (with_reducible first | exact HI134.out | apply IsS72.alloc | apply IsS72.drewN | apply IsS72.drew | apply IsS72.set_0 | apply IsS72.set_1 | apply IsS72.set_2 | refine IsS72.far ?_ NB134_135.out _) | exact HI134.out)⟩, ⟨by repeat (first | (with_reducible first | exact HB.out | apply below_alloc | apply pw_below_drewN | apply below_drew1 | refine below_set ?_ (IsS72.ge HI134.out) | refine below_set ?_ GE135.out) | exact HB.out)⟩⟩
                                        · replace c78 := Bool.eq_false_iff.mpr c78
                                          subst c78
                                          have H1 : (computuslaw25_LinescanMatchesReference.j4 kj21 a0 l1 x7_2 0 (decide (x136001_2 < (a0.size : Int))) x135000_2 x135001_2 x135002_2 x136000_2 x136001_2 false) = some r := by rw [if_neg (show ¬ (false = true) by decide)] at H; exact H
                                          clear H
                                          have H := H1
                                          clear H1
                                          have H' := Aside0.mk H
                                          clear H
                                          have hnb81 := NB135_134.out
                                          have hnc81 := NB134_135.out
                                          have hcz82_0 : wc.cell? ⟨gb135, 0, none⟩ = some (.string x136000_2) := (blk_cell BK135.out 0).trans rfl
                                          have hcz82_1 : wc.cell? ⟨gb135, 1, none⟩ = some (.int .i64 x136001_2) := (blk_cell BK135.out 1).trans rfl
                                          have hcz82_2 : wc.cell? ⟨gb135, 2, none⟩ = some (.bool false) := (blk_cell BK135.out 2).trans rfl
                                          have hfz82_0 := blk_frozen BK135.out 0
                                          have hfz82_1 := blk_frozen BK135.out 1
                                          have hfz82_2 := blk_frozen BK135.out 2
                                          go_wp2
                                          go_meet
                                          case rel => exact ⟨_, (decide (x136001_2 < (a0.size : Int))), (by first | rfl | (simp; done) | (simp [*]; done)), H', ⟨by have := HJ2.out; have := HK2.out; have := HJ19.out; have := HJ21.out; first | omega | exact Nat.le_refl _⟩, ⟨by (with_reducible repeat (first | refine blk_drewN ?_ _ | refine blk_drew ?_ | refine blk_alloc ?_ _)); exact BK135.out⟩, ⟨by repeat (first | (with_reducible first | exact HI134.out | apply IsS72.alloc | apply IsS72.drewN | apply IsS72.drew | apply IsS72.set_0 | apply IsS72.set_1 | apply IsS72.set_2 | refine IsS72.far ?_ NB134_135.out _) | exact HI134.out)⟩, ⟨by repeat (first | (with_reducible first | exact HB.out | apply below_alloc | apply pw_below_drewN | apply below_drew1 | refine below_set ?_ (IsS72.ge HI134.out) | refine below_set ?_ GE135.out) | exact HB.out)⟩⟩
                                      case rest =>
                                        clear HC77
                                        try clear c1
                                        try clear c2
                                        try clear p2
                                        try clear c3
                                        try clear c4
                                        try clear c5
                                        try clear c6
                                        try clear c7
                                        try clear c8
                                        try clear c15
                                        try clear c16
                                        try clear c17
                                        try clear c18
                                        try clear c19
                                        try clear c20
                                        try clear c27
                                        try clear c27b0
                                        try clear c27b1
                                        try clear c32
                                        try clear c45
                                        try clear c46
                                        try clear c48
                                        try clear c50
                                        try clear c50b0
                                        try clear c50b1
                                        try clear c53
                                        try clear c53b0
                                        try clear c53b1
                                        try clear c55
                                        try clear c59
                                        try clear c60
                                        try clear c63
                                        try clear c63b0
                                        try clear c63b1
                                        try clear c66
                                        try clear c66b0
                                        try clear c66b1
                                        try clear c68
                                        try clear c72
                                        try clear c73
                                        try clear c76
                                        try clear c76b0
                                        try clear c76b1
                                        try clear c78
                                        try clear c79
                                        try clear c81
                                        try clear hcz47_0
                                        try clear hcz47_1
                                        try clear hcz47_2
                                        try clear hcz49_0
                                        try clear hcz49_1
                                        try clear hcz49_2
                                        try clear hcz56_0
                                        try clear hcz56_1
                                        try clear hcz56_2
                                        try clear hcz61_0
                                        try clear hcz61_1
                                        try clear hcz61_2
                                        try clear hcz62_0
                                        try clear hcz62_1
                                        try clear hcz62_2
                                        try clear hcz69_0
                                        try clear hcz69_1
                                        try clear hcz69_2
                                        try clear hcz74_0
                                        try clear hcz74_1
                                        try clear hcz74_2
                                        try clear hcz75_0
                                        try clear hcz75_1
                                        try clear hcz75_2
                                        try clear hcz80_0
                                        try clear hcz80_1
                                        try clear hcz80_2
                                        try clear hcz82_0
                                        try clear hcz82_1
                                        try clear hcz82_2
                                        try clear hfz47_0
                                        try clear hfz47_1
                                        try clear hfz47_2
                                        try clear hfz49_0
                                        try clear hfz49_1
                                        try clear hfz49_2
                                        try clear hfz56_0
                                        try clear hfz56_1
                                        try clear hfz56_2
                                        try clear hfz61_0
                                        try clear hfz61_1
                                        try clear hfz61_2
                                        try clear hfz62_0
                                        try clear hfz62_1
                                        try clear hfz62_2
                                        try clear hfz69_0
                                        try clear hfz69_1
                                        try clear hfz69_2
                                        try clear hfz74_0
                                        try clear hfz74_1
                                        try clear hfz74_2
                                        try clear hfz75_0
                                        try clear hfz75_1
                                        try clear hfz75_2
                                        try clear hfz80_0
                                        try clear hfz80_1
                                        try clear hfz80_2
                                        try clear hfz82_0
                                        try clear hfz82_1
                                        try clear hfz82_2
                                        obtain ⟨kq, x114_76, rfl, HA, HJ76, BK135, HI134, HB⟩ := hcut
                                        cases kq with
                                        | zero => exact absurd HA.out (by simp [computuslaw25_LinescanMatchesReference.j4])
                                        | succ kj76 =>
                                          have H := HA.out
                                          clear HA
                                          simp only [computuslaw25_LinescanMatchesReference.j4] at H
                                          by_cases c83 : x114_76 = true
                                          · subst c83
                                            have H1 : (if 0 ≤ x136001_2 then (if x136001_2 < (a0.size : Int) then ((linescan_Scanner_Peek.f x135000_2 x135001_2 x135002_2).bind fun bt171 => (if bt171.1 = (bt a0 x136001_2) then (computuslaw25_LinescanMatchesReference.j5 kj76 a0 l1 x7_2 bt171.2.1 bt171.2.2.1 bt171.2.2.2 x136000_2 x136001_2 x136002_2) else (none))) else (none)) else (none)) = some r := by rw [if_pos rfl] at H; exact H
                                            clear H
                                            have H := H1
                                            clear H1
                                            by_cases c84 : 0 ≤ x136001_2
                                            · rw [if_pos c84] at H
                                              have c84b0 : decide (0 ≤ x136001_2) = true := decide_eq_true c84
                                              clear c84
                                              by_cases c85 : x136001_2 < (a0.size : Int)
                                              · rw [if_pos c85] at H
                                                have c85b0 : decide (x136001_2 < (a0.size : Int)) = true := decide_eq_true c85
                                                clear c85
                                                replace H := Option.bind_eq_some_iff.mp H
                                                obtain ⟨⟨t171, t172, t173, t174⟩, A870, H⟩ := H
                                                replace H : (if t171 = (bt a0 x136001_2) then (computuslaw25_LinescanMatchesReference.j5 kj76 a0 l1 x7_2 t172 t173 t174 x136000_2 x136001_2 x136002_2) else (none)) = some r := H
                                                have A87 := Aside0.mk A870
                                                clear A870
                                                by_cases c88 : t171 = (bt a0 x136001_2)
                                                · rw [if_pos c88] at H
                                                  have c88b0 : (t171 == (bt a0 x136001_2)) = true := beq_iff_eq.mpr c88
                                                  have c88b1 : (t171 != (bt a0 x136001_2)) = false := bne_eq_false_iff_eq.mpr c88
                                                  clear c88
                                                  have H' := Aside0.mk H
                                                  clear H
                                                  have hnb89 := NB135_134.out
                                                  have hnc89 := NB134_135.out
                                                  have hcz90_0 : wc.cell? ⟨gb135, 0, none⟩ = some (.string x136000_2) := (blk_cell BK135.out 0).trans rfl
                                                  have hcz90_1 : wc.cell? ⟨gb135, 1, none⟩ = some (.int .i64 x136001_2) := (blk_cell BK135.out 1).trans rfl
                                                  have hcz90_2 : wc.cell? ⟨gb135, 2, none⟩ = some (.bool x136002_2) := (blk_cell BK135.out 2).trans rfl
                                                  have hfz90_0 := blk_frozen BK135.out 0
                                                  have hfz90_1 := blk_frozen BK135.out 1
                                                  have hfz90_2 := blk_frozen BK135.out 2
                                                  have p86 : 0 ≤ (x136001_2 : Int) := of_decide_eq_true (by first | (with_reducible assumption) | assumption)
                                                  have q86 : x136001_2 < (a0.size : Int) := of_decide_eq_true (by first | (with_reducible assumption) | assumption)
                                                  have hx86 := bt_at a0 x136001_2
                                                  replace p86 := eq_true p86
                                                  replace q86 := eq_true q86
                                                  go_wp2_with (first | ((with_reducible refine gate_callee (f := 21) rfl ?_); refine goesL_ (some 120) rfl rfl Try.func21 (by kernel_rfl) rfl #[.pointer (some ⟨g134, 0, none⟩)] rfl (by (try simp only [List.map_toArray, List.map_cons, List.map_nil]); first | done | rfl | (simp only [List.length_drop, List.length_take]; rfl)) ?_; (with_reducible refine (linescan_Scanner_Peek.calls g134 x135000_2 x135001_2 x135002_2 t171 t172 t173 t174 w _ ?side1 ?side2 A87.out).mono ?_); (case side1 => repeat (first | (with_reducible first | exact HI134.out | apply IsS72.alloc | apply IsS72.drewN | apply IsS72.drew | apply IsS72.set_0 | apply IsS72.set_1 | apply IsS72.set_2 | refine IsS72.far ?_ NB134_135.out _) | exact HI134.out)); (case side2 => repeat (first | (with_reducible first | exact HB.out | apply below_alloc | apply pw_below_drewN | apply below_drew1 | refine below_set ?_ (IsS72.ge HI134.out) | refine below_set ?_ GE135.out) | exact HB.out)); rintro e w91 ⟨rfl, hi, hb, hk⟩; refine ⟨_, rfl, ?_⟩; have n0_ := Aside0.mk (KeepBut.blk hk (g' := gb135) (o := .cells #[.string x136000_2, .int .i64 x136001_2, .bool x136002_2] 44 (0, 0)) (by (with_reducible repeat (first | refine blk_drewN ?_ _ | refine blk_drew ?_ | refine blk_alloc ?_ _)); exact BK135.out) NB135_134.out (by simp)); have n1_ := Aside0.mk (hb); have n2_ := Aside0.mk (hi); clear BK135; clear HB; clear HI134; have BK135 := n0_; have HB := n1_; have HI134 := n2_; clear n0_ n1_ n2_; (try clear hb); (try clear hb2); (try clear hk); (try clear hi)))
                                                  go_meet
                                                  case rel => exact ⟨_, (t172), (t173), (t174), (x136000_2), (x136001_2), (x136002_2), H', ⟨by have := HJ2.out; have := HK2.out; have := HJ19.out; have := HJ21.out; have := HJ76.out; first | omega | exact Nat.le_refl _⟩, ⟨by (with_reducible repeat (first | refine blk_drewN ?_ _ | refine blk_drew ?_ | refine blk_alloc ?_ _)); exact BK135.out⟩, ⟨by repeat (first | (with_reducible first | exact HI134.out | apply IsS72.alloc | apply IsS72.drewN | apply IsS72.drew | apply IsS72.set_0 | apply IsS72.set_1 | apply IsS72.set_2 | refine IsS72.far ?_ NB134_135.out _) | exact HI134.out)⟩, ⟨by repeat (first | (with_reducible first | exact HB.out | apply below_alloc | apply pw_below_drewN | apply below_drew1 | refine below_set ?_ (IsS72.ge HI134.out) | refine below_set ?_ GE135.out) | exact HB.out)⟩⟩
                                                · rw [if_neg c88] at H
                                                  exact absurd H (by simp)
                                              · rw [if_neg c85] at H
                                                exact absurd H (by simp)
                                            · rw [if_neg c84] at H
                                              exact absurd H (by simp)
                                          · replace c83 := Bool.eq_false_iff.mpr c83
                                            subst c83
                                            have H1 : ((linescan_Scanner_Peek.f x135000_2 x135001_2 x135002_2).bind fun bt175 => (if bt175.1 = 0 then (computuslaw25_LinescanMatchesReference.j5 kj76 a0 l1 x7_2 bt175.2.1 bt175.2.2.1 bt175.2.2.2 x136000_2 x136001_2 x136002_2) else (none))) = some r := by rw [if_neg (show ¬ (false = true) by decide)] at H; exact H
                                            clear H
                                            have H := H1
                                            clear H1
                                            replace H := Option.bind_eq_some_iff.mp H
                                            obtain ⟨⟨t175, t176, t177, t178⟩, A920, H⟩ := H
                                            replace H : (if t175 = 0 then (computuslaw25_LinescanMatchesReference.j5 kj76 a0 l1 x7_2 t176 t177 t178 x136000_2 x136001_2 x136002_2) else (none)) = some r := H
                                            have A92 := Aside0.mk A920
                                            clear A920
                                            by_cases c93 : t175 = 0
                                            · rw [if_pos c93] at H
                                              have c93b0 : (t175 == 0) = true := beq_iff_eq.mpr c93
                                              have c93b1 : (t175 != 0) = false := bne_eq_false_iff_eq.mpr c93
                                              clear c93
                                              have H' := Aside0.mk H
                                              clear H
                                              go_wp2_with (first | ((with_reducible refine gate_callee (f := 21) rfl ?_); refine goesL_ (some 120) rfl rfl Try.func21 (by kernel_rfl) rfl #[.pointer (some ⟨g134, 0, none⟩)] rfl (by (try simp only [List.map_toArray, List.map_cons, List.map_nil]); first | done | rfl | (simp only [List.length_drop, List.length_take]; rfl)) ?_; (with_reducible refine (linescan_Scanner_Peek.calls g134 x135000_2 x135001_2 x135002_2 t175 t176 t177 t178 w _ ?side1 ?side2 A92.out).mono ?_); (case side1 => repeat (first | (with_reducible first | exact HI134.out | apply IsS72.alloc | apply IsS72.drewN | apply IsS72.drew | apply IsS72.set_0 | apply IsS72.set_1 | apply IsS72.set_2 | refine IsS72.far ?_ NB134_135.out _) | exact HI134.out)); (case side2 => repeat (first | (with_reducible first | exact HB.out | apply below_alloc | apply pw_below_drewN | apply below_drew1 | refine below_set ?_ (IsS72.ge HI134.out) | refine below_set ?_ GE135.out) | exact HB.out)); rintro e w94 ⟨rfl, hi, hb, hk⟩; refine ⟨_, rfl, ?_⟩; have n0_ := Aside0.mk (KeepBut.blk hk (g' := gb135) (o := .cells #[.string x136000_2, .int .i64 x136001_2, .bool x136002_2] 44 (0, 0)) (by (with_reducible repeat (first | refine blk_drewN ?_ _ | refine blk_drew ?_ | refine blk_alloc ?_ _)); exact BK135.out) NB135_134.out (by simp)); have n1_ := Aside0.mk (hb); have n2_ := Aside0.mk (hi); clear BK135; clear HB; clear HI134; have BK135 := n0_; have HB := n1_; have HI134 := n2_; clear n0_ n1_ n2_; (try clear hb); (try clear hb2); (try clear hk); (try clear hi)))
                                              go_meet
                                              case rel => exact ⟨_, (t176), (t177), (t178), (x136000_2), (x136001_2), (x136002_2), H', ⟨by have := HJ2.out; have := HK2.out; have := HJ19.out; have := HJ21.out; have := HJ76.out; first | omega | exact Nat.le_refl _⟩, ⟨by (with_reducible repeat (first | refine blk_drewN ?_ _ | refine blk_drew ?_ | refine blk_alloc ?_ _)); exact BK135.out⟩, ⟨by repeat (first | (with_reducible first | exact HI134.out | apply IsS72.alloc | apply IsS72.drewN | apply IsS72.drew | apply IsS72.set_0 | apply IsS72.set_1 | apply IsS72.set_2 | refine IsS72.far ?_ NB134_135.out _) | exact HI134.out)⟩, ⟨by repeat (first | (with_reducible first | exact HB.out | apply below_alloc | apply pw_below_drewN | apply below_drew1 | refine below_set ?_ (IsS72.ge HI134.out) | refine below_set ?_ GE135.out) | exact HB.out)⟩⟩
                                            · rw [if_neg c93] at H
                                              exact absurd H (by simp)
                                    · rw [if_neg c76] at H
                                      have c76b0 : (((rd_T46 l1 x7_2).f0) == 3) = false := beq_eq_false_iff_ne.mpr c76
                                      have c76b1 : (((rd_T46 l1 x7_2).f0) != 3) = true := bne_iff_ne.mpr c76
                                      by_cases c95 : ((rd_T46 l1 x7_2).f0) = 4
                                      · rw [if_pos c95] at H
                                        have c95b0 : (((rd_T46 l1 x7_2).f0) == 4) = true := beq_iff_eq.mpr c95
                                        have c95b1 : (((rd_T46 l1 x7_2).f0) != 4) = false := bne_eq_false_iff_eq.mpr c95
                                        clear c95
                                        replace H := Option.bind_eq_some_iff.mp H
                                        obtain ⟨⟨t179, t180, t181⟩, A960, H⟩ := H
                                        replace H : ((computusref25_End.f x136000_2 x136001_2 x136002_2).bind fun bt182 => (computuslaw25_LinescanMatchesReference.j5 kj21 a0 l1 x7_2 t179 t180 t181 bt182.1 bt182.2.1 bt182.2.2)) = some r := H
                                        have A96 := Aside0.mk A960
                                        clear A960
                                        replace H := Option.bind_eq_some_iff.mp H
                                        obtain ⟨⟨t182, t183, t184⟩, A970, H⟩ := H
                                        replace H : (computuslaw25_LinescanMatchesReference.j5 kj21 a0 l1 x7_2 t179 t180 t181 t182 t183 t184) = some r := H
                                        have A97 := Aside0.mk A970
                                        clear A970
                                        have H' := Aside0.mk H
                                        clear H
                                        go_wp2_with (first | ((with_reducible refine gate_callee (f := 22) rfl ?_); refine goesL_ (some 126) rfl rfl Try.func22 (by kernel_rfl) rfl #[.pointer (some ⟨g134, 0, none⟩)] rfl (by (try simp only [List.map_toArray, List.map_cons, List.map_nil]); first | done | rfl | (simp only [List.length_drop, List.length_take]; rfl)) ?_; (with_reducible refine (linescan_Scanner_End.calls g134 x135000_2 x135001_2 x135002_2 t179 t180 t181 w _ ?side1 ?side2 A96.out).mono ?_); (case side1 => repeat (first | (with_reducible first | exact HI134.out | apply IsS72.alloc | apply IsS72.drewN | apply IsS72.drew | apply IsS72.set_0 | apply IsS72.set_1 | apply IsS72.set_2 | refine IsS72.far ?_ NB134_135.out _) | exact HI134.out)); (case side2 => repeat (first | (with_reducible first | exact HB.out | apply below_alloc | apply pw_below_drewN | apply below_drew1 | refine below_set ?_ (IsS72.ge HI134.out) | refine below_set ?_ GE135.out) | exact HB.out)); rintro e w98 ⟨rfl, hi, hb, hk⟩; refine ⟨_, rfl, ?_⟩; have n0_ := Aside0.mk (KeepBut.blk hk (g' := gb135) (o := .cells #[.string x136000_2, .int .i64 x136001_2, .bool x136002_2] 44 (0, 0)) (by (with_reducible repeat (first | refine blk_drewN ?_ _ | refine blk_drew ?_ | refine blk_alloc ?_ _)); exact BK135.out) NB135_134.out (by simp)); have n1_ := Aside0.mk (hb); have n2_ := Aside0.mk (hi); clear BK135; clear HB; clear HI134; have BK135 := n0_; have HB := n1_; have HI134 := n2_; clear n0_ n1_ n2_; (try clear hb); (try clear hb2); (try clear hk); (try clear hi); have hnb99 := NB135_134.out; have hnc99 := NB134_135.out; have hcz100_0 : w98.cell? ⟨gb135, 0, none⟩ = some (.string x136000_2) := (blk_cell BK135.out 0).trans rfl; have hcz100_1 : w98.cell? ⟨gb135, 1, none⟩ = some (.int .i64 x136001_2) := (blk_cell BK135.out 1).trans rfl; have hcz100_2 : w98.cell? ⟨gb135, 2, none⟩ = some (.bool x136002_2) := (blk_cell BK135.out 2).trans rfl; have hfz100_0 := blk_frozen BK135.out 0; have hfz100_1 := blk_frozen BK135.out 1; have hfz100_2 := blk_frozen BK135.out 2) | ((with_reducible refine gate_callee (f := 23) rfl ?_); refine goesL_ (some 128) rfl rfl Try.func23 (by kernel_rfl) rfl #[.agg #[.string x136000_2, .int .i64 x136001_2, .bool x136002_2]] rfl (by (try simp only [List.map_toArray, List.map_cons, List.map_nil]); first | done | rfl | (simp only [List.length_drop, List.length_take]; rfl)) ?_; (with_reducible refine (computusref25_End.calls x136000_2 x136001_2 x136002_2 t182 t183 t184 _ A97.out).mono ?_); rintro e w101 ⟨rfl, hb⟩; refine ⟨_, rfl, ?_⟩; have n0_ := Aside0.mk (blk_below (g := gb135) (o := .cells #[.string x136000_2, .int .i64 x136001_2, .bool x136002_2] 44 (0, 0)) (by (with_reducible repeat (first | refine blk_drewN ?_ _ | refine blk_drew ?_ | refine blk_alloc ?_ _)); exact BK135.out) hb); have n1_ := Aside0.mk (IsS72.below (by repeat (first | (with_reducible first | exact HI134.out | apply IsS72.alloc | apply IsS72.drewN | apply IsS72.drew | apply IsS72.set_0 | apply IsS72.set_1 | apply IsS72.set_2 | refine IsS72.far ?_ NB134_135.out _) | exact HI134.out)) hb); have n2_ := Aside0.mk (below_step (by repeat (first | (with_reducible first | exact HB.out | apply below_alloc | apply pw_below_drewN | apply below_drew1 | refine below_set ?_ (IsS72.ge HI134.out) | refine below_set ?_ GE135.out) | exact HB.out)) hb); clear BK135; clear HI134; clear HB; have BK135 := n0_; have HI134 := n1_; have HB := n2_; clear n0_ n1_ n2_; (try clear hb); (try clear hb2); (try clear hk); (try clear hi); have hcz102_0 : w101.cell? ⟨gb135, 0, none⟩ = some (.string x136000_2) := (blk_cell BK135.out 0).trans rfl; have hcz102_1 : w101.cell? ⟨gb135, 1, none⟩ = some (.int .i64 x136001_2) := (blk_cell BK135.out 1).trans rfl; have hcz102_2 : w101.cell? ⟨gb135, 2, none⟩ = some (.bool x136002_2) := (blk_cell BK135.out 2).trans rfl; have hfz102_0 := blk_frozen BK135.out 0; have hfz102_1 := blk_frozen BK135.out 1; have hfz102_2 := blk_frozen BK135.out 2))
                                        go_meet
                                        case rel => exact ⟨_, (t179), (t180), (t181), (t182), (t183), (t184), H', ⟨by have := HJ2.out; have := HK2.out; have := HJ19.out; have := HJ21.out; first | omega | exact Nat.le_refl _⟩, ⟨by (with_reducible repeat (first | refine blk_drewN ?_ _ | refine blk_drew ?_ | refine blk_alloc ?_ _)); refine blk_put (cs := #[.string t182, .int .i64 t183, .bool x136002_2]) ?_ 2 _ rfl; (with_reducible repeat (first | refine blk_drewN ?_ _ | refine blk_drew ?_ | refine blk_alloc ?_ _)); refine blk_put (cs := #[.string t182, .int .i64 x136001_2, .bool x136002_2]) ?_ 1 _ rfl; (with_reducible repeat (first | refine blk_drewN ?_ _ | refine blk_drew ?_ | refine blk_alloc ?_ _)); refine blk_put (cs := #[.string x136000_2, .int .i64 x136001_2, .bool x136002_2]) ?_ 0 _ rfl; (with_reducible repeat (first | refine blk_drewN ?_ _ | refine blk_drew ?_ | refine blk_alloc ?_ _)); exact BK135.out⟩, ⟨by repeat (first | (with_reducible first | exact HI134.out | apply IsS72.alloc | apply IsS72.drewN | apply IsS72.drew | apply IsS72.set_0 | apply IsS72.set_1 | apply IsS72.set_2 | refine IsS72.far ?_ NB134_135.out _) | exact HI134.out)⟩, ⟨by repeat (first | (with_reducible first | exact HB.out | apply below_alloc | apply pw_below_drewN | apply below_drew1 | refine below_set ?_ (IsS72.ge HI134.out) | refine below_set ?_ GE135.out) | exact HB.out)⟩⟩
                                      · rw [if_neg c95] at H
                                        have c95b0 : (((rd_T46 l1 x7_2).f0) == 4) = false := beq_eq_false_iff_ne.mpr c95
                                        have c95b1 : (((rd_T46 l1 x7_2).f0) != 4) = true := bne_iff_ne.mpr c95
                                        have H' := Aside0.mk H
                                        clear H
                                        go_wp2
                                        go_meet
                                        case rel => exact ⟨_, (x135000_2), (x135001_2), (x135002_2), (x136000_2), (x136001_2), (x136002_2), H', ⟨by have := HJ2.out; have := HK2.out; have := HJ19.out; have := HJ21.out; first | omega | exact Nat.le_refl _⟩, ⟨by (with_reducible repeat (first | refine blk_drewN ?_ _ | refine blk_drew ?_ | refine blk_alloc ?_ _)); exact BK135.out⟩, ⟨by repeat (first | (with_reducible first | exact HI134.out | apply IsS72.alloc | apply IsS72.drewN | apply IsS72.drew | apply IsS72.set_0 | apply IsS72.set_1 | apply IsS72.set_2 | refine IsS72.far ?_ NB134_135.out _) | exact HI134.out)⟩, ⟨by repeat (first | (with_reducible first | exact HB.out | apply below_alloc | apply pw_below_drewN | apply below_drew1 | refine below_set ?_ (IsS72.ge HI134.out) | refine below_set ?_ GE135.out) | exact HB.out)⟩⟩
                            case rest =>
                              clear HC26
                              try clear c1
                              try clear c2
                              try clear p2
                              try clear c3
                              try clear c4
                              try clear c5
                              try clear c6
                              try clear c7
                              try clear c8
                              try clear p8
                              try clear q8
                              try clear hx8
                              try clear c9
                              try clear c15
                              try clear c16
                              try clear c17
                              try clear c18
                              try clear c19
                              try clear c20
                              try clear c21
                              try clear c22
                              try clear c23
                              try clear c27
                              try clear c27b0
                              try clear c27b1
                              try clear c32
                              try clear c45
                              try clear c46
                              try clear c48
                              try clear c50
                              try clear c50b0
                              try clear c50b1
                              try clear c53
                              try clear c53b0
                              try clear c53b1
                              try clear c55
                              try clear c59
                              try clear c60
                              try clear c63
                              try clear c63b0
                              try clear c63b1
                              try clear c66
                              try clear c66b0
                              try clear c66b1
                              try clear c68
                              try clear c72
                              try clear c73
                              try clear c76
                              try clear c76b0
                              try clear c76b1
                              try clear c78
                              try clear c79
                              try clear c81
                              try clear c83
                              try clear c84
                              try clear c84b0
                              try clear c85
                              try clear c85b0
                              try clear p86
                              try clear q86
                              try clear hx86
                              try clear c88
                              try clear c88b0
                              try clear c88b1
                              try clear c89
                              try clear c93
                              try clear c93b0
                              try clear c93b1
                              try clear c95
                              try clear c95b0
                              try clear c95b1
                              try clear c99
                              try clear hcz100_0
                              try clear hcz100_1
                              try clear hcz100_2
                              try clear hcz102_0
                              try clear hcz102_1
                              try clear hcz102_2
                              try clear hcz47_0
                              try clear hcz47_1
                              try clear hcz47_2
                              try clear hcz49_0
                              try clear hcz49_1
                              try clear hcz49_2
                              try clear hcz56_0
                              try clear hcz56_1
                              try clear hcz56_2
                              try clear hcz61_0
                              try clear hcz61_1
                              try clear hcz61_2
                              try clear hcz62_0
                              try clear hcz62_1
                              try clear hcz62_2
                              try clear hcz69_0
                              try clear hcz69_1
                              try clear hcz69_2
                              try clear hcz74_0
                              try clear hcz74_1
                              try clear hcz74_2
                              try clear hcz75_0
                              try clear hcz75_1
                              try clear hcz75_2
                              try clear hcz80_0
                              try clear hcz80_1
                              try clear hcz80_2
                              try clear hcz82_0
                              try clear hcz82_1
                              try clear hcz82_2
                              try clear hcz90_0
                              try clear hcz90_1
                              try clear hcz90_2
                              try clear hfz100_0
                              try clear hfz100_1
                              try clear hfz100_2
                              try clear hfz102_0
                              try clear hfz102_1
                              try clear hfz102_2
                              try clear hfz47_0
                              try clear hfz47_1
                              try clear hfz47_2
                              try clear hfz49_0
                              try clear hfz49_1
                              try clear hfz49_2
                              try clear hfz56_0
                              try clear hfz56_1
                              try clear hfz56_2
                              try clear hfz61_0
                              try clear hfz61_1
                              try clear hfz61_2
                              try clear hfz62_0
                              try clear hfz62_1
                              try clear hfz62_2
                              try clear hfz69_0
                              try clear hfz69_1
                              try clear hfz69_2
                              try clear hfz74_0
                              try clear hfz74_1
                              try clear hfz74_2
                              try clear hfz75_0
                              try clear hfz75_1
                              try clear hfz75_2
                              try clear hfz80_0
                              try clear hfz80_1
                              try clear hfz80_2
                              try clear hfz82_0
                              try clear hfz82_1
                              try clear hfz82_2
                              try clear hfz90_0
                              try clear hfz90_1
                              try clear hfz90_2
                              try clear p2
                              try clear p86
                              try clear q86
                              obtain ⟨kq, x135000_25, x135001_25, x135002_25, x136000_25, x136001_25, x136002_25, HA, HJ25, BK135, HI134, HB⟩ := hcut
                              cases kq with
                              | zero => exact absurd HA.out (by simp [computuslaw25_LinescanMatchesReference.j5])
                              | succ kj25 =>
                                have H := HA.out
                                clear HA
                                simp only [computuslaw25_LinescanMatchesReference.j5] at H
                                replace H := Option.bind_eq_some_iff.mp H
                                obtain ⟨⟨t185, t186, t187, t188⟩, A1030, H⟩ := H
                                replace H : (if t185 = x136001_25 then ((linescan_Scanner_Err.f t186 t187 t188).bind fun bt189 => (if ((bt189.1 != 0) != x136002_25) = true then (none) else (computuslaw25_LinescanMatchesReference.l0 kj25 a0 l1 (wrap64 (x7_2 + 1)) bt189.2.1 bt189.2.2.1 bt189.2.2.2 x136000_25 x136001_25 x136002_25))) else (none)) = some r := H
                                have A103 := Aside0.mk A1030
                                clear A1030
                                by_cases c104 : t185 = x136001_25
                                · rw [if_pos c104] at H
                                  have c104b0 : (t185 == x136001_25) = true := beq_iff_eq.mpr c104
                                  have c104b1 : (t185 != x136001_25) = false := bne_eq_false_iff_eq.mpr c104
                                  clear c104
                                  replace H := Option.bind_eq_some_iff.mp H
                                  obtain ⟨⟨t189, t190, t191, t192⟩, A1050, H⟩ := H
                                  replace H : (if ((t189 != 0) != x136002_25) = true then (none) else (computuslaw25_LinescanMatchesReference.l0 kj25 a0 l1 (wrap64 (x7_2 + 1)) t190 t191 t192 x136000_25 x136001_25 x136002_25)) = some r := H
                                  have A105 := Aside0.mk A1050
                                  clear A1050
                                  by_cases c106 : ((t189 != 0) != x136002_25) = true
                                  · rw [if_pos c106] at H
                                    exact absurd H (by simp)
                                  · rw [if_neg c106] at H
                                    have c106b0 : ((t189 != 0) != x136002_25) = false := by simpa using c106
                                    (try (have c106b1 : decide ((t189 != 0) = x136002_25) = true := by simpa using c106))
                                    (try (have c106b2 : ((t189 != 0) == x136002_25) = true := by simpa using c106))
                                    clear c106
                                    have H' := Aside0.mk H
                                    clear H
                                    try go_wp2
                                    have n0_ := Aside0.mk (blk_drew BK135.out)
                                    have n1_ := Aside0.mk (IsS72.drew HI134.out)
                                    have n2_ := Aside0.mk (below_drew1 HB.out)
                                    clear BK135
                                    clear HI134
                                    clear HB
                                    have BK135 := n0_
                                    have HI134 := n1_
                                    have HB := n2_
                                    clear n0_ n1_ n2_
                                    refine start_ (n := 13) (S := fun w' => w'.cell? ⟨gb135, 0, none⟩ = some (.string x136000_25) ∧ w'.cell? ⟨gb135, 1, none⟩ = some (.int .i64 x136001_25) ∧ w'.cell? ⟨gb135, 2, none⟩ = some (.bool x136002_25)) (ds := []) #[false, false, false, false, false, false, false, false, false, false, false, false, false] (by kernel_rfl) rfl rfl ⟨(blk_cell BK135.out 0).trans rfl, (blk_cell BK135.out 1).trans rfl, (blk_cell BK135.out 2).trans rfl⟩ (fun hHeld => ?_); refine with_tabW computuslaw25_LinescanMatchesReference.tab41 computuslaw25_LinescanMatchesReference.bits41 (fun HT_ HW_ => ?_)
                                    generalize wc.drew = w107 at BK135 HI134 HB hHeld ⊢
                                    refine pure_ (i := 0) (N := some 129) (v := ?_) (a' := ?_) #[true, false, false, false, false, false, false, false, false, false, false, false, false] rfl rfl (any_of HT_.out (by kernel_rfl)) (fun _ _ _ h => h) (Or.inl ⟨by rfl, ?_⟩) ?_ ?_
                                    rotate_left
                                    · intro w'
                                      go_simp
                                      with_reducible rfl
                                    rotate_left
                                    · simp only [Act.put, List.setIfInBounds_toArray, List.set_cons_zero, List.set_cons_succ, i64_w, i32_w]
                                      rfl
                                    refine pure_ (i := 2) (N := some 131) (v := ?_) (a' := ?_) #[true, false, true, false, false, false, false, false, false, false, false, false, false] rfl rfl (any_of HT_.out (by kernel_rfl)) (fun _ _ _ h => h) (Or.inl ⟨by rfl, ?_⟩) ?_ ?_
                                    rotate_left
                                    · intro w'
                                      go_simp
                                      with_reducible rfl
                                    rotate_left
                                    · simp only [Act.put, List.setIfInBounds_toArray, List.set_cons_zero, List.set_cons_succ, i64_w, i32_w]
                                      rfl
                                    refine take_ (i := 3) (N := some 132) (v := ?_) (a' := ?_) #[true, false, true, true, false, false, false, false, false, false, false, false, false] rfl rfl (take_ofW HT_.out HW_.out (by kernel_rfl)) (fun _ _ _ h => h) (Or.inl ⟨by rfl, ?_⟩) hHeld ?_ ?_
                                    rotate_left
                                    · rintro w' ⟨s0, s1, s2⟩
                                      go_simp
                                      with_reducible rfl
                                    rotate_left
                                    · simp only [Act.put, List.setIfInBounds_toArray, List.set_cons_zero, List.set_cons_succ, i64_w, i32_w]
                                      rfl
                                    refine one_ (i := 1) (N := some 130) #[true, true, true, true, false, false, false, false, false, false, false, false, false] rfl rfl (one_of HT_.out (by kernel_rfl)) (by decide) (fun K hK => ?_)
                                    refine goes_ Try.func24 (by kernel_rfl) rfl #[.pointer (some ⟨g134, 0, none⟩)] (by rfl) rfl rfl (by (try simp only [List.map_toArray, List.map_cons, List.map_nil]); first | done | rfl | (simp only [List.length_drop, List.length_take]; rfl)) ?_
                                    with_reducible refine (linescan_Scanner_Offset.calls g134 x135000_25 x135001_25 x135002_25 t185 t186 t187 t188 w _ ?side1 ?side2 A103.out).mono ?_
                                    (case side1 => repeat (first | (with_reducible first | exact HI134.out | apply IsS72.alloc | apply IsS72.drewN | apply IsS72.drew | apply IsS72.set_0 | apply IsS72.set_1 | apply IsS72.set_2 | refine IsS72.far ?_ NB134_135.out _) | exact HI134.out))
                                    (case side2 => repeat (first | (with_reducible first | exact HB.out | apply below_alloc | apply pw_below_drewN | apply below_drew1 | refine below_set ?_ (IsS72.ge HI134.out) | refine below_set ?_ GE135.out) | exact HB.out))
                                    rintro e w108 ⟨rfl, hi, hb, hk⟩
                                    refine ⟨_, rfl, ?_⟩
                                    have n0_ := Aside0.mk (KeepBut.blk hk (g' := gb135) (o := .cells #[.string x136000_25, .int .i64 x136001_25, .bool x136002_25] 44 (0, 0)) (by (with_reducible repeat (first | refine blk_drewN ?_ _ | refine blk_drew ?_ | refine blk_alloc ?_ _)); exact BK135.out) NB135_134.out (by simp))
                                    have n1_ := Aside0.mk (hb)
                                    have n2_ := Aside0.mk (hi)
                                    clear BK135
                                    clear HB
                                    clear HI134
                                    have BK135 := n0_
                                    have HB := n1_
                                    have HI134 := n2_
                                    clear n0_ n1_ n2_
                                    (try clear hb)
                                    (try clear hb2)
                                    (try clear hk)
                                    (try clear hi)
                                    refine hK.out _ _ (by first | exact ⟨(blk_cell BK135.out 0).trans rfl, (blk_cell BK135.out 1).trans rfl, (blk_cell BK135.out 2).trans rfl⟩ | exact hHeld) (fun hHeld => ?_)
                                    clear hK K
                                    refine norm_ (a' := ?_) ?_ ?_
                                    rotate_left
                                    · show Act.put _ (some 130) _ = _
                                      simp only [Act.put, List.setIfInBounds_toArray, List.set_cons_zero, List.set_cons_succ, i64_w, i32_w]
                                      rfl
                                    refine pure_ (i := 4) (N := some 133) (v := ?_) (a' := ?_) #[true, true, true, true, true, false, false, false, false, false, false, false, false] rfl rfl (any_of HT_.out (by kernel_rfl)) (fun _ _ _ h => h) (Or.inl ⟨by rfl, ?_⟩) ?_ ?_
                                    rotate_left
                                    · intro w'
                                      go_simp
                                      with_reducible rfl
                                    rotate_left
                                    · simp only [Act.put, List.setIfInBounds_toArray, List.set_cons_zero, List.set_cons_succ, i64_w, i32_w]
                                      rfl
                                    refine pure_ (i := 5) (N := some 134) (v := ?_) (a' := ?_) #[true, true, true, true, true, true, false, false, false, false, false, false, false] rfl rfl (any_of HT_.out (by kernel_rfl)) (fun _ _ _ h => h) (Or.inl ⟨by rfl, ?_⟩) ?_ ?_
                                    rotate_left
                                    · intro w'
                                      go_simp
                                      with_reducible rfl
                                    rotate_left
                                    · simp only [Act.put, List.setIfInBounds_toArray, List.set_cons_zero, List.set_cons_succ, i64_w, i32_w]
                                      rfl
                                    refine pure_ (i := 6) (N := some 135) (v := ?_) (a' := ?_) #[true, true, true, true, true, true, true, false, false, false, false, false, false] rfl rfl (any_of HT_.out (by kernel_rfl)) (fun _ _ _ h => h) (Or.inl ⟨by rfl, ?_⟩) ?_ ?_
                                    rotate_left
                                    · intro w'
                                      go_simp
                                      with_reducible rfl
                                    rotate_left
                                    · simp only [Act.put, List.setIfInBounds_toArray, List.set_cons_zero, List.set_cons_succ, i64_w, i32_w]
                                      rfl
                                    refine pure_ (i := 9) (N := some 138) (v := ?_) (a' := ?_) #[true, true, true, true, true, true, true, false, false, true, false, false, false] rfl rfl (any_of HT_.out (by kernel_rfl)) (fun _ _ _ h => h) (Or.inl ⟨by rfl, ?_⟩) ?_ ?_
                                    rotate_left
                                    · intro w'
                                      go_simp
                                      with_reducible rfl
                                    rotate_left
                                    · simp only [Act.put, List.setIfInBounds_toArray, List.set_cons_zero, List.set_cons_succ, i64_w, i32_w]
                                      rfl
                                    refine take_ (i := 10) (N := some 139) (v := ?_) (a' := ?_) #[true, true, true, true, true, true, true, false, false, true, true, false, false] rfl rfl (take_ofW HT_.out HW_.out (by kernel_rfl)) (fun _ _ _ h => h) (Or.inl ⟨by rfl, ?_⟩) hHeld ?_ ?_
                                    rotate_left
                                    · rintro w' ⟨s0, s1, s2⟩
                                      go_simp
                                      with_reducible rfl
                                    rotate_left
                                    · simp only [Act.put, List.setIfInBounds_toArray, List.set_cons_zero, List.set_cons_succ, i64_w, i32_w]
                                      rfl
                                    refine one_ (i := 7) (N := some 136) #[true, true, true, true, true, true, true, true, false, true, true, false, false] rfl rfl (one_of HT_.out (by kernel_rfl)) (by decide) (fun K hK => ?_)
                                    refine goes_ Try.func25 (by kernel_rfl) rfl #[.pointer (some ⟨g134, 0, none⟩)] (by rfl) rfl rfl (by (try simp only [List.map_toArray, List.map_cons, List.map_nil]); first | done | rfl | (simp only [List.length_drop, List.length_take]; rfl)) ?_
                                    with_reducible refine (linescan_Scanner_Err.calls g134 t186 t187 t188 t189 t190 t191 t192 w _ ?side1 ?side2 A105.out).mono ?_
                                    (case side1 => repeat (first | (with_reducible first | exact HI134.out | apply IsS72.alloc | apply IsS72.drewN | apply IsS72.drew | apply IsS72.set_0 | apply IsS72.set_1 | apply IsS72.set_2 | refine IsS72.far ?_ NB134_135.out _) | exact HI134.out))
                                    (case side2 => repeat (first | (with_reducible first | exact HB.out | apply below_alloc | apply pw_below_drewN | apply below_drew1 | refine below_set ?_ (IsS72.ge HI134.out) | refine below_set ?_ GE135.out) | exact HB.out))
                                    rintro e w109 ⟨rfl, hi, hb, hk⟩
                                    refine ⟨_, rfl, ?_⟩
                                    have n0_ := Aside0.mk (KeepBut.blk hk (g' := gb135) (o := .cells #[.string x136000_25, .int .i64 x136001_25, .bool x136002_25] 44 (0, 0)) (by (with_reducible repeat (first | refine blk_drewN ?_ _ | refine blk_drew ?_ | refine blk_alloc ?_ _)); exact BK135.out) NB135_134.out (by simp))
                                    have n1_ := Aside0.mk (hb)
                                    have n2_ := Aside0.mk (hi)
                                    clear BK135
                                    clear HB
                                    clear HI134
                                    have BK135 := n0_
                                    have HB := n1_
                                    have HI134 := n2_
                                    clear n0_ n1_ n2_
                                    (try clear hb)
                                    (try clear hb2)
                                    (try clear hk)
                                    (try clear hi)
                                    refine hK.out _ _ (by first | exact ⟨(blk_cell BK135.out 0).trans rfl, (blk_cell BK135.out 1).trans rfl, (blk_cell BK135.out 2).trans rfl⟩ | exact hHeld) (fun hHeld => ?_)
                                    clear hK K
                                    refine norm_ (a' := ?_) ?_ ?_
                                    rotate_left
                                    · show Act.put _ (some 136) _ = _
                                      simp only [Act.put, List.setIfInBounds_toArray, List.set_cons_zero, List.set_cons_succ, i64_w, i32_w]
                                      rfl
                                    refine pure_ (i := 8) (N := some 137) (v := ?_) (a' := ?_) #[true, true, true, true, true, true, true, true, true, true, true, false, false] rfl rfl (any_of HT_.out (by kernel_rfl)) (fun _ _ _ h => h) (Or.inl ⟨by rfl, ?_⟩) ?_ ?_
                                    rotate_left
                                    · intro w'
                                      go_simp
                                      with_reducible rfl
                                    rotate_left
                                    · simp only [Act.put, List.setIfInBounds_toArray, List.set_cons_zero, List.set_cons_succ, i64_w, i32_w]
                                      rfl
                                    refine pure_ (i := 11) (N := some 140) (v := ?_) (a' := ?_) #[true, true, true, true, true, true, true, true, true, true, true, true, false] rfl rfl (any_of HT_.out (by kernel_rfl)) (fun _ _ _ h => h) (Or.inl ⟨by rfl, ?_⟩) ?_ ?_
                                    rotate_left
                                    · intro w'
                                      go_simp
                                      with_reducible rfl
                                    rotate_left
                                    · simp only [Act.put, List.setIfInBounds_toArray, List.set_cons_zero, List.set_cons_succ, i64_w, i32_w]
                                      rfl
                                    refine pure_ (i := 12) (N := some 141) (v := ?_) (a' := ?_) #[true, true, true, true, true, true, true, true, true, true, true, true, true] rfl rfl (any_of HT_.out (by kernel_rfl)) (fun _ _ _ h => h) (Or.inl ⟨by rfl, ?_⟩) ?_ ?_
                                    rotate_left
                                    · intro w'
                                      go_simp
                                      with_reducible rfl
                                    rotate_left
                                    · simp only [Act.put, List.setIfInBounds_toArray, List.set_cons_zero, List.set_cons_succ, i64_w, i32_w]
                                      rfl
                                    refine done_ (done_of HT_.out (by kernel_rfl)) ?_
                                    try go_wp2
                                    go_roundg kj25
                                    case measure => have := HJ2.out; have := HK2.out; have := HJ19.out; have := HJ21.out; have := HJ25.out; omega
                                    case rel => exact ⟨(wrap64 (x7_2 + 1)), (t190), (t191), (t192), (x136000_25), (x136001_25), (x136002_25), (by first | rfl | (simp; done) | (simp [*]; done)), H', ⟨by have := HJ2.out; have := HK2.out; have := HJ19.out; have := HJ21.out; have := HJ25.out; omega⟩, ⟨by (with_reducible repeat (first | refine blk_drewN ?_ _ | refine blk_drew ?_ | refine blk_alloc ?_ _)); exact BK135.out⟩, ⟨by repeat (first | (with_reducible first | exact HI134.out | apply IsS72.alloc | apply IsS72.drewN | apply IsS72.drew | apply IsS72.set_0 | apply IsS72.set_1 | apply IsS72.set_2 | refine IsS72.far ?_ NB134_135.out _) | exact HI134.out)⟩, ⟨by repeat (first | (with_reducible first | exact HB.out | apply below_alloc | apply pw_below_drewN | apply below_drew1 | refine below_set ?_ (IsS72.ge HI134.out) | refine below_set ?_ GE135.out) | exact HB.out)⟩⟩
                                · rw [if_neg c104] at H
                                  exact absurd H (by simp)
                          · rw [if_neg c25] at H
                            exact absurd H (by simp)
                        · rw [if_neg c24] at H
                          exact absurd H (by simp)
              · rw [if_neg c19] at H
                exact absurd H (by simp)
            · rw [if_neg c18] at H
              have c18b0 : decide (x7_2 < (l1.length : Int)) = false := decide_eq_false c18
              clear c18
              obtain rfl := Option.some.inj H
              go_wp2
              go_ret
              exact ⟨by first | rfl | (simp [errW_none, errW_some] <;> rfl) | (simp [*, errW_none, errW_some] <;> rfl), by repeat (first | (with_reducible first | exact HB.out | apply below_alloc | apply pw_below_drewN | apply below_drew1 | refine below_set ?_ (IsS72.ge HI134.out) | refine below_set ?_ GE135.out) | exact HB.out)⟩

def computuslaw25_LinescanMatchesReference.Pure : Prop := ∀ (a0 : ByteArray) (l1 : List (S46)), a0.size ≤ 140737488351232 → l1.length ≤ maxLen → (∀ x ∈ l1, wf46 x) → ∃ k, computuslaw25_LinescanMatchesReference.f k a0 l1 = some true

end Go.Proofs.Ytkpicinbckedoaa.Q
