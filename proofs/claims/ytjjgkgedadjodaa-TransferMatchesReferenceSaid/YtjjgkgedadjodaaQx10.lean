-- Written by wip/tool/qprint.py: the print of the kit, with hand-proved contracts put in. Lean checks it.
import Derived.Test.YtjjgkgedadjodaaQx0
import Derived.Test.YtjjgkgedadjodaaQx1
import Derived.Test.YtjjgkgedadjodaaQx3
import Derived.Test.YtjjgkgedadjodaaQx4
import Derived.Test.YtjjgkgedadjodaaQx5
import Derived.Test.YtjjgkgedadjodaaQx6
import Derived.Test.YtjjgkgedadjodaaQx7
import Derived.Test.YtjjgkgedadjodaaQx8
import Derived.Test.YtjjgkgedadjodaaQx9
import Derived.Test.YtjjgkgedadjodaaHAssign
namespace Go.Proofs.Ytjjgkgedadjodaa.Q
open Go.RowKit Go.Proofs.YtjjgkgedadjodaaW.PrintWords Go.Proofs.YtjjgkgedadjodaaW.PrintLast Go.Proofs.YtjjgkgedadjodaaW.PrintMore
attribute [local go_sem] max2_int min2_int max_two min_two max_three min_three max_four min_four   -- for this text's walks alone
set_option linter.unusedVariables false
set_option linter.unusedSimpArgs false

attribute [local go_sem high] eqA36
/-! ### computuslaw22_TransferMatchesReference: function 3 -/
mutual
def computuslaw22_TransferMatchesReference.j0 : Nat → List Bool → List (List Int) → Int → Bool → Option (Bool)
  | 0, _, _, _, _ => none
  | k + 1, x0, x1, x2, x27 => if x27 = true then ((computuslaw22_awake.f k).bind fun t223 => (some t223)) else ((transfer_Assign.f x0 x1).bind fun bt224 => ((computusref22_Assign.f k x0 x1).bind fun bt228 => ((computuslaw22_moves.f k bt224.1).bind fun t232 => ((computusref22_Same.f k t232 bt228.1).bind fun t235 => (if t235 = true then (computuslaw22_TransferMatchesReference.j1 k x0 x1 x2 bt224.1 bt228.1 bt228.2 (bt224.2 != bt228.2)) else (computuslaw22_TransferMatchesReference.j1 k x0 x1 x2 bt224.1 bt228.1 bt228.2 true))))))
def computuslaw22_TransferMatchesReference.j1 : Nat → List Bool → List (List Int) → Int → List (S36) → List (S39) → Int → Bool → Option (Bool)
  | 0, _, _, _, _, _, _, _ => none
  | k + 1, x0, x1, x2, x7, x9, x10, x50 => if x50 = true then (none) else ((transfer_Taken.f k x7 x2).bind fun bt236 => (computuslaw22_TransferMatchesReference.l0 k x0 x1 x2 x9 x10 bt236.2.2.2 false 0 bt236.1 bt236.2.1 bt236.2.2.1))
def computuslaw22_TransferMatchesReference.l0 : Nat → List Bool → List (List Int) → Int → List (S39) → Int → Bool → Bool → Int → Int → Int → Int → Option (Bool)
  | 0, _, _, _, _, _, _, _, _, _, _, _ => none
  | k + 1, x0, x1, x2, x9, x10, x12, x13, x14, x241000, x241001, x241002 => if x14 < (x9.length : Int) then (computuslaw22_TransferMatchesReference.j3 k x0 x1 x2 x9 x10 x12 x13 x14 (!x13) x241000 x241001 x241002) else (computuslaw22_TransferMatchesReference.j3 k x0 x1 x2 x9 x10 x12 x13 x14 false x241000 x241001 x241002)
def computuslaw22_TransferMatchesReference.j3 : Nat → List Bool → List (List Int) → Int → List (S39) → Int → Bool → Bool → Int → Bool → Int → Int → Int → Option (Bool)
  | 0, _, _, _, _, _, _, _, _, _, _, _, _ => none
  | k + 1, x0, x1, x2, x9, x10, x12, x13, x14, x64, x241000, x241001, x241002 => if x64 = true then (if 0 ≤ x14 then (if x14 < (x9.length : Int) then (if ((rd_T39 x9 x14).f2) = x2 then (if x12 = true then (if (!(x241000 == ((rd_T39 x9 x14).f0)) || (!(x241001 == ((rd_T39 x9 x14).f1)) || (!(x241002 == ((rd_T39 x9 x14).f2))))) = true then (none) else (computuslaw22_TransferMatchesReference.l0 k x0 x1 x2 x9 x10 x12 true (wrap64 (x14 + 1)) x241000 x241001 x241002)) else (none)) else (computuslaw22_TransferMatchesReference.l0 k x0 x1 x2 x9 x10 x12 x13 (wrap64 (x14 + 1)) x241000 x241001 x241002)) else (none)) else (none)) else (if x13 = true then (computuslaw22_TransferMatchesReference.j4 k x0 x1 x9 x10 false) else (if x12 = true then (computuslaw22_TransferMatchesReference.j4 k x0 x1 x9 x10 true) else (computuslaw22_TransferMatchesReference.j4 k x0 x1 x9 x10 (!(x241000 == 0) || (!(x241001 == 0) || (!(x241002 == 0)))))))
def computuslaw22_TransferMatchesReference.j4 : Nat → List Bool → List (List Int) → List (S39) → Int → Bool → Option (Bool)
  | 0, _, _, _, _, _ => none
  | k + 1, x0, x1, x9, x10, x105 => if x105 = true then (none) else (computuslaw22_TransferMatchesReference.l1 k x0 x1 x9 x10 (-1) 0)
def computuslaw22_TransferMatchesReference.l1 : Nat → List Bool → List (List Int) → List (S39) → Int → Int → Int → Option (Bool)
  | 0, _, _, _, _, _, _ => none
  | k + 1, x0, x1, x9, x10, x15, x16 => if x16 < (x1.length : Int) then (if 0 ≤ x16 then (if ((rd_L3 x1 x16).length : Int) > 0 then (computuslaw22_TransferMatchesReference.l1 k x0 x1 x9 x10 x16 (wrap64 (x16 + 1))) else (computuslaw22_TransferMatchesReference.l1 k x0 x1 x9 x10 x15 (wrap64 (x16 + 1)))) else (none)) else (computuslaw22_TransferMatchesReference.l2 k x0 x1 x9 x10 0 (wrap64 (x15 + 1)))
def computuslaw22_TransferMatchesReference.l2 : Nat → List Bool → List (List Int) → List (S39) → Int → Int → Int → Option (Bool)
  | 0, _, _, _, _, _, _ => none
  | k + 1, x0, x1, x9, x10, x17, x18 => if x18 < (x0.length : Int) then (computuslaw22_TransferMatchesReference.j7 k x0 x1 x9 x10 x17 x18 (x10 == 0)) else (computuslaw22_TransferMatchesReference.j7 k x0 x1 x9 x10 x17 x18 false)
def computuslaw22_TransferMatchesReference.j7 : Nat → List Bool → List (List Int) → List (S39) → Int → Int → Int → Bool → Option (Bool)
  | 0, _, _, _, _, _, _, _ => none
  | k + 1, x0, x1, x9, x10, x17, x18, x128 => if x128 = true then (if 0 ≤ x18 then (if x18 < (x0.length : Int) then (if rdOf false x0 x18 = true then (computuslaw22_TransferMatchesReference.j8 k x0 x1 x9 x10 (wrap64 (x17 + 1)) x18) else (computuslaw22_TransferMatchesReference.j8 k x0 x1 x9 x10 x17 x18)) else (none)) else (none)) else ((transfer_Room.f k x0 x1).bind fun t246 => (some (t246 == x17)))
def computuslaw22_TransferMatchesReference.j8 : Nat → List Bool → List (List Int) → List (S39) → Int → Int → Int → Option (Bool)
  | 0, _, _, _, _, _, _ => none
  | k + 1, x0, x1, x9, x10, x17, x18 => computuslaw22_TransferMatchesReference.l3 k x0 x1 x9 x10 x17 x18 0
def computuslaw22_TransferMatchesReference.l3 : Nat → List Bool → List (List Int) → List (S39) → Int → Int → Int → Int → Option (Bool)
  | 0, _, _, _, _, _, _, _ => none
  | k + 1, x0, x1, x9, x10, x17, x18, x19 => if x19 < (x9.length : Int) then (if 0 ≤ x19 then (if ((rd_T39 x9 x19).f2) = x18 then (computuslaw22_TransferMatchesReference.l3 k x0 x1 x9 x10 (wrap64 (x17 - 1)) x18 (wrap64 (x19 + 1))) else (computuslaw22_TransferMatchesReference.l3 k x0 x1 x9 x10 x17 x18 (wrap64 (x19 + 1)))) else (none)) else (computuslaw22_TransferMatchesReference.l2 k x0 x1 x9 x10 x17 (wrap64 (x18 + 1)))
end
def computuslaw22_TransferMatchesReference.f (k : Nat) (l0 : List Bool) (l1 : List (List Int)) (a2 : Int) : Option (Bool) := (computuslaw22_awake.f k).bind fun t221 => (if t221 = true then ((computusref22_Few.f k l0 l1).bind fun t222 => (computuslaw22_TransferMatchesReference.j0 k l0 l1 a2 (!t222))) else (computuslaw22_TransferMatchesReference.j0 k l0 l1 a2 true))
theorem computuslaw22_TransferMatchesReference.mono_l : ∀ k, (∀ y0 y1 y2 y3, LeO (computuslaw22_TransferMatchesReference.j0 k y0 y1 y2 y3) (computuslaw22_TransferMatchesReference.j0 (k + 1) y0 y1 y2 y3)) ∧ (∀ y0 y1 y2 y3 y4 y5 y6, LeO (computuslaw22_TransferMatchesReference.j1 k y0 y1 y2 y3 y4 y5 y6) (computuslaw22_TransferMatchesReference.j1 (k + 1) y0 y1 y2 y3 y4 y5 y6)) ∧ (∀ y0 y1 y2 y3 y4 y5 y6 y7 y8 y9 y10, LeO (computuslaw22_TransferMatchesReference.l0 k y0 y1 y2 y3 y4 y5 y6 y7 y8 y9 y10) (computuslaw22_TransferMatchesReference.l0 (k + 1) y0 y1 y2 y3 y4 y5 y6 y7 y8 y9 y10)) ∧ (∀ y0 y1 y2 y3 y4 y5 y6 y7 y8 y9 y10 y11, LeO (computuslaw22_TransferMatchesReference.j3 k y0 y1 y2 y3 y4 y5 y6 y7 y8 y9 y10 y11) (computuslaw22_TransferMatchesReference.j3 (k + 1) y0 y1 y2 y3 y4 y5 y6 y7 y8 y9 y10 y11)) ∧ (∀ y0 y1 y2 y3 y4, LeO (computuslaw22_TransferMatchesReference.j4 k y0 y1 y2 y3 y4) (computuslaw22_TransferMatchesReference.j4 (k + 1) y0 y1 y2 y3 y4)) ∧ (∀ y0 y1 y2 y3 y4 y5, LeO (computuslaw22_TransferMatchesReference.l1 k y0 y1 y2 y3 y4 y5) (computuslaw22_TransferMatchesReference.l1 (k + 1) y0 y1 y2 y3 y4 y5)) ∧ (∀ y0 y1 y2 y3 y4 y5, LeO (computuslaw22_TransferMatchesReference.l2 k y0 y1 y2 y3 y4 y5) (computuslaw22_TransferMatchesReference.l2 (k + 1) y0 y1 y2 y3 y4 y5)) ∧ (∀ y0 y1 y2 y3 y4 y5 y6, LeO (computuslaw22_TransferMatchesReference.j7 k y0 y1 y2 y3 y4 y5 y6) (computuslaw22_TransferMatchesReference.j7 (k + 1) y0 y1 y2 y3 y4 y5 y6)) ∧ (∀ y0 y1 y2 y3 y4 y5, LeO (computuslaw22_TransferMatchesReference.j8 k y0 y1 y2 y3 y4 y5) (computuslaw22_TransferMatchesReference.j8 (k + 1) y0 y1 y2 y3 y4 y5)) ∧ (∀ y0 y1 y2 y3 y4 y5 y6, LeO (computuslaw22_TransferMatchesReference.l3 k y0 y1 y2 y3 y4 y5 y6) (computuslaw22_TransferMatchesReference.l3 (k + 1) y0 y1 y2 y3 y4 y5 y6))
  | 0 => ⟨fun _ _ _ _ r h => by simp [computuslaw22_TransferMatchesReference.j0] at h, fun _ _ _ _ _ _ _ r h => by simp [computuslaw22_TransferMatchesReference.j1] at h, fun _ _ _ _ _ _ _ _ _ _ _ r h => by simp [computuslaw22_TransferMatchesReference.l0] at h, fun _ _ _ _ _ _ _ _ _ _ _ _ r h => by simp [computuslaw22_TransferMatchesReference.j3] at h, fun _ _ _ _ _ r h => by simp [computuslaw22_TransferMatchesReference.j4] at h, fun _ _ _ _ _ _ r h => by simp [computuslaw22_TransferMatchesReference.l1] at h, fun _ _ _ _ _ _ r h => by simp [computuslaw22_TransferMatchesReference.l2] at h, fun _ _ _ _ _ _ _ r h => by simp [computuslaw22_TransferMatchesReference.j7] at h, fun _ _ _ _ _ _ r h => by simp [computuslaw22_TransferMatchesReference.j8] at h, fun _ _ _ _ _ _ _ r h => by simp [computuslaw22_TransferMatchesReference.l3] at h⟩
  | k + 1 => by
    obtain ⟨ih0, ih1, ih2, ih3, ih4, ih5, ih6, ih7, ih8, ih9⟩ := computuslaw22_TransferMatchesReference.mono_l k
    refine ⟨?_, ?_, ?_, ?_, ?_, ?_, ?_, ?_, ?_, ?_⟩
    · intro y0 y1 y2 y3
      unfold computuslaw22_TransferMatchesReference.j0
      repeat' first
      | (with_reducible exact ih0 _ _ _ _)
      | (with_reducible exact ih1 _ _ _ _ _ _ _)
      | (with_reducible exact ih2 _ _ _ _ _ _ _ _ _ _ _)
      | (with_reducible exact ih3 _ _ _ _ _ _ _ _ _ _ _ _)
      | (with_reducible exact ih4 _ _ _ _ _)
      | (with_reducible exact ih5 _ _ _ _ _ _)
      | (with_reducible exact ih6 _ _ _ _ _ _)
      | (with_reducible exact ih7 _ _ _ _ _ _ _)
      | (with_reducible exact ih8 _ _ _ _ _ _)
      | (with_reducible exact ih9 _ _ _ _ _ _ _)
      | (with_reducible exact computuslaw22_awake.mono _)
      | (with_reducible exact computuslaw22_moves.mono _ _)
      | (with_reducible exact computusref22_Assign.mono _ _ _)
      | (with_reducible exact computusref22_Few.mono _ _ _)
      | (with_reducible exact computusref22_Same.mono _ _ _)
      | (with_reducible exact transfer_Room.mono _ _ _)
      | (with_reducible exact transfer_Taken.mono _ _ _)
      | (with_reducible exact LeO.refl _)
      | (with_reducible exact LeO.none _)
      | (with_reducible refine LeO.ite ?_ ?_)
      | (with_reducible refine LeO.bind ?_ (fun _ => ?_))
      | exact ih0 _ _ _ _
      | exact ih1 _ _ _ _ _ _ _
      | exact ih2 _ _ _ _ _ _ _ _ _ _ _
      | exact ih3 _ _ _ _ _ _ _ _ _ _ _ _
      | exact ih4 _ _ _ _ _
      | exact ih5 _ _ _ _ _ _
      | exact ih6 _ _ _ _ _ _
      | exact ih7 _ _ _ _ _ _ _
      | exact ih8 _ _ _ _ _ _
      | exact ih9 _ _ _ _ _ _ _
      | exact computuslaw22_awake.mono _
      | exact computuslaw22_moves.mono _ _
      | exact computusref22_Assign.mono _ _ _
      | exact computusref22_Few.mono _ _ _
      | exact computusref22_Same.mono _ _ _
      | exact transfer_Room.mono _ _ _
      | exact transfer_Taken.mono _ _ _
      | exact LeO.none _
      | refine LeO.ite ?_ ?_
      | refine LeO.bind ?_ (fun _ => ?_)
    · intro y0 y1 y2 y3 y4 y5 y6
      unfold computuslaw22_TransferMatchesReference.j1
      repeat' first
      | (with_reducible exact ih0 _ _ _ _)
      | (with_reducible exact ih1 _ _ _ _ _ _ _)
      | (with_reducible exact ih2 _ _ _ _ _ _ _ _ _ _ _)
      | (with_reducible exact ih3 _ _ _ _ _ _ _ _ _ _ _ _)
      | (with_reducible exact ih4 _ _ _ _ _)
      | (with_reducible exact ih5 _ _ _ _ _ _)
      | (with_reducible exact ih6 _ _ _ _ _ _)
      | (with_reducible exact ih7 _ _ _ _ _ _ _)
      | (with_reducible exact ih8 _ _ _ _ _ _)
      | (with_reducible exact ih9 _ _ _ _ _ _ _)
      | (with_reducible exact computuslaw22_awake.mono _)
      | (with_reducible exact computuslaw22_moves.mono _ _)
      | (with_reducible exact computusref22_Assign.mono _ _ _)
      | (with_reducible exact computusref22_Few.mono _ _ _)
      | (with_reducible exact computusref22_Same.mono _ _ _)
      | (with_reducible exact transfer_Room.mono _ _ _)
      | (with_reducible exact transfer_Taken.mono _ _ _)
      | (with_reducible exact LeO.refl _)
      | (with_reducible exact LeO.none _)
      | (with_reducible refine LeO.ite ?_ ?_)
      | (with_reducible refine LeO.bind ?_ (fun _ => ?_))
      | exact ih0 _ _ _ _
      | exact ih1 _ _ _ _ _ _ _
      | exact ih2 _ _ _ _ _ _ _ _ _ _ _
      | exact ih3 _ _ _ _ _ _ _ _ _ _ _ _
      | exact ih4 _ _ _ _ _
      | exact ih5 _ _ _ _ _ _
      | exact ih6 _ _ _ _ _ _
      | exact ih7 _ _ _ _ _ _ _
      | exact ih8 _ _ _ _ _ _
      | exact ih9 _ _ _ _ _ _ _
      | exact computuslaw22_awake.mono _
      | exact computuslaw22_moves.mono _ _
      | exact computusref22_Assign.mono _ _ _
      | exact computusref22_Few.mono _ _ _
      | exact computusref22_Same.mono _ _ _
      | exact transfer_Room.mono _ _ _
      | exact transfer_Taken.mono _ _ _
      | exact LeO.none _
      | refine LeO.ite ?_ ?_
      | refine LeO.bind ?_ (fun _ => ?_)
    · intro y0 y1 y2 y3 y4 y5 y6 y7 y8 y9 y10
      unfold computuslaw22_TransferMatchesReference.l0
      repeat' first
      | (with_reducible exact ih0 _ _ _ _)
      | (with_reducible exact ih1 _ _ _ _ _ _ _)
      | (with_reducible exact ih2 _ _ _ _ _ _ _ _ _ _ _)
      | (with_reducible exact ih3 _ _ _ _ _ _ _ _ _ _ _ _)
      | (with_reducible exact ih4 _ _ _ _ _)
      | (with_reducible exact ih5 _ _ _ _ _ _)
      | (with_reducible exact ih6 _ _ _ _ _ _)
      | (with_reducible exact ih7 _ _ _ _ _ _ _)
      | (with_reducible exact ih8 _ _ _ _ _ _)
      | (with_reducible exact ih9 _ _ _ _ _ _ _)
      | (with_reducible exact computuslaw22_awake.mono _)
      | (with_reducible exact computuslaw22_moves.mono _ _)
      | (with_reducible exact computusref22_Assign.mono _ _ _)
      | (with_reducible exact computusref22_Few.mono _ _ _)
      | (with_reducible exact computusref22_Same.mono _ _ _)
      | (with_reducible exact transfer_Room.mono _ _ _)
      | (with_reducible exact transfer_Taken.mono _ _ _)
      | (with_reducible exact LeO.refl _)
      | (with_reducible exact LeO.none _)
      | (with_reducible refine LeO.ite ?_ ?_)
      | (with_reducible refine LeO.bind ?_ (fun _ => ?_))
      | exact ih0 _ _ _ _
      | exact ih1 _ _ _ _ _ _ _
      | exact ih2 _ _ _ _ _ _ _ _ _ _ _
      | exact ih3 _ _ _ _ _ _ _ _ _ _ _ _
      | exact ih4 _ _ _ _ _
      | exact ih5 _ _ _ _ _ _
      | exact ih6 _ _ _ _ _ _
      | exact ih7 _ _ _ _ _ _ _
      | exact ih8 _ _ _ _ _ _
      | exact ih9 _ _ _ _ _ _ _
      | exact computuslaw22_awake.mono _
      | exact computuslaw22_moves.mono _ _
      | exact computusref22_Assign.mono _ _ _
      | exact computusref22_Few.mono _ _ _
      | exact computusref22_Same.mono _ _ _
      | exact transfer_Room.mono _ _ _
      | exact transfer_Taken.mono _ _ _
      | exact LeO.none _
      | refine LeO.ite ?_ ?_
      | refine LeO.bind ?_ (fun _ => ?_)
    · intro y0 y1 y2 y3 y4 y5 y6 y7 y8 y9 y10 y11
      unfold computuslaw22_TransferMatchesReference.j3
      repeat' first
      | (with_reducible exact ih0 _ _ _ _)
      | (with_reducible exact ih1 _ _ _ _ _ _ _)
      | (with_reducible exact ih2 _ _ _ _ _ _ _ _ _ _ _)
      | (with_reducible exact ih3 _ _ _ _ _ _ _ _ _ _ _ _)
      | (with_reducible exact ih4 _ _ _ _ _)
      | (with_reducible exact ih5 _ _ _ _ _ _)
      | (with_reducible exact ih6 _ _ _ _ _ _)
      | (with_reducible exact ih7 _ _ _ _ _ _ _)
      | (with_reducible exact ih8 _ _ _ _ _ _)
      | (with_reducible exact ih9 _ _ _ _ _ _ _)
      | (with_reducible exact computuslaw22_awake.mono _)
      | (with_reducible exact computuslaw22_moves.mono _ _)
      | (with_reducible exact computusref22_Assign.mono _ _ _)
      | (with_reducible exact computusref22_Few.mono _ _ _)
      | (with_reducible exact computusref22_Same.mono _ _ _)
      | (with_reducible exact transfer_Room.mono _ _ _)
      | (with_reducible exact transfer_Taken.mono _ _ _)
      | (with_reducible exact LeO.refl _)
      | (with_reducible exact LeO.none _)
      | (with_reducible refine LeO.ite ?_ ?_)
      | (with_reducible refine LeO.bind ?_ (fun _ => ?_))
      | exact ih0 _ _ _ _
      | exact ih1 _ _ _ _ _ _ _
      | exact ih2 _ _ _ _ _ _ _ _ _ _ _
      | exact ih3 _ _ _ _ _ _ _ _ _ _ _ _
      | exact ih4 _ _ _ _ _
      | exact ih5 _ _ _ _ _ _
      | exact ih6 _ _ _ _ _ _
      | exact ih7 _ _ _ _ _ _ _
      | exact ih8 _ _ _ _ _ _
      | exact ih9 _ _ _ _ _ _ _
      | exact computuslaw22_awake.mono _
      | exact computuslaw22_moves.mono _ _
      | exact computusref22_Assign.mono _ _ _
      | exact computusref22_Few.mono _ _ _
      | exact computusref22_Same.mono _ _ _
      | exact transfer_Room.mono _ _ _
      | exact transfer_Taken.mono _ _ _
      | exact LeO.none _
      | refine LeO.ite ?_ ?_
      | refine LeO.bind ?_ (fun _ => ?_)
    · intro y0 y1 y2 y3 y4
      unfold computuslaw22_TransferMatchesReference.j4
      repeat' first
      | (with_reducible exact ih0 _ _ _ _)
      | (with_reducible exact ih1 _ _ _ _ _ _ _)
      | (with_reducible exact ih2 _ _ _ _ _ _ _ _ _ _ _)
      | (with_reducible exact ih3 _ _ _ _ _ _ _ _ _ _ _ _)
      | (with_reducible exact ih4 _ _ _ _ _)
      | (with_reducible exact ih5 _ _ _ _ _ _)
      | (with_reducible exact ih6 _ _ _ _ _ _)
      | (with_reducible exact ih7 _ _ _ _ _ _ _)
      | (with_reducible exact ih8 _ _ _ _ _ _)
      | (with_reducible exact ih9 _ _ _ _ _ _ _)
      | (with_reducible exact computuslaw22_awake.mono _)
      | (with_reducible exact computuslaw22_moves.mono _ _)
      | (with_reducible exact computusref22_Assign.mono _ _ _)
      | (with_reducible exact computusref22_Few.mono _ _ _)
      | (with_reducible exact computusref22_Same.mono _ _ _)
      | (with_reducible exact transfer_Room.mono _ _ _)
      | (with_reducible exact transfer_Taken.mono _ _ _)
      | (with_reducible exact LeO.refl _)
      | (with_reducible exact LeO.none _)
      | (with_reducible refine LeO.ite ?_ ?_)
      | (with_reducible refine LeO.bind ?_ (fun _ => ?_))
      | exact ih0 _ _ _ _
      | exact ih1 _ _ _ _ _ _ _
      | exact ih2 _ _ _ _ _ _ _ _ _ _ _
      | exact ih3 _ _ _ _ _ _ _ _ _ _ _ _
      | exact ih4 _ _ _ _ _
      | exact ih5 _ _ _ _ _ _
      | exact ih6 _ _ _ _ _ _
      | exact ih7 _ _ _ _ _ _ _
      | exact ih8 _ _ _ _ _ _
      | exact ih9 _ _ _ _ _ _ _
      | exact computuslaw22_awake.mono _
      | exact computuslaw22_moves.mono _ _
      | exact computusref22_Assign.mono _ _ _
      | exact computusref22_Few.mono _ _ _
      | exact computusref22_Same.mono _ _ _
      | exact transfer_Room.mono _ _ _
      | exact transfer_Taken.mono _ _ _
      | exact LeO.none _
      | refine LeO.ite ?_ ?_
      | refine LeO.bind ?_ (fun _ => ?_)
    · intro y0 y1 y2 y3 y4 y5
      unfold computuslaw22_TransferMatchesReference.l1
      repeat' first
      | (with_reducible exact ih0 _ _ _ _)
      | (with_reducible exact ih1 _ _ _ _ _ _ _)
      | (with_reducible exact ih2 _ _ _ _ _ _ _ _ _ _ _)
      | (with_reducible exact ih3 _ _ _ _ _ _ _ _ _ _ _ _)
      | (with_reducible exact ih4 _ _ _ _ _)
      | (with_reducible exact ih5 _ _ _ _ _ _)
      | (with_reducible exact ih6 _ _ _ _ _ _)
      | (with_reducible exact ih7 _ _ _ _ _ _ _)
      | (with_reducible exact ih8 _ _ _ _ _ _)
      | (with_reducible exact ih9 _ _ _ _ _ _ _)
      | (with_reducible exact computuslaw22_awake.mono _)
      | (with_reducible exact computuslaw22_moves.mono _ _)
      | (with_reducible exact computusref22_Assign.mono _ _ _)
      | (with_reducible exact computusref22_Few.mono _ _ _)
      | (with_reducible exact computusref22_Same.mono _ _ _)
      | (with_reducible exact transfer_Room.mono _ _ _)
      | (with_reducible exact transfer_Taken.mono _ _ _)
      | (with_reducible exact LeO.refl _)
      | (with_reducible exact LeO.none _)
      | (with_reducible refine LeO.ite ?_ ?_)
      | (with_reducible refine LeO.bind ?_ (fun _ => ?_))
      | exact ih0 _ _ _ _
      | exact ih1 _ _ _ _ _ _ _
      | exact ih2 _ _ _ _ _ _ _ _ _ _ _
      | exact ih3 _ _ _ _ _ _ _ _ _ _ _ _
      | exact ih4 _ _ _ _ _
      | exact ih5 _ _ _ _ _ _
      | exact ih6 _ _ _ _ _ _
      | exact ih7 _ _ _ _ _ _ _
      | exact ih8 _ _ _ _ _ _
      | exact ih9 _ _ _ _ _ _ _
      | exact computuslaw22_awake.mono _
      | exact computuslaw22_moves.mono _ _
      | exact computusref22_Assign.mono _ _ _
      | exact computusref22_Few.mono _ _ _
      | exact computusref22_Same.mono _ _ _
      | exact transfer_Room.mono _ _ _
      | exact transfer_Taken.mono _ _ _
      | exact LeO.none _
      | refine LeO.ite ?_ ?_
      | refine LeO.bind ?_ (fun _ => ?_)
    · intro y0 y1 y2 y3 y4 y5
      unfold computuslaw22_TransferMatchesReference.l2
      repeat' first
      | (with_reducible exact ih0 _ _ _ _)
      | (with_reducible exact ih1 _ _ _ _ _ _ _)
      | (with_reducible exact ih2 _ _ _ _ _ _ _ _ _ _ _)
      | (with_reducible exact ih3 _ _ _ _ _ _ _ _ _ _ _ _)
      | (with_reducible exact ih4 _ _ _ _ _)
      | (with_reducible exact ih5 _ _ _ _ _ _)
      | (with_reducible exact ih6 _ _ _ _ _ _)
      | (with_reducible exact ih7 _ _ _ _ _ _ _)
      | (with_reducible exact ih8 _ _ _ _ _ _)
      | (with_reducible exact ih9 _ _ _ _ _ _ _)
      | (with_reducible exact computuslaw22_awake.mono _)
      | (with_reducible exact computuslaw22_moves.mono _ _)
      | (with_reducible exact computusref22_Assign.mono _ _ _)
      | (with_reducible exact computusref22_Few.mono _ _ _)
      | (with_reducible exact computusref22_Same.mono _ _ _)
      | (with_reducible exact transfer_Room.mono _ _ _)
      | (with_reducible exact transfer_Taken.mono _ _ _)
      | (with_reducible exact LeO.refl _)
      | (with_reducible exact LeO.none _)
      | (with_reducible refine LeO.ite ?_ ?_)
      | (with_reducible refine LeO.bind ?_ (fun _ => ?_))
      | exact ih0 _ _ _ _
      | exact ih1 _ _ _ _ _ _ _
      | exact ih2 _ _ _ _ _ _ _ _ _ _ _
      | exact ih3 _ _ _ _ _ _ _ _ _ _ _ _
      | exact ih4 _ _ _ _ _
      | exact ih5 _ _ _ _ _ _
      | exact ih6 _ _ _ _ _ _
      | exact ih7 _ _ _ _ _ _ _
      | exact ih8 _ _ _ _ _ _
      | exact ih9 _ _ _ _ _ _ _
      | exact computuslaw22_awake.mono _
      | exact computuslaw22_moves.mono _ _
      | exact computusref22_Assign.mono _ _ _
      | exact computusref22_Few.mono _ _ _
      | exact computusref22_Same.mono _ _ _
      | exact transfer_Room.mono _ _ _
      | exact transfer_Taken.mono _ _ _
      | exact LeO.none _
      | refine LeO.ite ?_ ?_
      | refine LeO.bind ?_ (fun _ => ?_)
    · intro y0 y1 y2 y3 y4 y5 y6
      unfold computuslaw22_TransferMatchesReference.j7
      repeat' first
      | (with_reducible exact ih0 _ _ _ _)
      | (with_reducible exact ih1 _ _ _ _ _ _ _)
      | (with_reducible exact ih2 _ _ _ _ _ _ _ _ _ _ _)
      | (with_reducible exact ih3 _ _ _ _ _ _ _ _ _ _ _ _)
      | (with_reducible exact ih4 _ _ _ _ _)
      | (with_reducible exact ih5 _ _ _ _ _ _)
      | (with_reducible exact ih6 _ _ _ _ _ _)
      | (with_reducible exact ih7 _ _ _ _ _ _ _)
      | (with_reducible exact ih8 _ _ _ _ _ _)
      | (with_reducible exact ih9 _ _ _ _ _ _ _)
      | (with_reducible exact computuslaw22_awake.mono _)
      | (with_reducible exact computuslaw22_moves.mono _ _)
      | (with_reducible exact computusref22_Assign.mono _ _ _)
      | (with_reducible exact computusref22_Few.mono _ _ _)
      | (with_reducible exact computusref22_Same.mono _ _ _)
      | (with_reducible exact transfer_Room.mono _ _ _)
      | (with_reducible exact transfer_Taken.mono _ _ _)
      | (with_reducible exact LeO.refl _)
      | (with_reducible exact LeO.none _)
      | (with_reducible refine LeO.ite ?_ ?_)
      | (with_reducible refine LeO.bind ?_ (fun _ => ?_))
      | exact ih0 _ _ _ _
      | exact ih1 _ _ _ _ _ _ _
      | exact ih2 _ _ _ _ _ _ _ _ _ _ _
      | exact ih3 _ _ _ _ _ _ _ _ _ _ _ _
      | exact ih4 _ _ _ _ _
      | exact ih5 _ _ _ _ _ _
      | exact ih6 _ _ _ _ _ _
      | exact ih7 _ _ _ _ _ _ _
      | exact ih8 _ _ _ _ _ _
      | exact ih9 _ _ _ _ _ _ _
      | exact computuslaw22_awake.mono _
      | exact computuslaw22_moves.mono _ _
      | exact computusref22_Assign.mono _ _ _
      | exact computusref22_Few.mono _ _ _
      | exact computusref22_Same.mono _ _ _
      | exact transfer_Room.mono _ _ _
      | exact transfer_Taken.mono _ _ _
      | exact LeO.none _
      | refine LeO.ite ?_ ?_
      | refine LeO.bind ?_ (fun _ => ?_)
    · intro y0 y1 y2 y3 y4 y5
      unfold computuslaw22_TransferMatchesReference.j8
      repeat' first
      | (with_reducible exact ih0 _ _ _ _)
      | (with_reducible exact ih1 _ _ _ _ _ _ _)
      | (with_reducible exact ih2 _ _ _ _ _ _ _ _ _ _ _)
      | (with_reducible exact ih3 _ _ _ _ _ _ _ _ _ _ _ _)
      | (with_reducible exact ih4 _ _ _ _ _)
      | (with_reducible exact ih5 _ _ _ _ _ _)
      | (with_reducible exact ih6 _ _ _ _ _ _)
      | (with_reducible exact ih7 _ _ _ _ _ _ _)
      | (with_reducible exact ih8 _ _ _ _ _ _)
      | (with_reducible exact ih9 _ _ _ _ _ _ _)
      | (with_reducible exact computuslaw22_awake.mono _)
      | (with_reducible exact computuslaw22_moves.mono _ _)
      | (with_reducible exact computusref22_Assign.mono _ _ _)
      | (with_reducible exact computusref22_Few.mono _ _ _)
      | (with_reducible exact computusref22_Same.mono _ _ _)
      | (with_reducible exact transfer_Room.mono _ _ _)
      | (with_reducible exact transfer_Taken.mono _ _ _)
      | (with_reducible exact LeO.refl _)
      | (with_reducible exact LeO.none _)
      | (with_reducible refine LeO.ite ?_ ?_)
      | (with_reducible refine LeO.bind ?_ (fun _ => ?_))
      | exact ih0 _ _ _ _
      | exact ih1 _ _ _ _ _ _ _
      | exact ih2 _ _ _ _ _ _ _ _ _ _ _
      | exact ih3 _ _ _ _ _ _ _ _ _ _ _ _
      | exact ih4 _ _ _ _ _
      | exact ih5 _ _ _ _ _ _
      | exact ih6 _ _ _ _ _ _
      | exact ih7 _ _ _ _ _ _ _
      | exact ih8 _ _ _ _ _ _
      | exact ih9 _ _ _ _ _ _ _
      | exact computuslaw22_awake.mono _
      | exact computuslaw22_moves.mono _ _
      | exact computusref22_Assign.mono _ _ _
      | exact computusref22_Few.mono _ _ _
      | exact computusref22_Same.mono _ _ _
      | exact transfer_Room.mono _ _ _
      | exact transfer_Taken.mono _ _ _
      | exact LeO.none _
      | refine LeO.ite ?_ ?_
      | refine LeO.bind ?_ (fun _ => ?_)
    · intro y0 y1 y2 y3 y4 y5 y6
      unfold computuslaw22_TransferMatchesReference.l3
      repeat' first
      | (with_reducible exact ih0 _ _ _ _)
      | (with_reducible exact ih1 _ _ _ _ _ _ _)
      | (with_reducible exact ih2 _ _ _ _ _ _ _ _ _ _ _)
      | (with_reducible exact ih3 _ _ _ _ _ _ _ _ _ _ _ _)
      | (with_reducible exact ih4 _ _ _ _ _)
      | (with_reducible exact ih5 _ _ _ _ _ _)
      | (with_reducible exact ih6 _ _ _ _ _ _)
      | (with_reducible exact ih7 _ _ _ _ _ _ _)
      | (with_reducible exact ih8 _ _ _ _ _ _)
      | (with_reducible exact ih9 _ _ _ _ _ _ _)
      | (with_reducible exact computuslaw22_awake.mono _)
      | (with_reducible exact computuslaw22_moves.mono _ _)
      | (with_reducible exact computusref22_Assign.mono _ _ _)
      | (with_reducible exact computusref22_Few.mono _ _ _)
      | (with_reducible exact computusref22_Same.mono _ _ _)
      | (with_reducible exact transfer_Room.mono _ _ _)
      | (with_reducible exact transfer_Taken.mono _ _ _)
      | (with_reducible exact LeO.refl _)
      | (with_reducible exact LeO.none _)
      | (with_reducible refine LeO.ite ?_ ?_)
      | (with_reducible refine LeO.bind ?_ (fun _ => ?_))
      | exact ih0 _ _ _ _
      | exact ih1 _ _ _ _ _ _ _
      | exact ih2 _ _ _ _ _ _ _ _ _ _ _
      | exact ih3 _ _ _ _ _ _ _ _ _ _ _ _
      | exact ih4 _ _ _ _ _
      | exact ih5 _ _ _ _ _ _
      | exact ih6 _ _ _ _ _ _
      | exact ih7 _ _ _ _ _ _ _
      | exact ih8 _ _ _ _ _ _
      | exact ih9 _ _ _ _ _ _ _
      | exact computuslaw22_awake.mono _
      | exact computuslaw22_moves.mono _ _
      | exact computusref22_Assign.mono _ _ _
      | exact computusref22_Few.mono _ _ _
      | exact computusref22_Same.mono _ _ _
      | exact transfer_Room.mono _ _ _
      | exact transfer_Taken.mono _ _ _
      | exact LeO.none _
      | refine LeO.ite ?_ ?_
      | refine LeO.bind ?_ (fun _ => ?_)
theorem computuslaw22_TransferMatchesReference.mono : ∀ a0 a1 a2 k, LeO (computuslaw22_TransferMatchesReference.f k a0 a1 a2) (computuslaw22_TransferMatchesReference.f (k + 1) a0 a1 a2) := by
  intro a0 a1 a2 k
  obtain ⟨ih0, ih1, ih2, ih3, ih4, ih5, ih6, ih7, ih8, ih9⟩ := computuslaw22_TransferMatchesReference.mono_l k
  unfold computuslaw22_TransferMatchesReference.f
  repeat' first
      | (with_reducible exact ih0 _ _ _ _)
      | (with_reducible exact ih1 _ _ _ _ _ _ _)
      | (with_reducible exact ih2 _ _ _ _ _ _ _ _ _ _ _)
      | (with_reducible exact ih3 _ _ _ _ _ _ _ _ _ _ _ _)
      | (with_reducible exact ih4 _ _ _ _ _)
      | (with_reducible exact ih5 _ _ _ _ _ _)
      | (with_reducible exact ih6 _ _ _ _ _ _)
      | (with_reducible exact ih7 _ _ _ _ _ _ _)
      | (with_reducible exact ih8 _ _ _ _ _ _)
      | (with_reducible exact ih9 _ _ _ _ _ _ _)
      | (with_reducible exact computuslaw22_awake.mono _)
      | (with_reducible exact computuslaw22_moves.mono _ _)
      | (with_reducible exact computusref22_Assign.mono _ _ _)
      | (with_reducible exact computusref22_Few.mono _ _ _)
      | (with_reducible exact computusref22_Same.mono _ _ _)
      | (with_reducible exact transfer_Room.mono _ _ _)
      | (with_reducible exact transfer_Taken.mono _ _ _)
      | (with_reducible exact LeO.refl _)
      | (with_reducible exact LeO.none _)
      | (with_reducible refine LeO.ite ?_ ?_)
      | (with_reducible refine LeO.bind ?_ (fun _ => ?_))
      | exact ih0 _ _ _ _
      | exact ih1 _ _ _ _ _ _ _
      | exact ih2 _ _ _ _ _ _ _ _ _ _ _
      | exact ih3 _ _ _ _ _ _ _ _ _ _ _ _
      | exact ih4 _ _ _ _ _
      | exact ih5 _ _ _ _ _ _
      | exact ih6 _ _ _ _ _ _
      | exact ih7 _ _ _ _ _ _ _
      | exact ih8 _ _ _ _ _ _
      | exact ih9 _ _ _ _ _ _ _
      | exact computuslaw22_awake.mono _
      | exact computuslaw22_moves.mono _ _
      | exact computusref22_Assign.mono _ _ _
      | exact computusref22_Few.mono _ _ _
      | exact computusref22_Same.mono _ _ _
      | exact transfer_Room.mono _ _ _
      | exact transfer_Taken.mono _ _ _
      | exact LeO.none _
      | refine LeO.ite ?_ ?_
      | refine LeO.bind ?_ (fun _ => ?_)
set_option maxHeartbeats 8000000 in
set_option maxRecDepth 100000 in
theorem computuslaw22_TransferMatchesReference.calls (k : Nat) (A0 : Option Addr) (c0 : Nat) (l0 : List Bool) (A1 : Option Addr) (c1 : Nat) (l1 : List (List Int)) (a2 : Int) (r : Bool) (w : World) (hr0 : Kd.C Kd.bool w A0 l0.length l0) (hc0 : l0.length ≤ c0) (hr1 : Kd.C (Kd.slice 3 (Kd.int .i64)) w A1 l1.length l1) (hc1 : l1.length ≤ c1) (h : computuslaw22_TransferMatchesReference.f k l0 l1 a2 = some r) :
    Calls Try.prog 3 #[.slice A0 l0.length c0, .slice A1 l1.length c1, .int .i64 a2] w fun e w' => e = .returned (.bool r) ∧ Below w.heap.size w w' := by
  have hu36 := Try.underlying36
  have HR0 := Aside0.mk hr0
  have HC0 := Aside0.mk hc0
  clear hr0 hc0
  have HR1 := Aside0.mk hr1
  have HC1 := Aside0.mk hc1
  clear hr1 hc1
  have HB := Aside0.mk (Below.refl w.heap.size w)
  have H : ((computuslaw22_awake.f k).bind fun t221 => (if t221 = true then ((computusref22_Few.f k l0 l1).bind fun t222 => (computuslaw22_TransferMatchesReference.j0 k l0 l1 a2 (!t222))) else (computuslaw22_TransferMatchesReference.j0 k l0 l1 a2 true))) = some r := h
  clear h
  have HC4 := Aside0.mk H
  clear H
  go_enter Try.func3, Try.ntmps3
  go_upto_region 1 with (fail)
  repeat (go_quiet (fail); go_upto_region 1 with (fail))
  go_cut [27] (fun v27 wc => ∃ (kq : Nat) (x27_3 : Bool), v27 = .bool x27_3 ∧ Aside0 (computuslaw22_TransferMatchesReference.j0 kq l0 l1 a2 x27_3 = some r) ∧ Aside0 (kq ≤ k) ∧ Aside0 (Below w.heap.size w wc))
  case first =>
    have H := HC4.out
    clear HC4
    replace H := Option.bind_eq_some_iff.mp H
    obtain ⟨t221, A50, H⟩ := H
    replace H : (if t221 = true then ((computusref22_Few.f k l0 l1).bind fun t222 => (computuslaw22_TransferMatchesReference.j0 k l0 l1 a2 (!t222))) else (computuslaw22_TransferMatchesReference.j0 k l0 l1 a2 true)) = some r := H
    have A5 := Aside0.mk A50
    clear A50
    by_cases c6 : t221 = true
    · subst c6
      have H1 : ((computusref22_Few.f k l0 l1).bind fun t222 => (computuslaw22_TransferMatchesReference.j0 k l0 l1 a2 (!t222))) = some r := by rw [if_pos rfl] at H; exact H
      clear H
      have H := H1
      clear H1
      replace H := Option.bind_eq_some_iff.mp H
      obtain ⟨t222, A70, H⟩ := H
      replace H : (computuslaw22_TransferMatchesReference.j0 k l0 l1 a2 (!t222)) = some r := H
      have A7 := Aside0.mk A70
      clear A70
      have H' := Aside0.mk H
      clear H
      go_wp2_with (first | (go_at_call 9; (with_reducible refine (computuslaw22_awake.calls k  true _ A5.out).mono ?_); rintro e w8 ⟨rfl, hb⟩; have n0_ := Aside0.mk (below_step (by repeat (first | (with_reducible first | exact HB.out | apply below_alloc | apply pw_below_drewN | apply below_drew1) | exact HB.out)) hb); clear HB; have HB := n0_; clear n0_; (try clear hb); (try clear hb2); (try clear hk); (try clear hi)) | (go_at_call 10; (with_reducible refine (computusref22_Few.calls k _ _ l0 _ _ l1 t222 _ ?side1 ?side2 ?side3 ?side4 A7.out).mono ?_); (case side1 => repeat (first | exact (Kd.C_below HR0.out HB.out) | (with_reducible refine Kd.C_alloc ?_ _) | (with_reducible refine Kd.C_drewN ?_ _) | (with_reducible refine Kd.C_drew ?_))); (case side2 => exact HC0.out); (case side3 => repeat (first | exact (Kd.C_below HR1.out HB.out) | (with_reducible refine Kd.C_alloc ?_ _) | (with_reducible refine Kd.C_drewN ?_ _) | (with_reducible refine Kd.C_drew ?_))); (case side4 => exact HC1.out); rintro e w' ⟨rfl, ⟨nd, rfl⟩⟩; (try first | exact ⟨rfl, _, World.drewN_drewN _ _ _⟩ | exact ⟨rfl, _, Eq.trans (World.drewN_drewN _ _ _) (congrArg (World.drewN _) (Nat.add_assoc _ _ _))⟩)))
      repeat (go_quiet (first | (go_at_call 9; (with_reducible refine (computuslaw22_awake.calls k  true _ A5.out).mono ?_); rintro e w8 ⟨rfl, hb⟩; have n0_ := Aside0.mk (below_step (by repeat (first | (with_reducible first | exact HB.out | apply below_alloc | apply pw_below_drewN | apply below_drew1) | exact HB.out)) hb); clear HB; have HB := n0_; clear n0_; (try clear hb); (try clear hb2); (try clear hk); (try clear hi)) | (go_at_call 10; (with_reducible refine (computusref22_Few.calls k _ _ l0 _ _ l1 t222 _ ?side1 ?side2 ?side3 ?side4 A7.out).mono ?_); (case side1 => repeat (first | exact (Kd.C_below HR0.out HB.out) | (with_reducible refine Kd.C_alloc ?_ _) | (with_reducible refine Kd.C_drewN ?_ _) | (with_reducible refine Kd.C_drew ?_))); (case side2 => exact HC0.out); (case side3 => repeat (first | exact (Kd.C_below HR1.out HB.out) | (with_reducible refine Kd.C_alloc ?_ _) | (with_reducible refine Kd.C_drewN ?_ _) | (with_reducible refine Kd.C_drew ?_))); (case side4 => exact HC1.out); rintro e w' ⟨rfl, ⟨nd, rfl⟩⟩; (try first | exact ⟨rfl, _, World.drewN_drewN _ _ _⟩ | exact ⟨rfl, _, Eq.trans (World.drewN_drewN _ _ _) (congrArg (World.drewN _) (Nat.add_assoc _ _ _))⟩))); try go_wp2_with (first | (go_at_call 9; (with_reducible refine (computuslaw22_awake.calls k  true _ A5.out).mono ?_); rintro e w8 ⟨rfl, hb⟩; have n0_ := Aside0.mk (below_step (by repeat (first | (with_reducible first | exact HB.out | apply below_alloc | apply pw_below_drewN | apply below_drew1) | exact HB.out)) hb); clear HB; have HB := n0_; clear n0_; (try clear hb); (try clear hb2); (try clear hk); (try clear hi)) | (go_at_call 10; (with_reducible refine (computusref22_Few.calls k _ _ l0 _ _ l1 t222 _ ?side1 ?side2 ?side3 ?side4 A7.out).mono ?_); (case side1 => repeat (first | exact (Kd.C_below HR0.out HB.out) | (with_reducible refine Kd.C_alloc ?_ _) | (with_reducible refine Kd.C_drewN ?_ _) | (with_reducible refine Kd.C_drew ?_))); (case side2 => exact HC0.out); (case side3 => repeat (first | exact (Kd.C_below HR1.out HB.out) | (with_reducible refine Kd.C_alloc ?_ _) | (with_reducible refine Kd.C_drewN ?_ _) | (with_reducible refine Kd.C_drew ?_))); (case side4 => exact HC1.out); rintro e w' ⟨rfl, ⟨nd, rfl⟩⟩; (try first | exact ⟨rfl, _, World.drewN_drewN _ _ _⟩ | exact ⟨rfl, _, Eq.trans (World.drewN_drewN _ _ _) (congrArg (World.drewN _) (Nat.add_assoc _ _ _))⟩))))
      go_meet
      case rel => exact ⟨_, (!t222), (by first | rfl | (simp; done) | (simp [*]; done)), H', ⟨by first | omega | exact Nat.le_refl _⟩, ⟨by repeat (first | (with_reducible first | exact HB.out | apply below_alloc | apply pw_below_drewN | apply below_drew1) | exact HB.out)⟩⟩
    · replace c6 := Bool.eq_false_iff.mpr c6
      subst c6
      have H1 : (computuslaw22_TransferMatchesReference.j0 k l0 l1 a2 true) = some r := by rw [if_neg (show ¬ (false = true) by decide)] at H; exact H
      clear H
      have H := H1
      clear H1
      have H' := Aside0.mk H
      clear H
      go_wp2_with (first | (go_at_call 9; (with_reducible refine (computuslaw22_awake.calls k  false _ A5.out).mono ?_); rintro e w9 ⟨rfl, hb⟩; have n0_ := Aside0.mk (below_step (by repeat (first | (with_reducible first | exact HB.out | apply below_alloc | apply pw_below_drewN | apply below_drew1) | exact HB.out)) hb); clear HB; have HB := n0_; clear n0_; (try clear hb); (try clear hb2); (try clear hk); (try clear hi)))
      repeat (go_quiet (first | (go_at_call 9; (with_reducible refine (computuslaw22_awake.calls k  false _ A5.out).mono ?_); rintro e w9 ⟨rfl, hb⟩; have n0_ := Aside0.mk (below_step (by repeat (first | (with_reducible first | exact HB.out | apply below_alloc | apply pw_below_drewN | apply below_drew1) | exact HB.out)) hb); clear HB; have HB := n0_; clear n0_; (try clear hb); (try clear hb2); (try clear hk); (try clear hi))); try go_wp2_with (first | (go_at_call 9; (with_reducible refine (computuslaw22_awake.calls k  false _ A5.out).mono ?_); rintro e w9 ⟨rfl, hb⟩; have n0_ := Aside0.mk (below_step (by repeat (first | (with_reducible first | exact HB.out | apply below_alloc | apply pw_below_drewN | apply below_drew1) | exact HB.out)) hb); clear HB; have HB := n0_; clear n0_; (try clear hb); (try clear hb2); (try clear hk); (try clear hi))))
      go_meet
      case rel => exact ⟨_, (true), (by first | rfl | (simp; done) | (simp [*]; done)), H', ⟨by first | omega | exact Nat.le_refl _⟩, ⟨by repeat (first | (with_reducible first | exact HB.out | apply below_alloc | apply pw_below_drewN | apply below_drew1) | exact HB.out)⟩⟩
  case rest =>
    clear HC4
    try clear c1
    try clear p2
    try clear c3
    try clear c6
    obtain ⟨kq, x27_3, rfl, HA, HJ3, HB⟩ := hcut
    cases kq with
    | zero => exact absurd HA.out (by simp [computuslaw22_TransferMatchesReference.j0])
    | succ kj3 =>
      have H := HA.out
      clear HA
      simp only [computuslaw22_TransferMatchesReference.j0] at H
      by_cases c10 : x27_3 = true
      · subst c10
        have H1 : ((computuslaw22_awake.f kj3).bind fun t223 => (some t223)) = some r := by rw [if_pos rfl] at H; exact H
        clear H
        have H := H1
        clear H1
        replace H := Option.bind_eq_some_iff.mp H
        obtain ⟨t223, A110, H⟩ := H
        replace H : (some t223) = some r := H
        have A11 := Aside0.mk A110
        clear A110
        obtain rfl := Option.some.inj H
        go_wp2_with (first | (go_at_call 9; (with_reducible refine (computuslaw22_awake.calls kj3  t223 _ A11.out).mono ?_); rintro e w12 ⟨rfl, hb⟩; have n0_ := Aside0.mk (below_step (by repeat (first | (with_reducible first | exact HB.out | apply below_alloc | apply pw_below_drewN | apply below_drew1) | exact HB.out)) hb); clear HB; have HB := n0_; clear n0_; (try clear hb); (try clear hb2); (try clear hk); (try clear hi)))
        repeat (go_quiet (first | (go_at_call 9; (with_reducible refine (computuslaw22_awake.calls kj3  t223 _ A11.out).mono ?_); rintro e w12 ⟨rfl, hb⟩; have n0_ := Aside0.mk (below_step (by repeat (first | (with_reducible first | exact HB.out | apply below_alloc | apply pw_below_drewN | apply below_drew1) | exact HB.out)) hb); clear HB; have HB := n0_; clear n0_; (try clear hb); (try clear hb2); (try clear hk); (try clear hi))); try go_wp2_with (first | (go_at_call 9; (with_reducible refine (computuslaw22_awake.calls kj3  t223 _ A11.out).mono ?_); rintro e w12 ⟨rfl, hb⟩; have n0_ := Aside0.mk (below_step (by repeat (first | (with_reducible first | exact HB.out | apply below_alloc | apply pw_below_drewN | apply below_drew1) | exact HB.out)) hb); clear HB; have HB := n0_; clear n0_; (try clear hb); (try clear hb2); (try clear hk); (try clear hi))))
        go_ret
        exact ⟨by first | rfl | (simp [errW_none, errW_some] <;> rfl) | (simp [*, errW_none, errW_some] <;> rfl), by repeat (first | (with_reducible first | exact HB.out | apply below_alloc | apply pw_below_drewN | apply below_drew1) | exact HB.out)⟩
      · replace c10 := Bool.eq_false_iff.mpr c10
        subst c10
        have H1 : ((transfer_Assign.f l0 l1).bind fun bt224 => ((computusref22_Assign.f kj3 l0 l1).bind fun bt228 => ((computuslaw22_moves.f kj3 bt224.1).bind fun t232 => ((computusref22_Same.f kj3 t232 bt228.1).bind fun t235 => (if t235 = true then (computuslaw22_TransferMatchesReference.j1 kj3 l0 l1 a2 bt224.1 bt228.1 bt228.2 (bt224.2 != bt228.2)) else (computuslaw22_TransferMatchesReference.j1 kj3 l0 l1 a2 bt224.1 bt228.1 bt228.2 true)))))) = some r := by rw [if_neg (show ¬ (false = true) by decide)] at H; exact H
        clear H
        have H := H1
        clear H1
        replace H := Option.bind_eq_some_iff.mp H
        obtain ⟨⟨t224, t225⟩, A130, H⟩ := H
        replace H : ((computusref22_Assign.f kj3 l0 l1).bind fun bt228 => ((computuslaw22_moves.f kj3 t224).bind fun t232 => ((computusref22_Same.f kj3 t232 bt228.1).bind fun t235 => (if t235 = true then (computuslaw22_TransferMatchesReference.j1 kj3 l0 l1 a2 t224 bt228.1 bt228.2 (t225 != bt228.2)) else (computuslaw22_TransferMatchesReference.j1 kj3 l0 l1 a2 t224 bt228.1 bt228.2 true))))) = some r := H
        have A13 := Aside0.mk A130
        clear A130
        replace H := Option.bind_eq_some_iff.mp H
        obtain ⟨⟨t228, t229⟩, A140, H⟩ := H
        replace H : ((computuslaw22_moves.f kj3 t224).bind fun t232 => ((computusref22_Same.f kj3 t232 t228).bind fun t235 => (if t235 = true then (computuslaw22_TransferMatchesReference.j1 kj3 l0 l1 a2 t224 t228 t229 (t225 != t229)) else (computuslaw22_TransferMatchesReference.j1 kj3 l0 l1 a2 t224 t228 t229 true)))) = some r := H
        have A14 := Aside0.mk A140
        clear A140
        have HC15 := Aside0.mk H
        clear H
        go_upto_region 5 with (first | (go_at_call 11; (with_reducible refine (transfer_Assign.calls _ _ l0 _ _ l1 t224 t225 _ ?side1 ?side2 ?side3 ?side4 A13.out).mono ?_); (case side1 => repeat (first | exact (Kd.C_below HR0.out HB.out) | (with_reducible refine Kd.C_alloc ?_ _) | (with_reducible refine Kd.C_drewN ?_ _) | (with_reducible refine Kd.C_drew ?_))); (case side2 => exact HC0.out); (case side3 => repeat (first | exact (Kd.C_below HR1.out HB.out) | (with_reducible refine Kd.C_alloc ?_ _) | (with_reducible refine Kd.C_drewN ?_ _) | (with_reducible refine Kd.C_drew ?_))); (case side4 => exact HC1.out); rintro e w16 ⟨v226, rfl, ho0, hb⟩; have n0_ := Aside0.mk (Kd.R_lower ho0 (below_size (by repeat (first | (with_reducible first | exact HB.out | apply below_alloc | apply pw_below_drewN | apply below_drew1) | exact HB.out)))); have n1_ := Aside0.mk (below_step (by repeat (first | (with_reducible first | exact HB.out | apply below_alloc | apply pw_below_drewN | apply below_drew1) | exact HB.out)) hb); clear HB; have HO227 := n0_; have HB := n1_; clear n0_ n1_; (try clear hb); (try clear hb2); (try clear hk); (try clear hi); (try clear ho0)) | (go_at_call 12; (with_reducible refine (computusref22_Assign.calls kj3 _ _ l0 _ _ l1 t228 t229 _ ?side1 ?side2 ?side3 ?side4 A14.out).mono ?_); (case side1 => repeat (first | exact (Kd.C_below HR0.out HB.out) | (with_reducible refine Kd.C_alloc ?_ _) | (with_reducible refine Kd.C_drewN ?_ _) | (with_reducible refine Kd.C_drew ?_))); (case side2 => exact HC0.out); (case side3 => repeat (first | exact (Kd.C_below HR1.out HB.out) | (with_reducible refine Kd.C_alloc ?_ _) | (with_reducible refine Kd.C_drewN ?_ _) | (with_reducible refine Kd.C_drew ?_))); (case side4 => exact HC1.out); rintro e w17 ⟨v230, rfl, ho0, hb⟩; have n0_ := Aside0.mk (Kd.R_below (by (with_reducible repeat (first | apply Kd.R_alloc | apply Kd.R_drewN | apply Kd.R_drew)); exact HO227.out) hb); have n1_ := Aside0.mk (Kd.R_lower ho0 (below_size (by repeat (first | (with_reducible first | exact HB.out | apply below_alloc | apply pw_below_drewN | apply below_drew1) | exact HB.out)))); have n2_ := Aside0.mk (below_step (by repeat (first | (with_reducible first | exact HB.out | apply below_alloc | apply pw_below_drewN | apply below_drew1) | exact HB.out)) hb); clear HO227; clear HB; have HO227 := n0_; have HO231 := n1_; have HB := n2_; clear n0_ n1_ n2_; (try clear hb); (try clear hb2); (try clear hk); (try clear hi); (try clear ho0)))
        repeat (go_quiet (first | (go_at_call 11; (with_reducible refine (transfer_Assign.calls _ _ l0 _ _ l1 t224 t225 _ ?side1 ?side2 ?side3 ?side4 A13.out).mono ?_); (case side1 => repeat (first | exact (Kd.C_below HR0.out HB.out) | (with_reducible refine Kd.C_alloc ?_ _) | (with_reducible refine Kd.C_drewN ?_ _) | (with_reducible refine Kd.C_drew ?_))); (case side2 => exact HC0.out); (case side3 => repeat (first | exact (Kd.C_below HR1.out HB.out) | (with_reducible refine Kd.C_alloc ?_ _) | (with_reducible refine Kd.C_drewN ?_ _) | (with_reducible refine Kd.C_drew ?_))); (case side4 => exact HC1.out); rintro e w16 ⟨v226, rfl, ho0, hb⟩; have n0_ := Aside0.mk (Kd.R_lower ho0 (below_size (by repeat (first | (with_reducible first | exact HB.out | apply below_alloc | apply pw_below_drewN | apply below_drew1) | exact HB.out)))); have n1_ := Aside0.mk (below_step (by repeat (first | (with_reducible first | exact HB.out | apply below_alloc | apply pw_below_drewN | apply below_drew1) | exact HB.out)) hb); clear HB; have HO227 := n0_; have HB := n1_; clear n0_ n1_; (try clear hb); (try clear hb2); (try clear hk); (try clear hi); (try clear ho0)) | (go_at_call 12; (with_reducible refine (computusref22_Assign.calls kj3 _ _ l0 _ _ l1 t228 t229 _ ?side1 ?side2 ?side3 ?side4 A14.out).mono ?_); (case side1 => repeat (first | exact (Kd.C_below HR0.out HB.out) | (with_reducible refine Kd.C_alloc ?_ _) | (with_reducible refine Kd.C_drewN ?_ _) | (with_reducible refine Kd.C_drew ?_))); (case side2 => exact HC0.out); (case side3 => repeat (first | exact (Kd.C_below HR1.out HB.out) | (with_reducible refine Kd.C_alloc ?_ _) | (with_reducible refine Kd.C_drewN ?_ _) | (with_reducible refine Kd.C_drew ?_))); (case side4 => exact HC1.out); rintro e w17 ⟨v230, rfl, ho0, hb⟩; have n0_ := Aside0.mk (Kd.R_below (by (with_reducible repeat (first | apply Kd.R_alloc | apply Kd.R_drewN | apply Kd.R_drew)); exact HO227.out) hb); have n1_ := Aside0.mk (Kd.R_lower ho0 (below_size (by repeat (first | (with_reducible first | exact HB.out | apply below_alloc | apply pw_below_drewN | apply below_drew1) | exact HB.out)))); have n2_ := Aside0.mk (below_step (by repeat (first | (with_reducible first | exact HB.out | apply below_alloc | apply pw_below_drewN | apply below_drew1) | exact HB.out)) hb); clear HO227; clear HB; have HO227 := n0_; have HO231 := n1_; have HB := n2_; clear n0_ n1_ n2_; (try clear hb); (try clear hb2); (try clear hk); (try clear hi); (try clear ho0))); go_upto_region 5 with (first | (go_at_call 11; (with_reducible refine (transfer_Assign.calls _ _ l0 _ _ l1 t224 t225 _ ?side1 ?side2 ?side3 ?side4 A13.out).mono ?_); (case side1 => repeat (first | exact (Kd.C_below HR0.out HB.out) | (with_reducible refine Kd.C_alloc ?_ _) | (with_reducible refine Kd.C_drewN ?_ _) | (with_reducible refine Kd.C_drew ?_))); (case side2 => exact HC0.out); (case side3 => repeat (first | exact (Kd.C_below HR1.out HB.out) | (with_reducible refine Kd.C_alloc ?_ _) | (with_reducible refine Kd.C_drewN ?_ _) | (with_reducible refine Kd.C_drew ?_))); (case side4 => exact HC1.out); rintro e w16 ⟨v226, rfl, ho0, hb⟩; have n0_ := Aside0.mk (Kd.R_lower ho0 (below_size (by repeat (first | (with_reducible first | exact HB.out | apply below_alloc | apply pw_below_drewN | apply below_drew1) | exact HB.out)))); have n1_ := Aside0.mk (below_step (by repeat (first | (with_reducible first | exact HB.out | apply below_alloc | apply pw_below_drewN | apply below_drew1) | exact HB.out)) hb); clear HB; have HO227 := n0_; have HB := n1_; clear n0_ n1_; (try clear hb); (try clear hb2); (try clear hk); (try clear hi); (try clear ho0)) | (go_at_call 12; (with_reducible refine (computusref22_Assign.calls kj3 _ _ l0 _ _ l1 t228 t229 _ ?side1 ?side2 ?side3 ?side4 A14.out).mono ?_); (case side1 => repeat (first | exact (Kd.C_below HR0.out HB.out) | (with_reducible refine Kd.C_alloc ?_ _) | (with_reducible refine Kd.C_drewN ?_ _) | (with_reducible refine Kd.C_drew ?_))); (case side2 => exact HC0.out); (case side3 => repeat (first | exact (Kd.C_below HR1.out HB.out) | (with_reducible refine Kd.C_alloc ?_ _) | (with_reducible refine Kd.C_drewN ?_ _) | (with_reducible refine Kd.C_drew ?_))); (case side4 => exact HC1.out); rintro e w17 ⟨v230, rfl, ho0, hb⟩; have n0_ := Aside0.mk (Kd.R_below (by (with_reducible repeat (first | apply Kd.R_alloc | apply Kd.R_drewN | apply Kd.R_drew)); exact HO227.out) hb); have n1_ := Aside0.mk (Kd.R_lower ho0 (below_size (by repeat (first | (with_reducible first | exact HB.out | apply below_alloc | apply pw_below_drewN | apply below_drew1) | exact HB.out)))); have n2_ := Aside0.mk (below_step (by repeat (first | (with_reducible first | exact HB.out | apply below_alloc | apply pw_below_drewN | apply below_drew1) | exact HB.out)) hb); clear HO227; clear HB; have HO227 := n0_; have HO231 := n1_; have HB := n2_; clear n0_ n1_ n2_; (try clear hb); (try clear hb2); (try clear hk); (try clear hi); (try clear ho0))))
        (try simp only [Act.put, List.setIfInBounds_toArray, List.set_cons_zero, List.set_cons_succ])
        go_cut [50] (fun v50 wc => ∃ (kq : Nat) (x50_14 : Bool), v50 = .bool x50_14 ∧ Aside0 (computuslaw22_TransferMatchesReference.j1 kq l0 l1 a2 t224 t228 t229 x50_14 = some r) ∧ Aside0 (kq ≤ kj3) ∧ Aside0 (Kd.R k36 36 wc w.heap.size (fun _ => True) v226 t224) ∧ Aside0 (Kd.R k39 39 wc w.heap.size (fun _ => True) v230 t228) ∧ Aside0 (Below w.heap.size w wc))
        case first =>
          have H := HC15.out
          clear HC15
          replace H := Option.bind_eq_some_iff.mp H
          obtain ⟨t232, A180, H⟩ := H
          replace H : ((computusref22_Same.f kj3 t232 t228).bind fun t235 => (if t235 = true then (computuslaw22_TransferMatchesReference.j1 kj3 l0 l1 a2 t224 t228 t229 (t225 != t229)) else (computuslaw22_TransferMatchesReference.j1 kj3 l0 l1 a2 t224 t228 t229 true))) = some r := H
          have A18 := Aside0.mk A180
          clear A180
          replace H := Option.bind_eq_some_iff.mp H
          obtain ⟨t235, A190, H⟩ := H
          replace H : (if t235 = true then (computuslaw22_TransferMatchesReference.j1 kj3 l0 l1 a2 t224 t228 t229 (t225 != t229)) else (computuslaw22_TransferMatchesReference.j1 kj3 l0 l1 a2 t224 t228 t229 true)) = some r := H
          have A19 := Aside0.mk A190
          clear A190
          by_cases c20 : t235 = true
          · subst c20
            have H1 : (computuslaw22_TransferMatchesReference.j1 kj3 l0 l1 a2 t224 t228 t229 (t225 != t229)) = some r := by rw [if_pos rfl] at H; exact H
            clear H
            have H := H1
            clear H1
            have H' := Aside0.mk H
            clear H
            obtain ⟨Ao21, co21, eo21⟩ := Kd.R_slice HO227.out
            subst eo21
            go_wp2_with (first | (go_at_call 14; (with_reducible refine (computuslaw22_moves.calls kj3 _ _ t224 t232 _ ?side1 ?side2 A18.out).mono ?_); (case side1 => repeat (first | exact (Kd.R_reads' HO227.out).2.2 | (with_reducible refine Kd.C_alloc ?_ _) | (with_reducible refine Kd.C_drewN ?_ _) | (with_reducible refine Kd.C_drew ?_))); (case side2 => exact (Kd.R_reads' HO227.out).2.1); rintro e w22 ⟨v233, rfl, ho0, hb⟩; have n0_ := Aside0.mk (Kd.R_below (by (with_reducible repeat (first | apply Kd.R_alloc | apply Kd.R_drewN | apply Kd.R_drew)); exact HO227.out) hb); have n1_ := Aside0.mk (Kd.R_elder' (by (with_reducible repeat (first | apply Kd.R_alloc | apply Kd.R_drewN | apply Kd.R_drew)); exact HO231.out) (Kd.R_base ho0) hb); have n2_ := Aside0.mk (Kd.R_lower (Kd.R_new' ho0 (Kd.R_lt (by (with_reducible repeat (first | apply Kd.R_alloc | apply Kd.R_drewN | apply Kd.R_drew)); exact HO231.out))) (below_size (by repeat (first | (with_reducible first | exact HB.out | apply below_alloc | apply pw_below_drewN | apply below_drew1) | exact HB.out)))); have n3_ := Aside0.mk (below_step (by repeat (first | (with_reducible first | exact HB.out | apply below_alloc | apply pw_below_drewN | apply below_drew1) | exact HB.out)) hb); clear HO227; clear HO231; clear HB; have HO227 := n0_; have HO231 := n1_; have HO234 := n2_; have HB := n3_; clear n0_ n1_ n2_ n3_; (try clear hb); (try clear hb2); (try clear hk); (try clear hi); (try clear ho0); obtain ⟨Ao23, co23, eo23⟩ := Kd.R_slice HO234.out; subst eo23; obtain ⟨Ao24, co24, eo24⟩ := Kd.R_slice HO231.out; subst eo24) | (go_at_call 13; (with_reducible refine (computusref22_Same.calls kj3 _ _ t232 _ _ t228 true _ ?side1 ?side2 ?side3 ?side4 A19.out).mono ?_); (case side1 => repeat (first | exact (Kd.R_reads' HO234.out).2.2 | (with_reducible refine Kd.C_alloc ?_ _) | (with_reducible refine Kd.C_drewN ?_ _) | (with_reducible refine Kd.C_drew ?_))); (case side2 => exact (Kd.R_reads' HO234.out).2.1); (case side3 => repeat (first | exact (Kd.R_reads' HO231.out).2.2 | (with_reducible refine Kd.C_alloc ?_ _) | (with_reducible refine Kd.C_drewN ?_ _) | (with_reducible refine Kd.C_drew ?_))); (case side4 => exact (Kd.R_reads' HO231.out).2.1); rintro e w' ⟨rfl, ⟨nd, rfl⟩⟩; (try first | exact ⟨rfl, _, World.drewN_drewN _ _ _⟩ | exact ⟨rfl, _, Eq.trans (World.drewN_drewN _ _ _) (congrArg (World.drewN _) (Nat.add_assoc _ _ _))⟩)))
            repeat (go_quiet (first | (go_at_call 14; (with_reducible refine (computuslaw22_moves.calls kj3 _ _ t224 t232 _ ?side1 ?side2 A18.out).mono ?_); (case side1 => repeat (first | exact (Kd.R_reads' HO227.out).2.2 | (with_reducible refine Kd.C_alloc ?_ _) | (with_reducible refine Kd.C_drewN ?_ _) | (with_reducible refine Kd.C_drew ?_))); (case side2 => exact (Kd.R_reads' HO227.out).2.1); rintro e w22 ⟨v233, rfl, ho0, hb⟩; have n0_ := Aside0.mk (Kd.R_below (by (with_reducible repeat (first | apply Kd.R_alloc | apply Kd.R_drewN | apply Kd.R_drew)); exact HO227.out) hb); have n1_ := Aside0.mk (Kd.R_elder' (by (with_reducible repeat (first | apply Kd.R_alloc | apply Kd.R_drewN | apply Kd.R_drew)); exact HO231.out) (Kd.R_base ho0) hb); have n2_ := Aside0.mk (Kd.R_lower (Kd.R_new' ho0 (Kd.R_lt (by (with_reducible repeat (first | apply Kd.R_alloc | apply Kd.R_drewN | apply Kd.R_drew)); exact HO231.out))) (below_size (by repeat (first | (with_reducible first | exact HB.out | apply below_alloc | apply pw_below_drewN | apply below_drew1) | exact HB.out)))); have n3_ := Aside0.mk (below_step (by repeat (first | (with_reducible first | exact HB.out | apply below_alloc | apply pw_below_drewN | apply below_drew1) | exact HB.out)) hb); clear HO227; clear HO231; clear HB; have HO227 := n0_; have HO231 := n1_; have HO234 := n2_; have HB := n3_; clear n0_ n1_ n2_ n3_; (try clear hb); (try clear hb2); (try clear hk); (try clear hi); (try clear ho0); obtain ⟨Ao23, co23, eo23⟩ := Kd.R_slice HO234.out; subst eo23; obtain ⟨Ao24, co24, eo24⟩ := Kd.R_slice HO231.out; subst eo24) | (go_at_call 13; (with_reducible refine (computusref22_Same.calls kj3 _ _ t232 _ _ t228 true _ ?side1 ?side2 ?side3 ?side4 A19.out).mono ?_); (case side1 => repeat (first | exact (Kd.R_reads' HO234.out).2.2 | (with_reducible refine Kd.C_alloc ?_ _) | (with_reducible refine Kd.C_drewN ?_ _) | (with_reducible refine Kd.C_drew ?_))); (case side2 => exact (Kd.R_reads' HO234.out).2.1); (case side3 => repeat (first | exact (Kd.R_reads' HO231.out).2.2 | (with_reducible refine Kd.C_alloc ?_ _) | (with_reducible refine Kd.C_drewN ?_ _) | (with_reducible refine Kd.C_drew ?_))); (case side4 => exact (Kd.R_reads' HO231.out).2.1); rintro e w' ⟨rfl, ⟨nd, rfl⟩⟩; (try first | exact ⟨rfl, _, World.drewN_drewN _ _ _⟩ | exact ⟨rfl, _, Eq.trans (World.drewN_drewN _ _ _) (congrArg (World.drewN _) (Nat.add_assoc _ _ _))⟩))); try go_wp2_with (first | (go_at_call 14; (with_reducible refine (computuslaw22_moves.calls kj3 _ _ t224 t232 _ ?side1 ?side2 A18.out).mono ?_); (case side1 => repeat (first | exact (Kd.R_reads' HO227.out).2.2 | (with_reducible refine Kd.C_alloc ?_ _) | (with_reducible refine Kd.C_drewN ?_ _) | (with_reducible refine Kd.C_drew ?_))); (case side2 => exact (Kd.R_reads' HO227.out).2.1); rintro e w22 ⟨v233, rfl, ho0, hb⟩; have n0_ := Aside0.mk (Kd.R_below (by (with_reducible repeat (first | apply Kd.R_alloc | apply Kd.R_drewN | apply Kd.R_drew)); exact HO227.out) hb); have n1_ := Aside0.mk (Kd.R_elder' (by (with_reducible repeat (first | apply Kd.R_alloc | apply Kd.R_drewN | apply Kd.R_drew)); exact HO231.out) (Kd.R_base ho0) hb); have n2_ := Aside0.mk (Kd.R_lower (Kd.R_new' ho0 (Kd.R_lt (by (with_reducible repeat (first | apply Kd.R_alloc | apply Kd.R_drewN | apply Kd.R_drew)); exact HO231.out))) (below_size (by repeat (first | (with_reducible first | exact HB.out | apply below_alloc | apply pw_below_drewN | apply below_drew1) | exact HB.out)))); have n3_ := Aside0.mk (below_step (by repeat (first | (with_reducible first | exact HB.out | apply below_alloc | apply pw_below_drewN | apply below_drew1) | exact HB.out)) hb); clear HO227; clear HO231; clear HB; have HO227 := n0_; have HO231 := n1_; have HO234 := n2_; have HB := n3_; clear n0_ n1_ n2_ n3_; (try clear hb); (try clear hb2); (try clear hk); (try clear hi); (try clear ho0); obtain ⟨Ao23, co23, eo23⟩ := Kd.R_slice HO234.out; subst eo23; obtain ⟨Ao24, co24, eo24⟩ := Kd.R_slice HO231.out; subst eo24) | (go_at_call 13; (with_reducible refine (computusref22_Same.calls kj3 _ _ t232 _ _ t228 true _ ?side1 ?side2 ?side3 ?side4 A19.out).mono ?_); (case side1 => repeat (first | exact (Kd.R_reads' HO234.out).2.2 | (with_reducible refine Kd.C_alloc ?_ _) | (with_reducible refine Kd.C_drewN ?_ _) | (with_reducible refine Kd.C_drew ?_))); (case side2 => exact (Kd.R_reads' HO234.out).2.1); (case side3 => repeat (first | exact (Kd.R_reads' HO231.out).2.2 | (with_reducible refine Kd.C_alloc ?_ _) | (with_reducible refine Kd.C_drewN ?_ _) | (with_reducible refine Kd.C_drew ?_))); (case side4 => exact (Kd.R_reads' HO231.out).2.1); rintro e w' ⟨rfl, ⟨nd, rfl⟩⟩; (try first | exact ⟨rfl, _, World.drewN_drewN _ _ _⟩ | exact ⟨rfl, _, Eq.trans (World.drewN_drewN _ _ _) (congrArg (World.drewN _) (Nat.add_assoc _ _ _))⟩))))
            go_meet
            case rel => exact ⟨_, ((t225 != t229)), (by first | rfl | (simp; done) | (simp [*]; done)), H', ⟨by have := HJ3.out; first | omega | exact Nat.le_refl _⟩, ⟨by (with_reducible repeat (first | apply Kd.R_alloc | apply Kd.R_drewN | apply Kd.R_drew)); exact HO227.out⟩, ⟨by (with_reducible repeat (first | apply Kd.R_alloc | apply Kd.R_drewN | apply Kd.R_drew)); exact Kd.R_mono HO231.out (fun _ hk => trivial)⟩, ⟨by repeat (first | (with_reducible first | exact HB.out | apply below_alloc | apply pw_below_drewN | apply below_drew1) | exact HB.out)⟩⟩
          · replace c20 := Bool.eq_false_iff.mpr c20
            subst c20
            have H1 : (computuslaw22_TransferMatchesReference.j1 kj3 l0 l1 a2 t224 t228 t229 true) = some r := by rw [if_neg (show ¬ (false = true) by decide)] at H; exact H
            clear H
            have H := H1
            clear H1
            have H' := Aside0.mk H
            clear H
            obtain ⟨Ao25, co25, eo25⟩ := Kd.R_slice HO227.out
            subst eo25
            go_wp2_with (first | (go_at_call 14; (with_reducible refine (computuslaw22_moves.calls kj3 _ _ t224 t232 _ ?side1 ?side2 A18.out).mono ?_); (case side1 => repeat (first | exact (Kd.R_reads' HO227.out).2.2 | (with_reducible refine Kd.C_alloc ?_ _) | (with_reducible refine Kd.C_drewN ?_ _) | (with_reducible refine Kd.C_drew ?_))); (case side2 => exact (Kd.R_reads' HO227.out).2.1); rintro e w26 ⟨v233, rfl, ho0, hb⟩; have n0_ := Aside0.mk (Kd.R_below (by (with_reducible repeat (first | apply Kd.R_alloc | apply Kd.R_drewN | apply Kd.R_drew)); exact HO227.out) hb); have n1_ := Aside0.mk (Kd.R_elder' (by (with_reducible repeat (first | apply Kd.R_alloc | apply Kd.R_drewN | apply Kd.R_drew)); exact HO231.out) (Kd.R_base ho0) hb); have n2_ := Aside0.mk (Kd.R_lower (Kd.R_new' ho0 (Kd.R_lt (by (with_reducible repeat (first | apply Kd.R_alloc | apply Kd.R_drewN | apply Kd.R_drew)); exact HO231.out))) (below_size (by repeat (first | (with_reducible first | exact HB.out | apply below_alloc | apply pw_below_drewN | apply below_drew1) | exact HB.out)))); have n3_ := Aside0.mk (below_step (by repeat (first | (with_reducible first | exact HB.out | apply below_alloc | apply pw_below_drewN | apply below_drew1) | exact HB.out)) hb); clear HO227; clear HO231; clear HB; have HO227 := n0_; have HO231 := n1_; have HO234 := n2_; have HB := n3_; clear n0_ n1_ n2_ n3_; (try clear hb); (try clear hb2); (try clear hk); (try clear hi); (try clear ho0); obtain ⟨Ao27, co27, eo27⟩ := Kd.R_slice HO234.out; subst eo27; obtain ⟨Ao28, co28, eo28⟩ := Kd.R_slice HO231.out; subst eo28) | (go_at_call 13; (with_reducible refine (computusref22_Same.calls kj3 _ _ t232 _ _ t228 false _ ?side1 ?side2 ?side3 ?side4 A19.out).mono ?_); (case side1 => repeat (first | exact (Kd.R_reads' HO234.out).2.2 | (with_reducible refine Kd.C_alloc ?_ _) | (with_reducible refine Kd.C_drewN ?_ _) | (with_reducible refine Kd.C_drew ?_))); (case side2 => exact (Kd.R_reads' HO234.out).2.1); (case side3 => repeat (first | exact (Kd.R_reads' HO231.out).2.2 | (with_reducible refine Kd.C_alloc ?_ _) | (with_reducible refine Kd.C_drewN ?_ _) | (with_reducible refine Kd.C_drew ?_))); (case side4 => exact (Kd.R_reads' HO231.out).2.1); rintro e w' ⟨rfl, ⟨nd, rfl⟩⟩; (try first | exact ⟨rfl, _, World.drewN_drewN _ _ _⟩ | exact ⟨rfl, _, Eq.trans (World.drewN_drewN _ _ _) (congrArg (World.drewN _) (Nat.add_assoc _ _ _))⟩)))
            repeat (go_quiet (first | (go_at_call 14; (with_reducible refine (computuslaw22_moves.calls kj3 _ _ t224 t232 _ ?side1 ?side2 A18.out).mono ?_); (case side1 => repeat (first | exact (Kd.R_reads' HO227.out).2.2 | (with_reducible refine Kd.C_alloc ?_ _) | (with_reducible refine Kd.C_drewN ?_ _) | (with_reducible refine Kd.C_drew ?_))); (case side2 => exact (Kd.R_reads' HO227.out).2.1); rintro e w26 ⟨v233, rfl, ho0, hb⟩; have n0_ := Aside0.mk (Kd.R_below (by (with_reducible repeat (first | apply Kd.R_alloc | apply Kd.R_drewN | apply Kd.R_drew)); exact HO227.out) hb); have n1_ := Aside0.mk (Kd.R_elder' (by (with_reducible repeat (first | apply Kd.R_alloc | apply Kd.R_drewN | apply Kd.R_drew)); exact HO231.out) (Kd.R_base ho0) hb); have n2_ := Aside0.mk (Kd.R_lower (Kd.R_new' ho0 (Kd.R_lt (by (with_reducible repeat (first | apply Kd.R_alloc | apply Kd.R_drewN | apply Kd.R_drew)); exact HO231.out))) (below_size (by repeat (first | (with_reducible first | exact HB.out | apply below_alloc | apply pw_below_drewN | apply below_drew1) | exact HB.out)))); have n3_ := Aside0.mk (below_step (by repeat (first | (with_reducible first | exact HB.out | apply below_alloc | apply pw_below_drewN | apply below_drew1) | exact HB.out)) hb); clear HO227; clear HO231; clear HB; have HO227 := n0_; have HO231 := n1_; have HO234 := n2_; have HB := n3_; clear n0_ n1_ n2_ n3_; (try clear hb); (try clear hb2); (try clear hk); (try clear hi); (try clear ho0); obtain ⟨Ao27, co27, eo27⟩ := Kd.R_slice HO234.out; subst eo27; obtain ⟨Ao28, co28, eo28⟩ := Kd.R_slice HO231.out; subst eo28) | (go_at_call 13; (with_reducible refine (computusref22_Same.calls kj3 _ _ t232 _ _ t228 false _ ?side1 ?side2 ?side3 ?side4 A19.out).mono ?_); (case side1 => repeat (first | exact (Kd.R_reads' HO234.out).2.2 | (with_reducible refine Kd.C_alloc ?_ _) | (with_reducible refine Kd.C_drewN ?_ _) | (with_reducible refine Kd.C_drew ?_))); (case side2 => exact (Kd.R_reads' HO234.out).2.1); (case side3 => repeat (first | exact (Kd.R_reads' HO231.out).2.2 | (with_reducible refine Kd.C_alloc ?_ _) | (with_reducible refine Kd.C_drewN ?_ _) | (with_reducible refine Kd.C_drew ?_))); (case side4 => exact (Kd.R_reads' HO231.out).2.1); rintro e w' ⟨rfl, ⟨nd, rfl⟩⟩; (try first | exact ⟨rfl, _, World.drewN_drewN _ _ _⟩ | exact ⟨rfl, _, Eq.trans (World.drewN_drewN _ _ _) (congrArg (World.drewN _) (Nat.add_assoc _ _ _))⟩))); try go_wp2_with (first | (go_at_call 14; (with_reducible refine (computuslaw22_moves.calls kj3 _ _ t224 t232 _ ?side1 ?side2 A18.out).mono ?_); (case side1 => repeat (first | exact (Kd.R_reads' HO227.out).2.2 | (with_reducible refine Kd.C_alloc ?_ _) | (with_reducible refine Kd.C_drewN ?_ _) | (with_reducible refine Kd.C_drew ?_))); (case side2 => exact (Kd.R_reads' HO227.out).2.1); rintro e w26 ⟨v233, rfl, ho0, hb⟩; have n0_ := Aside0.mk (Kd.R_below (by (with_reducible repeat (first | apply Kd.R_alloc | apply Kd.R_drewN | apply Kd.R_drew)); exact HO227.out) hb); have n1_ := Aside0.mk (Kd.R_elder' (by (with_reducible repeat (first | apply Kd.R_alloc | apply Kd.R_drewN | apply Kd.R_drew)); exact HO231.out) (Kd.R_base ho0) hb); have n2_ := Aside0.mk (Kd.R_lower (Kd.R_new' ho0 (Kd.R_lt (by (with_reducible repeat (first | apply Kd.R_alloc | apply Kd.R_drewN | apply Kd.R_drew)); exact HO231.out))) (below_size (by repeat (first | (with_reducible first | exact HB.out | apply below_alloc | apply pw_below_drewN | apply below_drew1) | exact HB.out)))); have n3_ := Aside0.mk (below_step (by repeat (first | (with_reducible first | exact HB.out | apply below_alloc | apply pw_below_drewN | apply below_drew1) | exact HB.out)) hb); clear HO227; clear HO231; clear HB; have HO227 := n0_; have HO231 := n1_; have HO234 := n2_; have HB := n3_; clear n0_ n1_ n2_ n3_; (try clear hb); (try clear hb2); (try clear hk); (try clear hi); (try clear ho0); obtain ⟨Ao27, co27, eo27⟩ := Kd.R_slice HO234.out; subst eo27; obtain ⟨Ao28, co28, eo28⟩ := Kd.R_slice HO231.out; subst eo28) | (go_at_call 13; (with_reducible refine (computusref22_Same.calls kj3 _ _ t232 _ _ t228 false _ ?side1 ?side2 ?side3 ?side4 A19.out).mono ?_); (case side1 => repeat (first | exact (Kd.R_reads' HO234.out).2.2 | (with_reducible refine Kd.C_alloc ?_ _) | (with_reducible refine Kd.C_drewN ?_ _) | (with_reducible refine Kd.C_drew ?_))); (case side2 => exact (Kd.R_reads' HO234.out).2.1); (case side3 => repeat (first | exact (Kd.R_reads' HO231.out).2.2 | (with_reducible refine Kd.C_alloc ?_ _) | (with_reducible refine Kd.C_drewN ?_ _) | (with_reducible refine Kd.C_drew ?_))); (case side4 => exact (Kd.R_reads' HO231.out).2.1); rintro e w' ⟨rfl, ⟨nd, rfl⟩⟩; (try first | exact ⟨rfl, _, World.drewN_drewN _ _ _⟩ | exact ⟨rfl, _, Eq.trans (World.drewN_drewN _ _ _) (congrArg (World.drewN _) (Nat.add_assoc _ _ _))⟩))))
            go_meet
            case rel => exact ⟨_, (true), (by first | rfl | (simp; done) | (simp [*]; done)), H', ⟨by have := HJ3.out; first | omega | exact Nat.le_refl _⟩, ⟨by (with_reducible repeat (first | apply Kd.R_alloc | apply Kd.R_drewN | apply Kd.R_drew)); exact HO227.out⟩, ⟨by (with_reducible repeat (first | apply Kd.R_alloc | apply Kd.R_drewN | apply Kd.R_drew)); exact Kd.R_mono HO231.out (fun _ hk => trivial)⟩, ⟨by repeat (first | (with_reducible first | exact HB.out | apply below_alloc | apply pw_below_drewN | apply below_drew1) | exact HB.out)⟩⟩
        case rest =>
          clear HC15
          try clear c1
          try clear c2
          try clear p2
          try clear c3
          try clear c6
          try clear c10
          try clear c20
          try clear p2
          obtain ⟨kq, x50_14, rfl, HA, HJ14, HO_7, HO_9, HB⟩ := hcut
          cases kq with
          | zero => exact absurd HA.out (by simp [computuslaw22_TransferMatchesReference.j1])
          | succ kj14 =>
            have H := HA.out
            clear HA
            simp only [computuslaw22_TransferMatchesReference.j1] at H
            by_cases c29 : x50_14 = true
            · subst c29
              have H1 : (none) = some r := by rw [if_pos rfl] at H; exact H
              clear H
              have H := H1
              clear H1
              exact absurd H (by simp)
            · replace c29 := Bool.eq_false_iff.mpr c29
              subst c29
              have H1 : ((transfer_Taken.f kj14 t224 a2).bind fun bt236 => (computuslaw22_TransferMatchesReference.l0 kj14 l0 l1 a2 t228 t229 bt236.2.2.2 false 0 bt236.1 bt236.2.1 bt236.2.2.1)) = some r := by rw [if_neg (show ¬ (false = true) by decide)] at H; exact H
              clear H
              have H := H1
              clear H1
              replace H := Option.bind_eq_some_iff.mp H
              obtain ⟨⟨t236, t237, t238, t239⟩, A300, H⟩ := H
              replace H : (computuslaw22_TransferMatchesReference.l0 kj14 l0 l1 a2 t228 t229 t239 false 0 t236 t237 t238) = some r := H
              have A30 := Aside0.mk A300
              clear A300
              have H' := Aside0.mk H
              clear H
              obtain ⟨Ao31, co31, eo31⟩ := Kd.R_slice HO_7.out
              subst eo31
              go_wp2_with (first | (go_at_call 15; (with_reducible refine (transfer_Taken.calls kj14 _ _ t224 a2 t236 t237 t238 t239 _ ?side1 ?side2 A30.out).mono ?_); (case side1 => repeat (first | exact (Kd.R_reads' HO_7.out).2.2 | (with_reducible refine Kd.C_alloc ?_ _) | (with_reducible refine Kd.C_drewN ?_ _) | (with_reducible refine Kd.C_drew ?_))); (case side2 => exact (Kd.R_reads' HO_7.out).2.1); rintro e w32 ⟨rfl, hb⟩; have n0_ := Aside0.mk (Kd.R_below (by (with_reducible repeat (first | apply Kd.R_alloc | apply Kd.R_drewN | apply Kd.R_drew)); exact HO_7.out) hb); have n1_ := Aside0.mk (Kd.R_below (by (with_reducible repeat (first | apply Kd.R_alloc | apply Kd.R_drewN | apply Kd.R_drew)); exact HO_9.out) hb); have n2_ := Aside0.mk (below_step (by repeat (first | (with_reducible first | exact HB.out | apply below_alloc | apply pw_below_drewN | apply below_drew1) | exact HB.out)) hb); clear HO_7; clear HO_9; clear HB; have HO_7 := n0_; have HO_9 := n1_; have HB := n2_; clear n0_ n1_ n2_; (try clear hb); (try clear hb2); (try clear hk); (try clear hi)) | ((with_reducible refine gate_dst (N := 11) rfl ?_); refine box_event ?hg (N := 11) ?hd (cs := #[.int .i64 0, .int .i64 0, .int .i64 0]) (t := 36) ?hr ?_; (case hd => rfl); (case hg => rfl); (case hr => first | (go_simp; done) | (go_simp; rfl)); intro gb240 hg w33 hbox hb; have n0_ := Aside0.mk (Kd.R_below (Kd.R_elderB (by (with_reducible repeat (first | apply Kd.R_alloc | apply Kd.R_drewN | apply Kd.R_drew)); exact HO_7.out) gb240 (Nat.le_of_eq hg.symm)) hb); have n1_ := Aside0.mk (Kd.R_below (by (with_reducible repeat (first | apply Kd.R_alloc | apply Kd.R_drewN | apply Kd.R_drew)); exact HO_9.out) hb); have n2_ := Aside0.mk (below_step (by repeat (first | (with_reducible first | exact HB.out | apply below_alloc | apply pw_below_drewN | apply below_drew1) | exact HB.out)) hb); have n3_ := Aside0.mk (hbox); have n4_ := Aside0.mk ((by rw [hg]; exact (below_size (by repeat (first | (with_reducible first | exact HB.out | apply below_alloc | apply pw_below_drewN | apply below_drew1) | exact HB.out))) : w.heap.size ≤ gb240)); have n5_ := Aside0.mk ((by rw [hg]; exact (below_size (by repeat (first | (with_reducible first | exact HB.out | apply below_alloc | apply pw_below_drewN | apply below_drew1) | exact HB.out))) : w.heap.size ≤ gb240)); clear HO_7; clear HO_9; clear HB; have HO_7 := n0_; have HO_9 := n1_; have HB := n2_; have BK240 := n3_; have GW240 := n4_; have GE240 := n5_; clear n0_ n1_ n2_ n3_ n4_ n5_; clear hb hbox hg; have hcz34_0 : w33.cell? ⟨gb240, 0, none⟩ = some (.int .i64 0) := (blk_cell BK240.out 0).trans rfl; have hcz34_1 : w33.cell? ⟨gb240, 1, none⟩ = some (.int .i64 0) := (blk_cell BK240.out 1).trans rfl; have hcz34_2 : w33.cell? ⟨gb240, 2, none⟩ = some (.int .i64 0) := (blk_cell BK240.out 2).trans rfl; have hfz34_0 := blk_frozen BK240.out 0; have hfz34_1 := blk_frozen BK240.out 1; have hfz34_2 := blk_frozen BK240.out 2))
              repeat (go_quiet (first | (go_at_call 15; (with_reducible refine (transfer_Taken.calls kj14 _ _ t224 a2 t236 t237 t238 t239 _ ?side1 ?side2 A30.out).mono ?_); (case side1 => repeat (first | exact (Kd.R_reads' HO_7.out).2.2 | (with_reducible refine Kd.C_alloc ?_ _) | (with_reducible refine Kd.C_drewN ?_ _) | (with_reducible refine Kd.C_drew ?_))); (case side2 => exact (Kd.R_reads' HO_7.out).2.1); rintro e w32 ⟨rfl, hb⟩; have n0_ := Aside0.mk (Kd.R_below (by (with_reducible repeat (first | apply Kd.R_alloc | apply Kd.R_drewN | apply Kd.R_drew)); exact HO_7.out) hb); have n1_ := Aside0.mk (Kd.R_below (by (with_reducible repeat (first | apply Kd.R_alloc | apply Kd.R_drewN | apply Kd.R_drew)); exact HO_9.out) hb); have n2_ := Aside0.mk (below_step (by repeat (first | (with_reducible first | exact HB.out | apply below_alloc | apply pw_below_drewN | apply below_drew1) | exact HB.out)) hb); clear HO_7; clear HO_9; clear HB; have HO_7 := n0_; have HO_9 := n1_; have HB := n2_; clear n0_ n1_ n2_; (try clear hb); (try clear hb2); (try clear hk); (try clear hi)) | ((with_reducible refine gate_dst (N := 11) rfl ?_); refine box_event ?hg (N := 11) ?hd (cs := #[.int .i64 0, .int .i64 0, .int .i64 0]) (t := 36) ?hr ?_; (case hd => rfl); (case hg => rfl); (case hr => first | (go_simp; done) | (go_simp; rfl)); intro gb240 hg w33 hbox hb; have n0_ := Aside0.mk (Kd.R_below (Kd.R_elderB (by (with_reducible repeat (first | apply Kd.R_alloc | apply Kd.R_drewN | apply Kd.R_drew)); exact HO_7.out) gb240 (Nat.le_of_eq hg.symm)) hb); have n1_ := Aside0.mk (Kd.R_below (by (with_reducible repeat (first | apply Kd.R_alloc | apply Kd.R_drewN | apply Kd.R_drew)); exact HO_9.out) hb); have n2_ := Aside0.mk (below_step (by repeat (first | (with_reducible first | exact HB.out | apply below_alloc | apply pw_below_drewN | apply below_drew1) | exact HB.out)) hb); have n3_ := Aside0.mk (hbox); have n4_ := Aside0.mk ((by rw [hg]; exact (below_size (by repeat (first | (with_reducible first | exact HB.out | apply below_alloc | apply pw_below_drewN | apply below_drew1) | exact HB.out))) : w.heap.size ≤ gb240)); have n5_ := Aside0.mk ((by rw [hg]; exact (below_size (by repeat (first | (with_reducible first | exact HB.out | apply below_alloc | apply pw_below_drewN | apply below_drew1) | exact HB.out))) : w.heap.size ≤ gb240)); clear HO_7; clear HO_9; clear HB; have HO_7 := n0_; have HO_9 := n1_; have HB := n2_; have BK240 := n3_; have GW240 := n4_; have GE240 := n5_; clear n0_ n1_ n2_ n3_ n4_ n5_; clear hb hbox hg; have hcz34_0 : w33.cell? ⟨gb240, 0, none⟩ = some (.int .i64 0) := (blk_cell BK240.out 0).trans rfl; have hcz34_1 : w33.cell? ⟨gb240, 1, none⟩ = some (.int .i64 0) := (blk_cell BK240.out 1).trans rfl; have hcz34_2 : w33.cell? ⟨gb240, 2, none⟩ = some (.int .i64 0) := (blk_cell BK240.out 2).trans rfl; have hfz34_0 := blk_frozen BK240.out 0; have hfz34_1 := blk_frozen BK240.out 1; have hfz34_2 := blk_frozen BK240.out 2)); try go_wp2_with (first | (go_at_call 15; (with_reducible refine (transfer_Taken.calls kj14 _ _ t224 a2 t236 t237 t238 t239 _ ?side1 ?side2 A30.out).mono ?_); (case side1 => repeat (first | exact (Kd.R_reads' HO_7.out).2.2 | (with_reducible refine Kd.C_alloc ?_ _) | (with_reducible refine Kd.C_drewN ?_ _) | (with_reducible refine Kd.C_drew ?_))); (case side2 => exact (Kd.R_reads' HO_7.out).2.1); rintro e w32 ⟨rfl, hb⟩; have n0_ := Aside0.mk (Kd.R_below (by (with_reducible repeat (first | apply Kd.R_alloc | apply Kd.R_drewN | apply Kd.R_drew)); exact HO_7.out) hb); have n1_ := Aside0.mk (Kd.R_below (by (with_reducible repeat (first | apply Kd.R_alloc | apply Kd.R_drewN | apply Kd.R_drew)); exact HO_9.out) hb); have n2_ := Aside0.mk (below_step (by repeat (first | (with_reducible first | exact HB.out | apply below_alloc | apply pw_below_drewN | apply below_drew1) | exact HB.out)) hb); clear HO_7; clear HO_9; clear HB; have HO_7 := n0_; have HO_9 := n1_; have HB := n2_; clear n0_ n1_ n2_; (try clear hb); (try clear hb2); (try clear hk); (try clear hi)) | ((with_reducible refine gate_dst (N := 11) rfl ?_); refine box_event ?hg (N := 11) ?hd (cs := #[.int .i64 0, .int .i64 0, .int .i64 0]) (t := 36) ?hr ?_; (case hd => rfl); (case hg => rfl); (case hr => first | (go_simp; done) | (go_simp; rfl)); intro gb240 hg w33 hbox hb; have n0_ := Aside0.mk (Kd.R_below (Kd.R_elderB (by (with_reducible repeat (first | apply Kd.R_alloc | apply Kd.R_drewN | apply Kd.R_drew)); exact HO_7.out) gb240 (Nat.le_of_eq hg.symm)) hb); have n1_ := Aside0.mk (Kd.R_below (by (with_reducible repeat (first | apply Kd.R_alloc | apply Kd.R_drewN | apply Kd.R_drew)); exact HO_9.out) hb); have n2_ := Aside0.mk (below_step (by repeat (first | (with_reducible first | exact HB.out | apply below_alloc | apply pw_below_drewN | apply below_drew1) | exact HB.out)) hb); have n3_ := Aside0.mk (hbox); have n4_ := Aside0.mk ((by rw [hg]; exact (below_size (by repeat (first | (with_reducible first | exact HB.out | apply below_alloc | apply pw_below_drewN | apply below_drew1) | exact HB.out))) : w.heap.size ≤ gb240)); have n5_ := Aside0.mk ((by rw [hg]; exact (below_size (by repeat (first | (with_reducible first | exact HB.out | apply below_alloc | apply pw_below_drewN | apply below_drew1) | exact HB.out))) : w.heap.size ≤ gb240)); clear HO_7; clear HO_9; clear HB; have HO_7 := n0_; have HO_9 := n1_; have HB := n2_; have BK240 := n3_; have GW240 := n4_; have GE240 := n5_; clear n0_ n1_ n2_ n3_ n4_ n5_; clear hb hbox hg; have hcz34_0 : w33.cell? ⟨gb240, 0, none⟩ = some (.int .i64 0) := (blk_cell BK240.out 0).trans rfl; have hcz34_1 : w33.cell? ⟨gb240, 1, none⟩ = some (.int .i64 0) := (blk_cell BK240.out 1).trans rfl; have hcz34_2 : w33.cell? ⟨gb240, 2, none⟩ = some (.int .i64 0) := (blk_cell BK240.out 2).trans rfl; have hfz34_0 := blk_frozen BK240.out 0; have hfz34_1 := blk_frozen BK240.out 1; have hfz34_2 := blk_frozen BK240.out 2)))
              go_loopg [13, 14] kj14 (fun kq v13 v14 w' => ∃ (x13_3 : Bool) (x14_3 : Int), v13 = .bool x13_3 ∧ v14 = .int .i64 x14_3 ∧ Aside0 (computuslaw22_TransferMatchesReference.l0 kq l0 l1 a2 t228 t229 t239 x13_3 x14_3 t236 t237 t238 = some r) ∧ Aside0 (kq ≤ kj14) ∧ Aside0 (Kd.R k39 39 w' w.heap.size (fun _ => True) v230 t228) ∧ Aside0 (w'.heap[gb240]? = some (.cells #[.int .i64 t236, .int .i64 t237, .int .i64 t238] 36 (0, 0))) ∧ Aside0 (Below w.heap.size w w'))
              case atStart => exact ⟨(false), (0), (by first | rfl | (simp; done) | (simp [*]; done)), (by first | rfl | (simp; done) | (simp [*]; done)), H', ⟨Nat.le_refl _⟩, ⟨by (with_reducible repeat (first | apply Kd.R_alloc | apply Kd.R_drewN | apply Kd.R_drew)); exact Kd.R_mono (Kd.R_far (p := ⟨gb240, 2, none⟩) (Kd.R_far (p := ⟨gb240, 1, none⟩) (Kd.R_far (p := ⟨gb240, 0, none⟩) (Kd.R_types HO_9.out BK240.out (by decide)) (fun _ hk => hk.2) (.int .i64 t236)) (fun _ hk => hk.2) (.int .i64 t237)) (fun _ hk => hk.2) (.int .i64 t238)) (fun _ hk => trivial)⟩, ⟨by (with_reducible repeat (first | refine blk_drewN ?_ _ | refine blk_drew ?_ | refine blk_alloc ?_ _)); refine blk_put (cs := #[.int .i64 t236, .int .i64 t237, .int .i64 0]) ?_ 2 _ rfl; (with_reducible repeat (first | refine blk_drewN ?_ _ | refine blk_drew ?_ | refine blk_alloc ?_ _)); refine blk_put (cs := #[.int .i64 t236, .int .i64 0, .int .i64 0]) ?_ 1 _ rfl; (with_reducible repeat (first | refine blk_drewN ?_ _ | refine blk_drew ?_ | refine blk_alloc ?_ _)); refine blk_put (cs := #[.int .i64 0, .int .i64 0, .int .i64 0]) ?_ 0 _ rfl; (with_reducible repeat (first | refine blk_drewN ?_ _ | refine blk_drew ?_ | refine blk_alloc ?_ _)); exact BK240.out⟩, ⟨by repeat (first | (with_reducible first | exact HB.out | apply below_alloc | apply pw_below_drewN | apply below_drew1 | refine below_set ?_ GE240.out) | exact HB.out)⟩⟩
              case round =>
                clear H'
                try clear c1
                try clear c2
                try clear p2
                try clear c3
                try clear c6
                try clear c10
                try clear c20
                try clear c29
                try clear hcz34_0
                try clear hcz34_1
                try clear hcz34_2
                try clear hfz34_0
                try clear hfz34_1
                try clear hfz34_2
                try clear p2
                obtain ⟨x13_3, x14_3, rfl, rfl, HA, HK3, HO_9, BK240, HB⟩ := hrel
                cases gk with
                | zero => exact absurd HA.out (by simp [computuslaw22_TransferMatchesReference.l0])
                | succ k3 =>
                  have H := HA.out
                  clear HA
                  simp only [computuslaw22_TransferMatchesReference.l0] at H
                  have HC35 := Aside0.mk H
                  clear H
                  go_upto_region 10 with (fail)
                  repeat (go_quiet (fail); go_upto_region 10 with (fail))
                  go_cut [64] (fun v64 wc => ∃ (kq : Nat) (x64_34 : Bool), v64 = .bool x64_34 ∧ Aside0 (computuslaw22_TransferMatchesReference.j3 kq l0 l1 a2 t228 t229 t239 x13_3 x14_3 x64_34 t236 t237 t238 = some r) ∧ Aside0 (kq ≤ k3) ∧ Aside0 (Kd.R k39 39 wc w.heap.size (fun _ => True) v230 t228) ∧ Aside0 (wc.heap[gb240]? = some (.cells #[.int .i64 t236, .int .i64 t237, .int .i64 t238] 36 (0, 0))) ∧ Aside0 (Below w.heap.size w wc))
                  case first =>
                    have H := HC35.out
                    clear HC35
                    by_cases c36 : x14_3 < (t228.length : Int)
                    · rw [if_pos c36] at H
                      have c36b0 : decide (x14_3 < (t228.length : Int)) = true := decide_eq_true c36
                      clear c36
                      (first | rw [c36b0] | (simp only [i64_w, i32_w]; rw [c36b0]) | skip)
                      have H' := Aside0.mk H
                      clear H
                      obtain ⟨Ao37, co37, eo37⟩ := Kd.R_slice HO_9.out
                      subst eo37
                      go_wp2
                      repeat (go_quiet (fail); try go_wp2)
                      go_meet
                      case rel => exact ⟨_, (!x13_3), (by first | rfl | (simp; done) | (simp [*]; done)), H', ⟨by have := HJ3.out; have := HJ14.out; have := HK3.out; first | omega | exact Nat.le_refl _⟩, ⟨by (with_reducible repeat (first | apply Kd.R_alloc | apply Kd.R_drewN | apply Kd.R_drew)); exact HO_9.out⟩, ⟨by (with_reducible repeat (first | refine blk_drewN ?_ _ | refine blk_drew ?_ | refine blk_alloc ?_ _)); exact BK240.out⟩, ⟨by repeat (first | (with_reducible first | exact HB.out | apply below_alloc | apply pw_below_drewN | apply below_drew1 | refine below_set ?_ GE240.out) | exact HB.out)⟩⟩
                    · rw [if_neg c36] at H
                      have c36b0 : decide (x14_3 < (t228.length : Int)) = false := decide_eq_false c36
                      clear c36
                      (first | rw [c36b0] | (simp only [i64_w, i32_w]; rw [c36b0]) | skip)
                      have H' := Aside0.mk H
                      clear H
                      obtain ⟨Ao38, co38, eo38⟩ := Kd.R_slice HO_9.out
                      subst eo38
                      go_wp2
                      repeat (go_quiet (fail); try go_wp2)
                      go_meet
                      case rel => exact ⟨_, (false), (by first | rfl | (simp; done) | (simp [*]; done)), H', ⟨by have := HJ3.out; have := HJ14.out; have := HK3.out; first | omega | exact Nat.le_refl _⟩, ⟨by (with_reducible repeat (first | apply Kd.R_alloc | apply Kd.R_drewN | apply Kd.R_drew)); exact HO_9.out⟩, ⟨by (with_reducible repeat (first | refine blk_drewN ?_ _ | refine blk_drew ?_ | refine blk_alloc ?_ _)); exact BK240.out⟩, ⟨by repeat (first | (with_reducible first | exact HB.out | apply below_alloc | apply pw_below_drewN | apply below_drew1 | refine below_set ?_ GE240.out) | exact HB.out)⟩⟩
                  case rest =>
                    clear HC35
                    try clear c1
                    try clear c2
                    try clear p2
                    try clear c3
                    try clear c6
                    try clear c10
                    try clear c20
                    try clear c29
                    try clear c36
                    try clear c36b0
                    try clear hcz34_0
                    try clear hcz34_1
                    try clear hcz34_2
                    try clear hfz34_0
                    try clear hfz34_1
                    try clear hfz34_2
                    try clear p2
                    obtain ⟨kq, x64_34, rfl, HA, HJ34, HO_9, BK240, HB⟩ := hcut
                    cases kq with
                    | zero => exact absurd HA.out (by simp [computuslaw22_TransferMatchesReference.j3])
                    | succ kj34 =>
                      have H := HA.out
                      clear HA
                      simp only [computuslaw22_TransferMatchesReference.j3] at H
                      by_cases c39 : x64_34 = true
                      · subst c39
                        have H1 : (if 0 ≤ x14_3 then (if x14_3 < (t228.length : Int) then (if ((rd_T39 t228 x14_3).f2) = a2 then (if t239 = true then (if (!(t236 == ((rd_T39 t228 x14_3).f0)) || (!(t237 == ((rd_T39 t228 x14_3).f1)) || (!(t238 == ((rd_T39 t228 x14_3).f2))))) = true then (none) else (computuslaw22_TransferMatchesReference.l0 kj34 l0 l1 a2 t228 t229 t239 true (wrap64 (x14_3 + 1)) t236 t237 t238)) else (none)) else (computuslaw22_TransferMatchesReference.l0 kj34 l0 l1 a2 t228 t229 t239 x13_3 (wrap64 (x14_3 + 1)) t236 t237 t238)) else (none)) else (none)) = some r := by rw [if_pos rfl] at H; exact H
                        clear H
                        have H := H1
                        clear H1
                        by_cases c40 : 0 ≤ x14_3
                        · rw [if_pos c40] at H
                          have c40b0 : decide (0 ≤ x14_3) = true := decide_eq_true c40
                          clear c40
                          by_cases c41 : x14_3 < (t228.length : Int)
                          · rw [if_pos c41] at H
                            have c41b0 : decide (x14_3 < (t228.length : Int)) = true := decide_eq_true c41
                            clear c41
                            by_cases c42 : ((rd_T39 t228 x14_3).f2) = a2
                            · rw [if_pos c42] at H
                              have c42b0 : (((rd_T39 t228 x14_3).f2) == a2) = true := beq_iff_eq.mpr c42
                              have c42b1 : (((rd_T39 t228 x14_3).f2) != a2) = false := bne_eq_false_iff_eq.mpr c42
                              clear c42
                              by_cases c43 : t239 = true
                              · subst c43
                                have H1 : (if (!(t236 == ((rd_T39 t228 x14_3).f0)) || (!(t237 == ((rd_T39 t228 x14_3).f1)) || (!(t238 == ((rd_T39 t228 x14_3).f2))))) = true then (none) else (computuslaw22_TransferMatchesReference.l0 kj34 l0 l1 a2 t228 t229 true true (wrap64 (x14_3 + 1)) t236 t237 t238)) = some r := by rw [if_pos rfl] at H; exact H
                                clear H
                                have H := H1
                                clear H1
                                by_cases c44 : (!(t236 == ((rd_T39 t228 x14_3).f0)) || (!(t237 == ((rd_T39 t228 x14_3).f1)) || (!(t238 == ((rd_T39 t228 x14_3).f2))))) = true
                                · rw [if_pos c44] at H
                                  exact absurd H (by simp)
                                · rw [if_neg c44] at H
                                  have c44b0 : (!(t236 == ((rd_T39 t228 x14_3).f0)) || (!(t237 == ((rd_T39 t228 x14_3).f1)) || (!(t238 == ((rd_T39 t228 x14_3).f2))))) = false := by simpa using c44
                                  clear c44
                                  have H' := Aside0.mk H
                                  clear H
                                  obtain ⟨Ao45, co45, eo45⟩ := Kd.R_slice HO_9.out
                                  subst eo45
                                  have p241 : 0 ≤ (x14_3 : Int) := of_decide_eq_true (by first | (with_reducible assumption) | assumption)
                                  have q241 : x14_3 < (t228.length : Int) := of_decide_eq_true (by first | (with_reducible assumption) | assumption)
                                  obtain ⟨ad241, e241, hx241_0, hx241_1, hx241_2⟩ := at_T39 (Kd.R_reads' HO_9.out).2.2 x14_3 p241 q241
                                  cases e241
                                  replace p241 := eq_true p241
                                  replace q241 := eq_true q241
                                  have hcz46_0 : wc.cell? ⟨gb240, 0, none⟩ = some (.int .i64 t236) := (blk_cell BK240.out 0).trans rfl
                                  have hcz46_1 : wc.cell? ⟨gb240, 1, none⟩ = some (.int .i64 t237) := (blk_cell BK240.out 1).trans rfl
                                  have hcz46_2 : wc.cell? ⟨gb240, 2, none⟩ = some (.int .i64 t238) := (blk_cell BK240.out 2).trans rfl
                                  have hfz46_0 := blk_frozen BK240.out 0
                                  have hfz46_1 := blk_frozen BK240.out 1
                                  have hfz46_2 := blk_frozen BK240.out 2
                                  have p242 : 0 ≤ (x14_3 : Int) := of_decide_eq_true (by first | (with_reducible assumption) | assumption)
                                  have q242 : x14_3 < (t228.length : Int) := of_decide_eq_true (by first | (with_reducible assumption) | assumption)
                                  obtain ⟨ad242, e242, hx242_0, hx242_1, hx242_2⟩ := at_T39 (Kd.R_reads' HO_9.out).2.2 x14_3 p242 q242
                                  obtain rfl : ad241 = ad242 := (by injection e242)
                                  replace p242 := eq_true p242
                                  replace q242 := eq_true q242
                                  have p243 : 0 ≤ (x14_3 : Int) := of_decide_eq_true (by first | (with_reducible assumption) | assumption)
                                  have q243 : x14_3 < (t228.length : Int) := of_decide_eq_true (by first | (with_reducible assumption) | assumption)
                                  obtain ⟨ad243, e243, hx243_0, hx243_1, hx243_2⟩ := at_T39 (Kd.R_reads' HO_9.out).2.2 x14_3 p243 q243
                                  obtain rfl : ad241 = ad243 := (by injection e243)
                                  replace p243 := eq_true p243
                                  replace q243 := eq_true q243
                                  have p244 : 0 ≤ (x14_3 : Int) := of_decide_eq_true (by first | (with_reducible assumption) | assumption)
                                  have q244 : x14_3 < (t228.length : Int) := of_decide_eq_true (by first | (with_reducible assumption) | assumption)
                                  obtain ⟨ad244, e244, hx244_0, hx244_1, hx244_2⟩ := at_T39 (Kd.R_reads' HO_9.out).2.2 x14_3 p244 q244
                                  obtain rfl : ad241 = ad244 := (by injection e244)
                                  replace p244 := eq_true p244
                                  replace q244 := eq_true q244
                                  go_wp2
                                  repeat (go_quiet (fail); try go_wp2)
                                  go_roundg kj34
                                  case measure => have := HJ3.out; have := HJ14.out; have := HK3.out; have := HJ34.out; omega
                                  case rel => exact ⟨(true), (wrap64 (x14_3 + 1)), (by first | rfl | (simp; done) | (simp [*]; done)), (by first | rfl | (simp; done) | (simp [*]; done)), H', ⟨by have := HJ3.out; have := HJ14.out; have := HK3.out; have := HJ34.out; omega⟩, ⟨by (with_reducible repeat (first | apply Kd.R_alloc | apply Kd.R_drewN | apply Kd.R_drew)); exact HO_9.out⟩, ⟨by (with_reducible repeat (first | refine blk_drewN ?_ _ | refine blk_drew ?_ | refine blk_alloc ?_ _)); exact BK240.out⟩, ⟨by repeat (first | (with_reducible first | exact HB.out | apply below_alloc | apply pw_below_drewN | apply below_drew1 | refine below_set ?_ GE240.out) | exact HB.out)⟩⟩
                              · replace c43 := Bool.eq_false_iff.mpr c43
                                subst c43
                                have H1 : (none) = some r := by rw [if_neg (show ¬ (false = true) by decide)] at H; exact H
                                clear H
                                have H := H1
                                clear H1
                                exact absurd H (by simp)
                            · rw [if_neg c42] at H
                              have c42b0 : (((rd_T39 t228 x14_3).f2) == a2) = false := beq_eq_false_iff_ne.mpr c42
                              have c42b1 : (((rd_T39 t228 x14_3).f2) != a2) = true := bne_iff_ne.mpr c42
                              have H' := Aside0.mk H
                              clear H
                              obtain ⟨Ao47, co47, eo47⟩ := Kd.R_slice HO_9.out
                              subst eo47
                              have p241 : 0 ≤ (x14_3 : Int) := of_decide_eq_true (by first | (with_reducible assumption) | assumption)
                              have q241 : x14_3 < (t228.length : Int) := of_decide_eq_true (by first | (with_reducible assumption) | assumption)
                              obtain ⟨ad241, e241, hx241_0, hx241_1, hx241_2⟩ := at_T39 (Kd.R_reads' HO_9.out).2.2 x14_3 p241 q241
                              cases e241
                              replace p241 := eq_true p241
                              replace q241 := eq_true q241
                              go_wp2
                              repeat (go_quiet (fail); try go_wp2)
                              go_roundg kj34
                              case measure => have := HJ3.out; have := HJ14.out; have := HK3.out; have := HJ34.out; omega
                              case rel => exact ⟨(x13_3), (wrap64 (x14_3 + 1)), (by first | rfl | (simp; done) | (simp [*]; done)), (by first | rfl | (simp; done) | (simp [*]; done)), H', ⟨by have := HJ3.out; have := HJ14.out; have := HK3.out; have := HJ34.out; omega⟩, ⟨by (with_reducible repeat (first | apply Kd.R_alloc | apply Kd.R_drewN | apply Kd.R_drew)); exact HO_9.out⟩, ⟨by (with_reducible repeat (first | refine blk_drewN ?_ _ | refine blk_drew ?_ | refine blk_alloc ?_ _)); exact BK240.out⟩, ⟨by repeat (first | (with_reducible first | exact HB.out | apply below_alloc | apply pw_below_drewN | apply below_drew1 | refine below_set ?_ GE240.out) | exact HB.out)⟩⟩
                          · rw [if_neg c41] at H
                            exact absurd H (by simp)
                        · rw [if_neg c40] at H
                          exact absurd H (by simp)
                      · replace c39 := Bool.eq_false_iff.mpr c39
                        subst c39
                        have H1 : (if x13_3 = true then (computuslaw22_TransferMatchesReference.j4 kj34 l0 l1 t228 t229 false) else (if t239 = true then (computuslaw22_TransferMatchesReference.j4 kj34 l0 l1 t228 t229 true) else (computuslaw22_TransferMatchesReference.j4 kj34 l0 l1 t228 t229 (!(t236 == 0) || (!(t237 == 0) || (!(t238 == 0))))))) = some r := by rw [if_neg (show ¬ (false = true) by decide)] at H; exact H
                        clear H
                        have H := H1
                        clear H1
                        have HC48 := Aside0.mk H
                        clear H
                        go_upto_region 16 with (fail)
                        repeat (go_quiet (fail); go_upto_region 16 with (fail))
                        go_cut [105] (fun v105 wc => ∃ (kq : Nat) (x105_47 : Bool), v105 = .bool x105_47 ∧ Aside0 (computuslaw22_TransferMatchesReference.j4 kq l0 l1 t228 t229 x105_47 = some r) ∧ Aside0 (kq ≤ kj34) ∧ Aside0 (Kd.R k39 39 wc w.heap.size (fun _ => True) v230 t228) ∧ Aside0 (wc.heap[gb240]? = some (.cells #[.int .i64 t236, .int .i64 t237, .int .i64 t238] 36 (0, 0))) ∧ Aside0 (Below w.heap.size w wc))
                        case first =>
                          have H := HC48.out
                          clear HC48
                          by_cases c49 : x13_3 = true
                          · subst c49
                            have H1 : (computuslaw22_TransferMatchesReference.j4 kj34 l0 l1 t228 t229 false) = some r := by rw [if_pos rfl] at H; exact H
                            clear H
                            have H := H1
                            clear H1
                            have H' := Aside0.mk H
                            clear H
                            go_wp2
                            repeat (go_quiet (fail); try go_wp2)
                            go_meet
                            case rel => exact ⟨_, (false), (by first | rfl | (simp; done) | (simp [*]; done)), H', ⟨by have := HJ3.out; have := HJ14.out; have := HK3.out; have := HJ34.out; first | omega | exact Nat.le_refl _⟩, ⟨by (with_reducible repeat (first | apply Kd.R_alloc | apply Kd.R_drewN | apply Kd.R_drew)); exact HO_9.out⟩, ⟨by (with_reducible repeat (first | refine blk_drewN ?_ _ | refine blk_drew ?_ | refine blk_alloc ?_ _)); exact BK240.out⟩, ⟨by repeat (first | (with_reducible first | exact HB.out | apply below_alloc | apply pw_below_drewN | apply below_drew1 | refine below_set ?_ GE240.out) | exact HB.out)⟩⟩
                          · replace c49 := Bool.eq_false_iff.mpr c49
                            subst c49
                            have H1 : (if t239 = true then (computuslaw22_TransferMatchesReference.j4 kj34 l0 l1 t228 t229 true) else (computuslaw22_TransferMatchesReference.j4 kj34 l0 l1 t228 t229 (!(t236 == 0) || (!(t237 == 0) || (!(t238 == 0)))))) = some r := by rw [if_neg (show ¬ (false = true) by decide)] at H; exact H
                            clear H
                            have H := H1
                            clear H1
                            by_cases c50 : t239 = true
                            · subst c50
                              have H1 : (computuslaw22_TransferMatchesReference.j4 kj34 l0 l1 t228 t229 true) = some r := by rw [if_pos rfl] at H; exact H
                              clear H
                              have H := H1
                              clear H1
                              have H' := Aside0.mk H
                              clear H
                              go_wp2
                              repeat (go_quiet (fail); try go_wp2)
                              go_meet
                              case rel => exact ⟨_, (true), (by first | rfl | (simp; done) | (simp [*]; done)), H', ⟨by have := HJ3.out; have := HJ14.out; have := HK3.out; have := HJ34.out; first | omega | exact Nat.le_refl _⟩, ⟨by (with_reducible repeat (first | apply Kd.R_alloc | apply Kd.R_drewN | apply Kd.R_drew)); exact HO_9.out⟩, ⟨by (with_reducible repeat (first | refine blk_drewN ?_ _ | refine blk_drew ?_ | refine blk_alloc ?_ _)); exact BK240.out⟩, ⟨by repeat (first | (with_reducible first | exact HB.out | apply below_alloc | apply pw_below_drewN | apply below_drew1 | refine below_set ?_ GE240.out) | exact HB.out)⟩⟩
                            · replace c50 := Bool.eq_false_iff.mpr c50
                              subst c50
                              have H1 : (computuslaw22_TransferMatchesReference.j4 kj34 l0 l1 t228 t229 (!(t236 == 0) || (!(t237 == 0) || (!(t238 == 0))))) = some r := by rw [if_neg (show ¬ (false = true) by decide)] at H; exact H
                              clear H
                              have H := H1
                              clear H1
                              have H' := Aside0.mk H
                              clear H
                              have hcz51_0 : wc.cell? ⟨gb240, 0, none⟩ = some (.int .i64 t236) := (blk_cell BK240.out 0).trans rfl
                              have hcz51_1 : wc.cell? ⟨gb240, 1, none⟩ = some (.int .i64 t237) := (blk_cell BK240.out 1).trans rfl
                              have hcz51_2 : wc.cell? ⟨gb240, 2, none⟩ = some (.int .i64 t238) := (blk_cell BK240.out 2).trans rfl
                              have hfz51_0 := blk_frozen BK240.out 0
                              have hfz51_1 := blk_frozen BK240.out 1
                              have hfz51_2 := blk_frozen BK240.out 2
                              go_wp2
                              repeat (go_quiet (fail); try go_wp2)
                              go_meet
                              case rel => exact ⟨_, ((!(t236 == 0) || (!(t237 == 0) || (!(t238 == 0))))), (by first | rfl | (simp; done) | (simp [*]; done)), H', ⟨by have := HJ3.out; have := HJ14.out; have := HK3.out; have := HJ34.out; first | omega | exact Nat.le_refl _⟩, ⟨by (with_reducible repeat (first | apply Kd.R_alloc | apply Kd.R_drewN | apply Kd.R_drew)); exact HO_9.out⟩, ⟨by (with_reducible repeat (first | refine blk_drewN ?_ _ | refine blk_drew ?_ | refine blk_alloc ?_ _)); exact BK240.out⟩, ⟨by repeat (first | (with_reducible first | exact HB.out | apply below_alloc | apply pw_below_drewN | apply below_drew1 | refine below_set ?_ GE240.out) | exact HB.out)⟩⟩
                        case rest =>
                          clear HC48
                          try clear c1
                          try clear c2
                          try clear p2
                          try clear q2
                          try clear hx2
                          try clear c3
                          try clear c4
                          try clear c5
                          try clear c6
                          try clear p6
                          try clear c10
                          try clear c20
                          try clear p24
                          try clear q24
                          try clear hx24
                          try clear c29
                          try clear c36
                          try clear c36b0
                          try clear c39
                          try clear c40
                          try clear c40b0
                          try clear c41
                          try clear c41b0
                          try clear c42
                          try clear c42b0
                          try clear c42b1
                          try clear c43
                          try clear c44
                          try clear c44b0
                          try clear c49
                          try clear c50
                          try clear hcz34_0
                          try clear hcz34_1
                          try clear hcz34_2
                          try clear hcz46_0
                          try clear hcz46_1
                          try clear hcz46_2
                          try clear hcz51_0
                          try clear hcz51_1
                          try clear hcz51_2
                          try clear hfz34_0
                          try clear hfz34_1
                          try clear hfz34_2
                          try clear hfz46_0
                          try clear hfz46_1
                          try clear hfz46_2
                          try clear hfz51_0
                          try clear hfz51_1
                          try clear hfz51_2
                          try clear hx241_0
                          try clear hx241_1
                          try clear hx241_2
                          try clear hx242_0
                          try clear hx242_1
                          try clear hx242_2
                          try clear hx243_0
                          try clear hx243_1
                          try clear hx243_2
                          try clear hx244_0
                          try clear hx244_1
                          try clear hx244_2
                          try clear p2
                          try clear p241
                          try clear p242
                          try clear p243
                          try clear p244
                          try clear q241
                          try clear q242
                          try clear q243
                          try clear q244
                          obtain ⟨kq, x105_47, rfl, HA, HJ47, HO_9, BK240, HB⟩ := hcut
                          cases kq with
                          | zero => exact absurd HA.out (by simp [computuslaw22_TransferMatchesReference.j4])
                          | succ kj47 =>
                            have H := HA.out
                            clear HA
                            simp only [computuslaw22_TransferMatchesReference.j4] at H
                            by_cases c52 : x105_47 = true
                            · subst c52
                              have H1 : (none) = some r := by rw [if_pos rfl] at H; exact H
                              clear H
                              have H := H1
                              clear H1
                              exact absurd H (by simp)
                            · replace c52 := Bool.eq_false_iff.mpr c52
                              subst c52
                              have H1 : (computuslaw22_TransferMatchesReference.l1 kj47 l0 l1 t228 t229 (-1) 0) = some r := by rw [if_neg (show ¬ (false = true) by decide)] at H; exact H
                              clear H
                              have H := H1
                              clear H1
                              have H' := Aside0.mk H
                              clear H
                              go_wp2
                              repeat (go_quiet (fail); try go_wp2)
                              go_loopg [15, 16] kj47 (fun kq v15 v16 w' => ∃ (x15_6 : Int) (x16_6 : Int), v15 = .int .i64 x15_6 ∧ v16 = .int .i64 x16_6 ∧ Aside0 (computuslaw22_TransferMatchesReference.l1 kq l0 l1 t228 t229 x15_6 x16_6 = some r) ∧ Aside0 (kq ≤ kj47) ∧ Aside0 (Kd.R k39 39 w' w.heap.size (fun _ => True) v230 t228) ∧ Aside0 (w'.heap[gb240]? = some (.cells #[.int .i64 t236, .int .i64 t237, .int .i64 t238] 36 (0, 0))) ∧ Aside0 (Below w.heap.size w w'))
                              case atStart => exact ⟨((-1)), (0), (by first | rfl | (simp; done) | (simp [*]; done)), (by first | rfl | (simp; done) | (simp [*]; done)), H', ⟨Nat.le_refl _⟩, ⟨by (with_reducible repeat (first | apply Kd.R_alloc | apply Kd.R_drewN | apply Kd.R_drew)); exact HO_9.out⟩, ⟨by (with_reducible repeat (first | refine blk_drewN ?_ _ | refine blk_drew ?_ | refine blk_alloc ?_ _)); exact BK240.out⟩, ⟨by repeat (first | (with_reducible first | exact HB.out | apply below_alloc | apply pw_below_drewN | apply below_drew1 | refine below_set ?_ GE240.out) | exact HB.out)⟩⟩
                              case round =>
                                clear H'
                                try clear c1
                                try clear c2
                                try clear p2
                                try clear q2
                                try clear hx2
                                try clear c3
                                try clear c4
                                try clear c5
                                try clear c6
                                try clear p6
                                try clear c10
                                try clear c20
                                try clear p24
                                try clear q24
                                try clear hx24
                                try clear c29
                                try clear c36
                                try clear c36b0
                                try clear c39
                                try clear c40
                                try clear c40b0
                                try clear c41
                                try clear c41b0
                                try clear c42
                                try clear c42b0
                                try clear c42b1
                                try clear c43
                                try clear c44
                                try clear c44b0
                                try clear c49
                                try clear c50
                                try clear c52
                                try clear hcz34_0
                                try clear hcz34_1
                                try clear hcz34_2
                                try clear hcz46_0
                                try clear hcz46_1
                                try clear hcz46_2
                                try clear hcz51_0
                                try clear hcz51_1
                                try clear hcz51_2
                                try clear hfz34_0
                                try clear hfz34_1
                                try clear hfz34_2
                                try clear hfz46_0
                                try clear hfz46_1
                                try clear hfz46_2
                                try clear hfz51_0
                                try clear hfz51_1
                                try clear hfz51_2
                                try clear hx241_0
                                try clear hx241_1
                                try clear hx241_2
                                try clear hx242_0
                                try clear hx242_1
                                try clear hx242_2
                                try clear hx243_0
                                try clear hx243_1
                                try clear hx243_2
                                try clear hx244_0
                                try clear hx244_1
                                try clear hx244_2
                                try clear p2
                                try clear p24
                                try clear p241
                                try clear p242
                                try clear p243
                                try clear p244
                                try clear p6
                                try clear q2
                                try clear q24
                                try clear q241
                                try clear q242
                                try clear q243
                                try clear q244
                                obtain ⟨x15_6, x16_6, rfl, rfl, HA, HK6, HO_9, BK240, HB⟩ := hrel
                                cases gk with
                                | zero => exact absurd HA.out (by simp [computuslaw22_TransferMatchesReference.l1])
                                | succ k6 =>
                                  have H := HA.out
                                  clear HA
                                  simp only [computuslaw22_TransferMatchesReference.l1] at H
                                  by_cases c53 : x16_6 < (l1.length : Int)
                                  · rw [if_pos c53] at H
                                    have c53b0 : decide (x16_6 < (l1.length : Int)) = true := decide_eq_true c53
                                    clear c53
                                    by_cases c54 : 0 ≤ x16_6
                                    · rw [if_pos c54] at H
                                      have c54b0 : decide (0 ≤ x16_6) = true := decide_eq_true c54
                                      clear c54
                                      by_cases c55 : ((rd_L3 l1 x16_6).length : Int) > 0
                                      · rw [if_pos c55] at H
                                        have c55b0 : decide (0 < ((rd_L3 l1 x16_6).length : Int)) = true := decide_eq_true c55
                                        have c55b1 : decide (0 < (rd_L3 l1 x16_6).length) = true := decide_eq_true (by omega)
                                        clear c55
                                        have H' := Aside0.mk H
                                        clear H
                                        have p245 : 0 ≤ (x16_6 : Int) := of_decide_eq_true (by first | (with_reducible assumption) | assumption)
                                        have q245 : x16_6 < (l1.length : Int) := of_decide_eq_true (by first | (with_reducible assumption) | assumption)
                                        obtain ⟨ad245, A245_0, c245_0, e245, hx245_0, hl245_0, hi245_0⟩ := at_L3 HR1.out x16_6 p245 q245
                                        cases e245
                                        replace hx245_0 := (HB.out.cell (World.block_lt_of_cell? w _ hx245_0)).trans hx245_0
                                        have HR245_0 := Aside0.mk hi245_0
                                        have HC245_0 := Aside0.mk hl245_0
                                        clear hi245_0 hl245_0
                                        replace p245 := eq_true p245
                                        replace q245 := eq_true q245
                                        go_wp2
                                        repeat (go_quiet (fail); try go_wp2)
                                        go_roundg k6
                                        case measure => have := HJ3.out; have := HJ14.out; have := HK3.out; have := HJ34.out; have := HJ47.out; have := HK6.out; omega
                                        case rel => exact ⟨(x16_6), (wrap64 (x16_6 + 1)), (by first | rfl | (simp; done) | (simp [*]; done)), (by first | rfl | (simp; done) | (simp [*]; done)), H', ⟨by have := HJ3.out; have := HJ14.out; have := HK3.out; have := HJ34.out; have := HJ47.out; have := HK6.out; omega⟩, ⟨by (with_reducible repeat (first | apply Kd.R_alloc | apply Kd.R_drewN | apply Kd.R_drew)); exact HO_9.out⟩, ⟨by (with_reducible repeat (first | refine blk_drewN ?_ _ | refine blk_drew ?_ | refine blk_alloc ?_ _)); exact BK240.out⟩, ⟨by repeat (first | (with_reducible first | exact HB.out | apply below_alloc | apply pw_below_drewN | apply below_drew1 | refine below_set ?_ GE240.out) | exact HB.out)⟩⟩
                                      · rw [if_neg c55] at H
                                        have c55b0 : decide (0 < ((rd_L3 l1 x16_6).length : Int)) = false := decide_eq_false c55
                                        have c55b1 : decide (0 < (rd_L3 l1 x16_6).length) = false := decide_eq_false (by omega)
                                        clear c55
                                        have H' := Aside0.mk H
                                        clear H
                                        have p245 : 0 ≤ (x16_6 : Int) := of_decide_eq_true (by first | (with_reducible assumption) | assumption)
                                        have q245 : x16_6 < (l1.length : Int) := of_decide_eq_true (by first | (with_reducible assumption) | assumption)
                                        obtain ⟨ad245, A245_0, c245_0, e245, hx245_0, hl245_0, hi245_0⟩ := at_L3 HR1.out x16_6 p245 q245
                                        cases e245
                                        replace hx245_0 := (HB.out.cell (World.block_lt_of_cell? w _ hx245_0)).trans hx245_0
                                        have HR245_0 := Aside0.mk hi245_0
                                        have HC245_0 := Aside0.mk hl245_0
                                        clear hi245_0 hl245_0
                                        replace p245 := eq_true p245
                                        replace q245 := eq_true q245
                                        go_wp2
                                        repeat (go_quiet (fail); try go_wp2)
                                        go_roundg k6
                                        case measure => have := HJ3.out; have := HJ14.out; have := HK3.out; have := HJ34.out; have := HJ47.out; have := HK6.out; omega
                                        case rel => exact ⟨(x15_6), (wrap64 (x16_6 + 1)), (by first | rfl | (simp; done) | (simp [*]; done)), (by first | rfl | (simp; done) | (simp [*]; done)), H', ⟨by have := HJ3.out; have := HJ14.out; have := HK3.out; have := HJ34.out; have := HJ47.out; have := HK6.out; omega⟩, ⟨by (with_reducible repeat (first | apply Kd.R_alloc | apply Kd.R_drewN | apply Kd.R_drew)); exact HO_9.out⟩, ⟨by (with_reducible repeat (first | refine blk_drewN ?_ _ | refine blk_drew ?_ | refine blk_alloc ?_ _)); exact BK240.out⟩, ⟨by repeat (first | (with_reducible first | exact HB.out | apply below_alloc | apply pw_below_drewN | apply below_drew1 | refine below_set ?_ GE240.out) | exact HB.out)⟩⟩
                                    · rw [if_neg c54] at H
                                      exact absurd H (by simp)
                                  · rw [if_neg c53] at H
                                    have c53b0 : decide (x16_6 < (l1.length : Int)) = false := decide_eq_false c53
                                    clear c53
                                    have H' := Aside0.mk H
                                    clear H
                                    go_wp2
                                    repeat (go_quiet (fail); try go_wp2)
                                    go_loopg [17, 18] k6 (fun kq v17 v18 w' => ∃ (x17_7 : Int) (x18_7 : Int), v17 = .int .i64 x17_7 ∧ v18 = .int .i64 x18_7 ∧ Aside0 (computuslaw22_TransferMatchesReference.l2 kq l0 l1 t228 t229 x17_7 x18_7 = some r) ∧ Aside0 (kq ≤ k6) ∧ Aside0 (Kd.R k39 39 w' w.heap.size (fun _ => True) v230 t228) ∧ Aside0 (w'.heap[gb240]? = some (.cells #[.int .i64 t236, .int .i64 t237, .int .i64 t238] 36 (0, 0))) ∧ Aside0 (Below w.heap.size w w'))
                                    case atStart => exact ⟨(0), (wrap64 (x15_6 + 1)), (by first | rfl | (simp; done) | (simp [*]; done)), (by first | rfl | (simp; done) | (simp [*]; done)), H', ⟨Nat.le_refl _⟩, ⟨by (with_reducible repeat (first | apply Kd.R_alloc | apply Kd.R_drewN | apply Kd.R_drew)); exact HO_9.out⟩, ⟨by (with_reducible repeat (first | refine blk_drewN ?_ _ | refine blk_drew ?_ | refine blk_alloc ?_ _)); exact BK240.out⟩, ⟨by repeat (first | (with_reducible first | exact HB.out | apply below_alloc | apply pw_below_drewN | apply below_drew1 | refine below_set ?_ GE240.out) | exact HB.out)⟩⟩
                                    case round =>
                                      clear H'
                                      try clear c1
                                      try clear c2
                                      try clear p2
                                      try clear q2
                                      try clear hx2
                                      try clear c3
                                      try clear c4
                                      try clear c5
                                      try clear c6
                                      try clear p6
                                      try clear c10
                                      try clear c20
                                      try clear c24
                                      try clear p24
                                      try clear q24
                                      try clear hx24
                                      try clear c29
                                      try clear c36
                                      try clear c36b0
                                      try clear c39
                                      try clear c40
                                      try clear c40b0
                                      try clear c41
                                      try clear c41b0
                                      try clear c42
                                      try clear c42b0
                                      try clear c42b1
                                      try clear c43
                                      try clear c44
                                      try clear c44b0
                                      try clear c49
                                      try clear c50
                                      try clear c52
                                      try clear c53
                                      try clear c53b0
                                      try clear c54
                                      try clear c54b0
                                      try clear c55
                                      try clear c55b0
                                      try clear c55b1
                                      try clear hcz34_0
                                      try clear hcz34_1
                                      try clear hcz34_2
                                      try clear hcz46_0
                                      try clear hcz46_1
                                      try clear hcz46_2
                                      try clear hcz51_0
                                      try clear hcz51_1
                                      try clear hcz51_2
                                      try clear hfz34_0
                                      try clear hfz34_1
                                      try clear hfz34_2
                                      try clear hfz46_0
                                      try clear hfz46_1
                                      try clear hfz46_2
                                      try clear hfz51_0
                                      try clear hfz51_1
                                      try clear hfz51_2
                                      try clear hx241_0
                                      try clear hx241_1
                                      try clear hx241_2
                                      try clear hx242_0
                                      try clear hx242_1
                                      try clear hx242_2
                                      try clear hx243_0
                                      try clear hx243_1
                                      try clear hx243_2
                                      try clear hx244_0
                                      try clear hx244_1
                                      try clear hx244_2
                                      try clear hx245_0
                                      try clear p2
                                      try clear p24
                                      try clear p241
                                      try clear p242
                                      try clear p243
                                      try clear p244
                                      try clear p245
                                      try clear p6
                                      try clear q2
                                      try clear q24
                                      try clear q241
                                      try clear q242
                                      try clear q243
                                      try clear q244
                                      try clear q245
                                      obtain ⟨x17_7, x18_7, rfl, rfl, HA, HK7, HO_9, BK240, HB⟩ := hrel
                                      cases gk with
                                      | zero => exact absurd HA.out (by simp [computuslaw22_TransferMatchesReference.l2])
                                      | succ k7 =>
                                        have H := HA.out
                                        clear HA
                                        simp only [computuslaw22_TransferMatchesReference.l2] at H
                                        have HC56 := Aside0.mk H
                                        clear H
                                        go_upto_region 26 with (fail)
                                        repeat (go_quiet (fail); go_upto_region 26 with (fail))
                                        go_cut [128] (fun v128 wc => ∃ (kq : Nat) (x128_55 : Bool), v128 = .bool x128_55 ∧ Aside0 (computuslaw22_TransferMatchesReference.j7 kq l0 l1 t228 t229 x17_7 x18_7 x128_55 = some r) ∧ Aside0 (kq ≤ k7) ∧ Aside0 (Kd.R k39 39 wc w.heap.size (fun _ => True) v230 t228) ∧ Aside0 (wc.heap[gb240]? = some (.cells #[.int .i64 t236, .int .i64 t237, .int .i64 t238] 36 (0, 0))) ∧ Aside0 (Below w.heap.size w wc))
                                        case first =>
                                          have H := HC56.out
                                          clear HC56
                                          by_cases c57 : x18_7 < (l0.length : Int)
                                          · rw [if_pos c57] at H
                                            have c57b0 : decide (x18_7 < (l0.length : Int)) = true := decide_eq_true c57
                                            clear c57
                                            (first | rw [c57b0] | (simp only [i64_w, i32_w]; rw [c57b0]) | skip)
                                            have H' := Aside0.mk H
                                            clear H
                                            go_wp2
                                            repeat (go_quiet (fail); try go_wp2)
                                            go_meet
                                            case rel => exact ⟨_, ((t229 == 0)), (by first | rfl | (simp; done) | (simp [*]; done)), H', ⟨by have := HJ3.out; have := HJ14.out; have := HK3.out; have := HJ34.out; have := HJ47.out; have := HK6.out; have := HK7.out; first | omega | exact Nat.le_refl _⟩, ⟨by (with_reducible repeat (first | apply Kd.R_alloc | apply Kd.R_drewN | apply Kd.R_drew)); exact HO_9.out⟩, ⟨by (with_reducible repeat (first | refine blk_drewN ?_ _ | refine blk_drew ?_ | refine blk_alloc ?_ _)); exact BK240.out⟩, ⟨by repeat (first | (with_reducible first | exact HB.out | apply below_alloc | apply pw_below_drewN | apply below_drew1 | refine below_set ?_ GE240.out) | exact HB.out)⟩⟩
                                          · rw [if_neg c57] at H
                                            have c57b0 : decide (x18_7 < (l0.length : Int)) = false := decide_eq_false c57
                                            clear c57
                                            (first | rw [c57b0] | (simp only [i64_w, i32_w]; rw [c57b0]) | skip)
                                            have H' := Aside0.mk H
                                            clear H
                                            go_wp2
                                            repeat (go_quiet (fail); try go_wp2)
                                            go_meet
                                            case rel => exact ⟨_, (false), (by first | rfl | (simp; done) | (simp [*]; done)), H', ⟨by have := HJ3.out; have := HJ14.out; have := HK3.out; have := HJ34.out; have := HJ47.out; have := HK6.out; have := HK7.out; first | omega | exact Nat.le_refl _⟩, ⟨by (with_reducible repeat (first | apply Kd.R_alloc | apply Kd.R_drewN | apply Kd.R_drew)); exact HO_9.out⟩, ⟨by (with_reducible repeat (first | refine blk_drewN ?_ _ | refine blk_drew ?_ | refine blk_alloc ?_ _)); exact BK240.out⟩, ⟨by repeat (first | (with_reducible first | exact HB.out | apply below_alloc | apply pw_below_drewN | apply below_drew1 | refine below_set ?_ GE240.out) | exact HB.out)⟩⟩
                                        case rest =>
                                          clear HC56
                                          try clear c1
                                          try clear c2
                                          try clear p2
                                          try clear q2
                                          try clear hx2
                                          try clear c3
                                          try clear c4
                                          try clear c5
                                          try clear c6
                                          try clear p6
                                          try clear c10
                                          try clear c20
                                          try clear c24
                                          try clear p24
                                          try clear q24
                                          try clear hx24
                                          try clear c29
                                          try clear c36
                                          try clear c36b0
                                          try clear c39
                                          try clear c40
                                          try clear c40b0
                                          try clear c41
                                          try clear c41b0
                                          try clear c42
                                          try clear c42b0
                                          try clear c42b1
                                          try clear c43
                                          try clear c44
                                          try clear c44b0
                                          try clear c49
                                          try clear c50
                                          try clear c52
                                          try clear c53
                                          try clear c53b0
                                          try clear c54
                                          try clear c54b0
                                          try clear c55
                                          try clear c55b0
                                          try clear c55b1
                                          try clear c57
                                          try clear c57b0
                                          try clear hcz34_0
                                          try clear hcz34_1
                                          try clear hcz34_2
                                          try clear hcz46_0
                                          try clear hcz46_1
                                          try clear hcz46_2
                                          try clear hcz51_0
                                          try clear hcz51_1
                                          try clear hcz51_2
                                          try clear hfz34_0
                                          try clear hfz34_1
                                          try clear hfz34_2
                                          try clear hfz46_0
                                          try clear hfz46_1
                                          try clear hfz46_2
                                          try clear hfz51_0
                                          try clear hfz51_1
                                          try clear hfz51_2
                                          try clear hx241_0
                                          try clear hx241_1
                                          try clear hx241_2
                                          try clear hx242_0
                                          try clear hx242_1
                                          try clear hx242_2
                                          try clear hx243_0
                                          try clear hx243_1
                                          try clear hx243_2
                                          try clear hx244_0
                                          try clear hx244_1
                                          try clear hx244_2
                                          try clear hx245_0
                                          try clear p2
                                          try clear p24
                                          try clear p241
                                          try clear p242
                                          try clear p243
                                          try clear p244
                                          try clear p245
                                          try clear p6
                                          try clear q2
                                          try clear q24
                                          try clear q241
                                          try clear q242
                                          try clear q243
                                          try clear q244
                                          try clear q245
                                          obtain ⟨kq, x128_55, rfl, HA, HJ55, HO_9, BK240, HB⟩ := hcut
                                          cases kq with
                                          | zero => exact absurd HA.out (by simp [computuslaw22_TransferMatchesReference.j7])
                                          | succ kj55 =>
                                            have H := HA.out
                                            clear HA
                                            simp only [computuslaw22_TransferMatchesReference.j7] at H
                                            by_cases c58 : x128_55 = true
                                            · subst c58
                                              have H1 : (if 0 ≤ x18_7 then (if x18_7 < (l0.length : Int) then (if rdOf false l0 x18_7 = true then (computuslaw22_TransferMatchesReference.j8 kj55 l0 l1 t228 t229 (wrap64 (x17_7 + 1)) x18_7) else (computuslaw22_TransferMatchesReference.j8 kj55 l0 l1 t228 t229 x17_7 x18_7)) else (none)) else (none)) = some r := by rw [if_pos rfl] at H; exact H
                                              clear H
                                              have H := H1
                                              clear H1
                                              by_cases c59 : 0 ≤ x18_7
                                              · rw [if_pos c59] at H
                                                have c59b0 : decide (0 ≤ x18_7) = true := decide_eq_true c59
                                                clear c59
                                                by_cases c60 : x18_7 < (l0.length : Int)
                                                · rw [if_pos c60] at H
                                                  have c60b0 : decide (x18_7 < (l0.length : Int)) = true := decide_eq_true c60
                                                  clear c60
                                                  have HC61 := Aside0.mk H
                                                  clear H
                                                  have p247 : 0 ≤ (x18_7 : Int) := of_decide_eq_true (by first | (with_reducible assumption) | assumption)
                                                  have q247 : x18_7 < (l0.length : Int) := of_decide_eq_true (by first | (with_reducible assumption) | assumption)
                                                  obtain ⟨ad247, e247, hx247_0⟩ := Kd.at_bool HR0.out x18_7 p247 q247
                                                  cases e247
                                                  replace hx247_0 := (HB.out.cell (World.block_lt_of_cell? w _ hx247_0)).trans hx247_0
                                                  replace p247 := eq_true p247
                                                  replace q247 := eq_true q247
                                                  go_upto_if 134 with (fail)
                                                  repeat (go_quiet (fail); go_upto_if 134 with (fail))
                                                  go_cut [17] (fun v17 wc => ∃ (kq : Nat) (x17_60 : Int), v17 = .int .i64 x17_60 ∧ Aside0 (computuslaw22_TransferMatchesReference.j8 kq l0 l1 t228 t229 x17_60 x18_7 = some r) ∧ Aside0 (kq ≤ kj55) ∧ Aside0 (Kd.R k39 39 wc w.heap.size (fun _ => True) v230 t228) ∧ Aside0 (wc.heap[gb240]? = some (.cells #[.int .i64 t236, .int .i64 t237, .int .i64 t238] 36 (0, 0))) ∧ Aside0 (Below w.heap.size w wc))
                                                  case first =>
                                                    have H := HC61.out
                                                    clear HC61
                                                    obtain ⟨bq62, hbq62⟩ : ∃ b_ : Bool, b_ = (rdOf false l0 x18_7) := ⟨_, rfl⟩
                                                    replace H : (if bq62 = true then (computuslaw22_TransferMatchesReference.j8 kj55 l0 l1 t228 t229 (wrap64 (x17_7 + 1)) x18_7) else (computuslaw22_TransferMatchesReference.j8 kj55 l0 l1 t228 t229 x17_7 x18_7)) = some r := by rw [← hbq62] at H; exact H
                                                    have Nbq62 := Aside0.mk hbq62
                                                    clear hbq62
                                                    (try rw [← Nbq62.out])
                                                    by_cases c63 : bq62 = true
                                                    · subst c63
                                                      have H1 : (computuslaw22_TransferMatchesReference.j8 kj55 l0 l1 t228 t229 (wrap64 (x17_7 + 1)) x18_7) = some r := by rw [if_pos rfl] at H; exact H
                                                      clear H
                                                      have H := H1
                                                      clear H1
                                                      have H' := Aside0.mk H
                                                      clear H
                                                      go_wp2
                                                      repeat (go_quiet (fail); try go_wp2)
                                                      go_meet
                                                      case rel => exact ⟨_, (wrap64 (x17_7 + 1)), (by first | rfl | (simp; done) | (simp [*]; done)), H', ⟨by have := HJ3.out; have := HJ14.out; have := HK3.out; have := HJ34.out; have := HJ47.out; have := HK6.out; have := HK7.out; have := HJ55.out; first | omega | exact Nat.le_refl _⟩, ⟨by (with_reducible repeat (first | apply Kd.R_alloc | apply Kd.R_drewN | apply Kd.R_drew)); exact HO_9.out⟩, ⟨by (with_reducible repeat (first | refine blk_drewN ?_ _ | refine blk_drew ?_ | refine blk_alloc ?_ _)); exact BK240.out⟩, ⟨by repeat (first | (with_reducible first | exact HB.out | apply below_alloc | apply pw_below_drewN | apply below_drew1 | refine below_set ?_ GE240.out) | exact HB.out)⟩⟩
                                                    · replace c63 := Bool.eq_false_iff.mpr c63
                                                      subst c63
                                                      have H1 : (computuslaw22_TransferMatchesReference.j8 kj55 l0 l1 t228 t229 x17_7 x18_7) = some r := by rw [if_neg (show ¬ (false = true) by decide)] at H; exact H
                                                      clear H
                                                      have H := H1
                                                      clear H1
                                                      have H' := Aside0.mk H
                                                      clear H
                                                      go_wp2
                                                      repeat (go_quiet (fail); try go_wp2)
                                                      go_meet
                                                      case rel => exact ⟨_, (x17_7), (by first | rfl | (simp; done) | (simp [*]; done)), H', ⟨by have := HJ3.out; have := HJ14.out; have := HK3.out; have := HJ34.out; have := HJ47.out; have := HK6.out; have := HK7.out; have := HJ55.out; first | omega | exact Nat.le_refl _⟩, ⟨by (with_reducible repeat (first | apply Kd.R_alloc | apply Kd.R_drewN | apply Kd.R_drew)); exact HO_9.out⟩, ⟨by (with_reducible repeat (first | refine blk_drewN ?_ _ | refine blk_drew ?_ | refine blk_alloc ?_ _)); exact BK240.out⟩, ⟨by repeat (first | (with_reducible first | exact HB.out | apply below_alloc | apply pw_below_drewN | apply below_drew1 | refine below_set ?_ GE240.out) | exact HB.out)⟩⟩
                                                  case rest =>
                                                    clear HC61
                                                    try clear c1
                                                    try clear c2
                                                    try clear p2
                                                    try clear q2
                                                    try clear hx2
                                                    try clear c3
                                                    try clear c4
                                                    try clear c5
                                                    try clear c6
                                                    try clear p6
                                                    try clear q6
                                                    try clear c10
                                                    try clear c20
                                                    try clear c24
                                                    try clear p24
                                                    try clear q24
                                                    try clear hx24
                                                    try clear c29
                                                    try clear c36
                                                    try clear c36b0
                                                    try clear c39
                                                    try clear c40
                                                    try clear c40b0
                                                    try clear c41
                                                    try clear c41b0
                                                    try clear c42
                                                    try clear c42b0
                                                    try clear c42b1
                                                    try clear c43
                                                    try clear c44
                                                    try clear c44b0
                                                    try clear c49
                                                    try clear c50
                                                    try clear c52
                                                    try clear c53
                                                    try clear c53b0
                                                    try clear c54
                                                    try clear c54b0
                                                    try clear c55
                                                    try clear c55b0
                                                    try clear c55b1
                                                    try clear c57
                                                    try clear c57b0
                                                    try clear c58
                                                    try clear c59
                                                    try clear c59b0
                                                    try clear c60
                                                    try clear c60b0
                                                    try clear q62
                                                    try clear c63
                                                    try clear hcz34_0
                                                    try clear hcz34_1
                                                    try clear hcz34_2
                                                    try clear hcz46_0
                                                    try clear hcz46_1
                                                    try clear hcz46_2
                                                    try clear hcz51_0
                                                    try clear hcz51_1
                                                    try clear hcz51_2
                                                    try clear hfz34_0
                                                    try clear hfz34_1
                                                    try clear hfz34_2
                                                    try clear hfz46_0
                                                    try clear hfz46_1
                                                    try clear hfz46_2
                                                    try clear hfz51_0
                                                    try clear hfz51_1
                                                    try clear hfz51_2
                                                    try clear hx241_0
                                                    try clear hx241_1
                                                    try clear hx241_2
                                                    try clear hx242_0
                                                    try clear hx242_1
                                                    try clear hx242_2
                                                    try clear hx243_0
                                                    try clear hx243_1
                                                    try clear hx243_2
                                                    try clear hx244_0
                                                    try clear hx244_1
                                                    try clear hx244_2
                                                    try clear hx245_0
                                                    try clear hx247_0
                                                    try clear p2
                                                    try clear p24
                                                    try clear p241
                                                    try clear p242
                                                    try clear p243
                                                    try clear p244
                                                    try clear p245
                                                    try clear p247
                                                    try clear p6
                                                    try clear q2
                                                    try clear q24
                                                    try clear q241
                                                    try clear q242
                                                    try clear q243
                                                    try clear q244
                                                    try clear q245
                                                    try clear q247
                                                    obtain ⟨kq, x17_60, rfl, HA, HJ60, HO_9, BK240, HB⟩ := hcut
                                                    cases kq with
                                                    | zero => exact absurd HA.out (by simp [computuslaw22_TransferMatchesReference.j8])
                                                    | succ kj60 =>
                                                      have H := HA.out
                                                      clear HA
                                                      simp only [computuslaw22_TransferMatchesReference.j8] at H
                                                      have H' := Aside0.mk H
                                                      clear H
                                                      go_wp2
                                                      repeat (go_quiet (fail); try go_wp2)
                                                      go_loopg [17, 19] kj60 (fun kq v17 v19 w' => ∃ (x17_10 : Int) (x19_10 : Int), v17 = .int .i64 x17_10 ∧ v19 = .int .i64 x19_10 ∧ Aside0 (computuslaw22_TransferMatchesReference.l3 kq l0 l1 t228 t229 x17_10 x18_7 x19_10 = some r) ∧ Aside0 (kq ≤ kj60) ∧ Aside0 (Kd.R k39 39 w' w.heap.size (fun _ => True) v230 t228) ∧ Aside0 (w'.heap[gb240]? = some (.cells #[.int .i64 t236, .int .i64 t237, .int .i64 t238] 36 (0, 0))) ∧ Aside0 (Below w.heap.size w w'))
                                                      case atStart => exact ⟨(x17_60), (0), (by first | rfl | (simp; done) | (simp [*]; done)), (by first | rfl | (simp; done) | (simp [*]; done)), H', ⟨Nat.le_refl _⟩, ⟨by (with_reducible repeat (first | apply Kd.R_alloc | apply Kd.R_drewN | apply Kd.R_drew)); exact HO_9.out⟩, ⟨by (with_reducible repeat (first | refine blk_drewN ?_ _ | refine blk_drew ?_ | refine blk_alloc ?_ _)); exact BK240.out⟩, ⟨by repeat (first | (with_reducible first | exact HB.out | apply below_alloc | apply pw_below_drewN | apply below_drew1 | refine below_set ?_ GE240.out) | exact HB.out)⟩⟩
                                                      case round =>
                                                        clear H'
                                                        try clear c1
                                                        try clear c2
                                                        try clear p2
                                                        try clear q2
                                                        try clear hx2
                                                        try clear c3
                                                        try clear c4
                                                        try clear c5
                                                        try clear c6
                                                        try clear p6
                                                        try clear q6
                                                        try clear c10
                                                        try clear c20
                                                        try clear c24
                                                        try clear p24
                                                        try clear q24
                                                        try clear hx24
                                                        try clear c29
                                                        try clear c36
                                                        try clear c36b0
                                                        try clear c39
                                                        try clear c40
                                                        try clear c40b0
                                                        try clear c41
                                                        try clear c41b0
                                                        try clear c42
                                                        try clear c42b0
                                                        try clear c42b1
                                                        try clear c43
                                                        try clear c44
                                                        try clear c44b0
                                                        try clear c49
                                                        try clear c50
                                                        try clear c52
                                                        try clear c53
                                                        try clear c53b0
                                                        try clear c54
                                                        try clear c54b0
                                                        try clear c55
                                                        try clear c55b0
                                                        try clear c55b1
                                                        try clear c57
                                                        try clear c57b0
                                                        try clear c58
                                                        try clear c59
                                                        try clear c59b0
                                                        try clear c60
                                                        try clear c60b0
                                                        try clear q62
                                                        try clear c63
                                                        try clear hcz34_0
                                                        try clear hcz34_1
                                                        try clear hcz34_2
                                                        try clear hcz46_0
                                                        try clear hcz46_1
                                                        try clear hcz46_2
                                                        try clear hcz51_0
                                                        try clear hcz51_1
                                                        try clear hcz51_2
                                                        try clear hfz34_0
                                                        try clear hfz34_1
                                                        try clear hfz34_2
                                                        try clear hfz46_0
                                                        try clear hfz46_1
                                                        try clear hfz46_2
                                                        try clear hfz51_0
                                                        try clear hfz51_1
                                                        try clear hfz51_2
                                                        try clear hx241_0
                                                        try clear hx241_1
                                                        try clear hx241_2
                                                        try clear hx242_0
                                                        try clear hx242_1
                                                        try clear hx242_2
                                                        try clear hx243_0
                                                        try clear hx243_1
                                                        try clear hx243_2
                                                        try clear hx244_0
                                                        try clear hx244_1
                                                        try clear hx244_2
                                                        try clear hx245_0
                                                        try clear hx247_0
                                                        try clear p2
                                                        try clear p24
                                                        try clear p241
                                                        try clear p242
                                                        try clear p243
                                                        try clear p244
                                                        try clear p245
                                                        try clear p247
                                                        try clear p6
                                                        try clear q2
                                                        try clear q24
                                                        try clear q241
                                                        try clear q242
                                                        try clear q243
                                                        try clear q244
                                                        try clear q245
                                                        try clear q247
                                                        try clear q6
                                                        try clear q62
                                                        obtain ⟨x17_10, x19_10, rfl, rfl, HA, HK10, HO_9, BK240, HB⟩ := hrel
                                                        cases gk with
                                                        | zero => exact absurd HA.out (by simp [computuslaw22_TransferMatchesReference.l3])
                                                        | succ k10 =>
                                                          have H := HA.out
                                                          clear HA
                                                          simp only [computuslaw22_TransferMatchesReference.l3] at H
                                                          by_cases c64 : x19_10 < (t228.length : Int)
                                                          · rw [if_pos c64] at H
                                                            have c64b0 : decide (x19_10 < (t228.length : Int)) = true := decide_eq_true c64
                                                            clear c64
                                                            by_cases c65 : 0 ≤ x19_10
                                                            · rw [if_pos c65] at H
                                                              have c65b0 : decide (0 ≤ x19_10) = true := decide_eq_true c65
                                                              clear c65
                                                              by_cases c66 : ((rd_T39 t228 x19_10).f2) = x18_7
                                                              · rw [if_pos c66] at H
                                                                have c66b0 : (((rd_T39 t228 x19_10).f2) == x18_7) = true := beq_iff_eq.mpr c66
                                                                have c66b1 : (((rd_T39 t228 x19_10).f2) != x18_7) = false := bne_eq_false_iff_eq.mpr c66
                                                                clear c66
                                                                have H' := Aside0.mk H
                                                                clear H
                                                                obtain ⟨Ao67, co67, eo67⟩ := Kd.R_slice HO_9.out
                                                                subst eo67
                                                                have p248 : 0 ≤ (x19_10 : Int) := of_decide_eq_true (by first | (with_reducible assumption) | assumption)
                                                                have q248 : x19_10 < (t228.length : Int) := of_decide_eq_true (by first | (with_reducible assumption) | assumption)
                                                                obtain ⟨ad248, e248, hx248_0, hx248_1, hx248_2⟩ := at_T39 (Kd.R_reads' HO_9.out).2.2 x19_10 p248 q248
                                                                cases e248
                                                                replace p248 := eq_true p248
                                                                replace q248 := eq_true q248
                                                                go_wp2
                                                                repeat (go_quiet (fail); try go_wp2)
                                                                go_roundg k10
                                                                case measure => have := HJ3.out; have := HJ14.out; have := HK3.out; have := HJ34.out; have := HJ47.out; have := HK6.out; have := HK7.out; have := HJ55.out; have := HJ60.out; have := HK10.out; omega
                                                                case rel => exact ⟨(wrap64 (x17_10 - 1)), (wrap64 (x19_10 + 1)), (by first | rfl | (simp; done) | (simp [*]; done)), (by first | rfl | (simp; done) | (simp [*]; done)), H', ⟨by have := HJ3.out; have := HJ14.out; have := HK3.out; have := HJ34.out; have := HJ47.out; have := HK6.out; have := HK7.out; have := HJ55.out; have := HJ60.out; have := HK10.out; omega⟩, ⟨by (with_reducible repeat (first | apply Kd.R_alloc | apply Kd.R_drewN | apply Kd.R_drew)); exact HO_9.out⟩, ⟨by (with_reducible repeat (first | refine blk_drewN ?_ _ | refine blk_drew ?_ | refine blk_alloc ?_ _)); exact BK240.out⟩, ⟨by repeat (first | (with_reducible first | exact HB.out | apply below_alloc | apply pw_below_drewN | apply below_drew1 | refine below_set ?_ GE240.out) | exact HB.out)⟩⟩
                                                              · rw [if_neg c66] at H
                                                                have c66b0 : (((rd_T39 t228 x19_10).f2) == x18_7) = false := beq_eq_false_iff_ne.mpr c66
                                                                have c66b1 : (((rd_T39 t228 x19_10).f2) != x18_7) = true := bne_iff_ne.mpr c66
                                                                have H' := Aside0.mk H
                                                                clear H
                                                                obtain ⟨Ao68, co68, eo68⟩ := Kd.R_slice HO_9.out
                                                                subst eo68
                                                                have p248 : 0 ≤ (x19_10 : Int) := of_decide_eq_true (by first | (with_reducible assumption) | assumption)
                                                                have q248 : x19_10 < (t228.length : Int) := of_decide_eq_true (by first | (with_reducible assumption) | assumption)
                                                                obtain ⟨ad248, e248, hx248_0, hx248_1, hx248_2⟩ := at_T39 (Kd.R_reads' HO_9.out).2.2 x19_10 p248 q248
                                                                cases e248
                                                                replace p248 := eq_true p248
                                                                replace q248 := eq_true q248
                                                                go_wp2
                                                                repeat (go_quiet (fail); try go_wp2)
                                                                go_roundg k10
                                                                case measure => have := HJ3.out; have := HJ14.out; have := HK3.out; have := HJ34.out; have := HJ47.out; have := HK6.out; have := HK7.out; have := HJ55.out; have := HJ60.out; have := HK10.out; omega
                                                                case rel => exact ⟨(x17_10), (wrap64 (x19_10 + 1)), (by first | rfl | (simp; done) | (simp [*]; done)), (by first | rfl | (simp; done) | (simp [*]; done)), H', ⟨by have := HJ3.out; have := HJ14.out; have := HK3.out; have := HJ34.out; have := HJ47.out; have := HK6.out; have := HK7.out; have := HJ55.out; have := HJ60.out; have := HK10.out; omega⟩, ⟨by (with_reducible repeat (first | apply Kd.R_alloc | apply Kd.R_drewN | apply Kd.R_drew)); exact HO_9.out⟩, ⟨by (with_reducible repeat (first | refine blk_drewN ?_ _ | refine blk_drew ?_ | refine blk_alloc ?_ _)); exact BK240.out⟩, ⟨by repeat (first | (with_reducible first | exact HB.out | apply below_alloc | apply pw_below_drewN | apply below_drew1 | refine below_set ?_ GE240.out) | exact HB.out)⟩⟩
                                                            · rw [if_neg c65] at H
                                                              exact absurd H (by simp)
                                                          · rw [if_neg c64] at H
                                                            have c64b0 : decide (x19_10 < (t228.length : Int)) = false := decide_eq_false c64
                                                            clear c64
                                                            have H' := Aside0.mk H
                                                            clear H
                                                            obtain ⟨Ao69, co69, eo69⟩ := Kd.R_slice HO_9.out
                                                            subst eo69
                                                            go_wp2
                                                            repeat (go_quiet (fail); try go_wp2)
                                                            go_roundg k10
                                                            case measure => have := HJ3.out; have := HJ14.out; have := HK3.out; have := HJ34.out; have := HJ47.out; have := HK6.out; have := HK7.out; have := HJ55.out; have := HJ60.out; have := HK10.out; omega
                                                            case rel => exact ⟨(x17_10), (wrap64 (x18_7 + 1)), (by first | rfl | (simp; done) | (simp [*]; done)), (by first | rfl | (simp; done) | (simp [*]; done)), H', ⟨by have := HJ3.out; have := HJ14.out; have := HK3.out; have := HJ34.out; have := HJ47.out; have := HK6.out; have := HK7.out; have := HJ55.out; have := HJ60.out; have := HK10.out; omega⟩, ⟨by (with_reducible repeat (first | apply Kd.R_alloc | apply Kd.R_drewN | apply Kd.R_drew)); exact HO_9.out⟩, ⟨by (with_reducible repeat (first | refine blk_drewN ?_ _ | refine blk_drew ?_ | refine blk_alloc ?_ _)); exact BK240.out⟩, ⟨by repeat (first | (with_reducible first | exact HB.out | apply below_alloc | apply pw_below_drewN | apply below_drew1 | refine below_set ?_ GE240.out) | exact HB.out)⟩⟩
                                                · rw [if_neg c60] at H
                                                  exact absurd H (by simp)
                                              · rw [if_neg c59] at H
                                                exact absurd H (by simp)
                                            · replace c58 := Bool.eq_false_iff.mpr c58
                                              subst c58
                                              have H1 : ((transfer_Room.f kj55 l0 l1).bind fun t246 => (some (t246 == x17_7))) = some r := by rw [if_neg (show ¬ (false = true) by decide)] at H; exact H
                                              clear H
                                              have H := H1
                                              clear H1
                                              replace H := Option.bind_eq_some_iff.mp H
                                              obtain ⟨t246, A700, H⟩ := H
                                              replace H : (some (t246 == x17_7)) = some r := H
                                              have A70 := Aside0.mk A700
                                              clear A700
                                              obtain rfl := Option.some.inj H
                                              go_wp2_with (first | (go_at_call 16; (with_reducible refine (transfer_Room.calls kj55 _ _ l0 _ _ l1 t246 _ ?side1 ?side2 ?side3 ?side4 A70.out).mono ?_); (case side1 => repeat (first | exact (Kd.C_below HR0.out HB.out) | (with_reducible refine Kd.C_alloc ?_ _) | (with_reducible refine Kd.C_drewN ?_ _) | (with_reducible refine Kd.C_drew ?_))); (case side2 => exact HC0.out); (case side3 => repeat (first | exact (Kd.C_below HR1.out HB.out) | (with_reducible refine Kd.C_alloc ?_ _) | (with_reducible refine Kd.C_drewN ?_ _) | (with_reducible refine Kd.C_drew ?_))); (case side4 => exact HC1.out); rintro e w71 ⟨rfl, hb⟩; have n0_ := Aside0.mk (Kd.R_below (by (with_reducible repeat (first | apply Kd.R_alloc | apply Kd.R_drewN | apply Kd.R_drew)); exact HO_9.out) hb); have n1_ := Aside0.mk (blk_below (g := gb240) (o := .cells #[.int .i64 t236, .int .i64 t237, .int .i64 t238] 36 (0, 0)) (by (with_reducible repeat (first | refine blk_drewN ?_ _ | refine blk_drew ?_ | refine blk_alloc ?_ _)); exact BK240.out) hb); have n2_ := Aside0.mk (below_step (by repeat (first | (with_reducible first | exact HB.out | apply below_alloc | apply pw_below_drewN | apply below_drew1 | refine below_set ?_ GE240.out) | exact HB.out)) hb); clear HO_9; clear BK240; clear HB; have HO_9 := n0_; have BK240 := n1_; have HB := n2_; clear n0_ n1_ n2_; (try clear hb); (try clear hb2); (try clear hk); (try clear hi)))
                                              repeat (go_quiet (first | (go_at_call 16; (with_reducible refine (transfer_Room.calls kj55 _ _ l0 _ _ l1 t246 _ ?side1 ?side2 ?side3 ?side4 A70.out).mono ?_); (case side1 => repeat (first | exact (Kd.C_below HR0.out HB.out) | (with_reducible refine Kd.C_alloc ?_ _) | (with_reducible refine Kd.C_drewN ?_ _) | (with_reducible refine Kd.C_drew ?_))); (case side2 => exact HC0.out); (case side3 => repeat (first | exact (Kd.C_below HR1.out HB.out) | (with_reducible refine Kd.C_alloc ?_ _) | (with_reducible refine Kd.C_drewN ?_ _) | (with_reducible refine Kd.C_drew ?_))); (case side4 => exact HC1.out); rintro e w71 ⟨rfl, hb⟩; have n0_ := Aside0.mk (Kd.R_below (by (with_reducible repeat (first | apply Kd.R_alloc | apply Kd.R_drewN | apply Kd.R_drew)); exact HO_9.out) hb); have n1_ := Aside0.mk (blk_below (g := gb240) (o := .cells #[.int .i64 t236, .int .i64 t237, .int .i64 t238] 36 (0, 0)) (by (with_reducible repeat (first | refine blk_drewN ?_ _ | refine blk_drew ?_ | refine blk_alloc ?_ _)); exact BK240.out) hb); have n2_ := Aside0.mk (below_step (by repeat (first | (with_reducible first | exact HB.out | apply below_alloc | apply pw_below_drewN | apply below_drew1 | refine below_set ?_ GE240.out) | exact HB.out)) hb); clear HO_9; clear BK240; clear HB; have HO_9 := n0_; have BK240 := n1_; have HB := n2_; clear n0_ n1_ n2_; (try clear hb); (try clear hb2); (try clear hk); (try clear hi))); try go_wp2_with (first | (go_at_call 16; (with_reducible refine (transfer_Room.calls kj55 _ _ l0 _ _ l1 t246 _ ?side1 ?side2 ?side3 ?side4 A70.out).mono ?_); (case side1 => repeat (first | exact (Kd.C_below HR0.out HB.out) | (with_reducible refine Kd.C_alloc ?_ _) | (with_reducible refine Kd.C_drewN ?_ _) | (with_reducible refine Kd.C_drew ?_))); (case side2 => exact HC0.out); (case side3 => repeat (first | exact (Kd.C_below HR1.out HB.out) | (with_reducible refine Kd.C_alloc ?_ _) | (with_reducible refine Kd.C_drewN ?_ _) | (with_reducible refine Kd.C_drew ?_))); (case side4 => exact HC1.out); rintro e w71 ⟨rfl, hb⟩; have n0_ := Aside0.mk (Kd.R_below (by (with_reducible repeat (first | apply Kd.R_alloc | apply Kd.R_drewN | apply Kd.R_drew)); exact HO_9.out) hb); have n1_ := Aside0.mk (blk_below (g := gb240) (o := .cells #[.int .i64 t236, .int .i64 t237, .int .i64 t238] 36 (0, 0)) (by (with_reducible repeat (first | refine blk_drewN ?_ _ | refine blk_drew ?_ | refine blk_alloc ?_ _)); exact BK240.out) hb); have n2_ := Aside0.mk (below_step (by repeat (first | (with_reducible first | exact HB.out | apply below_alloc | apply pw_below_drewN | apply below_drew1 | refine below_set ?_ GE240.out) | exact HB.out)) hb); clear HO_9; clear BK240; clear HB; have HO_9 := n0_; have BK240 := n1_; have HB := n2_; clear n0_ n1_ n2_; (try clear hb); (try clear hb2); (try clear hk); (try clear hi))))
                                              go_ret
                                              exact ⟨by first | rfl | (simp [errW_none, errW_some] <;> rfl) | (simp [*, errW_none, errW_some] <;> rfl), by repeat (first | (with_reducible first | exact HB.out | apply below_alloc | apply pw_below_drewN | apply below_drew1 | refine below_set ?_ GE240.out) | exact HB.out)⟩

def computuslaw22_TransferMatchesReference.Pure : Prop := ∀ (l0 : List Bool) (l1 : List (List Int)) (a2 : Int), l0.length ≤ maxLen → l1.length ≤ maxLen → (∀ x ∈ l1, (x.length ≤ maxLen ∧ ∀ y1 ∈ x, (Lit.int .i64 y1).wf = true)) → (Lit.int .i64 a2).wf = true → ∃ k, computuslaw22_TransferMatchesReference.f k l0 l1 a2 = some true

end Go.Proofs.Ytjjgkgedadjodaa.Q
