-- Written by wip/tool/qprint.py: the print of the kit, with hand-proved contracts put in. Lean checks it.
import Derived.Test.YtjjgkgedadjodaaQx0
import Derived.Test.YtjjgkgedadjodaaQx7
import Derived.Test.YtjjgkgedadjodaaQx8
import Derived.Test.YtjjgkgedadjodaaQx11
import Derived.Test.YtjjgkgedadjodaaHAssign
namespace Go.Proofs.Ytjjgkgedadjodaa.Q
open Go.RowKit Go.Proofs.YtjjgkgedadjodaaW.PrintWords Go.Proofs.YtjjgkgedadjodaaW.PrintLast Go.Proofs.YtjjgkgedadjodaaW.PrintMore
attribute [local go_sem] max2_int min2_int max_two min_two max_three min_three max_four min_four   -- for this text's walks alone
set_option linter.unusedVariables false
set_option linter.unusedSimpArgs false

/-! ### computuslaw22_TransferEarliest: function 4 -/
mutual
def computuslaw22_TransferEarliest.j0 : Nat → List Bool → List (List Int) → Bool → Option (Bool)
  | 0, _, _, _ => none
  | k + 1, x0, x1, x17 => if x17 = true then ((computuslaw22_awake.f k).bind fun t252 => (some t252)) else ((transfer_Assign.f x0 x1).bind fun bt253 => (if bt253.2 = 0 then (computuslaw22_TransferEarliest.l0 k x0 bt253.1 0) else (some ((bt253.1.length : Int) == 0))))
def computuslaw22_TransferEarliest.l0 : Nat → List Bool → List (S36) → Int → Option (Bool)
  | 0, _, _, _ => none
  | k + 1, x0, x5, x7 => if x7 < (x5.length : Int) then (if 0 ≤ x7 then (if ((rd_T36 x5 x7).f1) < 0 then (computuslaw22_TransferEarliest.j2 k x0 x5 x7 true ((rd_T36 x5 x7).f0) ((rd_T36 x5 x7).f1) ((rd_T36 x5 x7).f2)) else (if ((rd_T36 x5 x7).f2) ≤ ((rd_T36 x5 x7).f1) then (computuslaw22_TransferEarliest.j2 k x0 x5 x7 true ((rd_T36 x5 x7).f0) ((rd_T36 x5 x7).f1) ((rd_T36 x5 x7).f2)) else (if ((rd_T36 x5 x7).f2) ≥ (x0.length : Int) then (computuslaw22_TransferEarliest.j2 k x0 x5 x7 true ((rd_T36 x5 x7).f0) ((rd_T36 x5 x7).f1) ((rd_T36 x5 x7).f2)) else (if 0 ≤ ((rd_T36 x5 x7).f2) then (if ((rd_T36 x5 x7).f2) < (x0.length : Int) then (computuslaw22_TransferEarliest.j2 k x0 x5 x7 (!(rdOf false x0 ((rd_T36 x5 x7).f2))) ((rd_T36 x5 x7).f0) ((rd_T36 x5 x7).f1) ((rd_T36 x5 x7).f2)) else (none)) else (none))))) else (none)) else (some true)
def computuslaw22_TransferEarliest.j2 : Nat → List Bool → List (S36) → Int → Bool → Int → Int → Int → Option (Bool)
  | 0, _, _, _, _, _, _, _ => none
  | k + 1, x0, x5, x7, x64, x259000, x259001, x259002 => if x64 = true then (none) else (computuslaw22_TransferEarliest.l1 k x0 x5 x7 (wrap64 (x259001 + 1)) x259000 x259001 x259002)
def computuslaw22_TransferEarliest.l1 : Nat → List Bool → List (S36) → Int → Int → Int → Int → Int → Option (Bool)
  | 0, _, _, _, _, _, _, _ => none
  | k + 1, x0, x5, x7, x9, x259000, x259001, x259002 => if x9 < x259002 then (if 0 ≤ x9 then (if x9 < (x0.length : Int) then (if rdOf false x0 x9 = true then ((computuslaw22_takenBefore.f k x5 x7 x9).bind fun t261 => (if t261 = true then (computuslaw22_TransferEarliest.l1 k x0 x5 x7 (wrap64 (x9 + 1)) x259000 x259001 x259002) else (none))) else (computuslaw22_TransferEarliest.l1 k x0 x5 x7 (wrap64 (x9 + 1)) x259000 x259001 x259002)) else (none)) else (none)) else ((computuslaw22_takenBefore.f k x5 x7 x259002).bind fun t262 => (if t262 = true then (none) else (computuslaw22_TransferEarliest.l0 k x0 x5 (wrap64 (x7 + 1)))))
end
def computuslaw22_TransferEarliest.f (k : Nat) (l0 : List Bool) (l1 : List (List Int)) : Option (Bool) := (computuslaw22_awake.f k).bind fun t250 => (if t250 = true then ((computusref22_Few.f k l0 l1).bind fun t251 => (computuslaw22_TransferEarliest.j0 k l0 l1 (!t251))) else (computuslaw22_TransferEarliest.j0 k l0 l1 true))
theorem computuslaw22_TransferEarliest.mono_l : ∀ k, (∀ y0 y1 y2, LeO (computuslaw22_TransferEarliest.j0 k y0 y1 y2) (computuslaw22_TransferEarliest.j0 (k + 1) y0 y1 y2)) ∧ (∀ y0 y1 y2, LeO (computuslaw22_TransferEarliest.l0 k y0 y1 y2) (computuslaw22_TransferEarliest.l0 (k + 1) y0 y1 y2)) ∧ (∀ y0 y1 y2 y3 y4 y5 y6, LeO (computuslaw22_TransferEarliest.j2 k y0 y1 y2 y3 y4 y5 y6) (computuslaw22_TransferEarliest.j2 (k + 1) y0 y1 y2 y3 y4 y5 y6)) ∧ (∀ y0 y1 y2 y3 y4 y5 y6, LeO (computuslaw22_TransferEarliest.l1 k y0 y1 y2 y3 y4 y5 y6) (computuslaw22_TransferEarliest.l1 (k + 1) y0 y1 y2 y3 y4 y5 y6))
  | 0 => ⟨fun _ _ _ r h => by simp [computuslaw22_TransferEarliest.j0] at h, fun _ _ _ r h => by simp [computuslaw22_TransferEarliest.l0] at h, fun _ _ _ _ _ _ _ r h => by simp [computuslaw22_TransferEarliest.j2] at h, fun _ _ _ _ _ _ _ r h => by simp [computuslaw22_TransferEarliest.l1] at h⟩
  | k + 1 => by
    obtain ⟨ih0, ih1, ih2, ih3⟩ := computuslaw22_TransferEarliest.mono_l k
    refine ⟨?_, ?_, ?_, ?_⟩
    · intro y0 y1 y2
      unfold computuslaw22_TransferEarliest.j0
      repeat' first
      | (with_reducible exact ih0 _ _ _)
      | (with_reducible exact ih1 _ _ _)
      | (with_reducible exact ih2 _ _ _ _ _ _ _)
      | (with_reducible exact ih3 _ _ _ _ _ _ _)
      | (with_reducible exact computuslaw22_awake.mono _)
      | (with_reducible exact computuslaw22_takenBefore.mono _ _ _ _)
      | (with_reducible exact computusref22_Few.mono _ _ _)
      | (with_reducible exact LeO.refl _)
      | (with_reducible exact LeO.none _)
      | (with_reducible refine LeO.ite ?_ ?_)
      | (with_reducible refine LeO.bind ?_ (fun _ => ?_))
      | exact ih0 _ _ _
      | exact ih1 _ _ _
      | exact ih2 _ _ _ _ _ _ _
      | exact ih3 _ _ _ _ _ _ _
      | exact computuslaw22_awake.mono _
      | exact computuslaw22_takenBefore.mono _ _ _ _
      | exact computusref22_Few.mono _ _ _
      | exact LeO.none _
      | refine LeO.ite ?_ ?_
      | refine LeO.bind ?_ (fun _ => ?_)
    · intro y0 y1 y2
      unfold computuslaw22_TransferEarliest.l0
      repeat' first
      | (with_reducible exact ih0 _ _ _)
      | (with_reducible exact ih1 _ _ _)
      | (with_reducible exact ih2 _ _ _ _ _ _ _)
      | (with_reducible exact ih3 _ _ _ _ _ _ _)
      | (with_reducible exact computuslaw22_awake.mono _)
      | (with_reducible exact computuslaw22_takenBefore.mono _ _ _ _)
      | (with_reducible exact computusref22_Few.mono _ _ _)
      | (with_reducible exact LeO.refl _)
      | (with_reducible exact LeO.none _)
      | (with_reducible refine LeO.ite ?_ ?_)
      | (with_reducible refine LeO.bind ?_ (fun _ => ?_))
      | exact ih0 _ _ _
      | exact ih1 _ _ _
      | exact ih2 _ _ _ _ _ _ _
      | exact ih3 _ _ _ _ _ _ _
      | exact computuslaw22_awake.mono _
      | exact computuslaw22_takenBefore.mono _ _ _ _
      | exact computusref22_Few.mono _ _ _
      | exact LeO.none _
      | refine LeO.ite ?_ ?_
      | refine LeO.bind ?_ (fun _ => ?_)
    · intro y0 y1 y2 y3 y4 y5 y6
      unfold computuslaw22_TransferEarliest.j2
      repeat' first
      | (with_reducible exact ih0 _ _ _)
      | (with_reducible exact ih1 _ _ _)
      | (with_reducible exact ih2 _ _ _ _ _ _ _)
      | (with_reducible exact ih3 _ _ _ _ _ _ _)
      | (with_reducible exact computuslaw22_awake.mono _)
      | (with_reducible exact computuslaw22_takenBefore.mono _ _ _ _)
      | (with_reducible exact computusref22_Few.mono _ _ _)
      | (with_reducible exact LeO.refl _)
      | (with_reducible exact LeO.none _)
      | (with_reducible refine LeO.ite ?_ ?_)
      | (with_reducible refine LeO.bind ?_ (fun _ => ?_))
      | exact ih0 _ _ _
      | exact ih1 _ _ _
      | exact ih2 _ _ _ _ _ _ _
      | exact ih3 _ _ _ _ _ _ _
      | exact computuslaw22_awake.mono _
      | exact computuslaw22_takenBefore.mono _ _ _ _
      | exact computusref22_Few.mono _ _ _
      | exact LeO.none _
      | refine LeO.ite ?_ ?_
      | refine LeO.bind ?_ (fun _ => ?_)
    · intro y0 y1 y2 y3 y4 y5 y6
      unfold computuslaw22_TransferEarliest.l1
      repeat' first
      | (with_reducible exact ih0 _ _ _)
      | (with_reducible exact ih1 _ _ _)
      | (with_reducible exact ih2 _ _ _ _ _ _ _)
      | (with_reducible exact ih3 _ _ _ _ _ _ _)
      | (with_reducible exact computuslaw22_awake.mono _)
      | (with_reducible exact computuslaw22_takenBefore.mono _ _ _ _)
      | (with_reducible exact computusref22_Few.mono _ _ _)
      | (with_reducible exact LeO.refl _)
      | (with_reducible exact LeO.none _)
      | (with_reducible refine LeO.ite ?_ ?_)
      | (with_reducible refine LeO.bind ?_ (fun _ => ?_))
      | exact ih0 _ _ _
      | exact ih1 _ _ _
      | exact ih2 _ _ _ _ _ _ _
      | exact ih3 _ _ _ _ _ _ _
      | exact computuslaw22_awake.mono _
      | exact computuslaw22_takenBefore.mono _ _ _ _
      | exact computusref22_Few.mono _ _ _
      | exact LeO.none _
      | refine LeO.ite ?_ ?_
      | refine LeO.bind ?_ (fun _ => ?_)
theorem computuslaw22_TransferEarliest.mono : ∀ a0 a1 k, LeO (computuslaw22_TransferEarliest.f k a0 a1) (computuslaw22_TransferEarliest.f (k + 1) a0 a1) := by
  intro a0 a1 k
  obtain ⟨ih0, ih1, ih2, ih3⟩ := computuslaw22_TransferEarliest.mono_l k
  unfold computuslaw22_TransferEarliest.f
  repeat' first
      | (with_reducible exact ih0 _ _ _)
      | (with_reducible exact ih1 _ _ _)
      | (with_reducible exact ih2 _ _ _ _ _ _ _)
      | (with_reducible exact ih3 _ _ _ _ _ _ _)
      | (with_reducible exact computuslaw22_awake.mono _)
      | (with_reducible exact computuslaw22_takenBefore.mono _ _ _ _)
      | (with_reducible exact computusref22_Few.mono _ _ _)
      | (with_reducible exact LeO.refl _)
      | (with_reducible exact LeO.none _)
      | (with_reducible refine LeO.ite ?_ ?_)
      | (with_reducible refine LeO.bind ?_ (fun _ => ?_))
      | exact ih0 _ _ _
      | exact ih1 _ _ _
      | exact ih2 _ _ _ _ _ _ _
      | exact ih3 _ _ _ _ _ _ _
      | exact computuslaw22_awake.mono _
      | exact computuslaw22_takenBefore.mono _ _ _ _
      | exact computusref22_Few.mono _ _ _
      | exact LeO.none _
      | refine LeO.ite ?_ ?_
      | refine LeO.bind ?_ (fun _ => ?_)
set_option maxHeartbeats 8000000 in
set_option maxRecDepth 100000 in
theorem computuslaw22_TransferEarliest.calls (k : Nat) (A0 : Option Addr) (c0 : Nat) (l0 : List Bool) (A1 : Option Addr) (c1 : Nat) (l1 : List (List Int)) (r : Bool) (w : World) (hr0 : Kd.C Kd.bool w A0 l0.length l0) (hc0 : l0.length ≤ c0) (hr1 : Kd.C (Kd.slice 3 (Kd.int .i64)) w A1 l1.length l1) (hc1 : l1.length ≤ c1) (h : computuslaw22_TransferEarliest.f k l0 l1 = some r) :
    Calls Try.prog 4 #[.slice A0 l0.length c0, .slice A1 l1.length c1] w fun e w' => e = .returned (.bool r) ∧ Below w.heap.size w w' := by
  have hu36 := Try.underlying36
  have HR0 := Aside0.mk hr0
  have HC0 := Aside0.mk hc0
  clear hr0 hc0
  have HR1 := Aside0.mk hr1
  have HC1 := Aside0.mk hc1
  clear hr1 hc1
  have HB := Aside0.mk (Below.refl w.heap.size w)
  have H : ((computuslaw22_awake.f k).bind fun t250 => (if t250 = true then ((computusref22_Few.f k l0 l1).bind fun t251 => (computuslaw22_TransferEarliest.j0 k l0 l1 (!t251))) else (computuslaw22_TransferEarliest.j0 k l0 l1 true))) = some r := h
  clear h
  have HC3 := Aside0.mk H
  clear H
  go_enter Try.func4, Try.ntmps4
  go_upto_region 1 with (fail)
  go_cut [17] (fun v17 wc => ∃ (kq : Nat) (x17_2 : Bool), v17 = .bool x17_2 ∧ Aside0 (computuslaw22_TransferEarliest.j0 kq l0 l1 x17_2 = some r) ∧ Aside0 (kq ≤ k) ∧ Aside0 (Below w.heap.size w wc))
  case first =>
    have H := HC3.out
    clear HC3
    replace H := Option.bind_eq_some_iff.mp H
    obtain ⟨t250, A40, H⟩ := H
    replace H : (if t250 = true then ((computusref22_Few.f k l0 l1).bind fun t251 => (computuslaw22_TransferEarliest.j0 k l0 l1 (!t251))) else (computuslaw22_TransferEarliest.j0 k l0 l1 true)) = some r := H
    have A4 := Aside0.mk A40
    clear A40
    by_cases c5 : t250 = true
    · subst c5
      have H1 : ((computusref22_Few.f k l0 l1).bind fun t251 => (computuslaw22_TransferEarliest.j0 k l0 l1 (!t251))) = some r := by rw [if_pos rfl] at H; exact H
      clear H
      have H := H1
      clear H1
      replace H := Option.bind_eq_some_iff.mp H
      obtain ⟨t251, A60, H⟩ := H
      replace H : (computuslaw22_TransferEarliest.j0 k l0 l1 (!t251)) = some r := H
      have A6 := Aside0.mk A60
      clear A60
      have H' := Aside0.mk H
      clear H
      go_wp2_with (first | ((with_reducible refine gate_callee (f := 9) rfl ?_); refine goesL_ (some 10) rfl rfl Try.func9 (by kernel_rfl) rfl #[] rfl (by (try simp only [List.map_toArray, List.map_cons, List.map_nil]); first | done | rfl | (simp only [List.length_drop, List.length_take]; rfl)) ?_; (with_reducible refine (computuslaw22_awake.calls k  true _ A4.out).mono ?_); rintro e w7 ⟨rfl, hb⟩; refine ⟨_, rfl, ?_⟩; have n0_ := Aside0.mk (below_step (by repeat (first | (with_reducible first | exact HB.out | apply below_alloc | apply pw_below_drewN | apply below_drew1) | exact HB.out)) hb); clear HB; have HB := n0_; clear n0_; (try clear hb); (try clear hb2); (try clear hk); (try clear hi)) | (go_at_call 10; (with_reducible refine (computusref22_Few.calls k _ _ l0 _ _ l1 t251 _ ?side1 ?side2 ?side3 ?side4 A6.out).mono ?_); (case side1 => repeat (first | exact (Kd.C_below HR0.out HB.out) | (with_reducible refine Kd.C_alloc ?_ _) | (with_reducible refine Kd.C_drewN ?_ _) | (with_reducible refine Kd.C_drew ?_))); (case side2 => exact HC0.out); (case side3 => repeat (first | exact (Kd.C_below HR1.out HB.out) | (with_reducible refine Kd.C_alloc ?_ _) | (with_reducible refine Kd.C_drewN ?_ _) | (with_reducible refine Kd.C_drew ?_))); (case side4 => exact HC1.out); rintro e w' ⟨rfl, ⟨nd, rfl⟩⟩))
      go_meet
      case rel => exact ⟨_, (!t251), (by first | rfl | (simp; done) | (simp [*]; done)), H', ⟨by first | omega | exact Nat.le_refl _⟩, ⟨by repeat (first | (with_reducible first | exact HB.out | apply below_alloc | apply pw_below_drewN | apply below_drew1) | exact HB.out)⟩⟩
    · replace c5 := Bool.eq_false_iff.mpr c5
      subst c5
      have H1 : (computuslaw22_TransferEarliest.j0 k l0 l1 true) = some r := by rw [if_neg (show ¬ (false = true) by decide)] at H; exact H
      clear H
      have H := H1
      clear H1
      have H' := Aside0.mk H
      clear H
      go_wp2_with (first | ((with_reducible refine gate_callee (f := 9) rfl ?_); refine goesL_ (some 10) rfl rfl Try.func9 (by kernel_rfl) rfl #[] rfl (by (try simp only [List.map_toArray, List.map_cons, List.map_nil]); first | done | rfl | (simp only [List.length_drop, List.length_take]; rfl)) ?_; (with_reducible refine (computuslaw22_awake.calls k  false _ A4.out).mono ?_); rintro e w8 ⟨rfl, hb⟩; refine ⟨_, rfl, ?_⟩; have n0_ := Aside0.mk (below_step (by repeat (first | (with_reducible first | exact HB.out | apply below_alloc | apply pw_below_drewN | apply below_drew1) | exact HB.out)) hb); clear HB; have HB := n0_; clear n0_; (try clear hb); (try clear hb2); (try clear hk); (try clear hi)))
      go_meet
      case rel => exact ⟨_, (true), (by first | rfl | (simp; done) | (simp [*]; done)), H', ⟨by first | omega | exact Nat.le_refl _⟩, ⟨by repeat (first | (with_reducible first | exact HB.out | apply below_alloc | apply pw_below_drewN | apply below_drew1) | exact HB.out)⟩⟩
  case rest =>
    clear HC3
    try clear c1
    try clear p2
    try clear c4
    try clear c5
    obtain ⟨kq, x17_2, rfl, HA, HJ2, HB⟩ := hcut
    cases kq with
    | zero => exact absurd HA.out (by simp [computuslaw22_TransferEarliest.j0])
    | succ kj2 =>
      have H := HA.out
      clear HA
      simp only [computuslaw22_TransferEarliest.j0] at H
      by_cases c9 : x17_2 = true
      · subst c9
        have H1 : ((computuslaw22_awake.f kj2).bind fun t252 => (some t252)) = some r := by rw [if_pos rfl] at H; exact H
        clear H
        have H := H1
        clear H1
        replace H := Option.bind_eq_some_iff.mp H
        obtain ⟨t252, A100, H⟩ := H
        replace H : (some t252) = some r := H
        have A10 := Aside0.mk A100
        clear A100
        obtain rfl := Option.some.inj H
        go_wp2_with (first | ((with_reducible refine gate_callee (f := 9) rfl ?_); refine goesL_ (some 18) rfl rfl Try.func9 (by kernel_rfl) rfl #[] rfl (by (try simp only [List.map_toArray, List.map_cons, List.map_nil]); first | done | rfl | (simp only [List.length_drop, List.length_take]; rfl)) ?_; (with_reducible refine (computuslaw22_awake.calls kj2  t252 _ A10.out).mono ?_); rintro e w11 ⟨rfl, hb⟩; refine ⟨_, rfl, ?_⟩; have n0_ := Aside0.mk (below_step (by repeat (first | (with_reducible first | exact HB.out | apply below_alloc | apply pw_below_drewN | apply below_drew1) | exact HB.out)) hb); clear HB; have HB := n0_; clear n0_; (try clear hb); (try clear hb2); (try clear hk); (try clear hi)))
        go_ret
        exact ⟨by first | rfl | (simp [errW_none, errW_some] <;> rfl) | (simp [*, errW_none, errW_some] <;> rfl), by repeat (first | (with_reducible first | exact HB.out | apply below_alloc | apply pw_below_drewN | apply below_drew1) | exact HB.out)⟩
      · replace c9 := Bool.eq_false_iff.mpr c9
        subst c9
        have H1 : ((transfer_Assign.f l0 l1).bind fun bt253 => (if bt253.2 = 0 then (computuslaw22_TransferEarliest.l0 kj2 l0 bt253.1 0) else (some ((bt253.1.length : Int) == 0)))) = some r := by rw [if_neg (show ¬ (false = true) by decide)] at H; exact H
        clear H
        have H := H1
        clear H1
        replace H := Option.bind_eq_some_iff.mp H
        obtain ⟨⟨t253, t254⟩, A120, H⟩ := H
        replace H : (if t254 = 0 then (computuslaw22_TransferEarliest.l0 kj2 l0 t253 0) else (some ((t253.length : Int) == 0))) = some r := H
        have A12 := Aside0.mk A120
        clear A120
        by_cases c13 : t254 = 0
        · rw [if_pos c13] at H
          have c13b0 : (t254 == 0) = true := beq_iff_eq.mpr c13
          have c13b1 : (t254 != 0) = false := bne_eq_false_iff_eq.mpr c13
          clear c13
          have H' := Aside0.mk H
          clear H
          go_wp2_with (first | ((with_reducible refine gate_callee (f := 11) rfl ?_); refine goesL_ (some 22) rfl rfl Try.func11 (by kernel_rfl) rfl #[.slice A0 l0.length c0, .slice A1 l1.length c1] rfl (by (try simp only [List.map_toArray, List.map_cons, List.map_nil]); first | done | rfl | (simp only [List.length_drop, List.length_take]; rfl)) ?_; (with_reducible refine (transfer_Assign.calls _ _ l0 _ _ l1 t253 t254 _ ?side1 ?side2 ?side3 ?side4 A12.out).mono ?_); (case side1 => repeat (first | exact (Kd.C_below HR0.out HB.out) | (with_reducible refine Kd.C_alloc ?_ _) | (with_reducible refine Kd.C_drewN ?_ _) | (with_reducible refine Kd.C_drew ?_))); (case side2 => exact HC0.out); (case side3 => repeat (first | exact (Kd.C_below HR1.out HB.out) | (with_reducible refine Kd.C_alloc ?_ _) | (with_reducible refine Kd.C_drewN ?_ _) | (with_reducible refine Kd.C_drew ?_))); (case side4 => exact HC1.out); rintro e w14 ⟨v255, rfl, ho0, hb⟩; refine ⟨_, rfl, ?_⟩; have n0_ := Aside0.mk (Kd.R_lower ho0 (below_size (by repeat (first | (with_reducible first | exact HB.out | apply below_alloc | apply pw_below_drewN | apply below_drew1) | exact HB.out)))); have n1_ := Aside0.mk (below_step (by repeat (first | (with_reducible first | exact HB.out | apply below_alloc | apply pw_below_drewN | apply below_drew1) | exact HB.out)) hb); clear HB; have HO256 := n0_; have HB := n1_; clear n0_ n1_; (try clear hb); (try clear hb2); (try clear hk); (try clear hi); (try clear ho0)))
          go_loopg [7] kj2 (fun kq v7 w' => ∃ (x7_2 : Int), v7 = .int .i64 x7_2 ∧ Aside0 (computuslaw22_TransferEarliest.l0 kq l0 t253 x7_2 = some r) ∧ Aside0 (kq ≤ kj2) ∧ Aside0 (Kd.R k36 36 w' w.heap.size (fun _ => True) v255 t253) ∧ Aside0 (Below w.heap.size w w'))
          case atStart => exact ⟨(0), (by first | rfl | (simp; done) | (simp [*]; done)), H', ⟨Nat.le_refl _⟩, ⟨by (with_reducible repeat (first | apply Kd.R_alloc | apply Kd.R_drewN | apply Kd.R_drew)); exact HO256.out⟩, ⟨by repeat (first | (with_reducible first | exact HB.out | apply below_alloc | apply pw_below_drewN | apply below_drew1) | exact HB.out)⟩⟩
          case round =>
            clear H'
            try clear c1
            try clear p2
            try clear c4
            try clear c5
            try clear c9
            try clear c11
            try clear c13
            try clear c13b0
            try clear c13b1
            try clear p2
            obtain ⟨x7_2, rfl, HA, HK2, HO_5, HB⟩ := hrel
            cases gk with
            | zero => exact absurd HA.out (by simp [computuslaw22_TransferEarliest.l0])
            | succ k2 =>
              have H := HA.out
              clear HA
              simp only [computuslaw22_TransferEarliest.l0] at H
              by_cases c15 : x7_2 < (t253.length : Int)
              · rw [if_pos c15] at H
                have c15b0 : decide (x7_2 < (t253.length : Int)) = true := decide_eq_true c15
                clear c15
                by_cases c16 : 0 ≤ x7_2
                · rw [if_pos c16] at H
                  have c16b0 : decide (0 ≤ x7_2) = true := decide_eq_true c16
                  clear c16
                  have HC17 := Aside0.mk H
                  clear H
                  obtain ⟨Ao18, co18, eo18⟩ := Kd.R_slice HO_5.out
                  subst eo18
                  have p257 : 0 ≤ (x7_2 : Int) := of_decide_eq_true (by first | (with_reducible assumption) | assumption)
                  have q257 : x7_2 < (t253.length : Int) := of_decide_eq_true (by first | (with_reducible assumption) | assumption)
                  obtain ⟨ad257, e257, hx257_0, hx257_1, hx257_2⟩ := at_T36 (Kd.R_reads' HO_5.out).2.2 x7_2 p257 q257
                  cases e257
                  replace p257 := eq_true p257
                  replace q257 := eq_true q257
                  go_upto_region 10 with (first | ((with_reducible refine gate_dst (N := 8) rfl ?_); (try (refine gate_guard (by rfl) ?_; dsimp only)); refine box_event ?hg (N := 8) ?hd (cs := #[.int .i64 0, .int .i64 0, .int .i64 0]) (t := 36) ?hr ?_; (case hd => rfl); (case hg => rfl); (case hr => first | (go_simp; done) | (go_simp; rfl)); intro gb258 hg w19 hbox hb; have n0_ := Aside0.mk (Kd.R_below (Kd.R_elderB (by (with_reducible repeat (first | apply Kd.R_alloc | apply Kd.R_drewN | apply Kd.R_drew)); exact HO_5.out) gb258 (Nat.le_of_eq hg.symm)) hb); have n1_ := Aside0.mk (below_step (by repeat (first | (with_reducible first | exact HB.out | apply below_alloc | apply pw_below_drewN | apply below_drew1) | exact HB.out)) hb); have n2_ := Aside0.mk (hbox); have n3_ := Aside0.mk ((by rw [hg]; exact (below_size (by repeat (first | (with_reducible first | exact HB.out | apply below_alloc | apply pw_below_drewN | apply below_drew1) | exact HB.out))) : w.heap.size ≤ gb258)); have n4_ := Aside0.mk ((by rw [hg]; exact (below_size (by repeat (first | (with_reducible first | exact HB.out | apply below_alloc | apply pw_below_drewN | apply below_drew1) | exact HB.out))) : w.heap.size ≤ gb258)); clear HO_5; clear HB; have HO_5 := n0_; have HB := n1_; have BK258 := n2_; have GW258 := n3_; have GE258 := n4_; clear n0_ n1_ n2_ n3_ n4_; clear hb hbox hg; have hcz20_0 : w19.cell? ⟨gb258, 0, none⟩ = some (.int .i64 0) := (blk_cell BK258.out 0).trans rfl; have hcz20_1 : w19.cell? ⟨gb258, 1, none⟩ = some (.int .i64 0) := (blk_cell BK258.out 1).trans rfl; have hcz20_2 : w19.cell? ⟨gb258, 2, none⟩ = some (.int .i64 0) := (blk_cell BK258.out 2).trans rfl; have hfz20_0 := blk_frozen BK258.out 0; have hfz20_1 := blk_frozen BK258.out 1; have hfz20_2 := blk_frozen BK258.out 2))
                  (try simp only [Act.put, List.setIfInBounds_toArray, List.set_cons_zero, List.set_cons_succ])
                  go_cut [64] (fun v64 wc => ∃ (kq : Nat) (x64_16 : Bool), v64 = .bool x64_16 ∧ Aside0 (computuslaw22_TransferEarliest.j2 kq l0 t253 x7_2 x64_16 ((rd_T36 t253 x7_2).f0) ((rd_T36 t253 x7_2).f1) ((rd_T36 t253 x7_2).f2) = some r) ∧ Aside0 (kq ≤ k2) ∧ Aside0 (Kd.R k36 36 wc w.heap.size (fun k_ => k_ ≠ gb258) (.slice (some ad257) t253.length co18) t253) ∧ Aside0 (wc.heap[gb258]? = some (.cells #[.int .i64 ((rd_T36 t253 x7_2).f0), .int .i64 ((rd_T36 t253 x7_2).f1), .int .i64 ((rd_T36 t253 x7_2).f2)] 36 (0, 0))) ∧ Aside0 (Below w.heap.size w wc))
                  case first =>
                    have H := HC17.out
                    clear HC17
                    by_cases c21 : ((rd_T36 t253 x7_2).f1) < 0
                    · rw [if_pos c21] at H
                      have c21b0 : decide (((rd_T36 t253 x7_2).f1) < 0) = true := decide_eq_true c21
                      clear c21
                      (first | rw [c21b0] | (simp only [i64_w, i32_w]; rw [c21b0]) | skip)
                      have H' := Aside0.mk H
                      clear H
                      have hcz22_0 : w19.cell? ⟨gb258, 0, none⟩ = some (.int .i64 0) := (blk_cell BK258.out 0).trans rfl
                      have hcz22_1 : w19.cell? ⟨gb258, 1, none⟩ = some (.int .i64 0) := (blk_cell BK258.out 1).trans rfl
                      have hcz22_2 : w19.cell? ⟨gb258, 2, none⟩ = some (.int .i64 0) := (blk_cell BK258.out 2).trans rfl
                      have hfz22_0 := blk_frozen BK258.out 0
                      have hfz22_1 := blk_frozen BK258.out 1
                      have hfz22_2 := blk_frozen BK258.out 2
                      go_wp2
                      go_meet
                      case rel => exact ⟨_, (true), (by first | rfl | (simp; done) | (simp [*]; done)), H', ⟨by have := HJ2.out; have := HK2.out; first | omega | exact Nat.le_refl _⟩, ⟨by (with_reducible repeat (first | apply Kd.R_alloc | apply Kd.R_drewN | apply Kd.R_drew)); exact Kd.R_mono (Kd.R_far (p := ⟨gb258, 2, none⟩) (Kd.R_far (p := ⟨gb258, 1, none⟩) (Kd.R_far (p := ⟨gb258, 0, none⟩) (Kd.R_mono HO_5.out (fun k_ hk => (⟨hk, hk.2⟩ : _ ∧ k_ ≠ gb258))) (fun _ hk => hk.2) (.int .i64 ((rd_T36 t253 x7_2).f0))) (fun _ hk => hk.2) (.int .i64 ((rd_T36 t253 x7_2).f1))) (fun _ hk => hk.2) (.int .i64 ((rd_T36 t253 x7_2).f2))) (fun _ hk => hk.1.2)⟩, ⟨by (with_reducible repeat (first | refine blk_drewN ?_ _ | refine blk_drew ?_ | refine blk_alloc ?_ _)); refine blk_put (cs := #[.int .i64 ((rd_T36 t253 x7_2).f0), .int .i64 ((rd_T36 t253 x7_2).f1), .int .i64 0]) ?_ 2 _ rfl; (with_reducible repeat (first | refine blk_drewN ?_ _ | refine blk_drew ?_ | refine blk_alloc ?_ _)); refine blk_put (cs := #[.int .i64 ((rd_T36 t253 x7_2).f0), .int .i64 0, .int .i64 0]) ?_ 1 _ rfl; (with_reducible repeat (first | refine blk_drewN ?_ _ | refine blk_drew ?_ | refine blk_alloc ?_ _)); refine blk_put (cs := #[.int .i64 0, .int .i64 0, .int .i64 0]) ?_ 0 _ rfl; (with_reducible repeat (first | refine blk_drewN ?_ _ | refine blk_drew ?_ | refine blk_alloc ?_ _)); exact BK258.out⟩, ⟨by repeat (first | (with_reducible first | exact HB.out | apply below_alloc | apply pw_below_drewN | apply below_drew1 | refine below_set ?_ GE258.out) | exact HB.out)⟩⟩
                    · rw [if_neg c21] at H
                      have c21b0 : decide (((rd_T36 t253 x7_2).f1) < 0) = false := decide_eq_false c21
                      clear c21
                      (first | rw [c21b0] | (simp only [i64_w, i32_w]; rw [c21b0]) | skip)
                      by_cases c23 : ((rd_T36 t253 x7_2).f2) ≤ ((rd_T36 t253 x7_2).f1)
                      · rw [if_pos c23] at H
                        have c23b0 : decide (((rd_T36 t253 x7_2).f2) ≤ ((rd_T36 t253 x7_2).f1)) = true := decide_eq_true c23
                        clear c23
                        have H' := Aside0.mk H
                        clear H
                        have hcz24_0 : w19.cell? ⟨gb258, 0, none⟩ = some (.int .i64 0) := (blk_cell BK258.out 0).trans rfl
                        have hcz24_1 : w19.cell? ⟨gb258, 1, none⟩ = some (.int .i64 0) := (blk_cell BK258.out 1).trans rfl
                        have hcz24_2 : w19.cell? ⟨gb258, 2, none⟩ = some (.int .i64 0) := (blk_cell BK258.out 2).trans rfl
                        have hfz24_0 := blk_frozen BK258.out 0
                        have hfz24_1 := blk_frozen BK258.out 1
                        have hfz24_2 := blk_frozen BK258.out 2
                        go_wp2
                        go_meet
                        case rel => exact ⟨_, (true), (by first | rfl | (simp; done) | (simp [*]; done)), H', ⟨by have := HJ2.out; have := HK2.out; first | omega | exact Nat.le_refl _⟩, ⟨by (with_reducible repeat (first | apply Kd.R_alloc | apply Kd.R_drewN | apply Kd.R_drew)); exact Kd.R_mono (Kd.R_far (p := ⟨gb258, 2, none⟩) (Kd.R_far (p := ⟨gb258, 1, none⟩) (Kd.R_far (p := ⟨gb258, 0, none⟩) (Kd.R_mono HO_5.out (fun k_ hk => (⟨hk, hk.2⟩ : _ ∧ k_ ≠ gb258))) (fun _ hk => hk.2) (.int .i64 ((rd_T36 t253 x7_2).f0))) (fun _ hk => hk.2) (.int .i64 ((rd_T36 t253 x7_2).f1))) (fun _ hk => hk.2) (.int .i64 ((rd_T36 t253 x7_2).f2))) (fun _ hk => hk.1.2)⟩, ⟨by (with_reducible repeat (first | refine blk_drewN ?_ _ | refine blk_drew ?_ | refine blk_alloc ?_ _)); refine blk_put (cs := #[.int .i64 ((rd_T36 t253 x7_2).f0), .int .i64 ((rd_T36 t253 x7_2).f1), .int .i64 0]) ?_ 2 _ rfl; (with_reducible repeat (first | refine blk_drewN ?_ _ | refine blk_drew ?_ | refine blk_alloc ?_ _)); refine blk_put (cs := #[.int .i64 ((rd_T36 t253 x7_2).f0), .int .i64 0, .int .i64 0]) ?_ 1 _ rfl; (with_reducible repeat (first | refine blk_drewN ?_ _ | refine blk_drew ?_ | refine blk_alloc ?_ _)); refine blk_put (cs := #[.int .i64 0, .int .i64 0, .int .i64 0]) ?_ 0 _ rfl; (with_reducible repeat (first | refine blk_drewN ?_ _ | refine blk_drew ?_ | refine blk_alloc ?_ _)); exact BK258.out⟩, ⟨by repeat (first | (with_reducible first | exact HB.out | apply below_alloc | apply pw_below_drewN | apply below_drew1 | refine below_set ?_ GE258.out) | exact HB.out)⟩⟩
                      · rw [if_neg c23] at H
                        have c23b0 : decide (((rd_T36 t253 x7_2).f2) ≤ ((rd_T36 t253 x7_2).f1)) = false := decide_eq_false c23
                        clear c23
                        by_cases c25 : ((rd_T36 t253 x7_2).f2) ≥ (l0.length : Int)
                        · rw [if_pos c25] at H
                          have c25b0 : decide ((l0.length : Int) ≤ ((rd_T36 t253 x7_2).f2)) = true := decide_eq_true c25
                          clear c25
                          have H' := Aside0.mk H
                          clear H
                          have hcz26_0 : w19.cell? ⟨gb258, 0, none⟩ = some (.int .i64 0) := (blk_cell BK258.out 0).trans rfl
                          have hcz26_1 : w19.cell? ⟨gb258, 1, none⟩ = some (.int .i64 0) := (blk_cell BK258.out 1).trans rfl
                          have hcz26_2 : w19.cell? ⟨gb258, 2, none⟩ = some (.int .i64 0) := (blk_cell BK258.out 2).trans rfl
                          have hfz26_0 := blk_frozen BK258.out 0
                          have hfz26_1 := blk_frozen BK258.out 1
                          have hfz26_2 := blk_frozen BK258.out 2
                          go_wp2
                          go_meet
                          case rel => exact ⟨_, (true), (by first | rfl | (simp; done) | (simp [*]; done)), H', ⟨by have := HJ2.out; have := HK2.out; first | omega | exact Nat.le_refl _⟩, ⟨by (with_reducible repeat (first | apply Kd.R_alloc | apply Kd.R_drewN | apply Kd.R_drew)); exact Kd.R_mono (Kd.R_far (p := ⟨gb258, 2, none⟩) (Kd.R_far (p := ⟨gb258, 1, none⟩) (Kd.R_far (p := ⟨gb258, 0, none⟩) (Kd.R_mono HO_5.out (fun k_ hk => (⟨hk, hk.2⟩ : _ ∧ k_ ≠ gb258))) (fun _ hk => hk.2) (.int .i64 ((rd_T36 t253 x7_2).f0))) (fun _ hk => hk.2) (.int .i64 ((rd_T36 t253 x7_2).f1))) (fun _ hk => hk.2) (.int .i64 ((rd_T36 t253 x7_2).f2))) (fun _ hk => hk.1.2)⟩, ⟨by (with_reducible repeat (first | refine blk_drewN ?_ _ | refine blk_drew ?_ | refine blk_alloc ?_ _)); refine blk_put (cs := #[.int .i64 ((rd_T36 t253 x7_2).f0), .int .i64 ((rd_T36 t253 x7_2).f1), .int .i64 0]) ?_ 2 _ rfl; (with_reducible repeat (first | refine blk_drewN ?_ _ | refine blk_drew ?_ | refine blk_alloc ?_ _)); refine blk_put (cs := #[.int .i64 ((rd_T36 t253 x7_2).f0), .int .i64 0, .int .i64 0]) ?_ 1 _ rfl; (with_reducible repeat (first | refine blk_drewN ?_ _ | refine blk_drew ?_ | refine blk_alloc ?_ _)); refine blk_put (cs := #[.int .i64 0, .int .i64 0, .int .i64 0]) ?_ 0 _ rfl; (with_reducible repeat (first | refine blk_drewN ?_ _ | refine blk_drew ?_ | refine blk_alloc ?_ _)); exact BK258.out⟩, ⟨by repeat (first | (with_reducible first | exact HB.out | apply below_alloc | apply pw_below_drewN | apply below_drew1 | refine below_set ?_ GE258.out) | exact HB.out)⟩⟩
                        · rw [if_neg c25] at H
                          have c25b0 : decide ((l0.length : Int) ≤ ((rd_T36 t253 x7_2).f2)) = false := decide_eq_false c25
                          clear c25
                          by_cases c27 : 0 ≤ ((rd_T36 t253 x7_2).f2)
                          · rw [if_pos c27] at H
                            have c27b0 : decide (0 ≤ ((rd_T36 t253 x7_2).f2)) = true := decide_eq_true c27
                            clear c27
                            by_cases c28 : ((rd_T36 t253 x7_2).f2) < (l0.length : Int)
                            · rw [if_pos c28] at H
                              have c28b0 : decide (((rd_T36 t253 x7_2).f2) < (l0.length : Int)) = true := decide_eq_true c28
                              clear c28
                              have H' := Aside0.mk H
                              clear H
                              have hcz29_0 : w19.cell? ⟨gb258, 0, none⟩ = some (.int .i64 0) := (blk_cell BK258.out 0).trans rfl
                              have hcz29_1 : w19.cell? ⟨gb258, 1, none⟩ = some (.int .i64 0) := (blk_cell BK258.out 1).trans rfl
                              have hcz29_2 : w19.cell? ⟨gb258, 2, none⟩ = some (.int .i64 0) := (blk_cell BK258.out 2).trans rfl
                              have hfz29_0 := blk_frozen BK258.out 0
                              have hfz29_1 := blk_frozen BK258.out 1
                              have hfz29_2 := blk_frozen BK258.out 2
                              have p259 : 0 ≤ (((rd_T36 t253 x7_2).f2) : Int) := of_decide_eq_true (by first | (with_reducible assumption) | assumption)
                              have q259 : ((rd_T36 t253 x7_2).f2) < (l0.length : Int) := of_decide_eq_true (by first | (with_reducible assumption) | assumption)
                              obtain ⟨ad259, e259, hx259_0⟩ := Kd.at_bool HR0.out ((rd_T36 t253 x7_2).f2) p259 q259
                              cases e259
                              have hn259_0 : ad259.block ≠ gb258 := Nat.ne_of_lt (Nat.lt_of_lt_of_le (by have := World.block_lt_of_cell? _ _ hx259_0; first | rwa [add_block] at this | exact this) GW258.out)
                              have hn259_1 : ad259.block ≠ gb258 := Nat.ne_of_lt (Nat.lt_of_lt_of_le (by have := World.block_lt_of_cell? _ _ hx259_0; first | rwa [add_block] at this | exact this) GW258.out)
                              have hn259_2 : ad259.block ≠ gb258 := Nat.ne_of_lt (Nat.lt_of_lt_of_le (by have := World.block_lt_of_cell? _ _ hx259_0; first | rwa [add_block] at this | exact this) GW258.out)
                              replace hx259_0 := (HB.out.cell (World.block_lt_of_cell? w _ hx259_0)).trans hx259_0
                              replace hx259_0 := (cell_far (p := ⟨gb258, 0, none⟩) (by first | (rw [add_block]; exact hn259_0) | (show (Addr.add _ _).block ≠ _; rw [add_block]; exact hn259_0) | exact hn259_0) (.int .i64 ((rd_T36 t253 x7_2).f0))).trans hx259_0
                              replace hx259_0 := (cell_far (p := ⟨gb258, 1, none⟩) (by first | (rw [add_block]; exact hn259_1) | (show (Addr.add _ _).block ≠ _; rw [add_block]; exact hn259_1) | exact hn259_1) (.int .i64 ((rd_T36 t253 x7_2).f1))).trans hx259_0
                              replace hx259_0 := (cell_far (p := ⟨gb258, 2, none⟩) (by first | (rw [add_block]; exact hn259_2) | (show (Addr.add _ _).block ≠ _; rw [add_block]; exact hn259_2) | exact hn259_2) (.int .i64 ((rd_T36 t253 x7_2).f2))).trans hx259_0
                              clear hn259_0
                              clear hn259_1
                              clear hn259_2
                              replace p259 := eq_true p259
                              replace q259 := eq_true q259
                              go_wp2
                              go_meet
                              case rel => exact ⟨_, (!(rdOf false l0 ((rd_T36 t253 x7_2).f2))), (by first | rfl | (simp; done) | (simp [*]; done)), H', ⟨by have := HJ2.out; have := HK2.out; first | omega | exact Nat.le_refl _⟩, ⟨by (with_reducible repeat (first | apply Kd.R_alloc | apply Kd.R_drewN | apply Kd.R_drew)); exact Kd.R_mono (Kd.R_far (p := ⟨gb258, 2, none⟩) (Kd.R_far (p := ⟨gb258, 1, none⟩) (Kd.R_far (p := ⟨gb258, 0, none⟩) (Kd.R_mono HO_5.out (fun k_ hk => (⟨hk, hk.2⟩ : _ ∧ k_ ≠ gb258))) (fun _ hk => hk.2) (.int .i64 ((rd_T36 t253 x7_2).f0))) (fun _ hk => hk.2) (.int .i64 ((rd_T36 t253 x7_2).f1))) (fun _ hk => hk.2) (.int .i64 ((rd_T36 t253 x7_2).f2))) (fun _ hk => hk.1.2)⟩, ⟨by (with_reducible repeat (first | refine blk_drewN ?_ _ | refine blk_drew ?_ | refine blk_alloc ?_ _)); refine blk_put (cs := #[.int .i64 ((rd_T36 t253 x7_2).f0), .int .i64 ((rd_T36 t253 x7_2).f1), .int .i64 0]) ?_ 2 _ rfl; (with_reducible repeat (first | refine blk_drewN ?_ _ | refine blk_drew ?_ | refine blk_alloc ?_ _)); refine blk_put (cs := #[.int .i64 ((rd_T36 t253 x7_2).f0), .int .i64 0, .int .i64 0]) ?_ 1 _ rfl; (with_reducible repeat (first | refine blk_drewN ?_ _ | refine blk_drew ?_ | refine blk_alloc ?_ _)); refine blk_put (cs := #[.int .i64 0, .int .i64 0, .int .i64 0]) ?_ 0 _ rfl; (with_reducible repeat (first | refine blk_drewN ?_ _ | refine blk_drew ?_ | refine blk_alloc ?_ _)); exact BK258.out⟩, ⟨by repeat (first | (with_reducible first | exact HB.out | apply below_alloc | apply pw_below_drewN | apply below_drew1 | refine below_set ?_ GE258.out) | exact HB.out)⟩⟩
                            · rw [if_neg c28] at H
                              exact absurd H (by simp)
                          · rw [if_neg c27] at H
                            exact absurd H (by simp)
                  case rest =>
                    clear HC17
                    try clear c1
                    try clear c2
                    try clear p2
                    try clear q2
                    try clear hx2
                    try clear c4
                    try clear c5
                    try clear c9
                    try clear c11
                    try clear c13
                    try clear c13b0
                    try clear c13b1
                    try clear c15
                    try clear c15b0
                    try clear c16
                    try clear c16b0
                    try clear c21
                    try clear c21b0
                    try clear c23
                    try clear c23b0
                    try clear c25
                    try clear c25b0
                    try clear p25
                    try clear q25
                    try clear hx25
                    try clear c27
                    try clear c27b0
                    try clear c28
                    try clear c28b0
                    try clear hcz20_0
                    try clear hcz20_1
                    try clear hcz20_2
                    try clear hcz22_0
                    try clear hcz22_1
                    try clear hcz22_2
                    try clear hcz24_0
                    try clear hcz24_1
                    try clear hcz24_2
                    try clear hcz26_0
                    try clear hcz26_1
                    try clear hcz26_2
                    try clear hcz29_0
                    try clear hcz29_1
                    try clear hcz29_2
                    try clear hfz20_0
                    try clear hfz20_1
                    try clear hfz20_2
                    try clear hfz22_0
                    try clear hfz22_1
                    try clear hfz22_2
                    try clear hfz24_0
                    try clear hfz24_1
                    try clear hfz24_2
                    try clear hfz26_0
                    try clear hfz26_1
                    try clear hfz26_2
                    try clear hfz29_0
                    try clear hfz29_1
                    try clear hfz29_2
                    try clear hx257_0
                    try clear hx257_1
                    try clear hx257_2
                    try clear hx259_0
                    try clear p2
                    try clear p257
                    try clear p259
                    try clear q257
                    try clear q259
                    obtain ⟨kq, x64_16, rfl, HA, HJ16, HO_5, BK258, HB⟩ := hcut
                    cases kq with
                    | zero => exact absurd HA.out (by simp [computuslaw22_TransferEarliest.j2])
                    | succ kj16 =>
                      have H := HA.out
                      clear HA
                      simp only [computuslaw22_TransferEarliest.j2] at H
                      by_cases c30 : x64_16 = true
                      · subst c30
                        have H1 : (none) = some r := by rw [if_pos rfl] at H; exact H
                        clear H
                        have H := H1
                        clear H1
                        exact absurd H (by simp)
                      · replace c30 := Bool.eq_false_iff.mpr c30
                        subst c30
                        have H1 : (computuslaw22_TransferEarliest.l1 kj16 l0 t253 x7_2 (wrap64 (((rd_T36 t253 x7_2).f1) + 1)) ((rd_T36 t253 x7_2).f0) ((rd_T36 t253 x7_2).f1) ((rd_T36 t253 x7_2).f2)) = some r := by rw [if_neg (show ¬ (false = true) by decide)] at H; exact H
                        clear H
                        have H := H1
                        clear H1
                        have H' := Aside0.mk H
                        clear H
                        have hcz31_0 : wc.cell? ⟨gb258, 0, none⟩ = some (.int .i64 ((rd_T36 t253 x7_2).f0)) := (blk_cell BK258.out 0).trans rfl
                        have hcz31_1 : wc.cell? ⟨gb258, 1, none⟩ = some (.int .i64 ((rd_T36 t253 x7_2).f1)) := (blk_cell BK258.out 1).trans rfl
                        have hcz31_2 : wc.cell? ⟨gb258, 2, none⟩ = some (.int .i64 ((rd_T36 t253 x7_2).f2)) := (blk_cell BK258.out 2).trans rfl
                        have hfz31_0 := blk_frozen BK258.out 0
                        have hfz31_1 := blk_frozen BK258.out 1
                        have hfz31_2 := blk_frozen BK258.out 2
                        go_wp2
                        go_loopg [9] kj16 (fun kq v9 w' => ∃ (x9_4 : Int), v9 = .int .i64 x9_4 ∧ Aside0 (computuslaw22_TransferEarliest.l1 kq l0 t253 x7_2 x9_4 ((rd_T36 t253 x7_2).f0) ((rd_T36 t253 x7_2).f1) ((rd_T36 t253 x7_2).f2) = some r) ∧ Aside0 (kq ≤ kj16) ∧ Aside0 (Kd.R k36 36 w' w.heap.size (fun k_ => k_ ≠ gb258) (.slice (some ad257) t253.length co18) t253) ∧ Aside0 (w'.heap[gb258]? = some (.cells #[.int .i64 ((rd_T36 t253 x7_2).f0), .int .i64 ((rd_T36 t253 x7_2).f1), .int .i64 ((rd_T36 t253 x7_2).f2)] 36 (0, 0))) ∧ Aside0 (Below w.heap.size w w'))
                        case atStart => exact ⟨(wrap64 (((rd_T36 t253 x7_2).f1) + 1)), (by first | rfl | (simp; done) | (simp [*]; done)), H', ⟨Nat.le_refl _⟩, ⟨by (with_reducible repeat (first | apply Kd.R_alloc | apply Kd.R_drewN | apply Kd.R_drew)); exact HO_5.out⟩, ⟨by (with_reducible repeat (first | refine blk_drewN ?_ _ | refine blk_drew ?_ | refine blk_alloc ?_ _)); exact BK258.out⟩, ⟨by repeat (first | (with_reducible first | exact HB.out | apply below_alloc | apply pw_below_drewN | apply below_drew1 | refine below_set ?_ GE258.out) | exact HB.out)⟩⟩
                        case round =>
                          clear H'
                          try clear c1
                          try clear c2
                          try clear p2
                          try clear q2
                          try clear hx2
                          try clear c3
                          try clear c4
                          try clear c5
                          try clear p6
                          try clear c9
                          try clear c11
                          try clear c13
                          try clear c13b0
                          try clear c13b1
                          try clear c15
                          try clear c15b0
                          try clear c16
                          try clear c16b0
                          try clear c21
                          try clear c21b0
                          try clear c23
                          try clear c23b0
                          try clear c25
                          try clear c25b0
                          try clear p25
                          try clear q25
                          try clear hx25
                          try clear c27
                          try clear c27b0
                          try clear c28
                          try clear c28b0
                          try clear c30
                          try clear hcz20_0
                          try clear hcz20_1
                          try clear hcz20_2
                          try clear hcz22_0
                          try clear hcz22_1
                          try clear hcz22_2
                          try clear hcz24_0
                          try clear hcz24_1
                          try clear hcz24_2
                          try clear hcz26_0
                          try clear hcz26_1
                          try clear hcz26_2
                          try clear hcz29_0
                          try clear hcz29_1
                          try clear hcz29_2
                          try clear hcz31_0
                          try clear hcz31_1
                          try clear hcz31_2
                          try clear hfz20_0
                          try clear hfz20_1
                          try clear hfz20_2
                          try clear hfz22_0
                          try clear hfz22_1
                          try clear hfz22_2
                          try clear hfz24_0
                          try clear hfz24_1
                          try clear hfz24_2
                          try clear hfz26_0
                          try clear hfz26_1
                          try clear hfz26_2
                          try clear hfz29_0
                          try clear hfz29_1
                          try clear hfz29_2
                          try clear hfz31_0
                          try clear hfz31_1
                          try clear hfz31_2
                          try clear hx257_0
                          try clear hx257_1
                          try clear hx257_2
                          try clear hx259_0
                          try clear p2
                          try clear p25
                          try clear p257
                          try clear p259
                          try clear q2
                          try clear q25
                          try clear q257
                          try clear q259
                          obtain ⟨x9_4, rfl, HA, HK4, HO_5, BK258, HB⟩ := hrel
                          cases gk with
                          | zero => exact absurd HA.out (by simp [computuslaw22_TransferEarliest.l1])
                          | succ k4 =>
                            have H := HA.out
                            clear HA
                            simp only [computuslaw22_TransferEarliest.l1] at H
                            by_cases c32 : x9_4 < ((rd_T36 t253 x7_2).f2)
                            · rw [if_pos c32] at H
                              have c32b0 : decide (x9_4 < ((rd_T36 t253 x7_2).f2)) = true := decide_eq_true c32
                              clear c32
                              by_cases c33 : 0 ≤ x9_4
                              · rw [if_pos c33] at H
                                have c33b0 : decide (0 ≤ x9_4) = true := decide_eq_true c33
                                clear c33
                                by_cases c34 : x9_4 < (l0.length : Int)
                                · rw [if_pos c34] at H
                                  have c34b0 : decide (x9_4 < (l0.length : Int)) = true := decide_eq_true c34
                                  clear c34
                                  obtain ⟨bq35, hbq35⟩ : ∃ b_ : Bool, b_ = (rdOf false l0 x9_4) := ⟨_, rfl⟩
                                  replace H : (if bq35 = true then ((computuslaw22_takenBefore.f k4 t253 x7_2 x9_4).bind fun t261 => (if t261 = true then (computuslaw22_TransferEarliest.l1 k4 l0 t253 x7_2 (wrap64 (x9_4 + 1)) ((rd_T36 t253 x7_2).f0) ((rd_T36 t253 x7_2).f1) ((rd_T36 t253 x7_2).f2)) else (none))) else (computuslaw22_TransferEarliest.l1 k4 l0 t253 x7_2 (wrap64 (x9_4 + 1)) ((rd_T36 t253 x7_2).f0) ((rd_T36 t253 x7_2).f1) ((rd_T36 t253 x7_2).f2))) = some r := by rw [← hbq35] at H; exact H
                                  have Nbq35 := Aside0.mk hbq35
                                  clear hbq35
                                  by_cases c36 : bq35 = true
                                  · subst c36
                                    have H1 : ((computuslaw22_takenBefore.f k4 t253 x7_2 x9_4).bind fun t261 => (if t261 = true then (computuslaw22_TransferEarliest.l1 k4 l0 t253 x7_2 (wrap64 (x9_4 + 1)) ((rd_T36 t253 x7_2).f0) ((rd_T36 t253 x7_2).f1) ((rd_T36 t253 x7_2).f2)) else (none))) = some r := by rw [if_pos rfl] at H; exact H
                                    clear H
                                    have H := H1
                                    clear H1
                                    replace H := Option.bind_eq_some_iff.mp H
                                    obtain ⟨t261, A370, H⟩ := H
                                    replace H : (if t261 = true then (computuslaw22_TransferEarliest.l1 k4 l0 t253 x7_2 (wrap64 (x9_4 + 1)) ((rd_T36 t253 x7_2).f0) ((rd_T36 t253 x7_2).f1) ((rd_T36 t253 x7_2).f2)) else (none)) = some r := H
                                    have A37 := Aside0.mk A370
                                    clear A370
                                    by_cases c38 : t261 = true
                                    · subst c38
                                      have H1 : (computuslaw22_TransferEarliest.l1 k4 l0 t253 x7_2 (wrap64 (x9_4 + 1)) ((rd_T36 t253 x7_2).f0) ((rd_T36 t253 x7_2).f1) ((rd_T36 t253 x7_2).f2)) = some r := by rw [if_pos rfl] at H; exact H
                                      clear H
                                      have H := H1
                                      clear H1
                                      have H' := Aside0.mk H
                                      clear H
                                      have hcz39_0 : wr.cell? ⟨gb258, 0, none⟩ = some (.int .i64 ((rd_T36 t253 x7_2).f0)) := (blk_cell BK258.out 0).trans rfl
                                      have hcz39_1 : wr.cell? ⟨gb258, 1, none⟩ = some (.int .i64 ((rd_T36 t253 x7_2).f1)) := (blk_cell BK258.out 1).trans rfl
                                      have hcz39_2 : wr.cell? ⟨gb258, 2, none⟩ = some (.int .i64 ((rd_T36 t253 x7_2).f2)) := (blk_cell BK258.out 2).trans rfl
                                      have hfz39_0 := blk_frozen BK258.out 0
                                      have hfz39_1 := blk_frozen BK258.out 1
                                      have hfz39_2 := blk_frozen BK258.out 2
                                      have p260 : 0 ≤ (x9_4 : Int) := of_decide_eq_true (by first | (with_reducible assumption) | assumption)
                                      have q260 : x9_4 < (l0.length : Int) := of_decide_eq_true (by first | (with_reducible assumption) | assumption)
                                      obtain ⟨ad260, e260, hx260_0⟩ := Kd.at_bool HR0.out x9_4 p260 q260
                                      (try rw [← Nbq35.out] at hx260_0)
                                      cases e260
                                      replace hx260_0 := (HB.out.cell (World.block_lt_of_cell? w _ hx260_0)).trans hx260_0
                                      replace p260 := eq_true p260
                                      replace q260 := eq_true q260
                                      go_wp2_with (first | (go_at_call 17; (with_reducible refine (computuslaw22_takenBefore.calls k4 _ _ t253 x7_2 x9_4 true _ ?side1 ?side2 A37.out).mono ?_); (case side1 => repeat (first | exact (Kd.R_reads' HO_5.out).2.2 | (with_reducible refine Kd.C_alloc ?_ _) | (with_reducible refine Kd.C_drewN ?_ _) | (with_reducible refine Kd.C_drew ?_))); (case side2 => exact (Kd.R_reads' HO_5.out).2.1); rintro e w' ⟨rfl, ⟨nd, rfl⟩⟩))
                                      go_roundg k4
                                      case measure => have := HJ2.out; have := HK2.out; have := HJ16.out; have := HK4.out; omega
                                      case rel => exact ⟨(wrap64 (x9_4 + 1)), (by first | rfl | (simp; done) | (simp [*]; done)), H', ⟨by have := HJ2.out; have := HK2.out; have := HJ16.out; have := HK4.out; omega⟩, ⟨by (with_reducible repeat (first | apply Kd.R_alloc | apply Kd.R_drewN | apply Kd.R_drew)); exact HO_5.out⟩, ⟨by (with_reducible repeat (first | refine blk_drewN ?_ _ | refine blk_drew ?_ | refine blk_alloc ?_ _)); exact BK258.out⟩, ⟨by repeat (first | (with_reducible first | exact HB.out | apply below_alloc | apply pw_below_drewN | apply below_drew1 | refine below_set ?_ GE258.out) | exact HB.out)⟩⟩
                                    · replace c38 := Bool.eq_false_iff.mpr c38
                                      subst c38
                                      have H1 : (none) = some r := by rw [if_neg (show ¬ (false = true) by decide)] at H; exact H
                                      clear H
                                      have H := H1
                                      clear H1
                                      exact absurd H (by simp)
                                  · replace c36 := Bool.eq_false_iff.mpr c36
                                    subst c36
                                    have H1 : (computuslaw22_TransferEarliest.l1 k4 l0 t253 x7_2 (wrap64 (x9_4 + 1)) ((rd_T36 t253 x7_2).f0) ((rd_T36 t253 x7_2).f1) ((rd_T36 t253 x7_2).f2)) = some r := by rw [if_neg (show ¬ (false = true) by decide)] at H; exact H
                                    clear H
                                    have H := H1
                                    clear H1
                                    have H' := Aside0.mk H
                                    clear H
                                    have hcz40_0 : wr.cell? ⟨gb258, 0, none⟩ = some (.int .i64 ((rd_T36 t253 x7_2).f0)) := (blk_cell BK258.out 0).trans rfl
                                    have hcz40_1 : wr.cell? ⟨gb258, 1, none⟩ = some (.int .i64 ((rd_T36 t253 x7_2).f1)) := (blk_cell BK258.out 1).trans rfl
                                    have hcz40_2 : wr.cell? ⟨gb258, 2, none⟩ = some (.int .i64 ((rd_T36 t253 x7_2).f2)) := (blk_cell BK258.out 2).trans rfl
                                    have hfz40_0 := blk_frozen BK258.out 0
                                    have hfz40_1 := blk_frozen BK258.out 1
                                    have hfz40_2 := blk_frozen BK258.out 2
                                    have p260 : 0 ≤ (x9_4 : Int) := of_decide_eq_true (by first | (with_reducible assumption) | assumption)
                                    have q260 : x9_4 < (l0.length : Int) := of_decide_eq_true (by first | (with_reducible assumption) | assumption)
                                    obtain ⟨ad260, e260, hx260_0⟩ := Kd.at_bool HR0.out x9_4 p260 q260
                                    (try rw [← Nbq35.out] at hx260_0)
                                    cases e260
                                    replace hx260_0 := (HB.out.cell (World.block_lt_of_cell? w _ hx260_0)).trans hx260_0
                                    replace p260 := eq_true p260
                                    replace q260 := eq_true q260
                                    go_wp2
                                    go_roundg k4
                                    case measure => have := HJ2.out; have := HK2.out; have := HJ16.out; have := HK4.out; omega
                                    case rel => exact ⟨(wrap64 (x9_4 + 1)), (by first | rfl | (simp; done) | (simp [*]; done)), H', ⟨by have := HJ2.out; have := HK2.out; have := HJ16.out; have := HK4.out; omega⟩, ⟨by (with_reducible repeat (first | apply Kd.R_alloc | apply Kd.R_drewN | apply Kd.R_drew)); exact HO_5.out⟩, ⟨by (with_reducible repeat (first | refine blk_drewN ?_ _ | refine blk_drew ?_ | refine blk_alloc ?_ _)); exact BK258.out⟩, ⟨by repeat (first | (with_reducible first | exact HB.out | apply below_alloc | apply pw_below_drewN | apply below_drew1 | refine below_set ?_ GE258.out) | exact HB.out)⟩⟩
                                · rw [if_neg c34] at H
                                  exact absurd H (by simp)
                              · rw [if_neg c33] at H
                                exact absurd H (by simp)
                            · rw [if_neg c32] at H
                              have c32b0 : decide (x9_4 < ((rd_T36 t253 x7_2).f2)) = false := decide_eq_false c32
                              clear c32
                              replace H := Option.bind_eq_some_iff.mp H
                              obtain ⟨t262, A410, H⟩ := H
                              replace H : (if t262 = true then (none) else (computuslaw22_TransferEarliest.l0 k4 l0 t253 (wrap64 (x7_2 + 1)))) = some r := H
                              have A41 := Aside0.mk A410
                              clear A410
                              by_cases c42 : t262 = true
                              · subst c42
                                have H1 : (none) = some r := by rw [if_pos rfl] at H; exact H
                                clear H
                                have H := H1
                                clear H1
                                exact absurd H (by simp)
                              · replace c42 := Bool.eq_false_iff.mpr c42
                                subst c42
                                have H1 : (computuslaw22_TransferEarliest.l0 k4 l0 t253 (wrap64 (x7_2 + 1))) = some r := by rw [if_neg (show ¬ (false = true) by decide)] at H; exact H
                                clear H
                                have H := H1
                                clear H1
                                have H' := Aside0.mk H
                                clear H
                                have hcz43_0 : wr.cell? ⟨gb258, 0, none⟩ = some (.int .i64 ((rd_T36 t253 x7_2).f0)) := (blk_cell BK258.out 0).trans rfl
                                have hcz43_1 : wr.cell? ⟨gb258, 1, none⟩ = some (.int .i64 ((rd_T36 t253 x7_2).f1)) := (blk_cell BK258.out 1).trans rfl
                                have hcz43_2 : wr.cell? ⟨gb258, 2, none⟩ = some (.int .i64 ((rd_T36 t253 x7_2).f2)) := (blk_cell BK258.out 2).trans rfl
                                have hfz43_0 := blk_frozen BK258.out 0
                                have hfz43_1 := blk_frozen BK258.out 1
                                have hfz43_2 := blk_frozen BK258.out 2
                                go_wp2_with (first | ((with_reducible refine gate_callee (f := 17) rfl ?_); refine goesL_ (some 89) rfl rfl Try.func17 (by kernel_rfl) rfl #[.slice (some ad257) t253.length co18, .int .i64 x7_2, .int .i64 ((rd_T36 t253 x7_2).f2)] rfl (by (try simp only [List.map_toArray, List.map_cons, List.map_nil]); first | done | rfl | (simp only [List.length_drop, List.length_take]; rfl)) ?_; (with_reducible refine (computuslaw22_takenBefore.calls k4 _ _ t253 x7_2 ((rd_T36 t253 x7_2).f2) false _ ?side1 ?side2 A41.out).mono ?_); (case side1 => repeat (first | exact (Kd.R_reads' HO_5.out).2.2 | (with_reducible refine Kd.C_alloc ?_ _) | (with_reducible refine Kd.C_drewN ?_ _) | (with_reducible refine Kd.C_drew ?_))); (case side2 => exact (Kd.R_reads' HO_5.out).2.1); rintro e w' ⟨rfl, ⟨nd, rfl⟩⟩; refine ⟨_, rfl, ?_⟩))
                                go_roundg k4
                                case measure => have := HJ2.out; have := HK2.out; have := HJ16.out; have := HK4.out; omega
                                case rel => exact ⟨(wrap64 (x7_2 + 1)), (by first | rfl | (simp; done) | (simp [*]; done)), H', ⟨by have := HJ2.out; have := HK2.out; have := HJ16.out; have := HK4.out; omega⟩, ⟨by (with_reducible repeat (first | apply Kd.R_alloc | apply Kd.R_drewN | apply Kd.R_drew)); exact Kd.R_mono HO_5.out (fun _ hk => trivial)⟩, ⟨by repeat (first | (with_reducible first | exact HB.out | apply below_alloc | apply pw_below_drewN | apply below_drew1 | refine below_set ?_ GE258.out) | exact HB.out)⟩⟩
                · rw [if_neg c16] at H
                  exact absurd H (by simp)
              · rw [if_neg c15] at H
                have c15b0 : decide (x7_2 < (t253.length : Int)) = false := decide_eq_false c15
                clear c15
                obtain rfl := Option.some.inj H
                obtain ⟨Ao44, co44, eo44⟩ := Kd.R_slice HO_5.out
                subst eo44
                go_wp2
                go_ret
                exact ⟨by first | rfl | (simp [errW_none, errW_some] <;> rfl) | (simp [*, errW_none, errW_some] <;> rfl), by repeat (first | (with_reducible first | exact HB.out | apply below_alloc | apply pw_below_drewN | apply below_drew1) | exact HB.out)⟩
        · rw [if_neg c13] at H
          have c13b0 : (t254 == 0) = false := beq_eq_false_iff_ne.mpr c13
          have c13b1 : (t254 != 0) = true := bne_iff_ne.mpr c13
          obtain rfl := Option.some.inj H
          go_wp2_with (first | ((with_reducible refine gate_callee (f := 11) rfl ?_); refine goesL_ (some 22) rfl rfl Try.func11 (by kernel_rfl) rfl #[.slice A0 l0.length c0, .slice A1 l1.length c1] rfl (by (try simp only [List.map_toArray, List.map_cons, List.map_nil]); first | done | rfl | (simp only [List.length_drop, List.length_take]; rfl)) ?_; (with_reducible refine (transfer_Assign.calls _ _ l0 _ _ l1 t253 t254 _ ?side1 ?side2 ?side3 ?side4 A12.out).mono ?_); (case side1 => repeat (first | exact (Kd.C_below HR0.out HB.out) | (with_reducible refine Kd.C_alloc ?_ _) | (with_reducible refine Kd.C_drewN ?_ _) | (with_reducible refine Kd.C_drew ?_))); (case side2 => exact HC0.out); (case side3 => repeat (first | exact (Kd.C_below HR1.out HB.out) | (with_reducible refine Kd.C_alloc ?_ _) | (with_reducible refine Kd.C_drewN ?_ _) | (with_reducible refine Kd.C_drew ?_))); (case side4 => exact HC1.out); rintro e w45 ⟨v255, rfl, ho0, hb⟩; refine ⟨_, rfl, ?_⟩; have n0_ := Aside0.mk (Kd.R_lower ho0 (below_size (by repeat (first | (with_reducible first | exact HB.out | apply below_alloc | apply pw_below_drewN | apply below_drew1) | exact HB.out)))); have n1_ := Aside0.mk (below_step (by repeat (first | (with_reducible first | exact HB.out | apply below_alloc | apply pw_below_drewN | apply below_drew1) | exact HB.out)) hb); clear HB; have HO256 := n0_; have HB := n1_; clear n0_ n1_; (try clear hb); (try clear hb2); (try clear hk); (try clear hi); (try clear ho0); obtain ⟨Ao46, co46, eo46⟩ := Kd.R_slice HO256.out; subst eo46))
          go_ret
          exact ⟨by first | rfl | (simp [errW_none, errW_some] <;> rfl) | (simp [*, errW_none, errW_some] <;> rfl), by repeat (first | (with_reducible first | exact HB.out | apply below_alloc | apply pw_below_drewN | apply below_drew1) | exact HB.out)⟩

def computuslaw22_TransferEarliest.Pure : Prop := ∀ (l0 : List Bool) (l1 : List (List Int)), l0.length ≤ maxLen → l1.length ≤ maxLen → (∀ x ∈ l1, (x.length ≤ maxLen ∧ ∀ y1 ∈ x, (Lit.int .i64 y1).wf = true)) → ∃ k, computuslaw22_TransferEarliest.f k l0 l1 = some true

end Go.Proofs.Ytjjgkgedadjodaa.Q
