-- Written by wip/tool/qprint.py: the print of the kit, with hand-proved contracts put in. Lean checks it.
import Derived.Test.YtjjgkgedadjodaaQx0
namespace Go.Proofs.Ytjjgkgedadjodaa.Q
open Go.RowKit Go.Proofs.YtjjgkgedadjodaaW.PrintWords Go.Proofs.YtjjgkgedadjodaaW.PrintLast Go.Proofs.YtjjgkgedadjodaaW.PrintMore
attribute [local go_sem] max2_int min2_int max_two min_two max_three min_three max_four min_four   -- for this text's walks alone
set_option linter.unusedVariables false
set_option linter.unusedSimpArgs false

/-! ### computusref22_Assign: function 12 -/
mutual
def computusref22_Assign.l0 : Nat → List (List Int) → List Bool → List (S39) → Int → Option ((List (S39)) × Int)
  | 0, _, _, _, _ => none
  | k + 1, x1, x6, x7, x8 => if x8 < (x1.length : Int) then (computusref22_Assign.l1 k x1 x6 x7 x8 0) else (some (x7, 0))
def computusref22_Assign.l1 : Nat → List (List Int) → List Bool → List (S39) → Int → Int → Option ((List (S39)) × Int)
  | 0, _, _, _, _, _ => none
  | k + 1, x1, x6, x7, x8, x9 => if 0 ≤ x8 then (if x8 < (x1.length : Int) then (if x9 < ((rd_L3 x1 x8).length : Int) then (computusref22_Assign.l2 k x1 x6 x7 x8 x9 (wrap64 (x8 + 1))) else (computusref22_Assign.l0 k x1 x6 x7 (wrap64 (x8 + 1)))) else (none)) else (none)
def computusref22_Assign.l2 : Nat → List (List Int) → List Bool → List (S39) → Int → Int → Int → Option ((List (S39)) × Int)
  | 0, _, _, _, _, _, _ => none
  | k + 1, x1, x6, x7, x8, x9, x10 => if x10 < (x6.length : Int) then (if 0 ≤ x10 then (if rdOf false x6 x10 = true then (if x10 ≥ (x6.length : Int) then (some (([] : List (S39)), 5)) else (if 0 ≤ x8 then (if x8 < (x1.length : Int) then (if 0 ≤ x9 then (if x9 < ((rd_L3 x1 x8).length : Int) then (if x7.length < 5864062014805 then (computusref22_Assign.l1 k x1 (x6.set (x10 : Int).toNat false) (x7 ++ [(⟨rd (rd_L3 x1 x8) x9, x8, x10⟩ : S39)]) x8 (wrap64 (x9 + 1))) else (none)) else (none)) else (none)) else (none)) else (none))) else (computusref22_Assign.l2 k x1 x6 x7 x8 x9 (wrap64 (x10 + 1)))) else (none)) else (if x10 ≥ (x6.length : Int) then (some (([] : List (S39)), 5)) else (if 0 ≤ x10 then (none) else (none)))
end
def computusref22_Assign.f (k : Nat) (l0 : List Bool) (l1 : List (List Int)) : Option ((List (S39)) × Int) := if (l0.length : Int) = (l1.length : Int) then ((some (([] : List Bool) : List Bool)).bind fun y207 => (if y207.length + l0.length < 140737488355328 then (computusref22_Assign.l0 k l1 (y207 ++ l0) ([] : List (S39)) 0) else (none))) else (some (([] : List (S39)), 3))
theorem computusref22_Assign.mono_l : ∀ k, (∀ y0 y1 y2 y3, LeO (computusref22_Assign.l0 k y0 y1 y2 y3) (computusref22_Assign.l0 (k + 1) y0 y1 y2 y3)) ∧ (∀ y0 y1 y2 y3 y4, LeO (computusref22_Assign.l1 k y0 y1 y2 y3 y4) (computusref22_Assign.l1 (k + 1) y0 y1 y2 y3 y4)) ∧ (∀ y0 y1 y2 y3 y4 y5, LeO (computusref22_Assign.l2 k y0 y1 y2 y3 y4 y5) (computusref22_Assign.l2 (k + 1) y0 y1 y2 y3 y4 y5))
  | 0 => ⟨fun _ _ _ _ r h => by simp [computusref22_Assign.l0] at h, fun _ _ _ _ _ r h => by simp [computusref22_Assign.l1] at h, fun _ _ _ _ _ _ r h => by simp [computusref22_Assign.l2] at h⟩
  | k + 1 => by
    obtain ⟨ih0, ih1, ih2⟩ := computusref22_Assign.mono_l k
    refine ⟨?_, ?_, ?_⟩
    · intro y0 y1 y2 y3
      unfold computusref22_Assign.l0
      repeat' first
      | (with_reducible exact ih0 _ _ _ _)
      | (with_reducible exact ih1 _ _ _ _ _)
      | (with_reducible exact ih2 _ _ _ _ _ _)
      | (with_reducible exact LeO.refl _)
      | (with_reducible exact LeO.none _)
      | (with_reducible refine LeO.ite ?_ ?_)
      | (with_reducible refine LeO.bind ?_ (fun _ => ?_))
      | exact ih0 _ _ _ _
      | exact ih1 _ _ _ _ _
      | exact ih2 _ _ _ _ _ _
      | exact LeO.none _
      | refine LeO.ite ?_ ?_
      | refine LeO.bind ?_ (fun _ => ?_)
    · intro y0 y1 y2 y3 y4
      unfold computusref22_Assign.l1
      repeat' first
      | (with_reducible exact ih0 _ _ _ _)
      | (with_reducible exact ih1 _ _ _ _ _)
      | (with_reducible exact ih2 _ _ _ _ _ _)
      | (with_reducible exact LeO.refl _)
      | (with_reducible exact LeO.none _)
      | (with_reducible refine LeO.ite ?_ ?_)
      | (with_reducible refine LeO.bind ?_ (fun _ => ?_))
      | exact ih0 _ _ _ _
      | exact ih1 _ _ _ _ _
      | exact ih2 _ _ _ _ _ _
      | exact LeO.none _
      | refine LeO.ite ?_ ?_
      | refine LeO.bind ?_ (fun _ => ?_)
    · intro y0 y1 y2 y3 y4 y5
      unfold computusref22_Assign.l2
      repeat' first
      | (with_reducible exact ih0 _ _ _ _)
      | (with_reducible exact ih1 _ _ _ _ _)
      | (with_reducible exact ih2 _ _ _ _ _ _)
      | (with_reducible exact LeO.refl _)
      | (with_reducible exact LeO.none _)
      | (with_reducible refine LeO.ite ?_ ?_)
      | (with_reducible refine LeO.bind ?_ (fun _ => ?_))
      | exact ih0 _ _ _ _
      | exact ih1 _ _ _ _ _
      | exact ih2 _ _ _ _ _ _
      | exact LeO.none _
      | refine LeO.ite ?_ ?_
      | refine LeO.bind ?_ (fun _ => ?_)
theorem computusref22_Assign.mono : ∀ a0 a1 k, LeO (computusref22_Assign.f k a0 a1) (computusref22_Assign.f (k + 1) a0 a1) := by
  intro a0 a1 k
  obtain ⟨ih0, ih1, ih2⟩ := computusref22_Assign.mono_l k
  unfold computusref22_Assign.f
  repeat' first
      | (with_reducible exact ih0 _ _ _ _)
      | (with_reducible exact ih1 _ _ _ _ _)
      | (with_reducible exact ih2 _ _ _ _ _ _)
      | (with_reducible exact LeO.refl _)
      | (with_reducible exact LeO.none _)
      | (with_reducible refine LeO.ite ?_ ?_)
      | (with_reducible refine LeO.bind ?_ (fun _ => ?_))
      | exact ih0 _ _ _ _
      | exact ih1 _ _ _ _ _
      | exact ih2 _ _ _ _ _ _
      | exact LeO.none _
      | refine LeO.ite ?_ ?_
      | refine LeO.bind ?_ (fun _ => ?_)
set_option maxHeartbeats 8000000 in
set_option maxRecDepth 100000 in
theorem computusref22_Assign.calls (k : Nat) (A0 : Option Addr) (c0 : Nat) (l0 : List Bool) (A1 : Option Addr) (c1 : Nat) (l1 : List (List Int)) (r1 : List (S39)) (r2 : Int) (w : World) (hr0 : Kd.C Kd.bool w A0 l0.length l0) (hc0 : l0.length ≤ c0) (hr1 : Kd.C (Kd.slice 3 (Kd.int .i64)) w A1 l1.length l1) (hc1 : l1.length ≤ c1) (h : computusref22_Assign.f k l0 l1 = some (r1, r2)) :
    Calls Try.prog 12 #[.slice A0 l0.length c0, .slice A1 l1.length c1] w fun e w' => ∃ v0_ : Value, e = .returned (.tuple #[v0_, .int .i64 r2]) ∧ Kd.R k39 39 w' w.heap.size (fun _ => True) v0_ r1 ∧ Below w.heap.size w w' := by
  have hu39 := Try.underlying39
  have HR0 := Aside0.mk hr0
  have HC0 := Aside0.mk hc0
  clear hr0 hc0
  have HR1 := Aside0.mk hr1
  have HC1 := Aside0.mk hc1
  clear hr1 hc1
  have HB := Aside0.mk (Below.refl w.heap.size w)
  have H : (if (l0.length : Int) = (l1.length : Int) then ((some (([] : List Bool) : List Bool)).bind fun y207 => (if y207.length + l0.length < 140737488355328 then (computusref22_Assign.l0 k l1 (y207 ++ l0) ([] : List (S39)) 0) else (none))) else (some (([] : List (S39)), 3))) = some (r1, r2) := h
  clear h
  by_cases c3 : (l0.length : Int) = (l1.length : Int)
  · rw [if_pos c3] at H
    have c3b0 : ((l0.length : Int) == (l1.length : Int)) = true := beq_iff_eq.mpr c3
    have c3b1 : ((l0.length : Int) != (l1.length : Int)) = false := bne_eq_false_iff_eq.mpr c3
    have c3b2 : (l0.length == l1.length) = true := by first | simpa using c3 | (simp at c3 ⊢; omega)
    clear c3
    obtain ⟨y207, hy207⟩ : ∃ y_ : List Bool, y_ = (([] : List Bool)) := ⟨_, rfl⟩
    replace H : (if y207.length + l0.length < 140737488355328 then (computusref22_Assign.l0 k l1 (y207 ++ l0) ([] : List (S39)) 0) else (none)) = some (r1, r2) := by first | (rw [hy207]; with_reducible exact H) | (have H2_ := (Option.bind_some _ _).symm.trans H; rw [hy207]; with_reducible exact H2_) | (have H2_ := (Option.bind_some _ _).symm.trans H; with_reducible exact H2_) | with_reducible exact H | (rw [hy207]; exact H) | exact H
    have Ny207 := Aside0.mk hy207
    clear hy207
    by_cases c4 : y207.length + l0.length < 140737488355328
    · rw [if_pos c4] at H
      have LMc4 := Aside0.mk c4
      clear c4
      obtain ⟨y210, hy210⟩ : ∃ y_ : List Bool, y_ = (y207 ++ l0) := ⟨_, rfl⟩
      replace H : (computusref22_Assign.l0 k l1 y210 ([] : List (S39)) 0) = some (r1, r2) := by first | (rw [hy210]; with_reducible exact H) | (have H2_ := (Option.bind_some _ _).symm.trans H; rw [hy210]; with_reducible exact H2_) | (have H2_ := (Option.bind_some _ _).symm.trans H; with_reducible exact H2_) | with_reducible exact H | (rw [hy210]; exact H) | exact H
      have Ny210 := Aside0.mk hy210
      clear hy210
      have H' := Aside0.mk H
      clear H
      go_enter Try.func12, Try.ntmps12
      go_wp2_with (first | ((with_reducible refine gate_dst (N := 16) rfl ?_); refine Kd.R_lit Kd.bool _ 4 ?hg (N := 16) ?hd (xs := ([] : List Bool)) (inner := []) (ok := fun _ => True) (okp := fun _ => True) ?hr ?hp (fun _ hk => hk) trivial (Below.refl _ _) (Nat.le_refl _) (by simp) ?_; (case hd => rfl); (case hg => rfl); (case hr => first | (go_simp; done) | (go_simp; rfl)); (case hp => exact (Reps.none _ _)); intro v208 w5 ho6 hb hg_ hnew_; clear hg_ hnew_; (first | rw [← Ny207.out] at ho6 | (simp only [Int.reduceToNat] at ho6; rw [← Ny207.out] at ho6)); have n0_ := Aside0.mk (Kd.R_lower ho6 (below_size (by repeat (first | (with_reducible first | exact HB.out | apply below_alloc | apply pw_below_drewN | apply below_drew1) | exact HB.out)))); have n1_ := Aside0.mk (below_step (by repeat (first | (with_reducible first | exact HB.out | apply below_alloc | apply pw_below_drewN | apply below_drew1) | exact HB.out)) hb); clear HB; have HO209 := n0_; have HB := n1_; clear n0_ n1_; clear hb ho6) | ((with_reducible refine gate_builtin (b := .append) (xs := #[.tmp 16, .tmp 17]) rfl ?_); at_builtin; refine Kd.R_append_rows Kd.bool (w0 := w) w.heap.size rfl (.tmp 16) (.tmp 17) 22 4 (.bool false) 1 rfl Try.underlying22 info4 rfl (by decide) (by omega) v208 y207 l0 _ _ _ (fun _ => True) (fun _ => False) rfl rfl ?aO ?aR (fun _ _ h => h) (fun _ h => h.elim) ?aF ?aB ?aS ?aL ?_; (case aR => repeat (first | exact (Kd.C_below HR0.out HB.out) | (with_reducible refine Kd.C_alloc ?_ _) | (with_reducible refine Kd.C_drewN ?_ _) | (with_reducible refine Kd.C_drew ?_))); (case aB => exact (by repeat (first | (with_reducible first | exact HB.out | apply below_alloc | apply pw_below_drewN | apply below_drew1) | exact HB.out))); (case aF => exact (fun _ _ => trivial)); (case aO => exact (by (with_reducible repeat (first | apply Kd.R_alloc | apply Kd.R_drewN | apply Kd.R_drew)); exact HO209.out)); (case aS => exact (below_size (by repeat (first | (with_reducible first | exact HB.out | apply below_alloc | apply pw_below_drewN | apply below_drew1) | exact HB.out)))); (case aL => have := LMc4.out; omega); intro v211 w7 ho hb hg hat; rw [← Ny210.out] at ho; have n0_ := Aside0.mk (hb); have n1_ := Aside0.mk (ho); clear HB; clear HO209; have HB := n0_; have HO212 := n1_; clear n0_ n1_; clear ho hb hg hat))
      go_loopg [7, 8] k (fun kq v7 v8 w' => ∃ (x6_1 : List Bool) (x7_1 : List (S39)) (x8_1 : Int), v8 = .int .i64 x8_1 ∧ Aside0 (computusref22_Assign.l0 kq l1 x6_1 x7_1 x8_1 = some (r1, r2)) ∧ Aside0 (kq ≤ k) ∧ Aside0 (Kd.R Kd.bool 4 w' w.heap.size (fun _ => True) v211 x6_1) ∧ Aside0 (Kd.R k39 39 w' w.heap.size (fun _ => True) v7 x7_1) ∧ Aside0 (Below w.heap.size w w'))
      case atStart => exact ⟨(y210), (([] : List (S39))), (0), (by first | rfl | (simp; done) | (simp [*]; done)), H', ⟨Nat.le_refl _⟩, ⟨by (with_reducible repeat (first | apply Kd.R_alloc | apply Kd.R_drewN | apply Kd.R_drew)); exact HO212.out⟩, ⟨by first | exact Kd.R_nil _ _ _ _ _ | exact Kd.N_nil _ _ _ _ _ | exact Kd.V_nil _ _ _ _ _ | exact Kd.Q_nil _ _ _ _ _ | exact Kd.S_nil _ _ _ _ _⟩, ⟨by repeat (first | (with_reducible first | exact HB.out | apply below_alloc | apply pw_below_drewN | apply below_drew1) | exact HB.out)⟩⟩
      case round =>
        clear H'
        try clear c1
        try clear p2
        try clear c3
        try clear c3b0
        try clear c3b1
        try clear c3b2
        try clear c4
        obtain ⟨x6_1, x7_1, x8_1, rfl, HA, HK1, HO_6, HO_7, HB⟩ := hrel
        cases gk with
        | zero => exact absurd HA.out (by simp [computusref22_Assign.l0])
        | succ k1 =>
          have H := HA.out
          clear HA
          simp only [computusref22_Assign.l0] at H
          by_cases c8 : x8_1 < (l1.length : Int)
          · rw [if_pos c8] at H
            have c8b0 : decide (x8_1 < (l1.length : Int)) = true := decide_eq_true c8
            clear c8
            have H' := Aside0.mk H
            clear H
            go_wp2
            go_loopg [7, 9] k1 (fun kq v7 v9 w' => ∃ (x6_2 : List Bool) (x7_2 : List (S39)) (x9_2 : Int), v9 = .int .i64 x9_2 ∧ Aside0 (computusref22_Assign.l1 kq l1 x6_2 x7_2 x8_1 x9_2 = some (r1, r2)) ∧ Aside0 (kq ≤ k1) ∧ Aside0 (Kd.R Kd.bool 4 w' w.heap.size (fun _ => True) v211 x6_2) ∧ Aside0 (Kd.R k39 39 w' w.heap.size (fun _ => True) v7 x7_2) ∧ Aside0 (Below w.heap.size w w'))
            case atStart => exact ⟨(x6_1), (x7_1), (0), (by first | rfl | (simp; done) | (simp [*]; done)), H', ⟨Nat.le_refl _⟩, ⟨by (with_reducible repeat (first | apply Kd.R_alloc | apply Kd.R_drewN | apply Kd.R_drew)); exact HO_6.out⟩, ⟨by (with_reducible repeat (first | apply Kd.R_alloc | apply Kd.R_drewN | apply Kd.R_drew)); exact HO_7.out⟩, ⟨by repeat (first | (with_reducible first | exact HB.out | apply below_alloc | apply pw_below_drewN | apply below_drew1) | exact HB.out)⟩⟩
            case round =>
              clear H'
              try clear c1
              try clear p2
              try clear c3
              try clear c3b0
              try clear c3b1
              try clear c3b2
              try clear c4
              try clear c8
              try clear c8b0
              try clear p2
              obtain ⟨x6_2, x7_2, x9_2, rfl, HA, HK2, HO_6, HO_7, HB⟩ := hrel
              cases gk with
              | zero => exact absurd HA.out (by simp [computusref22_Assign.l1])
              | succ k2 =>
                have H := HA.out
                clear HA
                simp only [computusref22_Assign.l1] at H
                by_cases c9 : 0 ≤ x8_1
                · rw [if_pos c9] at H
                  have c9b0 : decide (0 ≤ x8_1) = true := decide_eq_true c9
                  clear c9
                  by_cases c10 : x8_1 < (l1.length : Int)
                  · rw [if_pos c10] at H
                    have c10b0 : decide (x8_1 < (l1.length : Int)) = true := decide_eq_true c10
                    clear c10
                    by_cases c11 : x9_2 < ((rd_L3 l1 x8_1).length : Int)
                    · rw [if_pos c11] at H
                      have c11b0 : decide (x9_2 < ((rd_L3 l1 x8_1).length : Int)) = true := decide_eq_true c11
                      clear c11
                      have H' := Aside0.mk H
                      clear H
                      have p213 : 0 ≤ (x8_1 : Int) := of_decide_eq_true (by first | (with_reducible assumption) | assumption)
                      have q213 : x8_1 < (l1.length : Int) := of_decide_eq_true (by first | (with_reducible assumption) | assumption)
                      obtain ⟨ad213, A213_0, c213_0, e213, hx213_0, hl213_0, hi213_0⟩ := at_L3 HR1.out x8_1 p213 q213
                      cases e213
                      replace hx213_0 := (HB.out.cell (World.block_lt_of_cell? w _ hx213_0)).trans hx213_0
                      have HR213_0 := Aside0.mk hi213_0
                      have HC213_0 := Aside0.mk hl213_0
                      clear hi213_0 hl213_0
                      replace p213 := eq_true p213
                      replace q213 := eq_true q213
                      go_wp2
                      go_loopg [10] k2 (fun kq v10 w' => ∃ (x10_3 : Int), v10 = .int .i64 x10_3 ∧ Aside0 (computusref22_Assign.l2 kq l1 x6_2 x7_2 x8_1 x9_2 x10_3 = some (r1, r2)) ∧ Aside0 (kq ≤ k2) ∧ Aside0 (Kd.R Kd.bool 4 w' w.heap.size (fun _ => True) v211 x6_2) ∧ Aside0 (Kd.R k39 39 w' w.heap.size (fun _ => True) u7 x7_2) ∧ Aside0 (Below w.heap.size w w'))
                      case atStart => exact ⟨(wrap64 (x8_1 + 1)), (by first | rfl | (simp; done) | (simp [*]; done)), H', ⟨Nat.le_refl _⟩, ⟨by (with_reducible repeat (first | apply Kd.R_alloc | apply Kd.R_drewN | apply Kd.R_drew)); exact HO_6.out⟩, ⟨by (with_reducible repeat (first | apply Kd.R_alloc | apply Kd.R_drewN | apply Kd.R_drew)); exact HO_7.out⟩, ⟨by repeat (first | (with_reducible first | exact HB.out | apply below_alloc | apply pw_below_drewN | apply below_drew1) | exact HB.out)⟩⟩
                      case round =>
                        clear H'
                        try clear c1
                        try clear c2
                        try clear p2
                        try clear q2
                        try clear hx2
                        try clear c3
                        try clear c3b0
                        try clear c3b1
                        try clear c3b2
                        try clear c4
                        try clear p6
                        try clear c8
                        try clear c8b0
                        try clear c9
                        try clear c9b0
                        try clear c10
                        try clear c10b0
                        try clear c11
                        try clear c11b0
                        try clear hx213_0
                        try clear p2
                        try clear p213
                        try clear q213
                        obtain ⟨x10_3, rfl, HA, HK3, HO_6, HO_7, HB⟩ := hrel
                        cases gk with
                        | zero => exact absurd HA.out (by simp [computusref22_Assign.l2])
                        | succ k3 =>
                          have H := HA.out
                          clear HA
                          simp only [computusref22_Assign.l2] at H
                          by_cases c12 : x10_3 < (x6_2.length : Int)
                          · rw [if_pos c12] at H
                            have c12b0 : decide (x10_3 < (x6_2.length : Int)) = true := decide_eq_true c12
                            clear c12
                            by_cases c13 : 0 ≤ x10_3
                            · rw [if_pos c13] at H
                              have c13b0 : decide (0 ≤ x10_3) = true := decide_eq_true c13
                              clear c13
                              obtain ⟨bq14, hbq14⟩ : ∃ b_ : Bool, b_ = (rdOf false x6_2 x10_3) := ⟨_, rfl⟩
                              replace H : (if bq14 = true then (if x10_3 ≥ (x6_2.length : Int) then (some (([] : List (S39)), 5)) else (if 0 ≤ x8_1 then (if x8_1 < (l1.length : Int) then (if 0 ≤ x9_2 then (if x9_2 < ((rd_L3 l1 x8_1).length : Int) then (if x7_2.length < 5864062014805 then (computusref22_Assign.l1 k3 l1 (x6_2.set (x10_3 : Int).toNat false) (x7_2 ++ [(⟨rd (rd_L3 l1 x8_1) x9_2, x8_1, x10_3⟩ : S39)]) x8_1 (wrap64 (x9_2 + 1))) else (none)) else (none)) else (none)) else (none)) else (none))) else (computusref22_Assign.l2 k3 l1 x6_2 x7_2 x8_1 x9_2 (wrap64 (x10_3 + 1)))) = some (r1, r2) := by rw [← hbq14] at H; exact H
                              have Nbq14 := Aside0.mk hbq14
                              clear hbq14
                              by_cases c15 : bq14 = true
                              · subst c15
                                have H1 : (if x10_3 ≥ (x6_2.length : Int) then (some (([] : List (S39)), 5)) else (if 0 ≤ x8_1 then (if x8_1 < (l1.length : Int) then (if 0 ≤ x9_2 then (if x9_2 < ((rd_L3 l1 x8_1).length : Int) then (if x7_2.length < 5864062014805 then (computusref22_Assign.l1 k3 l1 (x6_2.set (x10_3 : Int).toNat false) (x7_2 ++ [(⟨rd (rd_L3 l1 x8_1) x9_2, x8_1, x10_3⟩ : S39)]) x8_1 (wrap64 (x9_2 + 1))) else (none)) else (none)) else (none)) else (none)) else (none))) = some (r1, r2) := by rw [if_pos rfl] at H; exact H
                                clear H
                                have H := H1
                                clear H1
                                by_cases c16 : x10_3 ≥ (x6_2.length : Int)
                                · rw [if_pos c16] at H
                                  have c16b0 : decide ((x6_2.length : Int) ≤ x10_3) = true := decide_eq_true c16
                                  clear c16
                                  simp only [Option.some.injEq, Prod.mk.injEq] at H
                                  obtain ⟨rfl, rfl⟩ := H
                                  obtain ⟨Ao17, co17, eo17⟩ := Kd.R_slice HO_6.out
                                  subst eo17
                                  have p214 : 0 ≤ (x10_3 : Int) := of_decide_eq_true (by first | (with_reducible assumption) | assumption)
                                  have q214 : x10_3 < (x6_2.length : Int) := of_decide_eq_true (by first | (with_reducible assumption) | assumption)
                                  obtain ⟨ad214, e214, hx214_0⟩ := Kd.at_bool (Kd.R_reads' HO_6.out).2.2 x10_3 p214 q214
                                  (try rw [← Nbq14.out] at hx214_0)
                                  cases e214
                                  replace p214 := eq_true p214
                                  replace q214 := eq_true q214
                                  go_wp2
                                  go_ret2
                                  exact ⟨_, by first | rfl | (simp [errW_none, errW_some] <;> rfl) | (simp [*, errW_none, errW_some] <;> rfl), by first | exact Kd.R_nil _ _ _ _ _ | exact Kd.N_nil _ _ _ _ _ | exact Kd.V_nil _ _ _ _ _ | exact Kd.Q_nil _ _ _ _ _ | exact Kd.S_nil _ _ _ _ _, by repeat (first | (with_reducible first | exact HB.out | apply below_alloc | apply pw_below_drewN | apply below_drew1) | exact HB.out)⟩
                                · rw [if_neg c16] at H
                                  have c16b0 : decide ((x6_2.length : Int) ≤ x10_3) = false := decide_eq_false c16
                                  clear c16
                                  obtain ⟨y215, hy215⟩ : ∃ y_ : List Bool, y_ = (x6_2.set (x10_3 : Int).toNat false) := ⟨_, rfl⟩
                                  replace H : (if 0 ≤ x8_1 then (if x8_1 < (l1.length : Int) then (if 0 ≤ x9_2 then (if x9_2 < ((rd_L3 l1 x8_1).length : Int) then (if x7_2.length < 5864062014805 then (computusref22_Assign.l1 k3 l1 y215 (x7_2 ++ [(⟨rd (rd_L3 l1 x8_1) x9_2, x8_1, x10_3⟩ : S39)]) x8_1 (wrap64 (x9_2 + 1))) else (none)) else (none)) else (none)) else (none)) else (none)) = some (r1, r2) := by first | (rw [hy215]; with_reducible exact H) | (have H2_ := (Option.bind_some _ _).symm.trans H; rw [hy215]; with_reducible exact H2_) | (have H2_ := (Option.bind_some _ _).symm.trans H; with_reducible exact H2_) | with_reducible exact H | (rw [hy215]; exact H) | exact H
                                  have Ny215 := Aside0.mk hy215
                                  clear hy215
                                  by_cases c19 : 0 ≤ x8_1
                                  · rw [if_pos c19] at H
                                    have c19b0 : decide (0 ≤ x8_1) = true := decide_eq_true c19
                                    clear c19
                                    by_cases c20 : x8_1 < (l1.length : Int)
                                    · rw [if_pos c20] at H
                                      have c20b0 : decide (x8_1 < (l1.length : Int)) = true := decide_eq_true c20
                                      clear c20
                                      by_cases c21 : 0 ≤ x9_2
                                      · rw [if_pos c21] at H
                                        have c21b0 : decide (0 ≤ x9_2) = true := decide_eq_true c21
                                        clear c21
                                        by_cases c22 : x9_2 < ((rd_L3 l1 x8_1).length : Int)
                                        · rw [if_pos c22] at H
                                          have c22b0 : decide (x9_2 < ((rd_L3 l1 x8_1).length : Int)) = true := decide_eq_true c22
                                          clear c22
                                          by_cases c23 : x7_2.length < 5864062014805
                                          · rw [if_pos c23] at H
                                            have LMc23 := Aside0.mk c23
                                            clear c23
                                            obtain ⟨y218, hy218⟩ : ∃ y_ : List (S39), y_ = (x7_2 ++ [(⟨rd (rd_L3 l1 x8_1) x9_2, x8_1, x10_3⟩ : S39)]) := ⟨_, rfl⟩
                                            replace H : (computusref22_Assign.l1 k3 l1 y215 y218 x8_1 (wrap64 (x9_2 + 1))) = some (r1, r2) := by first | (rw [hy218]; with_reducible exact H) | (have H2_ := (Option.bind_some _ _).symm.trans H; rw [hy218]; with_reducible exact H2_) | (have H2_ := (Option.bind_some _ _).symm.trans H; with_reducible exact H2_) | with_reducible exact H | (rw [hy218]; exact H) | exact H
                                            have Ny218 := Aside0.mk hy218
                                            clear hy218
                                            have H' := Aside0.mk H
                                            clear H
                                            obtain ⟨Ao24, co24, eo24⟩ := Kd.R_slice HO_6.out
                                            subst eo24
                                            have p214 : 0 ≤ (x10_3 : Int) := of_decide_eq_true (by first | (with_reducible assumption) | assumption)
                                            have q214 : x10_3 < (x6_2.length : Int) := of_decide_eq_true (by first | (with_reducible assumption) | assumption)
                                            obtain ⟨ad214, e214, hx214_0⟩ := Kd.at_bool (Kd.R_reads' HO_6.out).2.2 x10_3 p214 q214
                                            (try rw [← Nbq14.out] at hx214_0)
                                            cases e214
                                            replace p214 := eq_true p214
                                            replace q214 := eq_true q214
                                            have p18 : 0 ≤ (x10_3 : Int) := of_decide_eq_true (by first | (with_reducible assumption) | assumption)
                                            have q18 : (x10_3 : Int) < ((x6_2.length : Int) : Int) := of_decide_eq_true (by first | (with_reducible assumption) | assumption)
                                            obtain ⟨go18, co18, eo18, gb18, gl18, cl18, HG18⟩ := Kd.R_form HO_6.out (by omega)
                                            (first | cases eo18 | (injection eo18 with ea_ en_ ec_; (first | subst ea_ | (injection ea_ with ea_; subst ea_)); subst ec_; clear en_))
                                            have GB18 := Aside0.mk gb18
                                            have GG18 := Aside0.mk HG18
                                            clear gb18 gl18 HG18
                                            (first | simp only [add_plain] at hx214_0 | skip)
                                            obtain ⟨hx18_0, hf18_0⟩ := Kd.R_celln false HO_6.out (x10_3 : Int) p18 q18
                                            replace p18 := eq_true p18
                                            replace q18 := eq_true q18
                                            have HP25 := Kd.R_putg HO_6.out (x10_3 : Int) false
                                            go_wp2_with (first | ((with_reducible refine gate_store (t := 4) (p := 55) rfl ?_); refine store_event (t := 4) (p := 55) (v := ?vo_w26) (w1 := (wr.setCell ⟨go18, (x10_3 : Int).toNat, none⟩ (.bool false))) ?hg ?ho ?hn ?hr ?_; (case ho => rfl); (case hg => rfl); (case hn => rfl); (case hr => first | (go_simp; done) | (go_simp; rfl)); intro w26 hw; have hg : wr.grownBy w26 (some go18) := (by rw [hw]; exact HP25.2); have hp_ : Kd.R Kd.bool 4 w26 w.heap.size (fun _ => True) (.slice (some ⟨go18, 0, none⟩) x6_2.length co24) y215 := (by rw [hw, Ny215.out]; exact HP25.1); clear HP25; have n0_ := Aside0.mk (hp_); have n1_ := Aside0.mk (Kd.R_over' (v := (.slice (some ⟨go18, 0, none⟩) x6_2.length co24)) (by (with_reducible repeat (first | apply Kd.R_alloc | apply Kd.R_drewN | apply Kd.R_drew)); exact HO_7.out) (Kd.R_typed HO_6.out) (by decide) hg); have n2_ := Aside0.mk ((by rw [hw]; exact below_set (HB.out) GB18.out : Below w.heap.size w w26)); clear HO_6; clear HO_7; clear HB; have HO_6 := n0_; have HO_7 := n1_; have HB := n2_; clear n0_ n1_ n2_; clear hg hw hp_; have p216 : 0 ≤ (x8_1 : Int) := of_decide_eq_true (by first | (with_reducible assumption) | assumption); have q216 : x8_1 < (l1.length : Int) := of_decide_eq_true (by first | (with_reducible assumption) | assumption); obtain ⟨ad216, A216_0, c216_0, e216, hx216_0, hl216_0, hi216_0⟩ := at_L3 HR1.out x8_1 p216 q216; obtain rfl : ad213 = ad216 := (by injection e216); replace hx216_0 := (HB.out.cell (World.block_lt_of_cell? w _ hx216_0)).trans hx216_0; have HR216_0 := Aside0.mk hi216_0; have HC216_0 := Aside0.mk hl216_0; clear hi216_0 hl216_0; replace p216 := eq_true p216; replace q216 := eq_true q216; have p217 : 0 ≤ (x9_2 : Int) := of_decide_eq_true (by first | (with_reducible assumption) | assumption); have q217 : x9_2 < ((rd_L3 l1 x8_1).length : Int) := of_decide_eq_true (by first | (with_reducible assumption) | assumption); obtain ⟨ad217, e217, hx217_0⟩ := Kd.at_int HR216_0.out x9_2 p217 q217; cases e217; replace hx217_0 := (HB.out.cell (World.block_lt_of_cell? w _ hx217_0)).trans hx217_0; replace p217 := eq_true p217; replace q217 := eq_true q217) | ((with_reducible refine gate_builtin (b := .append) (xs := #[.tmp 56, .tmp 67]) rfl ?_); at_builtin; refine Kd.R_append k39 (w0 := w) w.heap.size rfl (.tmp 56) (.tmp 67) 30 39 (.agg #[(.int .i64 0), (.int .i64 0), (.int .i64 0)]) 24 rfl Try.underlying30 info39 rfl (by decide) (by omega) u7 x7_2 (⟨rd (rd_L3 l1 x8_1) x9_2, x8_1, x10_3⟩ : S39) [.int .i64 (rd (rd_L3 l1 x8_1) x9_2), .int .i64 x8_1, .int .i64 x10_3] (fun _ => True) (fun _ => False) rfl rfl ?aP (fun _ hk => hk.elim) ?aF ?aO ?aB ?aS ?aL ?_; (case aP => exact k39_mkM _ _ _ (⟨rd (rd_L3 l1 x8_1) x9_2, x8_1, x10_3⟩ : S39)); (case aB => exact (by repeat (first | (with_reducible first | exact HB.out | apply below_alloc | apply pw_below_drewN | apply below_drew1) | exact HB.out))); (case aF => exact (fun _ _ => trivial)); (case aO => exact (by (with_reducible repeat (first | apply Kd.R_alloc | apply Kd.R_drewN | apply Kd.R_drew)); exact HO_7.out)); (case aS => exact (below_size (by repeat (first | (with_reducible first | exact HB.out | apply below_alloc | apply pw_below_drewN | apply below_drew1) | exact HB.out)))); (case aL => have := LMc23.out; omega); intro v219 w27 ho hb hg hat; rw [← Ny218.out] at ho; have n0_ := Aside0.mk (Kd.R_over' (by (with_reducible repeat (first | apply Kd.R_alloc | apply Kd.R_drewN | apply Kd.R_drew)); exact HO_6.out) (Kd.R_typed (by (with_reducible repeat (first | apply Kd.R_alloc | apply Kd.R_drewN | apply Kd.R_drew)); exact HO_7.out)) (by decide) hg); have n1_ := Aside0.mk (hb); have n2_ := Aside0.mk (ho); clear HO_6; clear HB; clear HO_7; have HO_6 := n0_; have HB := n1_; have HO220 := n2_; clear n0_ n1_ n2_; clear ho hb hg hat))
                                            go_roundg k3
                                            case measure => have := HK1.out; have := HK2.out; have := HK3.out; omega
                                            case rel => exact ⟨(y215), (y218), (wrap64 (x9_2 + 1)), (by first | rfl | (simp; done) | (simp [*]; done)), H', ⟨by have := HK1.out; have := HK2.out; have := HK3.out; omega⟩, ⟨by (with_reducible repeat (first | apply Kd.R_alloc | apply Kd.R_drewN | apply Kd.R_drew)); exact HO_6.out⟩, ⟨by (with_reducible repeat (first | apply Kd.R_alloc | apply Kd.R_drewN | apply Kd.R_drew)); exact HO220.out⟩, ⟨by repeat (first | (with_reducible first | exact HB.out | apply below_alloc | apply pw_below_drewN | apply below_drew1) | exact HB.out)⟩⟩
                                          · rw [if_neg c23] at H
                                            exact absurd H (by simp)
                                        · rw [if_neg c22] at H
                                          exact absurd H (by simp)
                                      · rw [if_neg c21] at H
                                        exact absurd H (by simp)
                                    · rw [if_neg c20] at H
                                      exact absurd H (by simp)
                                  · rw [if_neg c19] at H
                                    exact absurd H (by simp)
                              · replace c15 := Bool.eq_false_iff.mpr c15
                                subst c15
                                have H1 : (computusref22_Assign.l2 k3 l1 x6_2 x7_2 x8_1 x9_2 (wrap64 (x10_3 + 1))) = some (r1, r2) := by rw [if_neg (show ¬ (false = true) by decide)] at H; exact H
                                clear H
                                have H := H1
                                clear H1
                                have H' := Aside0.mk H
                                clear H
                                obtain ⟨Ao28, co28, eo28⟩ := Kd.R_slice HO_6.out
                                subst eo28
                                have p214 : 0 ≤ (x10_3 : Int) := of_decide_eq_true (by first | (with_reducible assumption) | assumption)
                                have q214 : x10_3 < (x6_2.length : Int) := of_decide_eq_true (by first | (with_reducible assumption) | assumption)
                                obtain ⟨ad214, e214, hx214_0⟩ := Kd.at_bool (Kd.R_reads' HO_6.out).2.2 x10_3 p214 q214
                                (try rw [← Nbq14.out] at hx214_0)
                                cases e214
                                replace p214 := eq_true p214
                                replace q214 := eq_true q214
                                go_wp2
                                go_roundg k3
                                case measure => have := HK1.out; have := HK2.out; have := HK3.out; omega
                                case rel => exact ⟨(wrap64 (x10_3 + 1)), (by first | rfl | (simp; done) | (simp [*]; done)), H', ⟨by have := HK1.out; have := HK2.out; have := HK3.out; omega⟩, ⟨by (with_reducible repeat (first | apply Kd.R_alloc | apply Kd.R_drewN | apply Kd.R_drew)); exact HO_6.out⟩, ⟨by (with_reducible repeat (first | apply Kd.R_alloc | apply Kd.R_drewN | apply Kd.R_drew)); exact HO_7.out⟩, ⟨by repeat (first | (with_reducible first | exact HB.out | apply below_alloc | apply pw_below_drewN | apply below_drew1) | exact HB.out)⟩⟩
                            · rw [if_neg c13] at H
                              exact absurd H (by simp)
                          · rw [if_neg c12] at H
                            have c12b0 : decide (x10_3 < (x6_2.length : Int)) = false := decide_eq_false c12
                            clear c12
                            by_cases c29 : x10_3 ≥ (x6_2.length : Int)
                            · rw [if_pos c29] at H
                              have c29b0 : decide ((x6_2.length : Int) ≤ x10_3) = true := decide_eq_true c29
                              clear c29
                              simp only [Option.some.injEq, Prod.mk.injEq] at H
                              obtain ⟨rfl, rfl⟩ := H
                              obtain ⟨Ao30, co30, eo30⟩ := Kd.R_slice HO_6.out
                              subst eo30
                              go_wp2
                              go_ret2
                              exact ⟨_, by first | rfl | (simp [errW_none, errW_some] <;> rfl) | (simp [*, errW_none, errW_some] <;> rfl), by first | exact Kd.R_nil _ _ _ _ _ | exact Kd.N_nil _ _ _ _ _ | exact Kd.V_nil _ _ _ _ _ | exact Kd.Q_nil _ _ _ _ _ | exact Kd.S_nil _ _ _ _ _, by repeat (first | (with_reducible first | exact HB.out | apply below_alloc | apply pw_below_drewN | apply below_drew1) | exact HB.out)⟩
                            · rw [if_neg c29] at H
                              have c29b0 : decide ((x6_2.length : Int) ≤ x10_3) = false := decide_eq_false c29
                              clear c29
                              by_cases c31 : 0 ≤ x10_3
                              · rw [if_pos c31] at H
                                exact absurd H (by simp)
                              · rw [if_neg c31] at H
                                exact absurd H (by simp)
                    · rw [if_neg c11] at H
                      have c11b0 : decide (x9_2 < ((rd_L3 l1 x8_1).length : Int)) = false := decide_eq_false c11
                      clear c11
                      have H' := Aside0.mk H
                      clear H
                      have p213 : 0 ≤ (x8_1 : Int) := of_decide_eq_true (by first | (with_reducible assumption) | assumption)
                      have q213 : x8_1 < (l1.length : Int) := of_decide_eq_true (by first | (with_reducible assumption) | assumption)
                      obtain ⟨ad213, A213_0, c213_0, e213, hx213_0, hl213_0, hi213_0⟩ := at_L3 HR1.out x8_1 p213 q213
                      cases e213
                      replace hx213_0 := (HB.out.cell (World.block_lt_of_cell? w _ hx213_0)).trans hx213_0
                      have HR213_0 := Aside0.mk hi213_0
                      have HC213_0 := Aside0.mk hl213_0
                      clear hi213_0 hl213_0
                      replace p213 := eq_true p213
                      replace q213 := eq_true q213
                      go_wp2
                      go_roundg k2
                      case measure => have := HK1.out; have := HK2.out; omega
                      case rel => exact ⟨(x6_2), (x7_2), (wrap64 (x8_1 + 1)), (by first | rfl | (simp; done) | (simp [*]; done)), H', ⟨by have := HK1.out; have := HK2.out; omega⟩, ⟨by (with_reducible repeat (first | apply Kd.R_alloc | apply Kd.R_drewN | apply Kd.R_drew)); exact HO_6.out⟩, ⟨by (with_reducible repeat (first | apply Kd.R_alloc | apply Kd.R_drewN | apply Kd.R_drew)); exact HO_7.out⟩, ⟨by repeat (first | (with_reducible first | exact HB.out | apply below_alloc | apply pw_below_drewN | apply below_drew1) | exact HB.out)⟩⟩
                  · rw [if_neg c10] at H
                    exact absurd H (by simp)
                · rw [if_neg c9] at H
                  exact absurd H (by simp)
          · rw [if_neg c8] at H
            have c8b0 : decide (x8_1 < (l1.length : Int)) = false := decide_eq_false c8
            clear c8
            simp only [Option.some.injEq, Prod.mk.injEq] at H
            obtain ⟨rfl, rfl⟩ := H
            go_wp2
            go_ret2
            exact ⟨_, by first | rfl | (simp [errW_none, errW_some] <;> rfl) | (simp [*, errW_none, errW_some] <;> rfl), by (with_reducible repeat (first | apply Kd.R_alloc | apply Kd.R_drewN | apply Kd.R_drew)); exact HO_7.out, by repeat (first | (with_reducible first | exact HB.out | apply below_alloc | apply pw_below_drewN | apply below_drew1) | exact HB.out)⟩
    · rw [if_neg c4] at H
      exact absurd H (by simp)
  · rw [if_neg c3] at H
    have c3b0 : ((l0.length : Int) == (l1.length : Int)) = false := beq_eq_false_iff_ne.mpr c3
    have c3b1 : ((l0.length : Int) != (l1.length : Int)) = true := bne_iff_ne.mpr c3
    have c3b2 : (l0.length == l1.length) = false := by first | simpa using c3 | (simp at c3 ⊢; omega)
    simp only [Option.some.injEq, Prod.mk.injEq] at H
    obtain ⟨rfl, rfl⟩ := H
    go_enter Try.func12, Try.ntmps12
    go_wp2
    go_ret2
    exact ⟨_, by first | rfl | (simp [errW_none, errW_some] <;> rfl) | (simp [*, errW_none, errW_some] <;> rfl), by first | exact Kd.R_nil _ _ _ _ _ | exact Kd.N_nil _ _ _ _ _ | exact Kd.V_nil _ _ _ _ _ | exact Kd.Q_nil _ _ _ _ _ | exact Kd.S_nil _ _ _ _ _, by repeat (first | (with_reducible first | exact HB.out | apply below_alloc | apply pw_below_drewN | apply below_drew1) | exact HB.out)⟩

end Go.Proofs.Ytjjgkgedadjodaa.Q
