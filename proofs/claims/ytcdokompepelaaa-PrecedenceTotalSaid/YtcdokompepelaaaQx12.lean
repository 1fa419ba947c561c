-- Written by wip/tool/qprint.py: the print of the kit, with hand-proved contracts put in. Lean checks it.
import Derived.Test.YtcdokompepelaaaQx0
import Derived.Test.YtcdokompepelaaaQx3
import Derived.Test.YtcdokompepelaaaQx5
import Derived.Test.YtcdokompepelaaaQx6
namespace Go.Proofs.Ytcdokompepelaaa.Q
open Go.RowKit Go.Proofs.YtcdokompepelaaaW.PrintWords Go.Proofs.YtcdokompepelaaaW.PrintLast Go.Proofs.YtcdokompepelaaaW.PrintMore
attribute [local go_sem] max2_int min2_int max_two min_two max_three min_three max_four min_four   -- for this text's walks alone
set_option linter.unusedVariables false
set_option linter.unusedSimpArgs false

/-! ### computuslaw20_PrecedenceTotal: function 4 -/
mutual
def computuslaw20_PrecedenceTotal.j0 : Nat → List (S29) → Bool → Bool → Bool → Option (Bool)
  | 0, _, _, _, _ => none
  | k + 1, x7, x8, x9, x10 => if x8 = true then (if x9 = true then (computuslaw20_PrecedenceTotal.j1 k x7 x8 true) else (computuslaw20_PrecedenceTotal.j1 k x7 x8 (x10 != false))) else (computuslaw20_PrecedenceTotal.j1 k x7 x8 (x10 != (!x9)))
def computuslaw20_PrecedenceTotal.j1 : Nat → List (S29) → Bool → Bool → Option (Bool)
  | 0, _, _, _ => none
  | k + 1, x7, x8, x64 => if x64 = true then (none) else (if x8 = true then (if 1 < (x7.length : Int) then (if 2 < (x7.length : Int) then ((precedence_Precedes.f ((rd_T29 x7 1).f0) ((rd_T29 x7 1).f1) ((rd_T29 x7 1).f2) ((rd_T29 x7 1).f3) ((rd_T29 x7 2).f0) ((rd_T29 x7 2).f1) ((rd_T29 x7 2).f2) ((rd_T29 x7 2).f3)).bind fun t244 => (if t244 = true then (if 0 < (x7.length : Int) then ((precedence_Precedes.f ((rd_T29 x7 0).f0) ((rd_T29 x7 0).f1) ((rd_T29 x7 0).f2) ((rd_T29 x7 0).f3) ((rd_T29 x7 2).f0) ((rd_T29 x7 2).f1) ((rd_T29 x7 2).f2) ((rd_T29 x7 2).f3)).bind fun t247 => (some t247)) else (none)) else (some true))) else (none)) else (none)) else (some true))
end
def computuslaw20_PrecedenceTotal.f (k : Nat) (a0_0 : Int) (a0_1 : Int) (a0_2 : Int) (a0_3 : ByteArray) (a1_0 : Int) (a1_1 : Int) (a1_2 : Int) (a1_3 : ByteArray) (a2_0 : Int) (a2_1 : Int) (a2_2 : Int) (a2_3 : ByteArray) : Option (Bool) := (computuslaw20_awake.f k).bind fun t229 => (if t229 = true then ((computuslaw20_forward.f k (([(⟨a0_0, a0_1, a0_2, a0_3⟩ : S24), (⟨a1_0, a1_1, a1_2, a1_3⟩ : S24), (⟨a2_0, a2_1, a2_2, a2_3⟩ : S24)] : List (S24)))).bind fun t233 => (if 0 < (t233.length : Int) then (if 1 < (t233.length : Int) then ((precedence_Precedes.f ((rd_T29 t233 0).f0) ((rd_T29 t233 0).f1) ((rd_T29 t233 0).f2) ((rd_T29 t233 0).f3) ((rd_T29 t233 1).f0) ((rd_T29 t233 1).f1) ((rd_T29 t233 1).f2) ((rd_T29 t233 1).f3)).bind fun t238 => ((precedence_Precedes.f ((rd_T29 t233 1).f0) ((rd_T29 t233 1).f1) ((rd_T29 t233 1).f2) ((rd_T29 t233 1).f3) ((rd_T29 t233 0).f0) ((rd_T29 t233 0).f1) ((rd_T29 t233 0).f2) ((rd_T29 t233 0).f3)).bind fun t241 => (if a0_2 = a1_2 then (if a0_0 = a1_0 then (computuslaw20_PrecedenceTotal.j0 k t233 t238 t241 (a0_1 == a1_1)) else (computuslaw20_PrecedenceTotal.j0 k t233 t238 t241 false)) else (computuslaw20_PrecedenceTotal.j0 k t233 t238 t241 false)))) else (none)) else (none))) else (none))
theorem computuslaw20_PrecedenceTotal.mono_l : ∀ k, (∀ y0 y1 y2 y3, LeO (computuslaw20_PrecedenceTotal.j0 k y0 y1 y2 y3) (computuslaw20_PrecedenceTotal.j0 (k + 1) y0 y1 y2 y3)) ∧ (∀ y0 y1 y2, LeO (computuslaw20_PrecedenceTotal.j1 k y0 y1 y2) (computuslaw20_PrecedenceTotal.j1 (k + 1) y0 y1 y2))
  | 0 => ⟨fun _ _ _ _ r h => by simp [computuslaw20_PrecedenceTotal.j0] at h, fun _ _ _ r h => by simp [computuslaw20_PrecedenceTotal.j1] at h⟩
  | k + 1 => by
    obtain ⟨ih0, ih1⟩ := computuslaw20_PrecedenceTotal.mono_l k
    refine ⟨?_, ?_⟩
    · intro y0 y1 y2 y3
      unfold computuslaw20_PrecedenceTotal.j0
      repeat' first
      | (with_reducible exact ih0 _ _ _ _)
      | (with_reducible exact ih1 _ _ _)
      | (with_reducible exact computuslaw20_awake.mono _)
      | (with_reducible exact computuslaw20_forward.mono _ _)
      | (with_reducible exact LeO.refl _)
      | (with_reducible exact LeO.none _)
      | (with_reducible refine LeO.ite ?_ ?_)
      | (with_reducible refine LeO.bind ?_ (fun _ => ?_))
      | exact ih0 _ _ _ _
      | exact ih1 _ _ _
      | exact computuslaw20_awake.mono _
      | exact computuslaw20_forward.mono _ _
      | exact LeO.none _
      | refine LeO.ite ?_ ?_
      | refine LeO.bind ?_ (fun _ => ?_)
    · intro y0 y1 y2
      unfold computuslaw20_PrecedenceTotal.j1
      repeat' first
      | (with_reducible exact ih0 _ _ _ _)
      | (with_reducible exact ih1 _ _ _)
      | (with_reducible exact computuslaw20_awake.mono _)
      | (with_reducible exact computuslaw20_forward.mono _ _)
      | (with_reducible exact LeO.refl _)
      | (with_reducible exact LeO.none _)
      | (with_reducible refine LeO.ite ?_ ?_)
      | (with_reducible refine LeO.bind ?_ (fun _ => ?_))
      | exact ih0 _ _ _ _
      | exact ih1 _ _ _
      | exact computuslaw20_awake.mono _
      | exact computuslaw20_forward.mono _ _
      | exact LeO.none _
      | refine LeO.ite ?_ ?_
      | refine LeO.bind ?_ (fun _ => ?_)
theorem computuslaw20_PrecedenceTotal.mono : ∀ a0 a1 a2 a3 a4 a5 a6 a7 a8 a9 a10 a11 k, LeO (computuslaw20_PrecedenceTotal.f k a0 a1 a2 a3 a4 a5 a6 a7 a8 a9 a10 a11) (computuslaw20_PrecedenceTotal.f (k + 1) a0 a1 a2 a3 a4 a5 a6 a7 a8 a9 a10 a11) := by
  intro a0 a1 a2 a3 a4 a5 a6 a7 a8 a9 a10 a11 k
  obtain ⟨ih0, ih1⟩ := computuslaw20_PrecedenceTotal.mono_l k
  unfold computuslaw20_PrecedenceTotal.f
  repeat' first
      | (with_reducible exact ih0 _ _ _ _)
      | (with_reducible exact ih1 _ _ _)
      | (with_reducible exact computuslaw20_awake.mono _)
      | (with_reducible exact computuslaw20_forward.mono _ _)
      | (with_reducible exact LeO.refl _)
      | (with_reducible exact LeO.none _)
      | (with_reducible refine LeO.ite ?_ ?_)
      | (with_reducible refine LeO.bind ?_ (fun _ => ?_))
      | exact ih0 _ _ _ _
      | exact ih1 _ _ _
      | exact computuslaw20_awake.mono _
      | exact computuslaw20_forward.mono _ _
      | exact LeO.none _
      | refine LeO.ite ?_ ?_
      | refine LeO.bind ?_ (fun _ => ?_)
def computuslaw20_PrecedenceTotal.T4 : Bool × List (List Nat × List Nat) := (true, [([], []), ([0], [0]), ([1], [1]), ([], []), ([3], [3]), ([4], [4]), ([2, 5], [2, 5]), ([6, 6, 0, 1, 2, 3, 4, 5, 6], [6])])
def computuslaw20_PrecedenceTotal.B4 : List Nat := [0, 1, 3, 0, 8, 24, 63, 127]
theorem computuslaw20_PrecedenceTotal.tab4 : rtab .any (opsOf Try.f4 4) = computuslaw20_PrecedenceTotal.T4 := by kernel_rfl
theorem computuslaw20_PrecedenceTotal.bits4 : waitsOk computuslaw20_PrecedenceTotal.T4.2 computuslaw20_PrecedenceTotal.B4 = true := by kernel_rfl
def computuslaw20_PrecedenceTotal.T5 : Bool × List (List Nat × List Nat) := (true, [([], []), ([0], [0]), ([1], [1]), ([], []), ([3], [3]), ([4], [4]), ([2, 5], [2, 5]), ([6, 6, 0, 1, 2, 3, 4, 5, 6], [6])])
def computuslaw20_PrecedenceTotal.B5 : List Nat := [0, 1, 3, 0, 8, 24, 63, 127]
theorem computuslaw20_PrecedenceTotal.tab5 : rtab .any (opsOf Try.f4 5) = computuslaw20_PrecedenceTotal.T5 := by kernel_rfl
theorem computuslaw20_PrecedenceTotal.bits5 : waitsOk computuslaw20_PrecedenceTotal.T5.2 computuslaw20_PrecedenceTotal.B5 = true := by kernel_rfl
def computuslaw20_PrecedenceTotal.T9 : Bool × List (List Nat × List Nat) := (true, [([], []), ([0], [0]), ([1], [1]), ([2], [2]), ([3, 2], [2, 3]), ([4, 2], [2, 4]), ([2], [2]), ([6, 2], [2, 6]), ([7, 2], [2, 7]), ([5, 8, 2, 2], [2, 5, 8]), ([9, 2], [2, 9]), ([2, 10], [2, 10]), ([11, 9], [11]), ([12], [12]), ([13, 12], [12, 13]), ([14, 12], [12, 14]), ([12], [12]), ([16, 12], [12, 16]), ([17, 12], [12, 17]), ([15, 18, 12, 12], [12, 15, 18]), ([12, 19], [12, 19]), ([20, 19, 0, 1, 2, 3, 4, 5, 6, 7, 8, 9, 10, 11, 12, 13, 14, 15, 16, 17, 18, 19, 20], [20])])
def computuslaw20_PrecedenceTotal.B9 : List Nat := [0, 1, 3, 7, 15, 31, 7, 71, 199, 511, 1023, 2047, 4095, 8191, 16383, 32767, 8191, 73727, 204799, 524287, 1048575, 2097151]
theorem computuslaw20_PrecedenceTotal.tab9 : rtab .any (opsOf Try.f4 9) = computuslaw20_PrecedenceTotal.T9 := by kernel_rfl
theorem computuslaw20_PrecedenceTotal.bits9 : waitsOk computuslaw20_PrecedenceTotal.T9.2 computuslaw20_PrecedenceTotal.B9 = true := by kernel_rfl
set_option maxHeartbeats 8000000 in
set_option maxRecDepth 100000 in
theorem computuslaw20_PrecedenceTotal.calls (k : Nat) (a0_0 : Int) (a0_1 : Int) (a0_2 : Int) (a0_3 : ByteArray) (a1_0 : Int) (a1_1 : Int) (a1_2 : Int) (a1_3 : ByteArray) (a2_0 : Int) (a2_1 : Int) (a2_2 : Int) (a2_3 : ByteArray) (r : Bool) (w : World) (h : computuslaw20_PrecedenceTotal.f k a0_0 a0_1 a0_2 a0_3 a1_0 a1_1 a1_2 a1_3 a2_0 a2_1 a2_2 a2_3 = some r) :
    Calls Try.prog 4 #[.agg #[.int .i64 a0_0, .int .i64 a0_1, .int .i64 a0_2, .string a0_3], .agg #[.int .i64 a1_0, .int .i64 a1_1, .int .i64 a1_2, .string a1_3], .agg #[.int .i64 a2_0, .int .i64 a2_1, .int .i64 a2_2, .string a2_3]] w fun e w' => e = .returned (.bool r) ∧ Below w.heap.size w w' := by
  have hu24 := Try.underlying24
  have hu29 := Try.underlying29
  have HB := Aside0.mk (Below.refl w.heap.size w)
  have H : ((computuslaw20_awake.f k).bind fun t229 => (if t229 = true then ((computuslaw20_forward.f k (([(⟨a0_0, a0_1, a0_2, a0_3⟩ : S24), (⟨a1_0, a1_1, a1_2, a1_3⟩ : S24), (⟨a2_0, a2_1, a2_2, a2_3⟩ : S24)] : List (S24)))).bind fun t233 => (if 0 < (t233.length : Int) then (if 1 < (t233.length : Int) then ((precedence_Precedes.f ((rd_T29 t233 0).f0) ((rd_T29 t233 0).f1) ((rd_T29 t233 0).f2) ((rd_T29 t233 0).f3) ((rd_T29 t233 1).f0) ((rd_T29 t233 1).f1) ((rd_T29 t233 1).f2) ((rd_T29 t233 1).f3)).bind fun t238 => ((precedence_Precedes.f ((rd_T29 t233 1).f0) ((rd_T29 t233 1).f1) ((rd_T29 t233 1).f2) ((rd_T29 t233 1).f3) ((rd_T29 t233 0).f0) ((rd_T29 t233 0).f1) ((rd_T29 t233 0).f2) ((rd_T29 t233 0).f3)).bind fun t241 => (if a0_2 = a1_2 then (if a0_0 = a1_0 then (computuslaw20_PrecedenceTotal.j0 k t233 t238 t241 (a0_1 == a1_1)) else (computuslaw20_PrecedenceTotal.j0 k t233 t238 t241 false)) else (computuslaw20_PrecedenceTotal.j0 k t233 t238 t241 false)))) else (none)) else (none))) else (none))) = some r := h
  clear h
  replace H := Option.bind_eq_some_iff.mp H
  obtain ⟨t229, A40, H⟩ := H
  replace H : (if t229 = true then ((computuslaw20_forward.f k (([(⟨a0_0, a0_1, a0_2, a0_3⟩ : S24), (⟨a1_0, a1_1, a1_2, a1_3⟩ : S24), (⟨a2_0, a2_1, a2_2, a2_3⟩ : S24)] : List (S24)))).bind fun t233 => (if 0 < (t233.length : Int) then (if 1 < (t233.length : Int) then ((precedence_Precedes.f ((rd_T29 t233 0).f0) ((rd_T29 t233 0).f1) ((rd_T29 t233 0).f2) ((rd_T29 t233 0).f3) ((rd_T29 t233 1).f0) ((rd_T29 t233 1).f1) ((rd_T29 t233 1).f2) ((rd_T29 t233 1).f3)).bind fun t238 => ((precedence_Precedes.f ((rd_T29 t233 1).f0) ((rd_T29 t233 1).f1) ((rd_T29 t233 1).f2) ((rd_T29 t233 1).f3) ((rd_T29 t233 0).f0) ((rd_T29 t233 0).f1) ((rd_T29 t233 0).f2) ((rd_T29 t233 0).f3)).bind fun t241 => (if a0_2 = a1_2 then (if a0_0 = a1_0 then (computuslaw20_PrecedenceTotal.j0 k t233 t238 t241 (a0_1 == a1_1)) else (computuslaw20_PrecedenceTotal.j0 k t233 t238 t241 false)) else (computuslaw20_PrecedenceTotal.j0 k t233 t238 t241 false)))) else (none)) else (none))) else (none)) = some r := H
  have A4 := Aside0.mk A40
  clear A40
  by_cases c5 : t229 = true
  · subst c5
    have H1 : ((computuslaw20_forward.f k (([(⟨a0_0, a0_1, a0_2, a0_3⟩ : S24), (⟨a1_0, a1_1, a1_2, a1_3⟩ : S24), (⟨a2_0, a2_1, a2_2, a2_3⟩ : S24)] : List (S24)))).bind fun t233 => (if 0 < (t233.length : Int) then (if 1 < (t233.length : Int) then ((precedence_Precedes.f ((rd_T29 t233 0).f0) ((rd_T29 t233 0).f1) ((rd_T29 t233 0).f2) ((rd_T29 t233 0).f3) ((rd_T29 t233 1).f0) ((rd_T29 t233 1).f1) ((rd_T29 t233 1).f2) ((rd_T29 t233 1).f3)).bind fun t238 => ((precedence_Precedes.f ((rd_T29 t233 1).f0) ((rd_T29 t233 1).f1) ((rd_T29 t233 1).f2) ((rd_T29 t233 1).f3) ((rd_T29 t233 0).f0) ((rd_T29 t233 0).f1) ((rd_T29 t233 0).f2) ((rd_T29 t233 0).f3)).bind fun t241 => (if a0_2 = a1_2 then (if a0_0 = a1_0 then (computuslaw20_PrecedenceTotal.j0 k t233 t238 t241 (a0_1 == a1_1)) else (computuslaw20_PrecedenceTotal.j0 k t233 t238 t241 false)) else (computuslaw20_PrecedenceTotal.j0 k t233 t238 t241 false)))) else (none)) else (none))) = some r := by rw [if_pos rfl] at H; exact H
    clear H
    have H := H1
    clear H1
    obtain ⟨y230, hy230⟩ : ∃ y_ : List (S24), y_ = (([(⟨a0_0, a0_1, a0_2, a0_3⟩ : S24), (⟨a1_0, a1_1, a1_2, a1_3⟩ : S24), (⟨a2_0, a2_1, a2_2, a2_3⟩ : S24)] : List (S24))) := ⟨_, rfl⟩
    replace H : ((computuslaw20_forward.f k y230).bind fun t233 => (if 0 < (t233.length : Int) then (if 1 < (t233.length : Int) then ((precedence_Precedes.f ((rd_T29 t233 0).f0) ((rd_T29 t233 0).f1) ((rd_T29 t233 0).f2) ((rd_T29 t233 0).f3) ((rd_T29 t233 1).f0) ((rd_T29 t233 1).f1) ((rd_T29 t233 1).f2) ((rd_T29 t233 1).f3)).bind fun t238 => ((precedence_Precedes.f ((rd_T29 t233 1).f0) ((rd_T29 t233 1).f1) ((rd_T29 t233 1).f2) ((rd_T29 t233 1).f3) ((rd_T29 t233 0).f0) ((rd_T29 t233 0).f1) ((rd_T29 t233 0).f2) ((rd_T29 t233 0).f3)).bind fun t241 => (if a0_2 = a1_2 then (if a0_0 = a1_0 then (computuslaw20_PrecedenceTotal.j0 k t233 t238 t241 (a0_1 == a1_1)) else (computuslaw20_PrecedenceTotal.j0 k t233 t238 t241 false)) else (computuslaw20_PrecedenceTotal.j0 k t233 t238 t241 false)))) else (none)) else (none))) = some r := by first | (rw [hy230]; with_reducible exact H) | (have H2_ := (Option.bind_some _ _).symm.trans H; rw [hy230]; with_reducible exact H2_) | (have H2_ := (Option.bind_some _ _).symm.trans H; with_reducible exact H2_) | with_reducible exact H | (rw [hy230]; exact H) | exact H
    have Ny230 := Aside0.mk hy230
    clear hy230
    replace H := Option.bind_eq_some_iff.mp H
    obtain ⟨t233, A60, H⟩ := H
    replace H : (if 0 < (t233.length : Int) then (if 1 < (t233.length : Int) then ((precedence_Precedes.f ((rd_T29 t233 0).f0) ((rd_T29 t233 0).f1) ((rd_T29 t233 0).f2) ((rd_T29 t233 0).f3) ((rd_T29 t233 1).f0) ((rd_T29 t233 1).f1) ((rd_T29 t233 1).f2) ((rd_T29 t233 1).f3)).bind fun t238 => ((precedence_Precedes.f ((rd_T29 t233 1).f0) ((rd_T29 t233 1).f1) ((rd_T29 t233 1).f2) ((rd_T29 t233 1).f3) ((rd_T29 t233 0).f0) ((rd_T29 t233 0).f1) ((rd_T29 t233 0).f2) ((rd_T29 t233 0).f3)).bind fun t241 => (if a0_2 = a1_2 then (if a0_0 = a1_0 then (computuslaw20_PrecedenceTotal.j0 k t233 t238 t241 (a0_1 == a1_1)) else (computuslaw20_PrecedenceTotal.j0 k t233 t238 t241 false)) else (computuslaw20_PrecedenceTotal.j0 k t233 t238 t241 false)))) else (none)) else (none)) = some r := H
    have A6 := Aside0.mk A60
    clear A60
    by_cases c7 : 0 < (t233.length : Int)
    · rw [if_pos c7] at H
      have c7b0 : decide (0 < (t233.length : Int)) = true := decide_eq_true c7
      have c7b1 : decide (0 < t233.length) = true := decide_eq_true (by omega)
      clear c7
      by_cases c8 : 1 < (t233.length : Int)
      · rw [if_pos c8] at H
        have c8b0 : decide (1 < (t233.length : Int)) = true := decide_eq_true c8
        have c8b1 : decide (1 < t233.length) = true := decide_eq_true (by omega)
        clear c8
        replace H := Option.bind_eq_some_iff.mp H
        obtain ⟨t238, A90, H⟩ := H
        replace H : ((precedence_Precedes.f ((rd_T29 t233 1).f0) ((rd_T29 t233 1).f1) ((rd_T29 t233 1).f2) ((rd_T29 t233 1).f3) ((rd_T29 t233 0).f0) ((rd_T29 t233 0).f1) ((rd_T29 t233 0).f2) ((rd_T29 t233 0).f3)).bind fun t241 => (if a0_2 = a1_2 then (if a0_0 = a1_0 then (computuslaw20_PrecedenceTotal.j0 k t233 t238 t241 (a0_1 == a1_1)) else (computuslaw20_PrecedenceTotal.j0 k t233 t238 t241 false)) else (computuslaw20_PrecedenceTotal.j0 k t233 t238 t241 false))) = some r := H
        have A9 := Aside0.mk A90
        clear A90
        replace H := Option.bind_eq_some_iff.mp H
        obtain ⟨t241, A100, H⟩ := H
        replace H : (if a0_2 = a1_2 then (if a0_0 = a1_0 then (computuslaw20_PrecedenceTotal.j0 k t233 t238 t241 (a0_1 == a1_1)) else (computuslaw20_PrecedenceTotal.j0 k t233 t238 t241 false)) else (computuslaw20_PrecedenceTotal.j0 k t233 t238 t241 false)) = some r := H
        have A10 := Aside0.mk A100
        clear A100
        have HC11 := Aside0.mk H
        clear H
        go_enter Try.func4, Try.ntmps4
        try go_wp2_with (first | ((with_reducible refine gate_dst (N := 3) rfl ?_); refine box_event ?hg (N := 3) ?hd (cs := #[.int .i64 a0_0, .int .i64 a0_1, .int .i64 a0_2, .string a0_3]) (t := 24) ?hr ?_; (case hd => rfl); (case hg => rfl); (case hr => first | (go_simp; done) | (go_simp; rfl)); intro gb226 hg w12 hbox hb; have n0_ := Aside0.mk (below_step (by repeat (first | (with_reducible first | exact HB.out | apply below_alloc | apply pw_below_drewN | apply below_drew1) | exact HB.out)) hb); have n1_ := Aside0.mk (hbox); have n2_ := Aside0.mk ((by rw [hg]; exact (below_size (by repeat (first | (with_reducible first | exact HB.out | apply below_alloc | apply pw_below_drewN | apply below_drew1) | exact HB.out))) : w.heap.size ≤ gb226)); have n3_ := Aside0.mk ((by rw [hg]; exact (below_size (by repeat (first | (with_reducible first | exact HB.out | apply below_alloc | apply pw_below_drewN | apply below_drew1) | exact HB.out))) : w.heap.size ≤ gb226)); clear HB; have HB := n0_; have BK226 := n1_; have GW226 := n2_; have GE226 := n3_; clear n0_ n1_ n2_ n3_; clear hb hbox hg) | ((with_reducible refine gate_dst (N := 4) rfl ?_); refine box_event ?hg (N := 4) ?hd (cs := #[.int .i64 a1_0, .int .i64 a1_1, .int .i64 a1_2, .string a1_3]) (t := 24) ?hr ?_; (case hd => rfl); (case hg => rfl); (case hr => first | (go_simp; done) | (go_simp; rfl)); intro gb227 hg w13 hbox hb; have n0_ := Aside0.mk (blk_below (g := gb226) (o := .cells #[.int .i64 a0_0, .int .i64 a0_1, .int .i64 a0_2, .string a0_3] 24 (0, 0)) (by (with_reducible repeat (first | refine blk_drewN ?_ _ | refine blk_drew ?_ | refine blk_alloc ?_ _)); exact BK226.out) hb); have n1_ := Aside0.mk (below_step (by repeat (first | (with_reducible first | exact HB.out | apply below_alloc | apply pw_below_drewN | apply below_drew1 | refine below_set ?_ GE226.out) | exact HB.out)) hb); have n2_ := Aside0.mk (hbox); have n3_ := Aside0.mk ((by rw [hg]; exact (below_size (by repeat (first | (with_reducible first | exact HB.out | apply below_alloc | apply pw_below_drewN | apply below_drew1 | refine below_set ?_ GE226.out) | exact HB.out))) : w.heap.size ≤ gb227)); have n4_ := Aside0.mk ((by rw [hg]; exact (below_size (by repeat (first | (with_reducible first | exact HB.out | apply below_alloc | apply pw_below_drewN | apply below_drew1 | refine below_set ?_ GE226.out) | exact HB.out))) : w.heap.size ≤ gb227)); have n5_ := Aside0.mk ((by rw [hg]; exact Nat.ne_of_lt (blk_lt (g := gb226) (o := .cells #[.int .i64 a0_0, .int .i64 a0_1, .int .i64 a0_2, .string a0_3] 24 (0, 0)) (by (with_reducible repeat (first | refine blk_drewN ?_ _ | refine blk_drew ?_ | refine blk_alloc ?_ _)); exact BK226.out)) : gb226 ≠ gb227)); have n6_ := Aside0.mk ((by rw [hg]; exact Nat.ne_of_gt (blk_lt (g := gb226) (o := .cells #[.int .i64 a0_0, .int .i64 a0_1, .int .i64 a0_2, .string a0_3] 24 (0, 0)) (by (with_reducible repeat (first | refine blk_drewN ?_ _ | refine blk_drew ?_ | refine blk_alloc ?_ _)); exact BK226.out)) : gb227 ≠ gb226)); clear BK226; clear HB; have BK226 := n0_; have HB := n1_; have BK227 := n2_; have GW227 := n3_; have GE227 := n4_; have NB226_227 := n5_; have NB227_226 := n6_; clear n0_ n1_ n2_ n3_ n4_ n5_ n6_; clear hb hbox hg) | ((with_reducible refine gate_dst (N := 5) rfl ?_); refine box_event ?hg (N := 5) ?hd (cs := #[.int .i64 a2_0, .int .i64 a2_1, .int .i64 a2_2, .string a2_3]) (t := 24) ?hr ?_; (case hd => rfl); (case hg => rfl); (case hr => first | (go_simp; done) | (go_simp; rfl)); intro gb228 hg w14 hbox hb; have n0_ := Aside0.mk (blk_below (g := gb226) (o := .cells #[.int .i64 a0_0, .int .i64 a0_1, .int .i64 a0_2, .string a0_3] 24 (0, 0)) (by (with_reducible repeat (first | refine blk_drewN ?_ _ | refine blk_drew ?_ | refine blk_alloc ?_ _)); exact BK226.out) hb); have n1_ := Aside0.mk (blk_below (g := gb227) (o := .cells #[.int .i64 a1_0, .int .i64 a1_1, .int .i64 a1_2, .string a1_3] 24 (0, 0)) (by (with_reducible repeat (first | refine blk_drewN ?_ _ | refine blk_drew ?_ | refine blk_alloc ?_ _)); exact BK227.out) hb); have n2_ := Aside0.mk (below_step (by repeat (first | (with_reducible first | exact HB.out | apply below_alloc | apply pw_below_drewN | apply below_drew1 | refine below_set ?_ GE226.out | refine below_set ?_ GE227.out) | exact HB.out)) hb); have n3_ := Aside0.mk (hbox); have n4_ := Aside0.mk ((by rw [hg]; exact (below_size (by repeat (first | (with_reducible first | exact HB.out | apply below_alloc | apply pw_below_drewN | apply below_drew1 | refine below_set ?_ GE226.out | refine below_set ?_ GE227.out) | exact HB.out))) : w.heap.size ≤ gb228)); have n5_ := Aside0.mk ((by rw [hg]; exact (below_size (by repeat (first | (with_reducible first | exact HB.out | apply below_alloc | apply pw_below_drewN | apply below_drew1 | refine below_set ?_ GE226.out | refine below_set ?_ GE227.out) | exact HB.out))) : w.heap.size ≤ gb228)); have n6_ := Aside0.mk ((by rw [hg]; exact Nat.ne_of_lt (blk_lt (g := gb226) (o := .cells #[.int .i64 a0_0, .int .i64 a0_1, .int .i64 a0_2, .string a0_3] 24 (0, 0)) (by (with_reducible repeat (first | refine blk_drewN ?_ _ | refine blk_drew ?_ | refine blk_alloc ?_ _)); exact BK226.out)) : gb226 ≠ gb228)); have n7_ := Aside0.mk ((by rw [hg]; exact Nat.ne_of_gt (blk_lt (g := gb226) (o := .cells #[.int .i64 a0_0, .int .i64 a0_1, .int .i64 a0_2, .string a0_3] 24 (0, 0)) (by (with_reducible repeat (first | refine blk_drewN ?_ _ | refine blk_drew ?_ | refine blk_alloc ?_ _)); exact BK226.out)) : gb228 ≠ gb226)); have n8_ := Aside0.mk ((by rw [hg]; exact Nat.ne_of_lt (blk_lt (g := gb227) (o := .cells #[.int .i64 a1_0, .int .i64 a1_1, .int .i64 a1_2, .string a1_3] 24 (0, 0)) (by (with_reducible repeat (first | refine blk_drewN ?_ _ | refine blk_drew ?_ | refine blk_alloc ?_ _)); exact BK227.out)) : gb227 ≠ gb228)); have n9_ := Aside0.mk ((by rw [hg]; exact Nat.ne_of_gt (blk_lt (g := gb227) (o := .cells #[.int .i64 a1_0, .int .i64 a1_1, .int .i64 a1_2, .string a1_3] 24 (0, 0)) (by (with_reducible repeat (first | refine blk_drewN ?_ _ | refine blk_drew ?_ | refine blk_alloc ?_ _)); exact BK227.out)) : gb228 ≠ gb227)); clear BK226; clear BK227; clear HB; have BK226 := n0_; have BK227 := n1_; have HB := n2_; have BK228 := n3_; have GW228 := n4_; have GE228 := n5_; have NB226_228 := n6_; have NB228_226 := n7_; have NB227_228 := n8_; have NB228_227 := n9_; clear n0_ n1_ n2_ n3_ n4_ n5_ n6_ n7_ n8_ n9_; clear hb hbox hg) | ((with_reducible refine gate_callee (f := 10) rfl ?_); refine goesL_ (some 11) rfl rfl Try.func10 (by kernel_rfl) rfl #[] rfl (by (try simp only [List.map_toArray, List.map_cons, List.map_nil]); first | done | rfl | (simp only [List.length_drop, List.length_take]; rfl)) ?_; (with_reducible refine (computuslaw20_awake.calls k  true _ A4.out).mono ?_); rintro e w15 ⟨rfl, hb⟩; refine ⟨_, rfl, ?_⟩; have n0_ := Aside0.mk (blk_below (g := gb226) (o := .cells #[.int .i64 a0_0, .int .i64 a0_1, .int .i64 a0_2, .string a0_3] 24 (0, 0)) (by (with_reducible repeat (first | refine blk_drewN ?_ _ | refine blk_drew ?_ | refine blk_alloc ?_ _)); exact BK226.out) hb); have n1_ := Aside0.mk (blk_below (g := gb227) (o := .cells #[.int .i64 a1_0, .int .i64 a1_1, .int .i64 a1_2, .string a1_3] 24 (0, 0)) (by (with_reducible repeat (first | refine blk_drewN ?_ _ | refine blk_drew ?_ | refine blk_alloc ?_ _)); exact BK227.out) hb); have n2_ := Aside0.mk (blk_below (g := gb228) (o := .cells #[.int .i64 a2_0, .int .i64 a2_1, .int .i64 a2_2, .string a2_3] 24 (0, 0)) (by (with_reducible repeat (first | refine blk_drewN ?_ _ | refine blk_drew ?_ | refine blk_alloc ?_ _)); exact BK228.out) hb); have n3_ := Aside0.mk (below_step (by repeat (first | (with_reducible first | exact HB.out | apply below_alloc | apply pw_below_drewN | apply below_drew1 | refine below_set ?_ GE226.out | refine below_set ?_ GE227.out | refine below_set ?_ GE228.out) | exact HB.out)) hb); clear BK226; clear BK227; clear BK228; clear HB; have BK226 := n0_; have BK227 := n1_; have BK228 := n2_; have HB := n3_; clear n0_ n1_ n2_ n3_; (try clear hb); (try clear hb2); (try clear hk); (try clear hi); have hnb16 := NB226_227.out; have hnc16 := NB227_226.out; have hnb17 := NB226_228.out; have hnc17 := NB228_226.out; have hcz18_0 : w15.cell? ⟨gb226, 0, none⟩ = some (.int .i64 a0_0) := (blk_cell BK226.out 0).trans rfl; have hcz18_1 : w15.cell? ⟨gb226, 1, none⟩ = some (.int .i64 a0_1) := (blk_cell BK226.out 1).trans rfl; have hcz18_2 : w15.cell? ⟨gb226, 2, none⟩ = some (.int .i64 a0_2) := (blk_cell BK226.out 2).trans rfl; have hcz18_3 : w15.cell? ⟨gb226, 3, none⟩ = some (.string a0_3) := (blk_cell BK226.out 3).trans rfl; have hfz18_0 := blk_frozen BK226.out 0; have hfz18_1 := blk_frozen BK226.out 1; have hfz18_2 := blk_frozen BK226.out 2; have hfz18_3 := blk_frozen BK226.out 3; have hnb19 := NB227_228.out; have hnc19 := NB228_227.out; have hcz20_0 : w15.cell? ⟨gb227, 0, none⟩ = some (.int .i64 a1_0) := (blk_cell BK227.out 0).trans rfl; have hcz20_1 : w15.cell? ⟨gb227, 1, none⟩ = some (.int .i64 a1_1) := (blk_cell BK227.out 1).trans rfl; have hcz20_2 : w15.cell? ⟨gb227, 2, none⟩ = some (.int .i64 a1_2) := (blk_cell BK227.out 2).trans rfl; have hcz20_3 : w15.cell? ⟨gb227, 3, none⟩ = some (.string a1_3) := (blk_cell BK227.out 3).trans rfl; have hfz20_0 := blk_frozen BK227.out 0; have hfz20_1 := blk_frozen BK227.out 1; have hfz20_2 := blk_frozen BK227.out 2; have hfz20_3 := blk_frozen BK227.out 3; have hcz21_0 : w15.cell? ⟨gb228, 0, none⟩ = some (.int .i64 a2_0) := (blk_cell BK228.out 0).trans rfl; have hcz21_1 : w15.cell? ⟨gb228, 1, none⟩ = some (.int .i64 a2_1) := (blk_cell BK228.out 1).trans rfl; have hcz21_2 : w15.cell? ⟨gb228, 2, none⟩ = some (.int .i64 a2_2) := (blk_cell BK228.out 2).trans rfl; have hcz21_3 : w15.cell? ⟨gb228, 3, none⟩ = some (.string a2_3) := (blk_cell BK228.out 3).trans rfl; have hfz21_0 := blk_frozen BK228.out 0; have hfz21_1 := blk_frozen BK228.out 1; have hfz21_2 := blk_frozen BK228.out 2; have hfz21_3 := blk_frozen BK228.out 3) | ((with_reducible refine gate_dst (N := 16) rfl ?_); refine Kd.R_lit k24 _ 24 ?hg (N := 16) ?hd (xs := ([(⟨a0_0, a0_1, a0_2, a0_3⟩ : S24), (⟨a1_0, a1_1, a1_2, a1_3⟩ : S24), (⟨a2_0, a2_1, a2_2, a2_3⟩ : S24)] : List (S24))) (inner := [.int .i64 a0_0, .int .i64 a0_1, .int .i64 a0_2, .string a0_3, .int .i64 a1_0, .int .i64 a1_1, .int .i64 a1_2, .string a1_3, .int .i64 a2_0, .int .i64 a2_1, .int .i64 a2_2, .string a2_3]) (ok := fun _ => True) (okp := fun _ => True) ?hr ?hp (fun _ hk => hk) trivial (Below.refl _ _) (Nat.le_refl _) (by simp) ?_; (case hd => rfl); (case hg => rfl); (case hr => first | (go_simp; done) | (go_simp; rfl)); (case hp => exact (Reps.c4 (show Kd.M k24 _ _ _ (⟨a0_0, a0_1, a0_2, a0_3⟩ : S24) [.int .i64 a0_0, .int .i64 a0_1, .int .i64 a0_2, .string a0_3] from (k24_mkM _ _ _ (⟨a0_0, a0_1, a0_2, a0_3⟩ : S24) )) (Reps.c4 (show Kd.M k24 _ _ _ (⟨a1_0, a1_1, a1_2, a1_3⟩ : S24) [.int .i64 a1_0, .int .i64 a1_1, .int .i64 a1_2, .string a1_3] from (k24_mkM _ _ _ (⟨a1_0, a1_1, a1_2, a1_3⟩ : S24) )) (Reps.c4 (show Kd.M k24 _ _ _ (⟨a2_0, a2_1, a2_2, a2_3⟩ : S24) [.int .i64 a2_0, .int .i64 a2_1, .int .i64 a2_2, .string a2_3] from (k24_mkM _ _ _ (⟨a2_0, a2_1, a2_2, a2_3⟩ : S24) )) (Reps.none _ _))))); intro v231 w22 ho23 hb hg_ hnew_; clear hg_ hnew_; (first | rw [← Ny230.out] at ho23 | (simp only [Int.reduceToNat] at ho23; rw [← Ny230.out] at ho23)); have n0_ := Aside0.mk (Kd.R_lower (Kd.R_newB (Kd.R_newB (Kd.R_newB ho23 (g := gb226) (o := .cells #[.int .i64 a0_0, .int .i64 a0_1, .int .i64 a0_2, .string a0_3] 24 (0, 0)) (by (with_reducible repeat (first | refine blk_drewN ?_ _ | refine blk_drew ?_ | refine blk_alloc ?_ _)); exact BK226.out)) (g := gb227) (o := .cells #[.int .i64 a1_0, .int .i64 a1_1, .int .i64 a1_2, .string a1_3] 24 (0, 0)) (by (with_reducible repeat (first | refine blk_drewN ?_ _ | refine blk_drew ?_ | refine blk_alloc ?_ _)); exact BK227.out)) (g := gb228) (o := .cells #[.int .i64 a2_0, .int .i64 a2_1, .int .i64 a2_2, .string a2_3] 24 (0, 0)) (by (with_reducible repeat (first | refine blk_drewN ?_ _ | refine blk_drew ?_ | refine blk_alloc ?_ _)); exact BK228.out)) (below_size (by repeat (first | (with_reducible first | exact HB.out | apply below_alloc | apply pw_below_drewN | apply below_drew1 | refine below_set ?_ GE226.out | refine below_set ?_ GE227.out | refine below_set ?_ GE228.out) | exact HB.out)))); have n1_ := Aside0.mk (blk_below (g := gb226) (o := .cells #[.int .i64 a0_0, .int .i64 a0_1, .int .i64 a0_2, .string a0_3] 24 (0, 0)) (by (with_reducible repeat (first | refine blk_drewN ?_ _ | refine blk_drew ?_ | refine blk_alloc ?_ _)); exact BK226.out) hb); have n2_ := Aside0.mk (blk_below (g := gb227) (o := .cells #[.int .i64 a1_0, .int .i64 a1_1, .int .i64 a1_2, .string a1_3] 24 (0, 0)) (by (with_reducible repeat (first | refine blk_drewN ?_ _ | refine blk_drew ?_ | refine blk_alloc ?_ _)); exact BK227.out) hb); have n3_ := Aside0.mk (blk_below (g := gb228) (o := .cells #[.int .i64 a2_0, .int .i64 a2_1, .int .i64 a2_2, .string a2_3] 24 (0, 0)) (by (with_reducible repeat (first | refine blk_drewN ?_ _ | refine blk_drew ?_ | refine blk_alloc ?_ _)); exact BK228.out) hb); have n4_ := Aside0.mk (below_step (by repeat (first | (with_reducible first | exact HB.out | apply below_alloc | apply pw_below_drewN | apply below_drew1 | refine below_set ?_ GE226.out | refine below_set ?_ GE227.out | refine below_set ?_ GE228.out) | exact HB.out)) hb); clear BK226; clear BK227; clear BK228; clear HB; have HO232 := n0_; have BK226 := n1_; have BK227 := n2_; have BK228 := n3_; have HB := n4_; clear n0_ n1_ n2_ n3_ n4_; clear hb ho23; obtain ⟨Ao24, co24, eo24⟩ := Kd.R_slice HO232.out; subst eo24) | ((with_reducible refine gate_callee (f := 11) rfl ?_); refine goesL_ (some 17) rfl rfl Try.func11 (by kernel_rfl) rfl #[.slice Ao24 y230.length co24] rfl (by (try simp only [List.map_toArray, List.map_cons, List.map_nil]); first | done | rfl | (simp only [List.length_drop, List.length_take]; rfl)) ?_; (with_reducible refine (computuslaw20_forward.calls k _ _ y230 t233 _ ?side1 ?side2 A6.out).mono ?_); (case side1 => repeat (first | exact (Kd.R_reads' HO232.out).2.2 | (with_reducible refine Kd.C_alloc ?_ _) | (with_reducible refine Kd.C_drewN ?_ _) | (with_reducible refine Kd.C_drew ?_))); (case side2 => exact (Kd.R_reads' HO232.out).2.1); rintro e w25 ⟨v234, rfl, ho0, hb⟩; refine ⟨_, rfl, ?_⟩; have n0_ := Aside0.mk (Kd.R_below (by (with_reducible repeat (first | apply Kd.R_alloc | apply Kd.R_drewN | apply Kd.R_drew)); exact HO232.out) hb); have n1_ := Aside0.mk (Kd.R_lower ho0 (below_size (by repeat (first | (with_reducible first | exact HB.out | apply below_alloc | apply pw_below_drewN | apply below_drew1 | refine below_set ?_ GE226.out | refine below_set ?_ GE227.out | refine below_set ?_ GE228.out) | exact HB.out)))); have n2_ := Aside0.mk (blk_below (g := gb226) (o := .cells #[.int .i64 a0_0, .int .i64 a0_1, .int .i64 a0_2, .string a0_3] 24 (0, 0)) (by (with_reducible repeat (first | refine blk_drewN ?_ _ | refine blk_drew ?_ | refine blk_alloc ?_ _)); exact BK226.out) hb); have n3_ := Aside0.mk (blk_below (g := gb227) (o := .cells #[.int .i64 a1_0, .int .i64 a1_1, .int .i64 a1_2, .string a1_3] 24 (0, 0)) (by (with_reducible repeat (first | refine blk_drewN ?_ _ | refine blk_drew ?_ | refine blk_alloc ?_ _)); exact BK227.out) hb); have n4_ := Aside0.mk (blk_below (g := gb228) (o := .cells #[.int .i64 a2_0, .int .i64 a2_1, .int .i64 a2_2, .string a2_3] 24 (0, 0)) (by (with_reducible repeat (first | refine blk_drewN ?_ _ | refine blk_drew ?_ | refine blk_alloc ?_ _)); exact BK228.out) hb); have n5_ := Aside0.mk (below_step (by repeat (first | (with_reducible first | exact HB.out | apply below_alloc | apply pw_below_drewN | apply below_drew1 | refine below_set ?_ GE226.out | refine below_set ?_ GE227.out | refine below_set ?_ GE228.out) | exact HB.out)) hb); clear HO232; clear BK226; clear BK227; clear BK228; clear HB; have HO232 := n0_; have HO235 := n1_; have BK226 := n2_; have BK227 := n3_; have BK228 := n4_; have HB := n5_; clear n0_ n1_ n2_ n3_ n4_ n5_; (try clear hb); (try clear hb2); (try clear hk); (try clear hi); (try clear ho0)))
        have n0_ := Aside0.mk (Kd.R_drew HO232.out)
        have n1_ := Aside0.mk (Kd.R_drew HO235.out)
        have n2_ := Aside0.mk (blk_drew BK226.out)
        have n3_ := Aside0.mk (blk_drew BK227.out)
        have n4_ := Aside0.mk (blk_drew BK228.out)
        have n5_ := Aside0.mk (below_drew1 HB.out)
        clear HO232
        clear HO235
        clear BK226
        clear BK227
        clear BK228
        clear HB
        have HO232 := n0_
        have HO235 := n1_
        have BK226 := n2_
        have BK227 := n3_
        have BK228 := n4_
        have HB := n5_
        clear n0_ n1_ n2_ n3_ n4_ n5_
        obtain ⟨Ao27, co27, eo27⟩ := Kd.R_slice HO235.out
        (first | subst eo27 | (injection eo27 with f1_ f2_ f3_; have f4_ := f1_.symm; have f5_ := f3_.symm; clear f1_ f2_ f3_; subst f4_; subst f5_))
        have p236 : 0 ≤ (0 : Int) := (by omega)
        have q236 : 0 < (t233.length : Int) := of_decide_eq_true (by first | (with_reducible assumption) | assumption)
        obtain ⟨ad236, e236, hx236_0, hx236_1, hx236_2, hx236_3⟩ := at_T29 (Kd.R_reads' HO235.out).2.2 0 p236 q236
        cases e236
        have qi236 : (0 < t233.length) = True := eq_true (by omega)
        (try rw [show ((0 : Int)).toNat = 0 from rfl] at hx236_0)
        (try rw [show 0 * 4 = 0 from rfl] at hx236_0)
        (try rw [Addr.add_zero'] at hx236_0)
        (try rw [show ((0 : Int)).toNat = 0 from rfl] at hx236_1)
        (try rw [show 0 * 4 = 0 from rfl] at hx236_1)
        (try rw [Addr.add_zero'] at hx236_1)
        (try rw [show ((0 : Int)).toNat = 0 from rfl] at hx236_2)
        (try rw [show 0 * 4 = 0 from rfl] at hx236_2)
        (try rw [Addr.add_zero'] at hx236_2)
        (try rw [show ((0 : Int)).toNat = 0 from rfl] at hx236_3)
        (try rw [show 0 * 4 = 0 from rfl] at hx236_3)
        (try rw [Addr.add_zero'] at hx236_3)
        replace p236 := eq_true p236
        replace q236 := eq_true q236
        have p237 : 0 ≤ (1 : Int) := (by omega)
        have q237 : 1 < (t233.length : Int) := of_decide_eq_true (by first | (with_reducible assumption) | assumption)
        obtain ⟨ad237, e237, hx237_0, hx237_1, hx237_2, hx237_3⟩ := at_T29 (Kd.R_reads' HO235.out).2.2 1 p237 q237
        obtain rfl : ad236 = ad237 := (by injection e237)
        (try simp only [show (1 : Int).toNat = 1 from rfl, Nat.reduceMul, Nat.reduceEqDiff, Go.Addr.add, ↓reduceIte] at hx237_0)
        (try simp only [show (1 : Int).toNat = 1 from rfl, Nat.reduceMul, Nat.reduceEqDiff, Go.Addr.add, ↓reduceIte] at hx237_1)
        (try simp only [show (1 : Int).toNat = 1 from rfl, Nat.reduceMul, Nat.reduceEqDiff, Go.Addr.add, ↓reduceIte] at hx237_2)
        (try simp only [show (1 : Int).toNat = 1 from rfl, Nat.reduceMul, Nat.reduceEqDiff, Go.Addr.add, ↓reduceIte] at hx237_3)
        have qi237 : (1 < t233.length) = True := eq_true (by omega)
        (try rw [show ((1 : Int)).toNat = 1 from rfl] at hx237_0)
        (try rw [show 1 * 4 = 4 from rfl] at hx237_0)
        (try rw [show ((1 : Int)).toNat = 1 from rfl] at hx237_1)
        (try rw [show 1 * 4 = 4 from rfl] at hx237_1)
        (try rw [show ((1 : Int)).toNat = 1 from rfl] at hx237_2)
        (try rw [show 1 * 4 = 4 from rfl] at hx237_2)
        (try rw [show ((1 : Int)).toNat = 1 from rfl] at hx237_3)
        (try rw [show 1 * 4 = 4 from rfl] at hx237_3)
        replace p237 := eq_true p237
        replace q237 := eq_true q237
        refine start_ (n := 8) (S := fun w' => w'.cell? ad236 = some (.int .i64 ((rd_T29 t233 0).f0)) ∧ w'.cell? ⟨ad236.block, ad236.off + 1, none⟩ = some (.int .i64 ((rd_T29 t233 0).f1)) ∧ w'.cell? ⟨ad236.block, ad236.off + 2, none⟩ = some (.int .i64 ((rd_T29 t233 0).f2)) ∧ w'.cell? ⟨ad236.block, ad236.off + 3, none⟩ = some (.string ((rd_T29 t233 0).f3)) ∧ w'.cell? ⟨ad236.block, ad236.off + 4, none⟩ = some (.int .i64 ((rd_T29 t233 1).f0)) ∧ w'.cell? ⟨ad236.block, ad236.off + 4 + 1, none⟩ = some (.int .i64 ((rd_T29 t233 1).f1)) ∧ w'.cell? ⟨ad236.block, ad236.off + 4 + 2, none⟩ = some (.int .i64 ((rd_T29 t233 1).f2)) ∧ w'.cell? ⟨ad236.block, ad236.off + 4 + 3, none⟩ = some (.string ((rd_T29 t233 1).f3))) (ds := []) #[false, false, false, false, false, false, false, false] (by kernel_rfl) rfl rfl ⟨hx236_0, hx236_1, hx236_2, hx236_3, hx237_0, hx237_1, hx237_2, hx237_3⟩ (fun hHeld => ?_); refine with_tabW computuslaw20_PrecedenceTotal.tab4 computuslaw20_PrecedenceTotal.bits4 (fun HT_ HW_ => ?_)
        generalize w25.drew = w26 at HO232 HO235 BK226 BK227 BK228 HB hx236_0 hx236_1 hx236_2 hx236_3 hx237_0 hx237_1 hx237_2 hx237_3 hHeld ⊢
        refine pure_ (i := 0) (N := some 18) (v := ?_) (a' := ?_) #[true, false, false, false, false, false, false, false] rfl rfl (any_of HT_.out (by kernel_rfl)) (fun _ _ _ h => h) (Or.inl ⟨by rfl, ?_⟩) ?_ ?_
        rotate_left
        · intro w'
          go_simp
          with_reducible rfl
        rotate_left
        · simp only [Act.put, List.setIfInBounds_toArray, List.set_cons_zero, List.set_cons_succ, i64_w, i32_w]
          rfl
        refine pure_ (i := 1) (N := some 19) (v := ?_) (a' := ?_) #[true, true, false, false, false, false, false, false] rfl rfl (any_of HT_.out (by kernel_rfl)) (fun _ _ _ h => h) (Or.inl ⟨by rfl, ?_⟩) ?_ ?_
        rotate_left
        · intro w'
          go_simp
          with_reducible rfl
        rotate_left
        · simp only [Act.put, List.setIfInBounds_toArray, List.set_cons_zero, List.set_cons_succ, i64_w, i32_w]
          rfl
        refine pure_ (i := 3) (N := some 21) (v := ?_) (a' := ?_) #[true, true, false, true, false, false, false, false] rfl rfl (any_of HT_.out (by kernel_rfl)) (fun _ _ _ h => h) (Or.inl ⟨by rfl, ?_⟩) ?_ ?_
        rotate_left
        · intro w'
          go_simp
          with_reducible rfl
        rotate_left
        · simp only [Act.put, List.setIfInBounds_toArray, List.set_cons_zero, List.set_cons_succ, i64_w, i32_w]
          rfl
        refine pure_ (i := 4) (N := some 22) (v := ?_) (a' := ?_) #[true, true, false, true, true, false, false, false] rfl rfl (any_of HT_.out (by kernel_rfl)) (fun _ _ _ h => h) (Or.inl ⟨by rfl, ?_⟩) ?_ ?_
        rotate_left
        · intro w'
          go_simp
          with_reducible rfl
        rotate_left
        · simp only [Act.put, List.setIfInBounds_toArray, List.set_cons_zero, List.set_cons_succ, i64_w, i32_w]
          rfl
        refine take_ (i := 2) (N := some 20) (v := ?_) (a' := ?_) #[true, true, true, true, true, false, false, false] rfl rfl (take_ofW HT_.out HW_.out (by kernel_rfl)) (fun _ _ _ h => h) (Or.inl ⟨by rfl, ?_⟩) hHeld ?_ ?_
        rotate_left
        · rintro w' ⟨s0, s1, s2, s3, s4, s5, s6, s7⟩
          go_simp
          with_reducible rfl
        rotate_left
        · simp only [Act.put, List.setIfInBounds_toArray, List.set_cons_zero, List.set_cons_succ, i64_w, i32_w]
          rfl
        refine take_ (i := 5) (N := some 23) (v := ?_) (a' := ?_) #[true, true, true, true, true, true, false, false] rfl rfl (take_ofW HT_.out HW_.out (by kernel_rfl)) (fun _ _ _ h => h) (Or.inl ⟨by rfl, ?_⟩) hHeld ?_ ?_
        rotate_left
        · rintro w' ⟨s0, s1, s2, s3, s4, s5, s6, s7⟩
          go_simp
          with_reducible rfl
        rotate_left
        · simp only [Act.put, List.setIfInBounds_toArray, List.set_cons_zero, List.set_cons_succ, i64_w, i32_w]
          rfl
        refine one_ (i := 6) (N := some 24) #[true, true, true, true, true, true, true, false] rfl rfl (one_of HT_.out (by kernel_rfl)) (by decide) (fun K hK => ?_)
        refine goes_ Try.func14 (by kernel_rfl) rfl #[.agg #[.int .i64 ((rd_T29 t233 0).f0), .int .i64 ((rd_T29 t233 0).f1), .int .i64 ((rd_T29 t233 0).f2), .string ((rd_T29 t233 0).f3)], .agg #[.int .i64 ((rd_T29 t233 1).f0), .int .i64 ((rd_T29 t233 1).f1), .int .i64 ((rd_T29 t233 1).f2), .string ((rd_T29 t233 1).f3)]] (by rfl) rfl rfl (by (try simp only [List.map_toArray, List.map_cons, List.map_nil]); first | done | rfl | (simp only [List.length_drop, List.length_take]; rfl)) ?_
        with_reducible refine (precedence_Precedes.calls ((rd_T29 t233 0).f0) ((rd_T29 t233 0).f1) ((rd_T29 t233 0).f2) ((rd_T29 t233 0).f3) ((rd_T29 t233 1).f0) ((rd_T29 t233 1).f1) ((rd_T29 t233 1).f2) ((rd_T29 t233 1).f3) t238 _ A9.out).mono ?_
        rintro e w28 ⟨rfl, hb⟩
        have HS0_ := (hb.cell (World.block_lt_of_cell? _ _ (hHeld.1))).trans (hHeld.1)
        have HS1_ := (hb.cell (World.block_lt_of_cell? _ _ (hHeld.2.1))).trans (hHeld.2.1)
        have HS2_ := (hb.cell (World.block_lt_of_cell? _ _ (hHeld.2.2.1))).trans (hHeld.2.2.1)
        have HS3_ := (hb.cell (World.block_lt_of_cell? _ _ (hHeld.2.2.2.1))).trans (hHeld.2.2.2.1)
        have HS4_ := (hb.cell (World.block_lt_of_cell? _ _ (hHeld.2.2.2.2.1))).trans (hHeld.2.2.2.2.1)
        have HS5_ := (hb.cell (World.block_lt_of_cell? _ _ (hHeld.2.2.2.2.2.1))).trans (hHeld.2.2.2.2.2.1)
        have HS6_ := (hb.cell (World.block_lt_of_cell? _ _ (hHeld.2.2.2.2.2.2.1))).trans (hHeld.2.2.2.2.2.2.1)
        have HS7_ := (hb.cell (World.block_lt_of_cell? _ _ (hHeld.2.2.2.2.2.2.2))).trans (hHeld.2.2.2.2.2.2.2)
        refine ⟨_, rfl, ?_⟩
        have n0_ := Aside0.mk (Kd.R_below (by (with_reducible repeat (first | apply Kd.R_alloc | apply Kd.R_drewN | apply Kd.R_drew)); exact HO232.out) hb)
        have n1_ := Aside0.mk (Kd.R_below (by (with_reducible repeat (first | apply Kd.R_alloc | apply Kd.R_drewN | apply Kd.R_drew)); exact HO235.out) hb)
        have n2_ := Aside0.mk (blk_below (g := gb226) (o := .cells #[.int .i64 a0_0, .int .i64 a0_1, .int .i64 a0_2, .string a0_3] 24 (0, 0)) (by (with_reducible repeat (first | refine blk_drewN ?_ _ | refine blk_drew ?_ | refine blk_alloc ?_ _)); exact BK226.out) hb)
        have n3_ := Aside0.mk (blk_below (g := gb227) (o := .cells #[.int .i64 a1_0, .int .i64 a1_1, .int .i64 a1_2, .string a1_3] 24 (0, 0)) (by (with_reducible repeat (first | refine blk_drewN ?_ _ | refine blk_drew ?_ | refine blk_alloc ?_ _)); exact BK227.out) hb)
        have n4_ := Aside0.mk (blk_below (g := gb228) (o := .cells #[.int .i64 a2_0, .int .i64 a2_1, .int .i64 a2_2, .string a2_3] 24 (0, 0)) (by (with_reducible repeat (first | refine blk_drewN ?_ _ | refine blk_drew ?_ | refine blk_alloc ?_ _)); exact BK228.out) hb)
        have n5_ := Aside0.mk (below_step (by repeat (first | (with_reducible first | exact HB.out | apply below_alloc | apply pw_below_drewN | apply below_drew1 | refine below_set ?_ GE226.out | refine below_set ?_ GE227.out | refine below_set ?_ GE228.out) | exact HB.out)) hb)
        clear HO232
        clear HO235
        clear BK226
        clear BK227
        clear BK228
        clear HB
        have HO232 := n0_
        have HO235 := n1_
        have BK226 := n2_
        have BK227 := n3_
        have BK228 := n4_
        have HB := n5_
        clear n0_ n1_ n2_ n3_ n4_ n5_
        (try clear hb)
        (try clear hb2)
        (try clear hk)
        (try clear hi)
        refine hK.out _ _ ⟨HS0_, HS1_, HS2_, HS3_, HS4_, HS5_, HS6_, HS7_⟩ (fun hHeld => ?_)
        clear hK K
        refine norm_ (a' := ?_) ?_ ?_
        rotate_left
        · show Act.put _ (some 24) _ = _
          simp only [Act.put, List.setIfInBounds_toArray, List.set_cons_zero, List.set_cons_succ, i64_w, i32_w]
          rfl
        refine pure_ (i := 7) (N := some 8) (v := ?_) (a' := ?_) #[true, true, true, true, true, true, true, true] rfl rfl (any_of HT_.out (by kernel_rfl)) (fun _ _ _ h => h) (Or.inl ⟨by rfl, ?_⟩) ?_ ?_
        rotate_left
        · intro w'
          go_simp
          with_reducible rfl
        rotate_left
        · simp only [Act.put, List.setIfInBounds_toArray, List.set_cons_zero, List.set_cons_succ, i64_w, i32_w]
          rfl
        refine done_ (done_of HT_.out (by kernel_rfl)) ?_
        try go_wp2
        have n0_ := Aside0.mk (Kd.R_drew HO232.out)
        have n1_ := Aside0.mk (Kd.R_drew HO235.out)
        have n2_ := Aside0.mk (blk_drew BK226.out)
        have n3_ := Aside0.mk (blk_drew BK227.out)
        have n4_ := Aside0.mk (blk_drew BK228.out)
        have n5_ := Aside0.mk (below_drew1 HB.out)
        clear HO232
        clear HO235
        clear BK226
        clear BK227
        clear BK228
        clear HB
        have HO232 := n0_
        have HO235 := n1_
        have BK226 := n2_
        have BK227 := n3_
        have BK228 := n4_
        have HB := n5_
        clear n0_ n1_ n2_ n3_ n4_ n5_
        have p239 : 0 ≤ (1 : Int) := (by omega)
        have q239 : 1 < (t233.length : Int) := of_decide_eq_true (by first | (with_reducible assumption) | assumption)
        obtain ⟨ad239, e239, hx239_0, hx239_1, hx239_2, hx239_3⟩ := at_T29 (Kd.R_reads' HO235.out).2.2 1 p239 q239
        obtain rfl : ad236 = ad239 := (by injection e239)
        (try simp only [show (1 : Int).toNat = 1 from rfl, Nat.reduceMul, Nat.reduceEqDiff, Go.Addr.add, ↓reduceIte] at hx239_0)
        (try simp only [show (1 : Int).toNat = 1 from rfl, Nat.reduceMul, Nat.reduceEqDiff, Go.Addr.add, ↓reduceIte] at hx239_1)
        (try simp only [show (1 : Int).toNat = 1 from rfl, Nat.reduceMul, Nat.reduceEqDiff, Go.Addr.add, ↓reduceIte] at hx239_2)
        (try simp only [show (1 : Int).toNat = 1 from rfl, Nat.reduceMul, Nat.reduceEqDiff, Go.Addr.add, ↓reduceIte] at hx239_3)
        have qi239 : (1 < t233.length) = True := eq_true (by omega)
        (try rw [show ((1 : Int)).toNat = 1 from rfl] at hx239_0)
        (try rw [show 1 * 4 = 4 from rfl] at hx239_0)
        (try rw [show ((1 : Int)).toNat = 1 from rfl] at hx239_1)
        (try rw [show 1 * 4 = 4 from rfl] at hx239_1)
        (try rw [show ((1 : Int)).toNat = 1 from rfl] at hx239_2)
        (try rw [show 1 * 4 = 4 from rfl] at hx239_2)
        (try rw [show ((1 : Int)).toNat = 1 from rfl] at hx239_3)
        (try rw [show 1 * 4 = 4 from rfl] at hx239_3)
        replace p239 := eq_true p239
        replace q239 := eq_true q239
        have p240 : 0 ≤ (0 : Int) := (by omega)
        have q240 : 0 < (t233.length : Int) := of_decide_eq_true (by first | (with_reducible assumption) | assumption)
        obtain ⟨ad240, e240, hx240_0, hx240_1, hx240_2, hx240_3⟩ := at_T29 (Kd.R_reads' HO235.out).2.2 0 p240 q240
        obtain rfl : ad236 = ad240 := (by injection e240)
        have qi240 : (0 < t233.length) = True := eq_true (by omega)
        (try rw [show ((0 : Int)).toNat = 0 from rfl] at hx240_0)
        (try rw [show 0 * 4 = 0 from rfl] at hx240_0)
        (try rw [Addr.add_zero'] at hx240_0)
        (try rw [show ((0 : Int)).toNat = 0 from rfl] at hx240_1)
        (try rw [show 0 * 4 = 0 from rfl] at hx240_1)
        (try rw [Addr.add_zero'] at hx240_1)
        (try rw [show ((0 : Int)).toNat = 0 from rfl] at hx240_2)
        (try rw [show 0 * 4 = 0 from rfl] at hx240_2)
        (try rw [Addr.add_zero'] at hx240_2)
        (try rw [show ((0 : Int)).toNat = 0 from rfl] at hx240_3)
        (try rw [show 0 * 4 = 0 from rfl] at hx240_3)
        (try rw [Addr.add_zero'] at hx240_3)
        replace p240 := eq_true p240
        replace q240 := eq_true q240
        refine start_ (n := 8) (S := fun w' => w'.cell? ⟨ad236.block, ad236.off + 4, none⟩ = some (.int .i64 ((rd_T29 t233 1).f0)) ∧ w'.cell? ⟨ad236.block, ad236.off + 4 + 1, none⟩ = some (.int .i64 ((rd_T29 t233 1).f1)) ∧ w'.cell? ⟨ad236.block, ad236.off + 4 + 2, none⟩ = some (.int .i64 ((rd_T29 t233 1).f2)) ∧ w'.cell? ⟨ad236.block, ad236.off + 4 + 3, none⟩ = some (.string ((rd_T29 t233 1).f3)) ∧ w'.cell? ad236 = some (.int .i64 ((rd_T29 t233 0).f0)) ∧ w'.cell? ⟨ad236.block, ad236.off + 1, none⟩ = some (.int .i64 ((rd_T29 t233 0).f1)) ∧ w'.cell? ⟨ad236.block, ad236.off + 2, none⟩ = some (.int .i64 ((rd_T29 t233 0).f2)) ∧ w'.cell? ⟨ad236.block, ad236.off + 3, none⟩ = some (.string ((rd_T29 t233 0).f3))) (ds := []) #[false, false, false, false, false, false, false, false] (by kernel_rfl) rfl rfl ⟨hx239_0, hx239_1, hx239_2, hx239_3, hx240_0, hx240_1, hx240_2, hx240_3⟩ (fun hHeld => ?_); refine with_tabW computuslaw20_PrecedenceTotal.tab5 computuslaw20_PrecedenceTotal.bits5 (fun HT_ HW_ => ?_)
        generalize w28.drew = w29 at HO232 HO235 BK226 BK227 BK228 HB hx239_0 hx239_1 hx239_2 hx239_3 hx240_0 hx240_1 hx240_2 hx240_3 hHeld ⊢
        refine pure_ (i := 0) (N := some 25) (v := ?_) (a' := ?_) #[true, false, false, false, false, false, false, false] rfl rfl (any_of HT_.out (by kernel_rfl)) (fun _ _ _ h => h) (Or.inl ⟨by rfl, ?_⟩) ?_ ?_
        rotate_left
        · intro w'
          go_simp
          with_reducible rfl
        rotate_left
        · simp only [Act.put, List.setIfInBounds_toArray, List.set_cons_zero, List.set_cons_succ, i64_w, i32_w]
          rfl
        refine pure_ (i := 1) (N := some 26) (v := ?_) (a' := ?_) #[true, true, false, false, false, false, false, false] rfl rfl (any_of HT_.out (by kernel_rfl)) (fun _ _ _ h => h) (Or.inl ⟨by rfl, ?_⟩) ?_ ?_
        rotate_left
        · intro w'
          go_simp
          with_reducible rfl
        rotate_left
        · simp only [Act.put, List.setIfInBounds_toArray, List.set_cons_zero, List.set_cons_succ, i64_w, i32_w]
          rfl
        refine pure_ (i := 3) (N := some 28) (v := ?_) (a' := ?_) #[true, true, false, true, false, false, false, false] rfl rfl (any_of HT_.out (by kernel_rfl)) (fun _ _ _ h => h) (Or.inl ⟨by rfl, ?_⟩) ?_ ?_
        rotate_left
        · intro w'
          go_simp
          with_reducible rfl
        rotate_left
        · simp only [Act.put, List.setIfInBounds_toArray, List.set_cons_zero, List.set_cons_succ, i64_w, i32_w]
          rfl
        refine pure_ (i := 4) (N := some 29) (v := ?_) (a' := ?_) #[true, true, false, true, true, false, false, false] rfl rfl (any_of HT_.out (by kernel_rfl)) (fun _ _ _ h => h) (Or.inl ⟨by rfl, ?_⟩) ?_ ?_
        rotate_left
        · intro w'
          go_simp
          with_reducible rfl
        rotate_left
        · simp only [Act.put, List.setIfInBounds_toArray, List.set_cons_zero, List.set_cons_succ, i64_w, i32_w]
          rfl
        refine take_ (i := 2) (N := some 27) (v := ?_) (a' := ?_) #[true, true, true, true, true, false, false, false] rfl rfl (take_ofW HT_.out HW_.out (by kernel_rfl)) (fun _ _ _ h => h) (Or.inl ⟨by rfl, ?_⟩) hHeld ?_ ?_
        rotate_left
        · rintro w' ⟨s0, s1, s2, s3, s4, s5, s6, s7⟩
          go_simp
          with_reducible rfl
        rotate_left
        · simp only [Act.put, List.setIfInBounds_toArray, List.set_cons_zero, List.set_cons_succ, i64_w, i32_w]
          rfl
        refine take_ (i := 5) (N := some 30) (v := ?_) (a' := ?_) #[true, true, true, true, true, true, false, false] rfl rfl (take_ofW HT_.out HW_.out (by kernel_rfl)) (fun _ _ _ h => h) (Or.inl ⟨by rfl, ?_⟩) hHeld ?_ ?_
        rotate_left
        · rintro w' ⟨s0, s1, s2, s3, s4, s5, s6, s7⟩
          go_simp
          with_reducible rfl
        rotate_left
        · simp only [Act.put, List.setIfInBounds_toArray, List.set_cons_zero, List.set_cons_succ, i64_w, i32_w]
          rfl
        refine one_ (i := 6) (N := some 31) #[true, true, true, true, true, true, true, false] rfl rfl (one_of HT_.out (by kernel_rfl)) (by decide) (fun K hK => ?_)
        refine goes_ Try.func14 (by kernel_rfl) rfl #[.agg #[.int .i64 ((rd_T29 t233 1).f0), .int .i64 ((rd_T29 t233 1).f1), .int .i64 ((rd_T29 t233 1).f2), .string ((rd_T29 t233 1).f3)], .agg #[.int .i64 ((rd_T29 t233 0).f0), .int .i64 ((rd_T29 t233 0).f1), .int .i64 ((rd_T29 t233 0).f2), .string ((rd_T29 t233 0).f3)]] (by rfl) rfl rfl (by (try simp only [List.map_toArray, List.map_cons, List.map_nil]); first | done | rfl | (simp only [List.length_drop, List.length_take]; rfl)) ?_
        with_reducible refine (precedence_Precedes.calls ((rd_T29 t233 1).f0) ((rd_T29 t233 1).f1) ((rd_T29 t233 1).f2) ((rd_T29 t233 1).f3) ((rd_T29 t233 0).f0) ((rd_T29 t233 0).f1) ((rd_T29 t233 0).f2) ((rd_T29 t233 0).f3) t241 _ A10.out).mono ?_
        rintro e w30 ⟨rfl, hb⟩
        have HS0_ := (hb.cell (World.block_lt_of_cell? _ _ (hHeld.1))).trans (hHeld.1)
        have HS1_ := (hb.cell (World.block_lt_of_cell? _ _ (hHeld.2.1))).trans (hHeld.2.1)
        have HS2_ := (hb.cell (World.block_lt_of_cell? _ _ (hHeld.2.2.1))).trans (hHeld.2.2.1)
        have HS3_ := (hb.cell (World.block_lt_of_cell? _ _ (hHeld.2.2.2.1))).trans (hHeld.2.2.2.1)
        have HS4_ := (hb.cell (World.block_lt_of_cell? _ _ (hHeld.2.2.2.2.1))).trans (hHeld.2.2.2.2.1)
        have HS5_ := (hb.cell (World.block_lt_of_cell? _ _ (hHeld.2.2.2.2.2.1))).trans (hHeld.2.2.2.2.2.1)
        have HS6_ := (hb.cell (World.block_lt_of_cell? _ _ (hHeld.2.2.2.2.2.2.1))).trans (hHeld.2.2.2.2.2.2.1)
        have HS7_ := (hb.cell (World.block_lt_of_cell? _ _ (hHeld.2.2.2.2.2.2.2))).trans (hHeld.2.2.2.2.2.2.2)
        refine ⟨_, rfl, ?_⟩
        have n0_ := Aside0.mk (Kd.R_below (by (with_reducible repeat (first | apply Kd.R_alloc | apply Kd.R_drewN | apply Kd.R_drew)); exact HO232.out) hb)
        have n1_ := Aside0.mk (Kd.R_below (by (with_reducible repeat (first | apply Kd.R_alloc | apply Kd.R_drewN | apply Kd.R_drew)); exact HO235.out) hb)
        have n2_ := Aside0.mk (blk_below (g := gb226) (o := .cells #[.int .i64 a0_0, .int .i64 a0_1, .int .i64 a0_2, .string a0_3] 24 (0, 0)) (by (with_reducible repeat (first | refine blk_drewN ?_ _ | refine blk_drew ?_ | refine blk_alloc ?_ _)); exact BK226.out) hb)
        have n3_ := Aside0.mk (blk_below (g := gb227) (o := .cells #[.int .i64 a1_0, .int .i64 a1_1, .int .i64 a1_2, .string a1_3] 24 (0, 0)) (by (with_reducible repeat (first | refine blk_drewN ?_ _ | refine blk_drew ?_ | refine blk_alloc ?_ _)); exact BK227.out) hb)
        have n4_ := Aside0.mk (blk_below (g := gb228) (o := .cells #[.int .i64 a2_0, .int .i64 a2_1, .int .i64 a2_2, .string a2_3] 24 (0, 0)) (by (with_reducible repeat (first | refine blk_drewN ?_ _ | refine blk_drew ?_ | refine blk_alloc ?_ _)); exact BK228.out) hb)
        have n5_ := Aside0.mk (below_step (by repeat (first | (with_reducible first | exact HB.out | apply below_alloc | apply pw_below_drewN | apply below_drew1 | refine below_set ?_ GE226.out | refine below_set ?_ GE227.out | refine below_set ?_ GE228.out) | exact HB.out)) hb)
        clear HO232
        clear HO235
        clear BK226
        clear BK227
        clear BK228
        clear HB
        have HO232 := n0_
        have HO235 := n1_
        have BK226 := n2_
        have BK227 := n3_
        have BK228 := n4_
        have HB := n5_
        clear n0_ n1_ n2_ n3_ n4_ n5_
        (try clear hb)
        (try clear hb2)
        (try clear hk)
        (try clear hi)
        refine hK.out _ _ ⟨HS0_, HS1_, HS2_, HS3_, HS4_, HS5_, HS6_, HS7_⟩ (fun hHeld => ?_)
        clear hK K
        refine norm_ (a' := ?_) ?_ ?_
        rotate_left
        · show Act.put _ (some 31) _ = _
          simp only [Act.put, List.setIfInBounds_toArray, List.set_cons_zero, List.set_cons_succ, i64_w, i32_w]
          rfl
        refine pure_ (i := 7) (N := some 9) (v := ?_) (a' := ?_) #[true, true, true, true, true, true, true, true] rfl rfl (any_of HT_.out (by kernel_rfl)) (fun _ _ _ h => h) (Or.inl ⟨by rfl, ?_⟩) ?_ ?_
        rotate_left
        · intro w'
          go_simp
          with_reducible rfl
        rotate_left
        · simp only [Act.put, List.setIfInBounds_toArray, List.set_cons_zero, List.set_cons_succ, i64_w, i32_w]
          rfl
        refine done_ (done_of HT_.out (by kernel_rfl)) ?_
        go_upto_region 6 with (fail)
        go_cut [10] (fun v10 wc => ∃ (kq : Nat) (x10_10 : Bool), v10 = .bool x10_10 ∧ Aside0 (computuslaw20_PrecedenceTotal.j0 kq t233 t238 t241 x10_10 = some r) ∧ Aside0 (kq ≤ k) ∧ Aside0 (Kd.R k29 29 wc w.heap.size (fun _ => True) (.slice (some ad236) t233.length co27) t233) ∧ Aside0 (wc.heap[gb226]? = some (.cells #[.int .i64 a0_0, .int .i64 a0_1, .int .i64 a0_2, .string a0_3] 24 (0, 0))) ∧ Aside0 (wc.heap[gb227]? = some (.cells #[.int .i64 a1_0, .int .i64 a1_1, .int .i64 a1_2, .string a1_3] 24 (0, 0))) ∧ Aside0 (wc.heap[gb228]? = some (.cells #[.int .i64 a2_0, .int .i64 a2_1, .int .i64 a2_2, .string a2_3] 24 (0, 0))) ∧ Aside0 (Below w.heap.size w wc))
        case first =>
          have H := HC11.out
          clear HC11
          by_cases c31 : a0_2 = a1_2
          · rw [if_pos c31] at H
            have c31b0 : (a0_2 == a1_2) = true := beq_iff_eq.mpr c31
            have c31b1 : (a0_2 != a1_2) = false := bne_eq_false_iff_eq.mpr c31
            clear c31
            (first | rw [c31b0] | (simp only [i64_w, i32_w]; rw [c31b0]) | skip)
            by_cases c32 : a0_0 = a1_0
            · rw [if_pos c32] at H
              have c32b0 : (a0_0 == a1_0) = true := beq_iff_eq.mpr c32
              have c32b1 : (a0_0 != a1_0) = false := bne_eq_false_iff_eq.mpr c32
              clear c32
              have H' := Aside0.mk H
              clear H
              have hnb33 := NB226_227.out
              have hnc33 := NB227_226.out
              have hnb34 := NB226_228.out
              have hnc34 := NB228_226.out
              have hcz35_0 : w30.cell? ⟨gb226, 0, none⟩ = some (.int .i64 a0_0) := (blk_cell BK226.out 0).trans rfl
              have hcz35_1 : w30.cell? ⟨gb226, 1, none⟩ = some (.int .i64 a0_1) := (blk_cell BK226.out 1).trans rfl
              have hcz35_2 : w30.cell? ⟨gb226, 2, none⟩ = some (.int .i64 a0_2) := (blk_cell BK226.out 2).trans rfl
              have hcz35_3 : w30.cell? ⟨gb226, 3, none⟩ = some (.string a0_3) := (blk_cell BK226.out 3).trans rfl
              have hfz35_0 := blk_frozen BK226.out 0
              have hfz35_1 := blk_frozen BK226.out 1
              have hfz35_2 := blk_frozen BK226.out 2
              have hfz35_3 := blk_frozen BK226.out 3
              have hnb36 := NB227_228.out
              have hnc36 := NB228_227.out
              have hcz37_0 : w30.cell? ⟨gb227, 0, none⟩ = some (.int .i64 a1_0) := (blk_cell BK227.out 0).trans rfl
              have hcz37_1 : w30.cell? ⟨gb227, 1, none⟩ = some (.int .i64 a1_1) := (blk_cell BK227.out 1).trans rfl
              have hcz37_2 : w30.cell? ⟨gb227, 2, none⟩ = some (.int .i64 a1_2) := (blk_cell BK227.out 2).trans rfl
              have hcz37_3 : w30.cell? ⟨gb227, 3, none⟩ = some (.string a1_3) := (blk_cell BK227.out 3).trans rfl
              have hfz37_0 := blk_frozen BK227.out 0
              have hfz37_1 := blk_frozen BK227.out 1
              have hfz37_2 := blk_frozen BK227.out 2
              have hfz37_3 := blk_frozen BK227.out 3
              go_wp2
              go_meet
              case rel => exact ⟨_, ((a0_1 == a1_1)), (by first | rfl | (simp; done) | (simp [*]; done)), H', ⟨by first | omega | exact Nat.le_refl _⟩, ⟨by (with_reducible repeat (first | apply Kd.R_alloc | apply Kd.R_drewN | apply Kd.R_drew)); exact HO235.out⟩, ⟨by (with_reducible repeat (first | refine blk_drewN ?_ _ | refine blk_drew ?_ | refine blk_alloc ?_ _)); exact BK226.out⟩, ⟨by (with_reducible repeat (first | refine blk_drewN ?_ _ | refine blk_drew ?_ | refine blk_alloc ?_ _)); exact BK227.out⟩, ⟨by (with_reducible repeat (first | refine blk_drewN ?_ _ | refine blk_drew ?_ | refine blk_alloc ?_ _)); exact BK228.out⟩, ⟨by repeat (first | (with_reducible first | exact HB.out | apply below_alloc | apply pw_below_drewN | apply below_drew1 | refine below_set ?_ GE226.out | refine below_set ?_ GE227.out | refine below_set ?_ GE228.out) | exact HB.out)⟩⟩
            · rw [if_neg c32] at H
              have c32b0 : (a0_0 == a1_0) = false := beq_eq_false_iff_ne.mpr c32
              have c32b1 : (a0_0 != a1_0) = true := bne_iff_ne.mpr c32
              have H' := Aside0.mk H
              clear H
              have hnb38 := NB226_227.out
              have hnc38 := NB227_226.out
              have hnb39 := NB226_228.out
              have hnc39 := NB228_226.out
              have hcz40_0 : w30.cell? ⟨gb226, 0, none⟩ = some (.int .i64 a0_0) := (blk_cell BK226.out 0).trans rfl
              have hcz40_1 : w30.cell? ⟨gb226, 1, none⟩ = some (.int .i64 a0_1) := (blk_cell BK226.out 1).trans rfl
              have hcz40_2 : w30.cell? ⟨gb226, 2, none⟩ = some (.int .i64 a0_2) := (blk_cell BK226.out 2).trans rfl
              have hcz40_3 : w30.cell? ⟨gb226, 3, none⟩ = some (.string a0_3) := (blk_cell BK226.out 3).trans rfl
              have hfz40_0 := blk_frozen BK226.out 0
              have hfz40_1 := blk_frozen BK226.out 1
              have hfz40_2 := blk_frozen BK226.out 2
              have hfz40_3 := blk_frozen BK226.out 3
              have hnb41 := NB227_228.out
              have hnc41 := NB228_227.out
              have hcz42_0 : w30.cell? ⟨gb227, 0, none⟩ = some (.int .i64 a1_0) := (blk_cell BK227.out 0).trans rfl
              have hcz42_1 : w30.cell? ⟨gb227, 1, none⟩ = some (.int .i64 a1_1) := (blk_cell BK227.out 1).trans rfl
              have hcz42_2 : w30.cell? ⟨gb227, 2, none⟩ = some (.int .i64 a1_2) := (blk_cell BK227.out 2).trans rfl
              have hcz42_3 : w30.cell? ⟨gb227, 3, none⟩ = some (.string a1_3) := (blk_cell BK227.out 3).trans rfl
              have hfz42_0 := blk_frozen BK227.out 0
              have hfz42_1 := blk_frozen BK227.out 1
              have hfz42_2 := blk_frozen BK227.out 2
              have hfz42_3 := blk_frozen BK227.out 3
              go_wp2
              go_meet
              case rel => exact ⟨_, (false), (by first | rfl | (simp; done) | (simp [*]; done)), H', ⟨by first | omega | exact Nat.le_refl _⟩, ⟨by (with_reducible repeat (first | apply Kd.R_alloc | apply Kd.R_drewN | apply Kd.R_drew)); exact HO235.out⟩, ⟨by (with_reducible repeat (first | refine blk_drewN ?_ _ | refine blk_drew ?_ | refine blk_alloc ?_ _)); exact BK226.out⟩, ⟨by (with_reducible repeat (first | refine blk_drewN ?_ _ | refine blk_drew ?_ | refine blk_alloc ?_ _)); exact BK227.out⟩, ⟨by (with_reducible repeat (first | refine blk_drewN ?_ _ | refine blk_drew ?_ | refine blk_alloc ?_ _)); exact BK228.out⟩, ⟨by repeat (first | (with_reducible first | exact HB.out | apply below_alloc | apply pw_below_drewN | apply below_drew1 | refine below_set ?_ GE226.out | refine below_set ?_ GE227.out | refine below_set ?_ GE228.out) | exact HB.out)⟩⟩
          · rw [if_neg c31] at H
            have c31b0 : (a0_2 == a1_2) = false := beq_eq_false_iff_ne.mpr c31
            have c31b1 : (a0_2 != a1_2) = true := bne_iff_ne.mpr c31
            (first | rw [c31b0] | (simp only [i64_w, i32_w]; rw [c31b0]) | skip)
            have H' := Aside0.mk H
            clear H
            have hnb43 := NB226_227.out
            have hnc43 := NB227_226.out
            have hnb44 := NB226_228.out
            have hnc44 := NB228_226.out
            have hcz45_0 : w30.cell? ⟨gb226, 0, none⟩ = some (.int .i64 a0_0) := (blk_cell BK226.out 0).trans rfl
            have hcz45_1 : w30.cell? ⟨gb226, 1, none⟩ = some (.int .i64 a0_1) := (blk_cell BK226.out 1).trans rfl
            have hcz45_2 : w30.cell? ⟨gb226, 2, none⟩ = some (.int .i64 a0_2) := (blk_cell BK226.out 2).trans rfl
            have hcz45_3 : w30.cell? ⟨gb226, 3, none⟩ = some (.string a0_3) := (blk_cell BK226.out 3).trans rfl
            have hfz45_0 := blk_frozen BK226.out 0
            have hfz45_1 := blk_frozen BK226.out 1
            have hfz45_2 := blk_frozen BK226.out 2
            have hfz45_3 := blk_frozen BK226.out 3
            have hnb46 := NB227_228.out
            have hnc46 := NB228_227.out
            have hcz47_0 : w30.cell? ⟨gb227, 0, none⟩ = some (.int .i64 a1_0) := (blk_cell BK227.out 0).trans rfl
            have hcz47_1 : w30.cell? ⟨gb227, 1, none⟩ = some (.int .i64 a1_1) := (blk_cell BK227.out 1).trans rfl
            have hcz47_2 : w30.cell? ⟨gb227, 2, none⟩ = some (.int .i64 a1_2) := (blk_cell BK227.out 2).trans rfl
            have hcz47_3 : w30.cell? ⟨gb227, 3, none⟩ = some (.string a1_3) := (blk_cell BK227.out 3).trans rfl
            have hfz47_0 := blk_frozen BK227.out 0
            have hfz47_1 := blk_frozen BK227.out 1
            have hfz47_2 := blk_frozen BK227.out 2
            have hfz47_3 := blk_frozen BK227.out 3
            go_wp2
            go_meet
            case rel => exact ⟨_, (false), (by first | rfl | (simp; done) | (simp [*]; done)), H', ⟨by first | omega | exact Nat.le_refl _⟩, ⟨by (with_reducible repeat (first | apply Kd.R_alloc | apply Kd.R_drewN | apply Kd.R_drew)); exact HO235.out⟩, ⟨by (with_reducible repeat (first | refine blk_drewN ?_ _ | refine blk_drew ?_ | refine blk_alloc ?_ _)); exact BK226.out⟩, ⟨by (with_reducible repeat (first | refine blk_drewN ?_ _ | refine blk_drew ?_ | refine blk_alloc ?_ _)); exact BK227.out⟩, ⟨by (with_reducible repeat (first | refine blk_drewN ?_ _ | refine blk_drew ?_ | refine blk_alloc ?_ _)); exact BK228.out⟩, ⟨by repeat (first | (with_reducible first | exact HB.out | apply below_alloc | apply pw_below_drewN | apply below_drew1 | refine below_set ?_ GE226.out | refine below_set ?_ GE227.out | refine below_set ?_ GE228.out) | exact HB.out)⟩⟩
        case rest =>
          clear HC11
          try clear c1
          try clear p2
          try clear q2
          try clear hx2
          try clear qi2
          try clear c3
          try clear c4
          try clear c5
          try clear c7
          try clear c7b0
          try clear c7b1
          try clear c8
          try clear c8b0
          try clear c8b1
          try clear c10
          try clear c11
          try clear c14
          try clear c16
          try clear c17
          try clear c19
          try clear p23
          try clear q23
          try clear hx23
          try clear qi23
          try clear p24
          try clear q24
          try clear hx24
          try clear qi24
          try clear c31
          try clear c31b0
          try clear c31b1
          try clear c32
          try clear c32b0
          try clear c32b1
          try clear c33
          try clear c34
          try clear c36
          try clear c38
          try clear c39
          try clear c41
          try clear c43
          try clear c44
          try clear c46
          try clear hcz18_0
          try clear hcz18_1
          try clear hcz18_2
          try clear hcz18_3
          try clear hcz20_0
          try clear hcz20_1
          try clear hcz20_2
          try clear hcz20_3
          try clear hcz21_0
          try clear hcz21_1
          try clear hcz21_2
          try clear hcz21_3
          try clear hcz35_0
          try clear hcz35_1
          try clear hcz35_2
          try clear hcz35_3
          try clear hcz37_0
          try clear hcz37_1
          try clear hcz37_2
          try clear hcz37_3
          try clear hcz40_0
          try clear hcz40_1
          try clear hcz40_2
          try clear hcz40_3
          try clear hcz42_0
          try clear hcz42_1
          try clear hcz42_2
          try clear hcz42_3
          try clear hcz45_0
          try clear hcz45_1
          try clear hcz45_2
          try clear hcz45_3
          try clear hcz47_0
          try clear hcz47_1
          try clear hcz47_2
          try clear hcz47_3
          try clear hfz18_0
          try clear hfz18_1
          try clear hfz18_2
          try clear hfz18_3
          try clear hfz20_0
          try clear hfz20_1
          try clear hfz20_2
          try clear hfz20_3
          try clear hfz21_0
          try clear hfz21_1
          try clear hfz21_2
          try clear hfz21_3
          try clear hfz35_0
          try clear hfz35_1
          try clear hfz35_2
          try clear hfz35_3
          try clear hfz37_0
          try clear hfz37_1
          try clear hfz37_2
          try clear hfz37_3
          try clear hfz40_0
          try clear hfz40_1
          try clear hfz40_2
          try clear hfz40_3
          try clear hfz42_0
          try clear hfz42_1
          try clear hfz42_2
          try clear hfz42_3
          try clear hfz45_0
          try clear hfz45_1
          try clear hfz45_2
          try clear hfz45_3
          try clear hfz47_0
          try clear hfz47_1
          try clear hfz47_2
          try clear hfz47_3
          try clear hx236_0
          try clear hx236_1
          try clear hx236_2
          try clear hx236_3
          try clear hx237_0
          try clear hx237_1
          try clear hx237_2
          try clear hx237_3
          try clear hx239_0
          try clear hx239_1
          try clear hx239_2
          try clear hx239_3
          try clear hx240_0
          try clear hx240_1
          try clear hx240_2
          try clear hx240_3
          try clear p236
          try clear p237
          try clear p239
          try clear p240
          try clear q236
          try clear q237
          try clear q239
          try clear q240
          obtain ⟨kq, x10_10, rfl, HA, HJ10, HO_7, BK226, BK227, BK228, HB⟩ := hcut
          cases kq with
          | zero => exact absurd HA.out (by simp [computuslaw20_PrecedenceTotal.j0])
          | succ kj10 =>
            have H := HA.out
            clear HA
            simp only [computuslaw20_PrecedenceTotal.j0] at H
            have HC48 := Aside0.mk H
            clear H
            go_upto_region 7 with (fail)
            go_cut [64] (fun v64 wc => ∃ (kq : Nat) (x64_47 : Bool), v64 = .bool x64_47 ∧ Aside0 (computuslaw20_PrecedenceTotal.j1 kq t233 t238 x64_47 = some r) ∧ Aside0 (kq ≤ kj10) ∧ Aside0 (Kd.R k29 29 wc w.heap.size (fun _ => True) (.slice (some ad236) t233.length co27) t233) ∧ Aside0 (wc.heap[gb226]? = some (.cells #[.int .i64 a0_0, .int .i64 a0_1, .int .i64 a0_2, .string a0_3] 24 (0, 0))) ∧ Aside0 (wc.heap[gb227]? = some (.cells #[.int .i64 a1_0, .int .i64 a1_1, .int .i64 a1_2, .string a1_3] 24 (0, 0))) ∧ Aside0 (wc.heap[gb228]? = some (.cells #[.int .i64 a2_0, .int .i64 a2_1, .int .i64 a2_2, .string a2_3] 24 (0, 0))) ∧ Aside0 (Below w.heap.size w wc))
            case first =>
              have H := HC48.out
              clear HC48
              by_cases c49 : t238 = true
              · subst c49
                have H1 : (if t241 = true then (computuslaw20_PrecedenceTotal.j1 kj10 t233 true true) else (computuslaw20_PrecedenceTotal.j1 kj10 t233 true (x10_10 != false))) = some r := by rw [if_pos rfl] at H; exact H
                clear H
                have H := H1
                clear H1
                by_cases c50 : t241 = true
                · subst c50
                  have H1 : (computuslaw20_PrecedenceTotal.j1 kj10 t233 true true) = some r := by rw [if_pos rfl] at H; exact H
                  clear H
                  have H := H1
                  clear H1
                  have H' := Aside0.mk H
                  clear H
                  go_wp2
                  go_meet
                  case rel => exact ⟨_, (true), (by first | rfl | (simp; done) | (simp [*]; done)), H', ⟨by have := HJ10.out; first | omega | exact Nat.le_refl _⟩, ⟨by (with_reducible repeat (first | apply Kd.R_alloc | apply Kd.R_drewN | apply Kd.R_drew)); exact HO_7.out⟩, ⟨by (with_reducible repeat (first | refine blk_drewN ?_ _ | refine blk_drew ?_ | refine blk_alloc ?_ _)); exact BK226.out⟩, ⟨by (with_reducible repeat (first | refine blk_drewN ?_ _ | refine blk_drew ?_ | refine blk_alloc ?_ _)); exact BK227.out⟩, ⟨by (with_reducible repeat (first | refine blk_drewN ?_ _ | refine blk_drew ?_ | refine blk_alloc ?_ _)); exact BK228.out⟩, ⟨by repeat (first | (with_reducible first | exact HB.out | apply below_alloc | apply pw_below_drewN | apply below_drew1 | refine below_set ?_ GE226.out | refine below_set ?_ GE227.out | refine below_set ?_ GE228.out) | exact HB.out)⟩⟩
                · replace c50 := Bool.eq_false_iff.mpr c50
                  subst c50
                  have H1 : (computuslaw20_PrecedenceTotal.j1 kj10 t233 true (x10_10 != false)) = some r := by rw [if_neg (show ¬ (false = true) by decide)] at H; exact H
                  clear H
                  have H := H1
                  clear H1
                  have H' := Aside0.mk H
                  clear H
                  go_wp2
                  go_meet
                  case rel => exact ⟨_, ((x10_10 != false)), (by first | rfl | (simp; done) | (simp [*]; done)), H', ⟨by have := HJ10.out; first | omega | exact Nat.le_refl _⟩, ⟨by (with_reducible repeat (first | apply Kd.R_alloc | apply Kd.R_drewN | apply Kd.R_drew)); exact HO_7.out⟩, ⟨by (with_reducible repeat (first | refine blk_drewN ?_ _ | refine blk_drew ?_ | refine blk_alloc ?_ _)); exact BK226.out⟩, ⟨by (with_reducible repeat (first | refine blk_drewN ?_ _ | refine blk_drew ?_ | refine blk_alloc ?_ _)); exact BK227.out⟩, ⟨by (with_reducible repeat (first | refine blk_drewN ?_ _ | refine blk_drew ?_ | refine blk_alloc ?_ _)); exact BK228.out⟩, ⟨by repeat (first | (with_reducible first | exact HB.out | apply below_alloc | apply pw_below_drewN | apply below_drew1 | refine below_set ?_ GE226.out | refine below_set ?_ GE227.out | refine below_set ?_ GE228.out) | exact HB.out)⟩⟩
              · replace c49 := Bool.eq_false_iff.mpr c49
                subst c49
                have H1 : (computuslaw20_PrecedenceTotal.j1 kj10 t233 false (x10_10 != (!t241))) = some r := by rw [if_neg (show ¬ (false = true) by decide)] at H; exact H
                clear H
                have H := H1
                clear H1
                have H' := Aside0.mk H
                clear H
                go_wp2
                go_meet
                case rel => exact ⟨_, ((x10_10 != (!t241))), (by first | rfl | (simp; done) | (simp [*]; done)), H', ⟨by have := HJ10.out; first | omega | exact Nat.le_refl _⟩, ⟨by (with_reducible repeat (first | apply Kd.R_alloc | apply Kd.R_drewN | apply Kd.R_drew)); exact HO_7.out⟩, ⟨by (with_reducible repeat (first | refine blk_drewN ?_ _ | refine blk_drew ?_ | refine blk_alloc ?_ _)); exact BK226.out⟩, ⟨by (with_reducible repeat (first | refine blk_drewN ?_ _ | refine blk_drew ?_ | refine blk_alloc ?_ _)); exact BK227.out⟩, ⟨by (with_reducible repeat (first | refine blk_drewN ?_ _ | refine blk_drew ?_ | refine blk_alloc ?_ _)); exact BK228.out⟩, ⟨by repeat (first | (with_reducible first | exact HB.out | apply below_alloc | apply pw_below_drewN | apply below_drew1 | refine below_set ?_ GE226.out | refine below_set ?_ GE227.out | refine below_set ?_ GE228.out) | exact HB.out)⟩⟩
            case rest =>
              clear HC48
              try clear c1
              try clear p2
              try clear q2
              try clear hx2
              try clear qi2
              try clear c3
              try clear c4
              try clear c5
              try clear c7
              try clear c7b0
              try clear c7b1
              try clear c8
              try clear c8b0
              try clear c8b1
              try clear c10
              try clear c11
              try clear c14
              try clear c16
              try clear c17
              try clear c19
              try clear p23
              try clear q23
              try clear hx23
              try clear qi23
              try clear p24
              try clear q24
              try clear hx24
              try clear qi24
              try clear c31
              try clear c31b0
              try clear c31b1
              try clear c32
              try clear c32b0
              try clear c32b1
              try clear c33
              try clear c34
              try clear c36
              try clear c38
              try clear c39
              try clear c41
              try clear c43
              try clear c44
              try clear c46
              try clear c49
              try clear c50
              try clear hcz18_0
              try clear hcz18_1
              try clear hcz18_2
              try clear hcz18_3
              try clear hcz20_0
              try clear hcz20_1
              try clear hcz20_2
              try clear hcz20_3
              try clear hcz21_0
              try clear hcz21_1
              try clear hcz21_2
              try clear hcz21_3
              try clear hcz35_0
              try clear hcz35_1
              try clear hcz35_2
              try clear hcz35_3
              try clear hcz37_0
              try clear hcz37_1
              try clear hcz37_2
              try clear hcz37_3
              try clear hcz40_0
              try clear hcz40_1
              try clear hcz40_2
              try clear hcz40_3
              try clear hcz42_0
              try clear hcz42_1
              try clear hcz42_2
              try clear hcz42_3
              try clear hcz45_0
              try clear hcz45_1
              try clear hcz45_2
              try clear hcz45_3
              try clear hcz47_0
              try clear hcz47_1
              try clear hcz47_2
              try clear hcz47_3
              try clear hfz18_0
              try clear hfz18_1
              try clear hfz18_2
              try clear hfz18_3
              try clear hfz20_0
              try clear hfz20_1
              try clear hfz20_2
              try clear hfz20_3
              try clear hfz21_0
              try clear hfz21_1
              try clear hfz21_2
              try clear hfz21_3
              try clear hfz35_0
              try clear hfz35_1
              try clear hfz35_2
              try clear hfz35_3
              try clear hfz37_0
              try clear hfz37_1
              try clear hfz37_2
              try clear hfz37_3
              try clear hfz40_0
              try clear hfz40_1
              try clear hfz40_2
              try clear hfz40_3
              try clear hfz42_0
              try clear hfz42_1
              try clear hfz42_2
              try clear hfz42_3
              try clear hfz45_0
              try clear hfz45_1
              try clear hfz45_2
              try clear hfz45_3
              try clear hfz47_0
              try clear hfz47_1
              try clear hfz47_2
              try clear hfz47_3
              try clear hx236_0
              try clear hx236_1
              try clear hx236_2
              try clear hx236_3
              try clear hx237_0
              try clear hx237_1
              try clear hx237_2
              try clear hx237_3
              try clear hx239_0
              try clear hx239_1
              try clear hx239_2
              try clear hx239_3
              try clear hx240_0
              try clear hx240_1
              try clear hx240_2
              try clear hx240_3
              try clear p2
              try clear p23
              try clear p236
              try clear p237
              try clear p239
              try clear p24
              try clear p240
              try clear q2
              try clear q23
              try clear q236
              try clear q237
              try clear q239
              try clear q24
              try clear q240
              obtain ⟨kq, x64_47, rfl, HA, HJ47, HO_7, BK226, BK227, BK228, HB⟩ := hcut
              cases kq with
              | zero => exact absurd HA.out (by simp [computuslaw20_PrecedenceTotal.j1])
              | succ kj47 =>
                have H := HA.out
                clear HA
                simp only [computuslaw20_PrecedenceTotal.j1] at H
                by_cases c51 : x64_47 = true
                · subst c51
                  have H1 : (none) = some r := by rw [if_pos rfl] at H; exact H
                  clear H
                  have H := H1
                  clear H1
                  exact absurd H (by simp)
                · replace c51 := Bool.eq_false_iff.mpr c51
                  subst c51
                  have H1 : (if t238 = true then (if 1 < (t233.length : Int) then (if 2 < (t233.length : Int) then ((precedence_Precedes.f ((rd_T29 t233 1).f0) ((rd_T29 t233 1).f1) ((rd_T29 t233 1).f2) ((rd_T29 t233 1).f3) ((rd_T29 t233 2).f0) ((rd_T29 t233 2).f1) ((rd_T29 t233 2).f2) ((rd_T29 t233 2).f3)).bind fun t244 => (if t244 = true then (if 0 < (t233.length : Int) then ((precedence_Precedes.f ((rd_T29 t233 0).f0) ((rd_T29 t233 0).f1) ((rd_T29 t233 0).f2) ((rd_T29 t233 0).f3) ((rd_T29 t233 2).f0) ((rd_T29 t233 2).f1) ((rd_T29 t233 2).f2) ((rd_T29 t233 2).f3)).bind fun t247 => (some t247)) else (none)) else (some true))) else (none)) else (none)) else (some true)) = some r := by rw [if_neg (show ¬ (false = true) by decide)] at H; exact H
                  clear H
                  have H := H1
                  clear H1
                  by_cases c52 : t238 = true
                  · subst c52
                    have H1 : (if 1 < (t233.length : Int) then (if 2 < (t233.length : Int) then ((precedence_Precedes.f ((rd_T29 t233 1).f0) ((rd_T29 t233 1).f1) ((rd_T29 t233 1).f2) ((rd_T29 t233 1).f3) ((rd_T29 t233 2).f0) ((rd_T29 t233 2).f1) ((rd_T29 t233 2).f2) ((rd_T29 t233 2).f3)).bind fun t244 => (if t244 = true then (if 0 < (t233.length : Int) then ((precedence_Precedes.f ((rd_T29 t233 0).f0) ((rd_T29 t233 0).f1) ((rd_T29 t233 0).f2) ((rd_T29 t233 0).f3) ((rd_T29 t233 2).f0) ((rd_T29 t233 2).f1) ((rd_T29 t233 2).f2) ((rd_T29 t233 2).f3)).bind fun t247 => (some t247)) else (none)) else (some true))) else (none)) else (none)) = some r := by rw [if_pos rfl] at H; exact H
                    clear H
                    have H := H1
                    clear H1
                    by_cases c53 : 1 < (t233.length : Int)
                    · rw [if_pos c53] at H
                      have c53b0 : decide (1 < (t233.length : Int)) = true := decide_eq_true c53
                      have c53b1 : decide (1 < t233.length) = true := decide_eq_true (by omega)
                      clear c53
                      by_cases c54 : 2 < (t233.length : Int)
                      · rw [if_pos c54] at H
                        have c54b0 : decide (2 < (t233.length : Int)) = true := decide_eq_true c54
                        have c54b1 : decide (2 < t233.length) = true := decide_eq_true (by omega)
                        clear c54
                        replace H := Option.bind_eq_some_iff.mp H
                        obtain ⟨t244, A550, H⟩ := H
                        replace H : (if t244 = true then (if 0 < (t233.length : Int) then ((precedence_Precedes.f ((rd_T29 t233 0).f0) ((rd_T29 t233 0).f1) ((rd_T29 t233 0).f2) ((rd_T29 t233 0).f3) ((rd_T29 t233 2).f0) ((rd_T29 t233 2).f1) ((rd_T29 t233 2).f2) ((rd_T29 t233 2).f3)).bind fun t247 => (some t247)) else (none)) else (some true)) = some r := H
                        have A55 := Aside0.mk A550
                        clear A550
                        by_cases c56 : t244 = true
                        · subst c56
                          have H1 : (if 0 < (t233.length : Int) then ((precedence_Precedes.f ((rd_T29 t233 0).f0) ((rd_T29 t233 0).f1) ((rd_T29 t233 0).f2) ((rd_T29 t233 0).f3) ((rd_T29 t233 2).f0) ((rd_T29 t233 2).f1) ((rd_T29 t233 2).f2) ((rd_T29 t233 2).f3)).bind fun t247 => (some t247)) else (none)) = some r := by rw [if_pos rfl] at H; exact H
                          clear H
                          have H := H1
                          clear H1
                          by_cases c57 : 0 < (t233.length : Int)
                          · rw [if_pos c57] at H
                            have c57b0 : decide (0 < (t233.length : Int)) = true := decide_eq_true c57
                            have c57b1 : decide (0 < t233.length) = true := decide_eq_true (by omega)
                            clear c57
                            replace H := Option.bind_eq_some_iff.mp H
                            obtain ⟨t247, A580, H⟩ := H
                            replace H : (some t247) = some r := H
                            have A58 := Aside0.mk A580
                            clear A580
                            obtain rfl := Option.some.inj H
                            try go_wp2
                            have n0_ := Aside0.mk (Kd.R_drew HO_7.out)
                            have n1_ := Aside0.mk (blk_drew BK226.out)
                            have n2_ := Aside0.mk (blk_drew BK227.out)
                            have n3_ := Aside0.mk (blk_drew BK228.out)
                            have n4_ := Aside0.mk (below_drew1 HB.out)
                            clear HO_7
                            clear BK226
                            clear BK227
                            clear BK228
                            clear HB
                            have HO_7 := n0_
                            have BK226 := n1_
                            have BK227 := n2_
                            have BK228 := n3_
                            have HB := n4_
                            clear n0_ n1_ n2_ n3_ n4_
                            have p242 : 0 ≤ (1 : Int) := (by omega)
                            have q242 : 1 < (t233.length : Int) := of_decide_eq_true (by first | (with_reducible assumption) | assumption)
                            obtain ⟨ad242, e242, hx242_0, hx242_1, hx242_2, hx242_3⟩ := at_T29 (Kd.R_reads' HO_7.out).2.2 1 p242 q242
                            obtain rfl : ad236 = ad242 := (by injection e242)
                            (try simp only [show (1 : Int).toNat = 1 from rfl, Nat.reduceMul, Nat.reduceEqDiff, Go.Addr.add, ↓reduceIte] at hx242_0)
                            (try simp only [show (1 : Int).toNat = 1 from rfl, Nat.reduceMul, Nat.reduceEqDiff, Go.Addr.add, ↓reduceIte] at hx242_1)
                            (try simp only [show (1 : Int).toNat = 1 from rfl, Nat.reduceMul, Nat.reduceEqDiff, Go.Addr.add, ↓reduceIte] at hx242_2)
                            (try simp only [show (1 : Int).toNat = 1 from rfl, Nat.reduceMul, Nat.reduceEqDiff, Go.Addr.add, ↓reduceIte] at hx242_3)
                            have qi242 : (1 < t233.length) = True := eq_true (by omega)
                            (try rw [show ((1 : Int)).toNat = 1 from rfl] at hx242_0)
                            (try rw [show 1 * 4 = 4 from rfl] at hx242_0)
                            (try rw [show ((1 : Int)).toNat = 1 from rfl] at hx242_1)
                            (try rw [show 1 * 4 = 4 from rfl] at hx242_1)
                            (try rw [show ((1 : Int)).toNat = 1 from rfl] at hx242_2)
                            (try rw [show 1 * 4 = 4 from rfl] at hx242_2)
                            (try rw [show ((1 : Int)).toNat = 1 from rfl] at hx242_3)
                            (try rw [show 1 * 4 = 4 from rfl] at hx242_3)
                            replace p242 := eq_true p242
                            replace q242 := eq_true q242
                            have p243 : 0 ≤ (2 : Int) := (by omega)
                            have q243 : 2 < (t233.length : Int) := of_decide_eq_true (by first | (with_reducible assumption) | assumption)
                            obtain ⟨ad243, e243, hx243_0, hx243_1, hx243_2, hx243_3⟩ := at_T29 (Kd.R_reads' HO_7.out).2.2 2 p243 q243
                            obtain rfl : ad236 = ad243 := (by injection e243)
                            (try simp only [show (2 : Int).toNat = 2 from rfl, Nat.reduceMul, Nat.reduceEqDiff, Go.Addr.add, ↓reduceIte] at hx243_0)
                            (try simp only [show (2 : Int).toNat = 2 from rfl, Nat.reduceMul, Nat.reduceEqDiff, Go.Addr.add, ↓reduceIte] at hx243_1)
                            (try simp only [show (2 : Int).toNat = 2 from rfl, Nat.reduceMul, Nat.reduceEqDiff, Go.Addr.add, ↓reduceIte] at hx243_2)
                            (try simp only [show (2 : Int).toNat = 2 from rfl, Nat.reduceMul, Nat.reduceEqDiff, Go.Addr.add, ↓reduceIte] at hx243_3)
                            have qi243 : (2 < t233.length) = True := eq_true (by omega)
                            (try rw [show ((2 : Int)).toNat = 2 from rfl] at hx243_0)
                            (try rw [show 2 * 4 = 8 from rfl] at hx243_0)
                            (try rw [show ((2 : Int)).toNat = 2 from rfl] at hx243_1)
                            (try rw [show 2 * 4 = 8 from rfl] at hx243_1)
                            (try rw [show ((2 : Int)).toNat = 2 from rfl] at hx243_2)
                            (try rw [show 2 * 4 = 8 from rfl] at hx243_2)
                            (try rw [show ((2 : Int)).toNat = 2 from rfl] at hx243_3)
                            (try rw [show 2 * 4 = 8 from rfl] at hx243_3)
                            replace p243 := eq_true p243
                            replace q243 := eq_true q243
                            have p245 : 0 ≤ (0 : Int) := (by omega)
                            have q245 : 0 < (t233.length : Int) := of_decide_eq_true (by first | (with_reducible assumption) | assumption)
                            obtain ⟨ad245, e245, hx245_0, hx245_1, hx245_2, hx245_3⟩ := at_T29 (Kd.R_reads' HO_7.out).2.2 0 p245 q245
                            obtain rfl : ad236 = ad245 := (by injection e245)
                            have qi245 : (0 < t233.length) = True := eq_true (by omega)
                            (try rw [show ((0 : Int)).toNat = 0 from rfl] at hx245_0)
                            (try rw [show 0 * 4 = 0 from rfl] at hx245_0)
                            (try rw [Addr.add_zero'] at hx245_0)
                            (try rw [show ((0 : Int)).toNat = 0 from rfl] at hx245_1)
                            (try rw [show 0 * 4 = 0 from rfl] at hx245_1)
                            (try rw [Addr.add_zero'] at hx245_1)
                            (try rw [show ((0 : Int)).toNat = 0 from rfl] at hx245_2)
                            (try rw [show 0 * 4 = 0 from rfl] at hx245_2)
                            (try rw [Addr.add_zero'] at hx245_2)
                            (try rw [show ((0 : Int)).toNat = 0 from rfl] at hx245_3)
                            (try rw [show 0 * 4 = 0 from rfl] at hx245_3)
                            (try rw [Addr.add_zero'] at hx245_3)
                            replace p245 := eq_true p245
                            replace q245 := eq_true q245
                            have p246 : 0 ≤ (2 : Int) := (by omega)
                            have q246 : 2 < (t233.length : Int) := of_decide_eq_true (by first | (with_reducible assumption) | assumption)
                            obtain ⟨ad246, e246, hx246_0, hx246_1, hx246_2, hx246_3⟩ := at_T29 (Kd.R_reads' HO_7.out).2.2 2 p246 q246
                            obtain rfl : ad236 = ad246 := (by injection e246)
                            (try simp only [show (2 : Int).toNat = 2 from rfl, Nat.reduceMul, Nat.reduceEqDiff, Go.Addr.add, ↓reduceIte] at hx246_0)
                            (try simp only [show (2 : Int).toNat = 2 from rfl, Nat.reduceMul, Nat.reduceEqDiff, Go.Addr.add, ↓reduceIte] at hx246_1)
                            (try simp only [show (2 : Int).toNat = 2 from rfl, Nat.reduceMul, Nat.reduceEqDiff, Go.Addr.add, ↓reduceIte] at hx246_2)
                            (try simp only [show (2 : Int).toNat = 2 from rfl, Nat.reduceMul, Nat.reduceEqDiff, Go.Addr.add, ↓reduceIte] at hx246_3)
                            have qi246 : (2 < t233.length) = True := eq_true (by omega)
                            (try rw [show ((2 : Int)).toNat = 2 from rfl] at hx246_0)
                            (try rw [show 2 * 4 = 8 from rfl] at hx246_0)
                            (try rw [show ((2 : Int)).toNat = 2 from rfl] at hx246_1)
                            (try rw [show 2 * 4 = 8 from rfl] at hx246_1)
                            (try rw [show ((2 : Int)).toNat = 2 from rfl] at hx246_2)
                            (try rw [show 2 * 4 = 8 from rfl] at hx246_2)
                            (try rw [show ((2 : Int)).toNat = 2 from rfl] at hx246_3)
                            (try rw [show 2 * 4 = 8 from rfl] at hx246_3)
                            replace p246 := eq_true p246
                            replace q246 := eq_true q246
                            refine start_ (n := 22) (S := fun w' => w'.cell? ⟨ad236.block, ad236.off + 4, none⟩ = some (.int .i64 ((rd_T29 t233 1).f0)) ∧ w'.cell? ⟨ad236.block, ad236.off + 4 + 1, none⟩ = some (.int .i64 ((rd_T29 t233 1).f1)) ∧ w'.cell? ⟨ad236.block, ad236.off + 4 + 2, none⟩ = some (.int .i64 ((rd_T29 t233 1).f2)) ∧ w'.cell? ⟨ad236.block, ad236.off + 4 + 3, none⟩ = some (.string ((rd_T29 t233 1).f3)) ∧ w'.cell? ⟨ad236.block, ad236.off + 8, none⟩ = some (.int .i64 ((rd_T29 t233 2).f0)) ∧ w'.cell? ⟨ad236.block, ad236.off + 8 + 1, none⟩ = some (.int .i64 ((rd_T29 t233 2).f1)) ∧ w'.cell? ⟨ad236.block, ad236.off + 8 + 2, none⟩ = some (.int .i64 ((rd_T29 t233 2).f2)) ∧ w'.cell? ⟨ad236.block, ad236.off + 8 + 3, none⟩ = some (.string ((rd_T29 t233 2).f3)) ∧ w'.cell? ad236 = some (.int .i64 ((rd_T29 t233 0).f0)) ∧ w'.cell? ⟨ad236.block, ad236.off + 1, none⟩ = some (.int .i64 ((rd_T29 t233 0).f1)) ∧ w'.cell? ⟨ad236.block, ad236.off + 2, none⟩ = some (.int .i64 ((rd_T29 t233 0).f2)) ∧ w'.cell? ⟨ad236.block, ad236.off + 3, none⟩ = some (.string ((rd_T29 t233 0).f3)) ∧ w'.cell? ⟨ad236.block, ad236.off + 8, none⟩ = some (.int .i64 ((rd_T29 t233 2).f0)) ∧ w'.cell? ⟨ad236.block, ad236.off + 8 + 1, none⟩ = some (.int .i64 ((rd_T29 t233 2).f1)) ∧ w'.cell? ⟨ad236.block, ad236.off + 8 + 2, none⟩ = some (.int .i64 ((rd_T29 t233 2).f2)) ∧ w'.cell? ⟨ad236.block, ad236.off + 8 + 3, none⟩ = some (.string ((rd_T29 t233 2).f3))) (ds := []) #[false, false, false, false, false, false, false, false, false, false, false, false, false, false, false, false, false, false, false, false, false, false] (by kernel_rfl) rfl rfl ⟨hx242_0, hx242_1, hx242_2, hx242_3, hx243_0, hx243_1, hx243_2, hx243_3, hx245_0, hx245_1, hx245_2, hx245_3, hx246_0, hx246_1, hx246_2, hx246_3⟩ (fun hHeld => ?_); refine with_tabW computuslaw20_PrecedenceTotal.tab9 computuslaw20_PrecedenceTotal.bits9 (fun HT_ HW_ => ?_)
                            generalize wc.drew = w59 at HO_7 BK226 BK227 BK228 HB hx242_0 hx242_1 hx242_2 hx242_3 hx243_0 hx243_1 hx243_2 hx243_3 hx245_0 hx245_1 hx245_2 hx245_3 hx246_0 hx246_1 hx246_2 hx246_3 hHeld ⊢
                            refine pure_ (i := 0) (N := some 65) (v := ?_) (a' := ?_) #[true, false, false, false, false, false, false, false, false, false, false, false, false, false, false, false, false, false, false, false, false, false] rfl rfl (any_of HT_.out (by kernel_rfl)) (fun _ _ _ h => h) (Or.inl ⟨by rfl, ?_⟩) ?_ ?_
                            rotate_left
                            · intro w'
                              go_simp
                              with_reducible rfl
                            rotate_left
                            · simp only [Act.put, List.setIfInBounds_toArray, List.set_cons_zero, List.set_cons_succ, i64_w, i32_w]
                              rfl
                            refine pure_ (i := 1) (N := some 66) (v := ?_) (a' := ?_) #[true, true, false, false, false, false, false, false, false, false, false, false, false, false, false, false, false, false, false, false, false, false] rfl rfl (any_of HT_.out (by kernel_rfl)) (fun _ _ _ h => h) (Or.inl ⟨by rfl, ?_⟩) ?_ ?_
                            rotate_left
                            · intro w'
                              go_simp
                              with_reducible rfl
                            rotate_left
                            · simp only [Act.put, List.setIfInBounds_toArray, List.set_cons_zero, List.set_cons_succ, i64_w, i32_w]
                              rfl
                            refine pure_ (i := 2) (N := some 67) (v := ?_) (a' := ?_) #[true, true, true, false, false, false, false, false, false, false, false, false, false, false, false, false, false, false, false, false, false, false] rfl rfl (any_of HT_.out (by kernel_rfl)) (fun _ _ _ h => h) (Or.inl ⟨by rfl, ?_⟩) ?_ ?_
                            rotate_left
                            · intro w'
                              go_simp
                              with_reducible rfl
                            rotate_left
                            · simp only [Act.put, List.setIfInBounds_toArray, List.set_cons_zero, List.set_cons_succ, i64_w, i32_w]
                              rfl
                            refine pure_ (i := 3) (N := some 68) (v := ?_) (a' := ?_) #[true, true, true, true, false, false, false, false, false, false, false, false, false, false, false, false, false, false, false, false, false, false] rfl rfl (any_of HT_.out (by kernel_rfl)) (fun _ _ _ h => h) (Or.inl ⟨by rfl, ?_⟩) ?_ ?_
                            rotate_left
                            · intro w'
                              go_simp
                              with_reducible rfl
                            rotate_left
                            · simp only [Act.put, List.setIfInBounds_toArray, List.set_cons_zero, List.set_cons_succ, i64_w, i32_w]
                              rfl
                            refine pure_ (i := 4) (N := some 69) (v := ?_) (a' := ?_) #[true, true, true, true, true, false, false, false, false, false, false, false, false, false, false, false, false, false, false, false, false, false] rfl rfl (any_of HT_.out (by kernel_rfl)) (fun _ _ _ h => h) (Or.inl ⟨by rfl, ?_⟩) ?_ ?_
                            rotate_left
                            · intro w'
                              go_simp
                              with_reducible rfl
                            rotate_left
                            · simp only [Act.put, List.setIfInBounds_toArray, List.set_cons_zero, List.set_cons_succ, i64_w, i32_w]
                              rfl
                            refine pure_ (i := 6) (N := some 71) (v := ?_) (a' := ?_) #[true, true, true, true, true, false, true, false, false, false, false, false, false, false, false, false, false, false, false, false, false, false] rfl rfl (any_of HT_.out (by kernel_rfl)) (fun _ _ _ h => h) (Or.inl ⟨by rfl, ?_⟩) ?_ ?_
                            rotate_left
                            · intro w'
                              go_simp
                              with_reducible rfl
                            rotate_left
                            · simp only [Act.put, List.setIfInBounds_toArray, List.set_cons_zero, List.set_cons_succ, i64_w, i32_w]
                              rfl
                            refine pure_ (i := 7) (N := some 72) (v := ?_) (a' := ?_) #[true, true, true, true, true, false, true, true, false, false, false, false, false, false, false, false, false, false, false, false, false, false] rfl rfl (any_of HT_.out (by kernel_rfl)) (fun _ _ _ h => h) (Or.inl ⟨by rfl, ?_⟩) ?_ ?_
                            rotate_left
                            · intro w'
                              go_simp
                              with_reducible rfl
                            rotate_left
                            · simp only [Act.put, List.setIfInBounds_toArray, List.set_cons_zero, List.set_cons_succ, i64_w, i32_w]
                              rfl
                            refine take_ (i := 5) (N := some 70) (v := ?_) (a' := ?_) #[true, true, true, true, true, true, true, true, false, false, false, false, false, false, false, false, false, false, false, false, false, false] rfl rfl (take_ofW HT_.out HW_.out (by kernel_rfl)) (fun _ _ _ h => h) (Or.inl ⟨by rfl, ?_⟩) hHeld ?_ ?_
                            rotate_left
                            · rintro w' ⟨s0, s1, s2, s3, s4, s5, s6, s7, s8, s9, s10, s11, s12, s13, s14, s15⟩
                              go_simp
                              with_reducible rfl
                            rotate_left
                            · simp only [Act.put, List.setIfInBounds_toArray, List.set_cons_zero, List.set_cons_succ, i64_w, i32_w]
                              rfl
                            refine take_ (i := 8) (N := some 73) (v := ?_) (a' := ?_) #[true, true, true, true, true, true, true, true, true, false, false, false, false, false, false, false, false, false, false, false, false, false] rfl rfl (take_ofW HT_.out HW_.out (by kernel_rfl)) (fun _ _ _ h => h) (Or.inl ⟨by rfl, ?_⟩) hHeld ?_ ?_
                            rotate_left
                            · rintro w' ⟨s0, s1, s2, s3, s4, s5, s6, s7, s8, s9, s10, s11, s12, s13, s14, s15⟩
                              go_simp
                              with_reducible rfl
                            rotate_left
                            · simp only [Act.put, List.setIfInBounds_toArray, List.set_cons_zero, List.set_cons_succ, i64_w, i32_w]
                              rfl
                            refine one_ (i := 9) (N := some 74) #[true, true, true, true, true, true, true, true, true, true, false, false, false, false, false, false, false, false, false, false, false, false] rfl rfl (one_of HT_.out (by kernel_rfl)) (by decide) (fun K hK => ?_)
                            refine goes_ Try.func14 (by kernel_rfl) rfl #[.agg #[.int .i64 ((rd_T29 t233 1).f0), .int .i64 ((rd_T29 t233 1).f1), .int .i64 ((rd_T29 t233 1).f2), .string ((rd_T29 t233 1).f3)], .agg #[.int .i64 ((rd_T29 t233 2).f0), .int .i64 ((rd_T29 t233 2).f1), .int .i64 ((rd_T29 t233 2).f2), .string ((rd_T29 t233 2).f3)]] (by rfl) rfl rfl (by (try simp only [List.map_toArray, List.map_cons, List.map_nil]); first | done | rfl | (simp only [List.length_drop, List.length_take]; rfl)) ?_
                            with_reducible refine (precedence_Precedes.calls ((rd_T29 t233 1).f0) ((rd_T29 t233 1).f1) ((rd_T29 t233 1).f2) ((rd_T29 t233 1).f3) ((rd_T29 t233 2).f0) ((rd_T29 t233 2).f1) ((rd_T29 t233 2).f2) ((rd_T29 t233 2).f3) true _ A55.out).mono ?_
                            rintro e w60 ⟨rfl, hb⟩
                            have HS0_ := (hb.cell (World.block_lt_of_cell? _ _ (hHeld.1))).trans (hHeld.1)
                            have HS1_ := (hb.cell (World.block_lt_of_cell? _ _ (hHeld.2.1))).trans (hHeld.2.1)
                            have HS2_ := (hb.cell (World.block_lt_of_cell? _ _ (hHeld.2.2.1))).trans (hHeld.2.2.1)
                            have HS3_ := (hb.cell (World.block_lt_of_cell? _ _ (hHeld.2.2.2.1))).trans (hHeld.2.2.2.1)
                            have HS4_ := (hb.cell (World.block_lt_of_cell? _ _ (hHeld.2.2.2.2.1))).trans (hHeld.2.2.2.2.1)
                            have HS5_ := (hb.cell (World.block_lt_of_cell? _ _ (hHeld.2.2.2.2.2.1))).trans (hHeld.2.2.2.2.2.1)
                            have HS6_ := (hb.cell (World.block_lt_of_cell? _ _ (hHeld.2.2.2.2.2.2.1))).trans (hHeld.2.2.2.2.2.2.1)
                            have HS7_ := (hb.cell (World.block_lt_of_cell? _ _ (hHeld.2.2.2.2.2.2.2.1))).trans (hHeld.2.2.2.2.2.2.2.1)
                            have HS8_ := (hb.cell (World.block_lt_of_cell? _ _ (hHeld.2.2.2.2.2.2.2.2.1))).trans (hHeld.2.2.2.2.2.2.2.2.1)
                            have HS9_ := (hb.cell (World.block_lt_of_cell? _ _ (hHeld.2.2.2.2.2.2.2.2.2.1))).trans (hHeld.2.2.2.2.2.2.2.2.2.1)
                            have HS10_ := (hb.cell (World.block_lt_of_cell? _ _ (hHeld.2.2.2.2.2.2.2.2.2.2.1))).trans (hHeld.2.2.2.2.2.2.2.2.2.2.1)
                            have HS11_ := (hb.cell (World.block_lt_of_cell? _ _ (hHeld.2.2.2.2.2.2.2.2.2.2.2.1))).trans (hHeld.2.2.2.2.2.2.2.2.2.2.2.1)
                            have HS12_ := (hb.cell (World.block_lt_of_cell? _ _ (hHeld.2.2.2.2.2.2.2.2.2.2.2.2.1))).trans (hHeld.2.2.2.2.2.2.2.2.2.2.2.2.1)
                            have HS13_ := (hb.cell (World.block_lt_of_cell? _ _ (hHeld.2.2.2.2.2.2.2.2.2.2.2.2.2.1))).trans (hHeld.2.2.2.2.2.2.2.2.2.2.2.2.2.1)
                            have HS14_ := (hb.cell (World.block_lt_of_cell? _ _ (hHeld.2.2.2.2.2.2.2.2.2.2.2.2.2.2.1))).trans (hHeld.2.2.2.2.2.2.2.2.2.2.2.2.2.2.1)
                            have HS15_ := (hb.cell (World.block_lt_of_cell? _ _ (hHeld.2.2.2.2.2.2.2.2.2.2.2.2.2.2.2))).trans (hHeld.2.2.2.2.2.2.2.2.2.2.2.2.2.2.2)
                            refine ⟨_, rfl, ?_⟩
                            have n0_ := Aside0.mk (Kd.R_below (by (with_reducible repeat (first | apply Kd.R_alloc | apply Kd.R_drewN | apply Kd.R_drew)); exact HO_7.out) hb)
                            have n1_ := Aside0.mk (blk_below (g := gb226) (o := .cells #[.int .i64 a0_0, .int .i64 a0_1, .int .i64 a0_2, .string a0_3] 24 (0, 0)) (by (with_reducible repeat (first | refine blk_drewN ?_ _ | refine blk_drew ?_ | refine blk_alloc ?_ _)); exact BK226.out) hb)
                            have n2_ := Aside0.mk (blk_below (g := gb227) (o := .cells #[.int .i64 a1_0, .int .i64 a1_1, .int .i64 a1_2, .string a1_3] 24 (0, 0)) (by (with_reducible repeat (first | refine blk_drewN ?_ _ | refine blk_drew ?_ | refine blk_alloc ?_ _)); exact BK227.out) hb)
                            have n3_ := Aside0.mk (blk_below (g := gb228) (o := .cells #[.int .i64 a2_0, .int .i64 a2_1, .int .i64 a2_2, .string a2_3] 24 (0, 0)) (by (with_reducible repeat (first | refine blk_drewN ?_ _ | refine blk_drew ?_ | refine blk_alloc ?_ _)); exact BK228.out) hb)
                            have n4_ := Aside0.mk (below_step (by repeat (first | (with_reducible first | exact HB.out | apply below_alloc | apply pw_below_drewN | apply below_drew1 | refine below_set ?_ GE226.out | refine below_set ?_ GE227.out | refine below_set ?_ GE228.out) | exact HB.out)) hb)
                            clear HO_7
                            clear BK226
                            clear BK227
                            clear BK228
                            clear HB
                            have HO_7 := n0_
                            have BK226 := n1_
                            have BK227 := n2_
                            have BK228 := n3_
                            have HB := n4_
                            clear n0_ n1_ n2_ n3_ n4_
                            (try clear hb)
                            (try clear hb2)
                            (try clear hk)
                            (try clear hi)
                            refine hK.out _ _ ⟨HS0_, HS1_, HS2_, HS3_, HS4_, HS5_, HS6_, HS7_, HS8_, HS9_, HS10_, HS11_, HS12_, HS13_, HS14_, HS15_⟩ (fun hHeld => ?_)
                            clear hK K
                            refine norm_ (a' := ?_) ?_ ?_
                            rotate_left
                            · show Act.put _ (some 74) _ = _
                              simp only [Act.put, List.setIfInBounds_toArray, List.set_cons_zero, List.set_cons_succ, i64_w, i32_w]
                              rfl
                            refine pure_ (i := 10) (N := some 75) (v := ?_) (a' := ?_) #[true, true, true, true, true, true, true, true, true, true, true, false, false, false, false, false, false, false, false, false, false, false] rfl rfl (any_of HT_.out (by kernel_rfl)) (fun _ _ _ h => h) (Or.inl ⟨by rfl, ?_⟩) ?_ ?_
                            rotate_left
                            · intro w'
                              go_simp
                              with_reducible rfl
                            rotate_left
                            · simp only [Act.put, List.setIfInBounds_toArray, List.set_cons_zero, List.set_cons_succ, i64_w, i32_w]
                              rfl
                            refine pure_ (i := 11) (N := some 76) (v := ?_) (a' := ?_) #[true, true, true, true, true, true, true, true, true, true, true, true, false, false, false, false, false, false, false, false, false, false] rfl rfl (any_of HT_.out (by kernel_rfl)) (fun _ _ _ h => h) (Or.inl ⟨by rfl, ?_⟩) ?_ ?_
                            rotate_left
                            · intro w'
                              go_simp
                              with_reducible rfl
                            rotate_left
                            · simp only [Act.put, List.setIfInBounds_toArray, List.set_cons_zero, List.set_cons_succ, i64_w, i32_w]
                              rfl
                            refine pure_ (i := 12) (N := some 77) (v := ?_) (a' := ?_) #[true, true, true, true, true, true, true, true, true, true, true, true, true, false, false, false, false, false, false, false, false, false] rfl rfl (any_of HT_.out (by kernel_rfl)) (fun _ _ _ h => h) (Or.inl ⟨by rfl, ?_⟩) ?_ ?_
                            rotate_left
                            · intro w'
                              go_simp
                              with_reducible rfl
                            rotate_left
                            · simp only [Act.put, List.setIfInBounds_toArray, List.set_cons_zero, List.set_cons_succ, i64_w, i32_w]
                              rfl
                            refine pure_ (i := 13) (N := some 78) (v := ?_) (a' := ?_) #[true, true, true, true, true, true, true, true, true, true, true, true, true, true, false, false, false, false, false, false, false, false] rfl rfl (any_of HT_.out (by kernel_rfl)) (fun _ _ _ h => h) (Or.inl ⟨by rfl, ?_⟩) ?_ ?_
                            rotate_left
                            · intro w'
                              go_simp
                              with_reducible rfl
                            rotate_left
                            · simp only [Act.put, List.setIfInBounds_toArray, List.set_cons_zero, List.set_cons_succ, i64_w, i32_w]
                              rfl
                            refine pure_ (i := 14) (N := some 79) (v := ?_) (a' := ?_) #[true, true, true, true, true, true, true, true, true, true, true, true, true, true, true, false, false, false, false, false, false, false] rfl rfl (any_of HT_.out (by kernel_rfl)) (fun _ _ _ h => h) (Or.inl ⟨by rfl, ?_⟩) ?_ ?_
                            rotate_left
                            · intro w'
                              go_simp
                              with_reducible rfl
                            rotate_left
                            · simp only [Act.put, List.setIfInBounds_toArray, List.set_cons_zero, List.set_cons_succ, i64_w, i32_w]
                              rfl
                            refine pure_ (i := 16) (N := some 81) (v := ?_) (a' := ?_) #[true, true, true, true, true, true, true, true, true, true, true, true, true, true, true, false, true, false, false, false, false, false] rfl rfl (any_of HT_.out (by kernel_rfl)) (fun _ _ _ h => h) (Or.inl ⟨by rfl, ?_⟩) ?_ ?_
                            rotate_left
                            · intro w'
                              go_simp
                              with_reducible rfl
                            rotate_left
                            · simp only [Act.put, List.setIfInBounds_toArray, List.set_cons_zero, List.set_cons_succ, i64_w, i32_w]
                              rfl
                            refine pure_ (i := 17) (N := some 82) (v := ?_) (a' := ?_) #[true, true, true, true, true, true, true, true, true, true, true, true, true, true, true, false, true, true, false, false, false, false] rfl rfl (any_of HT_.out (by kernel_rfl)) (fun _ _ _ h => h) (Or.inl ⟨by rfl, ?_⟩) ?_ ?_
                            rotate_left
                            · intro w'
                              go_simp
                              with_reducible rfl
                            rotate_left
                            · simp only [Act.put, List.setIfInBounds_toArray, List.set_cons_zero, List.set_cons_succ, i64_w, i32_w]
                              rfl
                            refine take_ (i := 15) (N := some 80) (v := ?_) (a' := ?_) #[true, true, true, true, true, true, true, true, true, true, true, true, true, true, true, true, true, true, false, false, false, false] rfl rfl (take_ofW HT_.out HW_.out (by kernel_rfl)) (fun _ _ _ h => h) (Or.inl ⟨by rfl, ?_⟩) hHeld ?_ ?_
                            rotate_left
                            · rintro w' ⟨s0, s1, s2, s3, s4, s5, s6, s7, s8, s9, s10, s11, s12, s13, s14, s15⟩
                              go_simp
                              with_reducible rfl
                            rotate_left
                            · simp only [Act.put, List.setIfInBounds_toArray, List.set_cons_zero, List.set_cons_succ, i64_w, i32_w]
                              rfl
                            refine take_ (i := 18) (N := some 83) (v := ?_) (a' := ?_) #[true, true, true, true, true, true, true, true, true, true, true, true, true, true, true, true, true, true, true, false, false, false] rfl rfl (take_ofW HT_.out HW_.out (by kernel_rfl)) (fun _ _ _ h => h) (Or.inl ⟨by rfl, ?_⟩) hHeld ?_ ?_
                            rotate_left
                            · rintro w' ⟨s0, s1, s2, s3, s4, s5, s6, s7, s8, s9, s10, s11, s12, s13, s14, s15⟩
                              go_simp
                              with_reducible rfl
                            rotate_left
                            · simp only [Act.put, List.setIfInBounds_toArray, List.set_cons_zero, List.set_cons_succ, i64_w, i32_w]
                              rfl
                            refine one_ (i := 19) (N := some 84) #[true, true, true, true, true, true, true, true, true, true, true, true, true, true, true, true, true, true, true, true, false, false] rfl rfl (one_of HT_.out (by kernel_rfl)) (by decide) (fun K hK => ?_)
                            refine goes_ Try.func14 (by kernel_rfl) rfl #[.agg #[.int .i64 ((rd_T29 t233 0).f0), .int .i64 ((rd_T29 t233 0).f1), .int .i64 ((rd_T29 t233 0).f2), .string ((rd_T29 t233 0).f3)], .agg #[.int .i64 ((rd_T29 t233 2).f0), .int .i64 ((rd_T29 t233 2).f1), .int .i64 ((rd_T29 t233 2).f2), .string ((rd_T29 t233 2).f3)]] (by rfl) rfl rfl (by (try simp only [List.map_toArray, List.map_cons, List.map_nil]); first | done | rfl | (simp only [List.length_drop, List.length_take]; rfl)) ?_
                            with_reducible refine (precedence_Precedes.calls ((rd_T29 t233 0).f0) ((rd_T29 t233 0).f1) ((rd_T29 t233 0).f2) ((rd_T29 t233 0).f3) ((rd_T29 t233 2).f0) ((rd_T29 t233 2).f1) ((rd_T29 t233 2).f2) ((rd_T29 t233 2).f3) t247 _ A58.out).mono ?_
                            rintro e w61 ⟨rfl, hb⟩
                            have HS0_ := (hb.cell (World.block_lt_of_cell? _ _ (hHeld.1))).trans (hHeld.1)
                            have HS1_ := (hb.cell (World.block_lt_of_cell? _ _ (hHeld.2.1))).trans (hHeld.2.1)
                            have HS2_ := (hb.cell (World.block_lt_of_cell? _ _ (hHeld.2.2.1))).trans (hHeld.2.2.1)
                            have HS3_ := (hb.cell (World.block_lt_of_cell? _ _ (hHeld.2.2.2.1))).trans (hHeld.2.2.2.1)
                            have HS4_ := (hb.cell (World.block_lt_of_cell? _ _ (hHeld.2.2.2.2.1))).trans (hHeld.2.2.2.2.1)
                            have HS5_ := (hb.cell (World.block_lt_of_cell? _ _ (hHeld.2.2.2.2.2.1))).trans (hHeld.2.2.2.2.2.1)
                            have HS6_ := (hb.cell (World.block_lt_of_cell? _ _ (hHeld.2.2.2.2.2.2.1))).trans (hHeld.2.2.2.2.2.2.1)
                            have HS7_ := (hb.cell (World.block_lt_of_cell? _ _ (hHeld.2.2.2.2.2.2.2.1))).trans (hHeld.2.2.2.2.2.2.2.1)
                            have HS8_ := (hb.cell (World.block_lt_of_cell? _ _ (hHeld.2.2.2.2.2.2.2.2.1))).trans (hHeld.2.2.2.2.2.2.2.2.1)
                            have HS9_ := (hb.cell (World.block_lt_of_cell? _ _ (hHeld.2.2.2.2.2.2.2.2.2.1))).trans (hHeld.2.2.2.2.2.2.2.2.2.1)
                            have HS10_ := (hb.cell (World.block_lt_of_cell? _ _ (hHeld.2.2.2.2.2.2.2.2.2.2.1))).trans (hHeld.2.2.2.2.2.2.2.2.2.2.1)
                            have HS11_ := (hb.cell (World.block_lt_of_cell? _ _ (hHeld.2.2.2.2.2.2.2.2.2.2.2.1))).trans (hHeld.2.2.2.2.2.2.2.2.2.2.2.1)
                            have HS12_ := (hb.cell (World.block_lt_of_cell? _ _ (hHeld.2.2.2.2.2.2.2.2.2.2.2.2.1))).trans (hHeld.2.2.2.2.2.2.2.2.2.2.2.2.1)
                            have HS13_ := (hb.cell (World.block_lt_of_cell? _ _ (hHeld.2.2.2.2.2.2.2.2.2.2.2.2.2.1))).trans (hHeld.2.2.2.2.2.2.2.2.2.2.2.2.2.1)
                            have HS14_ := (hb.cell (World.block_lt_of_cell? _ _ (hHeld.2.2.2.2.2.2.2.2.2.2.2.2.2.2.1))).trans (hHeld.2.2.2.2.2.2.2.2.2.2.2.2.2.2.1)
                            have HS15_ := (hb.cell (World.block_lt_of_cell? _ _ (hHeld.2.2.2.2.2.2.2.2.2.2.2.2.2.2.2))).trans (hHeld.2.2.2.2.2.2.2.2.2.2.2.2.2.2.2)
                            refine ⟨_, rfl, ?_⟩
                            have n0_ := Aside0.mk (Kd.R_below (by (with_reducible repeat (first | apply Kd.R_alloc | apply Kd.R_drewN | apply Kd.R_drew)); exact HO_7.out) hb)
                            have n1_ := Aside0.mk (blk_below (g := gb226) (o := .cells #[.int .i64 a0_0, .int .i64 a0_1, .int .i64 a0_2, .string a0_3] 24 (0, 0)) (by (with_reducible repeat (first | refine blk_drewN ?_ _ | refine blk_drew ?_ | refine blk_alloc ?_ _)); exact BK226.out) hb)
                            have n2_ := Aside0.mk (blk_below (g := gb227) (o := .cells #[.int .i64 a1_0, .int .i64 a1_1, .int .i64 a1_2, .string a1_3] 24 (0, 0)) (by (with_reducible repeat (first | refine blk_drewN ?_ _ | refine blk_drew ?_ | refine blk_alloc ?_ _)); exact BK227.out) hb)
                            have n3_ := Aside0.mk (blk_below (g := gb228) (o := .cells #[.int .i64 a2_0, .int .i64 a2_1, .int .i64 a2_2, .string a2_3] 24 (0, 0)) (by (with_reducible repeat (first | refine blk_drewN ?_ _ | refine blk_drew ?_ | refine blk_alloc ?_ _)); exact BK228.out) hb)
                            have n4_ := Aside0.mk (below_step (by repeat (first | (with_reducible first | exact HB.out | apply below_alloc | apply pw_below_drewN | apply below_drew1 | refine below_set ?_ GE226.out | refine below_set ?_ GE227.out | refine below_set ?_ GE228.out) | exact HB.out)) hb)
                            clear HO_7
                            clear BK226
                            clear BK227
                            clear BK228
                            clear HB
                            have HO_7 := n0_
                            have BK226 := n1_
                            have BK227 := n2_
                            have BK228 := n3_
                            have HB := n4_
                            clear n0_ n1_ n2_ n3_ n4_
                            (try clear hb)
                            (try clear hb2)
                            (try clear hk)
                            (try clear hi)
                            refine hK.out _ _ ⟨HS0_, HS1_, HS2_, HS3_, HS4_, HS5_, HS6_, HS7_, HS8_, HS9_, HS10_, HS11_, HS12_, HS13_, HS14_, HS15_⟩ (fun hHeld => ?_)
                            clear hK K
                            refine norm_ (a' := ?_) ?_ ?_
                            rotate_left
                            · show Act.put _ (some 84) _ = _
                              simp only [Act.put, List.setIfInBounds_toArray, List.set_cons_zero, List.set_cons_succ, i64_w, i32_w]
                              rfl
                            refine pure_ (i := 20) (N := some 85) (v := ?_) (a' := ?_) #[true, true, true, true, true, true, true, true, true, true, true, true, true, true, true, true, true, true, true, true, true, false] rfl rfl (any_of HT_.out (by kernel_rfl)) (fun _ _ _ h => h) (Or.inl ⟨by rfl, ?_⟩) ?_ ?_
                            rotate_left
                            · intro w'
                              go_simp
                              with_reducible rfl
                            rotate_left
                            · simp only [Act.put, List.setIfInBounds_toArray, List.set_cons_zero, List.set_cons_succ, i64_w, i32_w]
                              rfl
                            refine pure_ (i := 21) (N := some 6) (v := ?_) (a' := ?_) #[true, true, true, true, true, true, true, true, true, true, true, true, true, true, true, true, true, true, true, true, true, true] rfl rfl (any_of HT_.out (by kernel_rfl)) (fun _ _ _ h => h) (Or.inl ⟨by rfl, ?_⟩) ?_ ?_
                            rotate_left
                            · intro w'
                              go_simp
                              with_reducible rfl
                            rotate_left
                            · simp only [Act.put, List.setIfInBounds_toArray, List.set_cons_zero, List.set_cons_succ, i64_w, i32_w]
                              rfl
                            refine done_ (done_of HT_.out (by kernel_rfl)) ?_
                            try go_wp2
                            go_ret
                            exact ⟨by first | rfl | (simp [errW_none, errW_some] <;> rfl) | (simp [*, errW_none, errW_some] <;> rfl), by repeat (first | (with_reducible first | exact HB.out | apply below_alloc | apply pw_below_drewN | apply below_drew1 | refine below_set ?_ GE226.out | refine below_set ?_ GE227.out | refine below_set ?_ GE228.out) | exact HB.out)⟩
                          · rw [if_neg c57] at H
                            exact absurd H (by simp)
                        · replace c56 := Bool.eq_false_iff.mpr c56
                          subst c56
                          have H1 : (some true) = some r := by rw [if_neg (show ¬ (false = true) by decide)] at H; exact H
                          clear H
                          have H := H1
                          clear H1
                          obtain rfl := Option.some.inj H
                          try go_wp2
                          have n0_ := Aside0.mk (Kd.R_drew HO_7.out)
                          have n1_ := Aside0.mk (blk_drew BK226.out)
                          have n2_ := Aside0.mk (blk_drew BK227.out)
                          have n3_ := Aside0.mk (blk_drew BK228.out)
                          have n4_ := Aside0.mk (below_drew1 HB.out)
                          clear HO_7
                          clear BK226
                          clear BK227
                          clear BK228
                          clear HB
                          have HO_7 := n0_
                          have BK226 := n1_
                          have BK227 := n2_
                          have BK228 := n3_
                          have HB := n4_
                          clear n0_ n1_ n2_ n3_ n4_
                          have p242 : 0 ≤ (1 : Int) := (by omega)
                          have q242 : 1 < (t233.length : Int) := of_decide_eq_true (by first | (with_reducible assumption) | assumption)
                          obtain ⟨ad242, e242, hx242_0, hx242_1, hx242_2, hx242_3⟩ := at_T29 (Kd.R_reads' HO_7.out).2.2 1 p242 q242
                          obtain rfl : ad236 = ad242 := (by injection e242)
                          (try simp only [show (1 : Int).toNat = 1 from rfl, Nat.reduceMul, Nat.reduceEqDiff, Go.Addr.add, ↓reduceIte] at hx242_0)
                          (try simp only [show (1 : Int).toNat = 1 from rfl, Nat.reduceMul, Nat.reduceEqDiff, Go.Addr.add, ↓reduceIte] at hx242_1)
                          (try simp only [show (1 : Int).toNat = 1 from rfl, Nat.reduceMul, Nat.reduceEqDiff, Go.Addr.add, ↓reduceIte] at hx242_2)
                          (try simp only [show (1 : Int).toNat = 1 from rfl, Nat.reduceMul, Nat.reduceEqDiff, Go.Addr.add, ↓reduceIte] at hx242_3)
                          have qi242 : (1 < t233.length) = True := eq_true (by omega)
                          (try rw [show ((1 : Int)).toNat = 1 from rfl] at hx242_0)
                          (try rw [show 1 * 4 = 4 from rfl] at hx242_0)
                          (try rw [show ((1 : Int)).toNat = 1 from rfl] at hx242_1)
                          (try rw [show 1 * 4 = 4 from rfl] at hx242_1)
                          (try rw [show ((1 : Int)).toNat = 1 from rfl] at hx242_2)
                          (try rw [show 1 * 4 = 4 from rfl] at hx242_2)
                          (try rw [show ((1 : Int)).toNat = 1 from rfl] at hx242_3)
                          (try rw [show 1 * 4 = 4 from rfl] at hx242_3)
                          replace p242 := eq_true p242
                          replace q242 := eq_true q242
                          have p243 : 0 ≤ (2 : Int) := (by omega)
                          have q243 : 2 < (t233.length : Int) := of_decide_eq_true (by first | (with_reducible assumption) | assumption)
                          obtain ⟨ad243, e243, hx243_0, hx243_1, hx243_2, hx243_3⟩ := at_T29 (Kd.R_reads' HO_7.out).2.2 2 p243 q243
                          obtain rfl : ad236 = ad243 := (by injection e243)
                          (try simp only [show (2 : Int).toNat = 2 from rfl, Nat.reduceMul, Nat.reduceEqDiff, Go.Addr.add, ↓reduceIte] at hx243_0)
                          (try simp only [show (2 : Int).toNat = 2 from rfl, Nat.reduceMul, Nat.reduceEqDiff, Go.Addr.add, ↓reduceIte] at hx243_1)
                          (try simp only [show (2 : Int).toNat = 2 from rfl, Nat.reduceMul, Nat.reduceEqDiff, Go.Addr.add, ↓reduceIte] at hx243_2)
                          (try simp only [show (2 : Int).toNat = 2 from rfl, Nat.reduceMul, Nat.reduceEqDiff, Go.Addr.add, ↓reduceIte] at hx243_3)
                          have qi243 : (2 < t233.length) = True := eq_true (by omega)
                          (try rw [show ((2 : Int)).toNat = 2 from rfl] at hx243_0)
                          (try rw [show 2 * 4 = 8 from rfl] at hx243_0)
                          (try rw [show ((2 : Int)).toNat = 2 from rfl] at hx243_1)
                          (try rw [show 2 * 4 = 8 from rfl] at hx243_1)
                          (try rw [show ((2 : Int)).toNat = 2 from rfl] at hx243_2)
                          (try rw [show 2 * 4 = 8 from rfl] at hx243_2)
                          (try rw [show ((2 : Int)).toNat = 2 from rfl] at hx243_3)
                          (try rw [show 2 * 4 = 8 from rfl] at hx243_3)
                          replace p243 := eq_true p243
                          replace q243 := eq_true q243
                          refine start_ (n := 22) (S := fun w' => w'.cell? ⟨ad236.block, ad236.off + 4, none⟩ = some (.int .i64 ((rd_T29 t233 1).f0)) ∧ w'.cell? ⟨ad236.block, ad236.off + 4 + 1, none⟩ = some (.int .i64 ((rd_T29 t233 1).f1)) ∧ w'.cell? ⟨ad236.block, ad236.off + 4 + 2, none⟩ = some (.int .i64 ((rd_T29 t233 1).f2)) ∧ w'.cell? ⟨ad236.block, ad236.off + 4 + 3, none⟩ = some (.string ((rd_T29 t233 1).f3)) ∧ w'.cell? ⟨ad236.block, ad236.off + 8, none⟩ = some (.int .i64 ((rd_T29 t233 2).f0)) ∧ w'.cell? ⟨ad236.block, ad236.off + 8 + 1, none⟩ = some (.int .i64 ((rd_T29 t233 2).f1)) ∧ w'.cell? ⟨ad236.block, ad236.off + 8 + 2, none⟩ = some (.int .i64 ((rd_T29 t233 2).f2)) ∧ w'.cell? ⟨ad236.block, ad236.off + 8 + 3, none⟩ = some (.string ((rd_T29 t233 2).f3))) (ds := []) #[false, false, false, false, false, false, false, false, false, false, false, false, false, false, false, false, false, false, false, false, false, false] (by kernel_rfl) rfl rfl ⟨hx242_0, hx242_1, hx242_2, hx242_3, hx243_0, hx243_1, hx243_2, hx243_3⟩ (fun hHeld => ?_); refine with_tabW computuslaw20_PrecedenceTotal.tab9 computuslaw20_PrecedenceTotal.bits9 (fun HT_ HW_ => ?_)
                          generalize wc.drew = w62 at HO_7 BK226 BK227 BK228 HB hx242_0 hx242_1 hx242_2 hx242_3 hx243_0 hx243_1 hx243_2 hx243_3 hHeld ⊢
                          refine pure_ (i := 0) (N := some 65) (v := ?_) (a' := ?_) #[true, false, false, false, false, false, false, false, false, false, false, false, false, false, false, false, false, false, false, false, false, false] rfl rfl (any_of HT_.out (by kernel_rfl)) (fun _ _ _ h => h) (Or.inl ⟨by rfl, ?_⟩) ?_ ?_
                          rotate_left
                          · intro w'
                            go_simp
                            with_reducible rfl
                          rotate_left
                          · simp only [Act.put, List.setIfInBounds_toArray, List.set_cons_zero, List.set_cons_succ, i64_w, i32_w]
                            rfl
                          refine pure_ (i := 1) (N := some 66) (v := ?_) (a' := ?_) #[true, true, false, false, false, false, false, false, false, false, false, false, false, false, false, false, false, false, false, false, false, false] rfl rfl (any_of HT_.out (by kernel_rfl)) (fun _ _ _ h => h) (Or.inl ⟨by rfl, ?_⟩) ?_ ?_
                          rotate_left
                          · intro w'
                            go_simp
                            with_reducible rfl
                          rotate_left
                          · simp only [Act.put, List.setIfInBounds_toArray, List.set_cons_zero, List.set_cons_succ, i64_w, i32_w]
                            rfl
                          refine pure_ (i := 2) (N := some 67) (v := ?_) (a' := ?_) #[true, true, true, false, false, false, false, false, false, false, false, false, false, false, false, false, false, false, false, false, false, false] rfl rfl (any_of HT_.out (by kernel_rfl)) (fun _ _ _ h => h) (Or.inl ⟨by rfl, ?_⟩) ?_ ?_
                          rotate_left
                          · intro w'
                            go_simp
                            with_reducible rfl
                          rotate_left
                          · simp only [Act.put, List.setIfInBounds_toArray, List.set_cons_zero, List.set_cons_succ, i64_w, i32_w]
                            rfl
                          refine pure_ (i := 3) (N := some 68) (v := ?_) (a' := ?_) #[true, true, true, true, false, false, false, false, false, false, false, false, false, false, false, false, false, false, false, false, false, false] rfl rfl (any_of HT_.out (by kernel_rfl)) (fun _ _ _ h => h) (Or.inl ⟨by rfl, ?_⟩) ?_ ?_
                          rotate_left
                          · intro w'
                            go_simp
                            with_reducible rfl
                          rotate_left
                          · simp only [Act.put, List.setIfInBounds_toArray, List.set_cons_zero, List.set_cons_succ, i64_w, i32_w]
                            rfl
                          refine pure_ (i := 4) (N := some 69) (v := ?_) (a' := ?_) #[true, true, true, true, true, false, false, false, false, false, false, false, false, false, false, false, false, false, false, false, false, false] rfl rfl (any_of HT_.out (by kernel_rfl)) (fun _ _ _ h => h) (Or.inl ⟨by rfl, ?_⟩) ?_ ?_
                          rotate_left
                          · intro w'
                            go_simp
                            with_reducible rfl
                          rotate_left
                          · simp only [Act.put, List.setIfInBounds_toArray, List.set_cons_zero, List.set_cons_succ, i64_w, i32_w]
                            rfl
                          refine pure_ (i := 6) (N := some 71) (v := ?_) (a' := ?_) #[true, true, true, true, true, false, true, false, false, false, false, false, false, false, false, false, false, false, false, false, false, false] rfl rfl (any_of HT_.out (by kernel_rfl)) (fun _ _ _ h => h) (Or.inl ⟨by rfl, ?_⟩) ?_ ?_
                          rotate_left
                          · intro w'
                            go_simp
                            with_reducible rfl
                          rotate_left
                          · simp only [Act.put, List.setIfInBounds_toArray, List.set_cons_zero, List.set_cons_succ, i64_w, i32_w]
                            rfl
                          refine pure_ (i := 7) (N := some 72) (v := ?_) (a' := ?_) #[true, true, true, true, true, false, true, true, false, false, false, false, false, false, false, false, false, false, false, false, false, false] rfl rfl (any_of HT_.out (by kernel_rfl)) (fun _ _ _ h => h) (Or.inl ⟨by rfl, ?_⟩) ?_ ?_
                          rotate_left
                          · intro w'
                            go_simp
                            with_reducible rfl
                          rotate_left
                          · simp only [Act.put, List.setIfInBounds_toArray, List.set_cons_zero, List.set_cons_succ, i64_w, i32_w]
                            rfl
                          refine take_ (i := 5) (N := some 70) (v := ?_) (a' := ?_) #[true, true, true, true, true, true, true, true, false, false, false, false, false, false, false, false, false, false, false, false, false, false] rfl rfl (take_ofW HT_.out HW_.out (by kernel_rfl)) (fun _ _ _ h => h) (Or.inl ⟨by rfl, ?_⟩) hHeld ?_ ?_
                          rotate_left
                          · rintro w' ⟨s0, s1, s2, s3, s4, s5, s6, s7⟩
                            go_simp
                            with_reducible rfl
                          rotate_left
                          · simp only [Act.put, List.setIfInBounds_toArray, List.set_cons_zero, List.set_cons_succ, i64_w, i32_w]
                            rfl
                          refine take_ (i := 8) (N := some 73) (v := ?_) (a' := ?_) #[true, true, true, true, true, true, true, true, true, false, false, false, false, false, false, false, false, false, false, false, false, false] rfl rfl (take_ofW HT_.out HW_.out (by kernel_rfl)) (fun _ _ _ h => h) (Or.inl ⟨by rfl, ?_⟩) hHeld ?_ ?_
                          rotate_left
                          · rintro w' ⟨s0, s1, s2, s3, s4, s5, s6, s7⟩
                            go_simp
                            with_reducible rfl
                          rotate_left
                          · simp only [Act.put, List.setIfInBounds_toArray, List.set_cons_zero, List.set_cons_succ, i64_w, i32_w]
                            rfl
                          refine one_ (i := 9) (N := some 74) #[true, true, true, true, true, true, true, true, true, true, false, false, false, false, false, false, false, false, false, false, false, false] rfl rfl (one_of HT_.out (by kernel_rfl)) (by decide) (fun K hK => ?_)
                          refine goes_ Try.func14 (by kernel_rfl) rfl #[.agg #[.int .i64 ((rd_T29 t233 1).f0), .int .i64 ((rd_T29 t233 1).f1), .int .i64 ((rd_T29 t233 1).f2), .string ((rd_T29 t233 1).f3)], .agg #[.int .i64 ((rd_T29 t233 2).f0), .int .i64 ((rd_T29 t233 2).f1), .int .i64 ((rd_T29 t233 2).f2), .string ((rd_T29 t233 2).f3)]] (by rfl) rfl rfl (by (try simp only [List.map_toArray, List.map_cons, List.map_nil]); first | done | rfl | (simp only [List.length_drop, List.length_take]; rfl)) ?_
                          with_reducible refine (precedence_Precedes.calls ((rd_T29 t233 1).f0) ((rd_T29 t233 1).f1) ((rd_T29 t233 1).f2) ((rd_T29 t233 1).f3) ((rd_T29 t233 2).f0) ((rd_T29 t233 2).f1) ((rd_T29 t233 2).f2) ((rd_T29 t233 2).f3) false _ A55.out).mono ?_
                          rintro e w63 ⟨rfl, hb⟩
                          have HS0_ := (hb.cell (World.block_lt_of_cell? _ _ (hHeld.1))).trans (hHeld.1)
                          have HS1_ := (hb.cell (World.block_lt_of_cell? _ _ (hHeld.2.1))).trans (hHeld.2.1)
                          have HS2_ := (hb.cell (World.block_lt_of_cell? _ _ (hHeld.2.2.1))).trans (hHeld.2.2.1)
                          have HS3_ := (hb.cell (World.block_lt_of_cell? _ _ (hHeld.2.2.2.1))).trans (hHeld.2.2.2.1)
                          have HS4_ := (hb.cell (World.block_lt_of_cell? _ _ (hHeld.2.2.2.2.1))).trans (hHeld.2.2.2.2.1)
                          have HS5_ := (hb.cell (World.block_lt_of_cell? _ _ (hHeld.2.2.2.2.2.1))).trans (hHeld.2.2.2.2.2.1)
                          have HS6_ := (hb.cell (World.block_lt_of_cell? _ _ (hHeld.2.2.2.2.2.2.1))).trans (hHeld.2.2.2.2.2.2.1)
                          have HS7_ := (hb.cell (World.block_lt_of_cell? _ _ (hHeld.2.2.2.2.2.2.2))).trans (hHeld.2.2.2.2.2.2.2)
                          refine ⟨_, rfl, ?_⟩
                          have n0_ := Aside0.mk (Kd.R_below (by (with_reducible repeat (first | apply Kd.R_alloc | apply Kd.R_drewN | apply Kd.R_drew)); exact HO_7.out) hb)
                          have n1_ := Aside0.mk (blk_below (g := gb226) (o := .cells #[.int .i64 a0_0, .int .i64 a0_1, .int .i64 a0_2, .string a0_3] 24 (0, 0)) (by (with_reducible repeat (first | refine blk_drewN ?_ _ | refine blk_drew ?_ | refine blk_alloc ?_ _)); exact BK226.out) hb)
                          have n2_ := Aside0.mk (blk_below (g := gb227) (o := .cells #[.int .i64 a1_0, .int .i64 a1_1, .int .i64 a1_2, .string a1_3] 24 (0, 0)) (by (with_reducible repeat (first | refine blk_drewN ?_ _ | refine blk_drew ?_ | refine blk_alloc ?_ _)); exact BK227.out) hb)
                          have n3_ := Aside0.mk (blk_below (g := gb228) (o := .cells #[.int .i64 a2_0, .int .i64 a2_1, .int .i64 a2_2, .string a2_3] 24 (0, 0)) (by (with_reducible repeat (first | refine blk_drewN ?_ _ | refine blk_drew ?_ | refine blk_alloc ?_ _)); exact BK228.out) hb)
                          have n4_ := Aside0.mk (below_step (by repeat (first | (with_reducible first | exact HB.out | apply below_alloc | apply pw_below_drewN | apply below_drew1 | refine below_set ?_ GE226.out | refine below_set ?_ GE227.out | refine below_set ?_ GE228.out) | exact HB.out)) hb)
                          clear HO_7
                          clear BK226
                          clear BK227
                          clear BK228
                          clear HB
                          have HO_7 := n0_
                          have BK226 := n1_
                          have BK227 := n2_
                          have BK228 := n3_
                          have HB := n4_
                          clear n0_ n1_ n2_ n3_ n4_
                          (try clear hb)
                          (try clear hb2)
                          (try clear hk)
                          (try clear hi)
                          refine hK.out _ _ ⟨HS0_, HS1_, HS2_, HS3_, HS4_, HS5_, HS6_, HS7_⟩ (fun hHeld => ?_)
                          clear hK K
                          refine norm_ (a' := ?_) ?_ ?_
                          rotate_left
                          · show Act.put _ (some 74) _ = _
                            simp only [Act.put, List.setIfInBounds_toArray, List.set_cons_zero, List.set_cons_succ, i64_w, i32_w]
                            rfl
                          refine pure_ (i := 10) (N := some 75) (v := ?_) (a' := ?_) #[true, true, true, true, true, true, true, true, true, true, true, false, false, false, false, false, false, false, false, false, false, false] rfl rfl (any_of HT_.out (by kernel_rfl)) (fun _ _ _ h => h) (Or.inl ⟨by rfl, ?_⟩) ?_ ?_
                          rotate_left
                          · intro w'
                            go_simp
                            with_reducible rfl
                          rotate_left
                          · simp only [Act.put, List.setIfInBounds_toArray, List.set_cons_zero, List.set_cons_succ, i64_w, i32_w]
                            rfl
                          refine pure_ (i := 11) (N := some 76) (v := ?_) (a' := ?_) #[true, true, true, true, true, true, true, true, true, true, true, true, false, false, false, false, false, false, false, false, false, false] rfl rfl (any_of HT_.out (by kernel_rfl)) (fun _ _ _ h => h) (Or.inl ⟨by rfl, ?_⟩) ?_ ?_
                          rotate_left
                          · intro w'
                            go_simp
                            with_reducible rfl
                          rotate_left
                          · simp only [Act.put, List.setIfInBounds_toArray, List.set_cons_zero, List.set_cons_succ, i64_w, i32_w]
                            rfl
                          refine pure_ (i := 12) (N := some 77) (v := ?_) (a' := ?_) #[true, true, true, true, true, true, true, true, true, true, true, true, true, false, false, false, false, false, false, false, false, false] rfl rfl (any_of HT_.out (by kernel_rfl)) (fun _ _ _ h => h) (Or.inl ⟨by rfl, ?_⟩) ?_ ?_
                          rotate_left
                          · intro w'
                            go_simp
                            with_reducible rfl
                          rotate_left
                          · simp only [Act.put, List.setIfInBounds_toArray, List.set_cons_zero, List.set_cons_succ, i64_w, i32_w]
                            rfl
                          refine pure_ (i := 13) (N := some 78) (v := undef) (a' := ?_) #[true, true, true, true, true, true, true, true, true, true, true, true, true, true, false, false, false, false, false, false, false, false] rfl rfl (any_of HT_.out (by kernel_rfl)) (fun _ _ _ h => h) (Or.inr ⟨by rfl, rfl⟩) ?_ ?_
                          rotate_left
                          · simp only [Act.put, List.setIfInBounds_toArray, List.set_cons_zero, List.set_cons_succ, i64_w, i32_w]
                            rfl
                          refine pure_ (i := 14) (N := some 79) (v := undef) (a' := ?_) #[true, true, true, true, true, true, true, true, true, true, true, true, true, true, true, false, false, false, false, false, false, false] rfl rfl (any_of HT_.out (by kernel_rfl)) (fun _ _ _ h => h) (Or.inr ⟨by rfl, rfl⟩) ?_ ?_
                          rotate_left
                          · simp only [Act.put, List.setIfInBounds_toArray, List.set_cons_zero, List.set_cons_succ, i64_w, i32_w]
                            rfl
                          refine pure_ (i := 15) (N := some 80) (v := undef) (a' := ?_) #[true, true, true, true, true, true, true, true, true, true, true, true, true, true, true, true, false, false, false, false, false, false] rfl rfl (any_of HT_.out (by kernel_rfl)) (fun _ _ _ h => h) (Or.inr ⟨by rfl, rfl⟩) ?_ ?_
                          rotate_left
                          · simp only [Act.put, List.setIfInBounds_toArray, List.set_cons_zero, List.set_cons_succ, i64_w, i32_w]
                            rfl
                          refine pure_ (i := 16) (N := some 81) (v := undef) (a' := ?_) #[true, true, true, true, true, true, true, true, true, true, true, true, true, true, true, true, true, false, false, false, false, false] rfl rfl (any_of HT_.out (by kernel_rfl)) (fun _ _ _ h => h) (Or.inr ⟨by rfl, rfl⟩) ?_ ?_
                          rotate_left
                          · simp only [Act.put, List.setIfInBounds_toArray, List.set_cons_zero, List.set_cons_succ, i64_w, i32_w]
                            rfl
                          refine pure_ (i := 17) (N := some 82) (v := undef) (a' := ?_) #[true, true, true, true, true, true, true, true, true, true, true, true, true, true, true, true, true, true, false, false, false, false] rfl rfl (any_of HT_.out (by kernel_rfl)) (fun _ _ _ h => h) (Or.inr ⟨by rfl, rfl⟩) ?_ ?_
                          rotate_left
                          · simp only [Act.put, List.setIfInBounds_toArray, List.set_cons_zero, List.set_cons_succ, i64_w, i32_w]
                            rfl
                          refine pure_ (i := 18) (N := some 83) (v := undef) (a' := ?_) #[true, true, true, true, true, true, true, true, true, true, true, true, true, true, true, true, true, true, true, false, false, false] rfl rfl (any_of HT_.out (by kernel_rfl)) (fun _ _ _ h => h) (Or.inr ⟨by rfl, rfl⟩) ?_ ?_
                          rotate_left
                          · simp only [Act.put, List.setIfInBounds_toArray, List.set_cons_zero, List.set_cons_succ, i64_w, i32_w]
                            rfl
                          refine pure_ (i := 19) (N := some 84) (v := undef) (a' := ?_) #[true, true, true, true, true, true, true, true, true, true, true, true, true, true, true, true, true, true, true, true, false, false] rfl rfl (any_of HT_.out (by kernel_rfl)) (fun _ _ _ h => h) (Or.inr ⟨by rfl, rfl⟩) ?_ ?_
                          rotate_left
                          · simp only [Act.put, List.setIfInBounds_toArray, List.set_cons_zero, List.set_cons_succ, i64_w, i32_w]
                            rfl
                          refine pure_ (i := 20) (N := some 85) (v := ?_) (a' := ?_) #[true, true, true, true, true, true, true, true, true, true, true, true, true, true, true, true, true, true, true, true, true, false] rfl rfl (any_of HT_.out (by kernel_rfl)) (fun _ _ _ h => h) (Or.inl ⟨by rfl, ?_⟩) ?_ ?_
                          rotate_left
                          · intro w'
                            go_simp
                            with_reducible rfl
                          rotate_left
                          · simp only [Act.put, List.setIfInBounds_toArray, List.set_cons_zero, List.set_cons_succ, i64_w, i32_w]
                            rfl
                          refine pure_ (i := 21) (N := some 6) (v := ?_) (a' := ?_) #[true, true, true, true, true, true, true, true, true, true, true, true, true, true, true, true, true, true, true, true, true, true] rfl rfl (any_of HT_.out (by kernel_rfl)) (fun _ _ _ h => h) (Or.inl ⟨by rfl, ?_⟩) ?_ ?_
                          rotate_left
                          · intro w'
                            go_simp
                            with_reducible rfl
                          rotate_left
                          · simp only [Act.put, List.setIfInBounds_toArray, List.set_cons_zero, List.set_cons_succ, i64_w, i32_w]
                            rfl
                          refine done_ (done_of HT_.out (by kernel_rfl)) ?_
                          try go_wp2
                          go_ret
                          exact ⟨by first | rfl | (simp [errW_none, errW_some] <;> rfl) | (simp [*, errW_none, errW_some] <;> rfl), by repeat (first | (with_reducible first | exact HB.out | apply below_alloc | apply pw_below_drewN | apply below_drew1 | refine below_set ?_ GE226.out | refine below_set ?_ GE227.out | refine below_set ?_ GE228.out) | exact HB.out)⟩
                      · rw [if_neg c54] at H
                        exact absurd H (by simp)
                    · rw [if_neg c53] at H
                      exact absurd H (by simp)
                  · replace c52 := Bool.eq_false_iff.mpr c52
                    subst c52
                    have H1 : (some true) = some r := by rw [if_neg (show ¬ (false = true) by decide)] at H; exact H
                    clear H
                    have H := H1
                    clear H1
                    obtain rfl := Option.some.inj H
                    try go_wp2
                    have n0_ := Aside0.mk (Kd.R_drew HO_7.out)
                    have n1_ := Aside0.mk (blk_drew BK226.out)
                    have n2_ := Aside0.mk (blk_drew BK227.out)
                    have n3_ := Aside0.mk (blk_drew BK228.out)
                    have n4_ := Aside0.mk (below_drew1 HB.out)
                    clear HO_7
                    clear BK226
                    clear BK227
                    clear BK228
                    clear HB
                    have HO_7 := n0_
                    have BK226 := n1_
                    have BK227 := n2_
                    have BK228 := n3_
                    have HB := n4_
                    clear n0_ n1_ n2_ n3_ n4_
                    refine start_ (n := 22) (S := fun w' => True) (ds := []) #[false, false, false, false, false, false, false, false, false, false, false, false, false, false, false, false, false, false, false, false, false, false] (by kernel_rfl) rfl rfl trivial (fun hHeld => ?_); refine with_tabW computuslaw20_PrecedenceTotal.tab9 computuslaw20_PrecedenceTotal.bits9 (fun HT_ HW_ => ?_)
                    generalize wc.drew = w64 at HO_7 BK226 BK227 BK228 HB hHeld ⊢
                    refine pure_ (i := 0) (N := some 65) (v := ?_) (a' := ?_) #[true, false, false, false, false, false, false, false, false, false, false, false, false, false, false, false, false, false, false, false, false, false] rfl rfl (any_of HT_.out (by kernel_rfl)) (fun _ _ _ h => h) (Or.inl ⟨by rfl, ?_⟩) ?_ ?_
                    rotate_left
                    · intro w'
                      go_simp
                      with_reducible rfl
                    rotate_left
                    · simp only [Act.put, List.setIfInBounds_toArray, List.set_cons_zero, List.set_cons_succ, i64_w, i32_w]
                      rfl
                    refine pure_ (i := 1) (N := some 66) (v := ?_) (a' := ?_) #[true, true, false, false, false, false, false, false, false, false, false, false, false, false, false, false, false, false, false, false, false, false] rfl rfl (any_of HT_.out (by kernel_rfl)) (fun _ _ _ h => h) (Or.inl ⟨by rfl, ?_⟩) ?_ ?_
                    rotate_left
                    · intro w'
                      go_simp
                      with_reducible rfl
                    rotate_left
                    · simp only [Act.put, List.setIfInBounds_toArray, List.set_cons_zero, List.set_cons_succ, i64_w, i32_w]
                      rfl
                    refine pure_ (i := 2) (N := some 67) (v := ?_) (a' := ?_) #[true, true, true, false, false, false, false, false, false, false, false, false, false, false, false, false, false, false, false, false, false, false] rfl rfl (any_of HT_.out (by kernel_rfl)) (fun _ _ _ h => h) (Or.inl ⟨by rfl, ?_⟩) ?_ ?_
                    rotate_left
                    · intro w'
                      go_simp
                      with_reducible rfl
                    rotate_left
                    · simp only [Act.put, List.setIfInBounds_toArray, List.set_cons_zero, List.set_cons_succ, i64_w, i32_w]
                      rfl
                    refine pure_ (i := 3) (N := some 68) (v := undef) (a' := ?_) #[true, true, true, true, false, false, false, false, false, false, false, false, false, false, false, false, false, false, false, false, false, false] rfl rfl (any_of HT_.out (by kernel_rfl)) (fun _ _ _ h => h) (Or.inr ⟨by rfl, rfl⟩) ?_ ?_
                    rotate_left
                    · simp only [Act.put, List.setIfInBounds_toArray, List.set_cons_zero, List.set_cons_succ, i64_w, i32_w]
                      rfl
                    refine pure_ (i := 4) (N := some 69) (v := undef) (a' := ?_) #[true, true, true, true, true, false, false, false, false, false, false, false, false, false, false, false, false, false, false, false, false, false] rfl rfl (any_of HT_.out (by kernel_rfl)) (fun _ _ _ h => h) (Or.inr ⟨by rfl, rfl⟩) ?_ ?_
                    rotate_left
                    · simp only [Act.put, List.setIfInBounds_toArray, List.set_cons_zero, List.set_cons_succ, i64_w, i32_w]
                      rfl
                    refine pure_ (i := 5) (N := some 70) (v := undef) (a' := ?_) #[true, true, true, true, true, true, false, false, false, false, false, false, false, false, false, false, false, false, false, false, false, false] rfl rfl (any_of HT_.out (by kernel_rfl)) (fun _ _ _ h => h) (Or.inr ⟨by rfl, rfl⟩) ?_ ?_
                    rotate_left
                    · simp only [Act.put, List.setIfInBounds_toArray, List.set_cons_zero, List.set_cons_succ, i64_w, i32_w]
                      rfl
                    refine pure_ (i := 6) (N := some 71) (v := undef) (a' := ?_) #[true, true, true, true, true, true, true, false, false, false, false, false, false, false, false, false, false, false, false, false, false, false] rfl rfl (any_of HT_.out (by kernel_rfl)) (fun _ _ _ h => h) (Or.inr ⟨by rfl, rfl⟩) ?_ ?_
                    rotate_left
                    · simp only [Act.put, List.setIfInBounds_toArray, List.set_cons_zero, List.set_cons_succ, i64_w, i32_w]
                      rfl
                    refine pure_ (i := 7) (N := some 72) (v := undef) (a' := ?_) #[true, true, true, true, true, true, true, true, false, false, false, false, false, false, false, false, false, false, false, false, false, false] rfl rfl (any_of HT_.out (by kernel_rfl)) (fun _ _ _ h => h) (Or.inr ⟨by rfl, rfl⟩) ?_ ?_
                    rotate_left
                    · simp only [Act.put, List.setIfInBounds_toArray, List.set_cons_zero, List.set_cons_succ, i64_w, i32_w]
                      rfl
                    refine pure_ (i := 8) (N := some 73) (v := undef) (a' := ?_) #[true, true, true, true, true, true, true, true, true, false, false, false, false, false, false, false, false, false, false, false, false, false] rfl rfl (any_of HT_.out (by kernel_rfl)) (fun _ _ _ h => h) (Or.inr ⟨by rfl, rfl⟩) ?_ ?_
                    rotate_left
                    · simp only [Act.put, List.setIfInBounds_toArray, List.set_cons_zero, List.set_cons_succ, i64_w, i32_w]
                      rfl
                    refine pure_ (i := 9) (N := some 74) (v := undef) (a' := ?_) #[true, true, true, true, true, true, true, true, true, true, false, false, false, false, false, false, false, false, false, false, false, false] rfl rfl (any_of HT_.out (by kernel_rfl)) (fun _ _ _ h => h) (Or.inr ⟨by rfl, rfl⟩) ?_ ?_
                    rotate_left
                    · simp only [Act.put, List.setIfInBounds_toArray, List.set_cons_zero, List.set_cons_succ, i64_w, i32_w]
                      rfl
                    refine pure_ (i := 10) (N := some 75) (v := undef) (a' := ?_) #[true, true, true, true, true, true, true, true, true, true, true, false, false, false, false, false, false, false, false, false, false, false] rfl rfl (any_of HT_.out (by kernel_rfl)) (fun _ _ _ h => h) (Or.inr ⟨by rfl, rfl⟩) ?_ ?_
                    rotate_left
                    · simp only [Act.put, List.setIfInBounds_toArray, List.set_cons_zero, List.set_cons_succ, i64_w, i32_w]
                      rfl
                    refine pure_ (i := 11) (N := some 76) (v := ?_) (a' := ?_) #[true, true, true, true, true, true, true, true, true, true, true, true, false, false, false, false, false, false, false, false, false, false] rfl rfl (any_of HT_.out (by kernel_rfl)) (fun _ _ _ h => h) (Or.inl ⟨by rfl, ?_⟩) ?_ ?_
                    rotate_left
                    · intro w'
                      go_simp
                      with_reducible rfl
                    rotate_left
                    · simp only [Act.put, List.setIfInBounds_toArray, List.set_cons_zero, List.set_cons_succ, i64_w, i32_w]
                      rfl
                    refine pure_ (i := 12) (N := some 77) (v := ?_) (a' := ?_) #[true, true, true, true, true, true, true, true, true, true, true, true, true, false, false, false, false, false, false, false, false, false] rfl rfl (any_of HT_.out (by kernel_rfl)) (fun _ _ _ h => h) (Or.inl ⟨by rfl, ?_⟩) ?_ ?_
                    rotate_left
                    · intro w'
                      go_simp
                      with_reducible rfl
                    rotate_left
                    · simp only [Act.put, List.setIfInBounds_toArray, List.set_cons_zero, List.set_cons_succ, i64_w, i32_w]
                      rfl
                    refine pure_ (i := 13) (N := some 78) (v := undef) (a' := ?_) #[true, true, true, true, true, true, true, true, true, true, true, true, true, true, false, false, false, false, false, false, false, false] rfl rfl (any_of HT_.out (by kernel_rfl)) (fun _ _ _ h => h) (Or.inr ⟨by rfl, rfl⟩) ?_ ?_
                    rotate_left
                    · simp only [Act.put, List.setIfInBounds_toArray, List.set_cons_zero, List.set_cons_succ, i64_w, i32_w]
                      rfl
                    refine pure_ (i := 14) (N := some 79) (v := undef) (a' := ?_) #[true, true, true, true, true, true, true, true, true, true, true, true, true, true, true, false, false, false, false, false, false, false] rfl rfl (any_of HT_.out (by kernel_rfl)) (fun _ _ _ h => h) (Or.inr ⟨by rfl, rfl⟩) ?_ ?_
                    rotate_left
                    · simp only [Act.put, List.setIfInBounds_toArray, List.set_cons_zero, List.set_cons_succ, i64_w, i32_w]
                      rfl
                    refine pure_ (i := 15) (N := some 80) (v := undef) (a' := ?_) #[true, true, true, true, true, true, true, true, true, true, true, true, true, true, true, true, false, false, false, false, false, false] rfl rfl (any_of HT_.out (by kernel_rfl)) (fun _ _ _ h => h) (Or.inr ⟨by rfl, rfl⟩) ?_ ?_
                    rotate_left
                    · simp only [Act.put, List.setIfInBounds_toArray, List.set_cons_zero, List.set_cons_succ, i64_w, i32_w]
                      rfl
                    refine pure_ (i := 16) (N := some 81) (v := undef) (a' := ?_) #[true, true, true, true, true, true, true, true, true, true, true, true, true, true, true, true, true, false, false, false, false, false] rfl rfl (any_of HT_.out (by kernel_rfl)) (fun _ _ _ h => h) (Or.inr ⟨by rfl, rfl⟩) ?_ ?_
                    rotate_left
                    · simp only [Act.put, List.setIfInBounds_toArray, List.set_cons_zero, List.set_cons_succ, i64_w, i32_w]
                      rfl
                    refine pure_ (i := 17) (N := some 82) (v := undef) (a' := ?_) #[true, true, true, true, true, true, true, true, true, true, true, true, true, true, true, true, true, true, false, false, false, false] rfl rfl (any_of HT_.out (by kernel_rfl)) (fun _ _ _ h => h) (Or.inr ⟨by rfl, rfl⟩) ?_ ?_
                    rotate_left
                    · simp only [Act.put, List.setIfInBounds_toArray, List.set_cons_zero, List.set_cons_succ, i64_w, i32_w]
                      rfl
                    refine pure_ (i := 18) (N := some 83) (v := undef) (a' := ?_) #[true, true, true, true, true, true, true, true, true, true, true, true, true, true, true, true, true, true, true, false, false, false] rfl rfl (any_of HT_.out (by kernel_rfl)) (fun _ _ _ h => h) (Or.inr ⟨by rfl, rfl⟩) ?_ ?_
                    rotate_left
                    · simp only [Act.put, List.setIfInBounds_toArray, List.set_cons_zero, List.set_cons_succ, i64_w, i32_w]
                      rfl
                    refine pure_ (i := 19) (N := some 84) (v := undef) (a' := ?_) #[true, true, true, true, true, true, true, true, true, true, true, true, true, true, true, true, true, true, true, true, false, false] rfl rfl (any_of HT_.out (by kernel_rfl)) (fun _ _ _ h => h) (Or.inr ⟨by rfl, rfl⟩) ?_ ?_
                    rotate_left
                    · simp only [Act.put, List.setIfInBounds_toArray, List.set_cons_zero, List.set_cons_succ, i64_w, i32_w]
                      rfl
                    refine pure_ (i := 20) (N := some 85) (v := ?_) (a' := ?_) #[true, true, true, true, true, true, true, true, true, true, true, true, true, true, true, true, true, true, true, true, true, false] rfl rfl (any_of HT_.out (by kernel_rfl)) (fun _ _ _ h => h) (Or.inl ⟨by rfl, ?_⟩) ?_ ?_
                    rotate_left
                    · intro w'
                      go_simp
                      with_reducible rfl
                    rotate_left
                    · simp only [Act.put, List.setIfInBounds_toArray, List.set_cons_zero, List.set_cons_succ, i64_w, i32_w]
                      rfl
                    refine pure_ (i := 21) (N := some 6) (v := ?_) (a' := ?_) #[true, true, true, true, true, true, true, true, true, true, true, true, true, true, true, true, true, true, true, true, true, true] rfl rfl (any_of HT_.out (by kernel_rfl)) (fun _ _ _ h => h) (Or.inl ⟨by rfl, ?_⟩) ?_ ?_
                    rotate_left
                    · intro w'
                      go_simp
                      with_reducible rfl
                    rotate_left
                    · simp only [Act.put, List.setIfInBounds_toArray, List.set_cons_zero, List.set_cons_succ, i64_w, i32_w]
                      rfl
                    refine done_ (done_of HT_.out (by kernel_rfl)) ?_
                    try go_wp2
                    go_ret
                    exact ⟨by first | rfl | (simp [errW_none, errW_some] <;> rfl) | (simp [*, errW_none, errW_some] <;> rfl), by repeat (first | (with_reducible first | exact HB.out | apply below_alloc | apply pw_below_drewN | apply below_drew1 | refine below_set ?_ GE226.out | refine below_set ?_ GE227.out | refine below_set ?_ GE228.out) | exact HB.out)⟩
      · rw [if_neg c8] at H
        exact absurd H (by simp)
    · rw [if_neg c7] at H
      exact absurd H (by simp)
  · replace c5 := Bool.eq_false_iff.mpr c5
    subst c5
    have H1 : (none) = some r := by rw [if_neg (show ¬ (false = true) by decide)] at H; exact H
    clear H
    have H := H1
    clear H1
    exact absurd H (by simp)

def computuslaw20_PrecedenceTotal.Pure : Prop := ∀ (a0_0 : Int) (a0_1 : Int) (a0_2 : Int) (a0_3 : ByteArray) (a1_0 : Int) (a1_1 : Int) (a1_2 : Int) (a1_3 : ByteArray) (a2_0 : Int) (a2_1 : Int) (a2_2 : Int) (a2_3 : ByteArray), (Lit.int .i64 a0_0).wf = true → (Lit.int .i64 a0_1).wf = true → (Lit.int .i64 a0_2).wf = true → a0_3.size ≤ maxLen → (Lit.int .i64 a1_0).wf = true → (Lit.int .i64 a1_1).wf = true → (Lit.int .i64 a1_2).wf = true → a1_3.size ≤ maxLen → (Lit.int .i64 a2_0).wf = true → (Lit.int .i64 a2_1).wf = true → (Lit.int .i64 a2_2).wf = true → a2_3.size ≤ maxLen → ∃ k, computuslaw20_PrecedenceTotal.f k a0_0 a0_1 a0_2 a0_3 a1_0 a1_1 a1_2 a1_3 a2_0 a2_1 a2_2 a2_3 = some true

end Go.Proofs.Ytcdokompepelaaa.Q
