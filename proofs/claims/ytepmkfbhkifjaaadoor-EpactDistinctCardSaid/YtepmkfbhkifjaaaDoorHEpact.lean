/- What is proved: contracts of the golden numbers' and epacts' functions. -/
import Derived.Test.YtepmkfbhkifjaaaDoorShelf
import Derived.Test.YtepmkfbhkifjaaaDoorQx0
import Derived.Defers
import Derived.WalkLawsBesides
import Derived.Test.YtepmkfbhkifjaaaDoorHMap
namespace Go.Proofs.YtepmkfbhkifjaaaDoor.Q
open Go.RowKit Go.Proofs.YtepmkfbhkifjaaaDoorW.PrintWords Go.Proofs.YtepmkfbhkifjaaaDoorW.PrintLast Go.Proofs.YtepmkfbhkifjaaaDoorW.PrintMore
set_option linter.unusedVariables false
set_option linter.unusedSimpArgs false

set_option maxHeartbeats 4000000 in
set_option maxRecDepth 100000 in
theorem within_in (w : World) (y k v : Int) (f : Nat) (h0 : k ≤ y) (h1 : y ≤ 1000000000) (hcf : ∀ (args : Array Value) (W : World), (callFunc f args).run Tryd.prog W = .ok (.enter f args) W) (hf : ∀ W, Calls Tryd.prog f #[.int .i64 y] W fun e W' => e = .returned (.int .i64 v) ∧ W' = W) :
    Calls Tryd.prog 28 #[.int .i64 y, .int .i64 k, .func (.func f) #[] #[]] w fun e w' => e = .returned (.tuple #[.int .i64 v, .int .i64 0]) ∧ w' = w := by
  have HF := Aside0.mk hf
  have c1 : decide (y < k) = false := decide_eq_false (by omega)
  have c2 : decide ((1000000000 : Int) < y) = false := decide_eq_false (by omega)
  clear hf
  go_enter Tryd.func28, Tryd.ntmps28
  go_wp2_with (refine (HF.out _).mono ?_; rintro e w1 ⟨rfl, rfl⟩)
  go_ret2
  exact ⟨rfl, rfl⟩
set_option maxHeartbeats 4000000 in
set_option maxRecDepth 100000 in
theorem within_out (w : World) (y k : Int) (f : Nat) (h : y < k ∨ 1000000000 < y) :
    Calls Tryd.prog 28 #[.int .i64 y, .int .i64 k, .func (.func f) #[] #[]] w fun e w' => e = .returned (.tuple #[.int .i64 0, .int .i64 1]) ∧ w' = w := by
  by_cases h1 : y < k
  · have c1 : decide (y < k) = true := decide_eq_true h1
    clear h
    go_enter Tryd.func28, Tryd.ntmps28
    go_wp2
    go_ret2
    exact ⟨rfl, rfl⟩
  · have c1 : decide (y < k) = false := decide_eq_false h1
    have c2 : decide ((1000000000 : Int) < y) = true := decide_eq_true (by omega)
    clear h
    go_enter Tryd.func28, Tryd.ntmps28
    go_wp2
    go_ret2
    exact ⟨rfl, rfl⟩

/-- Of a year that is not before k. -/
def inYear (k : Int) (y : Int) (v : Int) : Int × Int := if k ≤ y ∧ y ≤ 1000000000 then (v, 0) else (0, 1)

set_option maxHeartbeats 4000000 in
set_option maxRecDepth 100000 in
theorem golden_any (w : World) (y : Int) : Calls Tryd.prog 19 #[.int .i64 y] w fun e w' => e = .returned (.tuple #[.int .i64 (inYear 1 y (y % 19 + 1)).1, .int .i64 (inYear 1 y (y % 19 + 1)).2]) ∧ w' = w := by
  have hmf : ∀ (fn : Fn) (first cap : Array Value) (w : World), (Instr.makeFunc fn first cap).run Tryd.prog w = .ok (.func fn first cap) w := fun _ _ _ _ => rfl
  unfold inYear
  by_cases h : 1 ≤ y ∧ y ≤ 1000000000
  · rw [if_pos h]
    have HW := Aside0.mk (fun w => within_in w y 1 (y % 19 + 1) 29 h.1 h.2 (fun _ _ => rfl) (fun W => by
      have h0 := h.1
      have h1 := h.2
      go_enter Tryd.func29, Tryd.ntmps29
      go_wp2
      go_ret
      exact ⟨rfl, rfl⟩))
    clear h
    go_enter Tryd.func19, Tryd.ntmps19
    go_wp2_with (refine (HW.out _).mono ?_; rintro e w1 ⟨rfl, rfl⟩)
    go_ret2
    exact ⟨rfl, rfl⟩
  · rw [if_neg h]
    have HW := Aside0.mk (fun w => within_out w y 1 29 (by omega))
    clear h
    go_enter Tryd.func19, Tryd.ntmps19
    go_wp2_with (refine (HW.out _).mono ?_; rintro e w1 ⟨rfl, rfl⟩)
    go_ret2
    exact ⟨rfl, rfl⟩

set_option maxHeartbeats 4000000 in
set_option maxRecDepth 100000 in
theorem centuryOf_any (w : World) (y : Int) (h0 : 1 ≤ y) (h1 : y ≤ 1000000000) : Calls Tryd.prog 36 #[.int .i64 y] w fun e w' => e = .returned (.int .i64 (y / 100 + 1)) ∧ w' = w := by
  go_enter Tryd.func36, Tryd.ntmps36
  go_wp2
  go_ret
  exact ⟨rfl, rfl⟩

set_option maxHeartbeats 4000000 in
set_option maxRecDepth 100000 in
theorem solar_any (w : World) (y : Int) : Calls Tryd.prog 32 #[.int .i64 y] w fun e w' => e = .returned (.tuple #[.int .i64 (inYear 1583 y (3 * (y / 100 + 1) / 4 - 12)).1, .int .i64 (inYear 1583 y (3 * (y / 100 + 1) / 4 - 12)).2]) ∧ w' = w := by
  have hmf : ∀ (fn : Fn) (first cap : Array Value) (w : World), (Instr.makeFunc fn first cap).run Tryd.prog w = .ok (.func fn first cap) w := fun _ _ _ _ => rfl
  unfold inYear
  by_cases h : 1583 ≤ y ∧ y ≤ 1000000000
  · rw [if_pos h]
    have HW := Aside0.mk (fun w => within_in w y 1583 (3 * (y / 100 + 1) / 4 - 12) 35 h.1 h.2 (fun _ _ => rfl) (fun W => by
      have h0 := h.1
      have h1 := h.2
      have q0 : 0 ≤ y / 100 := by omega
      have q1 : y / 100 ≤ 10000000 := by omega
      go_enter Tryd.func35, Tryd.ntmps35
      go_wp2_with (go_at_call 36; refine (centuryOf_any _ _ (by omega) (by omega)).mono ?_; rintro e w1 ⟨rfl, rfl⟩)
      go_ret
      exact ⟨by first | rfl | (congr 2; omega), rfl⟩))
    clear h
    go_enter Tryd.func32, Tryd.ntmps32
    go_wp2_with (refine (HW.out _).mono ?_; rintro e w1 ⟨rfl, rfl⟩)
    go_ret2
    exact ⟨rfl, rfl⟩
  · rw [if_neg h]
    have HW := Aside0.mk (fun w => within_out w y 1583 35 (by omega))
    clear h
    go_enter Tryd.func32, Tryd.ntmps32
    go_wp2_with (refine (HW.out _).mono ?_; rintro e w1 ⟨rfl, rfl⟩)
    go_ret2
    exact ⟨rfl, rfl⟩

set_option maxHeartbeats 4000000 in
set_option maxRecDepth 100000 in
theorem lunar_any (w : World) (y : Int) : Calls Tryd.prog 33 #[.int .i64 y] w fun e w' => e = .returned (.tuple #[.int .i64 (inYear 1583 y ((8 * (y / 100 + 1) + 5) / 25 - 5)).1, .int .i64 (inYear 1583 y ((8 * (y / 100 + 1) + 5) / 25 - 5)).2]) ∧ w' = w := by
  have hmf : ∀ (fn : Fn) (first cap : Array Value) (w : World), (Instr.makeFunc fn first cap).run Tryd.prog w = .ok (.func fn first cap) w := fun _ _ _ _ => rfl
  unfold inYear
  by_cases h : 1583 ≤ y ∧ y ≤ 1000000000
  · rw [if_pos h]
    have HW := Aside0.mk (fun w => within_in w y 1583 ((8 * (y / 100 + 1) + 5) / 25 - 5) 37 h.1 h.2 (fun _ _ => rfl) (fun W => by
      have h0 := h.1
      have h1 := h.2
      have q0 : 0 ≤ y / 100 := by omega
      have q1 : y / 100 ≤ 10000000 := by omega
      go_enter Tryd.func37, Tryd.ntmps37
      go_wp2_with (go_at_call 36; refine (centuryOf_any _ _ (by omega) (by omega)).mono ?_; rintro e w1 ⟨rfl, rfl⟩)
      go_ret
      exact ⟨by first | rfl | (congr 2; omega), rfl⟩))
    clear h
    go_enter Tryd.func33, Tryd.ntmps33
    go_wp2_with (refine (HW.out _).mono ?_; rintro e w1 ⟨rfl, rfl⟩)
    go_ret2
    exact ⟨rfl, rfl⟩
  · rw [if_neg h]
    have HW := Aside0.mk (fun w => within_out w y 1583 37 (by omega))
    clear h
    go_enter Tryd.func33, Tryd.ntmps33
    go_wp2_with (refine (HW.out _).mono ?_; rintro e w1 ⟨rfl, rfl⟩)
    go_ret2
    exact ⟨rfl, rfl⟩

/-- The number that is congruent to the epact, and the error. -/
def epNum (c y : Int) : Int × Int := if c = 1 then (11 * (inYear 1 y (y % 19 + 1)).1 - 3, (inYear 1 y 0).2) else (11 * (inYear 1 y (y % 19 + 1)).1 + 20 + (inYear 1583 y ((8 * (y / 100 + 1) + 5) / 25 - 5)).1 - (inYear 1583 y (3 * (y / 100 + 1) / 4 - 12)).1, (inYear 1583 y 0).2)
theorem inYear_err (k y v : Int) : (inYear k y v).2 = (inYear k y 0).2 := by unfold inYear; split <;> rfl
theorem inYear_le {k y v m : Int} (h : k ≤ y → y ≤ 1000000000 → 0 ≤ v ∧ v ≤ m) (hm : 0 ≤ m) : 0 ≤ (inYear k y v).1 ∧ (inYear k y v).1 ≤ m := by
  unfold inYear
  split
  · rename_i h2; exact h h2.1 h2.2
  · exact ⟨Int.le_refl _, hm⟩

set_option maxHeartbeats 4000000 in
set_option maxRecDepth 100000 in
theorem epJulian_any (w : World) (y : Int) : Calls Tryd.prog 26 #[.int .i64 y] w fun e w' => e = .returned (.tuple #[.int .i64 (epNum 1 y).1, .int .i64 (epNum 1 y).2]) ∧ w' = w := by
  have hb := inYear_le (k := 1) (y := y) (v := y % 19 + 1) (m := 19) (fun _ _ => by omega) (by omega)
  have hG := Aside0.mk (golden_any w y)
  obtain ⟨g, hg⟩ : ∃ g, g = (inYear 1 y (y % 19 + 1)).1 := ⟨_, rfl⟩
  obtain ⟨r, hr⟩ : ∃ r, r = (inYear 1 y 0).2 := ⟨_, rfl⟩
  have hP : epNum 1 y = (11 * g - 3, r) := by unfold epNum; rw [if_pos rfl, hg, hr]
  rw [inYear_err 1 y, ← hg, ← hr] at hG
  rw [← hg] at hb
  rw [hP]
  obtain ⟨hb0, hb1⟩ := hb
  clear hg hr hP
  go_enter Tryd.func26, Tryd.ntmps26
  go_wp2_with (refine Calls.mono hG.out ?_; rintro e w1 ⟨rfl, rfl⟩)
  go_ret2
  exact ⟨rfl, rfl⟩

set_option maxHeartbeats 4000000 in
set_option maxRecDepth 100000 in
theorem epGregorian_any (w : World) (y : Int) : Calls Tryd.prog 27 #[.int .i64 y] w fun e w' => e = .returned (.tuple #[.int .i64 (epNum 2 y).1, .int .i64 (epNum 2 y).2]) ∧ w' = w := by
  have hb := inYear_le (k := 1) (y := y) (v := y % 19 + 1) (m := 19) (fun _ _ => by omega) (by omega)
  have hc := inYear_le (k := 1583) (y := y) (v := 3 * (y / 100 + 1) / 4 - 12) (m := 10000000) (fun _ _ => by omega) (by omega)
  have hd := inYear_le (k := 1583) (y := y) (v := (8 * (y / 100 + 1) + 5) / 25 - 5) (m := 10000000) (fun _ _ => by omega) (by omega)
  have hG := Aside0.mk (golden_any w y)
  have hS := Aside0.mk (solar_any w y)
  have hL := Aside0.mk (lunar_any w y)
  obtain ⟨g, hg⟩ : ∃ g, g = (inYear 1 y (y % 19 + 1)).1 := ⟨_, rfl⟩
  obtain ⟨x, hx⟩ : ∃ x, x = (inYear 1583 y (3 * (y / 100 + 1) / 4 - 12)).1 := ⟨_, rfl⟩
  obtain ⟨z, hz⟩ : ∃ z, z = (inYear 1583 y ((8 * (y / 100 + 1) + 5) / 25 - 5)).1 := ⟨_, rfl⟩
  obtain ⟨r, hr⟩ : ∃ r, r = (inYear 1583 y 0).2 := ⟨_, rfl⟩
  obtain ⟨r0, hr0⟩ : ∃ r, r = (inYear 1 y 0).2 := ⟨_, rfl⟩
  have hP : epNum 2 y = (11 * g + 20 + z - x, r) := by unfold epNum; rw [if_neg (by omega), hg, hr, hx, hz]
  rw [inYear_err 1 y, ← hg, ← hr0] at hG
  rw [inYear_err 1583 y, ← hx, ← hr] at hS
  rw [inYear_err 1583 y, ← hz, ← hr] at hL
  rw [← hg] at hb
  rw [← hx] at hc
  rw [← hz] at hd
  rw [hP]
  obtain ⟨hb0, hb1⟩ := hb
  obtain ⟨hc0, hc1⟩ := hc
  obtain ⟨hd0, hd1⟩ := hd
  clear hg hr hP hx hz hr0
  go_enter Tryd.func27, Tryd.ntmps27
  go_wp2_with (first | (go_at_call 19; refine Calls.mono hG.out ?_; rintro e w1 ⟨rfl, rfl⟩) | (go_at_call 32; refine Calls.mono hS.out ?_; rintro e w1 ⟨rfl, rfl⟩) | (go_at_call 33; refine Calls.mono hL.out ?_; rintro e w1 ⟨rfl, rfl⟩))
  go_ret2
  exact ⟨rfl, rfl⟩

def epMap : Obj := .map #[{ key := .int .i64 1, val := .func (.func 26) #[] #[], born := 0 }, { key := .int .i64 2, val := .func (.func 27) #[] #[], born := 1 }] 2
set_option maxHeartbeats 4000000 in
set_option maxRecDepth 100000 in
theorem formulas_any (w : World) : Calls Tryd.prog 18 #[] w fun e w' => e = .returned (.map (some w.heap.size)) ∧ w' = w.alloc epMap := by
  have hmm := @run_makeMap Tryd.prog
  have hK := Aside0.mk (Maps.int_keyed Tryd.underlying3)
  have hk1 : keyOf Tryd.prog 3 (.int .i64 1) = some (.int .i64 1) := Maps.keyOf_int_mk Tryd.underlying3 (by decide)
  have hk2 : keyOf Tryd.prog 3 (.int .i64 2) = some (.int .i64 2) := Maps.keyOf_int_mk Tryd.underlying3 (by decide)
  have h1 := fun w v => run_ins hK.out Tryd.underlying35 w #[] 0 (.int .i64 1) v hk1 (by simp) (by simp)
  have h2 := fun w v u => run_ins hK.out Tryd.underlying35 w #[{ key := .int .i64 1, val := u, born := 0 }] 1 (.int .i64 2) v hk2 (by intro e he; simp at he; subst he; exact ⟨_, hk1⟩) (by intro e he; simp at he; subst he; simp)
  simp at h1 h2
  clear hk1 hk2 hK
  go_enter Tryd.func18, Tryd.ntmps18
  go_wp2_with fail
  go_ret
  exact ⟨rfl, rfl⟩
end Go.Proofs.YtepmkfbhkifjaaaDoor.Q
