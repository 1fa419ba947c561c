/- What is proved: what the scan that Identifier hands to guard does, and contracts of Identifier. -/
import Derived.Test.YtkpicinbckedoaaHScanNum
import Derived.Deep.RegionLaw
namespace Go.Proofs.Ytkpicinbckedoaa.Q
open Go.RowKit Go.Proofs.YtkpicinbckedoaaW.PrintWords Go.Proofs.YtkpicinbckedoaaW.PrintLast Go.Proofs.YtkpicinbckedoaaW.PrintMore
set_option linter.unusedVariables false
set_option linter.unusedSimpArgs false

def scIdLoop (s : ByteArray) (i : Nat) : Nat → Nat → Bool × Nat
  | 0, j => (true, j)
  | k + 1, j =>
    if j < i + 40 then
      if scTake s j pPart then scIdLoop s i k (j + 1)
      else if j < i + 39 ∧ scTake s j (pIs 45) = true then
        if scTake s (j + 1) pPart then scIdLoop s i k (j + 2) else (false, j + 1)
      else (true, j)
    else (true, j)
def scIdent (s : ByteArray) (i : Nat) : Bool × Nat := if scTake s i pLetter then scIdLoop s i 39 (i + 1) else (false, i)

theorem scIdLoop_stop {s : ByteArray} {i k j : Nat} (h : ¬ j < i + 40) : scIdLoop s i k j = (true, j) := by
  cases k with
  | zero => rfl
  | succ k => rw [scIdLoop, if_neg h]

set_option maxHeartbeats 4000000 in
set_option maxRecDepth 100000 in
theorem ident1 (w0 w Ws W : World) (g bx bn : Nat) (s : ByteArray) (i : Nat) (v0 : Int) (hs : s.size ≤ 4611686018427387904) (h : SC w0 w Ws W g bx bn s (i : Int) (.int .i64 v0)) :
    Calls Try.prog 49 #[.pointer (some ⟨bx, 0, none⟩), .pointer (some ⟨bn, 0, none⟩)] W fun e W' => e = (if (scIdent s i).1 then .returned (.tuple #[]) else .panicked scFail) ∧ SC w0 w Ws W' g bx bn s ((scIdent s i).2 : Int) (.int .i64 i) := by
  obtain ⟨R, hR⟩ : ∃ R, R = scIdent s i := ⟨_, rfl⟩
  rw [← hR]
  obtain ⟨E, hE⟩ : ∃ E : Ending, E = (if R.1 then .returned (.tuple #[]) else .panicked scFail) := ⟨_, rfl⟩
  rw [← hE]
  obtain ⟨J, hJ⟩ : ∃ J, J = R.2 := ⟨_, rfl⟩
  rw [← hJ]
  have HE := Aside0.mk hE
  have HJ0 := Aside0.mk hJ
  clear hE hJ
  have hcx := h.cx
  have hca := h.ca
  have hcn := h.cn
  have hfn := h.fn
  have HS := Aside0.mk (h.setN (.int .i64 i))
  clear h
  obtain ⟨b0, hb0⟩ : ∃ b, scTake s i pLetter = b := ⟨_, rfl⟩
  have H0 := Aside0.mk hb0
  cases b0 with
  | false =>
    have hR2 : R = (false, i) := by rw [hR, scIdent, hb0]; rfl
    subst hR2
    clear hR hb0
    go_enter Try.func49, Try.ntmps49
    have hcx1 := HS.out.cx
    go_wp2_with (go_at_call 39; refine Calls.mono (HS.out.must hs (letter_ok w0 _ g s _ false) H0.out) ?_; rintro e w2 ⟨he, h2, hk2⟩; simp only [if_true, Bool.false_eq_true, if_false] at he h2; subst he; have n0_ := Aside0.mk h2; clear HS h2 hk2 hcx hca hcn hfn hcx1; have HS := n0_; clear n0_)
    exact ⟨rfl, HE.out.symm, by rw [HJ0.out]; exact HS.out⟩
  | true =>
    have hR2 : scIdLoop s i 39 (i + 1) = R := by rw [hR, scIdent, hb0]; rfl
    have HR2 := Aside0.mk hR2
    have hil := scTake_lt hb0
    clear hR hb0 hR2
    go_enter Try.func49, Try.ntmps49
    have hcx1 := HS.out.cx
    go_wp2_with (go_at_call 39; refine Calls.mono (HS.out.must hs (letter_ok w0 _ g s _ false) H0.out) ?_; rintro e w2 ⟨he, h2, hk2⟩; simp only [if_true, Bool.false_eq_true, if_false] at he h2; subst he; have n0_ := Aside0.mk h2; clear HS h2 hk2 hcx hca hcn hfn hcx1; have HS := n0_; clear n0_)
    go_loopg [19] 39 (fun kq v19 w' => ∃ j : Nat, Aside0 (i + 40 ≤ j + kq ∧ i < j ∧ j ≤ s.size) ∧ Aside0 (scIdLoop s i kq j = R) ∧ Aside0 (SC w0 w Ws w' g bx bn s (j : Int) (.int .i64 i)))
    case atStart => exact ⟨i + 1, ⟨by omega⟩, HR2, HS⟩
    case round =>
      clear HS HR2
      obtain ⟨j, HJ, HR, HS⟩ := hrel
      have hcx := HS.out.cx
      have hca := HS.out.ca
      have hcn := HS.out.cn
      have hj := HJ.out.1
      have hj2 := HJ.out.2.1
      have hj4 := HJ.out.2.2
      by_cases hk : j < i + 40
      · obtain ⟨k1, rfl⟩ : ∃ m, gk = m + 1 := ⟨gk - 1, by omega⟩
        have hj3 : (j : Int) < i + 40 := by omega
        obtain ⟨b3, hb3⟩ : ∃ b, scTake s j pPart = b := ⟨_, rfl⟩
        have H3 := Aside0.mk hb3
        have HR1 := Aside0.mk (show (if scTake s j pPart then scIdLoop s i k1 (j + 1) else if j < i + 39 ∧ scTake s j (pIs 45) = true then if scTake s (j + 1) pPart then scIdLoop s i k1 (j + 2) else (false, j + 1) else (true, j)) = R by have h2 := HR.out; rw [scIdLoop, if_pos hk] at h2; exact h2)
        cases b3 with
        | true =>
          have HR2 := Aside0.mk (show scIdLoop s i k1 (j + 1) = R by have h2 := HR1.out; rw [if_pos hb3] at h2; exact h2)
          have hlt := scTake_lt hb3
          clear hb3 HR HR1
          go_wp2_with fail
          go_quiet (fail)
          go_wp2_with (go_at_call 44; refine Calls.mono ((HS.out.drewN nq).take hs (part_ok w0 _ g s _ false) H3.out) ?_; rintro e w3 ⟨rfl, h2, hk2⟩; have n0_ := Aside0.mk (show SC w0 w Ws w3 g bx bn s ((j + 1 : Nat) : Int) _ from h2); clear HS h2 hk2 hcx hca hcn; have HS := n0_; clear n0_)
          go_roundg k1
          case measure => omega
          case rel => exact ⟨j + 1, ⟨by omega⟩, HR2, HS⟩
        | false =>
          have HR2 := Aside0.mk (show (if j < i + 39 ∧ scTake s j (pIs 45) = true then if scTake s (j + 1) pPart then scIdLoop s i k1 (j + 2) else (false, j + 1) else (true, j)) = R by have h2 := HR1.out; rw [if_neg (by rw [hb3]; simp)] at h2; exact h2)
          clear hb3 HR HR1
          by_cases h39 : j < i + 39
          · have hj39 : (j : Int) - i < 39 := by omega
            obtain ⟨b4, hb4⟩ : ∃ b, scTake s j (pIs 45) = b := ⟨_, rfl⟩
            have H4 := Aside0.mk hb4
            cases b4 with
            | true =>
              have hjl := scTake_lt hb4
              obtain ⟨b5, hb5⟩ : ∃ b, scTake s (j + 1) pPart = b := ⟨_, rfl⟩
              have H5 := Aside0.mk hb5
              cases b5 with
              | true =>
                have HR3 := Aside0.mk (show scIdLoop s i k1 (j + 2) = R by have h2 := HR2.out; rw [if_pos ⟨h39, hb4⟩, if_pos hb5] at h2; exact h2)
                have hjl2 := scTake_lt hb5
                clear hb4 hb5 HR2
                go_wp2_with fail
                go_quiet (fail)
                go_wp2_with (go_at_call 44; refine Calls.mono ((HS.out.drewN nq).take hs (part_ok w0 _ g s _ false) H3.out) ?_; rintro e w3 ⟨rfl, h2, hk2⟩; have n0_ := Aside0.mk (show SC w0 w Ws w3 g bx bn s ((j : Nat) : Int) _ from h2); clear HS h2 hk2 hcx hca hcn; have HS := n0_; clear n0_)
                have hcx := HS.out.cx
                have hca := HS.out.ca
                have hcn := HS.out.cn
                have lx := blk_lt HS.out.X
                have ln := blk_lt HS.out.N
                have lg := blk_lt HS.out.I.1
                have hj38 : decide ((j : Int) - i < 39) = true := decide_eq_true hj39
                have hwr : IntKind.i64.wrap ((j : Int) - i) = (j : Int) - i := IntWalk.i64_in _ (by omega)
                refine wp_region_held_drew (S := (fun w' => w'.cell? ⟨bx, 0, none⟩ = some (.pointer (some ⟨g, 0, none⟩)) ∧ w'.cell? ⟨bn, 0, none⟩ = some (.int .i64 i))) (by kernel_rfl) ?_ (fun hHeld => ?_)
                · (try dsimp only)
                  (first | (with_reducible exact ⟨HS.out.cx, HS.out.cn⟩) | go_keep)
                refine wpAnyH_take (i := 0) (v := ?v0) rfl (by kernel_rfl) (by kernel_rfl) (by kernel_rfl) (fun _ _ _ h => h) (Or.inl ⟨by rfl, ?hy0⟩) (by assumption) ?rest0
                case hy0 => (intro w hSw; (try dsimp only at hSw); go_simp; first | done | with_reducible rfl)
                try simp only [Act.put, List.setIfInBounds_toArray, List.set_cons_zero, List.set_cons_succ]
                refine wpAnyH_take (i := 1) (v := ?v1) rfl (by kernel_rfl) (by kernel_rfl) (by kernel_rfl) (fun _ _ _ h => h) (Or.inl ⟨by rfl, ?hy1⟩) (by assumption) ?rest1
                case hy1 => (intro w hSw; (try dsimp only at hSw); go_simp; first | done | with_reducible rfl)
                try simp only [Act.put, List.setIfInBounds_toArray, List.set_cons_zero, List.set_cons_succ]
                refine wpAnyH_take (i := 2) (v := ?v2) rfl (by kernel_rfl) (by kernel_rfl) (by kernel_rfl) (fun _ _ _ h => h) (Or.inl ⟨by rfl, ?hy2⟩) (by assumption) ?rest2
                case hy2 => (intro w hSw; (try dsimp only at hSw); go_simp; first | done | with_reducible rfl)
                try simp only [Act.put, List.setIfInBounds_toArray, List.set_cons_zero, List.set_cons_succ]
                refine wpAnyH_take (i := 4) (v := ?v4) rfl (by kernel_rfl) (by kernel_rfl) (by kernel_rfl) (fun _ _ _ h => h) (Or.inl ⟨by rfl, ?hy4⟩) (by assumption) ?rest4
                case hy4 => (intro w hSw; (try dsimp only at hSw); go_simp; first | done | with_reducible rfl)
                try simp only [Act.put, List.setIfInBounds_toArray, List.set_cons_zero, List.set_cons_succ]
                refine wpAnyH_ready (rs := [3]) (by kernel_rfl) (by simp) ?_
                refine AllReadyH.cons rfl (fun K hK => ?_) ?_
                rotate_left
                · exact AllReadyH.nil
                go_simp
                skip
                refine hK.out _ _ ?_ (fun hHeld => ?_)
                · (try dsimp only)
                  (first | (with_reducible exact ⟨HS.out.cx, HS.out.cn⟩) | go_keep)
                clear hK K
                try simp only [Act.put, List.setIfInBounds_toArray, List.set_cons_zero, List.set_cons_succ]
                refine wpAnyH_take (i := 5) (v := ?v5) rfl (by kernel_rfl) (by kernel_rfl) (by kernel_rfl) (fun _ _ _ h => h) (Or.inl ⟨by rfl, ?hy5⟩) (by assumption) ?rest5
                case hy5 => (intro w hSw; (try dsimp only at hSw); go_simp; first | done | with_reducible rfl)
                try simp only [Act.put, List.setIfInBounds_toArray, List.set_cons_zero, List.set_cons_succ]
                refine wpAnyH_take (i := 6) (v := ?v6) rfl (by kernel_rfl) (by kernel_rfl) (by kernel_rfl) (fun _ _ _ h => h) (Or.inl ⟨by rfl, ?hy6⟩) (by assumption) ?rest6
                case hy6 => (intro w hSw; (try dsimp only at hSw); go_simp; first | done | with_reducible rfl)
                try simp only [Act.put, List.setIfInBounds_toArray, List.set_cons_zero, List.set_cons_succ]
                refine wpAnyH_take (i := 7) (v := ?v7) rfl (by kernel_rfl) (by kernel_rfl) (by kernel_rfl) (fun _ _ _ h => h) (Or.inl ⟨by rfl, ?hy7⟩) (by assumption) ?rest7
                case hy7 => (intro w hSw; (try dsimp only at hSw); go_simp; first | done | with_reducible rfl)
                try simp only [Act.put, List.setIfInBounds_toArray, List.set_cons_zero, List.set_cons_succ]
                refine wpAnyH_take (i := 8) (v := ?v8) rfl (by kernel_rfl) (by kernel_rfl) (by kernel_rfl) (fun _ _ _ h => h) (Or.inl ⟨by rfl, ?hy8⟩) (by assumption) ?rest8
                case hy8 => (intro w hSw; (try dsimp only at hSw); go_simp; first | done | with_reducible rfl)
                try simp only [Act.put, List.setIfInBounds_toArray, List.set_cons_zero, List.set_cons_succ]
                refine wpAnyH_ready (rs := [9]) (by kernel_rfl) (by simp) ?_
                refine AllReadyH.cons rfl (fun K hK => ?_) ?_
                rotate_left
                · exact AllReadyH.nil
                go_simp
                (go_at_call 45; refine (is_calls _ _).mono ?_; rintro e w1 ⟨rfl, rfl⟩)
                go_wp2_with fail
                refine hK.out _ _ ?_ (fun hHeld => ?_)
                · (try dsimp only)
                  (first | (with_reducible exact ⟨HS.out.cx, HS.out.cn⟩) | go_keep)
                clear hK K
                try simp only [Act.put, List.setIfInBounds_toArray, List.set_cons_zero, List.set_cons_succ]
                refine wpAnyH_ready (rs := [10]) (by kernel_rfl) (by simp) ?_
                refine AllReadyH.cons rfl (fun K hK => ?_) ?_
                rotate_left
                · exact AllReadyH.nil
                go_simp
                (go_at_call 44; refine Calls.mono (HS.out.take_is hs H4.out) ?_; rintro e w2 ⟨rfl, h2, hk2⟩; have n0_ := Aside0.mk (show SC w0 w Ws w2 g bx bn s ((j + 1 : Nat) : Int) _ from h2); clear HS h2 hk2; have HS := n0_; clear n0_)
                go_wp2_with fail
                refine hK.out _ _ ?_ (fun hHeld => ?_)
                · (try dsimp only)
                  (first | (with_reducible exact ⟨HS.out.cx, HS.out.cn⟩) | go_keep)
                clear hK K
                try simp only [Act.put, List.setIfInBounds_toArray, List.set_cons_zero, List.set_cons_succ]
                refine wpAnyH_take (i := 11) (v := ?v11) rfl (by kernel_rfl) (by kernel_rfl) (by kernel_rfl) (fun _ _ _ h => h) (Or.inl ⟨by rfl, ?hy11⟩) (by assumption) ?rest11
                case hy11 => (intro w hSw; (try dsimp only at hSw); go_simp; first | done | with_reducible rfl)
                try simp only [Act.put, List.setIfInBounds_toArray, List.set_cons_zero, List.set_cons_succ]
                refine wpAnyH_take (i := 12) (v := ?v12) rfl (by kernel_rfl) (by kernel_rfl) (by kernel_rfl) (fun _ _ _ h => h) (Or.inl ⟨by rfl, ?hy12⟩) (by assumption) ?rest12
                case hy12 => (intro w hSw; (try dsimp only at hSw); go_simp; first | done | with_reducible rfl)
                try simp only [Act.put, List.setIfInBounds_toArray, List.set_cons_zero, List.set_cons_succ]
                refine wpAnyH_done (by kernel_rfl) ?_ _
                clear hwr hcx hca hcn lx ln lg
                have hcx6 := HS.out.cx
                go_wp2_with (go_at_call 39; refine Calls.mono (HS.out.must hs (part_ok w0 _ g s _ false) H5.out) ?_; rintro e w4 ⟨he, h2, hk2⟩; simp only [if_true, Bool.false_eq_true, if_false] at he h2; subst he; have n0_ := Aside0.mk h2; clear HS h2 hk2 hcx6; have HS := n0_; clear n0_)
                go_roundg k1
                case measure => omega
                case rel => exact ⟨j + 2, ⟨by omega⟩, HR3, HS⟩
              | false =>
                have HR3 := Aside0.mk (show (false, j + 1) = R by have h2 := HR2.out; rw [if_pos ⟨h39, hb4⟩, if_neg (by rw [hb5]; simp)] at h2; exact h2)
                clear hb4 hb5 HR2
                go_wp2_with fail
                go_quiet (fail)
                go_wp2_with (go_at_call 44; refine Calls.mono ((HS.out.drewN nq).take hs (part_ok w0 _ g s _ false) H3.out) ?_; rintro e w3 ⟨rfl, h2, hk2⟩; have n0_ := Aside0.mk (show SC w0 w Ws w3 g bx bn s ((j : Nat) : Int) _ from h2); clear HS h2 hk2 hcx hca hcn; have HS := n0_; clear n0_)
                have hcx := HS.out.cx
                have hca := HS.out.ca
                have hcn := HS.out.cn
                have lx := blk_lt HS.out.X
                have ln := blk_lt HS.out.N
                have lg := blk_lt HS.out.I.1
                have hj38 : decide ((j : Int) - i < 39) = true := decide_eq_true hj39
                have hwr : IntKind.i64.wrap ((j : Int) - i) = (j : Int) - i := IntWalk.i64_in _ (by omega)
                refine wp_region_held_drew (S := (fun w' => w'.cell? ⟨bx, 0, none⟩ = some (.pointer (some ⟨g, 0, none⟩)) ∧ w'.cell? ⟨bn, 0, none⟩ = some (.int .i64 i))) (by kernel_rfl) ?_ (fun hHeld => ?_)
                · (try dsimp only)
                  (first | (with_reducible exact ⟨HS.out.cx, HS.out.cn⟩) | go_keep)
                refine wpAnyH_take (i := 0) (v := ?vb0) rfl (by kernel_rfl) (by kernel_rfl) (by kernel_rfl) (fun _ _ _ h => h) (Or.inl ⟨by rfl, ?hyb0⟩) (by assumption) ?restb0
                case hyb0 => (intro w hSw; (try dsimp only at hSw); go_simp; first | done | with_reducible rfl)
                try simp only [Act.put, List.setIfInBounds_toArray, List.set_cons_zero, List.set_cons_succ]
                refine wpAnyH_take (i := 1) (v := ?vb1) rfl (by kernel_rfl) (by kernel_rfl) (by kernel_rfl) (fun _ _ _ h => h) (Or.inl ⟨by rfl, ?hyb1⟩) (by assumption) ?restb1
                case hyb1 => (intro w hSw; (try dsimp only at hSw); go_simp; first | done | with_reducible rfl)
                try simp only [Act.put, List.setIfInBounds_toArray, List.set_cons_zero, List.set_cons_succ]
                refine wpAnyH_take (i := 2) (v := ?vb2) rfl (by kernel_rfl) (by kernel_rfl) (by kernel_rfl) (fun _ _ _ h => h) (Or.inl ⟨by rfl, ?hyb2⟩) (by assumption) ?restb2
                case hyb2 => (intro w hSw; (try dsimp only at hSw); go_simp; first | done | with_reducible rfl)
                try simp only [Act.put, List.setIfInBounds_toArray, List.set_cons_zero, List.set_cons_succ]
                refine wpAnyH_take (i := 4) (v := ?vb4) rfl (by kernel_rfl) (by kernel_rfl) (by kernel_rfl) (fun _ _ _ h => h) (Or.inl ⟨by rfl, ?hyb4⟩) (by assumption) ?restb4
                case hyb4 => (intro w hSw; (try dsimp only at hSw); go_simp; first | done | with_reducible rfl)
                try simp only [Act.put, List.setIfInBounds_toArray, List.set_cons_zero, List.set_cons_succ]
                refine wpAnyH_ready (rs := [3]) (by kernel_rfl) (by simp) ?_
                refine AllReadyH.cons rfl (fun K hK => ?_) ?_
                rotate_left
                · exact AllReadyH.nil
                go_simp
                skip
                refine hK.out _ _ ?_ (fun hHeld => ?_)
                · (try dsimp only)
                  (first | (with_reducible exact ⟨HS.out.cx, HS.out.cn⟩) | go_keep)
                clear hK K
                try simp only [Act.put, List.setIfInBounds_toArray, List.set_cons_zero, List.set_cons_succ]
                refine wpAnyH_take (i := 5) (v := ?vb5) rfl (by kernel_rfl) (by kernel_rfl) (by kernel_rfl) (fun _ _ _ h => h) (Or.inl ⟨by rfl, ?hyb5⟩) (by assumption) ?restb5
                case hyb5 => (intro w hSw; (try dsimp only at hSw); go_simp; first | done | with_reducible rfl)
                try simp only [Act.put, List.setIfInBounds_toArray, List.set_cons_zero, List.set_cons_succ]
                refine wpAnyH_take (i := 6) (v := ?vb6) rfl (by kernel_rfl) (by kernel_rfl) (by kernel_rfl) (fun _ _ _ h => h) (Or.inl ⟨by rfl, ?hyb6⟩) (by assumption) ?restb6
                case hyb6 => (intro w hSw; (try dsimp only at hSw); go_simp; first | done | with_reducible rfl)
                try simp only [Act.put, List.setIfInBounds_toArray, List.set_cons_zero, List.set_cons_succ]
                refine wpAnyH_take (i := 7) (v := ?vb7) rfl (by kernel_rfl) (by kernel_rfl) (by kernel_rfl) (fun _ _ _ h => h) (Or.inl ⟨by rfl, ?hyb7⟩) (by assumption) ?restb7
                case hyb7 => (intro w hSw; (try dsimp only at hSw); go_simp; first | done | with_reducible rfl)
                try simp only [Act.put, List.setIfInBounds_toArray, List.set_cons_zero, List.set_cons_succ]
                refine wpAnyH_take (i := 8) (v := ?vb8) rfl (by kernel_rfl) (by kernel_rfl) (by kernel_rfl) (fun _ _ _ h => h) (Or.inl ⟨by rfl, ?hyb8⟩) (by assumption) ?restb8
                case hyb8 => (intro w hSw; (try dsimp only at hSw); go_simp; first | done | with_reducible rfl)
                try simp only [Act.put, List.setIfInBounds_toArray, List.set_cons_zero, List.set_cons_succ]
                refine wpAnyH_ready (rs := [9]) (by kernel_rfl) (by simp) ?_
                refine AllReadyH.cons rfl (fun K hK => ?_) ?_
                rotate_left
                · exact AllReadyH.nil
                go_simp
                (go_at_call 45; refine (is_calls _ _).mono ?_; rintro e w1 ⟨rfl, rfl⟩)
                go_wp2_with fail
                refine hK.out _ _ ?_ (fun hHeld => ?_)
                · (try dsimp only)
                  (first | (with_reducible exact ⟨HS.out.cx, HS.out.cn⟩) | go_keep)
                clear hK K
                try simp only [Act.put, List.setIfInBounds_toArray, List.set_cons_zero, List.set_cons_succ]
                refine wpAnyH_ready (rs := [10]) (by kernel_rfl) (by simp) ?_
                refine AllReadyH.cons rfl (fun K hK => ?_) ?_
                rotate_left
                · exact AllReadyH.nil
                go_simp
                (go_at_call 44; refine Calls.mono (HS.out.take_is hs H4.out) ?_; rintro e w2 ⟨rfl, h2, hk2⟩; have n0_ := Aside0.mk (show SC w0 w Ws w2 g bx bn s ((j + 1 : Nat) : Int) _ from h2); clear HS h2 hk2; have HS := n0_; clear n0_)
                go_wp2_with fail
                refine hK.out _ _ ?_ (fun hHeld => ?_)
                · (try dsimp only)
                  (first | (with_reducible exact ⟨HS.out.cx, HS.out.cn⟩) | go_keep)
                clear hK K
                try simp only [Act.put, List.setIfInBounds_toArray, List.set_cons_zero, List.set_cons_succ]
                refine wpAnyH_take (i := 11) (v := ?vb11) rfl (by kernel_rfl) (by kernel_rfl) (by kernel_rfl) (fun _ _ _ h => h) (Or.inl ⟨by rfl, ?hyb11⟩) (by assumption) ?restb11
                case hyb11 => (intro w hSw; (try dsimp only at hSw); go_simp; first | done | with_reducible rfl)
                try simp only [Act.put, List.setIfInBounds_toArray, List.set_cons_zero, List.set_cons_succ]
                refine wpAnyH_take (i := 12) (v := ?vb12) rfl (by kernel_rfl) (by kernel_rfl) (by kernel_rfl) (fun _ _ _ h => h) (Or.inl ⟨by rfl, ?hyb12⟩) (by assumption) ?restb12
                case hyb12 => (intro w hSw; (try dsimp only at hSw); go_simp; first | done | with_reducible rfl)
                try simp only [Act.put, List.setIfInBounds_toArray, List.set_cons_zero, List.set_cons_succ]
                refine wpAnyH_done (by kernel_rfl) ?_ _
                clear hwr hcx hca hcn lx ln lg
                have hcx6 := HS.out.cx
                go_wp2_with (go_at_call 39; refine Calls.mono (HS.out.must hs (part_ok w0 _ g s _ false) H5.out) ?_; rintro e w4 ⟨he, h2, hk2⟩; simp only [if_true, Bool.false_eq_true, if_false] at he h2; subst he; have n0_ := Aside0.mk h2; clear HS h2 hk2 hcx6; have HS := n0_; clear n0_)
                have hR3 := HR3.out
                subst hR3
                exact ⟨rfl, HE.out.symm, by rw [HJ0.out]; exact HS.out⟩
            | false =>
              have HR3 := Aside0.mk (show (true, j) = R by have h2 := HR2.out; rw [if_neg (by rw [hb4]; simp)] at h2; exact h2)
              clear hb4 HR2
              go_wp2_with fail
              go_quiet (fail)
              go_wp2_with (go_at_call 44; refine Calls.mono ((HS.out.drewN nq).take hs (part_ok w0 _ g s _ false) H3.out) ?_; rintro e w3 ⟨rfl, h2, hk2⟩; have n0_ := Aside0.mk (show SC w0 w Ws w3 g bx bn s ((j : Nat) : Int) _ from h2); clear HS h2 hk2 hcx hca hcn; have HS := n0_; clear n0_)
              have hcx := HS.out.cx
              have hca := HS.out.ca
              have hcn := HS.out.cn
              have lx := blk_lt HS.out.X
              have ln := blk_lt HS.out.N
              have lg := blk_lt HS.out.I.1
              have hj38 : decide ((j : Int) - i < 39) = true := decide_eq_true hj39
              have hwr : IntKind.i64.wrap ((j : Int) - i) = (j : Int) - i := IntWalk.i64_in _ (by omega)
              go_region_held3 (fun w' => w'.cell? ⟨bx, 0, none⟩ = some (.pointer (some ⟨g, 0, none⟩)) ∧ w'.cell? ⟨g, 1, none⟩ = some (.int .i64 j) ∧ w'.cell? ⟨bn, 0, none⟩ = some (.int .i64 i))
                (first | (with_reducible exact ⟨HS.out.cx, HS.out.ca, HS.out.cn⟩) | go_keep)
                (first | (go_at_call 45; refine (is_calls _ _).mono ?_; rintro e w1 ⟨rfl, rfl⟩) | (go_at_call 44; refine Calls.mono (HS.out.take_is hs H4.out) ?_; rintro e w2 ⟨rfl, h2, hk2⟩; have n0_ := Aside0.mk (show SC w0 w Ws w2 g bx bn s ((j : Nat) : Int) _ from h2); clear HS h2 hk2; have HS := n0_; clear n0_))
              clear hwr
              go_wp2_with fail
              refine bodyPost_ret (results_none rfl _ _ _) rfl ?_
              have hR3 := HR3.out
              subst hR3
              exact ⟨HE.out.symm, by rw [HJ0.out]; exact HS.out⟩
          · have HR3 := Aside0.mk (show (true, j) = R by have h2 := HR2.out; rw [if_neg (fun e => h39 e.1)] at h2; exact h2)
            have hj39 : ¬ (j : Int) - i < 39 := by omega
            have hj38 : decide ((j : Int) - i < 39) = false := decide_eq_false hj39
            clear HR2
            go_wp2_with fail
            go_quiet (fail)
            go_wp2_with (go_at_call 44; refine Calls.mono ((HS.out.drewN nq).take hs (part_ok w0 _ g s _ false) H3.out) ?_; rintro e w3 ⟨rfl, h2, hk2⟩; have n0_ := Aside0.mk (show SC w0 w Ws w3 g bx bn s ((j : Nat) : Int) _ from h2); clear HS h2 hk2 hcx hca hcn; have HS := n0_; clear n0_)
            have hcx := HS.out.cx
            have hca := HS.out.ca
            have hcn := HS.out.cn
            go_quiet (fail)
            go_wp2_with fail
            refine bodyPost_ret (results_none rfl _ _ _) rfl ?_
            have hR3 := HR3.out
            subst hR3
            exact ⟨HE.out.symm, by rw [HJ0.out]; exact HS.out.drewN _⟩
      · have hj3 : (i : Int) + 40 ≤ (j : Int) := by omega
        have hR3 : (true, j) = R := by have h2 := HR.out; rw [scIdLoop_stop hk] at h2; exact h2
        subst hR3
        go_wp2_with fail
        go_quiet (fail)
        go_wp2_with fail
        go_end0
        exact ⟨HE.out.symm, by rw [HJ0.out]; exact HS.out.drewN _⟩
end Go.Proofs.Ytkpicinbckedoaa.Q
