/- What is proved: what the statement OrdotextOffsetsSaid needs, part 6 of 12; the last part proves the statement. No condition. -/
import Derived.Test.YtlchefonlfokgaaDoorZOOs4
import Derived.Deep.RegionLaw
set_option maxHeartbeats 8000000
set_option maxRecDepth 100000
set_option linter.unusedVariables false
set_option linter.unusedSimpArgs false
section
namespace Go.Proofs.YtlchefonlfokgaaDoor.Q
open Go.RowKit Go.Proofs.YtlchefonlfokgaaDoorW.PrintWords Go.Proofs.YtlchefonlfokgaaDoorW.PrintLast Go.Proofs.YtlchefonlfokgaaDoorW.PrintMore
set_option maxRecDepth 100000
def scIdLoop (s : ByteArray) (i : Nat) : Nat → Nat → Bool × Nat
 | 0, j => (true, j)
 | k + 1, j =>
  if j < i + 40 then
   if scTake s j pPart then scIdLoop s i k (j + 1)
   else if j < i + 39 ∧ scTake s j (pIs 45) = true then
    if scTake s (j + 1) pPart then scIdLoop s i k (j + 2) else (false, j + 1)
   else (true, j)
  else (true, j)
def scIdent (s : ByteArray) (i : Nat) : Bool × Nat := if scTake s i pLetter then scIdLoop s i 39 (i + 1) else (false, i)
theorem scIdLoop_stop {s : ByteArray} {i k j : Nat} (h : ¬ j < i + 40) : scIdLoop s i k j = (true, j) := by
 cases k with
 | zero => rfl
 | succ k => rw [scIdLoop, if_neg h]
theorem ident1 (w0 w Ws W : World) (g bx bn : Nat) (s : ByteArray) (i : Nat) (v0 : Int) (hs : s.size ≤ 4611686018427387904) (h : SC w0 w Ws W g bx bn s (i : Int) (.int .i64 v0)) :
  Calls Tryd.prog 89 #[.pointer (some ⟨bx, 0, none⟩), .pointer (some ⟨bn, 0, none⟩)] W fun e W' => e = (if (scIdent s i).1 then .returned (.tuple #[]) else .panicked scFail) ∧ SC w0 w Ws W' g bx bn s ((scIdent s i).2 : Int) (.int .i64 i) := by
 obtain ⟨R, hR⟩ : ∃ R, R = scIdent s i := ⟨_, rfl⟩
 rw [← hR]
 obtain ⟨E, hE⟩ : ∃ E : Ending, E = (if R.1 then .returned (.tuple #[]) else .panicked scFail) := ⟨_, rfl⟩
 rw [← hE]
 obtain ⟨J, hJ⟩ : ∃ J, J = R.2 := ⟨_, rfl⟩
 rw [← hJ]
 have HE := Aside0.mk hE
 have HJ0 := Aside0.mk hJ
 clear hE hJ
 have hcx := h.cx
 have hca := h.ca
 have hcn := h.cn
 have hfn := h.fn
 have HS := Aside0.mk (h.setN (.int .i64 i))
 clear h
 obtain ⟨b0, hb0⟩ : ∃ b, scTake s i pLetter = b := ⟨_, rfl⟩
 have H0 := Aside0.mk hb0
 cases b0 with
 | false =>
  have hR2 : R = (false, i) := by rw [hR, scIdent, hb0]; rfl
  subst hR2
  clear hR hb0
  go_enter Tryd.func89, Tryd.ntmps89
  have hcx1 := HS.out.cx
  go_wp2_with (go_at_call 45; refine Calls.mono (HS.out.must hs (letter_ok w0 _ g s _ false) H0.out) ?_; rintro e w2 ⟨he, h2, hk2⟩; simp only [if_true, Bool.false_eq_true, if_false] at he h2; subst he; have n0_ := Aside0.mk h2; clear HS h2 hk2 hcx hca hcn hfn hcx1; have HS := n0_; clear n0_)
  exact ⟨rfl, HE.out.symm, by rw [HJ0.out]; exact HS.out⟩
 | true =>
  have hR2 : scIdLoop s i 39 (i + 1) = R := by rw [hR, scIdent, hb0]; rfl
  have HR2 := Aside0.mk hR2
  have hil := scTake_lt hb0
  clear hR hb0 hR2
  go_enter Tryd.func89, Tryd.ntmps89
  have hcx1 := HS.out.cx
  go_wp2_with (go_at_call 45; refine Calls.mono (HS.out.must hs (letter_ok w0 _ g s _ false) H0.out) ?_; rintro e w2 ⟨he, h2, hk2⟩; simp only [if_true, Bool.false_eq_true, if_false] at he h2; subst he; have n0_ := Aside0.mk h2; clear HS h2 hk2 hcx hca hcn hfn hcx1; have HS := n0_; clear n0_)
  go_loopg [19] 39 (fun kq v19 w' => ∃ j : Nat, Aside0 (i + 40 ≤ j + kq ∧ i < j ∧ j ≤ s.size) ∧ Aside0 (scIdLoop s i kq j = R) ∧ Aside0 (SC w0 w Ws w' g bx bn s (j : Int) (.int .i64 i)))
  case atStart => exact ⟨i + 1, ⟨by omega⟩, HR2, HS⟩
  case round =>
   clear HS HR2
   obtain ⟨j, HJ, HR, HS⟩ := hrel
   have hcx := HS.out.cx
   have hca := HS.out.ca
   have hcn := HS.out.cn
   have hj := HJ.out.1
   have hj2 := HJ.out.2.1
   have hj4 := HJ.out.2.2
   by_cases hk : j < i + 40
   ·obtain ⟨k1, rfl⟩ : ∃ m, gk = m + 1 := ⟨gk - 1, by omega⟩
    have hj3 : (j : Int) < i + 40 := by omega
    obtain ⟨b3, hb3⟩ : ∃ b, scTake s j pPart = b := ⟨_, rfl⟩
    have H3 := Aside0.mk hb3
    have HR1 := Aside0.mk (show (if scTake s j pPart then scIdLoop s i k1 (j + 1) else if j < i + 39 ∧ scTake s j (pIs 45) = true then if scTake s (j + 1) pPart then scIdLoop s i k1 (j + 2) else (false, j + 1) else (true, j)) = R by have h2 := HR.out; rw [scIdLoop, if_pos hk] at h2; exact h2)
    cases b3 with
    | true =>
     have HR2 := Aside0.mk (show scIdLoop s i k1 (j + 1) = R by have h2 := HR1.out; rw [if_pos hb3] at h2; exact h2)
     have hlt := scTake_lt hb3
     clear hb3 HR HR1
     go_wp2_with fail
     go_quiet (fail)
     go_wp2_with (go_at_call 76; refine Calls.mono ((HS.out.drewN nq).take hs (part_ok w0 _ g s _ false) H3.out) ?_; rintro e w3 ⟨rfl, h2, hk2⟩; have n0_ := Aside0.mk (show SC w0 w Ws w3 g bx bn s ((j + 1 : Nat) : Int) _ from h2); clear HS h2 hk2 hcx hca hcn; have HS := n0_; clear n0_)
     go_roundg k1
     case measure => omega
     case rel => exact ⟨j + 1, ⟨by omega⟩, HR2, HS⟩
    | false =>
     have HR2 := Aside0.mk (show (if j < i + 39 ∧ scTake s j (pIs 45) = true then if scTake s (j + 1) pPart then scIdLoop s i k1 (j + 2) else (false, j + 1) else (true, j)) = R by have h2 := HR1.out; rw [if_neg (by rw [hb3]; simp)] at h2; exact h2)
     clear hb3 HR HR1
     by_cases h39 : j < i + 39
     ·have hj39 : (j : Int) - i < 39 := by omega
      obtain ⟨b4, hb4⟩ : ∃ b, scTake s j (pIs 45) = b := ⟨_, rfl⟩
      have H4 := Aside0.mk hb4
      cases b4 with
      | true =>
       have hjl := scTake_lt hb4
       obtain ⟨b5, hb5⟩ : ∃ b, scTake s (j + 1) pPart = b := ⟨_, rfl⟩
       have H5 := Aside0.mk hb5
       cases b5 with
       | true =>
        have HR3 := Aside0.mk (show scIdLoop s i k1 (j + 2) = R by have h2 := HR2.out; rw [if_pos ⟨h39, hb4⟩, if_pos hb5] at h2; exact h2)
        have hjl2 := scTake_lt hb5
        clear hb4 hb5 HR2
        go_wp2_with fail
        go_quiet (fail)
        go_wp2_with (go_at_call 76; refine Calls.mono ((HS.out.drewN nq).take hs (part_ok w0 _ g s _ false) H3.out) ?_; rintro e w3 ⟨rfl, h2, hk2⟩; have n0_ := Aside0.mk (show SC w0 w Ws w3 g bx bn s ((j : Nat) : Int) _ from h2); clear HS h2 hk2 hcx hca hcn; have HS := n0_; clear n0_)
        have hcx := HS.out.cx
        have hca := HS.out.ca
        have hcn := HS.out.cn
        have lx := blk_lt HS.out.X
        have ln := blk_lt HS.out.N
        have lg := blk_lt HS.out.I.1
        have hj38 : decide ((j : Int) - i < 39) = true := decide_eq_true hj39
        have hwr : IntKind.i64.wrap ((j : Int) - i) = (j : Int) - i := IntWalk.i64_in _ (by omega)
        refine wp_region_held_drew (S := (fun w' => w'.cell? ⟨bx, 0, none⟩ = some (.pointer (some ⟨g, 0, none⟩)) ∧ w'.cell? ⟨bn, 0, none⟩ = some (.int .i64 i))) (by kernel_rfl) ?_ (fun hHeld => ?_)
        ·(try dsimp only)
         (first | (with_reducible exact ⟨HS.out.cx, HS.out.cn⟩) | go_keep)
        refine wpAnyH_take (i := 0) (v := ?v0) rfl (by kernel_rfl) (by kernel_rfl) (by kernel_rfl) (fun _ _ _ h => h) (Or.inl ⟨by rfl, ?hy0⟩) (by assumption) ?rest0
        case hy0 => (intro w hSw; (try dsimp only at hSw); go_simp; first | done | with_reducible rfl)
        try simp only [Act.put, List.setIfInBounds_toArray, List.set_cons_zero, List.set_cons_succ]
        refine wpAnyH_take (i := 1) (v := ?v1) rfl (by kernel_rfl) (by kernel_rfl) (by kernel_rfl) (fun _ _ _ h => h) (Or.inl ⟨by rfl, ?hy1⟩) (by assumption) ?rest1
        case hy1 => (intro w hSw; (try dsimp only at hSw); go_simp; first | done | with_reducible rfl)
        try simp only [Act.put, List.setIfInBounds_toArray, List.set_cons_zero, List.set_cons_succ]
        refine wpAnyH_take (i := 2) (v := ?v2) rfl (by kernel_rfl) (by kernel_rfl) (by kernel_rfl) (fun _ _ _ h => h) (Or.inl ⟨by rfl, ?hy2⟩) (by assumption) ?rest2
        case hy2 => (intro w hSw; (try dsimp only at hSw); go_simp; first | done | with_reducible rfl)
        try simp only [Act.put, List.setIfInBounds_toArray, List.set_cons_zero, List.set_cons_succ]
        refine wpAnyH_take (i := 4) (v := ?v4) rfl (by kernel_rfl) (by kernel_rfl) (by kernel_rfl) (fun _ _ _ h => h) (Or.inl ⟨by rfl, ?hy4⟩) (by assumption) ?rest4
        case hy4 => (intro w hSw; (try dsimp only at hSw); go_simp; first | done | with_reducible rfl)
        try simp only [Act.put, List.setIfInBounds_toArray, List.set_cons_zero, List.set_cons_succ]
        refine wpAnyH_ready (rs := [3]) (by kernel_rfl) (by simp) ?_
        refine AllReadyH.cons rfl (fun K hK => ?_) ?_
        rotate_left
        ·exact AllReadyH.nil
        go_simp
        skip
        refine hK.out _ _ ?_ (fun hHeld => ?_)
        ·(try dsimp only)
         (first | (with_reducible exact ⟨HS.out.cx, HS.out.cn⟩) | go_keep)
        clear hK K
        try simp only [Act.put, List.setIfInBounds_toArray, List.set_cons_zero, List.set_cons_succ]
        refine wpAnyH_take (i := 5) (v := ?v5) rfl (by kernel_rfl) (by kernel_rfl) (by kernel_rfl) (fun _ _ _ h => h) (Or.inl ⟨by rfl, ?hy5⟩) (by assumption) ?rest5
        case hy5 => (intro w hSw; (try dsimp only at hSw); go_simp; first | done | with_reducible rfl)
        try simp only [Act.put, List.setIfInBounds_toArray, List.set_cons_zero, List.set_cons_succ]
        refine wpAnyH_take (i := 6) (v := ?v6) rfl (by kernel_rfl) (by kernel_rfl) (by kernel_rfl) (fun _ _ _ h => h) (Or.inl ⟨by rfl, ?hy6⟩) (by assumption) ?rest6
        case hy6 => (intro w hSw; (try dsimp only at hSw); go_simp; first | done | with_reducible rfl)
        try simp only [Act.put, List.setIfInBounds_toArray, List.set_cons_zero, List.set_cons_succ]
        refine wpAnyH_take (i := 7) (v := ?v7) rfl (by kernel_rfl) (by kernel_rfl) (by kernel_rfl) (fun _ _ _ h => h) (Or.inl ⟨by rfl, ?hy7⟩) (by assumption) ?rest7
        case hy7 => (intro w hSw; (try dsimp only at hSw); go_simp; first | done | with_reducible rfl)
        try simp only [Act.put, List.setIfInBounds_toArray, List.set_cons_zero, List.set_cons_succ]
        refine wpAnyH_take (i := 8) (v := ?v8) rfl (by kernel_rfl) (by kernel_rfl) (by kernel_rfl) (fun _ _ _ h => h) (Or.inl ⟨by rfl, ?hy8⟩) (by assumption) ?rest8
        case hy8 => (intro w hSw; (try dsimp only at hSw); go_simp; first | done | with_reducible rfl)
        try simp only [Act.put, List.setIfInBounds_toArray, List.set_cons_zero, List.set_cons_succ]
        refine wpAnyH_ready (rs := [9]) (by kernel_rfl) (by simp) ?_
        refine AllReadyH.cons rfl (fun K hK => ?_) ?_
        rotate_left
        ·exact AllReadyH.nil
        go_simp
        (go_at_call 78; refine (is_calls _ _).mono ?_; rintro e w1 ⟨rfl, rfl⟩)
        go_wp2_with fail
        refine hK.out _ _ ?_ (fun hHeld => ?_)
        ·(try dsimp only)
         (first | (with_reducible exact ⟨HS.out.cx, HS.out.cn⟩) | go_keep)
        clear hK K
        try simp only [Act.put, List.setIfInBounds_toArray, List.set_cons_zero, List.set_cons_succ]
        refine wpAnyH_ready (rs := [10]) (by kernel_rfl) (by simp) ?_
        refine AllReadyH.cons rfl (fun K hK => ?_) ?_
        rotate_left
        ·exact AllReadyH.nil
        go_simp
        (go_at_call 76; refine Calls.mono (HS.out.take_is hs H4.out) ?_; rintro e w2 ⟨rfl, h2, hk2⟩; have n0_ := Aside0.mk (show SC w0 w Ws w2 g bx bn s ((j + 1 : Nat) : Int) _ from h2); clear HS h2 hk2; have HS := n0_; clear n0_)
        go_wp2_with fail
        refine hK.out _ _ ?_ (fun hHeld => ?_)
        ·(try dsimp only)
         (first | (with_reducible exact ⟨HS.out.cx, HS.out.cn⟩) | go_keep)
        clear hK K
        try simp only [Act.put, List.setIfInBounds_toArray, List.set_cons_zero, List.set_cons_succ]
        refine wpAnyH_take (i := 11) (v := ?v11) rfl (by kernel_rfl) (by kernel_rfl) (by kernel_rfl) (fun _ _ _ h => h) (Or.inl ⟨by rfl, ?hy11⟩) (by assumption) ?rest11
        case hy11 => (intro w hSw; (try dsimp only at hSw); go_simp; first | done | with_reducible rfl)
        try simp only [Act.put, List.setIfInBounds_toArray, List.set_cons_zero, List.set_cons_succ]
        refine wpAnyH_take (i := 12) (v := ?v12) rfl (by kernel_rfl) (by kernel_rfl) (by kernel_rfl) (fun _ _ _ h => h) (Or.inl ⟨by rfl, ?hy12⟩) (by assumption) ?rest12
        case hy12 => (intro w hSw; (try dsimp only at hSw); go_simp; first | done | with_reducible rfl)
        try simp only [Act.put, List.setIfInBounds_toArray, List.set_cons_zero, List.set_cons_succ]
        refine wpAnyH_done (by kernel_rfl) ?_ _
        clear hwr hcx hca hcn lx ln lg
        have hcx6 := HS.out.cx
        go_wp2_with (go_at_call 45; refine Calls.mono (HS.out.must hs (part_ok w0 _ g s _ false) H5.out) ?_; rintro e w4 ⟨he, h2, hk2⟩; simp only [if_true, Bool.false_eq_true, if_false] at he h2; subst he; have n0_ := Aside0.mk h2; clear HS h2 hk2 hcx6; have HS := n0_; clear n0_)
        go_roundg k1
        case measure => omega
        case rel => exact ⟨j + 2, ⟨by omega⟩, HR3, HS⟩
       | false =>
        have HR3 := Aside0.mk (show (false, j + 1) = R by have h2 := HR2.out; rw [if_pos ⟨h39, hb4⟩, if_neg (by rw [hb5]; simp)] at h2; exact h2)
        clear hb4 hb5 HR2
        go_wp2_with fail
        go_quiet (fail)
        go_wp2_with (go_at_call 76; refine Calls.mono ((HS.out.drewN nq).take hs (part_ok w0 _ g s _ false) H3.out) ?_; rintro e w3 ⟨rfl, h2, hk2⟩; have n0_ := Aside0.mk (show SC w0 w Ws w3 g bx bn s ((j : Nat) : Int) _ from h2); clear HS h2 hk2 hcx hca hcn; have HS := n0_; clear n0_)
        have hcx := HS.out.cx
        have hca := HS.out.ca
        have hcn := HS.out.cn
        have lx := blk_lt HS.out.X
        have ln := blk_lt HS.out.N
        have lg := blk_lt HS.out.I.1
        have hj38 : decide ((j : Int) - i < 39) = true := decide_eq_true hj39
        have hwr : IntKind.i64.wrap ((j : Int) - i) = (j : Int) - i := IntWalk.i64_in _ (by omega)
        refine wp_region_held_drew (S := (fun w' => w'.cell? ⟨bx, 0, none⟩ = some (.pointer (some ⟨g, 0, none⟩)) ∧ w'.cell? ⟨bn, 0, none⟩ = some (.int .i64 i))) (by kernel_rfl) ?_ (fun hHeld => ?_)
        ·(try dsimp only)
         (first | (with_reducible exact ⟨HS.out.cx, HS.out.cn⟩) | go_keep)
        refine wpAnyH_take (i := 0) (v := ?vb0) rfl (by kernel_rfl) (by kernel_rfl) (by kernel_rfl) (fun _ _ _ h => h) (Or.inl ⟨by rfl, ?hyb0⟩) (by assumption) ?restb0
        case hyb0 => (intro w hSw; (try dsimp only at hSw); go_simp; first | done | with_reducible rfl)
        try simp only [Act.put, List.setIfInBounds_toArray, List.set_cons_zero, List.set_cons_succ]
        refine wpAnyH_take (i := 1) (v := ?vb1) rfl (by kernel_rfl) (by kernel_rfl) (by kernel_rfl) (fun _ _ _ h => h) (Or.inl ⟨by rfl, ?hyb1⟩) (by assumption) ?restb1
        case hyb1 => (intro w hSw; (try dsimp only at hSw); go_simp; first | done | with_reducible rfl)
        try simp only [Act.put, List.setIfInBounds_toArray, List.set_cons_zero, List.set_cons_succ]
        refine wpAnyH_take (i := 2) (v := ?vb2) rfl (by kernel_rfl) (by kernel_rfl) (by kernel_rfl) (fun _ _ _ h => h) (Or.inl ⟨by rfl, ?hyb2⟩) (by assumption) ?restb2
        case hyb2 => (intro w hSw; (try dsimp only at hSw); go_simp; first | done | with_reducible rfl)
        try simp only [Act.put, List.setIfInBounds_toArray, List.set_cons_zero, List.set_cons_succ]
        refine wpAnyH_take (i := 4) (v := ?vb4) rfl (by kernel_rfl) (by kernel_rfl) (by kernel_rfl) (fun _ _ _ h => h) (Or.inl ⟨by rfl, ?hyb4⟩) (by assumption) ?restb4
        case hyb4 => (intro w hSw; (try dsimp only at hSw); go_simp; first | done | with_reducible rfl)
        try simp only [Act.put, List.setIfInBounds_toArray, List.set_cons_zero, List.set_cons_succ]
        refine wpAnyH_ready (rs := [3]) (by kernel_rfl) (by simp) ?_
        refine AllReadyH.cons rfl (fun K hK => ?_) ?_
        rotate_left
        ·exact AllReadyH.nil
        go_simp
        skip
        refine hK.out _ _ ?_ (fun hHeld => ?_)
        ·(try dsimp only)
         (first | (with_reducible exact ⟨HS.out.cx, HS.out.cn⟩) | go_keep)
        clear hK K
        try simp only [Act.put, List.setIfInBounds_toArray, List.set_cons_zero, List.set_cons_succ]
        refine wpAnyH_take (i := 5) (v := ?vb5) rfl (by kernel_rfl) (by kernel_rfl) (by kernel_rfl) (fun _ _ _ h => h) (Or.inl ⟨by rfl, ?hyb5⟩) (by assumption) ?restb5
        case hyb5 => (intro w hSw; (try dsimp only at hSw); go_simp; first | done | with_reducible rfl)
        try simp only [Act.put, List.setIfInBounds_toArray, List.set_cons_zero, List.set_cons_succ]
        refine wpAnyH_take (i := 6) (v := ?vb6) rfl (by kernel_rfl) (by kernel_rfl) (by kernel_rfl) (fun _ _ _ h => h) (Or.inl ⟨by rfl, ?hyb6⟩) (by assumption) ?restb6
        case hyb6 => (intro w hSw; (try dsimp only at hSw); go_simp; first | done | with_reducible rfl)
        try simp only [Act.put, List.setIfInBounds_toArray, List.set_cons_zero, List.set_cons_succ]
        refine wpAnyH_take (i := 7) (v := ?vb7) rfl (by kernel_rfl) (by kernel_rfl) (by kernel_rfl) (fun _ _ _ h => h) (Or.inl ⟨by rfl, ?hyb7⟩) (by assumption) ?restb7
        case hyb7 => (intro w hSw; (try dsimp only at hSw); go_simp; first | done | with_reducible rfl)
        try simp only [Act.put, List.setIfInBounds_toArray, List.set_cons_zero, List.set_cons_succ]
        refine wpAnyH_take (i := 8) (v := ?vb8) rfl (by kernel_rfl) (by kernel_rfl) (by kernel_rfl) (fun _ _ _ h => h) (Or.inl ⟨by rfl, ?hyb8⟩) (by assumption) ?restb8
        case hyb8 => (intro w hSw; (try dsimp only at hSw); go_simp; first | done | with_reducible rfl)
        try simp only [Act.put, List.setIfInBounds_toArray, List.set_cons_zero, List.set_cons_succ]
        refine wpAnyH_ready (rs := [9]) (by kernel_rfl) (by simp) ?_
        refine AllReadyH.cons rfl (fun K hK => ?_) ?_
        rotate_left
        ·exact AllReadyH.nil
        go_simp
        (go_at_call 78; refine (is_calls _ _).mono ?_; rintro e w1 ⟨rfl, rfl⟩)
        go_wp2_with fail
        refine hK.out _ _ ?_ (fun hHeld => ?_)
        ·(try dsimp only)
         (first | (with_reducible exact ⟨HS.out.cx, HS.out.cn⟩) | go_keep)
        clear hK K
        try simp only [Act.put, List.setIfInBounds_toArray, List.set_cons_zero, List.set_cons_succ]
        refine wpAnyH_ready (rs := [10]) (by kernel_rfl) (by simp) ?_
        refine AllReadyH.cons rfl (fun K hK => ?_) ?_
        rotate_left
        ·exact AllReadyH.nil
        go_simp
        (go_at_call 76; refine Calls.mono (HS.out.take_is hs H4.out) ?_; rintro e w2 ⟨rfl, h2, hk2⟩; have n0_ := Aside0.mk (show SC w0 w Ws w2 g bx bn s ((j + 1 : Nat) : Int) _ from h2); clear HS h2 hk2; have HS := n0_; clear n0_)
        go_wp2_with fail
        refine hK.out _ _ ?_ (fun hHeld => ?_)
        ·(try dsimp only)
         (first | (with_reducible exact ⟨HS.out.cx, HS.out.cn⟩) | go_keep)
        clear hK K
        try simp only [Act.put, List.setIfInBounds_toArray, List.set_cons_zero, List.set_cons_succ]
        refine wpAnyH_take (i := 11) (v := ?vb11) rfl (by kernel_rfl) (by kernel_rfl) (by kernel_rfl) (fun _ _ _ h => h) (Or.inl ⟨by rfl, ?hyb11⟩) (by assumption) ?restb11
        case hyb11 => (intro w hSw; (try dsimp only at hSw); go_simp; first | done | with_reducible rfl)
        try simp only [Act.put, List.setIfInBounds_toArray, List.set_cons_zero, List.set_cons_succ]
        refine wpAnyH_take (i := 12) (v := ?vb12) rfl (by kernel_rfl) (by kernel_rfl) (by kernel_rfl) (fun _ _ _ h => h) (Or.inl ⟨by rfl, ?hyb12⟩) (by assumption) ?restb12
        case hyb12 => (intro w hSw; (try dsimp only at hSw); go_simp; first | done | with_reducible rfl)
        try simp only [Act.put, List.setIfInBounds_toArray, List.set_cons_zero, List.set_cons_succ]
        refine wpAnyH_done (by kernel_rfl) ?_ _
        clear hwr hcx hca hcn lx ln lg
        have hcx6 := HS.out.cx
        go_wp2_with (go_at_call 45; refine Calls.mono (HS.out.must hs (part_ok w0 _ g s _ false) H5.out) ?_; rintro e w4 ⟨he, h2, hk2⟩; simp only [if_true, Bool.false_eq_true, if_false] at he h2; subst he; have n0_ := Aside0.mk h2; clear HS h2 hk2 hcx6; have HS := n0_; clear n0_)
        have hR3 := HR3.out
        subst hR3
        exact ⟨rfl, HE.out.symm, by rw [HJ0.out]; exact HS.out⟩
      | false =>
       have HR3 := Aside0.mk (show (true, j) = R by have h2 := HR2.out; rw [if_neg (by rw [hb4]; simp)] at h2; exact h2)
       clear hb4 HR2
       go_wp2_with fail
       go_quiet (fail)
       go_wp2_with (go_at_call 76; refine Calls.mono ((HS.out.drewN nq).take hs (part_ok w0 _ g s _ false) H3.out) ?_; rintro e w3 ⟨rfl, h2, hk2⟩; have n0_ := Aside0.mk (show SC w0 w Ws w3 g bx bn s ((j : Nat) : Int) _ from h2); clear HS h2 hk2 hcx hca hcn; have HS := n0_; clear n0_)
       have hcx := HS.out.cx
       have hca := HS.out.ca
       have hcn := HS.out.cn
       have lx := blk_lt HS.out.X
       have ln := blk_lt HS.out.N
       have lg := blk_lt HS.out.I.1
       have hj38 : decide ((j : Int) - i < 39) = true := decide_eq_true hj39
       have hwr : IntKind.i64.wrap ((j : Int) - i) = (j : Int) - i := IntWalk.i64_in _ (by omega)
       go_region_held3 (fun w' => w'.cell? ⟨bx, 0, none⟩ = some (.pointer (some ⟨g, 0, none⟩)) ∧ w'.cell? ⟨g, 1, none⟩ = some (.int .i64 j) ∧ w'.cell? ⟨bn, 0, none⟩ = some (.int .i64 i))
        (first | (with_reducible exact ⟨HS.out.cx, HS.out.ca, HS.out.cn⟩) | go_keep)
        (first | (go_at_call 78; refine (is_calls _ _).mono ?_; rintro e w1 ⟨rfl, rfl⟩) | (go_at_call 76; refine Calls.mono (HS.out.take_is hs H4.out) ?_; rintro e w2 ⟨rfl, h2, hk2⟩; have n0_ := Aside0.mk (show SC w0 w Ws w2 g bx bn s ((j : Nat) : Int) _ from h2); clear HS h2 hk2; have HS := n0_; clear n0_))
       clear hwr
       go_wp2_with fail
       refine bodyPost_ret (results_none rfl _ _ _) rfl ?_
       have hR3 := HR3.out
       subst hR3
       exact ⟨HE.out.symm, by rw [HJ0.out]; exact HS.out⟩
     ·have HR3 := Aside0.mk (show (true, j) = R by have h2 := HR2.out; rw [if_neg (fun e => h39 e.1)] at h2; exact h2)
      have hj39 : ¬ (j : Int) - i < 39 := by omega
      have hj38 : decide ((j : Int) - i < 39) = false := decide_eq_false hj39
      clear HR2
      go_wp2_with fail
      go_quiet (fail)
      go_wp2_with (go_at_call 76; refine Calls.mono ((HS.out.drewN nq).take hs (part_ok w0 _ g s _ false) H3.out) ?_; rintro e w3 ⟨rfl, h2, hk2⟩; have n0_ := Aside0.mk (show SC w0 w Ws w3 g bx bn s ((j : Nat) : Int) _ from h2); clear HS h2 hk2 hcx hca hcn; have HS := n0_; clear n0_)
      have hcx := HS.out.cx
      have hca := HS.out.ca
      have hcn := HS.out.cn
      go_quiet (fail)
      go_wp2_with fail
      refine bodyPost_ret (results_none rfl _ _ _) rfl ?_
      have hR3 := HR3.out
      subst hR3
      exact ⟨HE.out.symm, by rw [HJ0.out]; exact HS.out.drewN _⟩
   ·have hj3 : (i : Int) + 40 ≤ (j : Int) := by omega
    have hR3 : (true, j) = R := by have h2 := HR.out; rw [scIdLoop_stop hk] at h2; exact h2
    subst hR3
    go_wp2_with fail
    go_quiet (fail)
    go_wp2_with fail
    go_end0
    exact ⟨HE.out.symm, by rw [HJ0.out]; exact HS.out.drewN _⟩
end Go.Proofs.YtlchefonlfokgaaDoor.Q
end
section
namespace Go.Proofs.YtlchefonlfokgaaDoor.Q
open Go.RowKit Go.Proofs.YtlchefonlfokgaaDoorW.PrintWords Go.Proofs.YtlchefonlfokgaaDoorW.PrintLast Go.Proofs.YtlchefonlfokgaaDoorW.PrintMore
set_option maxRecDepth 100000
theorem scIdLoop_spec (s : ByteArray) (i : Nat) : ∀ (k j : Nat), j ≤ s.size → j ≤ (scIdLoop s i k j).2 ∧ (scIdLoop s i k j).2 ≤ s.size
 | 0, j, h => ⟨Nat.le_refl _, h⟩
 | k + 1, j, h => by
  rw [scIdLoop]
  split
  ·split
   ·rename_i h2
    have h3 := scTake_lt h2
    have h4 := scIdLoop_spec s i k (j + 1) h3
    exact ⟨by omega, h4.2⟩
   ·split
    ·rename_i h2
     have h3 := scTake_lt h2.2
     split
     ·rename_i h5
      have h6 := scTake_lt h5
      have h4 := scIdLoop_spec s i k (j + 2) h6
      exact ⟨by omega, h4.2⟩
     ·exact ⟨by show j ≤ j + 1; omega, h3⟩
    ·exact ⟨Nat.le_refl _, h⟩
  ·exact ⟨Nat.le_refl _, h⟩
theorem scIdent_spec (s : ByteArray) (i : Nat) (h : i ≤ s.size) : i ≤ (scIdent s i).2 ∧ (scIdent s i).2 ≤ s.size := by
 rw [scIdent]
 split
 ·rename_i h2
  have h3 := scTake_lt h2
  have h4 := scIdLoop_spec s i 39 (i + 1) h3
  exact ⟨by omega, h4.2⟩
 ·exact ⟨Nat.le_refl _, h⟩
theorem ident_ok (w0 w : World) (g : Nat) (s : ByteArray) (i : Nat) (hI : IsS77 w0 w g s (i : Int) false) (hB : Below w0.heap.size w0 w) (hs : s.size ≤ 4611686018427387904) (his : i ≤ s.size) :
  Calls Tryd.prog 81 #[.pointer (some ⟨g, 0, none⟩)] w fun e w' => e = .returned (.string (if (scIdent s i).1 then s.extract i (scIdent s i).2 else ⟨#[]⟩)) ∧ IsS77 w0 w' g s ((scIdent s i).2 : Int) (!(scIdent s i).1) ∧ Below w0.heap.size w0 w' ∧ KeepBut w w' g none := by
 have hmf : ∀ (fn : Fn) (first cap : Array Value) (w : World), (Instr.makeFunc fn first cap).run Tryd.prog w = .ok (.func fn first cap) w := fun _ _ _ _ => rfl
 obtain ⟨w2, hw2⟩ : ∃ w2, w2 = (w.alloc (.cells #[.pointer (some ⟨g, 0, none⟩)] 45)).alloc (.cells #[.int .i64 0] 3) := ⟨_, rfl⟩
 have hz2 : w2.heap.size = w.heap.size + 2 := by rw [hw2]; simp
 have lg := blk_lt hI.1
 have hz0 := hB.size
 have hSC : SC w0 w2 w2 w2 g w.heap.size (w.heap.size + 1) s (i : Int) (.int .i64 0) := by
  refine ⟨by rw [hw2]; exact (hI.alloc _).alloc _, by rw [hw2]; exact (hB.alloc hz0 _).alloc (by rw [World.size_alloc]; omega) _, by rw [hw2]; exact blk_alloc (blk_new w _) _, ?_, ⟨Nat.le_refl _, fun _ _ _ _ => rfl⟩, by omega⟩
  have h := blk_new (w.alloc (.cells #[.pointer (some ⟨g, 0, none⟩)] 45)) (.cells #[.int .i64 0] 3)
  rw [World.size_alloc] at h
  rw [hw2]
  exact h
 have HG := Aside0.mk (guard_sc (j := ((scIdent s i).2 : Int)) (v1 := .int .i64 (i : Int)) (ok := (scIdent s i).1) (f := 89) (cap := #[.pointer (some ⟨w.heap.size, 0, none⟩), .pointer (some ⟨w.heap.size + 1, 0, none⟩)]) hSC (by omega) (fun _ _ => rfl) (fun W hW hS => ident1 w0 w2 W W g _ _ s i 0 hs hS))
 obtain ⟨r, hr⟩ : ∃ r, r = scIdent s i := ⟨_, rfl⟩
 rw [← hr] at HG
 rw [← hr]
 have HK0 := Aside0.mk (show ∀ k, k < w.heap.size → w2.heap[k]? = w.heap[k]? from fun k hk => by rw [hw2, Below.heap_alloc _ _ _ (by rw [World.size_alloc]; omega), Below.heap_alloc _ _ _ hk])
 have HW2 := Aside0.mk hw2
 have HZ2 := Aside0.mk hz2
 have hj := scIdent_spec s i his
 rw [← hr] at hj
 have hcs0 : ∀ W : World, IsS77 w0 W g s (r.2 : Int) (!r.1) → W.cell? ⟨g, 0, none⟩ = some (.string s) ∧ W.cell? ⟨g, 1, none⟩ = some (.int .i64 r.2) := fun W h => ⟨cellS77_0 h.1, cellS77_1 h.1⟩
 clear hI hB hSC hr hw2 hz2
 obtain ⟨ok, j⟩ := r
 have HH : ∀ (e : Ending) (w' : World), (e = .returned (.bool ok) ∧ IsS77 w0 w' g s (j : Int) (!ok) ∧ Below w0.heap.size w0 w' ∧ w2.heap.size ≤ w'.heap.size ∧ w'.heap[w.heap.size + 1]? = some (.cells #[.int .i64 (i : Int)] 3 (0, 0)) ∧ w'.heap[w.heap.size]? = some (.cells #[.pointer (some ⟨g, 0, none⟩)] 45 (0, 0)) ∧ ∀ k, k < w2.heap.size → k ≠ g → k ≠ w.heap.size + 1 → w'.heap[k]? = w2.heap[k]?) →
   e = .returned (.bool ok) ∧ IsS77 w0 w' g s (j : Int) (!ok) ∧ Below w0.heap.size w0 w' ∧ KeepBut w w' g none ∧ w'.cell? ⟨w.heap.size + 1, 0, none⟩ = some (.int .i64 (i : Int)) ∧ w'.cell? ⟨w.heap.size, 0, none⟩ = some (.pointer (some ⟨g, 0, none⟩)) := fun e w' ⟨h1, h2, h3, h4, h5, h6, h7⟩ =>
  ⟨h1, h2, h3, ⟨by have := HZ2.out; omega, fun k hk hg _ => (h7 k (by have := HZ2.out; omega) hg (by omega)).trans (HK0.out k hk)⟩, blk_cell h5 0, blk_cell h6 0⟩
 have HG2 := Aside0.mk (HG.out.mono HH)
 clear HG HH HK0 HZ2
 cases ok with
 | true =>
  go_enter Tryd.func81, Tryd.ntmps81
  go_wp2_with (rw [← HW2.out]; refine Calls.mono HG2.out ?_; rintro e w3 ⟨rfl, hI3, hB3, hK3, hcn, hcx⟩; have HI := Aside0.mk hI3; have HB := Aside0.mk hB3; have HK := Aside0.mk hK3; have hc0 := (hcs0 _ hI3).1; have hc1 := (hcs0 _ hI3).2; clear HG2 hI3 hB3 hK3)
  have c1 : (0 : Int) ≤ (i : Int) := Int.natCast_nonneg _
  have c2 : (i : Int) ≤ (j : Int) := by have := hj.1; omega
  have c3 : (0 : Int) ≤ (j : Int) := Int.natCast_nonneg _
  have c4 : (j : Int) ≤ (s.size : Int) := by have := hj.2; omega
  go_quiet (fail)
  go_wp2_with fail
  go_ret
  exact ⟨by simp, HI.out.drewN _, pw_below_drewN HB.out _, HK.out⟩
 | false =>
  go_enter Tryd.func81, Tryd.ntmps81
  go_wp2_with (rw [← HW2.out]; refine Calls.mono HG2.out ?_; rintro e w3 ⟨rfl, hI3, hB3, hK3, hcn, hcx⟩; have HI := Aside0.mk hI3; have HB := Aside0.mk hB3; have HK := Aside0.mk hK3; clear HG2 hI3 hB3 hK3)
  go_ret
  exact ⟨by simp, HI.out, HB.out, HK.out⟩
theorem ident_bad (w0 w : World) (g : Nat) (s : ByteArray) (i : Int) (hI : IsS77 w0 w g s i true) (hB : Below w0.heap.size w0 w) :
  Calls Tryd.prog 81 #[.pointer (some ⟨g, 0, none⟩)] w fun e w' => e = .returned (.string ⟨#[]⟩) ∧ IsS77 w0 w' g s i true ∧ Below w0.heap.size w0 w' ∧ KeepBut w w' g none := by
 have hmf : ∀ (fn : Fn) (first cap : Array Value) (w : World), (Instr.makeFunc fn first cap).run Tryd.prog w = .ok (.func fn first cap) w := fun _ _ _ _ => rfl
 obtain ⟨w2, hw2⟩ : ∃ w2, w2 = (w.alloc (.cells #[.pointer (some ⟨g, 0, none⟩)] 45)).alloc (.cells #[.int .i64 0] 3) := ⟨_, rfl⟩
 have hb2 : Below w.heap.size w w2 := by rw [hw2]; exact ((Below.refl _ w).alloc (Nat.le_refl _) _).alloc (Nat.le_of_lt (by rw [World.size_alloc]; exact Nat.lt_succ_self _)) _
 have HG := Aside0.mk (guard_failed w0 w2 g s i 89 #[.pointer (some ⟨w.heap.size, 0, none⟩), .pointer (some ⟨w.heap.size + 1, 0, none⟩)] (hI.below hb2) (below_weaken hB hB.size hb2))
 have HW2 := Aside0.mk hw2
 have HB2 := Aside0.mk hb2
 clear hI hB hw2 hb2
 go_enter Tryd.func81, Tryd.ntmps81
 go_wp2_with (rw [← HW2.out]; refine Calls.mono HG.out ?_; rintro e w3 ⟨rfl, hI3, hB3, hK3⟩; have HI := Aside0.mk hI3; have HB := Aside0.mk hB3; have HK := Aside0.mk (KeepBut.of_below (below_then HB2.out HB2.out.size hK3) g none); clear HG hI3 hB3 hK3)
 go_ret
 exact ⟨rfl, HI.out, HB.out, HK.out⟩
end Go.Proofs.YtlchefonlfokgaaDoor.Q
end
section
namespace Go.Proofs.YtlchefonlfokgaaDoor.Q
open Go.RowKit Go.Proofs.YtlchefonlfokgaaDoorW.PrintWords Go.Proofs.YtlchefonlfokgaaDoorW.PrintLast Go.Proofs.YtlchefonlfokgaaDoorW.PrintMore
set_option maxRecDepth 100000
def wFits (t : ByteArray) (n : Nat) (c : Int) (x : ByteArray) : Bool := decide (n < x.size) && (bt x n == c && (x.extract 0 n).toList == t.toList)
def WordsAt (W : World) (A : Option Addr) (l : List ByteArray) : Prop := l.length ≤ 9223372036854775807 ∧ ∀ k : Nat, k < l.length → ∃ ad, A = some ad ∧ W.cell? (ad.add k) = some (.string (l.getD k ByteArray.empty))
theorem word11 (W : World) (g bw bm bx bf : Nat) (s : ByteArray) (F N J : Nat) (A : Option Addr) (cap : Nat) (l : List ByteArray) (c : Int) (hw : W.cell? ⟨bw, 0, none⟩ = some (.slice A l.length cap)) (hm : W.cell? ⟨bm, 0, none⟩ = some (.int .i64 N)) (hx : W.cell? ⟨bx, 0, none⟩ = some (.pointer (some ⟨g, 0, none⟩))) (hf : W.cell? ⟨bf, 0, none⟩ = some (.int .i64 F)) (h0 : W.cell? ⟨g, 0, none⟩ = some (.string s)) (h1 : W.cell? ⟨g, 1, none⟩ = some (.int .i64 J)) (hF : F ≤ J) (hJ : J ≤ s.size) (hr : WordsAt W A l) (hs : s.size ≤ 4611686018427387904) :
  Calls Tryd.prog 46 #[.int .u8 c, .pointer (some ⟨bw, 0, none⟩), .pointer (some ⟨bm, 0, none⟩), .pointer (some ⟨bx, 0, none⟩), .pointer (some ⟨bf, 0, none⟩)] W fun e W' => e = .returned (.bool (l.any (wFits (s.extract F J) N c))) ∧ ∃ m, W' = W.drewN m := by
 have HR := Aside0.mk hr.2
 have hlen := hr.1
 obtain ⟨R, hR⟩ : ∃ R, R = l.any (wFits (s.extract F J) N c) := ⟨_, rfl⟩
 rw [← hR]
 have HR0 := Aside0.mk (show (l.drop 0).any (wFits (s.extract F J) N c) = R by rw [hR]; rfl)
 have d1 : (0 : Int) ≤ (F : Int) := Int.natCast_nonneg _
 have d2 : (F : Int) ≤ (J : Int) := by omega
 have d3 : (0 : Int) ≤ (J : Int) := Int.natCast_nonneg _
 have d4 : (J : Int) ≤ (s.size : Int) := by omega
 have d5 : (0 : Int) ≤ (N : Int) := Int.natCast_nonneg _
 clear hR hr
 go_enter Tryd.func46, Tryd.ntmps46
 go_wp2_with fail
 go_loopg [11] l.length (fun kq v11 w' => ∃ (i : Nat), v11 = .int .i64 i ∧ Aside0 (i + kq = l.length) ∧ Aside0 ((l.drop i).any (wFits (s.extract F J) N c) = R) ∧ ∃ m, Aside0 (w' = W.drewN m))
 case atStart => exact ⟨0, rfl, ⟨by omega⟩, HR0, 0, ⟨rfl⟩⟩
 case round =>
  clear HR0
  obtain ⟨i, rfl, HI, HA, m, HW⟩ := hrel
  obtain rfl := HW.out
  have hi0 := HI.out
  by_cases hk : gk = 0
  ·have hi : ¬ (i : Int) < (l.length : Int) := by omega
   have hR2 : R = false := by rw [← HA.out, List.drop_eq_nil_of_le (by omega)]; rfl
   subst hR2
   go_wp2_with fail
   go_ret
   exact ⟨rfl, _, rfl⟩
  ·obtain ⟨k1, rfl⟩ : ∃ m, gk = m + 1 := ⟨gk - 1, by omega⟩
   have hi : (i : Int) < (l.length : Int) := by omega
   have hin : i < l.length := by omega
   obtain ⟨ad, rfl, hcell⟩ := HR.out i hin
   obtain ⟨x, hx0⟩ : ∃ x, l.getD i ByteArray.empty = x := ⟨_, rfl⟩
   have hd : l.drop i = x :: l.drop (i + 1) := by rw [← hx0, List.getD_eq_getElem?_getD, List.getElem?_eq_getElem hin]; exact List.drop_eq_getElem_cons hin
   rw [hx0] at hcell
   have HA1 := Aside0.mk (show (wFits (s.extract F J) N c x || (l.drop (i + 1)).any (wFits (s.extract F J) N c)) = R by have h2 := HA.out; rw [hd] at h2; exact h2)
   clear hd hx0 HA
   by_cases h2 : (N : Int) < (x.size : Int)
   ·have h2n : N < x.size := by omega
    have h2b : decide ((N : Int) < (x.size : Int)) = true := decide_eq_true h2
    have hbt : ((x[N]'h2n).toNat : Int) = bt x N := bt_at x N h2n
    obtain ⟨y, hy⟩ : ∃ y : Int, y = ((x[N]'h2n).toNat : Int) := ⟨_, rfl⟩
    obtain ⟨b3, hb3⟩ : ∃ b, (((x[N]'h2n).toNat : Int) == c) = b := ⟨_, rfl⟩
    have HB3 := Aside0.mk (show (bt x N == c) = b3 by rw [← hbt]; exact hb3)
    clear hbt hy y
    cases b3 with
    | true =>
     obtain ⟨b4, hb4⟩ : ∃ b, ((x.extract 0 N).toList == (s.extract F J).toList) = b := ⟨_, rfl⟩
     have HB4 := Aside0.mk hb4
     cases b4 with
     | true =>
      have hR2 : R = true := by rw [← HA1.out]; simp only [wFits, HB3.out, HB4.out, decide_eq_true h2n]; rfl
      subst hR2
      go_wp2_with fail
      go_quiet (fail)
      go_wp2_with fail
      go_ret
      refine ⟨rfl, m + nq, ?_⟩
      simp
     | false =>
      have HA2 := Aside0.mk (show (l.drop (i + 1)).any (wFits (s.extract F J) N c) = R by rw [← HA1.out]; simp only [wFits, HB3.out, HB4.out, Bool.and_false, Bool.false_or])
      clear HA1
      go_wp2_with fail
      go_quiet (fail)
      go_wp2_with fail
      go_roundg k1
      case measure => omega
      case rel => exact ⟨i + 1, rfl, ⟨by omega⟩, HA2, _, ⟨rfl⟩⟩
    | false =>
     have HA2 := Aside0.mk (show (l.drop (i + 1)).any (wFits (s.extract F J) N c) = R by rw [← HA1.out]; simp only [wFits, HB3.out, Bool.false_and, Bool.and_false, Bool.false_or])
     clear HA1
     go_wp2_with fail
     go_quiet (fail)
     go_wp2_with fail
     go_roundg k1
     case measure => omega
     case rel => exact ⟨i + 1, rfl, ⟨by omega⟩, HA2, _, ⟨rfl⟩⟩
   ·have h2b : decide ((N : Int) < (x.size : Int)) = false := decide_eq_false h2
    have HA2 := Aside0.mk (show (l.drop (i + 1)).any (wFits (s.extract F J) N c) = R by rw [← HA1.out]; simp only [wFits, decide_eq_false (show ¬ N < x.size by omega), Bool.false_and, Bool.false_or])
    have h2d : decide ((x.size : Int) ≤ (N : Int)) = true := decide_eq_true (by omega)
    have h2f : decide (N < x.size) = false := decide_eq_false (by omega)
    have h2e : (x.size : Int) ≤ (N : Int) := by omega
    clear HA1
    go_wp2_with fail
    go_quiet (fail)
    go_wp2_with fail
    go_roundg k1
    case measure => omega
    case rel => exact ⟨i + 1, rfl, ⟨by omega⟩, HA2, _, ⟨rfl⟩⟩
theorem WordsAt.keep {w W : World} {g : Nat} {A : Option Addr} {l : List ByteArray} (h : WordsAt w A l) (hk : ∀ k, k < w.heap.size → k ≠ g → W.heap[k]? = w.heap[k]?) (hA : ∀ ad, A = some ad → 0 < l.length → ad.block ≠ g) : WordsAt W A l :=
 ⟨h.1, fun k hl => by
  obtain ⟨ad, rfl, hc⟩ := h.2 k hl
  have hbk : (ad.add k).block = ad.block := by unfold Addr.add; split <;> rfl
  have hlt : ad.block < w.heap.size := by rw [← hbk]; exact World.block_lt_of_cell? w (ad.add k) hc
  refine ⟨ad, rfl, ?_⟩
  have hb := hk ad.block hlt (hA ad rfl (by omega))
  exact (World.cell?_of_block (a := ad.add k) (by rw [hbk]; exact hb)).trans hc⟩
theorem word_ok (w0 w : World) (g bw bm bx bf : Nat) (s : ByteArray) (F J : Nat) (A : Option Addr) (cap : Nat) (l : List ByteArray) (hw : w.heap[bw]? = some (.cells #[.slice A l.length cap] 38 (0, 0))) (hm : w.heap[bm]? = some (.cells #[.int .i64 ((J - F : Nat) : Int)] 3 (0, 0))) (hx : w.heap[bx]? = some (.cells #[.pointer (some ⟨g, 0, none⟩)] 45 (0, 0))) (hf : w.heap[bf]? = some (.cells #[.int .i64 (F : Int)] 3 (0, 0))) (hne : bw ≠ g ∧ bm ≠ g ∧ bx ≠ g ∧ bf ≠ g) (hF : F ≤ J) (hJ : J ≤ s.size) (hr : WordsAt w A l) (hA : ∀ ad, A = some ad → 0 < l.length → ad.block ≠ g) (hs : s.size ≤ 4611686018427387904) :
  PredOk w0 w g s (J : Int) false 46 #[.pointer (some ⟨bw, 0, none⟩), .pointer (some ⟨bm, 0, none⟩), .pointer (some ⟨bx, 0, none⟩), .pointer (some ⟨bf, 0, none⟩)] (fun c => l.any (wFits (s.extract F J) (J - F) c)) := by
 refine ⟨fun _ _ => rfl, fun W hK hI hB c _ _ => ?_⟩
 have kb : ∀ {b : Nat} {o : Obj}, w.heap[b]? = some o → b ≠ g → W.heap[b]? = some o := fun hb hg => hK.blk hb hg (by simp)
 refine (word11 W g bw bm bx bf s F (J - F) J A cap l c (blk_cell (kb hw hne.1) 0) (blk_cell (kb hm hne.2.1) 0) (blk_cell (kb hx hne.2.2.1) 0) (blk_cell (kb hf hne.2.2.2) 0) (cellS77_0 hI.1) (cellS77_1 hI.1) hF hJ (hr.keep (fun k h1 h2 => hK.2 k h1 h2 (by simp)) hA) hs).mono ?_
 rintro e W' ⟨he, m, rfl⟩
 exact ⟨he, hI.drewN m, pw_below_drewN hB m, KeepBut.refl W g none⟩
end Go.Proofs.YtlchefonlfokgaaDoor.Q
end
section
namespace Go.Proofs.YtlchefonlfokgaaDoor.Q
open Go.RowKit Go.Proofs.YtlchefonlfokgaaDoorW.PrintWords Go.Proofs.YtlchefonlfokgaaDoorW.PrintLast Go.Proofs.YtlchefonlfokgaaDoorW.PrintMore
set_option maxRecDepth 100000
def scFind (t : ByteArray) : List ByteArray → Nat → Int → Int
 | [], _, acc => acc
 | x :: xs, i, acc => scFind t xs (i + 1) (if x.toList == t.toList then (i : Int) else acc)
def scWords (s : ByteArray) (F : Nat) (l : List ByteArray) (j : Nat) (c : Int) : Bool := l.any (wFits (s.extract F j) (j - F) c)
def scWordLoop (s : ByteArray) (F : Nat) (l : List ByteArray) : Nat → Nat → Bool × Nat × Int
 | 0, j => (false, j, -1)
 | k + 1, j =>
  if scTake s j (scWords s F l j) then
   (if scFind (s.extract F (j + 1)) l 0 (-1) < 0 then scWordLoop s F l k (j + 1) else (true, j + 1, scFind (s.extract F (j + 1)) l 0 (-1)))
  else (false, j, -1)
def scWord (s : ByteArray) (F : Nat) (l : List ByteArray) : Bool × Nat × Int := scWordLoop s F l (s.size + 2) F
structure WC (w0 w Ws W : World) (g bx bn bw bf : Nat) (s : ByteArray) (i F : Nat) (v : Int) (A : Option Addr) (cap : Nat) (l : List ByteArray) : Prop where
 S : SC w0 w Ws W g bx bn s (i : Int) (.int .i64 v)
 Wd : W.heap[bw]? = some (.cells #[.slice A l.length cap] 38 (0, 0))
 Fm : W.heap[bf]? = some (.cells #[.int .i64 (F : Int)] 3 (0, 0))
 Rw : WordsAt W A l
 Ap : bw ≠ g ∧ bw ≠ bn ∧ bf ≠ g ∧ bf ≠ bn ∧ (∀ ad, A = some ad → 0 < l.length → ad.block ≠ g ∧ ad.block ≠ bn)
theorem WC.keep {w0 w Ws W W' : World} {g bx bn bw bf : Nat} {s : ByteArray} {i j F : Nat} {v : Int} {A : Option Addr} {cap : Nat} {l : List ByteArray} (h : WC w0 w Ws W g bx bn bw bf s i F v A cap l) (hS : SC w0 w Ws W' g bx bn s (j : Int) (.int .i64 v)) (hK : KeepBut W W' g none) : WC w0 w Ws W' g bx bn bw bf s j F v A cap l :=
 ⟨hS, hK.blk h.Wd h.Ap.1 (by simp), hK.blk h.Fm h.Ap.2.2.1 (by simp), h.Rw.keep (fun k h1 h2 => hK.2 k h1 h2 (by simp)) (fun ad e hl => (h.Ap.2.2.2.2 ad e hl).1), h.Ap⟩
theorem WC.alloc {w0 w Ws W : World} {g bx bn bw bf : Nat} {s : ByteArray} {i F : Nat} {v : Int} {A : Option Addr} {cap : Nat} {l : List ByteArray} (h : WC w0 w Ws W g bx bn bw bf s i F v A cap l) (o : Obj) : WC w0 w Ws (W.alloc o) g bx bn bw bf s i F v A cap l :=
 h.keep (h.S.alloc o) ⟨by rw [World.size_alloc]; omega, fun k hk _ _ => Below.heap_alloc W o k hk⟩
theorem WC.drewN {w0 w Ws W : World} {g bx bn bw bf : Nat} {s : ByteArray} {i F : Nat} {v : Int} {A : Option Addr} {cap : Nat} {l : List ByteArray} (h : WC w0 w Ws W g bx bn bw bf s i F v A cap l) (n : Nat) : WC w0 w Ws (W.drewN n) g bx bn bw bf s i F v A cap l :=
 ⟨h.S.drewN n, h.Wd, h.Fm, h.Rw, h.Ap⟩
theorem WC.setN {w0 w Ws W : World} {g bx bn bw bf : Nat} {s : ByteArray} {i F : Nat} {v : Int} {A : Option Addr} {cap : Nat} {l : List ByteArray} (h : WC w0 w Ws W g bx bn bw bf s i F v A cap l) (u : Int) : WC w0 w Ws (W.setCell ⟨bn, 0, none⟩ (.int .i64 u)) g bx bn bw bf s i F u A cap l :=
 ⟨h.S.setN _, blk_far h.Wd h.Ap.2.1 _, blk_far h.Fm h.Ap.2.2.2.1 _, h.Rw.keep (g := bn) (fun k _ h2 => Below.heap_setCell W _ _ k h2) (fun ad e hl => (h.Ap.2.2.2.2 ad e hl).2), h.Ap⟩
theorem WC.cw {w0 w Ws W : World} {g bx bn bw bf : Nat} {s : ByteArray} {i F : Nat} {v : Int} {A : Option Addr} {cap : Nat} {l : List ByteArray} (h : WC w0 w Ws W g bx bn bw bf s i F v A cap l) : W.cell? ⟨bw, 0, none⟩ = some (.slice A l.length cap) := blk_cell h.Wd 0
theorem WC.cf {w0 w Ws W : World} {g bx bn bw bf : Nat} {s : ByteArray} {i F : Nat} {v : Int} {A : Option Addr} {cap : Nat} {l : List ByteArray} (h : WC w0 w Ws W g bx bn bw bf s i F v A cap l) : W.cell? ⟨bf, 0, none⟩ = some (.int .i64 (F : Int)) := blk_cell h.Fm 0
theorem word1 (w0 w Ws W : World) (g bx bn bw : Nat) (s : ByteArray) (F : Nat) (A : Option Addr) (cap : Nat) (l : List ByteArray) (hs : s.size ≤ 4611686018427387904) (hFs : F ≤ s.size) (h : SC w0 w Ws W g bx bn s (F : Int) (.int .i64 (-1))) (hw : W.heap[bw]? = some (.cells #[.slice A l.length cap] 38 (0, 0))) (hr : WordsAt W A l) (hA : bw ≠ g ∧ bw ≠ bn ∧ (∀ ad, A = some ad → 0 < l.length → ad.block ≠ g ∧ ad.block ≠ bn)) (hW : W = Ws) :
  Calls Tryd.prog 44 #[.pointer (some ⟨bx, 0, none⟩), .pointer (some ⟨bn, 0, none⟩), .pointer (some ⟨bw, 0, none⟩)] W fun e W' => e = (if (scWord s F l).1 then .returned (.tuple #[]) else .panicked scFail) ∧ SC w0 w Ws W' g bx bn s ((scWord s F l).2.1 : Int) (.int .i64 (scWord s F l).2.2) := by
 obtain ⟨R, hR⟩ : ∃ R, R = scWord s F l := ⟨_, rfl⟩
 rw [← hR]
 obtain ⟨E, hE⟩ : ∃ E : Ending, E = (if R.1 then .returned (.tuple #[]) else .panicked scFail) := ⟨_, rfl⟩
 rw [← hE]
 have HE := Aside0.mk hE
 have HR := Aside0.mk (show scWordLoop s F l (s.size + 2) F = R from hR.symm)
 have hfs : W.heap.size ≠ g ∧ W.heap.size ≠ bn := by have h1 := blk_lt h.I.1; have h2 := blk_lt h.N; omega
 have HC := Aside0.mk (show WC w0 w Ws (W.alloc (.cells #[.int .i64 (F : Int)] 3)) g bx bn bw W.heap.size s F F (-1) A cap l from
  ⟨h.alloc _, blk_alloc hw _, blk_new W _, hr.keep (g := g) (fun k h1 _ => Below.heap_alloc W _ k h1) (fun ad e hl => (hA.2.2 ad e hl).1), ⟨hA.1, hA.2.1, hfs.1, hfs.2, hA.2.2⟩⟩)
 obtain ⟨J, hJ⟩ : ∃ J, J = R.2.1 := ⟨_, rfl⟩
 obtain ⟨V, hV⟩ : ∃ V, V = R.2.2 := ⟨_, rfl⟩
 rw [← hJ, ← hV]
 have HJ0 := Aside0.mk (And.intro hJ hV)
 have hcx := h.cx
 have hca := h.ca
 have lx := blk_lt h.X
 have lg := blk_lt h.I.1
 clear hR hE hJ hV h hw hr hA hfs hW
 go_enter Tryd.func44, Tryd.ntmps44
 go_wp2_with fail
 obtain ⟨W1, hW1⟩ : ∃ W1, W1 = W.alloc (.cells #[.int .i64 (F : Int)] 3) := ⟨_, rfl⟩
 rw [← hW1] at HC
 obtain ⟨bf, hbf⟩ : ∃ bf, bf = W.heap.size := ⟨_, rfl⟩
 rw [← hbf] at HC
 try rw [← hW1]
 try rw [← hbf]
 clear hW1 hbf hcx hca lx lg
 go_loopg [23] (s.size + 3) (fun kq v23 w' => ∃ (j : Nat) (fd : Int), Aside0 ((fd = -1 ∧ ∃ k, kq = k + 1 ∧ scWordLoop s F l k j = R ∧ F ≤ j ∧ j ≤ s.size ∧ s.size + 1 ≤ j + k) ∨ (0 ≤ fd ∧ R = (true, j, fd))) ∧ Aside0 (WC w0 w Ws w' g bx bn bw bf s j F fd A cap l))
 case atStart => exact ⟨F, -1, ⟨.inl ⟨rfl, s.size + 2, rfl, HR.out, Nat.le_refl _, hFs, by omega⟩⟩, HC⟩
 case round =>
  clear HC HR
  obtain ⟨j, fd, HJ, HC⟩ := hrel
  have hcn := HC.out.S.cn
  rcases HJ.out with ⟨hfd, k, hk, hR, hFj, hjs, hfu⟩ | ⟨hfd, hR⟩
  ·subst hfd
   subst hk
   obtain ⟨k1, rfl⟩ : ∃ m, k = m + 1 := ⟨k - 1, by omega⟩
   have HR := Aside0.mk hR
   clear hR HJ
   obtain ⟨b, hb⟩ : ∃ b, scTake s j (scWords s F l j) = b := ⟨_, rfl⟩
   have HB := Aside0.mk hb
   have hcx := HC.out.S.cx
   have hca := HC.out.S.ca
   have hcf := HC.out.cf
   have lx := blk_lt HC.out.S.X
   have lg := blk_lt HC.out.S.I.1
   have lf := blk_lt HC.out.Fm
   go_wp2_with fail
   have hwr : IntKind.i64.wrap ((j : Int) - F) = (j : Int) - F := IntWalk.i64_in _ (by omega)
   go_region_held3 (fun w' => w'.cell? ⟨bx, 0, none⟩ = some (.pointer (some ⟨g, 0, none⟩)) ∧ w'.cell? ⟨g, 1, none⟩ = some (.int .i64 j) ∧ w'.cell? ⟨bf, 0, none⟩ = some (.int .i64 F)) (go_keep) (fail)
   have hjF : ((j - F : Nat) : Int) = (j : Int) - F := by omega
   obtain ⟨W2, hW2⟩ : ∃ W2, W2 = (wr.alloc (.cells #[.int .i64 ((j : Int) - F)] 3)).drew := ⟨_, rfl⟩
   obtain ⟨bm, hbm0⟩ : ∃ bm, bm = wr.heap.size := ⟨_, rfl⟩
   have HC2 := Aside0.mk (show WC w0 w Ws W2 g bx bn bw bf s j F (-1) A cap l by rw [hW2]; exact (HC.out.alloc _).drewN 1)
   have HM := Aside0.mk (show W2.heap[bm]? = some (.cells #[.int .i64 ((j - F : Nat) : Int)] 3 (0, 0)) by rw [hW2, hbm0, hjF]; exact blk_new wr _)
   have hbm : bm ≠ g ∧ True := ⟨by omega, trivial⟩
   rw [← hW2, ← hbm0]
   clear hW2 hbm0 HC hcx hca hcf lx lg lf hwr hjF hcn
   have hcx2 := HC2.out.S.cx
   have HMU := Aside0.mk (HC2.out.S.must (p := scWords s F l j) hs (word_ok w0 W2 g bw bm bx bf s F j A cap l HC2.out.Wd HM.out HC2.out.S.X HC2.out.Fm ⟨HC2.out.Ap.1, hbm.1, HC2.out.S.A.1, HC2.out.Ap.2.2.1⟩ hFj hjs HC2.out.Rw (fun ad e hl => (HC2.out.Ap.2.2.2.2 ad e hl).1) hs) HB.out)
   cases b with
   | false =>
    have hR3 : (false, j, -1) = R := by have h2 := HR.out; rw [scWordLoop, if_neg (by rw [hb]; simp)] at h2; exact h2
    subst hR3
    clear hb
    go_wp2_with (go_at_call 45; refine Calls.mono HMU.out ?_; rintro e w3 ⟨he, h3, hk3⟩; simp only [if_true, Bool.false_eq_true, if_false] at he h3; subst he; have HC := Aside0.mk (HC2.out.keep h3 hk3); clear HC2 HM HMU h3 hk3 hcx2)
    exact ⟨rfl, HE.out.symm, by rw [HJ0.out.1, HJ0.out.2]; exact HC.out.S⟩
   | true =>
    have hjl := scTake_lt hb
    have HR3 := Aside0.mk (show (if scFind (s.extract F (j + 1)) l 0 (-1) < 0 then scWordLoop s F l k1 (j + 1) else (true, j + 1, scFind (s.extract F (j + 1)) l 0 (-1))) = R by have h2 := HR.out; rw [scWordLoop, if_pos hb] at h2; exact h2)
    clear hb HR
    go_wp2_with (go_at_call 45; refine Calls.mono HMU.out ?_; rintro e w3 ⟨he, h3, hk3⟩; simp only [if_true, Bool.false_eq_true, if_false] at he h3; subst he; have HC := Aside0.mk (HC2.out.keep h3 hk3); have hcw := HC.out.cw; clear HC2 HM HMU h3 hk3 hcx2)
    obtain ⟨j1, hj1⟩ : ∃ j1, j1 = j + 1 := ⟨_, rfl⟩
    rw [← hj1] at HC HR3
    have hjs1 : j1 ≤ s.size := by omega
    have hjF1 : F ≤ j1 := by omega
    have HJ1 := Aside0.mk hj1
    clear hj1
    obtain ⟨V2, hV2⟩ : ∃ V2, V2 = scFind (s.extract F j1) l 0 (-1) := ⟨_, rfl⟩
    rw [← hV2] at HR3
    have HV2 := Aside0.mk (show scFind (s.extract F j1) (l.drop 0) 0 (-1) = V2 from hV2.symm)
    have HWA := Aside0.mk HC.out.Rw.1
    clear hV2 hcw hbm
    go_loopg [23] l.length (fun kq v23 w' => ∃ (i : Nat) (fd : Int), v23 = .int .i64 i ∧ Aside0 (i + kq = l.length) ∧ Aside0 (-1 ≤ fd ∧ scFind (s.extract F j1) (l.drop i) i fd = V2) ∧ Aside0 (WC w0 w Ws w' g bx bn bw bf s j1 F fd A cap l))
    case atStart => exact ⟨0, -1, rfl, ⟨by omega⟩, ⟨by omega, HV2.out⟩, HC⟩
    case round =>
     clear HC HV2
     obtain ⟨i, fd, rfl, HI, HV, HC⟩ := hrel
     have hi0 := HI.out
     by_cases hk0 : gk = 0
     ·have hi : ¬ (i : Int) < (l.length : Int) := by omega
      have hfv : fd = V2 := by rw [← HV.out.2, List.drop_eq_nil_of_le (by omega)]; rfl
      have hfm := HV.out.1
      subst hk0
      go_wp2_with fail
      go_roundg (k1 + 1)
      case measure => omega
      case rel =>
       refine ⟨j1, fd, ⟨?_⟩, HC⟩
       have h2 := HR3.out
       rw [← hfv] at h2
       by_cases hn : fd < 0
       ·rw [if_pos hn] at h2
        exact .inl ⟨by omega, k1, rfl, h2, by omega, by omega, by have := HJ1.out; omega⟩
       ·rw [if_neg hn] at h2
        exact .inr ⟨by omega, h2.symm⟩
     ·obtain ⟨k2, rfl⟩ : ∃ m, gk = m + 1 := ⟨gk - 1, by omega⟩
      have hi : (i : Int) < (l.length : Int) := by omega
      have hin : i < l.length := by omega
      have hi2 : (i : Int) + 1 ≤ 9223372036854775807 := by have := HWA.out; omega
      obtain ⟨ad, rfl, hcell⟩ := HC.out.Rw.2 i hin
      obtain ⟨x, hx0⟩ : ∃ x, l.getD i ByteArray.empty = x := ⟨_, rfl⟩
      have hd : l.drop i = x :: l.drop (i + 1) := by rw [← hx0, List.getD_eq_getElem?_getD, List.getElem?_eq_getElem hin]; exact List.drop_eq_getElem_cons hin
      rw [hx0] at hcell
      have HV1 := Aside0.mk (show scFind (s.extract F j1) (l.drop (i + 1)) (i + 1) (if x.toList == (s.extract F j1).toList then (i : Int) else fd) = V2 by have h2 := HV.out.2; rw [hd] at h2; exact h2)
      obtain ⟨b5, hb5⟩ : ∃ b, (x.toList == (s.extract F j1).toList) = b := ⟨_, rfl⟩
      clear hd hx0
      have hcx := HC.out.S.cx
      have hca := HC.out.S.ca
      have hcs := HC.out.S.cs
      have hcf := HC.out.cf
      have hcw := HC.out.cw
      have hcn := HC.out.S.cn
      have hfn := HC.out.S.fn
      have d1 : (0 : Int) ≤ (F : Int) := Int.natCast_nonneg _
      have d2 : (F : Int) ≤ (j1 : Int) := by omega
      have d3 : (0 : Int) ≤ (j1 : Int) := Int.natCast_nonneg _
      have d4 : (j1 : Int) ≤ (s.size : Int) := by omega
      cases b5 with
      | true =>
       have HV3 := Aside0.mk (show scFind (s.extract F j1) (l.drop (i + 1)) (i + 1) (i : Int) = V2 by have h2 := HV1.out; rw [if_pos hb5] at h2; exact h2)
       go_wp2_with fail
       go_quiet (fail)
       go_wp2_with fail
       go_roundg k2
       case measure => omega
       case rel => exact ⟨i + 1, (i : Int), by go_num, ⟨by omega⟩, ⟨by omega, HV3.out⟩, ⟨(HC.out.drewN nq).setN _⟩⟩
      | false =>
       have HV3 := Aside0.mk (show scFind (s.extract F j1) (l.drop (i + 1)) (i + 1) fd = V2 by have h2 := HV1.out; rw [if_neg (by rw [hb5]; simp)] at h2; exact h2)
       go_wp2_with fail
       go_quiet (fail)
       go_wp2_with fail
       go_roundg k2
       case measure => omega
       case rel => exact ⟨i + 1, fd, by go_num, ⟨by omega⟩, ⟨HV.out.1, HV3.out⟩, ⟨HC.out.drewN nq⟩⟩
  ·have hfd2 : ¬ fd < 0 := by omega
   subst hR
   go_wp2_with fail
   go_end0
   exact ⟨HE.out.symm, by rw [HJ0.out.1, HJ0.out.2]; exact HC.out.S⟩
end Go.Proofs.YtlchefonlfokgaaDoor.Q
end
section
namespace Go.Proofs.YtlchefonlfokgaaDoor.Q
open Go.RowKit Go.Proofs.YtlchefonlfokgaaDoorW.PrintWords Go.Proofs.YtlchefonlfokgaaDoorW.PrintLast Go.Proofs.YtlchefonlfokgaaDoorW.PrintMore
set_option maxRecDepth 100000
theorem word_any (w0 w : World) (g : Nat) (s : ByteArray) (i : Nat) (A : Option Addr) (cap : Nat) (l : List ByteArray) (hI : IsS77 w0 w g s (i : Int) false) (hB : Below w0.heap.size w0 w) (hs : s.size ≤ 4611686018427387904) (his : i ≤ s.size) (hrow : Kd.string.C w A l.length l) (hA : ∀ ad, A = some ad → 0 < l.length → ad.block ≠ g) :
  Calls Tryd.prog 20 #[.pointer (some ⟨g, 0, none⟩), .slice A l.length cap] w fun e w' => e = .returned (.int .i64 (if (scWord s i l).1 then (scWord s i l).2.2 else -1)) ∧ IsS77 w0 w' g s ((scWord s i l).2.1 : Int) (!(scWord s i l).1) ∧ Below w0.heap.size w0 w' ∧ KeepBut w w' g none := by
 have hmf : ∀ (fn : Fn) (first cap : Array Value) (w : World), (Instr.makeFunc fn first cap).run Tryd.prog w = .ok (.func fn first cap) w := fun _ _ _ _ => rfl
 obtain ⟨w2, hw2⟩ : ∃ w2, w2 = ((w.alloc (.cells #[.pointer (some ⟨g, 0, none⟩)] 45)).alloc (.cells #[.slice A l.length cap] 38)).alloc (.cells #[.int .i64 (-1)] 3) := ⟨_, rfl⟩
 have hz2 : w2.heap.size = w.heap.size + 3 := by rw [hw2]; simp
 have lg := blk_lt hI.1
 have hz0 := hB.size
 have hSC : SC w0 w2 w2 w2 g w.heap.size (w.heap.size + 2) s (i : Int) (.int .i64 (-1)) := by
  refine ⟨by rw [hw2]; exact ((hI.alloc _).alloc _).alloc _, by rw [hw2]; exact ((hB.alloc hz0 _).alloc (by rw [World.size_alloc]; omega) _).alloc (by rw [World.size_alloc, World.size_alloc]; omega) _, by rw [hw2]; exact blk_alloc (blk_alloc (blk_new w _) _) _, ?_, ⟨Nat.le_refl _, fun _ _ _ _ => rfl⟩, by omega⟩
  have h := blk_new ((w.alloc (.cells #[.pointer (some ⟨g, 0, none⟩)] 45)).alloc (.cells #[.slice A l.length cap] 38)) (.cells #[.int .i64 (-1)] 3)
  rw [World.size_alloc, World.size_alloc] at h
  rw [hw2]
  exact h
 have hbw : w2.heap[w.heap.size + 1]? = some (.cells #[.slice A l.length cap] 38 (0, 0)) := by
  have h := blk_new (w.alloc (.cells #[.pointer (some ⟨g, 0, none⟩)] 45)) (.cells #[.slice A l.length cap] 38)
  rw [World.size_alloc] at h
  rw [hw2]
  exact blk_alloc h _
 have hk0 : ∀ k, k < w.heap.size → w2.heap[k]? = w.heap[k]? := fun k hk => by rw [hw2, Below.heap_alloc _ _ _ (by rw [World.size_alloc, World.size_alloc]; omega), Below.heap_alloc _ _ _ (by rw [World.size_alloc]; omega), Below.heap_alloc _ _ _ hk]
 have hWA0 : WordsAt w A l := ⟨hrow.2.1, fun k hk => by
  obtain ⟨ad, he, hc⟩ := Kd.at_string hrow (k : Int) (by omega) (by omega)
  exact ⟨ad, he, by simpa [rdOf] using hc⟩⟩
 have hlt : ∀ ad, A = some ad → 0 < l.length → ad.block < w.heap.size := fun ad e hl => by
  obtain ⟨ad', he, hc⟩ := hWA0.2 0 hl
  rw [e] at he
  obtain rfl := Option.some.inj he
  exact World.block_lt_of_cell? w (ad.add 0) hc
 have hWA : WordsAt w2 A l := hWA0.keep (g := w.heap.size) (fun k h1 _ => hk0 k h1) (fun ad e hl => by have := hlt ad e hl; omega)
 have HG := Aside0.mk (guard_sc (j := ((scWord s i l).2.1 : Int)) (v1 := .int .i64 (scWord s i l).2.2) (ok := (scWord s i l).1) (f := 44) (cap := #[.pointer (some ⟨w.heap.size, 0, none⟩), .pointer (some ⟨w.heap.size + 2, 0, none⟩), .pointer (some ⟨w.heap.size + 1, 0, none⟩)]) hSC (by omega) (fun _ _ => rfl) (fun W hW hS => word1 w0 w2 W W g _ _ (w.heap.size + 1) s i A cap l hs his hS ((hW.block _ (blk_lt hbw)).trans hbw) (hWA.keep (g := w2.heap.size) (fun k h1 _ => hW.block k h1) (fun ad e hl => by have := hlt ad e hl; omega)) ⟨by omega, by omega, fun ad e hl => ⟨hA ad e hl, by have := hlt ad e hl; omega⟩⟩ rfl))
 obtain ⟨r, hr⟩ : ∃ r, r = scWord s i l := ⟨_, rfl⟩
 rw [← hr] at HG
 rw [← hr]
 have HK0 := Aside0.mk hk0
 have HW2 := Aside0.mk hw2
 have HZ2 := Aside0.mk hz2
 clear hI hB hSC hr hw2 hz2 hbw hk0 hWA0 hlt hWA hrow hA
 obtain ⟨ok, j, v⟩ := r
 have HH : ∀ (e : Ending) (w' : World), (e = .returned (.bool ok) ∧ IsS77 w0 w' g s (j : Int) (!ok) ∧ Below w0.heap.size w0 w' ∧ w2.heap.size ≤ w'.heap.size ∧ w'.heap[w.heap.size + 2]? = some (.cells #[.int .i64 v] 3 (0, 0)) ∧ w'.heap[w.heap.size]? = some (.cells #[.pointer (some ⟨g, 0, none⟩)] 45 (0, 0)) ∧ ∀ k, k < w2.heap.size → k ≠ g → k ≠ w.heap.size + 2 → w'.heap[k]? = w2.heap[k]?) →
   e = .returned (.bool ok) ∧ IsS77 w0 w' g s (j : Int) (!ok) ∧ Below w0.heap.size w0 w' ∧ KeepBut w w' g none ∧ w'.cell? ⟨w.heap.size + 2, 0, none⟩ = some (.int .i64 v) ∧ w'.cell? ⟨w.heap.size, 0, none⟩ = some (.pointer (some ⟨g, 0, none⟩)) := fun e w' ⟨h1, h2, h3, h4, h5, h6, h7⟩ =>
  ⟨h1, h2, h3, ⟨by have := HZ2.out; omega, fun k hk hg _ => (h7 k (by have := HZ2.out; omega) hg (by omega)).trans (HK0.out k hk)⟩, blk_cell h5 0, blk_cell h6 0⟩
 have HG2 := Aside0.mk (HG.out.mono HH)
 clear HG HH HK0 HZ2
 cases ok with
 | true =>
  go_enter Tryd.func20, Tryd.ntmps20
  go_wp2_with (rw [← HW2.out]; refine Calls.mono HG2.out ?_; rintro e w3 ⟨rfl, hI3, hB3, hK3, hcn, hcx⟩; have HI := Aside0.mk hI3; have HB := Aside0.mk hB3; have HK := Aside0.mk hK3; clear HG2 hI3 hB3 hK3)
  go_ret
  exact ⟨by simp, HI.out, HB.out, HK.out⟩
 | false =>
  go_enter Tryd.func20, Tryd.ntmps20
  go_wp2_with (rw [← HW2.out]; refine Calls.mono HG2.out ?_; rintro e w3 ⟨rfl, hI3, hB3, hK3, hcn, hcx⟩; have HI := Aside0.mk hI3; have HB := Aside0.mk hB3; have HK := Aside0.mk hK3; clear HG2 hI3 hB3 hK3)
  go_ret
  exact ⟨by simp, HI.out, HB.out, HK.out⟩
theorem word_bad (w0 w : World) (g : Nat) (s : ByteArray) (i : Int) (A : Option Addr) (cap : Nat) (l : List ByteArray) (hI : IsS77 w0 w g s i true) (hB : Below w0.heap.size w0 w) :
  Calls Tryd.prog 20 #[.pointer (some ⟨g, 0, none⟩), .slice A l.length cap] w fun e w' => e = .returned (.int .i64 (-1)) ∧ IsS77 w0 w' g s i true ∧ Below w0.heap.size w0 w' ∧ KeepBut w w' g none := by
 have hmf : ∀ (fn : Fn) (first cap : Array Value) (w : World), (Instr.makeFunc fn first cap).run Tryd.prog w = .ok (.func fn first cap) w := fun _ _ _ _ => rfl
 obtain ⟨w2, hw2⟩ : ∃ w2, w2 = ((w.alloc (.cells #[.pointer (some ⟨g, 0, none⟩)] 45)).alloc (.cells #[.slice A l.length cap] 38)).alloc (.cells #[.int .i64 (-1)] 3) := ⟨_, rfl⟩
 have hb2 : Below w.heap.size w w2 := by rw [hw2]; exact (((Below.refl _ w).alloc (Nat.le_refl _) _).alloc (by rw [World.size_alloc]; omega) _).alloc (by rw [World.size_alloc, World.size_alloc]; omega) _
 have HG := Aside0.mk (guard_failed w0 w2 g s i 44 #[.pointer (some ⟨w.heap.size, 0, none⟩), .pointer (some ⟨w.heap.size + 2, 0, none⟩), .pointer (some ⟨w.heap.size + 1, 0, none⟩)] (hI.below hb2) (below_weaken hB hB.size hb2))
 have HW2 := Aside0.mk hw2
 have HB2 := Aside0.mk hb2
 clear hI hB hw2 hb2
 go_enter Tryd.func20, Tryd.ntmps20
 go_wp2_with (rw [← HW2.out]; refine Calls.mono HG.out ?_; rintro e w3 ⟨rfl, hI3, hB3, hK3⟩; have HI := Aside0.mk hI3; have HB := Aside0.mk hB3; have HK := Aside0.mk (KeepBut.of_below (below_then HB2.out HB2.out.size hK3) g none); clear HG hI3 hB3 hK3)
 go_ret
 exact ⟨rfl, HI.out, HB.out, HK.out⟩
end Go.Proofs.YtlchefonlfokgaaDoor.Q
end
section
namespace Go.Proofs.YtlchefonlfokgaaDoor.Q
open Go.RowKit Go.Proofs.YtlchefonlfokgaaDoorW.PrintWords Go.Proofs.YtlchefonlfokgaaDoorW.PrintLast Go.Proofs.YtlchefonlfokgaaDoorW.PrintMore
set_option maxRecDepth 100000
theorem end1 (W : World) (g bx : Nat) (s : ByteArray) (i : Nat) (ok : Bool) (hx : W.cell? ⟨bx, 0, none⟩ = some (.pointer (some ⟨g, 0, none⟩))) (h0 : W.cell? ⟨g, 0, none⟩ = some (.string s)) (h1 : W.cell? ⟨g, 1, none⟩ = some (.int .i64 i)) (hok : ok = decide (s.size ≤ i)) :
  Calls Tryd.prog 60 #[.pointer (some ⟨bx, 0, none⟩)] W fun e W' => e = (if ok then .returned (.tuple #[]) else .panicked scFail) ∧ ∃ m, W' = W.drewN m := by
 have hu := Tryd.underlying87
 by_cases h : i < s.size
 ·have hk : ok = false := by rw [hok]; exact decide_eq_false (by omega)
  subst hk
  clear hok
  go_enter Tryd.func60, Tryd.ntmps60
  go_wp2_with fail
  go_quiet (fail)
  go_wp2
  exact ⟨rfl, rfl, _, rfl⟩
 ·have hk : ok = true := by rw [hok]; exact decide_eq_true (by omega)
  subst hk
  clear hok
  go_enter Tryd.func60, Tryd.ntmps60
  go_wp2_with fail
  go_quiet (fail)
  go_wp2
  go_end0
  exact ⟨rfl, _, rfl⟩
theorem end_any (w0 w : World) (g : Nat) (s : ByteArray) (i : Nat) (hI : IsS77 w0 w g s (i : Int) false) (hB : Below w0.heap.size w0 w) :
  Calls Tryd.prog 23 #[.pointer (some ⟨g, 0, none⟩)] w fun e w' => e = .returned (.tuple #[]) ∧ IsS77 w0 w' g s (i : Int) (!decide (s.size ≤ i)) ∧ Below w0.heap.size w0 w' ∧ KeepBut w w' g none := by
 have hmf : ∀ (fn : Fn) (first cap : Array Value) (w : World), (Instr.makeFunc fn first cap).run Tryd.prog w = .ok (.func fn first cap) w := fun _ _ _ _ => rfl
 obtain ⟨w2, hw2⟩ : ∃ w2, w2 = w.alloc (.cells #[.pointer (some ⟨g, 0, none⟩)] 45) := ⟨_, rfl⟩
 have hb2 : Below w.heap.size w w2 := by rw [hw2]; exact (Below.refl _ w).alloc (Nat.le_refl _) _
 have hx2 : w2.heap[w.heap.size]? = some (.cells #[.pointer (some ⟨g, 0, none⟩)] 45 (0, 0)) := by rw [hw2]; exact blk_new w _
 have hI2 := hI.below hb2
 have hB2 := below_weaken hB hB.size hb2
 have HG := Aside0.mk (guard_any w0 w2 g s (i : Int) (i : Int) 60 #[.pointer (some ⟨w.heap.size, 0, none⟩)] (decide (s.size ≤ i)) (fun W' => ∃ W, Below w2.heap.size w2 W ∧ ∃ m, W' = W.drewN m) hI2 hB2
  ⟨fun _ _ => rfl, fun W hW => (end1 W g w.heap.size s i _ (blk_cell ((hW.block _ (blk_lt hx2)).trans hx2) 0) (cellS77_0 ((hW.block _ (blk_lt hI2.1)).trans hI2.1)) (cellS77_1 ((hW.block _ (blk_lt hI2.1)).trans hI2.1)) rfl).mono (fun e W' ⟨he, m, hm⟩ => by subst hm; exact ⟨he, Nat.le_refl _, fun _ _ _ => rfl, W, hW, m, rfl⟩)⟩
  (fun W' ⟨W, hW, m, hm⟩ => by subst hm; exact ⟨(hI2.below hW).drewN m, pw_below_drewN (below_weaken hB2 hB2.size hW) m⟩))
 have HH : ∀ (e : Ending) (w' : World), (e = .returned (.bool (decide (s.size ≤ i))) ∧ IsS77 w0 w' g s (i : Int) (!decide (s.size ≤ i)) ∧ Below w0.heap.size w0 w' ∧ w2.heap.size ≤ w'.heap.size ∧ ∃ W1, (∃ W, Below w2.heap.size w2 W ∧ ∃ m, W1 = W.drewN m) ∧ ∀ k, k < w2.heap.size → k ≠ g → w'.heap[k]? = W1.heap[k]?) →
   e = .returned (.bool (decide (s.size ≤ i))) ∧ IsS77 w0 w' g s (i : Int) (!decide (s.size ≤ i)) ∧ Below w0.heap.size w0 w' ∧ KeepBut w w' g none := fun e w' ⟨h1, h2, h3, h4, W1, ⟨W, hW, m, hm⟩, h5⟩ => by
  subst hm
  have hz := hb2.size
  exact ⟨h1, h2, h3, by omega, fun k hk hg _ => by rw [h5 k (by omega) hg]; exact (hW.block k (by omega)).trans (hb2.block k hk)⟩
 have HG2 := Aside0.mk (HG.out.mono HH)
 have HW2 := Aside0.mk hw2
 clear HG HH hw2 hb2 hx2 hI2 hB2 hI hB
 go_enter Tryd.func23, Tryd.ntmps23
 go_wp2_with (rw [← HW2.out]; refine Calls.mono HG2.out ?_; rintro e w3 ⟨rfl, hI3, hB3, hK3⟩; have HI := Aside0.mk hI3; have HB := Aside0.mk hB3; have HK := Aside0.mk hK3; clear HG2 hI3 hB3 hK3)
 go_end0
 exact ⟨rfl, HI.out, HB.out, HK.out⟩
theorem offset_any (w : World) (g : Nat) (i : Int) (h1 : w.cell? ⟨g, 1, none⟩ = some (.int .i64 i)) :
  Calls Tryd.prog 25 #[.pointer (some ⟨g, 0, none⟩)] w fun e w' => e = .returned (.int .i64 i) ∧ w' = w := by
 go_enter Tryd.func25, Tryd.ntmps25
 go_wp2
 go_ret
 exact ⟨rfl, rfl⟩
theorem err_any (w : World) (g : Nat) (bad : Bool) (h1 : w.cell? ⟨g, 2, none⟩ = some (.bool bad)) :
  Calls Tryd.prog 24 #[.pointer (some ⟨g, 0, none⟩)] w fun e w' => e = .returned (.int .i64 (if bad then 6 else 0)) ∧ w' = w := by
 cases bad <;> (
  go_enter Tryd.func24, Tryd.ntmps24
  go_wp2
  go_ret
  exact ⟨by simp, rfl⟩)
end Go.Proofs.YtlchefonlfokgaaDoor.Q
end
section
namespace Go.Proofs.YtlchefonlfokgaaDoor.Q
open Go.RowKit Go.Proofs.YtlchefonlfokgaaDoorW.PrintWords Go.Proofs.YtlchefonlfokgaaDoorW.PrintLast Go.Proofs.YtlchefonlfokgaaDoorW.PrintMore
set_option maxRecDepth 100000
theorem end_bad (w0 w : World) (g : Nat) (s : ByteArray) (i : Int) (hI : IsS77 w0 w g s i true) (hB : Below w0.heap.size w0 w) :
  Calls Tryd.prog 23 #[.pointer (some ⟨g, 0, none⟩)] w fun e w' => e = .returned (.tuple #[]) ∧ IsS77 w0 w' g s i true ∧ Below w0.heap.size w0 w' ∧ KeepBut w w' g none := by
 have hmf : ∀ (fn : Fn) (first cap : Array Value) (w : World), (Instr.makeFunc fn first cap).run Tryd.prog w = .ok (.func fn first cap) w := fun _ _ _ _ => rfl
 obtain ⟨w2, hw2⟩ : ∃ w2, w2 = w.alloc (.cells #[.pointer (some ⟨g, 0, none⟩)] 45) := ⟨_, rfl⟩
 have hb2 : Below w.heap.size w w2 := by rw [hw2]; exact (Below.refl _ w).alloc (Nat.le_refl _) _
 have HG := Aside0.mk (guard_failed w0 w2 g s i 60 #[.pointer (some ⟨w.heap.size, 0, none⟩)] (hI.below hb2) (below_weaken hB hB.size hb2))
 have HW2 := Aside0.mk hw2
 have HB2 := Aside0.mk hb2
 clear hI hB hw2 hb2
 go_enter Tryd.func23, Tryd.ntmps23
 go_wp2_with (rw [← HW2.out]; refine Calls.mono HG.out ?_; rintro e w3 ⟨rfl, hI3, hB3, hK3⟩; have HI := Aside0.mk hI3; have HB := Aside0.mk hB3; have HK := Aside0.mk (KeepBut.of_below (below_then HB2.out HB2.out.size hK3) g none); clear HG hI3 hB3 hK3)
 go_end0
 exact ⟨rfl, HI.out, HB.out, HK.out⟩
end Go.Proofs.YtlchefonlfokgaaDoor.Q
end
section
namespace Go.Proofs.YtlchefonlfokgaaDoor.Q
open Go.RowKit Go.Proofs.YtlchefonlfokgaaDoorW.PrintWords Go.Proofs.YtlchefonlfokgaaDoorW.PrintLast Go.Proofs.YtlchefonlfokgaaDoorW.PrintMore
set_option maxRecDepth 100000
theorem new_any (w : World) (s : ByteArray) :
  Calls Tryd.prog 19 #[.string s] w fun e w' => e = .returned (.pointer (some ⟨w.heap.size, 0, none⟩)) ∧ w' = w.alloc (.cells #[.string s, .int .i64 0, .bool false] 77) := by
 have hu := Tryd.underlying77
 go_enter Tryd.func19, Tryd.ntmps19
 go_wp2
 go_ret
 exact ⟨rfl, rfl⟩
end Go.Proofs.YtlchefonlfokgaaDoor.Q
end
section
namespace Go.Proofs.YtlchefonlfokgaaDoor.Q
open Go.RowKit Go.Proofs.YtlchefonlfokgaaDoorW.PrintWords Go.Proofs.YtlchefonlfokgaaDoorW.PrintLast Go.Proofs.YtlchefonlfokgaaDoorW.PrintMore
set_option maxRecDepth 100000
def linescan_Scanner_Word.f (s0_0 : ByteArray) (s0_1 : Int) (s0_2 : Bool) (l1 : List ByteArray) : Option (Int × ByteArray × Int × Bool) :=
 if s0_2 = true then some (-1, s0_0, s0_1, s0_2)
 else if 0 ≤ s0_1 ∧ s0_1 ≤ (s0_0.size : Int) ∧ s0_0.size ≤ 4611686018427387904 then
  some (if (scWord s0_0 s0_1.toNat l1).1 then (scWord s0_0 s0_1.toNat l1).2.2 else -1, s0_0, ((scWord s0_0 s0_1.toNat l1).2.1 : Int), !(scWord s0_0 s0_1.toNat l1).1)
 else none
theorem linescan_Scanner_Word.calls (g : Nat) (s0_0 : ByteArray) (s0_1 : Int) (s0_2 : Bool) (A1 : Option Addr) (c1 : Nat) (l1 : List ByteArray) (r1 : Int) (r2 : ByteArray) (r3 : Int) (r4 : Bool) (w0 w : World) (hI : IsS77 w0 w g s0_0 s0_1 s0_2) (hB : Below w0.heap.size w0 w) (hr1 : Kd.string.C w A1 l1.length l1) (hc1 : l1.length ≤ c1) (hf1 : ∀ ad, A1 = some ad → 0 < l1.length → ad.block ≠ g) (h : linescan_Scanner_Word.f s0_0 s0_1 s0_2 l1 = some (r1, r2, r3, r4)) :
  Calls Tryd.prog 20 #[.pointer (some ⟨g, 0, none⟩), .slice A1 l1.length c1] w fun e w' => e = .returned (.int .i64 r1) ∧ IsS77 w0 w' g r2 r3 r4 ∧ Below w0.heap.size w0 w' ∧ KeepBut w w' g none := by
 unfold linescan_Scanner_Word.f at h
 cases s0_2 with
 | true =>
  rw [if_pos rfl] at h
  obtain ⟨rfl, rfl, rfl, rfl⟩ : -1 = r1 ∧ s0_0 = r2 ∧ s0_1 = r3 ∧ true = r4 := by simpa using h
  exact word_bad w0 w g _ _ A1 c1 l1 hI hB
 | false =>
  rw [if_neg (by simp)] at h
  by_cases hc : 0 ≤ s0_1 ∧ s0_1 ≤ (s0_0.size : Int) ∧ s0_0.size ≤ 4611686018427387904
  ·rw [if_pos hc] at h
   obtain ⟨i, rfl⟩ : ∃ i : Nat, s0_1 = (i : Int) := ⟨s0_1.toNat, by omega⟩
   rw [Int.toNat_natCast] at h
   simp only [Option.some.injEq, Prod.mk.injEq] at h
   obtain ⟨rfl, rfl, rfl, rfl⟩ := h
   exact word_any w0 w g _ i A1 c1 l1 hI hB hc.2.2 (by omega) hr1 hf1
  ·rw [if_neg hc] at h
   exact absurd h (by simp)
def linescan_Scanner_Number.f (s0_0 : ByteArray) (s0_1 : Int) (s0_2 : Bool) : Option (Int × ByteArray × Int × Bool) :=
 if s0_2 = true then some (0, s0_0, s0_1, s0_2)
 else if 0 ≤ s0_1 ∧ s0_0.size ≤ 4611686018427387904 then
  some (if (scNum s0_0 s0_1.toNat).1 then (scNum s0_0 s0_1.toNat).2.2 else 0, s0_0, ((scNum s0_0 s0_1.toNat).2.1 : Int), !(scNum s0_0 s0_1.toNat).1)
 else none
theorem linescan_Scanner_Number.calls (g : Nat) (s0_0 : ByteArray) (s0_1 : Int) (s0_2 : Bool) (r1 : Int) (r2 : ByteArray) (r3 : Int) (r4 : Bool) (w0 w : World) (hI : IsS77 w0 w g s0_0 s0_1 s0_2) (hB : Below w0.heap.size w0 w) (h : linescan_Scanner_Number.f s0_0 s0_1 s0_2 = some (r1, r2, r3, r4)) :
  Calls Tryd.prog 47 #[.pointer (some ⟨g, 0, none⟩)] w fun e w' => e = .returned (.int .i64 r1) ∧ IsS77 w0 w' g r2 r3 r4 ∧ Below w0.heap.size w0 w' ∧ KeepBut w w' g none := by
 unfold linescan_Scanner_Number.f at h
 cases s0_2 with
 | true =>
  rw [if_pos rfl] at h
  obtain ⟨rfl, rfl, rfl, rfl⟩ : 0 = r1 ∧ s0_0 = r2 ∧ s0_1 = r3 ∧ true = r4 := by simpa using h
  exact number_bad w0 w g _ _ hI hB
 | false =>
  rw [if_neg (by simp)] at h
  by_cases hc : 0 ≤ s0_1 ∧ s0_0.size ≤ 4611686018427387904
  ·rw [if_pos hc] at h
   obtain ⟨i, rfl⟩ : ∃ i : Nat, s0_1 = (i : Int) := ⟨s0_1.toNat, by omega⟩
   rw [Int.toNat_natCast] at h
   simp only [Option.some.injEq, Prod.mk.injEq] at h
   obtain ⟨rfl, rfl, rfl, rfl⟩ := h
   exact number_ok w0 w g _ i hI hB hc.2
  ·rw [if_neg hc] at h
   exact absurd h (by simp)
def linescan_Scanner_Identifier.f (s0_0 : ByteArray) (s0_1 : Int) (s0_2 : Bool) : Option (ByteArray × ByteArray × Int × Bool) :=
 if s0_2 = true then some (⟨#[]⟩, s0_0, s0_1, s0_2)
 else if 0 ≤ s0_1 ∧ s0_1 ≤ (s0_0.size : Int) ∧ s0_0.size ≤ 4611686018427387904 then
  some (if (scIdent s0_0 s0_1.toNat).1 then s0_0.extract s0_1.toNat (scIdent s0_0 s0_1.toNat).2 else ⟨#[]⟩, s0_0, ((scIdent s0_0 s0_1.toNat).2 : Int), !(scIdent s0_0 s0_1.toNat).1)
 else none
theorem linescan_Scanner_Identifier.calls (g : Nat) (s0_0 : ByteArray) (s0_1 : Int) (s0_2 : Bool) (r1 : ByteArray) (r2 : ByteArray) (r3 : Int) (r4 : Bool) (w0 w : World) (hI : IsS77 w0 w g s0_0 s0_1 s0_2) (hB : Below w0.heap.size w0 w) (h : linescan_Scanner_Identifier.f s0_0 s0_1 s0_2 = some (r1, r2, r3, r4)) :
  Calls Tryd.prog 81 #[.pointer (some ⟨g, 0, none⟩)] w fun e w' => e = .returned (.string r1) ∧ IsS77 w0 w' g r2 r3 r4 ∧ Below w0.heap.size w0 w' ∧ KeepBut w w' g none := by
 unfold linescan_Scanner_Identifier.f at h
 cases s0_2 with
 | true =>
  rw [if_pos rfl] at h
  obtain ⟨rfl, rfl, rfl, rfl⟩ : ⟨#[]⟩ = r1 ∧ s0_0 = r2 ∧ s0_1 = r3 ∧ true = r4 := by simpa using h
  exact ident_bad w0 w g _ _ hI hB
 | false =>
  rw [if_neg (by simp)] at h
  by_cases hc : 0 ≤ s0_1 ∧ s0_1 ≤ (s0_0.size : Int) ∧ s0_0.size ≤ 4611686018427387904
  ·rw [if_pos hc] at h
   obtain ⟨i, rfl⟩ : ∃ i : Nat, s0_1 = (i : Int) := ⟨s0_1.toNat, by omega⟩
   rw [Int.toNat_natCast] at h
   simp only [Option.some.injEq, Prod.mk.injEq] at h
   obtain ⟨rfl, rfl, rfl, rfl⟩ := h
   exact ident_ok w0 w g _ i hI hB hc.2.2 (by omega)
  ·rw [if_neg hc] at h
   exact absurd h (by simp)
def linescan_Scanner_End.f (s0_0 : ByteArray) (s0_1 : Int) (s0_2 : Bool) : Option (ByteArray × Int × Bool) :=
 if s0_2 = true then some (s0_0, s0_1, s0_2)
 else if 0 ≤ s0_1 then some (s0_0, s0_1, !decide ((s0_0.size : Int) ≤ s0_1))
 else none
theorem linescan_Scanner_End.calls (g : Nat) (s0_0 : ByteArray) (s0_1 : Int) (s0_2 : Bool) (r1 : ByteArray) (r2 : Int) (r3 : Bool) (w0 w : World) (hI : IsS77 w0 w g s0_0 s0_1 s0_2) (hB : Below w0.heap.size w0 w) (h : linescan_Scanner_End.f s0_0 s0_1 s0_2 = some (r1, r2, r3)) :
  Calls Tryd.prog 23 #[.pointer (some ⟨g, 0, none⟩)] w fun e w' => e = .returned (.tuple #[]) ∧ IsS77 w0 w' g r1 r2 r3 ∧ Below w0.heap.size w0 w' ∧ KeepBut w w' g none := by
 unfold linescan_Scanner_End.f at h
 cases s0_2 with
 | true =>
  rw [if_pos rfl] at h
  obtain ⟨rfl, rfl, rfl⟩ : s0_0 = r1 ∧ s0_1 = r2 ∧ true = r3 := by simpa using h
  exact end_bad w0 w g _ _ hI hB
 | false =>
  rw [if_neg (by simp)] at h
  by_cases hc : 0 ≤ s0_1
  ·rw [if_pos hc] at h
   obtain ⟨i, rfl⟩ : ∃ i : Nat, s0_1 = (i : Int) := ⟨s0_1.toNat, by omega⟩
   simp only [Option.some.injEq, Prod.mk.injEq] at h
   obtain ⟨rfl, rfl, rfl⟩ := h
   have e : decide ((s0_0.size : Int) ≤ (i : Int)) = decide (s0_0.size ≤ i) := by rw [decide_eq_decide]; omega
   rw [e]
   exact end_any w0 w g _ i hI hB
  ·rw [if_neg hc] at h
   exact absurd h (by simp)
end Go.Proofs.YtlchefonlfokgaaDoor.Q
end
section
namespace Go.Proofs.YtlchefonlfokgaaDoor.Q
open Go.RowKit Go.Proofs.YtlchefonlfokgaaDoorW.PrintWords Go.Proofs.YtlchefonlfokgaaDoorW.PrintLast Go.Proofs.YtlchefonlfokgaaDoorW.PrintMore
set_option maxRecDepth 100000
theorem strings_C {W : World} {b : Nat} {cs : Array Value} {xs : List ByteArray} (h : W.heap[b]? = some (.cells cs 9 (0, 0))) (hl : xs.length ≤ 9223372036854775807) (hc : ∀ j, j < xs.length → cs[j]? = some (.string (xs.getD j ByteArray.empty))) : Kd.string.C W (some ⟨b, 0, none⟩) xs.length xs :=
 Kd.C_of_reads (d := ByteArray.empty) ⟨rfl, hl, fun _ => ⟨_, rfl, fun j hj => by
  have h2 := (blk_cell h j).trans (hc j hj)
  have e : (Addr.add ⟨b, 0, none⟩ j) = ⟨b, j, none⟩ := by
   unfold Addr.add
   split
   ·rename_i h0; subst h0; rfl
   ·simp
  rw [e]
  exact h2⟩⟩
structure Two (w W : World) (gx gy : Nat) (sx : ByteArray) (ix : Int) (bx : Bool) (sy : ByteArray) (iy : Int) (by_ : Bool) : Prop where
 X : IsS77 w W gx sx ix bx
 Y : IsS77 w W gy sy iy by_
 B : Below w.heap.size w W
 N : gx ≠ gy
section
variable {w W : World} {gx gy : Nat} {sx : ByteArray} {ix : Int} {bx : Bool} {sy : ByteArray} {iy : Int} {by_ : Bool}
theorem Two.alloc (h : Two w W gx gy sx ix bx sy iy by_) (o : Obj) : Two w (W.alloc o) gx gy sx ix bx sy iy by_ := ⟨h.X.alloc o, h.Y.alloc o, h.B.alloc h.B.size o, h.N⟩
theorem Two.drewN (h : Two w W gx gy sx ix bx sy iy by_) (n : Nat) : Two w (W.drewN n) gx gy sx ix bx sy iy by_ := ⟨h.X.drewN n, h.Y.drewN n, pw_below_drewN h.B n, h.N⟩
theorem Two.below {W' : World} (h : Two w W gx gy sx ix bx sy iy by_) (hb : Below W.heap.size W W') : Two w W' gx gy sx ix bx sy iy by_ := ⟨h.X.below hb, h.Y.below hb, below_weaken h.B h.B.size hb, h.N⟩
theorem Two.turn {W' : World} {ix' : Int} {sx' : ByteArray} {bx' : Bool} (h : Two w W gx gy sx ix bx sy iy by_) (hI : IsS77 w W' gx sx' ix' bx') (hB : Below w.heap.size w W') (hK : KeepBut W W' gx none) : Two w W' gx gy sx' ix' bx' sy iy by_ :=
 ⟨hI, ⟨hK.blk h.Y.1 (fun e => h.N e.symm) (by simp), h.Y.2⟩, hB, h.N⟩
theorem Two.word {A1 : Option Addr} {c1 : Nat} {l1 : List ByteArray} {r1 : Int} {r2 : ByteArray} {r3 : Int} {r4 : Bool} (h : Two w W gx gy sx ix bx sy iy by_) (hr1 : Kd.string.C W A1 l1.length l1) (hc1 : l1.length ≤ c1) (hf1 : ∀ ad, A1 = some ad → 0 < l1.length → ad.block ≠ gx) (hf : linescan_Scanner_Word.f sx ix bx l1 = some (r1, r2, r3, r4)) :
  Calls Tryd.prog 20 #[.pointer (some ⟨gx, 0, none⟩), .slice A1 l1.length c1] W fun e w' => e = .returned (.int .i64 r1) ∧ Two w w' gx gy r2 r3 r4 sy iy by_ :=
 (linescan_Scanner_Word.calls gx sx ix bx A1 c1 l1 r1 r2 r3 r4 w W h.X h.B hr1 hc1 hf1 hf).mono fun e w' ⟨he, hI, hB, hK⟩ => ⟨he, h.turn hI hB hK⟩
theorem Two.number {r1 : Int} {r2 : ByteArray} {r3 : Int} {r4 : Bool} (h : Two w W gx gy sx ix bx sy iy by_) (hf : linescan_Scanner_Number.f sx ix bx = some (r1, r2, r3, r4)) :
  Calls Tryd.prog 47 #[.pointer (some ⟨gx, 0, none⟩)] W fun e w' => e = .returned (.int .i64 r1) ∧ Two w w' gx gy r2 r3 r4 sy iy by_ :=
 (linescan_Scanner_Number.calls gx sx ix bx r1 r2 r3 r4 w W h.X h.B hf).mono fun e w' ⟨he, hI, hB, hK⟩ => ⟨he, h.turn hI hB hK⟩
theorem Two.ident {r1 : ByteArray} {r2 : ByteArray} {r3 : Int} {r4 : Bool} (h : Two w W gx gy sx ix bx sy iy by_) (hf : linescan_Scanner_Identifier.f sx ix bx = some (r1, r2, r3, r4)) :
  Calls Tryd.prog 81 #[.pointer (some ⟨gx, 0, none⟩)] W fun e w' => e = .returned (.string r1) ∧ Two w w' gx gy r2 r3 r4 sy iy by_ :=
 (linescan_Scanner_Identifier.calls gx sx ix bx r1 r2 r3 r4 w W h.X h.B hf).mono fun e w' ⟨he, hI, hB, hK⟩ => ⟨he, h.turn hI hB hK⟩
theorem Two.end_ {r2 : ByteArray} {r3 : Int} {r4 : Bool} (h : Two w W gx gy sx ix bx sy iy by_) (hf : linescan_Scanner_End.f sx ix bx = some (r2, r3, r4)) :
  Calls Tryd.prog 23 #[.pointer (some ⟨gx, 0, none⟩)] W fun e w' => e = .returned (.tuple #[]) ∧ Two w w' gx gy r2 r3 r4 sy iy by_ :=
 (linescan_Scanner_End.calls gx sx ix bx r2 r3 r4 w W h.X h.B hf).mono fun e w' ⟨he, hI, hB, hK⟩ => ⟨he, h.turn hI hB hK⟩
theorem Two.err (h : Two w W gx gy sx ix bx sy iy by_) :
  Calls Tryd.prog 24 #[.pointer (some ⟨gx, 0, none⟩)] W fun e w' => e = .returned (.int .i64 (if bx then 6 else 0)) ∧ w' = W := err_any W gx bx (cellS77_2 h.X.1)
theorem Two.offset (h : Two w W gx gy sx ix bx sy iy by_) :
  Calls Tryd.prog 25 #[.pointer (some ⟨gx, 0, none⟩)] W fun e w' => e = .returned (.int .i64 ix) ∧ w' = W := offset_any W gx ix (cellS77_1 h.X.1)
theorem Two.words {l1 : List ByteArray} {cs : Array Value} {n : Nat} {r1 : Int} {r2 : ByteArray} {r3 : Int} {r4 : Bool} (h : Two w W gx gy sx ix bx sy iy by_) (hn : l1.length = n) (hl : n ≤ 9223372036854775807) (hcs : (l1.map Value.string).toArray = cs) (hf : linescan_Scanner_Word.f sx ix bx l1 = some (r1, r2, r3, r4)) :
  Calls Tryd.prog 20 #[.pointer (some ⟨gx, 0, none⟩), .slice (some ⟨W.heap.size, 0, none⟩) n n] (W.alloc (.cells cs 9)) fun e w' => e = .returned (.int .i64 r1) ∧ Two w w' gx gy r2 r3 r4 sy iy by_ := by
 subst hn
 subst hcs
 exact (h.alloc _).word (strings_C (blk_new W _) hl (fun j hj => by simp [List.getElem?_eq_getElem hj, List.getD])) (Nat.le_refl _) (fun ad e _ => by have h1 := blk_lt h.X.1; obtain rfl := Option.some.inj e; exact Nat.ne_of_gt h1) hf
end
end Go.Proofs.YtlchefonlfokgaaDoor.Q
end
