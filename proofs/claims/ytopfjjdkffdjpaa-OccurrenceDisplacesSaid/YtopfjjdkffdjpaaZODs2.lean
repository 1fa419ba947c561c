/- What is proved: what the statement OccurrenceDisplacesSaid needs, part 3 of 6; the last part proves the statement. No condition. -/
import Derived.Test.YtopfjjdkffdjpaaZODs1
set_option maxHeartbeats 8000000
set_option maxRecDepth 100000
set_option linter.unusedVariables false
set_option linter.unusedSimpArgs false
section
namespace Go.Proofs.Ytopfjjdkffdjpaa.Q
open Go.RowKit Go.Proofs.YtopfjjdkffdjpaaW.PrintWords Go.Proofs.YtopfjjdkffdjpaaW.PrintLast Go.Proofs.YtopfjjdkffdjpaaW.PrintMore
attribute [local go_sem] max2_int min2_int max_two min_two max_three min_three max_four min_four
def computusref03_Valid.f (k : Nat) (a0_0 : Int) (a0_1 : Int) (a0_2 : Int) : Option (Bool) := (computusref02_In.f a0_0).bind fun t228 => (if t228 = true then (if a0_2 ≥ 1 then ((computusref03_Leap.f a0_0).bind fun t229 => ((computusref02_Length.f k t229 a0_1).bind fun t230 => (some (decide (a0_2 ≤ t230))))) else (some false)) else (some false))
theorem computusref03_Valid.calls (k : Nat) (a0_0 : Int) (a0_1 : Int) (a0_2 : Int) (r : Bool) (w : World) (h : computusref03_Valid.f k a0_0 a0_1 a0_2 = some r) :
  Calls Try.prog 70 #[.agg #[.int .i64 a0_0, .int .i64 a0_1, .int .i64 a0_2]] w fun e w' => e = .returned (.bool r) ∧ Below w.heap.size w w' := by
 have hu98 := Try.underlying98
 have HB := am_ (Below.refl w.heap.size w)
 have H := h
 clear h
 unfold computusref03_Valid.f at H
 obtain ⟨t228, A2, H⟩ := bs_ H
 by_cases c3 : t228 = true
 rotate_left
 ·replace c3 := Bool.eq_false_iff.mpr c3
  subst c3
  replace H := if_ H
  obtain rfl := Option.some.inj H
  go_enter Try.func70, Try.ntmps70
  go_wp2_with (first | ((with_reducible refine gate_dst (N := 1) rfl ?_); refine bx_ (w := w) (N := 1) (cs := #[.int .i64 a0_0, .int .i64 a0_1, .int .i64 a0_2]) (t := 98) ?_; intro gb227 w11 BK227 n0_ GW227 GE227; clear HB; have HB := n0_; clear n0_; obtain ⟨hcz12_0, hcz12_1, hcz12_2⟩ := cz3_ BK227.out; obtain ⟨hfz12_0, hfz12_1, hfz12_2⟩ := fz3_ BK227.out) | (go_at_call 69; (with_reducible refine (computusref02_In.calls a0_0 false _ A2.out).mono ?_); rintro e w' ⟨rfl, ⟨nd, rfl⟩⟩; (try first | exact ⟨rfl, _, World.drewN_drewN _ _ _⟩ | exact ⟨rfl, _, Eq.trans (World.drewN_drewN _ _ _) (congrArg (World.drewN _) (Nat.add_assoc _ _ _))⟩)))
  repeat (go_quiet (first | ((with_reducible refine gate_dst (N := 1) rfl ?_); refine bx_ (w := w) (N := 1) (cs := #[.int .i64 a0_0, .int .i64 a0_1, .int .i64 a0_2]) (t := 98) ?_; intro gb227 w11 BK227 n0_ GW227 GE227; clear HB; have HB := n0_; clear n0_; obtain ⟨hcz12_0, hcz12_1, hcz12_2⟩ := cz3_ BK227.out; obtain ⟨hfz12_0, hfz12_1, hfz12_2⟩ := fz3_ BK227.out) | (go_at_call 69; (with_reducible refine (computusref02_In.calls a0_0 false _ A2.out).mono ?_); rintro e w' ⟨rfl, ⟨nd, rfl⟩⟩; (try first | exact ⟨rfl, _, World.drewN_drewN _ _ _⟩ | exact ⟨rfl, _, Eq.trans (World.drewN_drewN _ _ _) (congrArg (World.drewN _) (Nat.add_assoc _ _ _))⟩))); try go_wp2_with (first | ((with_reducible refine gate_dst (N := 1) rfl ?_); refine bx_ (w := w) (N := 1) (cs := #[.int .i64 a0_0, .int .i64 a0_1, .int .i64 a0_2]) (t := 98) ?_; intro gb227 w11 BK227 n0_ GW227 GE227; clear HB; have HB := n0_; clear n0_; obtain ⟨hcz12_0, hcz12_1, hcz12_2⟩ := cz3_ BK227.out; obtain ⟨hfz12_0, hfz12_1, hfz12_2⟩ := fz3_ BK227.out) | (go_at_call 69; (with_reducible refine (computusref02_In.calls a0_0 false _ A2.out).mono ?_); rintro e w' ⟨rfl, ⟨nd, rfl⟩⟩; (try first | exact ⟨rfl, _, World.drewN_drewN _ _ _⟩ | exact ⟨rfl, _, Eq.trans (World.drewN_drewN _ _ _) (congrArg (World.drewN _) (Nat.add_assoc _ _ _))⟩))))
  go_ret
  exact rt_
 subst c3
 replace H := it_ H
 by_cases c4 : a0_2 ≥ 1
 rotate_left
 ·rw [if_neg c4] at H
  have c4b0 : decide (1 ≤ a0_2) = false := decide_eq_false c4
  clear c4
  obtain rfl := Option.some.inj H
  go_enter Try.func70, Try.ntmps70
  go_wp2_with (first | ((with_reducible refine gate_dst (N := 1) rfl ?_); refine bx_ (w := w) (N := 1) (cs := #[.int .i64 a0_0, .int .i64 a0_1, .int .i64 a0_2]) (t := 98) ?_; intro gb227 w9 BK227 n0_ GW227 GE227; clear HB; have HB := n0_; clear n0_; obtain ⟨hcz10_0, hcz10_1, hcz10_2⟩ := cz3_ BK227.out; obtain ⟨hfz10_0, hfz10_1, hfz10_2⟩ := fz3_ BK227.out) | (go_at_call 69; (with_reducible refine (computusref02_In.calls a0_0 true _ A2.out).mono ?_); rintro e w' ⟨rfl, ⟨nd, rfl⟩⟩; (try first | exact ⟨rfl, _, World.drewN_drewN _ _ _⟩ | exact ⟨rfl, _, Eq.trans (World.drewN_drewN _ _ _) (congrArg (World.drewN _) (Nat.add_assoc _ _ _))⟩)))
  repeat (go_quiet (first | ((with_reducible refine gate_dst (N := 1) rfl ?_); refine bx_ (w := w) (N := 1) (cs := #[.int .i64 a0_0, .int .i64 a0_1, .int .i64 a0_2]) (t := 98) ?_; intro gb227 w9 BK227 n0_ GW227 GE227; clear HB; have HB := n0_; clear n0_; obtain ⟨hcz10_0, hcz10_1, hcz10_2⟩ := cz3_ BK227.out; obtain ⟨hfz10_0, hfz10_1, hfz10_2⟩ := fz3_ BK227.out) | (go_at_call 69; (with_reducible refine (computusref02_In.calls a0_0 true _ A2.out).mono ?_); rintro e w' ⟨rfl, ⟨nd, rfl⟩⟩; (try first | exact ⟨rfl, _, World.drewN_drewN _ _ _⟩ | exact ⟨rfl, _, Eq.trans (World.drewN_drewN _ _ _) (congrArg (World.drewN _) (Nat.add_assoc _ _ _))⟩))); try go_wp2_with (first | ((with_reducible refine gate_dst (N := 1) rfl ?_); refine bx_ (w := w) (N := 1) (cs := #[.int .i64 a0_0, .int .i64 a0_1, .int .i64 a0_2]) (t := 98) ?_; intro gb227 w9 BK227 n0_ GW227 GE227; clear HB; have HB := n0_; clear n0_; obtain ⟨hcz10_0, hcz10_1, hcz10_2⟩ := cz3_ BK227.out; obtain ⟨hfz10_0, hfz10_1, hfz10_2⟩ := fz3_ BK227.out) | (go_at_call 69; (with_reducible refine (computusref02_In.calls a0_0 true _ A2.out).mono ?_); rintro e w' ⟨rfl, ⟨nd, rfl⟩⟩; (try first | exact ⟨rfl, _, World.drewN_drewN _ _ _⟩ | exact ⟨rfl, _, Eq.trans (World.drewN_drewN _ _ _) (congrArg (World.drewN _) (Nat.add_assoc _ _ _))⟩))))
  go_ret
  exact rt_
 rw [if_pos c4] at H
 have c4b0 : decide (1 ≤ a0_2) = true := decide_eq_true c4
 clear c4
 obtain ⟨t229, A5, H⟩ := bs_ H
 obtain ⟨t230, A6, H⟩ := bs_ H
 obtain rfl := Option.some.inj H
 go_enter Try.func70, Try.ntmps70
 go_wp2_with (first | ((with_reducible refine gate_dst (N := 1) rfl ?_); refine bx_ (w := w) (N := 1) (cs := #[.int .i64 a0_0, .int .i64 a0_1, .int .i64 a0_2]) (t := 98) ?_; intro gb227 w7 BK227 n0_ GW227 GE227; clear HB; have HB := n0_; clear n0_; obtain ⟨hcz8_0, hcz8_1, hcz8_2⟩ := cz3_ BK227.out; obtain ⟨hfz8_0, hfz8_1, hfz8_2⟩ := fz3_ BK227.out) | (go_at_call 69; (with_reducible refine (computusref02_In.calls a0_0 true _ A2.out).mono ?_); rintro e w' ⟨rfl, ⟨nd, rfl⟩⟩; (try first | exact ⟨rfl, _, World.drewN_drewN _ _ _⟩ | exact ⟨rfl, _, Eq.trans (World.drewN_drewN _ _ _) (congrArg (World.drewN _) (Nat.add_assoc _ _ _))⟩)) | (go_at_call 72; (with_reducible refine (computusref03_Leap.calls a0_0 t229 _ A5.out).mono ?_); rintro e w' ⟨rfl, ⟨nd, rfl⟩⟩; (try first | exact ⟨rfl, _, World.drewN_drewN _ _ _⟩ | exact ⟨rfl, _, Eq.trans (World.drewN_drewN _ _ _) (congrArg (World.drewN _) (Nat.add_assoc _ _ _))⟩)) | (go_at_call 71; (with_reducible refine (computusref02_Length.calls k t229 a0_1 t230 _ A6.out).mono ?_); rintro e w' ⟨rfl, ⟨nd, rfl⟩⟩; (try first | exact ⟨rfl, _, World.drewN_drewN _ _ _⟩ | exact ⟨rfl, _, Eq.trans (World.drewN_drewN _ _ _) (congrArg (World.drewN _) (Nat.add_assoc _ _ _))⟩)))
 repeat (go_quiet (first | ((with_reducible refine gate_dst (N := 1) rfl ?_); refine bx_ (w := w) (N := 1) (cs := #[.int .i64 a0_0, .int .i64 a0_1, .int .i64 a0_2]) (t := 98) ?_; intro gb227 w7 BK227 n0_ GW227 GE227; clear HB; have HB := n0_; clear n0_; obtain ⟨hcz8_0, hcz8_1, hcz8_2⟩ := cz3_ BK227.out; obtain ⟨hfz8_0, hfz8_1, hfz8_2⟩ := fz3_ BK227.out) | (go_at_call 69; (with_reducible refine (computusref02_In.calls a0_0 true _ A2.out).mono ?_); rintro e w' ⟨rfl, ⟨nd, rfl⟩⟩; (try first | exact ⟨rfl, _, World.drewN_drewN _ _ _⟩ | exact ⟨rfl, _, Eq.trans (World.drewN_drewN _ _ _) (congrArg (World.drewN _) (Nat.add_assoc _ _ _))⟩)) | (go_at_call 72; (with_reducible refine (computusref03_Leap.calls a0_0 t229 _ A5.out).mono ?_); rintro e w' ⟨rfl, ⟨nd, rfl⟩⟩; (try first | exact ⟨rfl, _, World.drewN_drewN _ _ _⟩ | exact ⟨rfl, _, Eq.trans (World.drewN_drewN _ _ _) (congrArg (World.drewN _) (Nat.add_assoc _ _ _))⟩)) | (go_at_call 71; (with_reducible refine (computusref02_Length.calls k t229 a0_1 t230 _ A6.out).mono ?_); rintro e w' ⟨rfl, ⟨nd, rfl⟩⟩; (try first | exact ⟨rfl, _, World.drewN_drewN _ _ _⟩ | exact ⟨rfl, _, Eq.trans (World.drewN_drewN _ _ _) (congrArg (World.drewN _) (Nat.add_assoc _ _ _))⟩))); try go_wp2_with (first | ((with_reducible refine gate_dst (N := 1) rfl ?_); refine bx_ (w := w) (N := 1) (cs := #[.int .i64 a0_0, .int .i64 a0_1, .int .i64 a0_2]) (t := 98) ?_; intro gb227 w7 BK227 n0_ GW227 GE227; clear HB; have HB := n0_; clear n0_; obtain ⟨hcz8_0, hcz8_1, hcz8_2⟩ := cz3_ BK227.out; obtain ⟨hfz8_0, hfz8_1, hfz8_2⟩ := fz3_ BK227.out) | (go_at_call 69; (with_reducible refine (computusref02_In.calls a0_0 true _ A2.out).mono ?_); rintro e w' ⟨rfl, ⟨nd, rfl⟩⟩; (try first | exact ⟨rfl, _, World.drewN_drewN _ _ _⟩ | exact ⟨rfl, _, Eq.trans (World.drewN_drewN _ _ _) (congrArg (World.drewN _) (Nat.add_assoc _ _ _))⟩)) | (go_at_call 72; (with_reducible refine (computusref03_Leap.calls a0_0 t229 _ A5.out).mono ?_); rintro e w' ⟨rfl, ⟨nd, rfl⟩⟩; (try first | exact ⟨rfl, _, World.drewN_drewN _ _ _⟩ | exact ⟨rfl, _, Eq.trans (World.drewN_drewN _ _ _) (congrArg (World.drewN _) (Nat.add_assoc _ _ _))⟩)) | (go_at_call 71; (with_reducible refine (computusref02_Length.calls k t229 a0_1 t230 _ A6.out).mono ?_); rintro e w' ⟨rfl, ⟨nd, rfl⟩⟩; (try first | exact ⟨rfl, _, World.drewN_drewN _ _ _⟩ | exact ⟨rfl, _, Eq.trans (World.drewN_drewN _ _ _) (congrArg (World.drewN _) (Nat.add_assoc _ _ _))⟩))))
 go_ret
 exact rt_
def computusref03_ToDay.l0 : Nat → Int → Int → Int → Int → Int → Option (Int × Int)
 | 0, _, _, _, _, _ => none
 | k + 1, x4, x5, x232000, x232001, x232002 => if x5 < x232001 then ((computusref03_Leap.f x232000).bind fun t235 => ((computusref02_Length.f k t235 x5).bind fun t236 => (computusref03_ToDay.l0 k (wrap64 (x4 + t236)) (wrap64 (x5 + 1)) x232000 x232001 x232002))) else (some (wrap64 ((wrap64 (x4 + x232002)) - 1), 0))
def computusref03_ToDay.f (k : Nat) (a0_0 : Int) (a0_1 : Int) (a0_2 : Int) : Option (Int × Int) := (computusref02_In.f a0_0).bind fun t232 => (if t232 = true then ((computusref03_Valid.f k a0_0 a0_1 a0_2).bind fun t233 => (if t233 = true then ((computusref03_First.f a0_0).bind fun t234 => (computusref03_ToDay.l0 k t234 1 a0_0 a0_1 a0_2)) else (some (0, 2)))) else (some (0, 1)))
theorem computusref03_ToDay.calls (k : Nat) (a0_0 : Int) (a0_1 : Int) (a0_2 : Int) (r1 : Int) (r2 : Int) (w : World) (h : computusref03_ToDay.f k a0_0 a0_1 a0_2 = some (r1, r2)) :
  Calls Try.prog 60 #[.agg #[.int .i64 a0_0, .int .i64 a0_1, .int .i64 a0_2]] w fun e w' => e = .returned (.tuple #[.int .i64 r1, .int .i64 r2]) ∧ Below w.heap.size w w' := by
 have hu98 := Try.underlying98
 have HB := am_ (Below.refl w.heap.size w)
 have H := h
 clear h
 unfold computusref03_ToDay.f at H
 obtain ⟨t232, A2, H⟩ := bs_ H
 by_cases c3 : t232 = true
 rotate_left
 ·replace c3 := Bool.eq_false_iff.mpr c3
  subst c3
  replace H := if_ H
  simp only [Option.some.injEq, Prod.mk.injEq] at H
  obtain ⟨rfl, rfl⟩ := H
  go_enter Try.func60, Try.ntmps60
  go_wp2_with (first | ((with_reducible refine gate_dst (N := 1) rfl ?_); refine bx_ (w := w) (N := 1) (cs := #[.int .i64 a0_0, .int .i64 a0_1, .int .i64 a0_2]) (t := 98) ?_; intro gb231 w19 BK231 n0_ GW231 GE231; clear HB; have HB := n0_; clear n0_; obtain ⟨hcz20_0, hcz20_1, hcz20_2⟩ := cz3_ BK231.out; obtain ⟨hfz20_0, hfz20_1, hfz20_2⟩ := fz3_ BK231.out) | ((with_reducible refine gate_callee (f := 69) rfl ?_); refine gl_ (some 8) Try.func69 #[.int .i64 a0_0] ?_; (with_reducible refine (computusref02_In.calls a0_0 false _ A2.out).mono ?_); rintro e w' ⟨rfl, ⟨nd, rfl⟩⟩; refine ⟨_, rfl, ?_⟩))
  go_ret2
  exact rt_
 subst c3
 replace H := it_ H
 obtain ⟨t233, A4, H⟩ := bs_ H
 by_cases c5 : t233 = true
 rotate_left
 ·replace c5 := Bool.eq_false_iff.mpr c5
  subst c5
  replace H := if_ H
  simp only [Option.some.injEq, Prod.mk.injEq] at H
  obtain ⟨rfl, rfl⟩ := H
  go_enter Try.func60, Try.ntmps60
  go_wp2_with (first | ((with_reducible refine gate_dst (N := 1) rfl ?_); refine bx_ (w := w) (N := 1) (cs := #[.int .i64 a0_0, .int .i64 a0_1, .int .i64 a0_2]) (t := 98) ?_; intro gb231 w16 BK231 n0_ GW231 GE231; clear HB; have HB := n0_; clear n0_; obtain ⟨hcz17_0, hcz17_1, hcz17_2⟩ := cz3_ BK231.out; obtain ⟨hfz17_0, hfz17_1, hfz17_2⟩ := fz3_ BK231.out) | ((with_reducible refine gate_callee (f := 69) rfl ?_); refine gl_ (some 8) Try.func69 #[.int .i64 a0_0] ?_; (with_reducible refine (computusref02_In.calls a0_0 true _ A2.out).mono ?_); rintro e w' ⟨rfl, ⟨nd, rfl⟩⟩; refine ⟨_, rfl, ?_⟩) | ((with_reducible refine gate_callee (f := 70) rfl ?_); refine gl_ (some 11) Try.func70 #[.agg #[.int .i64 a0_0, .int .i64 a0_1, .int .i64 a0_2]] ?_; (with_reducible refine (computusref03_Valid.calls k a0_0 a0_1 a0_2 false _ A4.out).mono ?_); rintro e w18 ⟨rfl, hb⟩; refine ⟨_, rfl, ?_⟩; replace BK231 := bw_ BK231 hb; replace HB := bt_ hb; (try clear hb); (try clear hi)))
  go_ret2
  exact rt_
 subst c5
 replace H := it_ H
 obtain ⟨t234, A6, H⟩ := bs_ H
 have H' := am_ H
 clear H
 go_enter Try.func60, Try.ntmps60
 go_wp2_with (first | ((with_reducible refine gate_dst (N := 1) rfl ?_); refine bx_ (w := w) (N := 1) (cs := #[.int .i64 a0_0, .int .i64 a0_1, .int .i64 a0_2]) (t := 98) ?_; intro gb231 w7 BK231 n0_ GW231 GE231; clear HB; have HB := n0_; clear n0_; obtain ⟨hcz8_0, hcz8_1, hcz8_2⟩ := cz3_ BK231.out; obtain ⟨hfz8_0, hfz8_1, hfz8_2⟩ := fz3_ BK231.out) | ((with_reducible refine gate_callee (f := 69) rfl ?_); refine gl_ (some 8) Try.func69 #[.int .i64 a0_0] ?_; (with_reducible refine (computusref02_In.calls a0_0 true _ A2.out).mono ?_); rintro e w' ⟨rfl, ⟨nd, rfl⟩⟩; refine ⟨_, rfl, ?_⟩) | ((with_reducible refine gate_callee (f := 70) rfl ?_); refine gl_ (some 11) Try.func70 #[.agg #[.int .i64 a0_0, .int .i64 a0_1, .int .i64 a0_2]] ?_; (with_reducible refine (computusref03_Valid.calls k a0_0 a0_1 a0_2 true _ A4.out).mono ?_); rintro e w9 ⟨rfl, hb⟩; refine ⟨_, rfl, ?_⟩; replace BK231 := bw_ BK231 hb; replace HB := bt_ hb; (try clear hb); obtain ⟨hcz10_0, hcz10_1, hcz10_2⟩ := cz3_ BK231.out; obtain ⟨hfz10_0, hfz10_1, hfz10_2⟩ := fz3_ BK231.out) | ((with_reducible refine gate_callee (f := 34) rfl ?_); refine gl_ (some 15) Try.func34 #[.int .i64 a0_0] ?_; (with_reducible refine (computusref03_First.calls a0_0 t234 _ A6.out).mono ?_); rintro e w' ⟨rfl, ⟨nd, rfl⟩⟩; refine ⟨_, rfl, ?_⟩))
 go_loopg [4, 5] k (fun kq v4 v5 w' => ∃ (x4_1 : Int) (x5_1 : Int), v4 = .int .i64 x4_1 ∧ v5 = .int .i64 x5_1 ∧ Aside0 (computusref03_ToDay.l0 kq x4_1 x5_1 a0_0 a0_1 a0_2 = some (r1, r2)) ∧ Aside0 (kq ≤ k) ∧ Aside0 (w'.heap[gb231]? = some (.cells #[.int .i64 a0_0, .int .i64 a0_1, .int .i64 a0_2] 98 (0, 0))) ∧ Aside0 (Below w.heap.size w w'))
 case atStart => exact ⟨(t234), (1), rs_, rs_, H', ⟨Nat.le_refl _⟩, ⟨bk_ BK231.out⟩, ⟨bh_⟩⟩
 case round =>
  clear H'
  obtain ⟨x4_1, x5_1, rfl, rfl, HA, HK1, BK231, HB⟩ := hrel
  cases gk with
  | zero => exact absurd HA.out (by simp [computusref03_ToDay.l0])
  | succ k1 =>
   have H := HA.out
   clear HA
   simp only [computusref03_ToDay.l0] at H
   by_cases c11 : x5_1 < a0_1
   rotate_left
   ·rw [if_neg c11] at H
    have c11b0 : decide (x5_1 < a0_1) = false := decide_eq_false c11
    clear c11
    simp only [Option.some.injEq, Prod.mk.injEq] at H
    obtain ⟨rfl, rfl⟩ := H
    obtain ⟨hcz15_0, hcz15_1, hcz15_2⟩ := cz3_ BK231.out
    obtain ⟨hfz15_0, hfz15_1, hfz15_2⟩ := fz3_ BK231.out
    go_wp2
    go_ret2
    exact rt_
   rw [if_pos c11] at H
   have c11b0 : decide (x5_1 < a0_1) = true := decide_eq_true c11
   clear c11
   obtain ⟨t235, A12, H⟩ := bs_ H
   obtain ⟨t236, A13, H⟩ := bs_ H
   have H' := am_ H
   clear H
   obtain ⟨hcz14_0, hcz14_1, hcz14_2⟩ := cz3_ BK231.out
   obtain ⟨hfz14_0, hfz14_1, hfz14_2⟩ := fz3_ BK231.out
   go_wp2_with (first | ((with_reducible refine gate_callee (f := 72) rfl ?_); refine gl_ (some 25) Try.func72 #[.int .i64 a0_0] ?_; (with_reducible refine (computusref03_Leap.calls a0_0 t235 _ A12.out).mono ?_); rintro e w' ⟨rfl, ⟨nd, rfl⟩⟩; refine ⟨_, rfl, ?_⟩) | ((with_reducible refine gate_callee (f := 71) rfl ?_); refine gl_ (some 27) Try.func71 #[.bool t235, .int .i64 x5_1] ?_; (with_reducible refine (computusref02_Length.calls k1 t235 x5_1 t236 _ A13.out).mono ?_); rintro e w' ⟨rfl, ⟨nd, rfl⟩⟩; refine ⟨_, rfl, ?_⟩))
   go_roundg k1
   case measure => have := HK1.out; omega
   case rel => exact ⟨(wrap64 (x4_1 + t236)), (wrap64 (x5_1 + 1)), rs_, rs_, H', ⟨by have := HK1.out; omega⟩, ⟨bk_ BK231.out⟩, ⟨bh_⟩⟩
def computusref16_ofYear.f (k : Nat) (a0 : Int) (a1 : Int) : Option (Int) := (computusref03_ToDay.f k 2001 a0 a1).bind fun bt237 => ((computusref03_First.f 2001).bind fun t239 => (some (wrap64 ((wrap64 (bt237.1 - t239)) + 1))))
theorem computusref16_ofYear.calls (k : Nat) (a0 : Int) (a1 : Int) (r : Int) (w : World) (h : computusref16_ofYear.f k a0 a1 = some r) :
  Calls Try.prog 65 #[.int .i64 a0, .int .i64 a1] w fun e w' => e = .returned (.int .i64 r) ∧ Below w.heap.size w w' := by
 have hu98 := Try.underlying98
 have HB := am_ (Below.refl w.heap.size w)
 have H := h
 clear h
 unfold computusref16_ofYear.f at H
 obtain ⟨⟨t237, t238⟩, A3, H⟩ := bs_ H
 dsimp only at H
 obtain ⟨t239, A4, H⟩ := bs_ H
 obtain rfl := Option.some.inj H
 go_enter Try.func65, Try.ntmps65
 go_wp2_with (first | ((with_reducible refine gate_callee (f := 60) rfl ?_); refine gl_ (some 11) Try.func60 #[.agg #[.int .i64 2001, .int .i64 a0, .int .i64 a1]] ?_; (with_reducible refine (computusref03_ToDay.calls k 2001 a0 a1 t237 t238 _ A3.out).mono ?_); rintro e w5 ⟨rfl, hb⟩; refine ⟨_, rfl, ?_⟩; replace HB := bt_ hb; (try clear hb); (try clear hi)) | ((with_reducible refine gate_callee (f := 34) rfl ?_); refine gl_ (some 15) Try.func34 #[.int .i64 2001] ?_; (with_reducible refine (computusref03_First.calls 2001 t239 _ A4.out).mono ?_); rintro e w' ⟨rfl, ⟨nd, rfl⟩⟩; refine ⟨_, rfl, ?_⟩))
 go_ret
 exact rt_
mutual
def computusref16_Check.j0 : Nat → Bool → Int → Int → Int → Int → Int → Int → Option (Bool)
 | 0, _, _, _, _, _, _, _ => none
 | k + 1, x45, x241000, x241001, x241002, x241003, x241004, x241005 => if x45 = true then (some false) else (if x241000 = 1 then (if x241004 = 0 then (some (x241005 == 0)) else (some false)) else ((computusref16_ofYear.f k x241001 x241002).bind fun t242 => (if x241000 = 3 then (if x241004 < 0 then (computusref16_Check.j1 k t242 true x241000 x241001 x241002 x241003 x241004 x241005) else (computusref16_Check.j1 k t242 (decide (x241004 > 6)) x241000 x241001 x241002 x241003 x241004 x241005)) else (computusref16_Check.j1 k t242 true x241000 x241001 x241002 x241003 x241004 x241005))))
def computusref16_Check.j1 : Nat → Int → Bool → Int → Int → Int → Int → Int → Int → Option (Bool)
 | 0, _, _, _, _, _, _, _, _ => none
 | k + 1, x3, x74, x241000, x241001, x241002, x241003, x241004, x241005 => if x74 = true then (some false) else (if x241005 ≥ 1 then (if x241005 ≤ 8 then (some (decide ((wrap64 ((wrap64 (x3 + 6)) + (wrap64 (7 * (wrap64 (x241005 - 1)))))) ≤ 365))) else (if x241005 ≤ (-1) then (if x241005 ≥ (-8) then (some (decide ((wrap64 ((wrap64 (x3 - 6)) - (wrap64 (7 * (wrap64 ((wrap64 (-x241005)) - 1)))))) ≥ 1))) else (some false)) else (some false))) else (if x241005 ≤ (-1) then (if x241005 ≥ (-8) then (some (decide ((wrap64 ((wrap64 (x3 - 6)) - (wrap64 (7 * (wrap64 ((wrap64 (-x241005)) - 1)))))) ≥ 1))) else (some false)) else (some false)))
end
def computusref16_Check.f (k : Nat) (a0_0 : Int) (a0_1 : Int) (a0_2 : Int) (a0_3 : Int) (a0_4 : Int) (a0_5 : Int) : Option (Bool) := if a0_0 = 2 then (if a0_1 = 0 then (if a0_2 = 0 then (if a0_4 = 0 then (if a0_5 = 0 then (if a0_3 ≥ (-80) then (some (decide (a0_3 ≤ 250))) else (some false)) else (some false)) else (some false)) else (some false)) else (some false)) else ((computusref08_Exists.f k a0_1 a0_2).bind fun t241 => (if t241 = true then (computusref16_Check.j0 k (a0_3 != 0) a0_0 a0_1 a0_2 a0_3 a0_4 a0_5) else (computusref16_Check.j0 k true a0_0 a0_1 a0_2 a0_3 a0_4 a0_5)))
theorem computusref16_Check.calls (k : Nat) (a0_0 : Int) (a0_1 : Int) (a0_2 : Int) (a0_3 : Int) (a0_4 : Int) (a0_5 : Int) (r : Bool) (w : World) (h : computusref16_Check.f k a0_0 a0_1 a0_2 a0_3 a0_4 a0_5 = some r) :
  Calls Try.prog 57 #[.agg #[.int .i64 a0_0, .int .i64 a0_1, .int .i64 a0_2, .int .i64 a0_3, .int .i64 a0_4, .int .i64 a0_5]] w fun e w' => e = .returned (.bool r) ∧ Below w.heap.size w w' := by
 have hu64 := Try.underlying64
 have HB := am_ (Below.refl w.heap.size w)
 have H := h
 clear h
 unfold computusref16_Check.f at H
 by_cases c2 : a0_0 = 2
 ·rw [if_pos c2] at H
  have c2b0 : (a0_0 == 2) = true := beq_iff_eq.mpr c2
  have c2b1 : (a0_0 != 2) = false := bne_eq_false_iff_eq.mpr c2
  clear c2
  by_cases c3 : a0_1 = 0
  rotate_left
  ·rw [if_neg c3] at H
   have c3b0 : (a0_1 == 0) = false := beq_eq_false_iff_ne.mpr c3
   have c3b1 : (a0_1 != 0) = true := bne_iff_ne.mpr c3
   obtain rfl := Option.some.inj H
   go_enter Try.func57, Try.ntmps57
   go_wp2_with (first | ((with_reducible refine gate_dst (N := 1) rfl ?_); refine bx_ (w := w) (N := 1) (cs := #[.int .i64 a0_0, .int .i64 a0_1, .int .i64 a0_2, .int .i64 a0_3, .int .i64 a0_4, .int .i64 a0_5]) (t := 64) ?_; intro gb240 w18 BK240 n0_ GW240 GE240; clear HB; have HB := n0_; clear n0_; obtain ⟨hcz19_0, hcz19_1, hcz19_2, hcz19_3, hcz19_4, hcz19_5⟩ := cz6_ BK240.out; obtain ⟨hfz19_0, hfz19_1, hfz19_2, hfz19_3, hfz19_4, hfz19_5⟩ := fz6_ BK240.out))
   go_ret
   exact rt_
  rw [if_pos c3] at H
  have c3b0 : (a0_1 == 0) = true := beq_iff_eq.mpr c3
  have c3b1 : (a0_1 != 0) = false := bne_eq_false_iff_eq.mpr c3
  clear c3
  by_cases c4 : a0_2 = 0
  rotate_left
  ·rw [if_neg c4] at H
   have c4b0 : (a0_2 == 0) = false := beq_eq_false_iff_ne.mpr c4
   have c4b1 : (a0_2 != 0) = true := bne_iff_ne.mpr c4
   obtain rfl := Option.some.inj H
   go_enter Try.func57, Try.ntmps57
   go_wp2_with (first | ((with_reducible refine gate_dst (N := 1) rfl ?_); refine bx_ (w := w) (N := 1) (cs := #[.int .i64 a0_0, .int .i64 a0_1, .int .i64 a0_2, .int .i64 a0_3, .int .i64 a0_4, .int .i64 a0_5]) (t := 64) ?_; intro gb240 w16 BK240 n0_ GW240 GE240; clear HB; have HB := n0_; clear n0_; obtain ⟨hcz17_0, hcz17_1, hcz17_2, hcz17_3, hcz17_4, hcz17_5⟩ := cz6_ BK240.out; obtain ⟨hfz17_0, hfz17_1, hfz17_2, hfz17_3, hfz17_4, hfz17_5⟩ := fz6_ BK240.out))
   go_ret
   exact rt_
  rw [if_pos c4] at H
  have c4b0 : (a0_2 == 0) = true := beq_iff_eq.mpr c4
  have c4b1 : (a0_2 != 0) = false := bne_eq_false_iff_eq.mpr c4
  clear c4
  by_cases c5 : a0_4 = 0
  rotate_left
  ·rw [if_neg c5] at H
   have c5b0 : (a0_4 == 0) = false := beq_eq_false_iff_ne.mpr c5
   have c5b1 : (a0_4 != 0) = true := bne_iff_ne.mpr c5
   obtain rfl := Option.some.inj H
   go_enter Try.func57, Try.ntmps57
   go_wp2_with (first | ((with_reducible refine gate_dst (N := 1) rfl ?_); refine bx_ (w := w) (N := 1) (cs := #[.int .i64 a0_0, .int .i64 a0_1, .int .i64 a0_2, .int .i64 a0_3, .int .i64 a0_4, .int .i64 a0_5]) (t := 64) ?_; intro gb240 w14 BK240 n0_ GW240 GE240; clear HB; have HB := n0_; clear n0_; obtain ⟨hcz15_0, hcz15_1, hcz15_2, hcz15_3, hcz15_4, hcz15_5⟩ := cz6_ BK240.out; obtain ⟨hfz15_0, hfz15_1, hfz15_2, hfz15_3, hfz15_4, hfz15_5⟩ := fz6_ BK240.out))
   go_ret
   exact rt_
  rw [if_pos c5] at H
  have c5b0 : (a0_4 == 0) = true := beq_iff_eq.mpr c5
  have c5b1 : (a0_4 != 0) = false := bne_eq_false_iff_eq.mpr c5
  clear c5
  by_cases c6 : a0_5 = 0
  rotate_left
  ·rw [if_neg c6] at H
   have c6b0 : (a0_5 == 0) = false := beq_eq_false_iff_ne.mpr c6
   have c6b1 : (a0_5 != 0) = true := bne_iff_ne.mpr c6
   obtain rfl := Option.some.inj H
   go_enter Try.func57, Try.ntmps57
   go_wp2_with (first | ((with_reducible refine gate_dst (N := 1) rfl ?_); refine bx_ (w := w) (N := 1) (cs := #[.int .i64 a0_0, .int .i64 a0_1, .int .i64 a0_2, .int .i64 a0_3, .int .i64 a0_4, .int .i64 a0_5]) (t := 64) ?_; intro gb240 w12 BK240 n0_ GW240 GE240; clear HB; have HB := n0_; clear n0_; obtain ⟨hcz13_0, hcz13_1, hcz13_2, hcz13_3, hcz13_4, hcz13_5⟩ := cz6_ BK240.out; obtain ⟨hfz13_0, hfz13_1, hfz13_2, hfz13_3, hfz13_4, hfz13_5⟩ := fz6_ BK240.out))
   go_ret
   exact rt_
  rw [if_pos c6] at H
  have c6b0 : (a0_5 == 0) = true := beq_iff_eq.mpr c6
  have c6b1 : (a0_5 != 0) = false := bne_eq_false_iff_eq.mpr c6
  clear c6
  by_cases c7 : a0_3 ≥ (-80)
  ·rw [if_pos c7] at H
   have c7b0 : decide ((-80) ≤ a0_3) = true := decide_eq_true c7
   clear c7
   obtain rfl := Option.some.inj H
   go_enter Try.func57, Try.ntmps57
   go_wp2_with (first | ((with_reducible refine gate_dst (N := 1) rfl ?_); refine bx_ (w := w) (N := 1) (cs := #[.int .i64 a0_0, .int .i64 a0_1, .int .i64 a0_2, .int .i64 a0_3, .int .i64 a0_4, .int .i64 a0_5]) (t := 64) ?_; intro gb240 w8 BK240 n0_ GW240 GE240; clear HB; have HB := n0_; clear n0_; obtain ⟨hcz9_0, hcz9_1, hcz9_2, hcz9_3, hcz9_4, hcz9_5⟩ := cz6_ BK240.out; obtain ⟨hfz9_0, hfz9_1, hfz9_2, hfz9_3, hfz9_4, hfz9_5⟩ := fz6_ BK240.out))
   go_ret
   exact rt_
  rw [if_neg c7] at H
  have c7b0 : decide ((-80) ≤ a0_3) = false := decide_eq_false c7
  clear c7
  obtain rfl := Option.some.inj H
  go_enter Try.func57, Try.ntmps57
  go_wp2_with (first | ((with_reducible refine gate_dst (N := 1) rfl ?_); refine bx_ (w := w) (N := 1) (cs := #[.int .i64 a0_0, .int .i64 a0_1, .int .i64 a0_2, .int .i64 a0_3, .int .i64 a0_4, .int .i64 a0_5]) (t := 64) ?_; intro gb240 w10 BK240 n0_ GW240 GE240; clear HB; have HB := n0_; clear n0_; obtain ⟨hcz11_0, hcz11_1, hcz11_2, hcz11_3, hcz11_4, hcz11_5⟩ := cz6_ BK240.out; obtain ⟨hfz11_0, hfz11_1, hfz11_2, hfz11_3, hfz11_4, hfz11_5⟩ := fz6_ BK240.out))
  go_ret
  exact rt_
 rw [if_neg c2] at H
 have c2b0 : (a0_0 == 2) = false := beq_eq_false_iff_ne.mpr c2
 have c2b1 : (a0_0 != 2) = true := bne_iff_ne.mpr c2
 have HC20 := am_ H
 clear H
 go_enter Try.func57, Try.ntmps57
 go_upto_region 3 with (first | ((with_reducible refine gate_dst (N := 1) rfl ?_); refine bx_ (w := w) (N := 1) (cs := #[.int .i64 a0_0, .int .i64 a0_1, .int .i64 a0_2, .int .i64 a0_3, .int .i64 a0_4, .int .i64 a0_5]) (t := 64) ?_; intro gb240 w21 BK240 n0_ GW240 GE240; clear HB; have HB := n0_; clear n0_; obtain ⟨hcz22_0, hcz22_1, hcz22_2, hcz22_3, hcz22_4, hcz22_5⟩ := cz6_ BK240.out; obtain ⟨hfz22_0, hfz22_1, hfz22_2, hfz22_3, hfz22_4, hfz22_5⟩ := fz6_ BK240.out))
 (try simp only [Act.put, sA_, sZ_, sS_])
 go_cut [45] (fun v45 wc => ∃ (kq : Nat) (x45_19 : Bool), v45 = .bool x45_19 ∧ Aside0 (computusref16_Check.j0 kq x45_19 a0_0 a0_1 a0_2 a0_3 a0_4 a0_5 = some r) ∧ Aside0 (kq ≤ k) ∧ Aside0 (wc.heap[gb240]? = some (.cells #[.int .i64 a0_0, .int .i64 a0_1, .int .i64 a0_2, .int .i64 a0_3, .int .i64 a0_4, .int .i64 a0_5] 64 (0, 0))) ∧ Aside0 (Below w.heap.size w wc))
 case first =>
  have H := HC20.out
  clear HC20
  obtain ⟨t241, A23, H⟩ := bs_ H
  by_cases c24 : t241 = true
  ·subst c24
   replace H := it_ H
   have H' := am_ H
   clear H
   obtain ⟨hcz25_0, hcz25_1, hcz25_2, hcz25_3, hcz25_4, hcz25_5⟩ := cz6_ BK240.out
   obtain ⟨hfz25_0, hfz25_1, hfz25_2, hfz25_3, hfz25_4, hfz25_5⟩ := fz6_ BK240.out
   go_wp2_with (first | ((with_reducible refine gate_callee (f := 64) rfl ?_); refine gl_ (some 39) Try.func64 #[.int .i64 a0_1, .int .i64 a0_2] ?_; (with_reducible refine (computusref08_Exists.calls k a0_1 a0_2 true _ A23.out).mono ?_); rintro e w' ⟨rfl, ⟨nd, rfl⟩⟩; refine ⟨_, rfl, ?_⟩))
   go_meet
   case rel => exact ⟨_, ((a0_3 != 0)), rs_, H', ⟨by first | omega | exact Nat.le_refl _⟩, ⟨bk_ BK240.out⟩, ⟨bh_⟩⟩
  replace c24 := Bool.eq_false_iff.mpr c24
  subst c24
  replace H := if_ H
  have H' := am_ H
  clear H
  obtain ⟨hcz26_0, hcz26_1, hcz26_2, hcz26_3, hcz26_4, hcz26_5⟩ := cz6_ BK240.out
  obtain ⟨hfz26_0, hfz26_1, hfz26_2, hfz26_3, hfz26_4, hfz26_5⟩ := fz6_ BK240.out
  go_wp2_with (first | ((with_reducible refine gate_callee (f := 64) rfl ?_); refine gl_ (some 39) Try.func64 #[.int .i64 a0_1, .int .i64 a0_2] ?_; (with_reducible refine (computusref08_Exists.calls k a0_1 a0_2 false _ A23.out).mono ?_); rintro e w' ⟨rfl, ⟨nd, rfl⟩⟩; refine ⟨_, rfl, ?_⟩))
  go_meet
  case rel => exact ⟨_, (true), rs_, H', ⟨by first | omega | exact Nat.le_refl _⟩, ⟨bk_ BK240.out⟩, ⟨bh_⟩⟩
 case rest =>
  clear HC20
  obtain ⟨kq, x45_19, rfl, HA, HJ19, BK240, HB⟩ := hcut
  cases kq with
  | zero => exact absurd HA.out (by simp [computusref16_Check.j0])
  | succ kj19 =>
   have H := HA.out
   clear HA
   simp only [computusref16_Check.j0] at H
   by_cases c27 : x45_19 = true
   ·subst c27
    replace H := it_ H
    obtain rfl := Option.some.inj H
    go_wp2
    go_ret
    exact rt_
   replace c27 := Bool.eq_false_iff.mpr c27
   subst c27
   replace H := if_ H
   by_cases c28 : a0_0 = 1
   ·rw [if_pos c28] at H
    have c28b0 : (a0_0 == 1) = true := beq_iff_eq.mpr c28
    have c28b1 : (a0_0 != 1) = false := bne_eq_false_iff_eq.mpr c28
    clear c28
    by_cases c29 : a0_4 = 0
    rotate_left
    ·rw [if_neg c29] at H
     have c29b0 : (a0_4 == 0) = false := beq_eq_false_iff_ne.mpr c29
     have c29b1 : (a0_4 != 0) = true := bne_iff_ne.mpr c29
     obtain rfl := Option.some.inj H
     obtain ⟨hcz31_0, hcz31_1, hcz31_2, hcz31_3, hcz31_4, hcz31_5⟩ := cz6_ BK240.out
     obtain ⟨hfz31_0, hfz31_1, hfz31_2, hfz31_3, hfz31_4, hfz31_5⟩ := fz6_ BK240.out
     go_wp2
     go_ret
     exact rt_
    rw [if_pos c29] at H
    have c29b0 : (a0_4 == 0) = true := beq_iff_eq.mpr c29
    have c29b1 : (a0_4 != 0) = false := bne_eq_false_iff_eq.mpr c29
    clear c29
    obtain rfl := Option.some.inj H
    obtain ⟨hcz30_0, hcz30_1, hcz30_2, hcz30_3, hcz30_4, hcz30_5⟩ := cz6_ BK240.out
    obtain ⟨hfz30_0, hfz30_1, hfz30_2, hfz30_3, hfz30_4, hfz30_5⟩ := fz6_ BK240.out
    go_wp2
    go_ret
    exact rt_
   rw [if_neg c28] at H
   have c28b0 : (a0_0 == 1) = false := beq_eq_false_iff_ne.mpr c28
   have c28b1 : (a0_0 != 1) = true := bne_iff_ne.mpr c28
   obtain ⟨t242, A32, H⟩ := bs_ H
   have HC33 := am_ H
   clear H
   obtain ⟨hcz34_0, hcz34_1, hcz34_2, hcz34_3, hcz34_4, hcz34_5⟩ := cz6_ BK240.out
   obtain ⟨hfz34_0, hfz34_1, hfz34_2, hfz34_3, hfz34_4, hfz34_5⟩ := fz6_ BK240.out
   go_upto_region 8 with (first | ((with_reducible refine gate_callee (f := 65) rfl ?_); refine gl_ (some 61) Try.func65 #[.int .i64 a0_1, .int .i64 a0_2] ?_; (with_reducible refine (computusref16_ofYear.calls kj19 a0_1 a0_2 t242 _ A32.out).mono ?_); rintro e w35 ⟨rfl, hb⟩; refine ⟨_, rfl, ?_⟩; replace BK240 := bw_ BK240 hb; replace HB := bt_ hb; (try clear hb); (try clear hi)))
   (try simp only [Act.put, sA_, sZ_, sS_])
   go_cut [74] (fun v74 wc => ∃ (kq : Nat) (x74_32 : Bool), v74 = .bool x74_32 ∧ Aside0 (computusref16_Check.j1 kq t242 x74_32 a0_0 a0_1 a0_2 a0_3 a0_4 a0_5 = some r) ∧ Aside0 (kq ≤ kj19) ∧ Aside0 (wc.heap[gb240]? = some (.cells #[.int .i64 a0_0, .int .i64 a0_1, .int .i64 a0_2, .int .i64 a0_3, .int .i64 a0_4, .int .i64 a0_5] 64 (0, 0))) ∧ Aside0 (Below w.heap.size w wc))
   case first =>
    have H := HC33.out
    clear HC33
    by_cases c36 : a0_0 = 3
    rotate_left
    ·rw [if_neg c36] at H
     have c36b0 : (a0_0 == 3) = false := beq_eq_false_iff_ne.mpr c36
     have c36b1 : (a0_0 != 3) = true := bne_iff_ne.mpr c36
     (first | rw [c36b0] | (simp only [i64_w, i32_w]; rw [c36b0]) | skip)
     have H' := am_ H
     clear H
     obtain ⟨hcz40_0, hcz40_1, hcz40_2, hcz40_3, hcz40_4, hcz40_5⟩ := cz6_ BK240.out
     obtain ⟨hfz40_0, hfz40_1, hfz40_2, hfz40_3, hfz40_4, hfz40_5⟩ := fz6_ BK240.out
     go_wp2
     go_meet
     case rel => exact ⟨_, (true), rs_, H', ⟨by have := HJ19.out; first | omega | exact Nat.le_refl _⟩, ⟨bk_ BK240.out⟩, ⟨bh_⟩⟩
    rw [if_pos c36] at H
    have c36b0 : (a0_0 == 3) = true := beq_iff_eq.mpr c36
    have c36b1 : (a0_0 != 3) = false := bne_eq_false_iff_eq.mpr c36
    clear c36
    (first | rw [c36b0] | (simp only [i64_w, i32_w]; rw [c36b0]) | skip)
    by_cases c37 : a0_4 < 0
    ·rw [if_pos c37] at H
     have c37b0 : decide (a0_4 < 0) = true := decide_eq_true c37
     clear c37
     have H' := am_ H
     clear H
     obtain ⟨hcz38_0, hcz38_1, hcz38_2, hcz38_3, hcz38_4, hcz38_5⟩ := cz6_ BK240.out
     obtain ⟨hfz38_0, hfz38_1, hfz38_2, hfz38_3, hfz38_4, hfz38_5⟩ := fz6_ BK240.out
     go_wp2
     go_meet
     case rel => exact ⟨_, (true), rs_, H', ⟨by have := HJ19.out; first | omega | exact Nat.le_refl _⟩, ⟨bk_ BK240.out⟩, ⟨bh_⟩⟩
    rw [if_neg c37] at H
    have c37b0 : decide (a0_4 < 0) = false := decide_eq_false c37
    clear c37
    have H' := am_ H
    clear H
    obtain ⟨hcz39_0, hcz39_1, hcz39_2, hcz39_3, hcz39_4, hcz39_5⟩ := cz6_ BK240.out
    obtain ⟨hfz39_0, hfz39_1, hfz39_2, hfz39_3, hfz39_4, hfz39_5⟩ := fz6_ BK240.out
    go_wp2
    go_meet
    case rel => exact ⟨_, (decide (a0_4 > 6)), rs_, H', ⟨by have := HJ19.out; first | omega | exact Nat.le_refl _⟩, ⟨bk_ BK240.out⟩, ⟨bh_⟩⟩
   case rest =>
    clear HC33
    obtain ⟨kq, x74_32, rfl, HA, HJ32, BK240, HB⟩ := hcut
    cases kq with
    | zero => exact absurd HA.out (by simp [computusref16_Check.j1])
    | succ kj32 =>
     have H := HA.out
     clear HA
     simp only [computusref16_Check.j1] at H
     by_cases c41 : x74_32 = true
     ·subst c41
      replace H := it_ H
      obtain rfl := Option.some.inj H
      go_wp2
      go_ret
      exact rt_
     replace c41 := Bool.eq_false_iff.mpr c41
     subst c41
     replace H := if_ H
     by_cases c42 : a0_5 ≥ 1
     rotate_left
     ·rw [if_neg c42] at H
      have c42b0 : decide (1 ≤ a0_5) = false := decide_eq_false c42
      clear c42
      by_cases c50 : a0_5 ≤ (-1)
      rotate_left
      ·rw [if_neg c50] at H
       have c50b0 : decide (a0_5 ≤ (-1)) = false := decide_eq_false c50
       clear c50
       obtain rfl := Option.some.inj H
       obtain ⟨hcz54_0, hcz54_1, hcz54_2, hcz54_3, hcz54_4, hcz54_5⟩ := cz6_ BK240.out
       obtain ⟨hfz54_0, hfz54_1, hfz54_2, hfz54_3, hfz54_4, hfz54_5⟩ := fz6_ BK240.out
       go_wp2
       go_ret
       exact rt_
      rw [if_pos c50] at H
      have c50b0 : decide (a0_5 ≤ (-1)) = true := decide_eq_true c50
      clear c50
      by_cases c51 : a0_5 ≥ (-8)
      ·rw [if_pos c51] at H
       have c51b0 : decide ((-8) ≤ a0_5) = true := decide_eq_true c51
       clear c51
       obtain rfl := Option.some.inj H
       obtain ⟨hcz52_0, hcz52_1, hcz52_2, hcz52_3, hcz52_4, hcz52_5⟩ := cz6_ BK240.out
       obtain ⟨hfz52_0, hfz52_1, hfz52_2, hfz52_3, hfz52_4, hfz52_5⟩ := fz6_ BK240.out
       go_wp2
       go_ret
       exact rt_
      rw [if_neg c51] at H
      have c51b0 : decide ((-8) ≤ a0_5) = false := decide_eq_false c51
      clear c51
      obtain rfl := Option.some.inj H
      obtain ⟨hcz53_0, hcz53_1, hcz53_2, hcz53_3, hcz53_4, hcz53_5⟩ := cz6_ BK240.out
      obtain ⟨hfz53_0, hfz53_1, hfz53_2, hfz53_3, hfz53_4, hfz53_5⟩ := fz6_ BK240.out
      go_wp2
      go_ret
      exact rt_
     rw [if_pos c42] at H
     have c42b0 : decide (1 ≤ a0_5) = true := decide_eq_true c42
     clear c42
     by_cases c43 : a0_5 ≤ 8
     ·rw [if_pos c43] at H
      have c43b0 : decide (a0_5 ≤ 8) = true := decide_eq_true c43
      clear c43
      obtain rfl := Option.some.inj H
      obtain ⟨hcz44_0, hcz44_1, hcz44_2, hcz44_3, hcz44_4, hcz44_5⟩ := cz6_ BK240.out
      obtain ⟨hfz44_0, hfz44_1, hfz44_2, hfz44_3, hfz44_4, hfz44_5⟩ := fz6_ BK240.out
      go_wp2
      go_ret
      exact rt_
     rw [if_neg c43] at H
     have c43b0 : decide (a0_5 ≤ 8) = false := decide_eq_false c43
     clear c43
     by_cases c45 : a0_5 ≤ (-1)
     rotate_left
     ·rw [if_neg c45] at H
      have c45b0 : decide (a0_5 ≤ (-1)) = false := decide_eq_false c45
      clear c45
      obtain rfl := Option.some.inj H
      obtain ⟨hcz49_0, hcz49_1, hcz49_2, hcz49_3, hcz49_4, hcz49_5⟩ := cz6_ BK240.out
      obtain ⟨hfz49_0, hfz49_1, hfz49_2, hfz49_3, hfz49_4, hfz49_5⟩ := fz6_ BK240.out
      go_wp2
      go_ret
      exact rt_
     rw [if_pos c45] at H
     have c45b0 : decide (a0_5 ≤ (-1)) = true := decide_eq_true c45
     clear c45
     by_cases c46 : a0_5 ≥ (-8)
     ·rw [if_pos c46] at H
      have c46b0 : decide ((-8) ≤ a0_5) = true := decide_eq_true c46
      clear c46
      obtain rfl := Option.some.inj H
      obtain ⟨hcz47_0, hcz47_1, hcz47_2, hcz47_3, hcz47_4, hcz47_5⟩ := cz6_ BK240.out
      obtain ⟨hfz47_0, hfz47_1, hfz47_2, hfz47_3, hfz47_4, hfz47_5⟩ := fz6_ BK240.out
      go_wp2
      go_ret
      exact rt_
     rw [if_neg c46] at H
     have c46b0 : decide ((-8) ≤ a0_5) = false := decide_eq_false c46
     clear c46
     obtain rfl := Option.some.inj H
     obtain ⟨hcz48_0, hcz48_1, hcz48_2, hcz48_3, hcz48_4, hcz48_5⟩ := cz6_ BK240.out
     obtain ⟨hfz48_0, hfz48_1, hfz48_2, hfz48_3, hfz48_4, hfz48_5⟩ := fz6_ BK240.out
     go_wp2
     go_ret
     exact rt_
def computusref17_Season.f (k : Nat) (a0_0 : ByteArray) (a0_1 : Int) (a0_2 : Int) (a0_3 : Int) (a0_4 : Int) (a0_5 : Int) (a0_6 : Int) (a0_7 : Int) (a0_8 : Int) : Option (Bool) := (computusref17_Identifier.f k a0_0).bind fun t244 => (if t244 = true then (if a0_1 ≥ 1 then (if a0_1 ≤ 9 then (if a0_2 ≥ 1 then (if a0_2 ≤ 9 then ((computusref16_Check.f k a0_3 a0_4 a0_5 a0_6 a0_7 a0_8).bind fun t245 => (some t245)) else (some false)) else (some false)) else (some false)) else (some false)) else (some false))
theorem computusref17_Season.calls (k : Nat) (a0_0 : ByteArray) (a0_1 : Int) (a0_2 : Int) (a0_3 : Int) (a0_4 : Int) (a0_5 : Int) (a0_6 : Int) (a0_7 : Int) (a0_8 : Int) (r : Bool) (w : World) (h : computusref17_Season.f k a0_0 a0_1 a0_2 a0_3 a0_4 a0_5 a0_6 a0_7 a0_8 = some r) :
  Calls Try.prog 44 #[.agg #[.string a0_0, .int .i64 a0_1, .int .i64 a0_2, .int .i64 a0_3, .int .i64 a0_4, .int .i64 a0_5, .int .i64 a0_6, .int .i64 a0_7, .int .i64 a0_8]] w fun e w' => e = .returned (.bool r) ∧ Below w.heap.size w w' := by
 have hu66 := Try.underlying66
 have hu64 := Try.underlying64
 have HB := am_ (Below.refl w.heap.size w)
 have H := h
 clear h
 unfold computusref17_Season.f at H
 obtain ⟨t244, A2, H⟩ := bs_ H
 by_cases c3 : t244 = true
 rotate_left
 ·replace c3 := Bool.eq_false_iff.mpr c3
  subst c3
  replace H := if_ H
  obtain rfl := Option.some.inj H
  go_enter Try.func44, Try.ntmps44
  go_wp2_with (first | ((with_reducible refine gate_dst (N := 1) rfl ?_); refine bx_ (w := w) (N := 1) (cs := #[.string a0_0, .int .i64 a0_1, .int .i64 a0_2, .int .i64 a0_3, .int .i64 a0_4, .int .i64 a0_5, .int .i64 a0_6, .int .i64 a0_7, .int .i64 a0_8]) (t := 66) ?_; intro gb243 w20 BK243 n0_ GW243 GE243; clear HB; have HB := n0_; clear n0_; have hcz21_0 : w20.cell? ⟨gb243, 0, none⟩ = some (.string a0_0) := (blk_cell BK243.out 0).trans rfl; have hcz21_1 : w20.cell? ⟨gb243, 1, none⟩ = some (.int .i64 a0_1) := (blk_cell BK243.out 1).trans rfl; have hcz21_2 : w20.cell? ⟨gb243, 2, none⟩ = some (.int .i64 a0_2) := (blk_cell BK243.out 2).trans rfl; have hcz21_3 : w20.cell? ⟨gb243, 3, none⟩ = some (.int .i64 a0_3) := (blk_cell BK243.out 3).trans rfl; have hcz21_4 : w20.cell? ⟨gb243, 4, none⟩ = some (.int .i64 a0_4) := (blk_cell BK243.out 4).trans rfl; have hcz21_5 : w20.cell? ⟨gb243, 5, none⟩ = some (.int .i64 a0_5) := (blk_cell BK243.out 5).trans rfl; have hcz21_6 : w20.cell? ⟨gb243, 6, none⟩ = some (.int .i64 a0_6) := (blk_cell BK243.out 6).trans rfl; have hcz21_7 : w20.cell? ⟨gb243, 7, none⟩ = some (.int .i64 a0_7) := (blk_cell BK243.out 7).trans rfl; have hcz21_8 : w20.cell? ⟨gb243, 8, none⟩ = some (.int .i64 a0_8) := (blk_cell BK243.out 8).trans rfl; have hfz21_0 := blk_frozen BK243.out 0; have hfz21_1 := blk_frozen BK243.out 1; have hfz21_2 := blk_frozen BK243.out 2; have hfz21_3 := blk_frozen BK243.out 3; have hfz21_4 := blk_frozen BK243.out 4; have hfz21_5 := blk_frozen BK243.out 5; have hfz21_6 := blk_frozen BK243.out 6; have hfz21_7 := blk_frozen BK243.out 7; have hfz21_8 := blk_frozen BK243.out 8) | ((with_reducible refine gate_callee (f := 56) rfl ?_); refine gl_ (some 5) Try.func56 #[.string a0_0] ?_; (with_reducible refine (computusref17_Identifier.calls k a0_0 false _ A2.out).mono ?_); rintro e w' ⟨rfl, ⟨nd, rfl⟩⟩; refine ⟨_, rfl, ?_⟩))
  go_ret
  exact rt_
 subst c3
 replace H := it_ H
 by_cases c4 : a0_1 ≥ 1
 rotate_left
 ·rw [if_neg c4] at H
  have c4b0 : decide (1 ≤ a0_1) = false := decide_eq_false c4
  clear c4
  obtain rfl := Option.some.inj H
  go_enter Try.func44, Try.ntmps44
  go_wp2_with (first | ((with_reducible refine gate_dst (N := 1) rfl ?_); refine bx_ (w := w) (N := 1) (cs := #[.string a0_0, .int .i64 a0_1, .int .i64 a0_2, .int .i64 a0_3, .int .i64 a0_4, .int .i64 a0_5, .int .i64 a0_6, .int .i64 a0_7, .int .i64 a0_8]) (t := 66) ?_; intro gb243 w18 BK243 n0_ GW243 GE243; clear HB; have HB := n0_; clear n0_; have hcz19_0 : w18.cell? ⟨gb243, 0, none⟩ = some (.string a0_0) := (blk_cell BK243.out 0).trans rfl; have hcz19_1 : w18.cell? ⟨gb243, 1, none⟩ = some (.int .i64 a0_1) := (blk_cell BK243.out 1).trans rfl; have hcz19_2 : w18.cell? ⟨gb243, 2, none⟩ = some (.int .i64 a0_2) := (blk_cell BK243.out 2).trans rfl; have hcz19_3 : w18.cell? ⟨gb243, 3, none⟩ = some (.int .i64 a0_3) := (blk_cell BK243.out 3).trans rfl; have hcz19_4 : w18.cell? ⟨gb243, 4, none⟩ = some (.int .i64 a0_4) := (blk_cell BK243.out 4).trans rfl; have hcz19_5 : w18.cell? ⟨gb243, 5, none⟩ = some (.int .i64 a0_5) := (blk_cell BK243.out 5).trans rfl; have hcz19_6 : w18.cell? ⟨gb243, 6, none⟩ = some (.int .i64 a0_6) := (blk_cell BK243.out 6).trans rfl; have hcz19_7 : w18.cell? ⟨gb243, 7, none⟩ = some (.int .i64 a0_7) := (blk_cell BK243.out 7).trans rfl; have hcz19_8 : w18.cell? ⟨gb243, 8, none⟩ = some (.int .i64 a0_8) := (blk_cell BK243.out 8).trans rfl; have hfz19_0 := blk_frozen BK243.out 0; have hfz19_1 := blk_frozen BK243.out 1; have hfz19_2 := blk_frozen BK243.out 2; have hfz19_3 := blk_frozen BK243.out 3; have hfz19_4 := blk_frozen BK243.out 4; have hfz19_5 := blk_frozen BK243.out 5; have hfz19_6 := blk_frozen BK243.out 6; have hfz19_7 := blk_frozen BK243.out 7; have hfz19_8 := blk_frozen BK243.out 8) | ((with_reducible refine gate_callee (f := 56) rfl ?_); refine gl_ (some 5) Try.func56 #[.string a0_0] ?_; (with_reducible refine (computusref17_Identifier.calls k a0_0 true _ A2.out).mono ?_); rintro e w' ⟨rfl, ⟨nd, rfl⟩⟩; refine ⟨_, rfl, ?_⟩))
  go_ret
  exact rt_
 rw [if_pos c4] at H
 have c4b0 : decide (1 ≤ a0_1) = true := decide_eq_true c4
 clear c4
 by_cases c5 : a0_1 ≤ 9
 rotate_left
 ·rw [if_neg c5] at H
  have c5b0 : decide (a0_1 ≤ 9) = false := decide_eq_false c5
  clear c5
  obtain rfl := Option.some.inj H
  go_enter Try.func44, Try.ntmps44
  go_wp2_with (first | ((with_reducible refine gate_dst (N := 1) rfl ?_); refine bx_ (w := w) (N := 1) (cs := #[.string a0_0, .int .i64 a0_1, .int .i64 a0_2, .int .i64 a0_3, .int .i64 a0_4, .int .i64 a0_5, .int .i64 a0_6, .int .i64 a0_7, .int .i64 a0_8]) (t := 66) ?_; intro gb243 w16 BK243 n0_ GW243 GE243; clear HB; have HB := n0_; clear n0_; have hcz17_0 : w16.cell? ⟨gb243, 0, none⟩ = some (.string a0_0) := (blk_cell BK243.out 0).trans rfl; have hcz17_1 : w16.cell? ⟨gb243, 1, none⟩ = some (.int .i64 a0_1) := (blk_cell BK243.out 1).trans rfl; have hcz17_2 : w16.cell? ⟨gb243, 2, none⟩ = some (.int .i64 a0_2) := (blk_cell BK243.out 2).trans rfl; have hcz17_3 : w16.cell? ⟨gb243, 3, none⟩ = some (.int .i64 a0_3) := (blk_cell BK243.out 3).trans rfl; have hcz17_4 : w16.cell? ⟨gb243, 4, none⟩ = some (.int .i64 a0_4) := (blk_cell BK243.out 4).trans rfl; have hcz17_5 : w16.cell? ⟨gb243, 5, none⟩ = some (.int .i64 a0_5) := (blk_cell BK243.out 5).trans rfl; have hcz17_6 : w16.cell? ⟨gb243, 6, none⟩ = some (.int .i64 a0_6) := (blk_cell BK243.out 6).trans rfl; have hcz17_7 : w16.cell? ⟨gb243, 7, none⟩ = some (.int .i64 a0_7) := (blk_cell BK243.out 7).trans rfl; have hcz17_8 : w16.cell? ⟨gb243, 8, none⟩ = some (.int .i64 a0_8) := (blk_cell BK243.out 8).trans rfl; have hfz17_0 := blk_frozen BK243.out 0; have hfz17_1 := blk_frozen BK243.out 1; have hfz17_2 := blk_frozen BK243.out 2; have hfz17_3 := blk_frozen BK243.out 3; have hfz17_4 := blk_frozen BK243.out 4; have hfz17_5 := blk_frozen BK243.out 5; have hfz17_6 := blk_frozen BK243.out 6; have hfz17_7 := blk_frozen BK243.out 7; have hfz17_8 := blk_frozen BK243.out 8) | ((with_reducible refine gate_callee (f := 56) rfl ?_); refine gl_ (some 5) Try.func56 #[.string a0_0] ?_; (with_reducible refine (computusref17_Identifier.calls k a0_0 true _ A2.out).mono ?_); rintro e w' ⟨rfl, ⟨nd, rfl⟩⟩; refine ⟨_, rfl, ?_⟩))
  go_ret
  exact rt_
 rw [if_pos c5] at H
 have c5b0 : decide (a0_1 ≤ 9) = true := decide_eq_true c5
 clear c5
 by_cases c6 : a0_2 ≥ 1
 rotate_left
 ·rw [if_neg c6] at H
  have c6b0 : decide (1 ≤ a0_2) = false := decide_eq_false c6
  clear c6
  obtain rfl := Option.some.inj H
  go_enter Try.func44, Try.ntmps44
  go_wp2_with (first | ((with_reducible refine gate_dst (N := 1) rfl ?_); refine bx_ (w := w) (N := 1) (cs := #[.string a0_0, .int .i64 a0_1, .int .i64 a0_2, .int .i64 a0_3, .int .i64 a0_4, .int .i64 a0_5, .int .i64 a0_6, .int .i64 a0_7, .int .i64 a0_8]) (t := 66) ?_; intro gb243 w14 BK243 n0_ GW243 GE243; clear HB; have HB := n0_; clear n0_; have hcz15_0 : w14.cell? ⟨gb243, 0, none⟩ = some (.string a0_0) := (blk_cell BK243.out 0).trans rfl; have hcz15_1 : w14.cell? ⟨gb243, 1, none⟩ = some (.int .i64 a0_1) := (blk_cell BK243.out 1).trans rfl; have hcz15_2 : w14.cell? ⟨gb243, 2, none⟩ = some (.int .i64 a0_2) := (blk_cell BK243.out 2).trans rfl; have hcz15_3 : w14.cell? ⟨gb243, 3, none⟩ = some (.int .i64 a0_3) := (blk_cell BK243.out 3).trans rfl; have hcz15_4 : w14.cell? ⟨gb243, 4, none⟩ = some (.int .i64 a0_4) := (blk_cell BK243.out 4).trans rfl; have hcz15_5 : w14.cell? ⟨gb243, 5, none⟩ = some (.int .i64 a0_5) := (blk_cell BK243.out 5).trans rfl; have hcz15_6 : w14.cell? ⟨gb243, 6, none⟩ = some (.int .i64 a0_6) := (blk_cell BK243.out 6).trans rfl; have hcz15_7 : w14.cell? ⟨gb243, 7, none⟩ = some (.int .i64 a0_7) := (blk_cell BK243.out 7).trans rfl; have hcz15_8 : w14.cell? ⟨gb243, 8, none⟩ = some (.int .i64 a0_8) := (blk_cell BK243.out 8).trans rfl; have hfz15_0 := blk_frozen BK243.out 0; have hfz15_1 := blk_frozen BK243.out 1; have hfz15_2 := blk_frozen BK243.out 2; have hfz15_3 := blk_frozen BK243.out 3; have hfz15_4 := blk_frozen BK243.out 4; have hfz15_5 := blk_frozen BK243.out 5; have hfz15_6 := blk_frozen BK243.out 6; have hfz15_7 := blk_frozen BK243.out 7; have hfz15_8 := blk_frozen BK243.out 8) | ((with_reducible refine gate_callee (f := 56) rfl ?_); refine gl_ (some 5) Try.func56 #[.string a0_0] ?_; (with_reducible refine (computusref17_Identifier.calls k a0_0 true _ A2.out).mono ?_); rintro e w' ⟨rfl, ⟨nd, rfl⟩⟩; refine ⟨_, rfl, ?_⟩))
  go_ret
  exact rt_
 rw [if_pos c6] at H
 have c6b0 : decide (1 ≤ a0_2) = true := decide_eq_true c6
 clear c6
 by_cases c7 : a0_2 ≤ 9
 rotate_left
 ·rw [if_neg c7] at H
  have c7b0 : decide (a0_2 ≤ 9) = false := decide_eq_false c7
  clear c7
  obtain rfl := Option.some.inj H
  go_enter Try.func44, Try.ntmps44
  go_wp2_with (first | ((with_reducible refine gate_dst (N := 1) rfl ?_); refine bx_ (w := w) (N := 1) (cs := #[.string a0_0, .int .i64 a0_1, .int .i64 a0_2, .int .i64 a0_3, .int .i64 a0_4, .int .i64 a0_5, .int .i64 a0_6, .int .i64 a0_7, .int .i64 a0_8]) (t := 66) ?_; intro gb243 w12 BK243 n0_ GW243 GE243; clear HB; have HB := n0_; clear n0_; have hcz13_0 : w12.cell? ⟨gb243, 0, none⟩ = some (.string a0_0) := (blk_cell BK243.out 0).trans rfl; have hcz13_1 : w12.cell? ⟨gb243, 1, none⟩ = some (.int .i64 a0_1) := (blk_cell BK243.out 1).trans rfl; have hcz13_2 : w12.cell? ⟨gb243, 2, none⟩ = some (.int .i64 a0_2) := (blk_cell BK243.out 2).trans rfl; have hcz13_3 : w12.cell? ⟨gb243, 3, none⟩ = some (.int .i64 a0_3) := (blk_cell BK243.out 3).trans rfl; have hcz13_4 : w12.cell? ⟨gb243, 4, none⟩ = some (.int .i64 a0_4) := (blk_cell BK243.out 4).trans rfl; have hcz13_5 : w12.cell? ⟨gb243, 5, none⟩ = some (.int .i64 a0_5) := (blk_cell BK243.out 5).trans rfl; have hcz13_6 : w12.cell? ⟨gb243, 6, none⟩ = some (.int .i64 a0_6) := (blk_cell BK243.out 6).trans rfl; have hcz13_7 : w12.cell? ⟨gb243, 7, none⟩ = some (.int .i64 a0_7) := (blk_cell BK243.out 7).trans rfl; have hcz13_8 : w12.cell? ⟨gb243, 8, none⟩ = some (.int .i64 a0_8) := (blk_cell BK243.out 8).trans rfl; have hfz13_0 := blk_frozen BK243.out 0; have hfz13_1 := blk_frozen BK243.out 1; have hfz13_2 := blk_frozen BK243.out 2; have hfz13_3 := blk_frozen BK243.out 3; have hfz13_4 := blk_frozen BK243.out 4; have hfz13_5 := blk_frozen BK243.out 5; have hfz13_6 := blk_frozen BK243.out 6; have hfz13_7 := blk_frozen BK243.out 7; have hfz13_8 := blk_frozen BK243.out 8) | ((with_reducible refine gate_callee (f := 56) rfl ?_); refine gl_ (some 5) Try.func56 #[.string a0_0] ?_; (with_reducible refine (computusref17_Identifier.calls k a0_0 true _ A2.out).mono ?_); rintro e w' ⟨rfl, ⟨nd, rfl⟩⟩; refine ⟨_, rfl, ?_⟩))
  go_ret
  exact rt_
 rw [if_pos c7] at H
 have c7b0 : decide (a0_2 ≤ 9) = true := decide_eq_true c7
 clear c7
 obtain ⟨t245, A8, H⟩ := bs_ H
 obtain rfl := Option.some.inj H
 go_enter Try.func44, Try.ntmps44
 go_wp2_with (first | ((with_reducible refine gate_dst (N := 1) rfl ?_); refine bx_ (w := w) (N := 1) (cs := #[.string a0_0, .int .i64 a0_1, .int .i64 a0_2, .int .i64 a0_3, .int .i64 a0_4, .int .i64 a0_5, .int .i64 a0_6, .int .i64 a0_7, .int .i64 a0_8]) (t := 66) ?_; intro gb243 w9 BK243 n0_ GW243 GE243; clear HB; have HB := n0_; clear n0_; have hcz10_0 : w9.cell? ⟨gb243, 0, none⟩ = some (.string a0_0) := (blk_cell BK243.out 0).trans rfl; have hcz10_1 : w9.cell? ⟨gb243, 1, none⟩ = some (.int .i64 a0_1) := (blk_cell BK243.out 1).trans rfl; have hcz10_2 : w9.cell? ⟨gb243, 2, none⟩ = some (.int .i64 a0_2) := (blk_cell BK243.out 2).trans rfl; have hcz10_3 : w9.cell? ⟨gb243, 3, none⟩ = some (.int .i64 a0_3) := (blk_cell BK243.out 3).trans rfl; have hcz10_4 : w9.cell? ⟨gb243, 4, none⟩ = some (.int .i64 a0_4) := (blk_cell BK243.out 4).trans rfl; have hcz10_5 : w9.cell? ⟨gb243, 5, none⟩ = some (.int .i64 a0_5) := (blk_cell BK243.out 5).trans rfl; have hcz10_6 : w9.cell? ⟨gb243, 6, none⟩ = some (.int .i64 a0_6) := (blk_cell BK243.out 6).trans rfl; have hcz10_7 : w9.cell? ⟨gb243, 7, none⟩ = some (.int .i64 a0_7) := (blk_cell BK243.out 7).trans rfl; have hcz10_8 : w9.cell? ⟨gb243, 8, none⟩ = some (.int .i64 a0_8) := (blk_cell BK243.out 8).trans rfl; have hfz10_0 := blk_frozen BK243.out 0; have hfz10_1 := blk_frozen BK243.out 1; have hfz10_2 := blk_frozen BK243.out 2; have hfz10_3 := blk_frozen BK243.out 3; have hfz10_4 := blk_frozen BK243.out 4; have hfz10_5 := blk_frozen BK243.out 5; have hfz10_6 := blk_frozen BK243.out 6; have hfz10_7 := blk_frozen BK243.out 7; have hfz10_8 := blk_frozen BK243.out 8) | ((with_reducible refine gate_callee (f := 56) rfl ?_); refine gl_ (some 5) Try.func56 #[.string a0_0] ?_; (with_reducible refine (computusref17_Identifier.calls k a0_0 true _ A2.out).mono ?_); rintro e w' ⟨rfl, ⟨nd, rfl⟩⟩; refine ⟨_, rfl, ?_⟩) | (go_at_call 57; (with_reducible refine (computusref16_Check.calls k a0_3 a0_4 a0_5 a0_6 a0_7 a0_8 t245 _ A8.out).mono ?_); rintro e w11 ⟨rfl, hb⟩; replace BK243 := bw_ BK243 hb; replace HB := bt_ hb; (try clear hb); (try clear hi)))
 go_ret
 exact rt_
def computusref17_Feast.f (k : Nat) (a0_0 : ByteArray) (a0_1 : Int) (a0_2 : Int) (a0_3 : Int) (a0_4 : Int) (a0_5 : Int) (a0_6 : Int) (a0_7 : Int) (a0_8 : Int) : Option (Bool) := (computusref17_Identifier.f k a0_0).bind fun t247 => (if t247 = true then (if a0_1 ≥ 1 then (if a0_1 ≤ 9 then (if a0_2 ≥ 1 then (if a0_2 ≤ 3 then ((computusref16_Check.f k a0_3 a0_4 a0_5 a0_6 a0_7 a0_8).bind fun t248 => (some t248)) else (some false)) else (some false)) else (some false)) else (some false)) else (some false))
theorem computusref17_Feast.calls (k : Nat) (a0_0 : ByteArray) (a0_1 : Int) (a0_2 : Int) (a0_3 : Int) (a0_4 : Int) (a0_5 : Int) (a0_6 : Int) (a0_7 : Int) (a0_8 : Int) (r : Bool) (w : World) (h : computusref17_Feast.f k a0_0 a0_1 a0_2 a0_3 a0_4 a0_5 a0_6 a0_7 a0_8 = some r) :
  Calls Try.prog 45 #[.agg #[.string a0_0, .int .i64 a0_1, .int .i64 a0_2, .int .i64 a0_3, .int .i64 a0_4, .int .i64 a0_5, .int .i64 a0_6, .int .i64 a0_7, .int .i64 a0_8]] w fun e w' => e = .returned (.bool r) ∧ Below w.heap.size w w' := by
 have hu68 := Try.underlying68
 have hu64 := Try.underlying64
 have HB := am_ (Below.refl w.heap.size w)
 have H := h
 clear h
 unfold computusref17_Feast.f at H
 obtain ⟨t247, A2, H⟩ := bs_ H
 by_cases c3 : t247 = true
 rotate_left
 ·replace c3 := Bool.eq_false_iff.mpr c3
  subst c3
  replace H := if_ H
  obtain rfl := Option.some.inj H
  go_enter Try.func45, Try.ntmps45
  go_wp2_with (first | ((with_reducible refine gate_dst (N := 1) rfl ?_); refine bx_ (w := w) (N := 1) (cs := #[.string a0_0, .int .i64 a0_1, .int .i64 a0_2, .int .i64 a0_3, .int .i64 a0_4, .int .i64 a0_5, .int .i64 a0_6, .int .i64 a0_7, .int .i64 a0_8]) (t := 68) ?_; intro gb246 w20 BK246 n0_ GW246 GE246; clear HB; have HB := n0_; clear n0_; have hcz21_0 : w20.cell? ⟨gb246, 0, none⟩ = some (.string a0_0) := (blk_cell BK246.out 0).trans rfl; have hcz21_1 : w20.cell? ⟨gb246, 1, none⟩ = some (.int .i64 a0_1) := (blk_cell BK246.out 1).trans rfl; have hcz21_2 : w20.cell? ⟨gb246, 2, none⟩ = some (.int .i64 a0_2) := (blk_cell BK246.out 2).trans rfl; have hcz21_3 : w20.cell? ⟨gb246, 3, none⟩ = some (.int .i64 a0_3) := (blk_cell BK246.out 3).trans rfl; have hcz21_4 : w20.cell? ⟨gb246, 4, none⟩ = some (.int .i64 a0_4) := (blk_cell BK246.out 4).trans rfl; have hcz21_5 : w20.cell? ⟨gb246, 5, none⟩ = some (.int .i64 a0_5) := (blk_cell BK246.out 5).trans rfl; have hcz21_6 : w20.cell? ⟨gb246, 6, none⟩ = some (.int .i64 a0_6) := (blk_cell BK246.out 6).trans rfl; have hcz21_7 : w20.cell? ⟨gb246, 7, none⟩ = some (.int .i64 a0_7) := (blk_cell BK246.out 7).trans rfl; have hcz21_8 : w20.cell? ⟨gb246, 8, none⟩ = some (.int .i64 a0_8) := (blk_cell BK246.out 8).trans rfl; have hfz21_0 := blk_frozen BK246.out 0; have hfz21_1 := blk_frozen BK246.out 1; have hfz21_2 := blk_frozen BK246.out 2; have hfz21_3 := blk_frozen BK246.out 3; have hfz21_4 := blk_frozen BK246.out 4; have hfz21_5 := blk_frozen BK246.out 5; have hfz21_6 := blk_frozen BK246.out 6; have hfz21_7 := blk_frozen BK246.out 7; have hfz21_8 := blk_frozen BK246.out 8) | ((with_reducible refine gate_callee (f := 56) rfl ?_); refine gl_ (some 5) Try.func56 #[.string a0_0] ?_; (with_reducible refine (computusref17_Identifier.calls k a0_0 false _ A2.out).mono ?_); rintro e w' ⟨rfl, ⟨nd, rfl⟩⟩; refine ⟨_, rfl, ?_⟩))
  go_ret
  exact rt_
 subst c3
 replace H := it_ H
 by_cases c4 : a0_1 ≥ 1
 rotate_left
 ·rw [if_neg c4] at H
  have c4b0 : decide (1 ≤ a0_1) = false := decide_eq_false c4
  clear c4
  obtain rfl := Option.some.inj H
  go_enter Try.func45, Try.ntmps45
  go_wp2_with (first | ((with_reducible refine gate_dst (N := 1) rfl ?_); refine bx_ (w := w) (N := 1) (cs := #[.string a0_0, .int .i64 a0_1, .int .i64 a0_2, .int .i64 a0_3, .int .i64 a0_4, .int .i64 a0_5, .int .i64 a0_6, .int .i64 a0_7, .int .i64 a0_8]) (t := 68) ?_; intro gb246 w18 BK246 n0_ GW246 GE246; clear HB; have HB := n0_; clear n0_; have hcz19_0 : w18.cell? ⟨gb246, 0, none⟩ = some (.string a0_0) := (blk_cell BK246.out 0).trans rfl; have hcz19_1 : w18.cell? ⟨gb246, 1, none⟩ = some (.int .i64 a0_1) := (blk_cell BK246.out 1).trans rfl; have hcz19_2 : w18.cell? ⟨gb246, 2, none⟩ = some (.int .i64 a0_2) := (blk_cell BK246.out 2).trans rfl; have hcz19_3 : w18.cell? ⟨gb246, 3, none⟩ = some (.int .i64 a0_3) := (blk_cell BK246.out 3).trans rfl; have hcz19_4 : w18.cell? ⟨gb246, 4, none⟩ = some (.int .i64 a0_4) := (blk_cell BK246.out 4).trans rfl; have hcz19_5 : w18.cell? ⟨gb246, 5, none⟩ = some (.int .i64 a0_5) := (blk_cell BK246.out 5).trans rfl; have hcz19_6 : w18.cell? ⟨gb246, 6, none⟩ = some (.int .i64 a0_6) := (blk_cell BK246.out 6).trans rfl; have hcz19_7 : w18.cell? ⟨gb246, 7, none⟩ = some (.int .i64 a0_7) := (blk_cell BK246.out 7).trans rfl; have hcz19_8 : w18.cell? ⟨gb246, 8, none⟩ = some (.int .i64 a0_8) := (blk_cell BK246.out 8).trans rfl; have hfz19_0 := blk_frozen BK246.out 0; have hfz19_1 := blk_frozen BK246.out 1; have hfz19_2 := blk_frozen BK246.out 2; have hfz19_3 := blk_frozen BK246.out 3; have hfz19_4 := blk_frozen BK246.out 4; have hfz19_5 := blk_frozen BK246.out 5; have hfz19_6 := blk_frozen BK246.out 6; have hfz19_7 := blk_frozen BK246.out 7; have hfz19_8 := blk_frozen BK246.out 8) | ((with_reducible refine gate_callee (f := 56) rfl ?_); refine gl_ (some 5) Try.func56 #[.string a0_0] ?_; (with_reducible refine (computusref17_Identifier.calls k a0_0 true _ A2.out).mono ?_); rintro e w' ⟨rfl, ⟨nd, rfl⟩⟩; refine ⟨_, rfl, ?_⟩))
  go_ret
  exact rt_
 rw [if_pos c4] at H
 have c4b0 : decide (1 ≤ a0_1) = true := decide_eq_true c4
 clear c4
 by_cases c5 : a0_1 ≤ 9
 rotate_left
 ·rw [if_neg c5] at H
  have c5b0 : decide (a0_1 ≤ 9) = false := decide_eq_false c5
  clear c5
  obtain rfl := Option.some.inj H
  go_enter Try.func45, Try.ntmps45
  go_wp2_with (first | ((with_reducible refine gate_dst (N := 1) rfl ?_); refine bx_ (w := w) (N := 1) (cs := #[.string a0_0, .int .i64 a0_1, .int .i64 a0_2, .int .i64 a0_3, .int .i64 a0_4, .int .i64 a0_5, .int .i64 a0_6, .int .i64 a0_7, .int .i64 a0_8]) (t := 68) ?_; intro gb246 w16 BK246 n0_ GW246 GE246; clear HB; have HB := n0_; clear n0_; have hcz17_0 : w16.cell? ⟨gb246, 0, none⟩ = some (.string a0_0) := (blk_cell BK246.out 0).trans rfl; have hcz17_1 : w16.cell? ⟨gb246, 1, none⟩ = some (.int .i64 a0_1) := (blk_cell BK246.out 1).trans rfl; have hcz17_2 : w16.cell? ⟨gb246, 2, none⟩ = some (.int .i64 a0_2) := (blk_cell BK246.out 2).trans rfl; have hcz17_3 : w16.cell? ⟨gb246, 3, none⟩ = some (.int .i64 a0_3) := (blk_cell BK246.out 3).trans rfl; have hcz17_4 : w16.cell? ⟨gb246, 4, none⟩ = some (.int .i64 a0_4) := (blk_cell BK246.out 4).trans rfl; have hcz17_5 : w16.cell? ⟨gb246, 5, none⟩ = some (.int .i64 a0_5) := (blk_cell BK246.out 5).trans rfl; have hcz17_6 : w16.cell? ⟨gb246, 6, none⟩ = some (.int .i64 a0_6) := (blk_cell BK246.out 6).trans rfl; have hcz17_7 : w16.cell? ⟨gb246, 7, none⟩ = some (.int .i64 a0_7) := (blk_cell BK246.out 7).trans rfl; have hcz17_8 : w16.cell? ⟨gb246, 8, none⟩ = some (.int .i64 a0_8) := (blk_cell BK246.out 8).trans rfl; have hfz17_0 := blk_frozen BK246.out 0; have hfz17_1 := blk_frozen BK246.out 1; have hfz17_2 := blk_frozen BK246.out 2; have hfz17_3 := blk_frozen BK246.out 3; have hfz17_4 := blk_frozen BK246.out 4; have hfz17_5 := blk_frozen BK246.out 5; have hfz17_6 := blk_frozen BK246.out 6; have hfz17_7 := blk_frozen BK246.out 7; have hfz17_8 := blk_frozen BK246.out 8) | ((with_reducible refine gate_callee (f := 56) rfl ?_); refine gl_ (some 5) Try.func56 #[.string a0_0] ?_; (with_reducible refine (computusref17_Identifier.calls k a0_0 true _ A2.out).mono ?_); rintro e w' ⟨rfl, ⟨nd, rfl⟩⟩; refine ⟨_, rfl, ?_⟩))
  go_ret
  exact rt_
 rw [if_pos c5] at H
 have c5b0 : decide (a0_1 ≤ 9) = true := decide_eq_true c5
 clear c5
 by_cases c6 : a0_2 ≥ 1
 rotate_left
 ·rw [if_neg c6] at H
  have c6b0 : decide (1 ≤ a0_2) = false := decide_eq_false c6
  clear c6
  obtain rfl := Option.some.inj H
  go_enter Try.func45, Try.ntmps45
  go_wp2_with (first | ((with_reducible refine gate_dst (N := 1) rfl ?_); refine bx_ (w := w) (N := 1) (cs := #[.string a0_0, .int .i64 a0_1, .int .i64 a0_2, .int .i64 a0_3, .int .i64 a0_4, .int .i64 a0_5, .int .i64 a0_6, .int .i64 a0_7, .int .i64 a0_8]) (t := 68) ?_; intro gb246 w14 BK246 n0_ GW246 GE246; clear HB; have HB := n0_; clear n0_; have hcz15_0 : w14.cell? ⟨gb246, 0, none⟩ = some (.string a0_0) := (blk_cell BK246.out 0).trans rfl; have hcz15_1 : w14.cell? ⟨gb246, 1, none⟩ = some (.int .i64 a0_1) := (blk_cell BK246.out 1).trans rfl; have hcz15_2 : w14.cell? ⟨gb246, 2, none⟩ = some (.int .i64 a0_2) := (blk_cell BK246.out 2).trans rfl; have hcz15_3 : w14.cell? ⟨gb246, 3, none⟩ = some (.int .i64 a0_3) := (blk_cell BK246.out 3).trans rfl; have hcz15_4 : w14.cell? ⟨gb246, 4, none⟩ = some (.int .i64 a0_4) := (blk_cell BK246.out 4).trans rfl; have hcz15_5 : w14.cell? ⟨gb246, 5, none⟩ = some (.int .i64 a0_5) := (blk_cell BK246.out 5).trans rfl; have hcz15_6 : w14.cell? ⟨gb246, 6, none⟩ = some (.int .i64 a0_6) := (blk_cell BK246.out 6).trans rfl; have hcz15_7 : w14.cell? ⟨gb246, 7, none⟩ = some (.int .i64 a0_7) := (blk_cell BK246.out 7).trans rfl; have hcz15_8 : w14.cell? ⟨gb246, 8, none⟩ = some (.int .i64 a0_8) := (blk_cell BK246.out 8).trans rfl; have hfz15_0 := blk_frozen BK246.out 0; have hfz15_1 := blk_frozen BK246.out 1; have hfz15_2 := blk_frozen BK246.out 2; have hfz15_3 := blk_frozen BK246.out 3; have hfz15_4 := blk_frozen BK246.out 4; have hfz15_5 := blk_frozen BK246.out 5; have hfz15_6 := blk_frozen BK246.out 6; have hfz15_7 := blk_frozen BK246.out 7; have hfz15_8 := blk_frozen BK246.out 8) | ((with_reducible refine gate_callee (f := 56) rfl ?_); refine gl_ (some 5) Try.func56 #[.string a0_0] ?_; (with_reducible refine (computusref17_Identifier.calls k a0_0 true _ A2.out).mono ?_); rintro e w' ⟨rfl, ⟨nd, rfl⟩⟩; refine ⟨_, rfl, ?_⟩))
  go_ret
  exact rt_
 rw [if_pos c6] at H
 have c6b0 : decide (1 ≤ a0_2) = true := decide_eq_true c6
 clear c6
 by_cases c7 : a0_2 ≤ 3
 rotate_left
 ·rw [if_neg c7] at H
  have c7b0 : decide (a0_2 ≤ 3) = false := decide_eq_false c7
  clear c7
  obtain rfl := Option.some.inj H
  go_enter Try.func45, Try.ntmps45
  go_wp2_with (first | ((with_reducible refine gate_dst (N := 1) rfl ?_); refine bx_ (w := w) (N := 1) (cs := #[.string a0_0, .int .i64 a0_1, .int .i64 a0_2, .int .i64 a0_3, .int .i64 a0_4, .int .i64 a0_5, .int .i64 a0_6, .int .i64 a0_7, .int .i64 a0_8]) (t := 68) ?_; intro gb246 w12 BK246 n0_ GW246 GE246; clear HB; have HB := n0_; clear n0_; have hcz13_0 : w12.cell? ⟨gb246, 0, none⟩ = some (.string a0_0) := (blk_cell BK246.out 0).trans rfl; have hcz13_1 : w12.cell? ⟨gb246, 1, none⟩ = some (.int .i64 a0_1) := (blk_cell BK246.out 1).trans rfl; have hcz13_2 : w12.cell? ⟨gb246, 2, none⟩ = some (.int .i64 a0_2) := (blk_cell BK246.out 2).trans rfl; have hcz13_3 : w12.cell? ⟨gb246, 3, none⟩ = some (.int .i64 a0_3) := (blk_cell BK246.out 3).trans rfl; have hcz13_4 : w12.cell? ⟨gb246, 4, none⟩ = some (.int .i64 a0_4) := (blk_cell BK246.out 4).trans rfl; have hcz13_5 : w12.cell? ⟨gb246, 5, none⟩ = some (.int .i64 a0_5) := (blk_cell BK246.out 5).trans rfl; have hcz13_6 : w12.cell? ⟨gb246, 6, none⟩ = some (.int .i64 a0_6) := (blk_cell BK246.out 6).trans rfl; have hcz13_7 : w12.cell? ⟨gb246, 7, none⟩ = some (.int .i64 a0_7) := (blk_cell BK246.out 7).trans rfl; have hcz13_8 : w12.cell? ⟨gb246, 8, none⟩ = some (.int .i64 a0_8) := (blk_cell BK246.out 8).trans rfl; have hfz13_0 := blk_frozen BK246.out 0; have hfz13_1 := blk_frozen BK246.out 1; have hfz13_2 := blk_frozen BK246.out 2; have hfz13_3 := blk_frozen BK246.out 3; have hfz13_4 := blk_frozen BK246.out 4; have hfz13_5 := blk_frozen BK246.out 5; have hfz13_6 := blk_frozen BK246.out 6; have hfz13_7 := blk_frozen BK246.out 7; have hfz13_8 := blk_frozen BK246.out 8) | ((with_reducible refine gate_callee (f := 56) rfl ?_); refine gl_ (some 5) Try.func56 #[.string a0_0] ?_; (with_reducible refine (computusref17_Identifier.calls k a0_0 true _ A2.out).mono ?_); rintro e w' ⟨rfl, ⟨nd, rfl⟩⟩; refine ⟨_, rfl, ?_⟩))
  go_ret
  exact rt_
 rw [if_pos c7] at H
 have c7b0 : decide (a0_2 ≤ 3) = true := decide_eq_true c7
 clear c7
 obtain ⟨t248, A8, H⟩ := bs_ H
 obtain rfl := Option.some.inj H
 go_enter Try.func45, Try.ntmps45
 go_wp2_with (first | ((with_reducible refine gate_dst (N := 1) rfl ?_); refine bx_ (w := w) (N := 1) (cs := #[.string a0_0, .int .i64 a0_1, .int .i64 a0_2, .int .i64 a0_3, .int .i64 a0_4, .int .i64 a0_5, .int .i64 a0_6, .int .i64 a0_7, .int .i64 a0_8]) (t := 68) ?_; intro gb246 w9 BK246 n0_ GW246 GE246; clear HB; have HB := n0_; clear n0_; have hcz10_0 : w9.cell? ⟨gb246, 0, none⟩ = some (.string a0_0) := (blk_cell BK246.out 0).trans rfl; have hcz10_1 : w9.cell? ⟨gb246, 1, none⟩ = some (.int .i64 a0_1) := (blk_cell BK246.out 1).trans rfl; have hcz10_2 : w9.cell? ⟨gb246, 2, none⟩ = some (.int .i64 a0_2) := (blk_cell BK246.out 2).trans rfl; have hcz10_3 : w9.cell? ⟨gb246, 3, none⟩ = some (.int .i64 a0_3) := (blk_cell BK246.out 3).trans rfl; have hcz10_4 : w9.cell? ⟨gb246, 4, none⟩ = some (.int .i64 a0_4) := (blk_cell BK246.out 4).trans rfl; have hcz10_5 : w9.cell? ⟨gb246, 5, none⟩ = some (.int .i64 a0_5) := (blk_cell BK246.out 5).trans rfl; have hcz10_6 : w9.cell? ⟨gb246, 6, none⟩ = some (.int .i64 a0_6) := (blk_cell BK246.out 6).trans rfl; have hcz10_7 : w9.cell? ⟨gb246, 7, none⟩ = some (.int .i64 a0_7) := (blk_cell BK246.out 7).trans rfl; have hcz10_8 : w9.cell? ⟨gb246, 8, none⟩ = some (.int .i64 a0_8) := (blk_cell BK246.out 8).trans rfl; have hfz10_0 := blk_frozen BK246.out 0; have hfz10_1 := blk_frozen BK246.out 1; have hfz10_2 := blk_frozen BK246.out 2; have hfz10_3 := blk_frozen BK246.out 3; have hfz10_4 := blk_frozen BK246.out 4; have hfz10_5 := blk_frozen BK246.out 5; have hfz10_6 := blk_frozen BK246.out 6; have hfz10_7 := blk_frozen BK246.out 7; have hfz10_8 := blk_frozen BK246.out 8) | ((with_reducible refine gate_callee (f := 56) rfl ?_); refine gl_ (some 5) Try.func56 #[.string a0_0] ?_; (with_reducible refine (computusref17_Identifier.calls k a0_0 true _ A2.out).mono ?_); rintro e w' ⟨rfl, ⟨nd, rfl⟩⟩; refine ⟨_, rfl, ?_⟩) | (go_at_call 57; (with_reducible refine (computusref16_Check.calls k a0_3 a0_4 a0_5 a0_6 a0_7 a0_8 t248 _ A8.out).mono ?_); rintro e w11 ⟨rfl, hb⟩; replace BK246 := bw_ BK246 hb; replace HB := bt_ hb; (try clear hb); (try clear hi)))
 go_ret
 exact rt_
mutual
def computusref17_Check.j0 : Nat → Bool → Int → List (S66) → List (S68) → Option (Bool)
 | 0, _, _, _, _ => none
 | k + 1, x33, x250000, x250001, x250002 => if x33 = true then (some false) else (computusref17_Check.l0 k ([] : List ByteArray) 0 x250000 x250001 x250002)
def computusref17_Check.l0 : Nat → List ByteArray → Int → Int → List (S66) → List (S68) → Option (Bool)
 | 0, _, _, _, _, _ => none
 | k + 1, x3, x4, x250000, x250001, x250002 => if x4 < (x250001.length : Int) then (if 0 ≤ x4 then ((computusref17_Season.f k ((rd_T66 x250001 x4).f0) ((rd_T66 x250001 x4).f1) ((rd_T66 x250001 x4).f2) ((rd_T66 x250001 x4).f3.f0) ((rd_T66 x250001 x4).f3.f1) ((rd_T66 x250001 x4).f3.f2) ((rd_T66 x250001 x4).f3.f3) ((rd_T66 x250001 x4).f3.f4) ((rd_T66 x250001 x4).f3.f5)).bind fun t251 => (if t251 = true then (if x3.length < 8796093022208 then (computusref17_Check.l0 k (x3 ++ [(rd_T66 x250001 x4).f0]) (wrap64 (x4 + 1)) x250000 x250001 x250002) else (none)) else (some false))) else (none)) else (computusref17_Check.l1 k x3 0 x250000 x250001 x250002)
def computusref17_Check.l1 : Nat → List ByteArray → Int → Int → List (S66) → List (S68) → Option (Bool)
 | 0, _, _, _, _, _ => none
 | k + 1, x3, x5, x250000, x250001, x250002 => if x5 < (x250002.length : Int) then (if 0 ≤ x5 then ((computusref17_Feast.f k ((rd_T68 x250002 x5).f0) ((rd_T68 x250002 x5).f1) ((rd_T68 x250002 x5).f2) ((rd_T68 x250002 x5).f3.f0) ((rd_T68 x250002 x5).f3.f1) ((rd_T68 x250002 x5).f3.f2) ((rd_T68 x250002 x5).f3.f3) ((rd_T68 x250002 x5).f3.f4) ((rd_T68 x250002 x5).f3.f5)).bind fun t257 => (if t257 = true then (if x3.length < 8796093022208 then (computusref17_Check.l1 k (x3 ++ [(rd_T68 x250002 x5).f0]) (wrap64 (x5 + 1)) x250000 x250001 x250002) else (none)) else (some false))) else (none)) else (computusref17_Check.l2 k x3 0)
def computusref17_Check.l2 : Nat → List ByteArray → Int → Option (Bool)
 | 0, _, _ => none
 | k + 1, x3, x6 => if x6 < (x3.length : Int) then (computusref17_Check.l3 k x3 x6 0) else (some true)
def computusref17_Check.l3 : Nat → List ByteArray → Int → Int → Option (Bool)
 | 0, _, _, _ => none
 | k + 1, x3, x6, x7 => if x7 < x6 then (if 0 ≤ x6 then (if x6 < (x3.length : Int) then (if 0 ≤ x7 then (if x7 < (x3.length : Int) then (if (rdOf ByteArray.empty x3 x6).toList = (rdOf ByteArray.empty x3 x7).toList then (some false) else (computusref17_Check.l3 k x3 x6 (wrap64 (x7 + 1)))) else (none)) else (none)) else (none)) else (none)) else (computusref17_Check.l2 k x3 (wrap64 (x6 + 1)))
end
def computusref17_Check.f (k : Nat) (a0_0 : Int) (l0_1 : List (S66)) (l0_2 : List (S68)) : Option (Bool) := if a0_0 < 0 then (computusref17_Check.j0 k true a0_0 l0_1 l0_2) else (if a0_0 > 9 then (computusref17_Check.j0 k true a0_0 l0_1 l0_2) else (if (l0_1.length : Int) < 1 then (computusref17_Check.j0 k true a0_0 l0_1 l0_2) else (if (l0_1.length : Int) > 20 then (computusref17_Check.j0 k true a0_0 l0_1 l0_2) else (computusref17_Check.j0 k (decide ((l0_2.length : Int) > 400)) a0_0 l0_1 l0_2))))
theorem computusref17_Check.calls (k : Nat) (a0_0 : Int) (A0_1 : Option Addr) (c0_1 : Nat) (l0_1 : List (S66)) (A0_2 : Option Addr) (c0_2 : Nat) (l0_2 : List (S68)) (r : Bool) (w : World) (hr0_1 : Kd.C k66 w A0_1 l0_1.length l0_1) (hc0_1 : l0_1.length ≤ c0_1) (hr0_2 : Kd.C k68 w A0_2 l0_2.length l0_2) (hc0_2 : l0_2.length ≤ c0_2) (h : computusref17_Check.f k a0_0 l0_1 l0_2 = some r) :
  Calls Try.prog 32 #[.agg #[.int .i64 a0_0, .slice A0_1 l0_1.length c0_1, .slice A0_2 l0_2.length c0_2]] w fun e w' => e = .returned (.bool r) ∧ Below w.heap.size w w' := by
 have hu36 := Try.underlying36
 have hu66 := Try.underlying66
 have hu68 := Try.underlying68
 have HR0_1 := am_ hr0_1
 have HC0_1 := am_ hc0_1
 clear hr0_1 hc0_1
 have HR0_2 := am_ hr0_2
 have HC0_2 := am_ hc0_2
 clear hr0_2 hc0_2
 have HB := am_ (Below.refl w.heap.size w)
 have H := h
 clear h
 unfold computusref17_Check.f at H
 have HC2 := am_ H
 clear H
 go_enter Try.func32, Try.ntmps32
 go_upto_region 1 with (first | ((with_reducible refine gate_dst (N := 1) rfl ?_); (try (refine gate_guard (by rfl) ?_; dsimp only)); refine bx_ (w := w) (N := 1) (cs := #[.int .i64 a0_0, .slice A0_1 l0_1.length c0_1, .slice A0_2 l0_2.length c0_2]) (t := 36) ?_; intro gb249 w3 BK249 n0_ GW249 GE249; clear HB; have HB := n0_; clear n0_))
 (try simp only [Act.put, sA_, sZ_, sS_])
 go_cut [33] (fun v33 wc => ∃ (kq : Nat) (x33_1 : Bool), v33 = .bool x33_1 ∧ Aside0 (computusref17_Check.j0 kq x33_1 a0_0 l0_1 l0_2 = some r) ∧ Aside0 (kq ≤ k) ∧ Aside0 (wc.heap[gb249]? = some (.cells #[.int .i64 a0_0, (.slice A0_1 l0_1.length c0_1), (.slice A0_2 l0_2.length c0_2)] 36 (0, 0))) ∧ Aside0 (Below w.heap.size w wc))
 case first =>
  have H := HC2.out
  clear HC2
  by_cases c4 : a0_0 < 0
  ·rw [if_pos c4] at H
   have c4b0 : decide (a0_0 < 0) = true := decide_eq_true c4
   clear c4
   (first | rw [c4b0] | (simp only [i64_w, i32_w]; rw [c4b0]) | skip)
   have H' := am_ H
   clear H
   obtain ⟨hcz5_0, hcz5_1, hcz5_2⟩ := cz3_ BK249.out
   obtain ⟨hfz5_0, hfz5_1, hfz5_2⟩ := fz3_ BK249.out
   go_wp2
   repeat (go_quiet (fail); try go_wp2)
   go_meet
   case rel => exact ⟨_, (true), rs_, H', ⟨by first | omega | exact Nat.le_refl _⟩, ⟨bk_ BK249.out⟩, ⟨bh_⟩⟩
  rw [if_neg c4] at H
  have c4b0 : decide (a0_0 < 0) = false := decide_eq_false c4
  clear c4
  (first | rw [c4b0] | (simp only [i64_w, i32_w]; rw [c4b0]) | skip)
  by_cases c6 : a0_0 > 9
  ·rw [if_pos c6] at H
   have c6b0 : decide (9 < a0_0) = true := decide_eq_true c6
   clear c6
   have H' := am_ H
   clear H
   obtain ⟨hcz7_0, hcz7_1, hcz7_2⟩ := cz3_ BK249.out
   obtain ⟨hfz7_0, hfz7_1, hfz7_2⟩ := fz3_ BK249.out
   go_wp2
   repeat (go_quiet (fail); try go_wp2)
   go_meet
   case rel => exact ⟨_, (true), rs_, H', ⟨by first | omega | exact Nat.le_refl _⟩, ⟨bk_ BK249.out⟩, ⟨bh_⟩⟩
  rw [if_neg c6] at H
  have c6b0 : decide (9 < a0_0) = false := decide_eq_false c6
  clear c6
  by_cases c8 : (l0_1.length : Int) < 1
  ·rw [if_pos c8] at H
   have c8b0 : decide ((l0_1.length : Int) < 1) = true := decide_eq_true c8
   have c8b1 : decide (l0_1.length < 1) = true := decide_eq_true (by omega)
   clear c8
   have H' := am_ H
   clear H
   obtain ⟨hcz9_0, hcz9_1, hcz9_2⟩ := cz3_ BK249.out
   obtain ⟨hfz9_0, hfz9_1, hfz9_2⟩ := fz3_ BK249.out
   go_wp2
   repeat (go_quiet (fail); try go_wp2)
   go_meet
   case rel => exact ⟨_, (true), rs_, H', ⟨by first | omega | exact Nat.le_refl _⟩, ⟨bk_ BK249.out⟩, ⟨bh_⟩⟩
  rw [if_neg c8] at H
  have c8b0 : decide ((l0_1.length : Int) < 1) = false := decide_eq_false c8
  have c8b1 : decide (l0_1.length < 1) = false := decide_eq_false (by omega)
  clear c8
  by_cases c10 : (l0_1.length : Int) > 20
  ·rw [if_pos c10] at H
   have c10b0 : decide (20 < (l0_1.length : Int)) = true := decide_eq_true c10
   have c10b1 : decide (20 < l0_1.length) = true := decide_eq_true (by omega)
   clear c10
   have H' := am_ H
   clear H
   obtain ⟨hcz11_0, hcz11_1, hcz11_2⟩ := cz3_ BK249.out
   obtain ⟨hfz11_0, hfz11_1, hfz11_2⟩ := fz3_ BK249.out
   go_wp2
   repeat (go_quiet (fail); try go_wp2)
   go_meet
   case rel => exact ⟨_, (true), rs_, H', ⟨by first | omega | exact Nat.le_refl _⟩, ⟨bk_ BK249.out⟩, ⟨bh_⟩⟩
  rw [if_neg c10] at H
  have c10b0 : decide (20 < (l0_1.length : Int)) = false := decide_eq_false c10
  have c10b1 : decide (20 < l0_1.length) = false := decide_eq_false (by omega)
  clear c10
  have H' := am_ H
  clear H
  obtain ⟨hcz12_0, hcz12_1, hcz12_2⟩ := cz3_ BK249.out
  obtain ⟨hfz12_0, hfz12_1, hfz12_2⟩ := fz3_ BK249.out
  go_wp2
  repeat (go_quiet (fail); try go_wp2)
  go_meet
  case rel => exact ⟨_, (decide ((l0_2.length : Int) > 400)), rs_, H', ⟨by first | omega | exact Nat.le_refl _⟩, ⟨bk_ BK249.out⟩, ⟨bh_⟩⟩
 case rest =>
  clear HC2
  obtain ⟨kq, x33_1, rfl, HA, HJ1, BK249, HB⟩ := hcut
  cases kq with
  | zero => exact absurd HA.out (by simp [computusref17_Check.j0])
  | succ kj1 =>
   have H := HA.out
   clear HA
   simp only [computusref17_Check.j0] at H
   by_cases c13 : x33_1 = true
   ·subst c13
    replace H := it_ H
    obtain rfl := Option.some.inj H
    go_wp2
    repeat (go_quiet (fail); try go_wp2)
    go_ret
    exact rt_
   replace c13 := Bool.eq_false_iff.mpr c13
   subst c13
   replace H := if_ H
   have H' := am_ H
   clear H
   go_wp2
   repeat (go_quiet (fail); try go_wp2)
   go_loopg [3, 4] kj1 (fun kq v3 v4 w' => ∃ (x3_2 : List ByteArray) (x4_2 : Int), v4 = .int .i64 x4_2 ∧ Aside0 (computusref17_Check.l0 kq x3_2 x4_2 a0_0 l0_1 l0_2 = some r) ∧ Aside0 (kq ≤ kj1) ∧ Aside0 (Kd.R Kd.string 9 w' w.heap.size (fun _ => True) v3 x3_2) ∧ Aside0 (w'.heap[gb249]? = some (.cells #[.int .i64 a0_0, (.slice A0_1 l0_1.length c0_1), (.slice A0_2 l0_2.length c0_2)] 36 (0, 0))) ∧ Aside0 (Below w.heap.size w w'))
   case atStart => exact ⟨(([] : List ByteArray)), (0), rs_, H', ⟨Nat.le_refl _⟩, ⟨nl_⟩, ⟨bk_ BK249.out⟩, ⟨bh_⟩⟩
   case round =>
    clear H'
    obtain ⟨x3_2, x4_2, rfl, HA, HK2, HO_3, BK249, HB⟩ := hrel
    cases gk with
    | zero => exact absurd HA.out (by simp [computusref17_Check.l0])
    | succ k2 =>
     have H := HA.out
     clear HA
     simp only [computusref17_Check.l0] at H
     by_cases c14 : x4_2 < (l0_1.length : Int)
     ·rw [if_pos c14] at H
      have c14b0 : decide (x4_2 < (l0_1.length : Int)) = true := decide_eq_true c14
      clear c14
      by_cases c15 : 0 ≤ x4_2
      rotate_left
      ·rw [if_neg c15] at H
       exact absurd H (by simp)
      rw [if_pos c15] at H
      have c15b0 : decide (0 ≤ x4_2) = true := decide_eq_true c15
      clear c15
      obtain ⟨t251, A16, H⟩ := bs_ H
      by_cases c17 : t251 = true
      rotate_left
      ·replace c17 := Bool.eq_false_iff.mpr c17
       subst c17
       replace H := if_ H
       obtain rfl := Option.some.inj H
       obtain ⟨hcz23_0, hcz23_1, hcz23_2⟩ := cz3_ BK249.out
       obtain ⟨hfz23_0, hfz23_1, hfz23_2⟩ := fz3_ BK249.out
       have p250 : 0 ≤ (x4_2 : Int) := of_decide_eq_true as_
       have q250 : x4_2 < (l0_1.length : Int) := of_decide_eq_true as_
       obtain ⟨ad250, e250, hx250_0, hx250_1, hx250_2, hx250_3, hx250_4, hx250_5, hx250_6, hx250_7, hx250_8⟩ := at_T66 HR0_1.out x4_2 p250 q250
       cases e250
       replace hx250_0 := cm_ HB.out hx250_0
       replace hx250_1 := cm_ HB.out hx250_1
       replace hx250_2 := cm_ HB.out hx250_2
       replace hx250_3 := cm_ HB.out hx250_3
       replace hx250_4 := cm_ HB.out hx250_4
       replace hx250_5 := cm_ HB.out hx250_5
       replace hx250_6 := cm_ HB.out hx250_6
       replace hx250_7 := cm_ HB.out hx250_7
       replace hx250_8 := cm_ HB.out hx250_8
       replace p250 := eq_true p250
       replace q250 := eq_true q250
       go_wp2_with (first | (go_at_call 44; (with_reducible refine (computusref17_Season.calls k2 ((rd_T66 l0_1 x4_2).f0) ((rd_T66 l0_1 x4_2).f1) ((rd_T66 l0_1 x4_2).f2) ((rd_T66 l0_1 x4_2).f3.f0) ((rd_T66 l0_1 x4_2).f3.f1) ((rd_T66 l0_1 x4_2).f3.f2) ((rd_T66 l0_1 x4_2).f3.f3) ((rd_T66 l0_1 x4_2).f3.f4) ((rd_T66 l0_1 x4_2).f3.f5) false _ A16.out).mono ?_); rintro e w24 ⟨rfl, hb⟩; replace HO_3 := am_ (Kd.R_below (rk_ HO_3.out) hb); replace BK249 := bw_ BK249 hb; replace HB := bt_ hb; (try clear hb); (try clear hi)))
       go_ret
       exact rt_
      subst c17
      replace H := it_ H
      by_cases c18 : x3_2.length < 8796093022208
      rotate_left
      ·rw [if_neg c18] at H
       exact absurd H (by simp)
      rw [if_pos c18] at H
      have LMc18 := am_ c18
      clear c18
      obtain ⟨y253, hy253⟩ : ∃ y_ : List ByteArray, y_ = (x3_2 ++ [(rd_T66 l0_1 x4_2).f0]) := ⟨_, rfl⟩
      replace H : (computusref17_Check.l0 k2 y253 (wrap64 (x4_2 + 1)) a0_0 l0_1 l0_2) = some r := by first | (rw [hy253]; with_reducible exact H) | (have H2_ := (Option.bind_some _ _).symm.trans H; rw [hy253]; with_reducible exact H2_) | (have H2_ := (Option.bind_some _ _).symm.trans H; with_reducible exact H2_) | with_reducible exact H | (rw [hy253]; exact H) | exact H
      have Ny253 := am_ hy253
      clear hy253
      have H' := am_ H
      clear H
      obtain ⟨hcz19_0, hcz19_1, hcz19_2⟩ := cz3_ BK249.out
      obtain ⟨hfz19_0, hfz19_1, hfz19_2⟩ := fz3_ BK249.out
      have p250 : 0 ≤ (x4_2 : Int) := of_decide_eq_true as_
      have q250 : x4_2 < (l0_1.length : Int) := of_decide_eq_true as_
      obtain ⟨ad250, e250, hx250_0, hx250_1, hx250_2, hx250_3, hx250_4, hx250_5, hx250_6, hx250_7, hx250_8⟩ := at_T66 HR0_1.out x4_2 p250 q250
      cases e250
      replace hx250_0 := cm_ HB.out hx250_0
      replace hx250_1 := cm_ HB.out hx250_1
      replace hx250_2 := cm_ HB.out hx250_2
      replace hx250_3 := cm_ HB.out hx250_3
      replace hx250_4 := cm_ HB.out hx250_4
      replace hx250_5 := cm_ HB.out hx250_5
      replace hx250_6 := cm_ HB.out hx250_6
      replace hx250_7 := cm_ HB.out hx250_7
      replace hx250_8 := cm_ HB.out hx250_8
      replace p250 := eq_true p250
      replace q250 := eq_true q250
      go_wp2_with (first | (go_at_call 44; (with_reducible refine (computusref17_Season.calls k2 ((rd_T66 l0_1 x4_2).f0) ((rd_T66 l0_1 x4_2).f1) ((rd_T66 l0_1 x4_2).f2) ((rd_T66 l0_1 x4_2).f3.f0) ((rd_T66 l0_1 x4_2).f3.f1) ((rd_T66 l0_1 x4_2).f3.f2) ((rd_T66 l0_1 x4_2).f3.f3) ((rd_T66 l0_1 x4_2).f3.f4) ((rd_T66 l0_1 x4_2).f3.f5) true _ A16.out).mono ?_); rintro e w20 ⟨rfl, hb⟩; replace HO_3 := am_ (Kd.R_below (rk_ HO_3.out) hb); replace BK249 := bw_ BK249 hb; replace HB := bt_ hb; (try clear hb); obtain ⟨hcz21_0, hcz21_1, hcz21_2⟩ := cz3_ BK249.out; obtain ⟨hfz21_0, hfz21_1, hfz21_2⟩ := fz3_ BK249.out; have p252 : 0 ≤ (x4_2 : Int) := of_decide_eq_true as_; have q252 : x4_2 < (l0_1.length : Int) := of_decide_eq_true as_; obtain ⟨ad252, e252, hx252_0, hx252_1, hx252_2, hx252_3, hx252_4, hx252_5, hx252_6, hx252_7, hx252_8⟩ := at_T66 HR0_1.out x4_2 p252 q252; obtain rfl : ad250 = ad252 := (by injection e252); replace hx252_0 := cm_ HB.out hx252_0; replace hx252_1 := cm_ HB.out hx252_1; replace hx252_2 := cm_ HB.out hx252_2; replace hx252_3 := cm_ HB.out hx252_3; replace hx252_4 := cm_ HB.out hx252_4; replace hx252_5 := cm_ HB.out hx252_5; replace hx252_6 := cm_ HB.out hx252_6; replace hx252_7 := cm_ HB.out hx252_7; replace hx252_8 := cm_ HB.out hx252_8; replace p252 := eq_true p252; replace q252 := eq_true q252) | ((with_reducible refine gate_builtin (b := .append) (xs := #[.tmp 48, .tmp 55]) rfl ?_); (try (refine gate_guard (by rfl) ?_; dsimp only)); at_builtin; refine Kd.R_append Kd.string (w0 := w) w.heap.size rfl (.tmp 48) (.tmp 55) 84 9 (.string ⟨#[]⟩) 16 rfl Try.underlying84 info9 rfl (by decide) (by omega) u3 x3_2 ((rd_T66 l0_1 x4_2).f0) [.string ((rd_T66 l0_1 x4_2).f0)] (fun _ => True) (fun _ => False) rfl rfl ?aP (fun _ hk => hk.elim) ?aF ?aO ?aB ?aS ?aL ?_; (case aP => exact rfl); (case aB => exact bh_); (case aF => exact (fun _ _ => trivial)); (case aO => exact (rk_ HO_3.out)); (case aS => exact bz_); (case aL => have := LMc18.out; omega); intro v254 w22 ho hb hg hat; rw [← Ny253.out] at ho; have n0_ := am_ (blk_grown (bk_ BK249.out) hg (Kd.R_ne HO_3.out BK249.out (by decide))); have n1_ := am_ (hb); have n2_ := am_ (ho); clear BK249; clear HB; clear HO_3; have BK249 := n0_; have HB := n1_; have HO255 := n2_; clear n0_ n1_ n2_; clear ho hb hg hat))
      go_roundg k2
      case measure => have := HJ1.out; have := HK2.out; omega
      case rel => exact ⟨(y253), (wrap64 (x4_2 + 1)), rs_, H', ⟨by have := HJ1.out; have := HK2.out; omega⟩, ⟨rk_ HO255.out⟩, ⟨bk_ BK249.out⟩, ⟨bh_⟩⟩
     rw [if_neg c14] at H
     have c14b0 : decide (x4_2 < (l0_1.length : Int)) = false := decide_eq_false c14
     clear c14
     have H' := am_ H
     clear H
     obtain ⟨hcz25_0, hcz25_1, hcz25_2⟩ := cz3_ BK249.out
     obtain ⟨hfz25_0, hfz25_1, hfz25_2⟩ := fz3_ BK249.out
     go_wp2
     repeat (go_quiet (fail); try go_wp2)
     go_loopg [3, 5] k2 (fun kq v3 v5 w' => ∃ (x3_3 : List ByteArray) (x5_3 : Int), v5 = .int .i64 x5_3 ∧ Aside0 (computusref17_Check.l1 kq x3_3 x5_3 a0_0 l0_1 l0_2 = some r) ∧ Aside0 (kq ≤ k2) ∧ Aside0 (Kd.R Kd.string 9 w' w.heap.size (fun _ => True) v3 x3_3) ∧ Aside0 (w'.heap[gb249]? = some (.cells #[.int .i64 a0_0, (.slice A0_1 l0_1.length c0_1), (.slice A0_2 l0_2.length c0_2)] 36 (0, 0))) ∧ Aside0 (Below w.heap.size w w'))
     case atStart => exact ⟨(x3_2), (0), rs_, H', ⟨Nat.le_refl _⟩, ⟨rk_ HO_3.out⟩, ⟨bk_ BK249.out⟩, ⟨bh_⟩⟩
     case round =>
      clear H'
      obtain ⟨x3_3, x5_3, rfl, HA, HK3, HO_3, BK249, HB⟩ := hrel
      cases gk with
      | zero => exact absurd HA.out (by simp [computusref17_Check.l1])
      | succ k3 =>
       have H := HA.out
       clear HA
       simp only [computusref17_Check.l1] at H
       by_cases c26 : x5_3 < (l0_2.length : Int)
       ·rw [if_pos c26] at H
        have c26b0 : decide (x5_3 < (l0_2.length : Int)) = true := decide_eq_true c26
        clear c26
        by_cases c27 : 0 ≤ x5_3
        rotate_left
        ·rw [if_neg c27] at H
         exact absurd H (by simp)
        rw [if_pos c27] at H
        have c27b0 : decide (0 ≤ x5_3) = true := decide_eq_true c27
        clear c27
        obtain ⟨t257, A28, H⟩ := bs_ H
        by_cases c29 : t257 = true
        rotate_left
        ·replace c29 := Bool.eq_false_iff.mpr c29
         subst c29
         replace H := if_ H
         obtain rfl := Option.some.inj H
         obtain ⟨hcz35_0, hcz35_1, hcz35_2⟩ := cz3_ BK249.out
         obtain ⟨hfz35_0, hfz35_1, hfz35_2⟩ := fz3_ BK249.out
         have p256 : 0 ≤ (x5_3 : Int) := of_decide_eq_true as_
         have q256 : x5_3 < (l0_2.length : Int) := of_decide_eq_true as_
         obtain ⟨ad256, e256, hx256_0, hx256_1, hx256_2, hx256_3, hx256_4, hx256_5, hx256_6, hx256_7, hx256_8⟩ := at_T68 HR0_2.out x5_3 p256 q256
         cases e256
         replace hx256_0 := cm_ HB.out hx256_0
         replace hx256_1 := cm_ HB.out hx256_1
         replace hx256_2 := cm_ HB.out hx256_2
         replace hx256_3 := cm_ HB.out hx256_3
         replace hx256_4 := cm_ HB.out hx256_4
         replace hx256_5 := cm_ HB.out hx256_5
         replace hx256_6 := cm_ HB.out hx256_6
         replace hx256_7 := cm_ HB.out hx256_7
         replace hx256_8 := cm_ HB.out hx256_8
         replace p256 := eq_true p256
         replace q256 := eq_true q256
         go_wp2_with (first | (go_at_call 45; (with_reducible refine (computusref17_Feast.calls k3 ((rd_T68 l0_2 x5_3).f0) ((rd_T68 l0_2 x5_3).f1) ((rd_T68 l0_2 x5_3).f2) ((rd_T68 l0_2 x5_3).f3.f0) ((rd_T68 l0_2 x5_3).f3.f1) ((rd_T68 l0_2 x5_3).f3.f2) ((rd_T68 l0_2 x5_3).f3.f3) ((rd_T68 l0_2 x5_3).f3.f4) ((rd_T68 l0_2 x5_3).f3.f5) false _ A28.out).mono ?_); rintro e w36 ⟨rfl, hb⟩; replace HO_3 := am_ (Kd.R_below (rk_ HO_3.out) hb); replace BK249 := bw_ BK249 hb; replace HB := bt_ hb; (try clear hb); (try clear hi)))
         go_ret
         exact rt_
        subst c29
        replace H := it_ H
        by_cases c30 : x3_3.length < 8796093022208
        rotate_left
        ·rw [if_neg c30] at H
         exact absurd H (by simp)
        rw [if_pos c30] at H
        have LMc30 := am_ c30
        clear c30
        obtain ⟨y259, hy259⟩ : ∃ y_ : List ByteArray, y_ = (x3_3 ++ [(rd_T68 l0_2 x5_3).f0]) := ⟨_, rfl⟩
        replace H : (computusref17_Check.l1 k3 y259 (wrap64 (x5_3 + 1)) a0_0 l0_1 l0_2) = some r := by first | (rw [hy259]; with_reducible exact H) | (have H2_ := (Option.bind_some _ _).symm.trans H; rw [hy259]; with_reducible exact H2_) | (have H2_ := (Option.bind_some _ _).symm.trans H; with_reducible exact H2_) | with_reducible exact H | (rw [hy259]; exact H) | exact H
        have Ny259 := am_ hy259
        clear hy259
        have H' := am_ H
        clear H
        obtain ⟨hcz31_0, hcz31_1, hcz31_2⟩ := cz3_ BK249.out
        obtain ⟨hfz31_0, hfz31_1, hfz31_2⟩ := fz3_ BK249.out
        have p256 : 0 ≤ (x5_3 : Int) := of_decide_eq_true as_
        have q256 : x5_3 < (l0_2.length : Int) := of_decide_eq_true as_
        obtain ⟨ad256, e256, hx256_0, hx256_1, hx256_2, hx256_3, hx256_4, hx256_5, hx256_6, hx256_7, hx256_8⟩ := at_T68 HR0_2.out x5_3 p256 q256
        cases e256
        replace hx256_0 := cm_ HB.out hx256_0
        replace hx256_1 := cm_ HB.out hx256_1
        replace hx256_2 := cm_ HB.out hx256_2
        replace hx256_3 := cm_ HB.out hx256_3
        replace hx256_4 := cm_ HB.out hx256_4
        replace hx256_5 := cm_ HB.out hx256_5
        replace hx256_6 := cm_ HB.out hx256_6
        replace hx256_7 := cm_ HB.out hx256_7
        replace hx256_8 := cm_ HB.out hx256_8
        replace p256 := eq_true p256
        replace q256 := eq_true q256
        go_wp2_with (first | (go_at_call 45; (with_reducible refine (computusref17_Feast.calls k3 ((rd_T68 l0_2 x5_3).f0) ((rd_T68 l0_2 x5_3).f1) ((rd_T68 l0_2 x5_3).f2) ((rd_T68 l0_2 x5_3).f3.f0) ((rd_T68 l0_2 x5_3).f3.f1) ((rd_T68 l0_2 x5_3).f3.f2) ((rd_T68 l0_2 x5_3).f3.f3) ((rd_T68 l0_2 x5_3).f3.f4) ((rd_T68 l0_2 x5_3).f3.f5) true _ A28.out).mono ?_); rintro e w32 ⟨rfl, hb⟩; replace HO_3 := am_ (Kd.R_below (rk_ HO_3.out) hb); replace BK249 := bw_ BK249 hb; replace HB := bt_ hb; (try clear hb); obtain ⟨hcz33_0, hcz33_1, hcz33_2⟩ := cz3_ BK249.out; obtain ⟨hfz33_0, hfz33_1, hfz33_2⟩ := fz3_ BK249.out; have p258 : 0 ≤ (x5_3 : Int) := of_decide_eq_true as_; have q258 : x5_3 < (l0_2.length : Int) := of_decide_eq_true as_; obtain ⟨ad258, e258, hx258_0, hx258_1, hx258_2, hx258_3, hx258_4, hx258_5, hx258_6, hx258_7, hx258_8⟩ := at_T68 HR0_2.out x5_3 p258 q258; obtain rfl : ad256 = ad258 := (by injection e258); replace hx258_0 := cm_ HB.out hx258_0; replace hx258_1 := cm_ HB.out hx258_1; replace hx258_2 := cm_ HB.out hx258_2; replace hx258_3 := cm_ HB.out hx258_3; replace hx258_4 := cm_ HB.out hx258_4; replace hx258_5 := cm_ HB.out hx258_5; replace hx258_6 := cm_ HB.out hx258_6; replace hx258_7 := cm_ HB.out hx258_7; replace hx258_8 := cm_ HB.out hx258_8; replace p258 := eq_true p258; replace q258 := eq_true q258) | ((with_reducible refine gate_builtin (b := .append) (xs := #[.tmp 71, .tmp 78]) rfl ?_); (try (refine gate_guard (by rfl) ?_; dsimp only)); at_builtin; refine Kd.R_append Kd.string (w0 := w) w.heap.size rfl (.tmp 71) (.tmp 78) 84 9 (.string ⟨#[]⟩) 16 rfl Try.underlying84 info9 rfl (by decide) (by omega) u3 x3_3 ((rd_T68 l0_2 x5_3).f0) [.string ((rd_T68 l0_2 x5_3).f0)] (fun _ => True) (fun _ => False) rfl rfl ?aP (fun _ hk => hk.elim) ?aF ?aO ?aB ?aS ?aL ?_; (case aP => exact rfl); (case aB => exact bh_); (case aF => exact (fun _ _ => trivial)); (case aO => exact (rk_ HO_3.out)); (case aS => exact bz_); (case aL => have := LMc30.out; omega); intro v260 w34 ho hb hg hat; rw [← Ny259.out] at ho; have n0_ := am_ (blk_grown (bk_ BK249.out) hg (Kd.R_ne HO_3.out BK249.out (by decide))); have n1_ := am_ (hb); have n2_ := am_ (ho); clear BK249; clear HB; clear HO_3; have BK249 := n0_; have HB := n1_; have HO261 := n2_; clear n0_ n1_ n2_; clear ho hb hg hat))
        go_roundg k3
        case measure => have := HJ1.out; have := HK2.out; have := HK3.out; omega
        case rel => exact ⟨(y259), (wrap64 (x5_3 + 1)), rs_, H', ⟨by have := HJ1.out; have := HK2.out; have := HK3.out; omega⟩, ⟨rk_ HO261.out⟩, ⟨bk_ BK249.out⟩, ⟨bh_⟩⟩
       rw [if_neg c26] at H
       have c26b0 : decide (x5_3 < (l0_2.length : Int)) = false := decide_eq_false c26
       clear c26
       have H' := am_ H
       clear H
       obtain ⟨hcz37_0, hcz37_1, hcz37_2⟩ := cz3_ BK249.out
       obtain ⟨hfz37_0, hfz37_1, hfz37_2⟩ := fz3_ BK249.out
       go_wp2
       repeat (go_quiet (fail); try go_wp2)
       go_loopg [6] k3 (fun kq v6 w' => ∃ (x6_4 : Int), v6 = .int .i64 x6_4 ∧ Aside0 (computusref17_Check.l2 kq x3_3 x6_4 = some r) ∧ Aside0 (kq ≤ k3) ∧ Aside0 (Kd.R Kd.string 9 w' w.heap.size (fun _ => True) u3 x3_3) ∧ Aside0 (w'.heap[gb249]? = some (.cells #[.int .i64 a0_0, (.slice A0_1 l0_1.length c0_1), (.slice A0_2 l0_2.length c0_2)] 36 (0, 0))) ∧ Aside0 (Below w.heap.size w w'))
       case atStart => exact ⟨(0), rs_, H', ⟨Nat.le_refl _⟩, ⟨rk_ HO_3.out⟩, ⟨bk_ BK249.out⟩, ⟨bh_⟩⟩
       case round =>
        clear H'
        obtain ⟨x6_4, rfl, HA, HK4, HO_3, BK249, HB⟩ := hrel
        cases gk with
        | zero => exact absurd HA.out (by simp [computusref17_Check.l2])
        | succ k4 =>
         have H := HA.out
         clear HA
         simp only [computusref17_Check.l2] at H
         by_cases c38 : x6_4 < (x3_3.length : Int)
         rotate_left
         ·rw [if_neg c38] at H
          have c38b0 : decide (x6_4 < (x3_3.length : Int)) = false := decide_eq_false c38
          clear c38
          obtain rfl := Option.some.inj H
          obtain ⟨Ao46, co46, eo46⟩ := Kd.R_slice HO_3.out
          subst eo46
          go_wp2
          repeat (go_quiet (fail); try go_wp2)
          go_ret
          exact rt_
         rw [if_pos c38] at H
         have c38b0 : decide (x6_4 < (x3_3.length : Int)) = true := decide_eq_true c38
         clear c38
         have H' := am_ H
         clear H
         obtain ⟨Ao39, co39, eo39⟩ := Kd.R_slice HO_3.out
         subst eo39
         go_wp2
         repeat (go_quiet (fail); try go_wp2)
         go_loopg [7] k4 (fun kq v7 w' => ∃ (x7_5 : Int), v7 = .int .i64 x7_5 ∧ Aside0 (computusref17_Check.l3 kq x3_3 x6_4 x7_5 = some r) ∧ Aside0 (kq ≤ k4) ∧ Aside0 (Kd.R Kd.string 9 w' w.heap.size (fun _ => True) (.slice Ao39 x3_3.length co39) x3_3) ∧ Aside0 (w'.heap[gb249]? = some (.cells #[.int .i64 a0_0, (.slice A0_1 l0_1.length c0_1), (.slice A0_2 l0_2.length c0_2)] 36 (0, 0))) ∧ Aside0 (Below w.heap.size w w'))
         case atStart => exact ⟨(0), rs_, H', ⟨Nat.le_refl _⟩, ⟨rk_ HO_3.out⟩, ⟨bk_ BK249.out⟩, ⟨bh_⟩⟩
         case round =>
          clear H'
          obtain ⟨x7_5, rfl, HA, HK5, HO_3, BK249, HB⟩ := hrel
          cases gk with
          | zero => exact absurd HA.out (by simp [computusref17_Check.l3])
          | succ k5 =>
           have H := HA.out
           clear HA
           simp only [computusref17_Check.l3] at H
           by_cases c40 : x7_5 < x6_4
           rotate_left
           ·rw [if_neg c40] at H
            have c40b0 : decide (x7_5 < x6_4) = false := decide_eq_false c40
            clear c40
            have H' := am_ H
            clear H
            go_wp2
            repeat (go_quiet (fail); try go_wp2)
            go_roundg k5
            case measure => have := HJ1.out; have := HK2.out; have := HK3.out; have := HK4.out; have := HK5.out; omega
            case rel => exact ⟨(wrap64 (x6_4 + 1)), rs_, H', ⟨by have := HJ1.out; have := HK2.out; have := HK3.out; have := HK4.out; have := HK5.out; omega⟩, ⟨rk_ HO_3.out⟩, ⟨bk_ BK249.out⟩, ⟨bh_⟩⟩
           rw [if_pos c40] at H
           have c40b0 : decide (x7_5 < x6_4) = true := decide_eq_true c40
           clear c40
           by_cases c41 : 0 ≤ x6_4
           rotate_left
           ·rw [if_neg c41] at H
            exact absurd H (by simp)
           rw [if_pos c41] at H
           have c41b0 : decide (0 ≤ x6_4) = true := decide_eq_true c41
           clear c41
           by_cases c42 : x6_4 < (x3_3.length : Int)
           rotate_left
           ·rw [if_neg c42] at H
            exact absurd H (by simp)
           rw [if_pos c42] at H
           have c42b0 : decide (x6_4 < (x3_3.length : Int)) = true := decide_eq_true c42
           clear c42
           by_cases c43 : 0 ≤ x7_5
           rotate_left
           ·rw [if_neg c43] at H
            exact absurd H (by simp)
           rw [if_pos c43] at H
           have c43b0 : decide (0 ≤ x7_5) = true := decide_eq_true c43
           clear c43
           by_cases c44 : x7_5 < (x3_3.length : Int)
           rotate_left
           ·rw [if_neg c44] at H
            exact absurd H (by simp)
           rw [if_pos c44] at H
           have c44b0 : decide (x7_5 < (x3_3.length : Int)) = true := decide_eq_true c44
           clear c44
           by_cases c45 : (rdOf ByteArray.empty x3_3 x6_4).toList = (rdOf ByteArray.empty x3_3 x7_5).toList
           ·rw [if_pos c45] at H
            have c45b0 : ((rdOf ByteArray.empty x3_3 x6_4).toList == (rdOf ByteArray.empty x3_3 x7_5).toList) = true := beq_iff_eq.mpr c45
            have c45b1 : ((rdOf ByteArray.empty x3_3 x6_4).toList != (rdOf ByteArray.empty x3_3 x7_5).toList) = false := bne_eq_false_iff_eq.mpr c45
            clear c45
            obtain rfl := Option.some.inj H
            have p262 : 0 ≤ (x6_4 : Int) := of_decide_eq_true as_
            have q262 : x6_4 < (x3_3.length : Int) := of_decide_eq_true as_
            obtain ⟨ad262, e262, hx262_0⟩ := Kd.at_string (Kd.R_reads' HO_3.out).2.2 x6_4 p262 q262
            cases e262
            replace p262 := eq_true p262
            replace q262 := eq_true q262
            have p263 : 0 ≤ (x7_5 : Int) := of_decide_eq_true as_
            have q263 : x7_5 < (x3_3.length : Int) := of_decide_eq_true as_
            obtain ⟨ad263, e263, hx263_0⟩ := Kd.at_string (Kd.R_reads' HO_3.out).2.2 x7_5 p263 q263
            obtain rfl : ad262 = ad263 := (by injection e263)
            replace p263 := eq_true p263
            replace q263 := eq_true q263
            go_wp2
            repeat (go_quiet (fail); try go_wp2)
            go_ret
            exact rt_
           rw [if_neg c45] at H
           have c45b0 : ((rdOf ByteArray.empty x3_3 x6_4).toList == (rdOf ByteArray.empty x3_3 x7_5).toList) = false := beq_eq_false_iff_ne.mpr c45
           have c45b1 : ((rdOf ByteArray.empty x3_3 x6_4).toList != (rdOf ByteArray.empty x3_3 x7_5).toList) = true := bne_iff_ne.mpr c45
           have H' := am_ H
           clear H
           have p262 : 0 ≤ (x6_4 : Int) := of_decide_eq_true as_
           have q262 : x6_4 < (x3_3.length : Int) := of_decide_eq_true as_
           obtain ⟨ad262, e262, hx262_0⟩ := Kd.at_string (Kd.R_reads' HO_3.out).2.2 x6_4 p262 q262
           cases e262
           replace p262 := eq_true p262
           replace q262 := eq_true q262
           have p263 : 0 ≤ (x7_5 : Int) := of_decide_eq_true as_
           have q263 : x7_5 < (x3_3.length : Int) := of_decide_eq_true as_
           obtain ⟨ad263, e263, hx263_0⟩ := Kd.at_string (Kd.R_reads' HO_3.out).2.2 x7_5 p263 q263
           obtain rfl : ad262 = ad263 := (by injection e263)
           replace p263 := eq_true p263
           replace q263 := eq_true q263
           go_wp2
           repeat (go_quiet (fail); try go_wp2)
           go_roundg k5
           case measure => have := HJ1.out; have := HK2.out; have := HK3.out; have := HK4.out; have := HK5.out; omega
           case rel => exact ⟨(wrap64 (x7_5 + 1)), rs_, H', ⟨by have := HJ1.out; have := HK2.out; have := HK3.out; have := HK4.out; have := HK5.out; omega⟩, ⟨rk_ HO_3.out⟩, ⟨bk_ BK249.out⟩, ⟨bh_⟩⟩
def computusref17_Right.f (k : Nat) (a0_0 : Int) (l0_1 : List (S66)) (l0_2 : List (S68)) : Option (Bool) := (computusref17_Few.f a0_0 l0_1 l0_2).bind fun t265 => (if t265 = true then ((computusref17_Check.f k a0_0 l0_1 l0_2).bind fun t266 => (some t266)) else (some false))
theorem computusref17_Right.calls (k : Nat) (a0_0 : Int) (A0_1 : Option Addr) (c0_1 : Nat) (l0_1 : List (S66)) (A0_2 : Option Addr) (c0_2 : Nat) (l0_2 : List (S68)) (r : Bool) (w : World) (hr0_1 : Kd.C k66 w A0_1 l0_1.length l0_1) (hc0_1 : l0_1.length ≤ c0_1) (hr0_2 : Kd.C k68 w A0_2 l0_2.length l0_2) (hc0_2 : l0_2.length ≤ c0_2) (h : computusref17_Right.f k a0_0 l0_1 l0_2 = some r) :
  Calls Try.prog 14 #[.agg #[.int .i64 a0_0, .slice A0_1 l0_1.length c0_1, .slice A0_2 l0_2.length c0_2]] w fun e w' => e = .returned (.bool r) ∧ Below w.heap.size w w' := by
 have hu36 := Try.underlying36
 have HR0_1 := am_ hr0_1
 have HC0_1 := am_ hc0_1
 clear hr0_1 hc0_1
 have HR0_2 := am_ hr0_2
 have HC0_2 := am_ hc0_2
 clear hr0_2 hc0_2
 have HB := am_ (Below.refl w.heap.size w)
 have H := h
 clear h
 unfold computusref17_Right.f at H
 obtain ⟨t265, A2, H⟩ := bs_ H
 by_cases c3 : t265 = true
 rotate_left
 ·replace c3 := Bool.eq_false_iff.mpr c3
  subst c3
  replace H := if_ H
  obtain rfl := Option.some.inj H
  go_enter Try.func14, Try.ntmps14
  go_wp2_with (first | ((with_reducible refine gate_dst (N := 1) rfl ?_); refine bx_ (w := w) (N := 1) (cs := #[.int .i64 a0_0, .slice A0_1 l0_1.length c0_1, .slice A0_2 l0_2.length c0_2]) (t := 36) ?_; intro gb264 w10 BK264 n0_ GW264 GE264; clear HB; have HB := n0_; clear n0_; obtain ⟨hcz11_0, hcz11_1, hcz11_2⟩ := cz3_ BK264.out; obtain ⟨hfz11_0, hfz11_1, hfz11_2⟩ := fz3_ BK264.out) | ((with_reducible refine gate_callee (f := 31) rfl ?_); refine gl_ (some 4) Try.func31 #[.agg #[.int .i64 a0_0, .slice A0_1 l0_1.length c0_1, .slice A0_2 l0_2.length c0_2]] ?_; (with_reducible refine (computusref17_Few.calls a0_0 _ _ l0_1 _ _ l0_2 false _ ?side1 ?side2 ?side3 ?side4 A2.out).mono ?_); (case side1 => exact ck_ (Kd.C_below HR0_1.out HB.out)); (case side2 => exact HC0_1.out); (case side3 => exact ck_ (Kd.C_below HR0_2.out HB.out)); (case side4 => exact HC0_2.out); rintro e w12 ⟨rfl, hb⟩; refine ⟨_, rfl, ?_⟩; replace BK264 := bw_ BK264 hb; replace HB := bt_ hb; (try clear hb); (try clear hi)))
  go_ret
  exact rt_
 subst c3
 replace H := it_ H
 obtain ⟨t266, A4, H⟩ := bs_ H
 obtain rfl := Option.some.inj H
 go_enter Try.func14, Try.ntmps14
 go_wp2_with (first | ((with_reducible refine gate_dst (N := 1) rfl ?_); refine bx_ (w := w) (N := 1) (cs := #[.int .i64 a0_0, .slice A0_1 l0_1.length c0_1, .slice A0_2 l0_2.length c0_2]) (t := 36) ?_; intro gb264 w5 BK264 n0_ GW264 GE264; clear HB; have HB := n0_; clear n0_; obtain ⟨hcz6_0, hcz6_1, hcz6_2⟩ := cz3_ BK264.out; obtain ⟨hfz6_0, hfz6_1, hfz6_2⟩ := fz3_ BK264.out) | ((with_reducible refine gate_callee (f := 31) rfl ?_); refine gl_ (some 4) Try.func31 #[.agg #[.int .i64 a0_0, .slice A0_1 l0_1.length c0_1, .slice A0_2 l0_2.length c0_2]] ?_; (with_reducible refine (computusref17_Few.calls a0_0 _ _ l0_1 _ _ l0_2 true _ ?side1 ?side2 ?side3 ?side4 A2.out).mono ?_); (case side1 => exact ck_ (Kd.C_below HR0_1.out HB.out)); (case side2 => exact HC0_1.out); (case side3 => exact ck_ (Kd.C_below HR0_2.out HB.out)); (case side4 => exact HC0_2.out); rintro e w7 ⟨rfl, hb⟩; refine ⟨_, rfl, ?_⟩; replace BK264 := bw_ BK264 hb; replace HB := bt_ hb; (try clear hb); obtain ⟨hcz8_0, hcz8_1, hcz8_2⟩ := cz3_ BK264.out; obtain ⟨hfz8_0, hfz8_1, hfz8_2⟩ := fz3_ BK264.out) | (go_at_call 32; (with_reducible refine (computusref17_Check.calls k a0_0 _ _ l0_1 _ _ l0_2 t266 _ ?side1 ?side2 ?side3 ?side4 A4.out).mono ?_); (case side1 => exact ck_ (Kd.C_below HR0_1.out HB.out)); (case side2 => exact HC0_1.out); (case side3 => exact ck_ (Kd.C_below HR0_2.out HB.out)); (case side4 => exact HC0_2.out); rintro e w9 ⟨rfl, hb⟩; replace BK264 := bw_ BK264 hb; replace HB := bt_ hb; (try clear hb); (try clear hi)))
 go_ret
 exact rt_
def computusref06_InGregorian.f (a0 : Int) : Option (Bool) := if a0 ≥ 1583 then (some (decide (a0 ≤ 1000000000))) else (some false)
theorem computusref06_InGregorian.calls (a0 : Int) (r : Bool) (w : World) (h : computusref06_InGregorian.f a0 = some r) :
  Calls Try.prog 33 #[.int .i64 a0] w fun e w' => e = .returned (.bool r) ∧ Drawn0 w w' := by
 have H := h
 clear h
 unfold computusref06_InGregorian.f at H
 by_cases c2 : a0 ≥ 1583
 ·rw [if_pos c2] at H
  have c2b0 : decide (1583 ≤ a0) = true := decide_eq_true c2
  clear c2
  obtain rfl := Option.some.inj H
  go_enter Try.func33, Try.ntmps33
  go_wp2
  go_ret
  exact ⟨by first | rfl | (simp; done) | (simp [*]; done), by repeat (first | exact Drawn0.refl _ | apply Drawn0.step)⟩
 rw [if_neg c2] at H
 have c2b0 : decide (1583 ≤ a0) = false := decide_eq_false c2
 clear c2
 obtain rfl := Option.some.inj H
 go_enter Try.func33, Try.ntmps33
 go_wp2
 go_ret
 exact ⟨by first | rfl | (simp; done) | (simp [*]; done), by repeat (first | exact Drawn0.refl _ | apply Drawn0.step)⟩
def computusref18_Fails.f (k : Nat) (a0_0 : Int) (l0_1 : List (S66)) (l0_2 : List (S68)) (a1 : Int) (a2 : Int) : Option (Int) := (computusref17_Check.f k a0_0 l0_1 l0_2).bind fun t268 => (if t268 = true then ((computusref06_InGregorian.f a1).bind fun t269 => (if t269 = true then ((computusref03_First.f a1).bind fun t270 => (if a2 < t270 then (some 2) else ((computusref03_First.f (wrap64 (a1 + 1))).bind fun t271 => (if a2 ≥ t271 then (some 2) else (some 0))))) else (some 1))) else (some 4))
theorem computusref18_Fails.calls (k : Nat) (a0_0 : Int) (A0_1 : Option Addr) (c0_1 : Nat) (l0_1 : List (S66)) (A0_2 : Option Addr) (c0_2 : Nat) (l0_2 : List (S68)) (a1 : Int) (a2 : Int) (r : Int) (w : World) (hr0_1 : Kd.C k66 w A0_1 l0_1.length l0_1) (hc0_1 : l0_1.length ≤ c0_1) (hr0_2 : Kd.C k68 w A0_2 l0_2.length l0_2) (hc0_2 : l0_2.length ≤ c0_2) (h : computusref18_Fails.f k a0_0 l0_1 l0_2 a1 a2 = some r) :
  Calls Try.prog 15 #[.agg #[.int .i64 a0_0, .slice A0_1 l0_1.length c0_1, .slice A0_2 l0_2.length c0_2], .int .i64 a1, .int .i64 a2] w fun e w' => e = .returned (.int .i64 r) ∧ Below w.heap.size w w' := by
 have hu36 := Try.underlying36
 have HR0_1 := am_ hr0_1
 have HC0_1 := am_ hc0_1
 clear hr0_1 hc0_1
 have HR0_2 := am_ hr0_2
 have HC0_2 := am_ hc0_2
 clear hr0_2 hc0_2
 have HB := am_ (Below.refl w.heap.size w)
 have H := h
 clear h
 unfold computusref18_Fails.f at H
 obtain ⟨t268, A4, H⟩ := bs_ H
 by_cases c5 : t268 = true
 rotate_left
 ·replace c5 := Bool.eq_false_iff.mpr c5
  subst c5
  replace H := if_ H
  obtain rfl := Option.some.inj H
  go_enter Try.func15, Try.ntmps15
  go_wp2_with (first | ((with_reducible refine gate_dst (N := 3) rfl ?_); refine bx_ (w := w) (N := 3) (cs := #[.int .i64 a0_0, .slice A0_1 l0_1.length c0_1, .slice A0_2 l0_2.length c0_2]) (t := 36) ?_; intro gb267 w24 BK267 n0_ GW267 GE267; clear HB; have HB := n0_; clear n0_; obtain ⟨hcz25_0, hcz25_1, hcz25_2⟩ := cz3_ BK267.out; obtain ⟨hfz25_0, hfz25_1, hfz25_2⟩ := fz3_ BK267.out) | ((with_reducible refine gate_callee (f := 32) rfl ?_); refine gl_ (some 8) Try.func32 #[.agg #[.int .i64 a0_0, .slice A0_1 l0_1.length c0_1, .slice A0_2 l0_2.length c0_2]] ?_; (with_reducible refine (computusref17_Check.calls k a0_0 _ _ l0_1 _ _ l0_2 false _ ?side1 ?side2 ?side3 ?side4 A4.out).mono ?_); (case side1 => exact ck_ (Kd.C_below HR0_1.out HB.out)); (case side2 => exact HC0_1.out); (case side3 => exact ck_ (Kd.C_below HR0_2.out HB.out)); (case side4 => exact HC0_2.out); rintro e w26 ⟨rfl, hb⟩; refine ⟨_, rfl, ?_⟩; replace BK267 := bw_ BK267 hb; replace HB := bt_ hb; (try clear hb); (try clear hi)))
  go_ret
  exact rt_
 subst c5
 replace H := it_ H
 obtain ⟨t269, A6, H⟩ := bs_ H
 by_cases c7 : t269 = true
 rotate_left
 ·replace c7 := Bool.eq_false_iff.mpr c7
  subst c7
  replace H := if_ H
  obtain rfl := Option.some.inj H
  go_enter Try.func15, Try.ntmps15
  go_wp2_with (first | ((with_reducible refine gate_dst (N := 3) rfl ?_); refine bx_ (w := w) (N := 3) (cs := #[.int .i64 a0_0, .slice A0_1 l0_1.length c0_1, .slice A0_2 l0_2.length c0_2]) (t := 36) ?_; intro gb267 w21 BK267 n0_ GW267 GE267; clear HB; have HB := n0_; clear n0_; obtain ⟨hcz22_0, hcz22_1, hcz22_2⟩ := cz3_ BK267.out; obtain ⟨hfz22_0, hfz22_1, hfz22_2⟩ := fz3_ BK267.out) | ((with_reducible refine gate_callee (f := 32) rfl ?_); refine gl_ (some 8) Try.func32 #[.agg #[.int .i64 a0_0, .slice A0_1 l0_1.length c0_1, .slice A0_2 l0_2.length c0_2]] ?_; (with_reducible refine (computusref17_Check.calls k a0_0 _ _ l0_1 _ _ l0_2 true _ ?side1 ?side2 ?side3 ?side4 A4.out).mono ?_); (case side1 => exact ck_ (Kd.C_below HR0_1.out HB.out)); (case side2 => exact HC0_1.out); (case side3 => exact ck_ (Kd.C_below HR0_2.out HB.out)); (case side4 => exact HC0_2.out); rintro e w23 ⟨rfl, hb⟩; refine ⟨_, rfl, ?_⟩; replace BK267 := bw_ BK267 hb; replace HB := bt_ hb; (try clear hb); (try clear hi)) | ((with_reducible refine gate_callee (f := 33) rfl ?_); refine gl_ (some 11) Try.func33 #[.int .i64 a1] ?_; (with_reducible refine (computusref06_InGregorian.calls a1 false _ A6.out).mono ?_); rintro e w' ⟨rfl, ⟨nd, rfl⟩⟩; refine ⟨_, rfl, ?_⟩))
  go_ret
  exact rt_
 subst c7
 replace H := it_ H
 obtain ⟨t270, A8, H⟩ := bs_ H
 by_cases c9 : a2 < t270
 ·rw [if_pos c9] at H
  have c9b0 : decide (a2 < t270) = true := decide_eq_true c9
  clear c9
  obtain rfl := Option.some.inj H
  go_enter Try.func15, Try.ntmps15
  go_wp2_with (first | ((with_reducible refine gate_dst (N := 3) rfl ?_); refine bx_ (w := w) (N := 3) (cs := #[.int .i64 a0_0, .slice A0_1 l0_1.length c0_1, .slice A0_2 l0_2.length c0_2]) (t := 36) ?_; intro gb267 w10 BK267 n0_ GW267 GE267; clear HB; have HB := n0_; clear n0_; obtain ⟨hcz11_0, hcz11_1, hcz11_2⟩ := cz3_ BK267.out; obtain ⟨hfz11_0, hfz11_1, hfz11_2⟩ := fz3_ BK267.out) | ((with_reducible refine gate_callee (f := 32) rfl ?_); refine gl_ (some 8) Try.func32 #[.agg #[.int .i64 a0_0, .slice A0_1 l0_1.length c0_1, .slice A0_2 l0_2.length c0_2]] ?_; (with_reducible refine (computusref17_Check.calls k a0_0 _ _ l0_1 _ _ l0_2 true _ ?side1 ?side2 ?side3 ?side4 A4.out).mono ?_); (case side1 => exact ck_ (Kd.C_below HR0_1.out HB.out)); (case side2 => exact HC0_1.out); (case side3 => exact ck_ (Kd.C_below HR0_2.out HB.out)); (case side4 => exact HC0_2.out); rintro e w12 ⟨rfl, hb⟩; refine ⟨_, rfl, ?_⟩; replace BK267 := bw_ BK267 hb; replace HB := bt_ hb; (try clear hb); (try clear hi)) | ((with_reducible refine gate_callee (f := 33) rfl ?_); refine gl_ (some 11) Try.func33 #[.int .i64 a1] ?_; (with_reducible refine (computusref06_InGregorian.calls a1 true _ A6.out).mono ?_); rintro e w' ⟨rfl, ⟨nd, rfl⟩⟩; refine ⟨_, rfl, ?_⟩) | ((with_reducible refine gate_callee (f := 34) rfl ?_); refine gl_ (some 15) Try.func34 #[.int .i64 a1] ?_; (with_reducible refine (computusref03_First.calls a1 t270 _ A8.out).mono ?_); rintro e w' ⟨rfl, ⟨nd, rfl⟩⟩; refine ⟨_, rfl, ?_⟩))
  go_ret
  exact rt_
 rw [if_neg c9] at H
 have c9b0 : decide (a2 < t270) = false := decide_eq_false c9
 clear c9
 obtain ⟨t271, A13, H⟩ := bs_ H
 by_cases c14 : a2 ≥ t271
 ·rw [if_pos c14] at H
  have c14b0 : decide (t271 ≤ a2) = true := decide_eq_true c14
  clear c14
  obtain rfl := Option.some.inj H
  go_enter Try.func15, Try.ntmps15
  go_wp2_with (first | ((with_reducible refine gate_dst (N := 3) rfl ?_); refine bx_ (w := w) (N := 3) (cs := #[.int .i64 a0_0, .slice A0_1 l0_1.length c0_1, .slice A0_2 l0_2.length c0_2]) (t := 36) ?_; intro gb267 w15 BK267 n0_ GW267 GE267; clear HB; have HB := n0_; clear n0_; obtain ⟨hcz16_0, hcz16_1, hcz16_2⟩ := cz3_ BK267.out; obtain ⟨hfz16_0, hfz16_1, hfz16_2⟩ := fz3_ BK267.out) | ((with_reducible refine gate_callee (f := 32) rfl ?_); refine gl_ (some 8) Try.func32 #[.agg #[.int .i64 a0_0, .slice A0_1 l0_1.length c0_1, .slice A0_2 l0_2.length c0_2]] ?_; (with_reducible refine (computusref17_Check.calls k a0_0 _ _ l0_1 _ _ l0_2 true _ ?side1 ?side2 ?side3 ?side4 A4.out).mono ?_); (case side1 => exact ck_ (Kd.C_below HR0_1.out HB.out)); (case side2 => exact HC0_1.out); (case side3 => exact ck_ (Kd.C_below HR0_2.out HB.out)); (case side4 => exact HC0_2.out); rintro e w17 ⟨rfl, hb⟩; refine ⟨_, rfl, ?_⟩; replace BK267 := bw_ BK267 hb; replace HB := bt_ hb; (try clear hb); (try clear hi)) | ((with_reducible refine gate_callee (f := 33) rfl ?_); refine gl_ (some 11) Try.func33 #[.int .i64 a1] ?_; (with_reducible refine (computusref06_InGregorian.calls a1 true _ A6.out).mono ?_); rintro e w' ⟨rfl, ⟨nd, rfl⟩⟩; refine ⟨_, rfl, ?_⟩) | ((with_reducible refine gate_callee (f := 34) rfl ?_); refine gl_ (some 15) Try.func34 #[.int .i64 a1] ?_; (with_reducible refine (computusref03_First.calls a1 t270 _ A8.out).mono ?_); rintro e w' ⟨rfl, ⟨nd, rfl⟩⟩; refine ⟨_, rfl, ?_⟩) | (go_at_call 34; (with_reducible refine (computusref03_First.calls (wrap64 (a1 + 1)) t271 _ A13.out).mono ?_); rintro e w' ⟨rfl, ⟨nd, rfl⟩⟩))
  go_ret
  exact rt_
 rw [if_neg c14] at H
 have c14b0 : decide (t271 ≤ a2) = false := decide_eq_false c14
 clear c14
 obtain rfl := Option.some.inj H
 go_enter Try.func15, Try.ntmps15
 go_wp2_with (first | ((with_reducible refine gate_dst (N := 3) rfl ?_); refine bx_ (w := w) (N := 3) (cs := #[.int .i64 a0_0, .slice A0_1 l0_1.length c0_1, .slice A0_2 l0_2.length c0_2]) (t := 36) ?_; intro gb267 w18 BK267 n0_ GW267 GE267; clear HB; have HB := n0_; clear n0_; obtain ⟨hcz19_0, hcz19_1, hcz19_2⟩ := cz3_ BK267.out; obtain ⟨hfz19_0, hfz19_1, hfz19_2⟩ := fz3_ BK267.out) | ((with_reducible refine gate_callee (f := 32) rfl ?_); refine gl_ (some 8) Try.func32 #[.agg #[.int .i64 a0_0, .slice A0_1 l0_1.length c0_1, .slice A0_2 l0_2.length c0_2]] ?_; (with_reducible refine (computusref17_Check.calls k a0_0 _ _ l0_1 _ _ l0_2 true _ ?side1 ?side2 ?side3 ?side4 A4.out).mono ?_); (case side1 => exact ck_ (Kd.C_below HR0_1.out HB.out)); (case side2 => exact HC0_1.out); (case side3 => exact ck_ (Kd.C_below HR0_2.out HB.out)); (case side4 => exact HC0_2.out); rintro e w20 ⟨rfl, hb⟩; refine ⟨_, rfl, ?_⟩; replace BK267 := bw_ BK267 hb; replace HB := bt_ hb; (try clear hb); (try clear hi)) | ((with_reducible refine gate_callee (f := 33) rfl ?_); refine gl_ (some 11) Try.func33 #[.int .i64 a1] ?_; (with_reducible refine (computusref06_InGregorian.calls a1 true _ A6.out).mono ?_); rintro e w' ⟨rfl, ⟨nd, rfl⟩⟩; refine ⟨_, rfl, ?_⟩) | ((with_reducible refine gate_callee (f := 34) rfl ?_); refine gl_ (some 15) Try.func34 #[.int .i64 a1] ?_; (with_reducible refine (computusref03_First.calls a1 t270 _ A8.out).mono ?_); rintro e w' ⟨rfl, ⟨nd, rfl⟩⟩; refine ⟨_, rfl, ?_⟩) | (go_at_call 34; (with_reducible refine (computusref03_First.calls (wrap64 (a1 + 1)) t271 _ A13.out).mono ?_); rintro e w' ⟨rfl, ⟨nd, rfl⟩⟩))
 go_ret
 exact rt_
mutual
def computusref18_In.l0 : Nat → List Int → Int → Int → Int → Int → Option (Int × Int)
 | 0, _, _, _, _, _ => none
 | k + 1, x0, x1, x6, x7, x8 => if x8 < (x0.length : Int) then (if 0 ≤ x8 then (if (rd x0 x8) ≤ x1 then (if (rd x0 x8) ≥ x7 then (computusref18_In.l0 k x0 x1 x8 (rd x0 x8) (wrap64 (x8 + 1))) else (computusref18_In.l0 k x0 x1 x6 x7 (wrap64 (x8 + 1)))) else (computusref18_In.l0 k x0 x1 x6 x7 (wrap64 (x8 + 1)))) else (none)) else (if x6 ≥ 0 then (some (x6, x7)) else (computusref18_In.l1 k x0 x6 0 0))
def computusref18_In.l1 : Nat → List Int → Int → Int → Int → Option (Int × Int)
 | 0, _, _, _, _ => none
 | k + 1, x0, x6, x9, x10 => if x10 < (x0.length : Int) then (if 0 ≤ x10 then (if (rd x0 x10) ≥ x9 then (computusref18_In.l1 k x0 x10 (rd x0 x10) (wrap64 (x10 + 1))) else (computusref18_In.l1 k x0 x6 x9 (wrap64 (x10 + 1)))) else (none)) else (some (x6, 0))
end
def computusref18_In.f (k : Nat) (l0 : List Int) (a1 : Int) : Option (Int × Int) := computusref18_In.l0 k l0 a1 (-1) 0 0
theorem computusref18_In.calls (k : Nat) (A0 : Option Addr) (c0 : Nat) (l0 : List Int) (a1 : Int) (r1 : Int) (r2 : Int) (w : World) (hr0 : Kd.C (Kd.int .i64) w A0 l0.length l0) (hc0 : l0.length ≤ c0) (h : computusref18_In.f k l0 a1 = some (r1, r2)) :
  Calls Try.prog 46 #[.slice A0 l0.length c0, .int .i64 a1] w fun e w' => e = .returned (.tuple #[.int .i64 r1, .int .i64 r2]) ∧ Drawn0 w w' := by
 have HR0 := am_ hr0
 have HC0 := am_ hc0
 clear hr0 hc0
 have H := h
 clear h
 unfold computusref18_In.f at H
 have H' := am_ H
 clear H
 go_enter Try.func46, Try.ntmps46
 go_wp2
 go_loopg [6, 7, 8] k (fun kq v6 v7 v8 w' => ∃ (x6_1 : Int) (x7_1 : Int) (x8_1 : Int), v6 = .int .i64 x6_1 ∧ v7 = .int .i64 x7_1 ∧ v8 = .int .i64 x8_1 ∧ Aside0 (computusref18_In.l0 kq l0 a1 x6_1 x7_1 x8_1 = some (r1, r2)) ∧ Aside0 (kq ≤ k) ∧ Drawn0 w w')
 case atStart => exact ⟨((-1)), (0), (0), rs_, rs_, rs_, H', ⟨Nat.le_refl _⟩, by repeat (first | exact Drawn0.refl _ | apply Drawn0.step)⟩
 case round =>
  clear H'
  obtain ⟨x6_1, x7_1, x8_1, rfl, rfl, rfl, HA, HK1, ⟨m1, rfl⟩⟩ := hrel
  cases gk with
  | zero => exact absurd HA.out (by simp [computusref18_In.l0])
  | succ k1 =>
   have H := HA.out
   clear HA
   simp only [computusref18_In.l0] at H
   by_cases c3 : x8_1 < (l0.length : Int)
   ·rw [if_pos c3] at H
    have c3b0 : decide (x8_1 < (l0.length : Int)) = true := decide_eq_true c3
    clear c3
    by_cases c4 : 0 ≤ x8_1
    rotate_left
    ·rw [if_neg c4] at H
     exact absurd H (by simp)
    rw [if_pos c4] at H
    have c4b0 : decide (0 ≤ x8_1) = true := decide_eq_true c4
    clear c4
    by_cases c5 : (rd l0 x8_1) ≤ a1
    rotate_left
    ·rw [if_neg c5] at H
     have c5b0 : decide ((rd l0 x8_1) ≤ a1) = false := decide_eq_false c5
     clear c5
     have H' := am_ H
     clear H
     have p272 : 0 ≤ (x8_1 : Int) := of_decide_eq_true as_
     have q272 : x8_1 < (l0.length : Int) := of_decide_eq_true as_
     obtain ⟨ad272, e272, hx272_0⟩ := Kd.at_int HR0.out x8_1 p272 q272
     cases e272
     replace p272 := eq_true p272
     replace q272 := eq_true q272
     go_wp2
     go_roundg k1
     case measure => have := HK1.out; omega
     case rel => exact ⟨(x6_1), (x7_1), (wrap64 (x8_1 + 1)), rs_, rs_, rs_, H', ⟨by have := HK1.out; omega⟩, by repeat (first | exact Drawn0.refl _ | apply Drawn0.step)⟩
    rw [if_pos c5] at H
    have c5b0 : decide ((rd l0 x8_1) ≤ a1) = true := decide_eq_true c5
    clear c5
    by_cases c6 : (rd l0 x8_1) ≥ x7_1
    rotate_left
    ·rw [if_neg c6] at H
     have c6b0 : decide (x7_1 ≤ (rd l0 x8_1)) = false := decide_eq_false c6
     clear c6
     have H' := am_ H
     clear H
     have p272 : 0 ≤ (x8_1 : Int) := of_decide_eq_true as_
     have q272 : x8_1 < (l0.length : Int) := of_decide_eq_true as_
     obtain ⟨ad272, e272, hx272_0⟩ := Kd.at_int HR0.out x8_1 p272 q272
     cases e272
     replace p272 := eq_true p272
     replace q272 := eq_true q272
     have p273 : 0 ≤ (x8_1 : Int) := of_decide_eq_true as_
     have q273 : x8_1 < (l0.length : Int) := of_decide_eq_true as_
     obtain ⟨ad273, e273, hx273_0⟩ := Kd.at_int HR0.out x8_1 p273 q273
     obtain rfl : ad272 = ad273 := (by injection e273)
     replace p273 := eq_true p273
     replace q273 := eq_true q273
     go_wp2
     go_roundg k1
     case measure => have := HK1.out; omega
     case rel => exact ⟨(x6_1), (x7_1), (wrap64 (x8_1 + 1)), rs_, rs_, rs_, H', ⟨by have := HK1.out; omega⟩, by repeat (first | exact Drawn0.refl _ | apply Drawn0.step)⟩
    rw [if_pos c6] at H
    have c6b0 : decide (x7_1 ≤ (rd l0 x8_1)) = true := decide_eq_true c6
    clear c6
    have H' := am_ H
    clear H
    have p272 : 0 ≤ (x8_1 : Int) := of_decide_eq_true as_
    have q272 : x8_1 < (l0.length : Int) := of_decide_eq_true as_
    obtain ⟨ad272, e272, hx272_0⟩ := Kd.at_int HR0.out x8_1 p272 q272
    cases e272
    replace p272 := eq_true p272
    replace q272 := eq_true q272
    have p273 : 0 ≤ (x8_1 : Int) := of_decide_eq_true as_
    have q273 : x8_1 < (l0.length : Int) := of_decide_eq_true as_
    obtain ⟨ad273, e273, hx273_0⟩ := Kd.at_int HR0.out x8_1 p273 q273
    obtain rfl : ad272 = ad273 := (by injection e273)
    replace p273 := eq_true p273
    replace q273 := eq_true q273
    have p274 : 0 ≤ (x8_1 : Int) := of_decide_eq_true as_
    have q274 : x8_1 < (l0.length : Int) := of_decide_eq_true as_
    obtain ⟨ad274, e274, hx274_0⟩ := Kd.at_int HR0.out x8_1 p274 q274
    obtain rfl : ad272 = ad274 := (by injection e274)
    replace p274 := eq_true p274
    replace q274 := eq_true q274
    go_wp2
    go_roundg k1
    case measure => have := HK1.out; omega
    case rel => exact ⟨(x8_1), (rd l0 x8_1), (wrap64 (x8_1 + 1)), rs_, rs_, rs_, H', ⟨by have := HK1.out; omega⟩, by repeat (first | exact Drawn0.refl _ | apply Drawn0.step)⟩
   rw [if_neg c3] at H
   have c3b0 : decide (x8_1 < (l0.length : Int)) = false := decide_eq_false c3
   clear c3
   by_cases c7 : x6_1 ≥ 0
   ·rw [if_pos c7] at H
    have c7b0 : decide (0 ≤ x6_1) = true := decide_eq_true c7
    clear c7
    simp only [Option.some.injEq, Prod.mk.injEq] at H
    obtain ⟨rfl, rfl⟩ := H
    go_wp2
    go_ret2
    exact ⟨by first | rfl | (simp; done) | (simp [*]; done), by repeat (first | exact Drawn0.refl _ | apply Drawn0.step)⟩
   rw [if_neg c7] at H
   have c7b0 : decide (0 ≤ x6_1) = false := decide_eq_false c7
   clear c7
   have H' := am_ H
   clear H
   go_wp2
   go_loopg [6, 9, 10] k1 (fun kq v6 v9 v10 w' => ∃ (x6_2 : Int) (x9_2 : Int) (x10_2 : Int), v6 = .int .i64 x6_2 ∧ v9 = .int .i64 x9_2 ∧ v10 = .int .i64 x10_2 ∧ Aside0 (computusref18_In.l1 kq l0 x6_2 x9_2 x10_2 = some (r1, r2)) ∧ Aside0 (kq ≤ k1) ∧ Drawn0 w w')
   case atStart => exact ⟨(x6_1), (0), (0), rs_, rs_, rs_, H', ⟨Nat.le_refl _⟩, by repeat (first | exact Drawn0.refl _ | apply Drawn0.step)⟩
   case round =>
    clear H'
    obtain ⟨x6_2, x9_2, x10_2, rfl, rfl, rfl, HA, HK2, ⟨m2, rfl⟩⟩ := hrel
    cases gk with
    | zero => exact absurd HA.out (by simp [computusref18_In.l1])
    | succ k2 =>
     have H := HA.out
     clear HA
     simp only [computusref18_In.l1] at H
     by_cases c8 : x10_2 < (l0.length : Int)
     rotate_left
     ·rw [if_neg c8] at H
      have c8b0 : decide (x10_2 < (l0.length : Int)) = false := decide_eq_false c8
      clear c8
      simp only [Option.some.injEq, Prod.mk.injEq] at H
      obtain ⟨rfl, rfl⟩ := H
      go_wp2
      go_ret2
      exact ⟨by first | rfl | (simp; done) | (simp [*]; done), by repeat (first | exact Drawn0.refl _ | apply Drawn0.step)⟩
     rw [if_pos c8] at H
     have c8b0 : decide (x10_2 < (l0.length : Int)) = true := decide_eq_true c8
     clear c8
     by_cases c9 : 0 ≤ x10_2
     rotate_left
     ·rw [if_neg c9] at H
      exact absurd H (by simp)
     rw [if_pos c9] at H
     have c9b0 : decide (0 ≤ x10_2) = true := decide_eq_true c9
     clear c9
     by_cases c10 : (rd l0 x10_2) ≥ x9_2
     rotate_left
     ·rw [if_neg c10] at H
      have c10b0 : decide (x9_2 ≤ (rd l0 x10_2)) = false := decide_eq_false c10
      clear c10
      have H' := am_ H
      clear H
      have p275 : 0 ≤ (x10_2 : Int) := of_decide_eq_true as_
      have q275 : x10_2 < (l0.length : Int) := of_decide_eq_true as_
      obtain ⟨ad275, e275, hx275_0⟩ := Kd.at_int HR0.out x10_2 p275 q275
      cases e275
      replace p275 := eq_true p275
      replace q275 := eq_true q275
      go_wp2
      go_roundg k2
      case measure => have := HK1.out; have := HK2.out; omega
      case rel => exact ⟨(x6_2), (x9_2), (wrap64 (x10_2 + 1)), rs_, rs_, rs_, H', ⟨by have := HK1.out; have := HK2.out; omega⟩, by repeat (first | exact Drawn0.refl _ | apply Drawn0.step)⟩
     rw [if_pos c10] at H
     have c10b0 : decide (x9_2 ≤ (rd l0 x10_2)) = true := decide_eq_true c10
     clear c10
     have H' := am_ H
     clear H
     have p275 : 0 ≤ (x10_2 : Int) := of_decide_eq_true as_
     have q275 : x10_2 < (l0.length : Int) := of_decide_eq_true as_
     obtain ⟨ad275, e275, hx275_0⟩ := Kd.at_int HR0.out x10_2 p275 q275
     cases e275
     replace p275 := eq_true p275
     replace q275 := eq_true q275
     have p276 : 0 ≤ (x10_2 : Int) := of_decide_eq_true as_
     have q276 : x10_2 < (l0.length : Int) := of_decide_eq_true as_
     obtain ⟨ad276, e276, hx276_0⟩ := Kd.at_int HR0.out x10_2 p276 q276
     obtain rfl : ad275 = ad276 := (by injection e276)
     replace p276 := eq_true p276
     replace q276 := eq_true q276
     go_wp2
     go_roundg k2
     case measure => have := HK1.out; have := HK2.out; omega
     case rel => exact ⟨(x10_2), (rd l0 x10_2), (wrap64 (x10_2 + 1)), rs_, rs_, rs_, H', ⟨by have := HK1.out; have := HK2.out; omega⟩, by repeat (first | exact Drawn0.refl _ | apply Drawn0.step)⟩
def computusref04_Of.f (a0 : Int) : Option (Int) := (computusref01_Mod.f a0 7).bind fun t277 => (some t277)
theorem computusref04_Of.calls (a0 : Int) (r : Int) (w : World) (h : computusref04_Of.f a0 = some r) :
  Calls Try.prog 47 #[.int .i64 a0] w fun e w' => e = .returned (.int .i64 r) ∧ Drawn0 w w' := by
 have H := h
 clear h
 unfold computusref04_Of.f at H
 obtain ⟨t277, A2, H⟩ := bs_ H
 obtain rfl := Option.some.inj H
 go_enter Try.func47, Try.ntmps47
 go_wp2_with (first | ((with_reducible refine gate_callee (f := 58) rfl ?_); refine gl_ (some 4) Try.func58 #[.int .i64 a0, .int .i64 7] ?_; (with_reducible refine (computusref01_Mod.calls a0 7 t277 _ A2.out).mono ?_); rintro e w' ⟨rfl, ⟨nd, rfl⟩⟩; refine ⟨_, rfl, ?_⟩))
 go_ret
 exact ⟨by first | rfl | (simp; done) | (simp [*]; done), by repeat (first | exact Drawn0.refl _ | apply Drawn0.step)⟩
mutual
def computusref19_In.j0 : Nat → List Int → Int → List (S44) → Int → List (S66) → List (S68) → Option ((List (S44)))
 | 0, _, _, _, _, _, _ => none
 | k + 1, x2, x3, x12, x279000, x279001, x279002 => computusref19_In.l0 k x2 x3 x12 0 x279000 x279001 x279002
def computusref19_In.l0 : Nat → List Int → Int → List (S44) → Int → Int → List (S66) → List (S68) → Option ((List (S44)))
 | 0, _, _, _, _, _, _, _ => none
 | k + 1, x2, x3, x12, x13, x279000, x279001, x279002 => if x13 < (x279002.length : Int) then (if 0 ≤ x13 then (if x13 < (x2.length : Int) then (if (rd x2 x13) = x3 then (if x12.length < 3518437208883 then (computusref19_In.l0 k x2 x3 (x12 ++ [(⟨2, x13, (rd_T68 x279002 x13).f1, (rd_T68 x279002 x13).f0⟩ : S44)]) (wrap64 (x13 + 1)) x279000 x279001 x279002) else (none)) else (computusref19_In.l0 k x2 x3 x12 (wrap64 (x13 + 1)) x279000 x279001 x279002)) else (none)) else (none)) else (some x12)
end
def computusref19_In.f (k : Nat) (a0_0 : Int) (l0_1 : List (S66)) (l0_2 : List (S68)) (l1 : List Int) (l2 : List Int) (a3 : Int) : Option ((List (S44))) := (computusref18_In.f k l1 a3).bind fun bt279 => (if 0 ≤ bt279.1 then (if bt279.1 < (l0_1.length : Int) then ((some (([(⟨1, bt279.1, (rd_T66 l0_1 bt279.1).f2, (rd_T66 l0_1 bt279.1).f0⟩ : S44)] : List (S44)) : List (S44))).bind fun y283 => ((computusref04_Of.f a3).bind fun t286 => (if t286 = 0 then (if 0 < (y283.length : Int) then (computusref19_In.j0 k l2 a3 (y283.set (0 : Int).toNat (⟨(rd_T44 y283 0).f0, (rd_T44 y283 0).f1, (rd_T66 l0_1 bt279.1).f1, (rd_T44 y283 0).f3⟩ : S44)) a0_0 l0_1 l0_2) else (none)) else (computusref19_In.j0 k l2 a3 y283 a0_0 l0_1 l0_2)))) else (none)) else (none))
def computusref19_In.T10 : Bool × List (List Nat × List Nat) := (true, [([], []), ([], []), ([], []), ([2], [2]), ([], []), ([3, 4], [3, 4]), ([5], [5]), ([6], [6]), ([], []), ([8], [8]), ([], []), ([9, 10], [9, 10]), ([11], [11]), ([12], [12]), ([1, 7, 13], [1, 7, 13]), ([14], [14]), ([0, 15], [0, 15]), ([16, 16, 0, 1, 2, 3, 4, 5, 6, 7, 8, 9, 10, 11, 12, 13, 14, 15, 16], [0, 16])])
def computusref19_In.B10 : List Nat := [0, 0, 0, 4, 0, 28, 60, 124, 0, 256, 0, 1792, 3840, 7936, 16382, 32766, 65535, 131071]
theorem computusref19_In.tab10 : rtab .any (opsOf Try.f35 10) = computusref19_In.T10 := by kernel_rfl
theorem computusref19_In.bits10 : waitsOk computusref19_In.T10.2 computusref19_In.B10 = true := by kernel_rfl
theorem computusref19_In.calls (k : Nat) (a0_0 : Int) (A0_1 : Option Addr) (c0_1 : Nat) (l0_1 : List (S66)) (A0_2 : Option Addr) (c0_2 : Nat) (l0_2 : List (S68)) (A1 : Option Addr) (c1 : Nat) (l1 : List Int) (A2 : Option Addr) (c2 : Nat) (l2 : List Int) (a3 : Int) (r : List (S44)) (w : World) (hr0_1 : Kd.C k66 w A0_1 l0_1.length l0_1) (hc0_1 : l0_1.length ≤ c0_1) (hr0_2 : Kd.C k68 w A0_2 l0_2.length l0_2) (hc0_2 : l0_2.length ≤ c0_2) (hr1 : Kd.C (Kd.int .i64) w A1 l1.length l1) (hc1 : l1.length ≤ c1) (hr2 : Kd.C (Kd.int .i64) w A2 l2.length l2) (hc2 : l2.length ≤ c2) (h : computusref19_In.f k a0_0 l0_1 l0_2 l1 l2 a3 = some r) :
  Calls Try.prog 35 #[.agg #[.int .i64 a0_0, .slice A0_1 l0_1.length c0_1, .slice A0_2 l0_2.length c0_2], .slice A1 l1.length c1, .slice A2 l2.length c2, .int .i64 a3] w fun e w' => ∃ v0_ : Value, e = .returned (v0_) ∧ Kd.R k44 44 w' w.heap.size (fun _ => True) v0_ r ∧ Below w.heap.size w w' := by
 have hu36 := Try.underlying36
 have hu66 := Try.underlying66
 have hu44 := Try.underlying44
 have HR0_1 := am_ hr0_1
 have HC0_1 := am_ hc0_1
 clear hr0_1 hc0_1
 have HR0_2 := am_ hr0_2
 have HC0_2 := am_ hc0_2
 clear hr0_2 hc0_2
 have HR1 := am_ hr1
 have HC1 := am_ hc1
 clear hr1 hc1
 have HR2 := am_ hr2
 have HC2 := am_ hc2
 clear hr2 hc2
 have HB := am_ (Below.refl w.heap.size w)
 have H := h
 clear h
 unfold computusref19_In.f at H
 obtain ⟨⟨t279, t280⟩, A5, H⟩ := bs_ H
 dsimp only at H
 by_cases c6 : 0 ≤ t279
 rotate_left
 ·rw [if_neg c6] at H
  exact absurd H (by simp)
 rw [if_pos c6] at H
 have c6b0 : decide (0 ≤ t279) = true := decide_eq_true c6
 clear c6
 by_cases c7 : t279 < (l0_1.length : Int)
 rotate_left
 ·rw [if_neg c7] at H
  exact absurd H (by simp)
 rw [if_pos c7] at H
 have c7b0 : decide (t279 < (l0_1.length : Int)) = true := decide_eq_true c7
 clear c7
 obtain ⟨y283, hy283⟩ : ∃ y_ : List (S44), y_ = (([(⟨1, t279, (rd_T66 l0_1 t279).f2, (rd_T66 l0_1 t279).f0⟩ : S44)] : List (S44))) := ⟨_, rfl⟩
 replace H : ((computusref04_Of.f a3).bind fun t286 => (if t286 = 0 then (if 0 < (y283.length : Int) then (computusref19_In.j0 k l2 a3 (y283.set (0 : Int).toNat (⟨(rd_T44 y283 0).f0, (rd_T44 y283 0).f1, (rd_T66 l0_1 t279).f1, (rd_T44 y283 0).f3⟩ : S44)) a0_0 l0_1 l0_2) else (none)) else (computusref19_In.j0 k l2 a3 y283 a0_0 l0_1 l0_2))) = some r := by first | (rw [hy283]; with_reducible exact H) | (have H2_ := (Option.bind_some _ _).symm.trans H; rw [hy283]; with_reducible exact H2_) | (have H2_ := (Option.bind_some _ _).symm.trans H; with_reducible exact H2_) | with_reducible exact H | (rw [hy283]; exact H) | exact H
 have Ny283 := am_ hy283
 clear hy283
 obtain ⟨t286, A8, H⟩ := bs_ H
 have HC9 := am_ H
 clear H
 go_enter Try.func35, Try.ntmps35
 go_upto_if 34 with (first | ((with_reducible refine gate_dst (N := 4) rfl ?_); refine bx_ (w := w) (N := 4) (cs := #[.int .i64 a0_0, .slice A0_1 l0_1.length c0_1, .slice A0_2 l0_2.length c0_2]) (t := 36) ?_; intro gb278 w10 BK278 n0_ GW278 GE278; clear HB; have HB := n0_; clear n0_) | ((with_reducible refine gate_callee (f := 46) rfl ?_); refine gl_ (some 17) Try.func46 #[.slice A1 l1.length c1, .int .i64 a3] ?_; (with_reducible refine (computusref18_In.calls k _ _ l1 a3 t279 t280 _ ?side1 ?side2 A5.out).mono ?_); (case side1 => exact ck_ (Kd.C_below HR1.out HB.out)); (case side2 => exact HC1.out); rintro e w' ⟨rfl, ⟨nd, rfl⟩⟩; refine ⟨_, rfl, ?_⟩; (try (rw [drewN_self w10]; generalize hq_ : World.drewN w10 _ = w10; have n0_ : Aside0 (w10.heap[gb278]? = some (.cells #[.int .i64 a0_0, .slice A0_1 l0_1.length c0_1, .slice A0_2 l0_2.length c0_2] 36 (0, 0))) := ⟨by rw [← hq_]; exact (bk_ BK278.out)⟩; have n1_ : Aside0 (Below w.heap.size w w10) := ⟨by rw [← hq_]; exact bh_⟩; clear BK278 HB hq_; have BK278 := n0_; have HB := n1_; clear n0_ n1_)); obtain ⟨hcz11_0, hcz11_1, hcz11_2⟩ := cz3_ BK278.out; obtain ⟨hfz11_0, hfz11_1, hfz11_2⟩ := fz3_ BK278.out; have p281 : 0 ≤ (t279 : Int) := of_decide_eq_true as_; have q281 : t279 < (l0_1.length : Int) := of_decide_eq_true as_; obtain ⟨ad281, e281, hx281_0, hx281_1, hx281_2, hx281_3, hx281_4, hx281_5, hx281_6, hx281_7, hx281_8⟩ := at_T66 HR0_1.out t279 p281 q281; cases e281; replace hx281_0 := cm_ HB.out hx281_0; replace hx281_1 := cm_ HB.out hx281_1; replace hx281_2 := cm_ HB.out hx281_2; replace hx281_3 := cm_ HB.out hx281_3; replace hx281_4 := cm_ HB.out hx281_4; replace hx281_5 := cm_ HB.out hx281_5; replace hx281_6 := cm_ HB.out hx281_6; replace hx281_7 := cm_ HB.out hx281_7; replace hx281_8 := cm_ HB.out hx281_8; replace p281 := eq_true p281; replace q281 := eq_true q281) | ((with_reducible refine gate_dst (N := 11) rfl ?_); refine be_ (N := 11) (cs := #[.string (⟨#[]⟩ : ByteArray), .int .i64 0, .int .i64 0, .int .i64 0, .int .i64 0, .int .i64 0, .int .i64 0, .int .i64 0, .int .i64 0]) (t := 66) ?_; intro gb282 hg w12 hbox hb; have BK282 := am_ (hbox); have GW282 := gw_ (w := w) hg; have GE282 := gw_ (w := w) hg; replace HB := bt_ hb; have NB278_282 := ne_ hg BK278; have NB282_278 := nf_ hg BK278; replace BK278 := bw_ BK278 hb; clear hb hbox hg; have hnb13 := NB282_278.out; have hnc13 := NB278_282.out; have hcz14_0 : w12.cell? ⟨gb282, 0, none⟩ = some (.string (⟨#[]⟩ : ByteArray)) := (blk_cell BK282.out 0).trans rfl; have hcz14_1 : w12.cell? ⟨gb282, 1, none⟩ = some (.int .i64 0) := (blk_cell BK282.out 1).trans rfl; have hcz14_2 : w12.cell? ⟨gb282, 2, none⟩ = some (.int .i64 0) := (blk_cell BK282.out 2).trans rfl; have hcz14_3 : w12.cell? ⟨gb282, 3, none⟩ = some (.int .i64 0) := (blk_cell BK282.out 3).trans rfl; have hcz14_4 : w12.cell? ⟨gb282, 4, none⟩ = some (.int .i64 0) := (blk_cell BK282.out 4).trans rfl; have hcz14_5 : w12.cell? ⟨gb282, 5, none⟩ = some (.int .i64 0) := (blk_cell BK282.out 5).trans rfl; have hcz14_6 : w12.cell? ⟨gb282, 6, none⟩ = some (.int .i64 0) := (blk_cell BK282.out 6).trans rfl; have hcz14_7 : w12.cell? ⟨gb282, 7, none⟩ = some (.int .i64 0) := (blk_cell BK282.out 7).trans rfl; have hcz14_8 : w12.cell? ⟨gb282, 8, none⟩ = some (.int .i64 0) := (blk_cell BK282.out 8).trans rfl; have hfz14_0 := blk_frozen BK282.out 0; have hfz14_1 := blk_frozen BK282.out 1; have hfz14_2 := blk_frozen BK282.out 2; have hfz14_3 := blk_frozen BK282.out 3; have hfz14_4 := blk_frozen BK282.out 4; have hfz14_5 := blk_frozen BK282.out 5; have hfz14_6 := blk_frozen BK282.out 6; have hfz14_7 := blk_frozen BK282.out 7; have hfz14_8 := blk_frozen BK282.out 8) | ((with_reducible refine gate_dst (N := 31) rfl ?_); refine Kd.R_lit k44 _ 44 ?hg (N := 31) ?hd (xs := ([(⟨1, t279, (rd_T66 l0_1 t279).f2, (rd_T66 l0_1 t279).f0⟩ : S44)] : List (S44))) (inner := [.int .i64 1, .int .i64 t279, .int .i64 ((rd_T66 l0_1 t279).f2), .string ((rd_T66 l0_1 t279).f0)]) (ok := fun _ => True) (okp := fun _ => True) ?hr ?hp (fun _ hk => hk) trivial (Below.refl _ _) (Nat.le_refl _) (by simp) ?_; (case hd => rfl); (case hg => rfl); (case hr => first | (go_simp; done) | (go_simp; rfl)); (case hp => exact (Reps.c4 (show Kd.M k44 _ _ _ (⟨1, t279, (rd_T66 l0_1 t279).f2, (rd_T66 l0_1 t279).f0⟩ : S44) [.int .i64 1, .int .i64 t279, .int .i64 ((rd_T66 l0_1 t279).f2), .string ((rd_T66 l0_1 t279).f0)] from (k44_mkM _ _ _ (⟨1, t279, (rd_T66 l0_1 t279).f2, (rd_T66 l0_1 t279).f0⟩ : S44) )) (Reps.none _ _))); intro v284 w15 ho16 hb hg_ hnew_; clear hg_ hnew_; (first | rw [← Ny283.out] at ho16 | (simp only [Int.reduceToNat] at ho16; rw [← Ny283.out] at ho16)); have HO285 := am_ (Kd.R_lower ho16 bz_); replace BK278 := am_ (blk_below (g := gb278) (o := .cells #[.int .i64 a0_0, .slice (some ad281) l0_1.length c0_1, .slice A0_2 l0_2.length c0_2] 36 (0, 0)) (by refine bp_ ?_; refine blk_far ?_ NB278_282.out _; refine bp_ ?_; refine blk_far ?_ NB278_282.out _; refine bp_ ?_; refine blk_far ?_ NB278_282.out _; refine bp_ ?_; refine blk_far ?_ NB278_282.out _; refine bp_ ?_; refine blk_far ?_ NB278_282.out _; refine bp_ ?_; refine blk_far ?_ NB278_282.out _; refine bp_ ?_; refine blk_far ?_ NB278_282.out _; refine bp_ ?_; refine blk_far ?_ NB278_282.out _; refine bp_ ?_; refine blk_far ?_ NB278_282.out _; exact bk_ BK278.out) hb); replace BK282 := am_ (blk_below (g := gb282) (o := .cells #[.string ((rd_T66 l0_1 t279).f0), .int .i64 ((rd_T66 l0_1 t279).f1), .int .i64 ((rd_T66 l0_1 t279).f2), .int .i64 ((rd_T66 l0_1 t279).f3.f0), .int .i64 ((rd_T66 l0_1 t279).f3.f1), .int .i64 ((rd_T66 l0_1 t279).f3.f2), .int .i64 ((rd_T66 l0_1 t279).f3.f3), .int .i64 ((rd_T66 l0_1 t279).f3.f4), .int .i64 ((rd_T66 l0_1 t279).f3.f5)] 66 (0, 0)) (by refine bp_ ?_; refine blk_put (cs := #[.string ((rd_T66 l0_1 t279).f0), .int .i64 ((rd_T66 l0_1 t279).f1), .int .i64 ((rd_T66 l0_1 t279).f2), .int .i64 ((rd_T66 l0_1 t279).f3.f0), .int .i64 ((rd_T66 l0_1 t279).f3.f1), .int .i64 ((rd_T66 l0_1 t279).f3.f2), .int .i64 ((rd_T66 l0_1 t279).f3.f3), .int .i64 ((rd_T66 l0_1 t279).f3.f4), .int .i64 0]) ?_ 8 _ rfl; refine bp_ ?_; refine blk_put (cs := #[.string ((rd_T66 l0_1 t279).f0), .int .i64 ((rd_T66 l0_1 t279).f1), .int .i64 ((rd_T66 l0_1 t279).f2), .int .i64 ((rd_T66 l0_1 t279).f3.f0), .int .i64 ((rd_T66 l0_1 t279).f3.f1), .int .i64 ((rd_T66 l0_1 t279).f3.f2), .int .i64 ((rd_T66 l0_1 t279).f3.f3), .int .i64 0, .int .i64 0]) ?_ 7 _ rfl; refine bp_ ?_; refine blk_put (cs := #[.string ((rd_T66 l0_1 t279).f0), .int .i64 ((rd_T66 l0_1 t279).f1), .int .i64 ((rd_T66 l0_1 t279).f2), .int .i64 ((rd_T66 l0_1 t279).f3.f0), .int .i64 ((rd_T66 l0_1 t279).f3.f1), .int .i64 ((rd_T66 l0_1 t279).f3.f2), .int .i64 0, .int .i64 0, .int .i64 0]) ?_ 6 _ rfl; refine bp_ ?_; refine blk_put (cs := #[.string ((rd_T66 l0_1 t279).f0), .int .i64 ((rd_T66 l0_1 t279).f1), .int .i64 ((rd_T66 l0_1 t279).f2), .int .i64 ((rd_T66 l0_1 t279).f3.f0), .int .i64 ((rd_T66 l0_1 t279).f3.f1), .int .i64 0, .int .i64 0, .int .i64 0, .int .i64 0]) ?_ 5 _ rfl; refine bp_ ?_; refine blk_put (cs := #[.string ((rd_T66 l0_1 t279).f0), .int .i64 ((rd_T66 l0_1 t279).f1), .int .i64 ((rd_T66 l0_1 t279).f2), .int .i64 ((rd_T66 l0_1 t279).f3.f0), .int .i64 0, .int .i64 0, .int .i64 0, .int .i64 0, .int .i64 0]) ?_ 4 _ rfl; refine bp_ ?_; refine blk_put (cs := #[.string ((rd_T66 l0_1 t279).f0), .int .i64 ((rd_T66 l0_1 t279).f1), .int .i64 ((rd_T66 l0_1 t279).f2), .int .i64 0, .int .i64 0, .int .i64 0, .int .i64 0, .int .i64 0, .int .i64 0]) ?_ 3 _ rfl; refine bp_ ?_; refine blk_put (cs := #[.string ((rd_T66 l0_1 t279).f0), .int .i64 ((rd_T66 l0_1 t279).f1), .int .i64 0, .int .i64 0, .int .i64 0, .int .i64 0, .int .i64 0, .int .i64 0, .int .i64 0]) ?_ 2 _ rfl; refine bp_ ?_; refine blk_put (cs := #[.string ((rd_T66 l0_1 t279).f0), .int .i64 0, .int .i64 0, .int .i64 0, .int .i64 0, .int .i64 0, .int .i64 0, .int .i64 0, .int .i64 0]) ?_ 1 _ rfl; refine bp_ ?_; refine blk_put (cs := #[.string (⟨#[]⟩ : ByteArray), .int .i64 0, .int .i64 0, .int .i64 0, .int .i64 0, .int .i64 0, .int .i64 0, .int .i64 0, .int .i64 0]) ?_ 0 _ rfl; exact bk_ BK282.out) hb); replace HB := bt_ hb; clear hb ho16) | ((with_reducible refine gate_callee (f := 47) rfl ?_); refine gl_ (some 33) Try.func47 #[.int .i64 a3] ?_; (with_reducible refine (computusref04_Of.calls a3 t286 _ A8.out).mono ?_); rintro e w' ⟨rfl, ⟨nd, rfl⟩⟩; refine ⟨_, rfl, ?_⟩))
 (try simp only [Act.put, sA_, sZ_, sS_])
 go_cut [] (fun wc => ∃ (kq : Nat) (x12_8 : List (S44)), Aside0 (computusref19_In.j0 kq l2 a3 x12_8 a0_0 l0_1 l0_2 = some r) ∧ Aside0 (kq ≤ k) ∧ Aside0 (Kd.R k44 44 wc w.heap.size (fun _ => True) v284 x12_8) ∧ Aside0 (wc.heap[gb278]? = some (.cells #[.int .i64 a0_0, (.slice (some ad281) l0_1.length c0_1), (.slice A0_2 l0_2.length c0_2)] 36 (0, 0))) ∧ Aside0 (wc.heap[gb282]? = some (.cells #[.string ((rd_T66 l0_1 t279).f0), .int .i64 ((rd_T66 l0_1 t279).f1), .int .i64 ((rd_T66 l0_1 t279).f2), .int .i64 ((rd_T66 l0_1 t279).f3.f0), .int .i64 ((rd_T66 l0_1 t279).f3.f1), .int .i64 ((rd_T66 l0_1 t279).f3.f2), .int .i64 ((rd_T66 l0_1 t279).f3.f3), .int .i64 ((rd_T66 l0_1 t279).f3.f4), .int .i64 ((rd_T66 l0_1 t279).f3.f5)] 66 (0, 0))) ∧ Aside0 (Below w.heap.size w wc))
 case first =>
  have H := HC9.out
  clear HC9
  by_cases c17 : t286 = 0
  rotate_left
  ·rw [if_neg c17] at H
   have c17b0 : (t286 == 0) = false := beq_eq_false_iff_ne.mpr c17
   have c17b1 : (t286 != 0) = true := bne_iff_ne.mpr c17
   (first | rw [c17b0] | (simp only [i64_w, i32_w]; rw [c17b0]) | skip)
   have H' := am_ H
   clear H
   go_wp2
   go_meet
   case rel => exact ⟨_, (y283), H', ⟨by first | omega | exact Nat.le_refl _⟩, ⟨rk_ HO285.out⟩, ⟨bk_ BK278.out⟩, ⟨bk_ BK282.out⟩, ⟨bh_⟩⟩
  rw [if_pos c17] at H
  have c17b0 : (t286 == 0) = true := beq_iff_eq.mpr c17
  have c17b1 : (t286 != 0) = false := bne_eq_false_iff_eq.mpr c17
  clear c17
  (first | rw [c17b0] | (simp only [i64_w, i32_w]; rw [c17b0]) | skip)
  by_cases c18 : 0 < (y283.length : Int)
  rotate_left
  ·rw [if_neg c18] at H
   exact absurd H (by simp)
  rw [if_pos c18] at H
  have c18b0 : decide (0 < (y283.length : Int)) = true := decide_eq_true c18
  have c18b1 : decide (0 < y283.length) = true := decide_eq_true (by omega)
  (try (have c18b6 : 0 < y283.length := of_decide_eq_true c18b1))
  clear c18
  obtain ⟨y287, hy287⟩ : ∃ y_ : List (S44), y_ = (y283.set (0 : Int).toNat (⟨(rd_T44 y283 0).f0, (rd_T44 y283 0).f1, (rd_T66 l0_1 t279).f1, (rd_T44 y283 0).f3⟩ : S44)) := ⟨_, rfl⟩
  replace H : (computusref19_In.j0 k l2 a3 y287 a0_0 l0_1 l0_2) = some r := by first | (rw [hy287]; with_reducible exact H) | (have H2_ := (Option.bind_some _ _).symm.trans H; rw [hy287]; with_reducible exact H2_) | (have H2_ := (Option.bind_some _ _).symm.trans H; with_reducible exact H2_) | with_reducible exact H | (rw [hy287]; exact H) | exact H
  have Ny287 := am_ hy287
  clear hy287
  have H' := am_ H
  clear H
  have hnb20 := NB282_278.out
  have hnc20 := NB278_282.out
  have hcz21_0 : w15.cell? ⟨gb282, 0, none⟩ = some (.string ((rd_T66 l0_1 t279).f0)) := (blk_cell BK282.out 0).trans rfl
  have hcz21_1 : w15.cell? ⟨gb282, 1, none⟩ = some (.int .i64 ((rd_T66 l0_1 t279).f1)) := (blk_cell BK282.out 1).trans rfl
  have hcz21_2 : w15.cell? ⟨gb282, 2, none⟩ = some (.int .i64 ((rd_T66 l0_1 t279).f2)) := (blk_cell BK282.out 2).trans rfl
  have hcz21_3 : w15.cell? ⟨gb282, 3, none⟩ = some (.int .i64 ((rd_T66 l0_1 t279).f3.f0)) := (blk_cell BK282.out 3).trans rfl
  have hcz21_4 : w15.cell? ⟨gb282, 4, none⟩ = some (.int .i64 ((rd_T66 l0_1 t279).f3.f1)) := (blk_cell BK282.out 4).trans rfl
  have hcz21_5 : w15.cell? ⟨gb282, 5, none⟩ = some (.int .i64 ((rd_T66 l0_1 t279).f3.f2)) := (blk_cell BK282.out 5).trans rfl
  have hcz21_6 : w15.cell? ⟨gb282, 6, none⟩ = some (.int .i64 ((rd_T66 l0_1 t279).f3.f3)) := (blk_cell BK282.out 6).trans rfl
  have hcz21_7 : w15.cell? ⟨gb282, 7, none⟩ = some (.int .i64 ((rd_T66 l0_1 t279).f3.f4)) := (blk_cell BK282.out 7).trans rfl
  have hcz21_8 : w15.cell? ⟨gb282, 8, none⟩ = some (.int .i64 ((rd_T66 l0_1 t279).f3.f5)) := (blk_cell BK282.out 8).trans rfl
  have hfz21_0 := blk_frozen BK282.out 0
  have hfz21_1 := blk_frozen BK282.out 1
  have hfz21_2 := blk_frozen BK282.out 2
  have hfz21_3 := blk_frozen BK282.out 3
  have hfz21_4 := blk_frozen BK282.out 4
  have hfz21_5 := blk_frozen BK282.out 5
  have hfz21_6 := blk_frozen BK282.out 6
  have hfz21_7 := blk_frozen BK282.out 7
  have hfz21_8 := blk_frozen BK282.out 8
  have p19 : 0 ≤ (0 : Int) := (by omega)
  have q19 : (0 : Int) < ((y283.length : Int) : Int) := of_decide_eq_true as_
  have qi19 : (0 < y283.length) = True := eq_true (by omega)
  obtain ⟨go19, co19, eo19, gb19, gl19, cl19, HG19⟩ := Kd.R_form HO285.out (by omega)
  (first | cases eo19 | (injection eo19 with ea_ en_ ec_; (first | subst ea_ | (injection ea_ with ea_; subst ea_)); subst ec_; clear en_))
  have GB19 := am_ gb19
  have GG19 := am_ HG19
  clear gb19 gl19 HG19
  obtain ⟨ce19, hcl19, hM19, hcc19, hfr19⟩ := Kd.R_elem HO285.out z44 (0 : Int) p19 q19
  obtain rfl := k44_openM hM19
  have hx19_0 : w15.cell? ⟨go19, (0 : Int).toNat * 4, none⟩ = some (.int .i64 ((rd_T44 y283 0).f0)) := hcc19 0 _ rfl
  have hx19_1 : w15.cell? ⟨go19, (0 : Int).toNat * 4 + 1, none⟩ = some (.int .i64 ((rd_T44 y283 0).f1)) := hcc19 1 _ rfl
  have hx19_2 : w15.cell? ⟨go19, (0 : Int).toNat * 4 + 2, none⟩ = some (.int .i64 ((rd_T44 y283 0).f2)) := hcc19 2 _ rfl
  have hx19_3 : w15.cell? ⟨go19, (0 : Int).toNat * 4 + 3, none⟩ = some (.string ((rd_T44 y283 0).f3)) := hcc19 3 _ rfl
  have hf19_0 : w15.frozen? ⟨go19, (0 : Int).toNat * 4, none⟩ = false := hfr19 0
  have hf19_1 : w15.frozen? ⟨go19, (0 : Int).toNat * 4 + 1, none⟩ = false := hfr19 1
  have hf19_2 : w15.frozen? ⟨go19, (0 : Int).toNat * 4 + 2, none⟩ = false := hfr19 2
  have hf19_3 : w15.frozen? ⟨go19, (0 : Int).toNat * 4 + 3, none⟩ = false := hfr19 3
  clear hcl19 hcc19 hfr19 hM19
  (try rw [show ((0 : Int)).toNat = 0 from rfl] at hx19_0)
  (try simp only [Nat.reduceMul, Nat.zero_mul, Nat.zero_add, Nat.reduceAdd] at hx19_0)
  (try rw [show ((0 : Int)).toNat = 0 from rfl] at hf19_0)
  (try simp only [Nat.reduceMul, Nat.zero_mul, Nat.zero_add, Nat.reduceAdd] at hf19_0)
  (try rw [show ((0 : Int)).toNat = 0 from rfl] at hx19_1)
  (try simp only [Nat.reduceMul, Nat.zero_mul, Nat.zero_add, Nat.reduceAdd] at hx19_1)
  (try rw [show ((0 : Int)).toNat = 0 from rfl] at hf19_1)
  (try simp only [Nat.reduceMul, Nat.zero_mul, Nat.zero_add, Nat.reduceAdd] at hf19_1)
  (try rw [show ((0 : Int)).toNat = 0 from rfl] at hx19_2)
  (try simp only [Nat.reduceMul, Nat.zero_mul, Nat.zero_add, Nat.reduceAdd] at hx19_2)
  (try rw [show ((0 : Int)).toNat = 0 from rfl] at hf19_2)
  (try simp only [Nat.reduceMul, Nat.zero_mul, Nat.zero_add, Nat.reduceAdd] at hf19_2)
  (try rw [show ((0 : Int)).toNat = 0 from rfl] at hx19_3)
  (try simp only [Nat.reduceMul, Nat.zero_mul, Nat.zero_add, Nat.reduceAdd] at hx19_3)
  (try rw [show ((0 : Int)).toNat = 0 from rfl] at hf19_3)
  (try simp only [Nat.reduceMul, Nat.zero_mul, Nat.zero_add, Nat.reduceAdd] at hf19_3)
  replace p19 := eq_true p19
  replace q19 := eq_true q19
  have HX22 := am_ (show Kd.R k44 44 w15 w.heap.size (fun _ => True) (.slice (some ⟨go19, 0, none⟩) y283.length co19) y283 from (rk_ HO285.out))
  obtain ⟨ce22, hcl22, hM22, hcc22, hfr22⟩ := Kd.R_elem HX22.out z44 (0 : Int) (by omega) (by have h_ : (0 : Int) < ((y283.length : Int) : Int) := of_decide_eq_true as_; first | exact h_ | (have e_ := (Kd.R_reads' HO285.out).1; omega) | simpa using h_)
  obtain rfl := k44_openM hM22
  have HP22 := Kd.R_seg HX22.out (0 : Int) (by omega) (by have h_ : (0 : Int) < ((y283.length : Int) : Int) := of_decide_eq_true as_; first | exact h_ | (have e_ := (Kd.R_reads' HO285.out).1; omega) | simpa using h_) (seg := [.int .i64 ((rd_T66 l0_1 t279).f1)]) (j := 2) hcl22 hcc22 (show 3 ≤ 4 from by decide) (x' := (⟨(rd_T44 y283 0).f0, (rd_T44 y283 0).f1, (rd_T66 l0_1 t279).f1, (rd_T44 y283 0).f3⟩ : S44)) (k44_mkM _ _ _ (⟨(rd_T44 y283 0).f0, (rd_T44 y283 0).f1, (rd_T66 l0_1 t279).f1, (rd_T44 y283 0).f3⟩ : S44) ) (fun _ hk => hk)
  have hx22_2 := hcc22 2 _ rfl
  (try simp only [show (k44).sz = 4 from rfl, Nat.mul_one, Nat.add_zero] at hx22_2)
  (try rw [show ((0 : Int)).toNat = 0 from rfl] at hx22_2)
  (try simp only [Nat.reduceMul, Nat.zero_mul, Nat.zero_add, Nat.reduceAdd] at hx22_2)
  have hf22_2 := hfr22 2
  (try simp only [show (k44).sz = 4 from rfl, Nat.mul_one, Nat.add_zero] at hf22_2)
  (try rw [show ((0 : Int)).toNat = 0 from rfl] at hf22_2)
  (try simp only [Nat.reduceMul, Nat.zero_mul, Nat.zero_add, Nat.reduceAdd] at hf22_2)
  clear hcl22 hcc22 hfr22 hM22
  go_wp2_with (first | ((with_reducible refine gate_store (t := 3) (p := 39) rfl ?_); refine store_event (t := 3) (p := 39) (v := ?vo_w23) (w1 := (w15.setCell ⟨go19, 2, none⟩ (.int .i64 ((rd_T66 l0_1 t279).f1)))) ?hg ?ho ?hn ?hr ?_; (case ho => rfl); (case hg => rfl); (case hn => rfl); (case hr => first | (go_simp; done) | (go_simp; rfl)); intro w23 hw; have hg : w15.grownBy w23 (some go19) := (by rw [hw]; exact HP22.2); have hp_ : Kd.R k44 44 w23 w.heap.size (fun _ => True) (.slice (some ⟨go19, 0, none⟩) y283.length co19) y287 := (by rw [hw, Ny287.out]; exact HP22.1); clear HP22; replace BK278 := am_ (blk_grown (bk_ BK278.out) hg (Kd.R_ne HO285.out BK278.out (by decide))); replace BK282 := am_ (blk_grown (bk_ BK282.out) hg (Kd.R_ne HO285.out BK282.out (by decide))); replace HO285 := am_ (hp_); replace HB := am_ ((by rw [hw]; exact below_set (HB.out) GB19.out : Below w.heap.size w w23)); clear hg hw hp_) | ((with_reducible refine gate_store (t := 3) (p := 39) rfl ?_); refine store_event (t := 3) (p := 39) (v := ?vo_w23) (w1 := ((w15.setCell ⟨go19, 2, none⟩ (.int .i64 ((rd_T66 l0_1 t279).f1))).drewN nd)) ?hg ?ho ?hn ?hr ?_; (case ho => rfl); (case hg => rfl); (case hn => rfl); (case hr => first | (go_simp; done) | (go_simp; rfl)); intro w23 hw; have hg : w15.grownBy w23 (some go19) := (by rw [hw]; exact ⟨HP22.2.os, HP22.2.tape, HP22.2.output, HP22.2.size, HP22.2.block⟩); have hp_ : Kd.R k44 44 w23 w.heap.size (fun _ => True) (.slice (some ⟨go19, 0, none⟩) y283.length co19) y287 := (by rw [hw, Ny287.out]; exact Kd.R_drewN HP22.1 nd); clear HP22; replace BK278 := am_ (blk_grown (bk_ BK278.out) hg (Kd.R_ne HO285.out BK278.out (by decide))); replace BK282 := am_ (blk_grown (bk_ BK282.out) hg (Kd.R_ne HO285.out BK282.out (by decide))); replace HO285 := am_ (hp_); replace HB := am_ ((by rw [hw]; exact pw_below_drewN (below_set (HB.out) GB19.out) nd : Below w.heap.size w w23)); clear hg hw hp_))
  go_meet
  case rel => exact ⟨_, (y287), H', ⟨by first | omega | exact Nat.le_refl _⟩, ⟨rk_ HO285.out⟩, ⟨bk_ BK278.out⟩, ⟨bk_ BK282.out⟩, ⟨bh_⟩⟩
 case rest =>
  clear HC9
  obtain ⟨kq, x12_8, HA, HJ8, HO_12, BK278, BK282, HB⟩ := hcut
  cases kq with
  | zero => exact absurd HA.out (by simp [computusref19_In.j0])
  | succ kj8 =>
   have H := HA.out
   clear HA
   simp only [computusref19_In.j0] at H
   have H' := am_ H
   clear H
   go_wp2
   go_loopg [12, 13] kj8 (fun kq v12 v13 w' => ∃ (x12_2 : List (S44)) (x13_2 : Int), v13 = .int .i64 x13_2 ∧ Aside0 (computusref19_In.l0 kq l2 a3 x12_2 x13_2 a0_0 l0_1 l0_2 = some r) ∧ Aside0 (kq ≤ kj8) ∧ Aside0 (Kd.R k44 44 w' w.heap.size (fun _ => True) v12 x12_2) ∧ Aside0 (w'.heap[gb278]? = some (.cells #[.int .i64 a0_0, (.slice (some ad281) l0_1.length c0_1), (.slice A0_2 l0_2.length c0_2)] 36 (0, 0))) ∧ Aside0 (w'.heap[gb282]? = some (.cells #[.string ((rd_T66 l0_1 t279).f0), .int .i64 ((rd_T66 l0_1 t279).f1), .int .i64 ((rd_T66 l0_1 t279).f2), .int .i64 ((rd_T66 l0_1 t279).f3.f0), .int .i64 ((rd_T66 l0_1 t279).f3.f1), .int .i64 ((rd_T66 l0_1 t279).f3.f2), .int .i64 ((rd_T66 l0_1 t279).f3.f3), .int .i64 ((rd_T66 l0_1 t279).f3.f4), .int .i64 ((rd_T66 l0_1 t279).f3.f5)] 66 (0, 0))) ∧ Aside0 (Below w.heap.size w w'))
   case atStart => exact ⟨(x12_8), (0), rs_, H', ⟨Nat.le_refl _⟩, ⟨rk_ HO_12.out⟩, ⟨bk_ BK278.out⟩, ⟨bk_ BK282.out⟩, ⟨bh_⟩⟩
   case round =>
    clear H'
    obtain ⟨x12_2, x13_2, rfl, HA, HK2, HO_12, BK278, BK282, HB⟩ := hrel
    cases gk with
    | zero => exact absurd HA.out (by simp [computusref19_In.l0])
    | succ k2 =>
     have H := HA.out
     clear HA
     simp only [computusref19_In.l0] at H
     by_cases c24 : x13_2 < (l0_2.length : Int)
     rotate_left
     ·rw [if_neg c24] at H
      have c24b0 : decide (x13_2 < (l0_2.length : Int)) = false := decide_eq_false c24
      clear c24
      obtain rfl := Option.some.inj H
      have hnb35 := NB278_282.out
      have hnc35 := NB282_278.out
      obtain ⟨hcz36_0, hcz36_1, hcz36_2⟩ := cz3_ BK278.out
      obtain ⟨hfz36_0, hfz36_1, hfz36_2⟩ := fz3_ BK278.out
      go_wp2
      go_ret
      exact ⟨_, by first | rfl | (simp [errW_none, errW_some] <;> rfl) | (simp [*, errW_none, errW_some] <;> rfl), rk_ HO_12.out, bh_⟩
     rw [if_pos c24] at H
     have c24b0 : decide (x13_2 < (l0_2.length : Int)) = true := decide_eq_true c24
     clear c24
     by_cases c25 : 0 ≤ x13_2
     rotate_left
     ·rw [if_neg c25] at H
      exact absurd H (by simp)
     rw [if_pos c25] at H
     have c25b0 : decide (0 ≤ x13_2) = true := decide_eq_true c25
     clear c25
     by_cases c26 : x13_2 < (l2.length : Int)
     rotate_left
     ·rw [if_neg c26] at H
      exact absurd H (by simp)
     rw [if_pos c26] at H
     have c26b0 : decide (x13_2 < (l2.length : Int)) = true := decide_eq_true c26
     clear c26
     by_cases c27 : (rd l2 x13_2) = a3
     rotate_left
     ·rw [if_neg c27] at H
      have c27b0 : ((rd l2 x13_2) == a3) = false := beq_eq_false_iff_ne.mpr c27
      have c27b1 : ((rd l2 x13_2) != a3) = true := bne_iff_ne.mpr c27
      have H' := am_ H
      clear H
      have hnb33 := NB278_282.out
      have hnc33 := NB282_278.out
      obtain ⟨hcz34_0, hcz34_1, hcz34_2⟩ := cz3_ BK278.out
      obtain ⟨hfz34_0, hfz34_1, hfz34_2⟩ := fz3_ BK278.out
      have p288 : 0 ≤ (x13_2 : Int) := of_decide_eq_true as_
      have q288 : x13_2 < (l2.length : Int) := of_decide_eq_true as_
      obtain ⟨ad288, e288, hx288_0⟩ := Kd.at_int HR2.out x13_2 p288 q288
      cases e288
      replace hx288_0 := cm_ HB.out hx288_0
      replace p288 := eq_true p288
      replace q288 := eq_true q288
      go_wp2
      go_roundg k2
      case measure => have := HJ8.out; have := HK2.out; omega
      case rel => exact ⟨(x12_2), (wrap64 (x13_2 + 1)), rs_, H', ⟨by have := HJ8.out; have := HK2.out; omega⟩, ⟨rk_ HO_12.out⟩, ⟨bk_ BK278.out⟩, ⟨bk_ BK282.out⟩, ⟨bh_⟩⟩
     rw [if_pos c27] at H
     have c27b0 : ((rd l2 x13_2) == a3) = true := beq_iff_eq.mpr c27
     have c27b1 : ((rd l2 x13_2) != a3) = false := bne_eq_false_iff_eq.mpr c27
     clear c27
     by_cases c28 : x12_2.length < 3518437208883
     rotate_left
     ·rw [if_neg c28] at H
      exact absurd H (by simp)
     rw [if_pos c28] at H
     have LMc28 := am_ c28
     clear c28
     obtain ⟨y291, hy291⟩ : ∃ y_ : List (S44), y_ = (x12_2 ++ [(⟨2, x13_2, (rd_T68 l0_2 x13_2).f1, (rd_T68 l0_2 x13_2).f0⟩ : S44)]) := ⟨_, rfl⟩
     replace H : (computusref19_In.l0 k2 l2 a3 y291 (wrap64 (x13_2 + 1)) a0_0 l0_1 l0_2) = some r := by first | (rw [hy291]; with_reducible exact H) | (have H2_ := (Option.bind_some _ _).symm.trans H; rw [hy291]; with_reducible exact H2_) | (have H2_ := (Option.bind_some _ _).symm.trans H; with_reducible exact H2_) | with_reducible exact H | (rw [hy291]; exact H) | exact H
     have Ny291 := am_ hy291
     clear hy291
     have H' := am_ H
     clear H
     have hnb29 := NB278_282.out
     have hnc29 := NB282_278.out
     obtain ⟨hcz30_0, hcz30_1, hcz30_2⟩ := cz3_ BK278.out
     obtain ⟨hfz30_0, hfz30_1, hfz30_2⟩ := fz3_ BK278.out
     have p288 : 0 ≤ (x13_2 : Int) := of_decide_eq_true as_
     have q288 : x13_2 < (l2.length : Int) := of_decide_eq_true as_
     obtain ⟨ad288, e288, hx288_0⟩ := Kd.at_int HR2.out x13_2 p288 q288
     cases e288
     replace hx288_0 := cm_ HB.out hx288_0
     replace p288 := eq_true p288
     replace q288 := eq_true q288
     try go_wp2
     replace HO_12 := am_ (Kd.R_drew HO_12.out)
     replace BK278 := am_ (blk_drew BK278.out)
     replace BK282 := am_ (blk_drew BK282.out)
     replace HB := am_ (below_drew1 HB.out)
     have p289 : 0 ≤ (x13_2 : Int) := of_decide_eq_true as_
     have q289 : x13_2 < (l0_2.length : Int) := of_decide_eq_true as_
     obtain ⟨ad289, e289, hx289_0, hx289_1, hx289_2, hx289_3, hx289_4, hx289_5, hx289_6, hx289_7, hx289_8⟩ := at_T68 HR0_2.out x13_2 p289 q289
     have hw289_8 := hx289_8
     have hw289_7 := hx289_7
     have hw289_6 := hx289_6
     have hw289_5 := hx289_5
     have hw289_4 := hx289_4
     have hw289_3 := hx289_3
     have hw289_2 := hx289_2
     have hw289_1 := hx289_1
     have hw289_0 := hx289_0
     cases e289
     replace hx289_0 := cm_ HB.out hx289_0
     replace hx289_1 := cm_ HB.out hx289_1
     replace hx289_2 := cm_ HB.out hx289_2
     replace hx289_3 := cm_ HB.out hx289_3
     replace hx289_4 := cm_ HB.out hx289_4
     replace hx289_5 := cm_ HB.out hx289_5
     replace hx289_6 := cm_ HB.out hx289_6
     replace hx289_7 := cm_ HB.out hx289_7
     replace hx289_8 := cm_ HB.out hx289_8
     replace p289 := eq_true p289
     replace q289 := eq_true q289
     have p290 : 0 ≤ (x13_2 : Int) := of_decide_eq_true as_
     have q290 : x13_2 < (l0_2.length : Int) := of_decide_eq_true as_
     obtain ⟨ad290, e290, hx290_0, hx290_1, hx290_2, hx290_3, hx290_4, hx290_5, hx290_6, hx290_7, hx290_8⟩ := at_T68 HR0_2.out x13_2 p290 q290
     have hw290_8 := hx290_8
     have hw290_7 := hx290_7
     have hw290_6 := hx290_6
     have hw290_5 := hx290_5
     have hw290_4 := hx290_4
     have hw290_3 := hx290_3
     have hw290_2 := hx290_2
     have hw290_1 := hx290_1
     have hw290_0 := hx290_0
     obtain rfl : ad289 = ad290 := (by injection e290)
     replace hx290_0 := cm_ HB.out hx290_0
     replace hx290_1 := cm_ HB.out hx290_1
     replace hx290_2 := cm_ HB.out hx290_2
     replace hx290_3 := cm_ HB.out hx290_3
     replace hx290_4 := cm_ HB.out hx290_4
     replace hx290_5 := cm_ HB.out hx290_5
     replace hx290_6 := cm_ HB.out hx290_6
     replace hx290_7 := cm_ HB.out hx290_7
     replace hx290_8 := cm_ HB.out hx290_8
     replace p290 := eq_true p290
     replace q290 := eq_true q290
     refine start_ (n := 18) (S := fun w' => w'.cell? ⟨gb278, 0, none⟩ = some (.int .i64 a0_0) ∧ w'.cell? ⟨gb278, 1, none⟩ = some (.slice (some ad281) l0_1.length c0_1) ∧ w'.cell? ⟨gb278, 2, none⟩ = some (.slice (some ad289) l0_2.length c0_2) ∧ w'.cell? (ad289.add ((x13_2).toNat * 9)) = some (.string ((rd_T68 l0_2 x13_2).f0)) ∧ w'.cell? ⟨(ad289.add ((x13_2).toNat * 9)).block, (ad289.add ((x13_2).toNat * 9)).off + 1, none⟩ = some (.int .i64 ((rd_T68 l0_2 x13_2).f1)) ∧ w'.cell? ⟨(ad289.add ((x13_2).toNat * 9)).block, (ad289.add ((x13_2).toNat * 9)).off + 2, none⟩ = some (.int .i64 ((rd_T68 l0_2 x13_2).f2)) ∧ w'.cell? ⟨(ad289.add ((x13_2).toNat * 9)).block, (ad289.add ((x13_2).toNat * 9)).off + 3, none⟩ = some (.int .i64 ((rd_T68 l0_2 x13_2).f3.f0)) ∧ w'.cell? ⟨(ad289.add ((x13_2).toNat * 9)).block, (ad289.add ((x13_2).toNat * 9)).off + 4, none⟩ = some (.int .i64 ((rd_T68 l0_2 x13_2).f3.f1)) ∧ w'.cell? ⟨(ad289.add ((x13_2).toNat * 9)).block, (ad289.add ((x13_2).toNat * 9)).off + 5, none⟩ = some (.int .i64 ((rd_T68 l0_2 x13_2).f3.f2)) ∧ w'.cell? ⟨(ad289.add ((x13_2).toNat * 9)).block, (ad289.add ((x13_2).toNat * 9)).off + 6, none⟩ = some (.int .i64 ((rd_T68 l0_2 x13_2).f3.f3)) ∧ w'.cell? ⟨(ad289.add ((x13_2).toNat * 9)).block, (ad289.add ((x13_2).toNat * 9)).off + 7, none⟩ = some (.int .i64 ((rd_T68 l0_2 x13_2).f3.f4)) ∧ w'.cell? ⟨(ad289.add ((x13_2).toNat * 9)).block, (ad289.add ((x13_2).toNat * 9)).off + 8, none⟩ = some (.int .i64 ((rd_T68 l0_2 x13_2).f3.f5)) ∧ w'.cell? (ad289.add ((x13_2).toNat * 9)) = some (.string ((rd_T68 l0_2 x13_2).f0)) ∧ w'.cell? ⟨(ad289.add ((x13_2).toNat * 9)).block, (ad289.add ((x13_2).toNat * 9)).off + 1, none⟩ = some (.int .i64 ((rd_T68 l0_2 x13_2).f1)) ∧ w'.cell? ⟨(ad289.add ((x13_2).toNat * 9)).block, (ad289.add ((x13_2).toNat * 9)).off + 2, none⟩ = some (.int .i64 ((rd_T68 l0_2 x13_2).f2)) ∧ w'.cell? ⟨(ad289.add ((x13_2).toNat * 9)).block, (ad289.add ((x13_2).toNat * 9)).off + 3, none⟩ = some (.int .i64 ((rd_T68 l0_2 x13_2).f3.f0)) ∧ w'.cell? ⟨(ad289.add ((x13_2).toNat * 9)).block, (ad289.add ((x13_2).toNat * 9)).off + 4, none⟩ = some (.int .i64 ((rd_T68 l0_2 x13_2).f3.f1)) ∧ w'.cell? ⟨(ad289.add ((x13_2).toNat * 9)).block, (ad289.add ((x13_2).toNat * 9)).off + 5, none⟩ = some (.int .i64 ((rd_T68 l0_2 x13_2).f3.f2)) ∧ w'.cell? ⟨(ad289.add ((x13_2).toNat * 9)).block, (ad289.add ((x13_2).toNat * 9)).off + 6, none⟩ = some (.int .i64 ((rd_T68 l0_2 x13_2).f3.f3)) ∧ w'.cell? ⟨(ad289.add ((x13_2).toNat * 9)).block, (ad289.add ((x13_2).toNat * 9)).off + 7, none⟩ = some (.int .i64 ((rd_T68 l0_2 x13_2).f3.f4)) ∧ w'.cell? ⟨(ad289.add ((x13_2).toNat * 9)).block, (ad289.add ((x13_2).toNat * 9)).off + 8, none⟩ = some (.int .i64 ((rd_T68 l0_2 x13_2).f3.f5))) (ds := []) (bf_ 18 0) (by kernel_rfl) rfl rfl ⟨(blk_cell BK278.out 0).trans rfl, (blk_cell BK278.out 1).trans rfl, (blk_cell BK278.out 2).trans rfl, ((HB.out.cell (World.block_lt_of_cell? w _ hw289_0)).trans hw289_0), ((HB.out.cell (World.block_lt_of_cell? w _ hw289_1)).trans hw289_1), ((HB.out.cell (World.block_lt_of_cell? w _ hw289_2)).trans hw289_2), ((HB.out.cell (World.block_lt_of_cell? w _ hw289_3)).trans hw289_3), ((HB.out.cell (World.block_lt_of_cell? w _ hw289_4)).trans hw289_4), ((HB.out.cell (World.block_lt_of_cell? w _ hw289_5)).trans hw289_5), ((HB.out.cell (World.block_lt_of_cell? w _ hw289_6)).trans hw289_6), ((HB.out.cell (World.block_lt_of_cell? w _ hw289_7)).trans hw289_7), ((HB.out.cell (World.block_lt_of_cell? w _ hw289_8)).trans hw289_8), ((HB.out.cell (World.block_lt_of_cell? w _ hw290_0)).trans hw290_0), ((HB.out.cell (World.block_lt_of_cell? w _ hw290_1)).trans hw290_1), ((HB.out.cell (World.block_lt_of_cell? w _ hw290_2)).trans hw290_2), ((HB.out.cell (World.block_lt_of_cell? w _ hw290_3)).trans hw290_3), ((HB.out.cell (World.block_lt_of_cell? w _ hw290_4)).trans hw290_4), ((HB.out.cell (World.block_lt_of_cell? w _ hw290_5)).trans hw290_5), ((HB.out.cell (World.block_lt_of_cell? w _ hw290_6)).trans hw290_6), ((HB.out.cell (World.block_lt_of_cell? w _ hw290_7)).trans hw290_7), ((HB.out.cell (World.block_lt_of_cell? w _ hw290_8)).trans hw290_8)⟩ (fun hHeld => ?_); refine with_tabW computusref19_In.tab10 computusref19_In.bits10 (fun HT_ HW_ => ?_)
     generalize wr.drew = w31 at HO_12 BK278 BK282 HB hx289_0 hx289_1 hx289_2 hx289_3 hx289_4 hx289_5 hx289_6 hx289_7 hx289_8 hx290_0 hx290_1 hx290_2 hx290_3 hx290_4 hx290_5 hx290_6 hx290_7 hx290_8 hHeld ⊢
     refine pu_ 0 (some 53) (bf_ 18 1) HT_.out ?_
     refine pu_ 1 (some 54) (bf_ 18 3) HT_.out ?_
     refine pu_ 2 (some 55) (bf_ 18 7) HT_.out ?_
     refine pu_ 4 (some 57) (bf_ 18 23) HT_.out ?_
     refine pu_ 8 (some 61) (bf_ 18 279) HT_.out ?_
     refine pu_ 10 (some 63) (bf_ 18 1303) HT_.out ?_
     refine ta_ 3 (some 56) (bf_ 18 1311) HT_.out HW_.out hHeld ?_
     refine pu_ 5 (some 58) (bf_ 18 1343) HT_.out ?_
     refine pu_ 6 (some 59) (bf_ 18 1407) HT_.out ?_
     refine ta_ 7 (some 60) (bf_ 18 1535) HT_.out HW_.out hHeld ?_
     refine ta_ 9 (some 62) (bf_ 18 2047) HT_.out HW_.out hHeld ?_
     refine pu_ 11 (some 64) (bf_ 18 4095) HT_.out ?_
     refine pu_ 12 (some 65) (bf_ 18 8191) HT_.out ?_
     refine ta_ 13 (some 66) (bf_ 18 16383) HT_.out HW_.out hHeld ?_
     refine pu_ 14 (some 67) (bf_ 18 32767) HT_.out ?_
     refine one_ (i := 15) (N := some 68) (bf_ 18 65535) rfl rfl (one_of HT_.out (by kernel_rfl)) (by decide) (fun K hK => ?_)
     refine value_ (w1 := ?_) (v := ?_) (by rfl) rfl ?_ ?_
     rotate_left 2
     ·go_simp
      constructor
      ·rfl
      ·rfl
     refine hK.out _ _ (by first | exact ⟨(blk_cell (blk_alloc BK278.out _) 0).trans rfl, (blk_cell (blk_alloc BK278.out _) 1).trans rfl, (blk_cell (blk_alloc BK278.out _) 2).trans rfl, (World.cell?_alloc_lt _ _ _ (World.block_lt_of_cell? _ _ (((HB.out.cell (World.block_lt_of_cell? w _ hw289_0)).trans hw289_0)))).trans (((HB.out.cell (World.block_lt_of_cell? w _ hw289_0)).trans hw289_0)), (World.cell?_alloc_lt _ _ _ (World.block_lt_of_cell? _ _ (((HB.out.cell (World.block_lt_of_cell? w _ hw289_1)).trans hw289_1)))).trans (((HB.out.cell (World.block_lt_of_cell? w _ hw289_1)).trans hw289_1)), (World.cell?_alloc_lt _ _ _ (World.block_lt_of_cell? _ _ (((HB.out.cell (World.block_lt_of_cell? w _ hw289_2)).trans hw289_2)))).trans (((HB.out.cell (World.block_lt_of_cell? w _ hw289_2)).trans hw289_2)), (World.cell?_alloc_lt _ _ _ (World.block_lt_of_cell? _ _ (((HB.out.cell (World.block_lt_of_cell? w _ hw289_3)).trans hw289_3)))).trans (((HB.out.cell (World.block_lt_of_cell? w _ hw289_3)).trans hw289_3)), (World.cell?_alloc_lt _ _ _ (World.block_lt_of_cell? _ _ (((HB.out.cell (World.block_lt_of_cell? w _ hw289_4)).trans hw289_4)))).trans (((HB.out.cell (World.block_lt_of_cell? w _ hw289_4)).trans hw289_4)), (World.cell?_alloc_lt _ _ _ (World.block_lt_of_cell? _ _ (((HB.out.cell (World.block_lt_of_cell? w _ hw289_5)).trans hw289_5)))).trans (((HB.out.cell (World.block_lt_of_cell? w _ hw289_5)).trans hw289_5)), (World.cell?_alloc_lt _ _ _ (World.block_lt_of_cell? _ _ (((HB.out.cell (World.block_lt_of_cell? w _ hw289_6)).trans hw289_6)))).trans (((HB.out.cell (World.block_lt_of_cell? w _ hw289_6)).trans hw289_6)), (World.cell?_alloc_lt _ _ _ (World.block_lt_of_cell? _ _ (((HB.out.cell (World.block_lt_of_cell? w _ hw289_7)).trans hw289_7)))).trans (((HB.out.cell (World.block_lt_of_cell? w _ hw289_7)).trans hw289_7)), (World.cell?_alloc_lt _ _ _ (World.block_lt_of_cell? _ _ (((HB.out.cell (World.block_lt_of_cell? w _ hw289_8)).trans hw289_8)))).trans (((HB.out.cell (World.block_lt_of_cell? w _ hw289_8)).trans hw289_8)), (World.cell?_alloc_lt _ _ _ (World.block_lt_of_cell? _ _ (((HB.out.cell (World.block_lt_of_cell? w _ hw290_0)).trans hw290_0)))).trans (((HB.out.cell (World.block_lt_of_cell? w _ hw290_0)).trans hw290_0)), (World.cell?_alloc_lt _ _ _ (World.block_lt_of_cell? _ _ (((HB.out.cell (World.block_lt_of_cell? w _ hw290_1)).trans hw290_1)))).trans (((HB.out.cell (World.block_lt_of_cell? w _ hw290_1)).trans hw290_1)), (World.cell?_alloc_lt _ _ _ (World.block_lt_of_cell? _ _ (((HB.out.cell (World.block_lt_of_cell? w _ hw290_2)).trans hw290_2)))).trans (((HB.out.cell (World.block_lt_of_cell? w _ hw290_2)).trans hw290_2)), (World.cell?_alloc_lt _ _ _ (World.block_lt_of_cell? _ _ (((HB.out.cell (World.block_lt_of_cell? w _ hw290_3)).trans hw290_3)))).trans (((HB.out.cell (World.block_lt_of_cell? w _ hw290_3)).trans hw290_3)), (World.cell?_alloc_lt _ _ _ (World.block_lt_of_cell? _ _ (((HB.out.cell (World.block_lt_of_cell? w _ hw290_4)).trans hw290_4)))).trans (((HB.out.cell (World.block_lt_of_cell? w _ hw290_4)).trans hw290_4)), (World.cell?_alloc_lt _ _ _ (World.block_lt_of_cell? _ _ (((HB.out.cell (World.block_lt_of_cell? w _ hw290_5)).trans hw290_5)))).trans (((HB.out.cell (World.block_lt_of_cell? w _ hw290_5)).trans hw290_5)), (World.cell?_alloc_lt _ _ _ (World.block_lt_of_cell? _ _ (((HB.out.cell (World.block_lt_of_cell? w _ hw290_6)).trans hw290_6)))).trans (((HB.out.cell (World.block_lt_of_cell? w _ hw290_6)).trans hw290_6)), (World.cell?_alloc_lt _ _ _ (World.block_lt_of_cell? _ _ (((HB.out.cell (World.block_lt_of_cell? w _ hw290_7)).trans hw290_7)))).trans (((HB.out.cell (World.block_lt_of_cell? w _ hw290_7)).trans hw290_7)), (World.cell?_alloc_lt _ _ _ (World.block_lt_of_cell? _ _ (((HB.out.cell (World.block_lt_of_cell? w _ hw290_8)).trans hw290_8)))).trans (((HB.out.cell (World.block_lt_of_cell? w _ hw290_8)).trans hw290_8))⟩ | exact hHeld) (fun hHeld => ?_)
     clear hK K
     refine norm_ (a' := ?_) ?_ ?_
     rotate_left
     ·show Act.put _ (some 68) _ = _
      simp only [Act.put, sA_, sZ_, sS_, i64_w, i32_w]
      rfl
     refine one_ (i := 16) (N := some 69) (bf_ 18 131071) rfl rfl (one_of HT_.out (by kernel_rfl)) (by decide) (fun K hK => ?_)
     refine Kd.R_append_step k44 (w0 := w) w.heap.size (by rfl) (.tmp 53) (.tmp 68) 22 44 (.agg #[(.int .i64 0), (.int .i64 0), (.int .i64 0), (.string ⟨#[]⟩)]) 40 rfl Try.underlying22 info44 rfl (by decide) (by omega) u12 x12_2 (⟨2, x13_2, (rd_T68 l0_2 x13_2).f1, (rd_T68 l0_2 x13_2).f0⟩ : S44) [.int .i64 2, .int .i64 x13_2, .int .i64 ((rd_T68 l0_2 x13_2).f1), .string ((rd_T68 l0_2 x13_2).f0)] (fun _ => True) (fun _ => False) rfl rfl ?aP (fun _ hk => hk.elim) ?aF ?aO ?aB ?aS ?aL ?_
     (case aP => exact k44_mkM _ _ _ (⟨2, x13_2, (rd_T68 l0_2 x13_2).f1, (rd_T68 l0_2 x13_2).f0⟩ : S44))
     (case aB => exact bh_)
     (case aF => exact (fun _ _ => trivial))
     (case aO => exact (rk_ HO_12.out))
     (case aS => exact bz_)
     (case aL => have := LMc28.out; omega)
     intro v292 w32 ho hb hg hat
     rw [← Ny291.out] at ho
     have n0_ := am_ (blk_grown (bk_ BK278.out) hg (Kd.R_ne HO_12.out BK278.out (by decide)))
     have n1_ := am_ (blk_grown (bk_ BK282.out) hg (Kd.R_ne HO_12.out BK282.out (by decide)))
     have n2_ := am_ (hb)
     have n3_ := am_ (ho)
     clear BK278
     clear BK282
     clear HB
     clear HO_12
     have BK278 := n0_
     have BK282 := n1_
     have HB := n2_
     have HO293 := n3_
     clear n0_ n1_ n2_ n3_
     clear ho hb hg hat
     refine hK.out _ _ (by first | exact ⟨(blk_cell BK278.out 0).trans rfl, (blk_cell BK278.out 1).trans rfl, (blk_cell BK278.out 2).trans rfl, ((HB.out.cell (World.block_lt_of_cell? w _ hw289_0)).trans hw289_0), ((HB.out.cell (World.block_lt_of_cell? w _ hw289_1)).trans hw289_1), ((HB.out.cell (World.block_lt_of_cell? w _ hw289_2)).trans hw289_2), ((HB.out.cell (World.block_lt_of_cell? w _ hw289_3)).trans hw289_3), ((HB.out.cell (World.block_lt_of_cell? w _ hw289_4)).trans hw289_4), ((HB.out.cell (World.block_lt_of_cell? w _ hw289_5)).trans hw289_5), ((HB.out.cell (World.block_lt_of_cell? w _ hw289_6)).trans hw289_6), ((HB.out.cell (World.block_lt_of_cell? w _ hw289_7)).trans hw289_7), ((HB.out.cell (World.block_lt_of_cell? w _ hw289_8)).trans hw289_8), ((HB.out.cell (World.block_lt_of_cell? w _ hw290_0)).trans hw290_0), ((HB.out.cell (World.block_lt_of_cell? w _ hw290_1)).trans hw290_1), ((HB.out.cell (World.block_lt_of_cell? w _ hw290_2)).trans hw290_2), ((HB.out.cell (World.block_lt_of_cell? w _ hw290_3)).trans hw290_3), ((HB.out.cell (World.block_lt_of_cell? w _ hw290_4)).trans hw290_4), ((HB.out.cell (World.block_lt_of_cell? w _ hw290_5)).trans hw290_5), ((HB.out.cell (World.block_lt_of_cell? w _ hw290_6)).trans hw290_6), ((HB.out.cell (World.block_lt_of_cell? w _ hw290_7)).trans hw290_7), ((HB.out.cell (World.block_lt_of_cell? w _ hw290_8)).trans hw290_8)⟩ | exact hHeld) (fun hHeld => ?_)
     clear hK K
     refine norm_ (a' := ?_) ?_ ?_
     rotate_left
     ·show Act.put _ (some 69) _ = _
      simp only [Act.put, sA_, sZ_, sS_, i64_w, i32_w]
      rfl
     refine pu_ 17 (some 12) (bf_ 18 262143) HT_.out ?_
     refine done_ (done_of HT_.out (by kernel_rfl)) ?_
     try go_wp2
     go_roundg k2
     case measure => have := HJ8.out; have := HK2.out; omega
     case rel => exact ⟨(y291), (wrap64 (x13_2 + 1)), rs_, H', ⟨by have := HJ8.out; have := HK2.out; omega⟩, ⟨rk_ HO293.out⟩, ⟨bk_ BK278.out⟩, ⟨bk_ BK282.out⟩, ⟨bh_⟩⟩
def computusref02_Leap.f (a0 : Int) : Option (Bool) := (computusref01_Mod.f a0 4).bind fun t294 => (some (t294 == 0))
theorem computusref02_Leap.calls (a0 : Int) (r : Bool) (w : World) (h : computusref02_Leap.f a0 = some r) :
  Calls Try.prog 83 #[.int .i64 a0] w fun e w' => e = .returned (.bool r) ∧ Drawn0 w w' := by
 have H := h
 clear h
 unfold computusref02_Leap.f at H
 obtain ⟨t294, A2, H⟩ := bs_ H
 obtain rfl := Option.some.inj H
 go_enter Try.func83, Try.ntmps83
 go_wp2_with (first | ((with_reducible refine gate_callee (f := 58) rfl ?_); refine gl_ (some 4) Try.func58 #[.int .i64 a0, .int .i64 4] ?_; (with_reducible refine (computusref01_Mod.calls a0 4 t294 _ A2.out).mono ?_); rintro e w' ⟨rfl, ⟨nd, rfl⟩⟩; refine ⟨_, rfl, ?_⟩))
 go_ret
 exact ⟨by first | rfl | (simp; done) | (simp [*]; done), by repeat (first | exact Drawn0.refl _ | apply Drawn0.step)⟩
def computusref02_Valid.f (k : Nat) (a0_0 : Int) (a0_1 : Int) (a0_2 : Int) : Option (Bool) := (computusref02_In.f a0_0).bind fun t296 => (if t296 = true then (if a0_2 ≥ 1 then ((computusref02_Leap.f a0_0).bind fun t297 => ((computusref02_Length.f k t297 a0_1).bind fun t298 => (some (decide (a0_2 ≤ t298))))) else (some false)) else (some false))
theorem computusref02_Valid.calls (k : Nat) (a0_0 : Int) (a0_1 : Int) (a0_2 : Int) (r : Bool) (w : World) (h : computusref02_Valid.f k a0_0 a0_1 a0_2 = some r) :
  Calls Try.prog 81 #[.agg #[.int .i64 a0_0, .int .i64 a0_1, .int .i64 a0_2]] w fun e w' => e = .returned (.bool r) ∧ Below w.heap.size w w' := by
 have hu98 := Try.underlying98
 have HB := am_ (Below.refl w.heap.size w)
 have H := h
 clear h
 unfold computusref02_Valid.f at H
 obtain ⟨t296, A2, H⟩ := bs_ H
 by_cases c3 : t296 = true
 rotate_left
 ·replace c3 := Bool.eq_false_iff.mpr c3
  subst c3
  replace H := if_ H
  obtain rfl := Option.some.inj H
  go_enter Try.func81, Try.ntmps81
  go_wp2_with (first | ((with_reducible refine gate_dst (N := 1) rfl ?_); refine bx_ (w := w) (N := 1) (cs := #[.int .i64 a0_0, .int .i64 a0_1, .int .i64 a0_2]) (t := 98) ?_; intro gb295 w11 BK295 n0_ GW295 GE295; clear HB; have HB := n0_; clear n0_; obtain ⟨hcz12_0, hcz12_1, hcz12_2⟩ := cz3_ BK295.out; obtain ⟨hfz12_0, hfz12_1, hfz12_2⟩ := fz3_ BK295.out) | (go_at_call 69; (with_reducible refine (computusref02_In.calls a0_0 false _ A2.out).mono ?_); rintro e w' ⟨rfl, ⟨nd, rfl⟩⟩; (try first | exact ⟨rfl, _, World.drewN_drewN _ _ _⟩ | exact ⟨rfl, _, Eq.trans (World.drewN_drewN _ _ _) (congrArg (World.drewN _) (Nat.add_assoc _ _ _))⟩)))
  repeat (go_quiet (first | ((with_reducible refine gate_dst (N := 1) rfl ?_); refine bx_ (w := w) (N := 1) (cs := #[.int .i64 a0_0, .int .i64 a0_1, .int .i64 a0_2]) (t := 98) ?_; intro gb295 w11 BK295 n0_ GW295 GE295; clear HB; have HB := n0_; clear n0_; obtain ⟨hcz12_0, hcz12_1, hcz12_2⟩ := cz3_ BK295.out; obtain ⟨hfz12_0, hfz12_1, hfz12_2⟩ := fz3_ BK295.out) | (go_at_call 69; (with_reducible refine (computusref02_In.calls a0_0 false _ A2.out).mono ?_); rintro e w' ⟨rfl, ⟨nd, rfl⟩⟩; (try first | exact ⟨rfl, _, World.drewN_drewN _ _ _⟩ | exact ⟨rfl, _, Eq.trans (World.drewN_drewN _ _ _) (congrArg (World.drewN _) (Nat.add_assoc _ _ _))⟩))); try go_wp2_with (first | ((with_reducible refine gate_dst (N := 1) rfl ?_); refine bx_ (w := w) (N := 1) (cs := #[.int .i64 a0_0, .int .i64 a0_1, .int .i64 a0_2]) (t := 98) ?_; intro gb295 w11 BK295 n0_ GW295 GE295; clear HB; have HB := n0_; clear n0_; obtain ⟨hcz12_0, hcz12_1, hcz12_2⟩ := cz3_ BK295.out; obtain ⟨hfz12_0, hfz12_1, hfz12_2⟩ := fz3_ BK295.out) | (go_at_call 69; (with_reducible refine (computusref02_In.calls a0_0 false _ A2.out).mono ?_); rintro e w' ⟨rfl, ⟨nd, rfl⟩⟩; (try first | exact ⟨rfl, _, World.drewN_drewN _ _ _⟩ | exact ⟨rfl, _, Eq.trans (World.drewN_drewN _ _ _) (congrArg (World.drewN _) (Nat.add_assoc _ _ _))⟩))))
  go_ret
  exact rt_
 subst c3
 replace H := it_ H
 by_cases c4 : a0_2 ≥ 1
 rotate_left
 ·rw [if_neg c4] at H
  have c4b0 : decide (1 ≤ a0_2) = false := decide_eq_false c4
  clear c4
  obtain rfl := Option.some.inj H
  go_enter Try.func81, Try.ntmps81
  go_wp2_with (first | ((with_reducible refine gate_dst (N := 1) rfl ?_); refine bx_ (w := w) (N := 1) (cs := #[.int .i64 a0_0, .int .i64 a0_1, .int .i64 a0_2]) (t := 98) ?_; intro gb295 w9 BK295 n0_ GW295 GE295; clear HB; have HB := n0_; clear n0_; obtain ⟨hcz10_0, hcz10_1, hcz10_2⟩ := cz3_ BK295.out; obtain ⟨hfz10_0, hfz10_1, hfz10_2⟩ := fz3_ BK295.out) | (go_at_call 69; (with_reducible refine (computusref02_In.calls a0_0 true _ A2.out).mono ?_); rintro e w' ⟨rfl, ⟨nd, rfl⟩⟩; (try first | exact ⟨rfl, _, World.drewN_drewN _ _ _⟩ | exact ⟨rfl, _, Eq.trans (World.drewN_drewN _ _ _) (congrArg (World.drewN _) (Nat.add_assoc _ _ _))⟩)))
  repeat (go_quiet (first | ((with_reducible refine gate_dst (N := 1) rfl ?_); refine bx_ (w := w) (N := 1) (cs := #[.int .i64 a0_0, .int .i64 a0_1, .int .i64 a0_2]) (t := 98) ?_; intro gb295 w9 BK295 n0_ GW295 GE295; clear HB; have HB := n0_; clear n0_; obtain ⟨hcz10_0, hcz10_1, hcz10_2⟩ := cz3_ BK295.out; obtain ⟨hfz10_0, hfz10_1, hfz10_2⟩ := fz3_ BK295.out) | (go_at_call 69; (with_reducible refine (computusref02_In.calls a0_0 true _ A2.out).mono ?_); rintro e w' ⟨rfl, ⟨nd, rfl⟩⟩; (try first | exact ⟨rfl, _, World.drewN_drewN _ _ _⟩ | exact ⟨rfl, _, Eq.trans (World.drewN_drewN _ _ _) (congrArg (World.drewN _) (Nat.add_assoc _ _ _))⟩))); try go_wp2_with (first | ((with_reducible refine gate_dst (N := 1) rfl ?_); refine bx_ (w := w) (N := 1) (cs := #[.int .i64 a0_0, .int .i64 a0_1, .int .i64 a0_2]) (t := 98) ?_; intro gb295 w9 BK295 n0_ GW295 GE295; clear HB; have HB := n0_; clear n0_; obtain ⟨hcz10_0, hcz10_1, hcz10_2⟩ := cz3_ BK295.out; obtain ⟨hfz10_0, hfz10_1, hfz10_2⟩ := fz3_ BK295.out) | (go_at_call 69; (with_reducible refine (computusref02_In.calls a0_0 true _ A2.out).mono ?_); rintro e w' ⟨rfl, ⟨nd, rfl⟩⟩; (try first | exact ⟨rfl, _, World.drewN_drewN _ _ _⟩ | exact ⟨rfl, _, Eq.trans (World.drewN_drewN _ _ _) (congrArg (World.drewN _) (Nat.add_assoc _ _ _))⟩))))
  go_ret
  exact rt_
 rw [if_pos c4] at H
 have c4b0 : decide (1 ≤ a0_2) = true := decide_eq_true c4
 clear c4
 obtain ⟨t297, A5, H⟩ := bs_ H
 obtain ⟨t298, A6, H⟩ := bs_ H
 obtain rfl := Option.some.inj H
 go_enter Try.func81, Try.ntmps81
 go_wp2_with (first | ((with_reducible refine gate_dst (N := 1) rfl ?_); refine bx_ (w := w) (N := 1) (cs := #[.int .i64 a0_0, .int .i64 a0_1, .int .i64 a0_2]) (t := 98) ?_; intro gb295 w7 BK295 n0_ GW295 GE295; clear HB; have HB := n0_; clear n0_; obtain ⟨hcz8_0, hcz8_1, hcz8_2⟩ := cz3_ BK295.out; obtain ⟨hfz8_0, hfz8_1, hfz8_2⟩ := fz3_ BK295.out) | (go_at_call 69; (with_reducible refine (computusref02_In.calls a0_0 true _ A2.out).mono ?_); rintro e w' ⟨rfl, ⟨nd, rfl⟩⟩; (try first | exact ⟨rfl, _, World.drewN_drewN _ _ _⟩ | exact ⟨rfl, _, Eq.trans (World.drewN_drewN _ _ _) (congrArg (World.drewN _) (Nat.add_assoc _ _ _))⟩)) | (go_at_call 83; (with_reducible refine (computusref02_Leap.calls a0_0 t297 _ A5.out).mono ?_); rintro e w' ⟨rfl, ⟨nd, rfl⟩⟩; (try first | exact ⟨rfl, _, World.drewN_drewN _ _ _⟩ | exact ⟨rfl, _, Eq.trans (World.drewN_drewN _ _ _) (congrArg (World.drewN _) (Nat.add_assoc _ _ _))⟩)) | (go_at_call 71; (with_reducible refine (computusref02_Length.calls k t297 a0_1 t298 _ A6.out).mono ?_); rintro e w' ⟨rfl, ⟨nd, rfl⟩⟩; (try first | exact ⟨rfl, _, World.drewN_drewN _ _ _⟩ | exact ⟨rfl, _, Eq.trans (World.drewN_drewN _ _ _) (congrArg (World.drewN _) (Nat.add_assoc _ _ _))⟩)))
 repeat (go_quiet (first | ((with_reducible refine gate_dst (N := 1) rfl ?_); refine bx_ (w := w) (N := 1) (cs := #[.int .i64 a0_0, .int .i64 a0_1, .int .i64 a0_2]) (t := 98) ?_; intro gb295 w7 BK295 n0_ GW295 GE295; clear HB; have HB := n0_; clear n0_; obtain ⟨hcz8_0, hcz8_1, hcz8_2⟩ := cz3_ BK295.out; obtain ⟨hfz8_0, hfz8_1, hfz8_2⟩ := fz3_ BK295.out) | (go_at_call 69; (with_reducible refine (computusref02_In.calls a0_0 true _ A2.out).mono ?_); rintro e w' ⟨rfl, ⟨nd, rfl⟩⟩; (try first | exact ⟨rfl, _, World.drewN_drewN _ _ _⟩ | exact ⟨rfl, _, Eq.trans (World.drewN_drewN _ _ _) (congrArg (World.drewN _) (Nat.add_assoc _ _ _))⟩)) | (go_at_call 83; (with_reducible refine (computusref02_Leap.calls a0_0 t297 _ A5.out).mono ?_); rintro e w' ⟨rfl, ⟨nd, rfl⟩⟩; (try first | exact ⟨rfl, _, World.drewN_drewN _ _ _⟩ | exact ⟨rfl, _, Eq.trans (World.drewN_drewN _ _ _) (congrArg (World.drewN _) (Nat.add_assoc _ _ _))⟩)) | (go_at_call 71; (with_reducible refine (computusref02_Length.calls k t297 a0_1 t298 _ A6.out).mono ?_); rintro e w' ⟨rfl, ⟨nd, rfl⟩⟩; (try first | exact ⟨rfl, _, World.drewN_drewN _ _ _⟩ | exact ⟨rfl, _, Eq.trans (World.drewN_drewN _ _ _) (congrArg (World.drewN _) (Nat.add_assoc _ _ _))⟩))); try go_wp2_with (first | ((with_reducible refine gate_dst (N := 1) rfl ?_); refine bx_ (w := w) (N := 1) (cs := #[.int .i64 a0_0, .int .i64 a0_1, .int .i64 a0_2]) (t := 98) ?_; intro gb295 w7 BK295 n0_ GW295 GE295; clear HB; have HB := n0_; clear n0_; obtain ⟨hcz8_0, hcz8_1, hcz8_2⟩ := cz3_ BK295.out; obtain ⟨hfz8_0, hfz8_1, hfz8_2⟩ := fz3_ BK295.out) | (go_at_call 69; (with_reducible refine (computusref02_In.calls a0_0 true _ A2.out).mono ?_); rintro e w' ⟨rfl, ⟨nd, rfl⟩⟩; (try first | exact ⟨rfl, _, World.drewN_drewN _ _ _⟩ | exact ⟨rfl, _, Eq.trans (World.drewN_drewN _ _ _) (congrArg (World.drewN _) (Nat.add_assoc _ _ _))⟩)) | (go_at_call 83; (with_reducible refine (computusref02_Leap.calls a0_0 t297 _ A5.out).mono ?_); rintro e w' ⟨rfl, ⟨nd, rfl⟩⟩; (try first | exact ⟨rfl, _, World.drewN_drewN _ _ _⟩ | exact ⟨rfl, _, Eq.trans (World.drewN_drewN _ _ _) (congrArg (World.drewN _) (Nat.add_assoc _ _ _))⟩)) | (go_at_call 71; (with_reducible refine (computusref02_Length.calls k t297 a0_1 t298 _ A6.out).mono ?_); rintro e w' ⟨rfl, ⟨nd, rfl⟩⟩; (try first | exact ⟨rfl, _, World.drewN_drewN _ _ _⟩ | exact ⟨rfl, _, Eq.trans (World.drewN_drewN _ _ _) (congrArg (World.drewN _) (Nat.add_assoc _ _ _))⟩))))
 go_ret
 exact rt_
def computusref02_First.f (a0 : Int) : Option (Int) := some (wrap64 ((wrap64 ((wrap64 (365 * (wrap64 (a0 - 1)))) + (wrap64 (Int.tdiv (wrap64 (a0 - 1)) 4)))) - 1))
theorem computusref02_First.calls (a0 : Int) (r : Int) (w : World) (h : computusref02_First.f a0 = some r) :
  Calls Try.prog 82 #[.int .i64 a0] w fun e w' => e = .returned (.int .i64 r) ∧ Drawn0 w w' := by
 have H := h
 clear h
 unfold computusref02_First.f at H
 obtain rfl := Option.some.inj H
 go_enter Try.func82, Try.ntmps82
 go_wp2
 go_ret
 exact ⟨by first | rfl | (simp; done) | (simp [*]; done), by repeat (first | exact Drawn0.refl _ | apply Drawn0.step)⟩
def computusref02_ToDay.l0 : Nat → Int → Int → Int → Int → Int → Option (Int × Int)
 | 0, _, _, _, _, _ => none
 | k + 1, x4, x5, x300000, x300001, x300002 => if x5 < x300001 then ((computusref02_Leap.f x300000).bind fun t303 => ((computusref02_Length.f k t303 x5).bind fun t304 => (computusref02_ToDay.l0 k (wrap64 (x4 + t304)) (wrap64 (x5 + 1)) x300000 x300001 x300002))) else (some (wrap64 ((wrap64 (x4 + x300002)) - 1), 0))
def computusref02_ToDay.f (k : Nat) (a0_0 : Int) (a0_1 : Int) (a0_2 : Int) : Option (Int × Int) := (computusref02_In.f a0_0).bind fun t300 => (if t300 = true then ((computusref02_Valid.f k a0_0 a0_1 a0_2).bind fun t301 => (if t301 = true then ((computusref02_First.f a0_0).bind fun t302 => (computusref02_ToDay.l0 k t302 1 a0_0 a0_1 a0_2)) else (some (0, 2)))) else (some (0, 1)))
theorem computusref02_ToDay.calls (k : Nat) (a0_0 : Int) (a0_1 : Int) (a0_2 : Int) (r1 : Int) (r2 : Int) (w : World) (h : computusref02_ToDay.f k a0_0 a0_1 a0_2 = some (r1, r2)) :
  Calls Try.prog 77 #[.agg #[.int .i64 a0_0, .int .i64 a0_1, .int .i64 a0_2]] w fun e w' => e = .returned (.tuple #[.int .i64 r1, .int .i64 r2]) ∧ Below w.heap.size w w' := by
 have hu98 := Try.underlying98
 have HB := am_ (Below.refl w.heap.size w)
 have H := h
 clear h
 unfold computusref02_ToDay.f at H
 obtain ⟨t300, A2, H⟩ := bs_ H
 by_cases c3 : t300 = true
 rotate_left
 ·replace c3 := Bool.eq_false_iff.mpr c3
  subst c3
  replace H := if_ H
  simp only [Option.some.injEq, Prod.mk.injEq] at H
  obtain ⟨rfl, rfl⟩ := H
  go_enter Try.func77, Try.ntmps77
  go_wp2_with (first | ((with_reducible refine gate_dst (N := 1) rfl ?_); refine bx_ (w := w) (N := 1) (cs := #[.int .i64 a0_0, .int .i64 a0_1, .int .i64 a0_2]) (t := 98) ?_; intro gb299 w19 BK299 n0_ GW299 GE299; clear HB; have HB := n0_; clear n0_; obtain ⟨hcz20_0, hcz20_1, hcz20_2⟩ := cz3_ BK299.out; obtain ⟨hfz20_0, hfz20_1, hfz20_2⟩ := fz3_ BK299.out) | ((with_reducible refine gate_callee (f := 69) rfl ?_); refine gl_ (some 8) Try.func69 #[.int .i64 a0_0] ?_; (with_reducible refine (computusref02_In.calls a0_0 false _ A2.out).mono ?_); rintro e w' ⟨rfl, ⟨nd, rfl⟩⟩; refine ⟨_, rfl, ?_⟩))
  go_ret2
  exact rt_
 subst c3
 replace H := it_ H
 obtain ⟨t301, A4, H⟩ := bs_ H
 by_cases c5 : t301 = true
 rotate_left
 ·replace c5 := Bool.eq_false_iff.mpr c5
  subst c5
  replace H := if_ H
  simp only [Option.some.injEq, Prod.mk.injEq] at H
  obtain ⟨rfl, rfl⟩ := H
  go_enter Try.func77, Try.ntmps77
  go_wp2_with (first | ((with_reducible refine gate_dst (N := 1) rfl ?_); refine bx_ (w := w) (N := 1) (cs := #[.int .i64 a0_0, .int .i64 a0_1, .int .i64 a0_2]) (t := 98) ?_; intro gb299 w16 BK299 n0_ GW299 GE299; clear HB; have HB := n0_; clear n0_; obtain ⟨hcz17_0, hcz17_1, hcz17_2⟩ := cz3_ BK299.out; obtain ⟨hfz17_0, hfz17_1, hfz17_2⟩ := fz3_ BK299.out) | ((with_reducible refine gate_callee (f := 69) rfl ?_); refine gl_ (some 8) Try.func69 #[.int .i64 a0_0] ?_; (with_reducible refine (computusref02_In.calls a0_0 true _ A2.out).mono ?_); rintro e w' ⟨rfl, ⟨nd, rfl⟩⟩; refine ⟨_, rfl, ?_⟩) | ((with_reducible refine gate_callee (f := 81) rfl ?_); refine gl_ (some 11) Try.func81 #[.agg #[.int .i64 a0_0, .int .i64 a0_1, .int .i64 a0_2]] ?_; (with_reducible refine (computusref02_Valid.calls k a0_0 a0_1 a0_2 false _ A4.out).mono ?_); rintro e w18 ⟨rfl, hb⟩; refine ⟨_, rfl, ?_⟩; replace BK299 := bw_ BK299 hb; replace HB := bt_ hb; (try clear hb); (try clear hi)))
  go_ret2
  exact rt_
 subst c5
 replace H := it_ H
 obtain ⟨t302, A6, H⟩ := bs_ H
 have H' := am_ H
 clear H
 go_enter Try.func77, Try.ntmps77
 go_wp2_with (first | ((with_reducible refine gate_dst (N := 1) rfl ?_); refine bx_ (w := w) (N := 1) (cs := #[.int .i64 a0_0, .int .i64 a0_1, .int .i64 a0_2]) (t := 98) ?_; intro gb299 w7 BK299 n0_ GW299 GE299; clear HB; have HB := n0_; clear n0_; obtain ⟨hcz8_0, hcz8_1, hcz8_2⟩ := cz3_ BK299.out; obtain ⟨hfz8_0, hfz8_1, hfz8_2⟩ := fz3_ BK299.out) | ((with_reducible refine gate_callee (f := 69) rfl ?_); refine gl_ (some 8) Try.func69 #[.int .i64 a0_0] ?_; (with_reducible refine (computusref02_In.calls a0_0 true _ A2.out).mono ?_); rintro e w' ⟨rfl, ⟨nd, rfl⟩⟩; refine ⟨_, rfl, ?_⟩) | ((with_reducible refine gate_callee (f := 81) rfl ?_); refine gl_ (some 11) Try.func81 #[.agg #[.int .i64 a0_0, .int .i64 a0_1, .int .i64 a0_2]] ?_; (with_reducible refine (computusref02_Valid.calls k a0_0 a0_1 a0_2 true _ A4.out).mono ?_); rintro e w9 ⟨rfl, hb⟩; refine ⟨_, rfl, ?_⟩; replace BK299 := bw_ BK299 hb; replace HB := bt_ hb; (try clear hb); obtain ⟨hcz10_0, hcz10_1, hcz10_2⟩ := cz3_ BK299.out; obtain ⟨hfz10_0, hfz10_1, hfz10_2⟩ := fz3_ BK299.out) | ((with_reducible refine gate_callee (f := 82) rfl ?_); refine gl_ (some 15) Try.func82 #[.int .i64 a0_0] ?_; (with_reducible refine (computusref02_First.calls a0_0 t302 _ A6.out).mono ?_); rintro e w' ⟨rfl, ⟨nd, rfl⟩⟩; refine ⟨_, rfl, ?_⟩))
 go_loopg [4, 5] k (fun kq v4 v5 w' => ∃ (x4_1 : Int) (x5_1 : Int), v4 = .int .i64 x4_1 ∧ v5 = .int .i64 x5_1 ∧ Aside0 (computusref02_ToDay.l0 kq x4_1 x5_1 a0_0 a0_1 a0_2 = some (r1, r2)) ∧ Aside0 (kq ≤ k) ∧ Aside0 (w'.heap[gb299]? = some (.cells #[.int .i64 a0_0, .int .i64 a0_1, .int .i64 a0_2] 98 (0, 0))) ∧ Aside0 (Below w.heap.size w w'))
 case atStart => exact ⟨(t302), (1), rs_, rs_, H', ⟨Nat.le_refl _⟩, ⟨bk_ BK299.out⟩, ⟨bh_⟩⟩
 case round =>
  clear H'
  obtain ⟨x4_1, x5_1, rfl, rfl, HA, HK1, BK299, HB⟩ := hrel
  cases gk with
  | zero => exact absurd HA.out (by simp [computusref02_ToDay.l0])
  | succ k1 =>
   have H := HA.out
   clear HA
   simp only [computusref02_ToDay.l0] at H
   by_cases c11 : x5_1 < a0_1
   rotate_left
   ·rw [if_neg c11] at H
    have c11b0 : decide (x5_1 < a0_1) = false := decide_eq_false c11
    clear c11
    simp only [Option.some.injEq, Prod.mk.injEq] at H
    obtain ⟨rfl, rfl⟩ := H
    obtain ⟨hcz15_0, hcz15_1, hcz15_2⟩ := cz3_ BK299.out
    obtain ⟨hfz15_0, hfz15_1, hfz15_2⟩ := fz3_ BK299.out
    go_wp2
    go_ret2
    exact rt_
   rw [if_pos c11] at H
   have c11b0 : decide (x5_1 < a0_1) = true := decide_eq_true c11
   clear c11
   obtain ⟨t303, A12, H⟩ := bs_ H
   obtain ⟨t304, A13, H⟩ := bs_ H
   have H' := am_ H
   clear H
   obtain ⟨hcz14_0, hcz14_1, hcz14_2⟩ := cz3_ BK299.out
   obtain ⟨hfz14_0, hfz14_1, hfz14_2⟩ := fz3_ BK299.out
   go_wp2_with (first | ((with_reducible refine gate_callee (f := 83) rfl ?_); refine gl_ (some 25) Try.func83 #[.int .i64 a0_0] ?_; (with_reducible refine (computusref02_Leap.calls a0_0 t303 _ A12.out).mono ?_); rintro e w' ⟨rfl, ⟨nd, rfl⟩⟩; refine ⟨_, rfl, ?_⟩) | ((with_reducible refine gate_callee (f := 71) rfl ?_); refine gl_ (some 27) Try.func71 #[.bool t303, .int .i64 x5_1] ?_; (with_reducible refine (computusref02_Length.calls k1 t303 x5_1 t304 _ A13.out).mono ?_); rintro e w' ⟨rfl, ⟨nd, rfl⟩⟩; refine ⟨_, rfl, ?_⟩))
   go_roundg k1
   case measure => have := HK1.out; omega
   case rel => exact ⟨(wrap64 (x4_1 + t304)), (wrap64 (x5_1 + 1)), rs_, rs_, H', ⟨by have := HK1.out; omega⟩, ⟨bk_ BK299.out⟩, ⟨bh_⟩⟩
def computusref05_ToDay.f (k : Nat) (a0 : Int) (a1_0 : Int) (a1_1 : Int) (a1_2 : Int) : Option (Int × Int) := if a0 = 1 then ((computusref02_ToDay.f k a1_0 a1_1 a1_2).bind fun bt306 => (some (bt306.1, bt306.2))) else (if a0 = 2 then ((computusref03_ToDay.f k a1_0 a1_1 a1_2).bind fun bt308 => (some (bt308.1, bt308.2))) else (some (0, 3)))
theorem computusref05_ToDay.calls (k : Nat) (a0 : Int) (a1_0 : Int) (a1_1 : Int) (a1_2 : Int) (r1 : Int) (r2 : Int) (w : World) (h : computusref05_ToDay.f k a0 a1_0 a1_1 a1_2 = some (r1, r2)) :
  Calls Try.prog 67 #[.int .i64 a0, .agg #[.int .i64 a1_0, .int .i64 a1_1, .int .i64 a1_2]] w fun e w' => e = .returned (.tuple #[.int .i64 r1, .int .i64 r2]) ∧ Below w.heap.size w w' := by
 have hu98 := Try.underlying98
 have HB := am_ (Below.refl w.heap.size w)
 have H := h
 clear h
 unfold computusref05_ToDay.f at H
 by_cases c3 : a0 = 1
 ·rw [if_pos c3] at H
  have c3b0 : (a0 == 1) = true := beq_iff_eq.mpr c3
  have c3b1 : (a0 != 1) = false := bne_eq_false_iff_eq.mpr c3
  clear c3
  obtain ⟨⟨t306, t307⟩, A4, H⟩ := bs_ H
  dsimp only at H
  simp only [Option.some.injEq, Prod.mk.injEq] at H
  obtain ⟨rfl, rfl⟩ := H
  go_enter Try.func67, Try.ntmps67
  go_wp2_with (first | ((with_reducible refine gate_dst (N := 3) rfl ?_); refine bx_ (w := w) (N := 3) (cs := #[.int .i64 a1_0, .int .i64 a1_1, .int .i64 a1_2]) (t := 98) ?_; intro gb305 w5 BK305 n0_ GW305 GE305; clear HB; have HB := n0_; clear n0_; obtain ⟨hcz6_0, hcz6_1, hcz6_2⟩ := cz3_ BK305.out; obtain ⟨hfz6_0, hfz6_1, hfz6_2⟩ := fz3_ BK305.out) | ((with_reducible refine gate_callee (f := 77) rfl ?_); refine gl_ (some 9) Try.func77 #[.agg #[.int .i64 a1_0, .int .i64 a1_1, .int .i64 a1_2]] ?_; (with_reducible refine (computusref02_ToDay.calls k a1_0 a1_1 a1_2 t306 t307 _ A4.out).mono ?_); rintro e w7 ⟨rfl, hb⟩; refine ⟨_, rfl, ?_⟩; replace BK305 := bw_ BK305 hb; replace HB := bt_ hb; (try clear hb); (try clear hi)))
  go_ret2
  exact rt_
 rw [if_neg c3] at H
 have c3b0 : (a0 == 1) = false := beq_eq_false_iff_ne.mpr c3
 have c3b1 : (a0 != 1) = true := bne_iff_ne.mpr c3
 by_cases c8 : a0 = 2
 rotate_left
 ·rw [if_neg c8] at H
  have c8b0 : (a0 == 2) = false := beq_eq_false_iff_ne.mpr c8
  have c8b1 : (a0 != 2) = true := bne_iff_ne.mpr c8
  simp only [Option.some.injEq, Prod.mk.injEq] at H
  obtain ⟨rfl, rfl⟩ := H
  go_enter Try.func67, Try.ntmps67
  go_wp2_with (first | ((with_reducible refine gate_dst (N := 3) rfl ?_); refine bx_ (w := w) (N := 3) (cs := #[.int .i64 a1_0, .int .i64 a1_1, .int .i64 a1_2]) (t := 98) ?_; intro gb305 w13 BK305 n0_ GW305 GE305; clear HB; have HB := n0_; clear n0_))
  go_ret2
  exact rt_
 rw [if_pos c8] at H
 have c8b0 : (a0 == 2) = true := beq_iff_eq.mpr c8
 have c8b1 : (a0 != 2) = false := bne_eq_false_iff_eq.mpr c8
 clear c8
 obtain ⟨⟨t308, t309⟩, A9, H⟩ := bs_ H
 dsimp only at H
 simp only [Option.some.injEq, Prod.mk.injEq] at H
 obtain ⟨rfl, rfl⟩ := H
 go_enter Try.func67, Try.ntmps67
 go_wp2_with (first | ((with_reducible refine gate_dst (N := 3) rfl ?_); refine bx_ (w := w) (N := 3) (cs := #[.int .i64 a1_0, .int .i64 a1_1, .int .i64 a1_2]) (t := 98) ?_; intro gb305 w10 BK305 n0_ GW305 GE305; clear HB; have HB := n0_; clear n0_; obtain ⟨hcz11_0, hcz11_1, hcz11_2⟩ := cz3_ BK305.out; obtain ⟨hfz11_0, hfz11_1, hfz11_2⟩ := fz3_ BK305.out) | ((with_reducible refine gate_callee (f := 60) rfl ?_); refine gl_ (some 15) Try.func60 #[.agg #[.int .i64 a1_0, .int .i64 a1_1, .int .i64 a1_2]] ?_; (with_reducible refine (computusref03_ToDay.calls k a1_0 a1_1 a1_2 t308 t309 _ A9.out).mono ?_); rintro e w12 ⟨rfl, hb⟩; refine ⟨_, rfl, ?_⟩; replace BK305 := bw_ BK305 hb; replace HB := bt_ hb; (try clear hb); (try clear hi)))
 go_ret2
 exact rt_
mutual
def computusref02_FromDay.j0 : Nat → Int → Bool → Option (Int × Int × Int × Int)
 | 0, _, _ => none
 | k + 1, x0, x14 => if x14 = true then (some (0, 0, 0, 1)) else (computusref02_FromDay.l0 k x0 1 1000000000)
def computusref02_FromDay.l0 : Nat → Int → Int → Int → Option (Int × Int × Int × Int)
 | 0, _, _, _ => none
 | k + 1, x0, x4, x5 => if x4 < x5 then ((computusref02_First.f (wrap64 (Int.tdiv (wrap64 ((wrap64 (x4 + x5)) + 1)) 2))).bind fun t312 => (if t312 ≤ x0 then (computusref02_FromDay.l0 k x0 (wrap64 (Int.tdiv (wrap64 ((wrap64 (x4 + x5)) + 1)) 2)) x5) else (computusref02_FromDay.l0 k x0 x4 (wrap64 ((wrap64 (Int.tdiv (wrap64 ((wrap64 (x4 + x5)) + 1)) 2)) - 1))))) else ((computusref02_First.f x4).bind fun t313 => (computusref02_FromDay.l1 k x4 x4 1 (wrap64 ((wrap64 (x0 - t313)) + 1))))
def computusref02_FromDay.l1 : Nat → Int → Int → Int → Int → Option (Int × Int × Int × Int)
 | 0, _, _, _, _ => none
 | k + 1, x4, x315000, x315001, x315002 => (computusref02_Leap.f x4).bind fun t315 => ((computusref02_Length.f k t315 x315001).bind fun t316 => (if x315002 > t316 then ((computusref02_Leap.f x4).bind fun t317 => ((computusref02_Length.f k t317 x315001).bind fun t318 => (computusref02_FromDay.l1 k x4 x315000 (wrap64 (x315001 + 1)) (wrap64 (x315002 - t318))))) else (some (x315000, x315001, x315002, 0))))
end
def computusref02_FromDay.f (k : Nat) (a0 : Int) : Option (Int × Int × Int × Int) := if a0 < (-1) then (computusref02_FromDay.j0 k a0 true) else ((computusref02_First.f 1000000001).bind fun t311 => (computusref02_FromDay.j0 k a0 (decide (a0 ≥ t311))))
def computusref02_FromDay.T11 : Bool × List (List Nat × List Nat) := (true, [([], []), ([0], [0]), ([], []), ([2], [2]), ([], []), ([4], [4]), ([3, 5, 3], [3, 5]), ([1, 6], [1, 6])])
def computusref02_FromDay.B11 : List Nat := [0, 1, 0, 4, 0, 16, 60, 127]
theorem computusref02_FromDay.tab11 : rtab .any (opsOf Try.f84 11) = computusref02_FromDay.T11 := by kernel_rfl
theorem computusref02_FromDay.bits11 : waitsOk computusref02_FromDay.T11.2 computusref02_FromDay.B11 = true := by kernel_rfl
def computusref02_FromDay.T12 : Bool × List (List Nat × List Nat) := (true, [([], []), ([0], [0]), ([], []), ([2], [2]), ([], []), ([4], [4]), ([3, 5, 3], [3, 5]), ([1, 6], [1, 6]), ([0, 1, 2, 3, 4, 5, 6, 7], []), ([8, 7, 6, 0, 1, 2, 3, 4, 5, 6, 7], [7, 8])])
def computusref02_FromDay.B12 : List Nat := [0, 1, 0, 4, 0, 16, 60, 127, 255, 511]
theorem computusref02_FromDay.tab12 : rtab .any (opsOf Try.f84 12) = computusref02_FromDay.T12 := by kernel_rfl
theorem computusref02_FromDay.bits12 : waitsOk computusref02_FromDay.T12.2 computusref02_FromDay.B12 = true := by kernel_rfl
theorem computusref02_FromDay.calls (k : Nat) (a0 : Int) (r1 : Int) (r2 : Int) (r3 : Int) (r4 : Int) (w : World) (h : computusref02_FromDay.f k a0 = some (r1, r2, r3, r4)) :
  Calls Try.prog 84 #[.int .i64 a0] w fun e w' => e = .returned (.tuple #[.agg #[.int .i64 r1, .int .i64 r2, .int .i64 r3], .int .i64 r4]) ∧ Below w.heap.size w w' := by
 have hu98 := Try.underlying98
 have HB := am_ (Below.refl w.heap.size w)
 have H := h
 clear h
 unfold computusref02_FromDay.f at H
 have HC2 := am_ H
 clear H
 go_enter Try.func84, Try.ntmps84
 go_upto_region 1 with (first | ((with_reducible refine gate_dst (N := 2) rfl ?_); refine bx_ (w := w) (N := 2) (cs := #[.int .i64 0, .int .i64 0, .int .i64 0]) (t := 98) ?_; intro gb310 w3 BK310 n0_ GW310 GE310; clear HB; have HB := n0_; clear n0_))
 (try simp only [Act.put, sA_, sZ_, sS_])
 go_cut [14] (fun v14 wc => ∃ (kq : Nat) (x14_1 : Bool), v14 = .bool x14_1 ∧ Aside0 (computusref02_FromDay.j0 kq a0 x14_1 = some (r1, r2, r3, r4)) ∧ Aside0 (kq ≤ k) ∧ Aside0 (wc.heap[gb310]? = some (.cells #[.int .i64 0, .int .i64 0, .int .i64 0] 98 (0, 0))) ∧ Aside0 (Below w.heap.size w wc))
 case first =>
  have H := HC2.out
  clear HC2
  by_cases c4 : a0 < (-1)
  ·rw [if_pos c4] at H
   have c4b0 : decide (a0 < (-1)) = true := decide_eq_true c4
   clear c4
   (first | rw [c4b0] | (simp only [i64_w, i32_w]; rw [c4b0]) | skip)
   have H' := am_ H
   clear H
   go_wp2
   go_meet
   case rel => exact ⟨_, (true), rs_, H', ⟨by first | omega | exact Nat.le_refl _⟩, ⟨bk_ BK310.out⟩, ⟨bh_⟩⟩
  rw [if_neg c4] at H
  have c4b0 : decide (a0 < (-1)) = false := decide_eq_false c4
  clear c4
  (first | rw [c4b0] | (simp only [i64_w, i32_w]; rw [c4b0]) | skip)
  obtain ⟨t311, A5, H⟩ := bs_ H
  have H' := am_ H
  clear H
  go_wp2_with (first | (go_at_call 82; (with_reducible refine (computusref02_First.calls 1000000001 t311 _ A5.out).mono ?_); rintro e w' ⟨rfl, ⟨nd, rfl⟩⟩))
  go_meet
  case rel => exact ⟨_, (decide (a0 ≥ t311)), rs_, H', ⟨by first | omega | exact Nat.le_refl _⟩, ⟨bk_ BK310.out⟩, ⟨bh_⟩⟩
 case rest =>
  clear HC2
  obtain ⟨kq, x14_1, rfl, HA, HJ1, BK310, HB⟩ := hcut
  cases kq with
  | zero => exact absurd HA.out (by simp [computusref02_FromDay.j0])
  | succ kj1 =>
   have H := HA.out
   clear HA
   simp only [computusref02_FromDay.j0] at H
   by_cases c6 : x14_1 = true
   ·subst c6
    replace H := it_ H
    simp only [Option.some.injEq, Prod.mk.injEq] at H
    obtain ⟨rfl, rfl, rfl, rfl⟩ := H
    obtain ⟨hcz7_0, hcz7_1, hcz7_2⟩ := cz3_ BK310.out
    obtain ⟨hfz7_0, hfz7_1, hfz7_2⟩ := fz3_ BK310.out
    go_wp2
    refine bodyPost_ret (results_ct rfl _ _ gb310 98 #[.int .i64 0, .int .i64 0, .int .i64 0] (0, 0) _ rfl (by refine bp_ ?_; refine blk_put (cs := #[.int .i64 0, .int .i64 0, .int .i64 0]) ?_ 2 _ rfl; refine bp_ ?_; refine blk_put (cs := #[.int .i64 0, .int .i64 0, .int .i64 0]) ?_ 1 _ rfl; refine bp_ ?_; refine blk_put (cs := #[.int .i64 0, .int .i64 0, .int .i64 0]) ?_ 0 _ rfl; exact bk_ BK310.out) Try.underlying98 rfl (by kernel_rfl)) rfl ?_
    exact rt_
   replace c6 := Bool.eq_false_iff.mpr c6
   subst c6
   replace H := if_ H
   have H' := am_ H
   clear H
   go_wp2
   go_loopg [4, 5] kj1 (fun kq v4 v5 w' => ∃ (x4_2 : Int) (x5_2 : Int), v4 = .int .i64 x4_2 ∧ v5 = .int .i64 x5_2 ∧ Aside0 (computusref02_FromDay.l0 kq a0 x4_2 x5_2 = some (r1, r2, r3, r4)) ∧ Aside0 (kq ≤ kj1) ∧ Aside0 (w'.heap[gb310]? = some (.cells #[.int .i64 0, .int .i64 0, .int .i64 0] 98 (0, 0))) ∧ Aside0 (Below w.heap.size w w'))
   case atStart => exact ⟨(1), (1000000000), rs_, rs_, H', ⟨Nat.le_refl _⟩, ⟨bk_ BK310.out⟩, ⟨bh_⟩⟩
   case round =>
    clear H'
    obtain ⟨x4_2, x5_2, rfl, rfl, HA, HK2, BK310, HB⟩ := hrel
    cases gk with
    | zero => exact absurd HA.out (by simp [computusref02_FromDay.l0])
    | succ k2 =>
     have H := HA.out
     clear HA
     simp only [computusref02_FromDay.l0] at H
     by_cases c8 : x4_2 < x5_2
     ·rw [if_pos c8] at H
      have c8b0 : decide (x4_2 < x5_2) = true := decide_eq_true c8
      clear c8
      obtain ⟨t312, A9, H⟩ := bs_ H
      by_cases c10 : t312 ≤ a0
      ·rw [if_pos c10] at H
       have c10b0 : decide (t312 ≤ a0) = true := decide_eq_true c10
       clear c10
       have H' := am_ H
       clear H
       go_wp2_with (first | ((with_reducible refine gate_callee (f := 82) rfl ?_); refine gl_ (some 25) Try.func82 #[.int .i64 (wrap64 (Int.tdiv (wrap64 ((wrap64 (x4_2 + x5_2)) + 1)) 2))] ?_; (with_reducible refine (computusref02_First.calls (wrap64 (Int.tdiv (wrap64 ((wrap64 (x4_2 + x5_2)) + 1)) 2)) t312 _ A9.out).mono ?_); rintro e w' ⟨rfl, ⟨nd, rfl⟩⟩; refine ⟨_, rfl, ?_⟩))
       go_roundg k2
       case measure => have := HJ1.out; have := HK2.out; omega
       case rel => exact ⟨(wrap64 (Int.tdiv (wrap64 ((wrap64 (x4_2 + x5_2)) + 1)) 2)), (x5_2), rs_, rs_, H', ⟨by have := HJ1.out; have := HK2.out; omega⟩, ⟨bk_ BK310.out⟩, ⟨bh_⟩⟩
      rw [if_neg c10] at H
      have c10b0 : decide (t312 ≤ a0) = false := decide_eq_false c10
      clear c10
      have H' := am_ H
      clear H
      go_wp2_with (first | ((with_reducible refine gate_callee (f := 82) rfl ?_); refine gl_ (some 25) Try.func82 #[.int .i64 (wrap64 (Int.tdiv (wrap64 ((wrap64 (x4_2 + x5_2)) + 1)) 2))] ?_; (with_reducible refine (computusref02_First.calls (wrap64 (Int.tdiv (wrap64 ((wrap64 (x4_2 + x5_2)) + 1)) 2)) t312 _ A9.out).mono ?_); rintro e w' ⟨rfl, ⟨nd, rfl⟩⟩; refine ⟨_, rfl, ?_⟩))
      go_roundg k2
      case measure => have := HJ1.out; have := HK2.out; omega
      case rel => exact ⟨(x4_2), (wrap64 ((wrap64 (Int.tdiv (wrap64 ((wrap64 (x4_2 + x5_2)) + 1)) 2)) - 1)), rs_, rs_, H', ⟨by have := HJ1.out; have := HK2.out; omega⟩, ⟨bk_ BK310.out⟩, ⟨bh_⟩⟩
     rw [if_neg c8] at H
     have c8b0 : decide (x4_2 < x5_2) = false := decide_eq_false c8
     clear c8
     obtain ⟨t313, A11, H⟩ := bs_ H
     have H' := am_ H
     clear H
     go_wp2_with (first | ((with_reducible refine gate_callee (f := 82) rfl ?_); refine gl_ (some 34) Try.func82 #[.int .i64 x4_2] ?_; (with_reducible refine (computusref02_First.calls x4_2 t313 _ A11.out).mono ?_); rintro e w' ⟨rfl, ⟨nd, rfl⟩⟩; refine ⟨_, rfl, ?_⟩; (try (rw [drewN_self wr]; generalize hq_ : World.drewN wr _ = wr; have n0_ : Aside0 (wr.heap[gb310]? = some (.cells #[.int .i64 0, .int .i64 0, .int .i64 0] 98 (0, 0))) := ⟨by rw [← hq_]; exact (bk_ BK310.out)⟩; have n1_ : Aside0 (Below w.heap.size w wr) := ⟨by rw [← hq_]; exact bh_⟩; clear BK310 HB hq_; have BK310 := n0_; have HB := n1_; clear n0_ n1_))) | ((with_reducible refine gate_dst (N := 7) rfl ?_); refine be_ (N := 7) (cs := #[.int .i64 0, .int .i64 0, .int .i64 0]) (t := 98) ?_; intro gb314 hg w12 hbox hb; have BK314 := am_ (hbox); have GW314 := gw_ (w := w) hg; have GE314 := gw_ (w := w) hg; replace HB := bt_ hb; have NB310_314 := ne_ hg BK310; have NB314_310 := nf_ hg BK310; replace BK310 := bw_ BK310 hb; clear hb hbox hg; have hnb13 := NB314_310.out; have hnc13 := NB310_314.out; obtain ⟨hcz14_0, hcz14_1, hcz14_2⟩ := cz3_ BK314.out; obtain ⟨hfz14_0, hfz14_1, hfz14_2⟩ := fz3_ BK314.out))
     go_loopg [] k2 (fun kq w' => ∃ (x315001_3 : Int) (x315002_3 : Int), Aside0 (computusref02_FromDay.l1 kq x4_2 x4_2 x315001_3 x315002_3 = some (r1, r2, r3, r4)) ∧ Aside0 (kq ≤ k2) ∧ Aside0 (w'.heap[gb310]? = some (.cells #[.int .i64 0, .int .i64 0, .int .i64 0] 98 (0, 0))) ∧ Aside0 (w'.heap[gb314]? = some (.cells #[.int .i64 x4_2, .int .i64 x315001_3, .int .i64 x315002_3] 98 (0, 0))) ∧ Aside0 (Below w.heap.size w w'))
     case atStart => exact ⟨(1), (wrap64 ((wrap64 (a0 - t313)) + 1)), H', ⟨Nat.le_refl _⟩, ⟨bf1_ NB310_314 BK310⟩, ⟨by refine bp_ ?_; refine blk_put (cs := #[.int .i64 x4_2, .int .i64 1, .int .i64 0]) ?_ 2 _ rfl; refine bp_ ?_; refine blk_put (cs := #[.int .i64 x4_2, .int .i64 0, .int .i64 0]) ?_ 1 _ rfl; refine bp_ ?_; refine blk_put (cs := #[.int .i64 0, .int .i64 0, .int .i64 0]) ?_ 0 _ rfl; exact bk_ BK314.out⟩, ⟨bh_⟩⟩
     case round =>
      clear H'
      obtain ⟨x315001_3, x315002_3, HA, HK3, BK310, BK314, HB⟩ := hrel
      cases gk with
      | zero => exact absurd HA.out (by simp [computusref02_FromDay.l1])
      | succ k3 =>
       have H := HA.out
       clear HA
       simp only [computusref02_FromDay.l1] at H
       obtain ⟨t315, A15, H⟩ := bs_ H
       obtain ⟨t316, A16, H⟩ := bs_ H
       by_cases c17 : x315002_3 > t316
       rotate_left
       ·rw [if_neg c17] at H
        have c17b0 : decide (t316 < x315002_3) = false := decide_eq_false c17
        clear c17
        simp only [Option.some.injEq, Prod.mk.injEq] at H
        obtain ⟨rfl, rfl, rfl, rfl⟩ := H
        try go_wp2
        replace BK310 := am_ (blk_drew BK310.out)
        replace BK314 := am_ (blk_drew BK314.out)
        replace HB := am_ (below_drew1 HB.out)
        refine start_ (n := 8) (S := fun w' => w'.cell? ⟨gb314, 0, none⟩ = some (.int .i64 x4_2) ∧ w'.cell? ⟨gb314, 1, none⟩ = some (.int .i64 x315001_3) ∧ w'.cell? ⟨gb314, 2, none⟩ = some (.int .i64 x315002_3)) (ds := []) (bf_ 8 0) (by kernel_rfl) rfl rfl (cz3_ BK314.out) (fun hHeld => ?_); refine with_tabW computusref02_FromDay.tab11 computusref02_FromDay.bits11 (fun HT_ HW_ => ?_)
        generalize wr.drew = w25 at BK310 BK314 HB hHeld ⊢
        refine pu_ 0 (some 38) (bf_ 8 1) HT_.out ?_
        refine pu_ 2 (some 40) (bf_ 8 5) HT_.out ?_
        refine pu_ 4 (some 42) (bf_ 8 21) HT_.out ?_
        refine ta_ 1 (some 39) (bf_ 8 23) HT_.out HW_.out hHeld ?_
        refine ta_ 5 (some 43) (bf_ 8 55) HT_.out HW_.out hHeld ?_
        refine one_ (i := 3) (N := some 41) (bf_ 8 63) rfl rfl (one_of HT_.out (by kernel_rfl)) (by decide) (fun K hK => ?_)
        refine gs_ Try.func83 #[.int .i64 x4_2] ?_
        with_reducible refine (computusref02_Leap.calls x4_2 t315 _ A15.out).mono ?_
        rintro e w' ⟨rfl, ⟨nd, rfl⟩⟩
        refine ⟨_, rfl, ?_⟩
        refine hK.out _ _ (by first | exact (cz3_ BK314.out) | exact hHeld) (fun hHeld => ?_)
        clear hK K
        refine norm_ (a' := ?_) ?_ ?_
        rotate_left
        ·show Act.put _ (some 41) _ = _
         simp only [Act.put, sA_, sZ_, sS_, i64_w, i32_w]
         rfl
        refine one_ (i := 6) (N := some 44) (bf_ 8 127) rfl rfl (one_of HT_.out (by kernel_rfl)) (by decide) (fun K hK => ?_)
        refine gs_ Try.func71 #[.bool t315, .int .i64 x315001_3] ?_
        with_reducible refine (computusref02_Length.calls k3 t315 x315001_3 t316 _ A16.out).mono ?_
        rintro e w' ⟨rfl, ⟨nd, rfl⟩⟩
        refine ⟨_, rfl, ?_⟩
        refine hK.out _ _ (by first | exact (cz3_ BK314.out) | exact hHeld) (fun hHeld => ?_)
        clear hK K
        refine norm_ (a' := ?_) ?_ ?_
        rotate_left
        ·show Act.put _ (some 44) _ = _
         simp only [Act.put, sA_, sZ_, sS_, i64_w, i32_w]
         rfl
        refine pu_ 7 (some 45) (bf_ 8 255) HT_.out ?_
        refine done_ (done_of HT_.out (by kernel_rfl)) ?_
        have hnb26 := NB314_310.out
        have hnc26 := NB310_314.out
        obtain ⟨hcz27_0, hcz27_1, hcz27_2⟩ := cz3_ BK314.out
        obtain ⟨hfz27_0, hfz27_1, hfz27_2⟩ := fz3_ BK314.out
        obtain ⟨hcz28_0, hcz28_1, hcz28_2⟩ := cz3_ BK310.out
        obtain ⟨hfz28_0, hfz28_1, hfz28_2⟩ := fz3_ BK310.out
        try go_wp2
        refine bodyPost_ret (results_ct rfl _ _ gb310 98 #[.int .i64 x4_2, .int .i64 x315001_3, .int .i64 x315002_3] (0, 0) _ rfl (by refine bp_ ?_; refine blk_put (cs := #[.int .i64 x4_2, .int .i64 x315001_3, .int .i64 0]) ?_ 2 _ rfl; refine bp_ ?_; refine blk_put (cs := #[.int .i64 x4_2, .int .i64 0, .int .i64 0]) ?_ 1 _ rfl; refine bp_ ?_; refine blk_put (cs := #[.int .i64 0, .int .i64 0, .int .i64 0]) ?_ 0 _ rfl; exact bk_ BK310.out) Try.underlying98 rfl (by kernel_rfl)) rfl ?_
        exact rt_
       rw [if_pos c17] at H
       have c17b0 : decide (t316 < x315002_3) = true := decide_eq_true c17
       clear c17
       obtain ⟨t317, A18, H⟩ := bs_ H
       obtain ⟨t318, A19, H⟩ := bs_ H
       have H' := am_ H
       clear H
       try go_wp2
       replace BK310 := am_ (blk_drew BK310.out)
       replace BK314 := am_ (blk_drew BK314.out)
       replace HB := am_ (below_drew1 HB.out)
       refine start_ (n := 8) (S := fun w' => w'.cell? ⟨gb314, 0, none⟩ = some (.int .i64 x4_2) ∧ w'.cell? ⟨gb314, 1, none⟩ = some (.int .i64 x315001_3) ∧ w'.cell? ⟨gb314, 2, none⟩ = some (.int .i64 x315002_3)) (ds := []) (bf_ 8 0) (by kernel_rfl) rfl rfl (cz3_ BK314.out) (fun hHeld => ?_); refine with_tabW computusref02_FromDay.tab11 computusref02_FromDay.bits11 (fun HT_ HW_ => ?_)
       generalize wr.drew = w20 at BK310 BK314 HB hHeld ⊢
       refine pu_ 0 (some 38) (bf_ 8 1) HT_.out ?_
       refine pu_ 2 (some 40) (bf_ 8 5) HT_.out ?_
       refine pu_ 4 (some 42) (bf_ 8 21) HT_.out ?_
       refine ta_ 1 (some 39) (bf_ 8 23) HT_.out HW_.out hHeld ?_
       refine ta_ 5 (some 43) (bf_ 8 55) HT_.out HW_.out hHeld ?_
       refine one_ (i := 3) (N := some 41) (bf_ 8 63) rfl rfl (one_of HT_.out (by kernel_rfl)) (by decide) (fun K hK => ?_)
       refine gs_ Try.func83 #[.int .i64 x4_2] ?_
       with_reducible refine (computusref02_Leap.calls x4_2 t315 _ A15.out).mono ?_
       rintro e w' ⟨rfl, ⟨nd, rfl⟩⟩
       refine ⟨_, rfl, ?_⟩
       refine hK.out _ _ (by first | exact (cz3_ BK314.out) | exact hHeld) (fun hHeld => ?_)
       clear hK K
       refine norm_ (a' := ?_) ?_ ?_
       rotate_left
       ·show Act.put _ (some 41) _ = _
        simp only [Act.put, sA_, sZ_, sS_, i64_w, i32_w]
        rfl
       refine one_ (i := 6) (N := some 44) (bf_ 8 127) rfl rfl (one_of HT_.out (by kernel_rfl)) (by decide) (fun K hK => ?_)
       refine gs_ Try.func71 #[.bool t315, .int .i64 x315001_3] ?_
       with_reducible refine (computusref02_Length.calls k3 t315 x315001_3 t316 _ A16.out).mono ?_
       rintro e w' ⟨rfl, ⟨nd, rfl⟩⟩
       refine ⟨_, rfl, ?_⟩
       refine hK.out _ _ (by first | exact (cz3_ BK314.out) | exact hHeld) (fun hHeld => ?_)
       clear hK K
       refine norm_ (a' := ?_) ?_ ?_
       rotate_left
       ·show Act.put _ (some 44) _ = _
        simp only [Act.put, sA_, sZ_, sS_, i64_w, i32_w]
        rfl
       refine pu_ 7 (some 45) (bf_ 8 255) HT_.out ?_
       refine done_ (done_of HT_.out (by kernel_rfl)) ?_
       try go_wp2
       (try (rw [drewN_self w20]; generalize hq_ : World.drewN w20 _ = w20; have n0_ : Aside0 (w20.heap[gb310]? = some (.cells #[.int .i64 0, .int .i64 0, .int .i64 0] 98 (0, 0))) := ⟨by rw [← hq_]; exact (bk_ BK310.out)⟩; have n1_ : Aside0 (w20.heap[gb314]? = some (.cells #[.int .i64 x4_2, .int .i64 x315001_3, .int .i64 x315002_3] 98 (0, 0))) := ⟨by rw [← hq_]; exact (bk_ BK314.out)⟩; have n2_ : Aside0 (Below w.heap.size w w20) := ⟨by rw [← hq_]; exact bh_⟩; clear BK310 BK314 HB hq_; have BK310 := n0_; have BK314 := n1_; have HB := n2_; clear n0_ n1_ n2_))
       (try (rw [drewN_self w20]; generalize hq_ : World.drewN w20 _ = w20; have n0_ : Aside0 (w20.heap[gb310]? = some (.cells #[.int .i64 0, .int .i64 0, .int .i64 0] 98 (0, 0))) := ⟨by rw [← hq_]; exact (bk_ BK310.out)⟩; have n1_ : Aside0 (w20.heap[gb314]? = some (.cells #[.int .i64 x4_2, .int .i64 x315001_3, .int .i64 x315002_3] 98 (0, 0))) := ⟨by rw [← hq_]; exact (bk_ BK314.out)⟩; have n2_ : Aside0 (Below w.heap.size w w20) := ⟨by rw [← hq_]; exact bh_⟩; clear BK310 BK314 HB hq_; have BK310 := n0_; have BK314 := n1_; have HB := n2_; clear n0_ n1_ n2_))
       replace BK310 := am_ (blk_drew BK310.out)
       replace BK314 := am_ (blk_drew BK314.out)
       replace HB := am_ (below_drew1 HB.out)
       refine start_ (n := 10) (S := fun w' => w'.cell? ⟨gb314, 0, none⟩ = some (.int .i64 x4_2) ∧ w'.cell? ⟨gb314, 1, none⟩ = some (.int .i64 x315001_3) ∧ w'.cell? ⟨gb314, 2, none⟩ = some (.int .i64 x315002_3)) (ds := [9]) (bf_ 10 0) (by kernel_rfl) rfl rfl (cz3_ BK314.out) (fun hHeld => ?_); refine with_tabW computusref02_FromDay.tab12 computusref02_FromDay.bits12 (fun HT_ HW_ => ?_)
       generalize w20.drew = w21 at BK310 BK314 HB hHeld ⊢
       refine pu_ 0 (some 46) (bf_ 10 1) HT_.out ?_
       refine pu_ 2 (some 48) (bf_ 10 5) HT_.out ?_
       refine pu_ 4 (some 50) (bf_ 10 21) HT_.out ?_
       refine ta_ 1 (some 47) (bf_ 10 23) HT_.out HW_.out hHeld ?_
       refine ta_ 5 (some 51) (bf_ 10 55) HT_.out HW_.out hHeld ?_
       refine one_ (i := 3) (N := some 49) (bf_ 10 63) rfl rfl (one_of HT_.out (by kernel_rfl)) (by decide) (fun K hK => ?_)
       refine gs_ Try.func83 #[.int .i64 x4_2] ?_
       with_reducible refine (computusref02_Leap.calls x4_2 t317 _ A18.out).mono ?_
       rintro e w' ⟨rfl, ⟨nd, rfl⟩⟩
       refine ⟨_, rfl, ?_⟩
       refine hK.out _ _ (by first | exact (cz3_ BK314.out) | exact hHeld) (fun hHeld => ?_)
       clear hK K
       refine norm_ (a' := ?_) ?_ ?_
       rotate_left
       ·show Act.put _ (some 49) _ = _
        simp only [Act.put, sA_, sZ_, sS_, i64_w, i32_w]
        rfl
       refine one_ (i := 6) (N := some 52) (bf_ 10 127) rfl rfl (one_of HT_.out (by kernel_rfl)) (by decide) (fun K hK => ?_)
       refine gs_ Try.func71 #[.bool t317, .int .i64 x315001_3] ?_
       with_reducible refine (computusref02_Length.calls k3 t317 x315001_3 t318 _ A19.out).mono ?_
       rintro e w' ⟨rfl, ⟨nd, rfl⟩⟩
       refine ⟨_, rfl, ?_⟩
       refine hK.out _ _ (by first | exact (cz3_ BK314.out) | exact hHeld) (fun hHeld => ?_)
       clear hK K
       refine norm_ (a' := ?_) ?_ ?_
       rotate_left
       ·show Act.put _ (some 52) _ = _
        simp only [Act.put, sA_, sZ_, sS_, i64_w, i32_w]
        rfl
       refine pu_ 7 (some 53) (bf_ 10 255) HT_.out ?_
       refine pu_ 8 (some 54) (bf_ 10 511) HT_.out ?_
       refine last_ (i := 9) (N := none) (bf_ 10 1023) rfl rfl (one_of HT_.out (by kernel_rfl)) (by decide) (fun K hK => ?_)
       have hs22 : w21.cell? ⟨gb314, 2, none⟩ = some (.int .i64 x315002_3) := (blk_cell BK314.out 2).trans rfl
       have hfs22 := blk_frozen BK314.out 2
       have hns22_0 := NB310_314.out
       have hms22_0 := NB314_310.out
       refine skip_ (w1 := ?_) (by rfl) rfl ?_ ?_
       rotate_left
       ·go_simp
        rfl
       refine hK.out _ _ ?_
       clear hK K
       refine done_ (done_of HT_.out (by kernel_rfl)) ?_
       have hnb23 := NB314_310.out
       have hnc23 := NB310_314.out
       obtain ⟨hcz24_0, hcz24_1, hcz24_2⟩ := cz3_ BK314.out
       obtain ⟨hfz24_0, hfz24_1, hfz24_2⟩ := fz3_ BK314.out
       try go_wp2
       go_roundg k3
       case measure => have := HJ1.out; have := HK2.out; have := HK3.out; omega
       case rel => exact ⟨(wrap64 (x315001_3 + 1)), (wrap64 (x315002_3 - t318)), H', ⟨by have := HJ1.out; have := HK2.out; have := HK3.out; omega⟩, ⟨bf1_ NB310_314 BK310⟩, ⟨by refine bp_ ?_; refine blk_put (cs := #[.int .i64 x4_2, .int .i64 x315001_3, .int .i64 (wrap64 (x315002_3 - t318))]) ?_ 1 _ rfl; refine bp_ ?_; refine blk_put (cs := #[.int .i64 x4_2, .int .i64 x315001_3, .int .i64 x315002_3]) ?_ 2 _ rfl; exact bk_ BK314.out⟩, ⟨bh_⟩⟩
mutual
def computusref03_FromDay.j0 : Nat → Int → Bool → Option (Int × Int × Int × Int)
 | 0, _, _ => none
 | k + 1, x0, x14 => if x14 = true then (some (0, 0, 0, 1)) else (computusref03_FromDay.l0 k x0 1 1000000000)
def computusref03_FromDay.l0 : Nat → Int → Int → Int → Option (Int × Int × Int × Int)
 | 0, _, _, _ => none
 | k + 1, x0, x4, x5 => if x4 < x5 then ((computusref03_First.f (wrap64 (Int.tdiv (wrap64 ((wrap64 (x4 + x5)) + 1)) 2))).bind fun t321 => (if t321 ≤ x0 then (computusref03_FromDay.l0 k x0 (wrap64 (Int.tdiv (wrap64 ((wrap64 (x4 + x5)) + 1)) 2)) x5) else (computusref03_FromDay.l0 k x0 x4 (wrap64 ((wrap64 (Int.tdiv (wrap64 ((wrap64 (x4 + x5)) + 1)) 2)) - 1))))) else ((computusref03_First.f x4).bind fun t322 => (computusref03_FromDay.l1 k x4 x4 1 (wrap64 ((wrap64 (x0 - t322)) + 1))))
def computusref03_FromDay.l1 : Nat → Int → Int → Int → Int → Option (Int × Int × Int × Int)
 | 0, _, _, _, _ => none
 | k + 1, x4, x324000, x324001, x324002 => (computusref03_Leap.f x4).bind fun t324 => ((computusref02_Length.f k t324 x324001).bind fun t325 => (if x324002 > t325 then ((computusref03_Leap.f x4).bind fun t326 => ((computusref02_Length.f k t326 x324001).bind fun t327 => (computusref03_FromDay.l1 k x4 x324000 (wrap64 (x324001 + 1)) (wrap64 (x324002 - t327))))) else (some (x324000, x324001, x324002, 0))))
end
def computusref03_FromDay.f (k : Nat) (a0 : Int) : Option (Int × Int × Int × Int) := if a0 < 1 then (computusref03_FromDay.j0 k a0 true) else ((computusref03_First.f 1000000001).bind fun t320 => (computusref03_FromDay.j0 k a0 (decide (a0 ≥ t320))))
def computusref03_FromDay.T11 : Bool × List (List Nat × List Nat) := (true, [([], []), ([0], [0]), ([], []), ([2], [2]), ([], []), ([4], [4]), ([3, 5, 3], [3, 5]), ([1, 6], [1, 6])])
def computusref03_FromDay.B11 : List Nat := [0, 1, 0, 4, 0, 16, 60, 127]
theorem computusref03_FromDay.tab11 : rtab .any (opsOf Try.f85 11) = computusref03_FromDay.T11 := by kernel_rfl
theorem computusref03_FromDay.bits11 : waitsOk computusref03_FromDay.T11.2 computusref03_FromDay.B11 = true := by kernel_rfl
def computusref03_FromDay.T12 : Bool × List (List Nat × List Nat) := (true, [([], []), ([0], [0]), ([], []), ([2], [2]), ([], []), ([4], [4]), ([3, 5, 3], [3, 5]), ([1, 6], [1, 6]), ([0, 1, 2, 3, 4, 5, 6, 7], []), ([8, 7, 6, 0, 1, 2, 3, 4, 5, 6, 7], [7, 8])])
def computusref03_FromDay.B12 : List Nat := [0, 1, 0, 4, 0, 16, 60, 127, 255, 511]
theorem computusref03_FromDay.tab12 : rtab .any (opsOf Try.f85 12) = computusref03_FromDay.T12 := by kernel_rfl
theorem computusref03_FromDay.bits12 : waitsOk computusref03_FromDay.T12.2 computusref03_FromDay.B12 = true := by kernel_rfl
theorem computusref03_FromDay.calls (k : Nat) (a0 : Int) (r1 : Int) (r2 : Int) (r3 : Int) (r4 : Int) (w : World) (h : computusref03_FromDay.f k a0 = some (r1, r2, r3, r4)) :
  Calls Try.prog 85 #[.int .i64 a0] w fun e w' => e = .returned (.tuple #[.agg #[.int .i64 r1, .int .i64 r2, .int .i64 r3], .int .i64 r4]) ∧ Below w.heap.size w w' := by
 have hu98 := Try.underlying98
 have HB := am_ (Below.refl w.heap.size w)
 have H := h
 clear h
 unfold computusref03_FromDay.f at H
 have HC2 := am_ H
 clear H
 go_enter Try.func85, Try.ntmps85
 go_upto_region 1 with (first | ((with_reducible refine gate_dst (N := 2) rfl ?_); refine bx_ (w := w) (N := 2) (cs := #[.int .i64 0, .int .i64 0, .int .i64 0]) (t := 98) ?_; intro gb319 w3 BK319 n0_ GW319 GE319; clear HB; have HB := n0_; clear n0_))
 (try simp only [Act.put, sA_, sZ_, sS_])
 go_cut [14] (fun v14 wc => ∃ (kq : Nat) (x14_1 : Bool), v14 = .bool x14_1 ∧ Aside0 (computusref03_FromDay.j0 kq a0 x14_1 = some (r1, r2, r3, r4)) ∧ Aside0 (kq ≤ k) ∧ Aside0 (wc.heap[gb319]? = some (.cells #[.int .i64 0, .int .i64 0, .int .i64 0] 98 (0, 0))) ∧ Aside0 (Below w.heap.size w wc))
 case first =>
  have H := HC2.out
  clear HC2
  by_cases c4 : a0 < 1
  ·rw [if_pos c4] at H
   have c4b0 : decide (a0 < 1) = true := decide_eq_true c4
   clear c4
   (first | rw [c4b0] | (simp only [i64_w, i32_w]; rw [c4b0]) | skip)
   have H' := am_ H
   clear H
   go_wp2
   go_meet
   case rel => exact ⟨_, (true), rs_, H', ⟨by first | omega | exact Nat.le_refl _⟩, ⟨bk_ BK319.out⟩, ⟨bh_⟩⟩
  rw [if_neg c4] at H
  have c4b0 : decide (a0 < 1) = false := decide_eq_false c4
  clear c4
  (first | rw [c4b0] | (simp only [i64_w, i32_w]; rw [c4b0]) | skip)
  obtain ⟨t320, A5, H⟩ := bs_ H
  have H' := am_ H
  clear H
  go_wp2_with (first | (go_at_call 34; (with_reducible refine (computusref03_First.calls 1000000001 t320 _ A5.out).mono ?_); rintro e w' ⟨rfl, ⟨nd, rfl⟩⟩))
  go_meet
  case rel => exact ⟨_, (decide (a0 ≥ t320)), rs_, H', ⟨by first | omega | exact Nat.le_refl _⟩, ⟨bk_ BK319.out⟩, ⟨bh_⟩⟩
 case rest =>
  clear HC2
  obtain ⟨kq, x14_1, rfl, HA, HJ1, BK319, HB⟩ := hcut
  cases kq with
  | zero => exact absurd HA.out (by simp [computusref03_FromDay.j0])
  | succ kj1 =>
   have H := HA.out
   clear HA
   simp only [computusref03_FromDay.j0] at H
   by_cases c6 : x14_1 = true
   ·subst c6
    replace H := it_ H
    simp only [Option.some.injEq, Prod.mk.injEq] at H
    obtain ⟨rfl, rfl, rfl, rfl⟩ := H
    obtain ⟨hcz7_0, hcz7_1, hcz7_2⟩ := cz3_ BK319.out
    obtain ⟨hfz7_0, hfz7_1, hfz7_2⟩ := fz3_ BK319.out
    go_wp2
    refine bodyPost_ret (results_ct rfl _ _ gb319 98 #[.int .i64 0, .int .i64 0, .int .i64 0] (0, 0) _ rfl (by refine bp_ ?_; refine blk_put (cs := #[.int .i64 0, .int .i64 0, .int .i64 0]) ?_ 2 _ rfl; refine bp_ ?_; refine blk_put (cs := #[.int .i64 0, .int .i64 0, .int .i64 0]) ?_ 1 _ rfl; refine bp_ ?_; refine blk_put (cs := #[.int .i64 0, .int .i64 0, .int .i64 0]) ?_ 0 _ rfl; exact bk_ BK319.out) Try.underlying98 rfl (by kernel_rfl)) rfl ?_
    exact rt_
   replace c6 := Bool.eq_false_iff.mpr c6
   subst c6
   replace H := if_ H
   have H' := am_ H
   clear H
   go_wp2
   go_loopg [4, 5] kj1 (fun kq v4 v5 w' => ∃ (x4_2 : Int) (x5_2 : Int), v4 = .int .i64 x4_2 ∧ v5 = .int .i64 x5_2 ∧ Aside0 (computusref03_FromDay.l0 kq a0 x4_2 x5_2 = some (r1, r2, r3, r4)) ∧ Aside0 (kq ≤ kj1) ∧ Aside0 (w'.heap[gb319]? = some (.cells #[.int .i64 0, .int .i64 0, .int .i64 0] 98 (0, 0))) ∧ Aside0 (Below w.heap.size w w'))
   case atStart => exact ⟨(1), (1000000000), rs_, rs_, H', ⟨Nat.le_refl _⟩, ⟨bk_ BK319.out⟩, ⟨bh_⟩⟩
   case round =>
    clear H'
    obtain ⟨x4_2, x5_2, rfl, rfl, HA, HK2, BK319, HB⟩ := hrel
    cases gk with
    | zero => exact absurd HA.out (by simp [computusref03_FromDay.l0])
    | succ k2 =>
     have H := HA.out
     clear HA
     simp only [computusref03_FromDay.l0] at H
     by_cases c8 : x4_2 < x5_2
     ·rw [if_pos c8] at H
      have c8b0 : decide (x4_2 < x5_2) = true := decide_eq_true c8
      clear c8
      obtain ⟨t321, A9, H⟩ := bs_ H
      by_cases c10 : t321 ≤ a0
      ·rw [if_pos c10] at H
       have c10b0 : decide (t321 ≤ a0) = true := decide_eq_true c10
       clear c10
       have H' := am_ H
       clear H
       go_wp2_with (first | ((with_reducible refine gate_callee (f := 34) rfl ?_); refine gl_ (some 25) Try.func34 #[.int .i64 (wrap64 (Int.tdiv (wrap64 ((wrap64 (x4_2 + x5_2)) + 1)) 2))] ?_; (with_reducible refine (computusref03_First.calls (wrap64 (Int.tdiv (wrap64 ((wrap64 (x4_2 + x5_2)) + 1)) 2)) t321 _ A9.out).mono ?_); rintro e w' ⟨rfl, ⟨nd, rfl⟩⟩; refine ⟨_, rfl, ?_⟩))
       go_roundg k2
       case measure => have := HJ1.out; have := HK2.out; omega
       case rel => exact ⟨(wrap64 (Int.tdiv (wrap64 ((wrap64 (x4_2 + x5_2)) + 1)) 2)), (x5_2), rs_, rs_, H', ⟨by have := HJ1.out; have := HK2.out; omega⟩, ⟨bk_ BK319.out⟩, ⟨bh_⟩⟩
      rw [if_neg c10] at H
      have c10b0 : decide (t321 ≤ a0) = false := decide_eq_false c10
      clear c10
      have H' := am_ H
      clear H
      go_wp2_with (first | ((with_reducible refine gate_callee (f := 34) rfl ?_); refine gl_ (some 25) Try.func34 #[.int .i64 (wrap64 (Int.tdiv (wrap64 ((wrap64 (x4_2 + x5_2)) + 1)) 2))] ?_; (with_reducible refine (computusref03_First.calls (wrap64 (Int.tdiv (wrap64 ((wrap64 (x4_2 + x5_2)) + 1)) 2)) t321 _ A9.out).mono ?_); rintro e w' ⟨rfl, ⟨nd, rfl⟩⟩; refine ⟨_, rfl, ?_⟩))
      go_roundg k2
      case measure => have := HJ1.out; have := HK2.out; omega
      case rel => exact ⟨(x4_2), (wrap64 ((wrap64 (Int.tdiv (wrap64 ((wrap64 (x4_2 + x5_2)) + 1)) 2)) - 1)), rs_, rs_, H', ⟨by have := HJ1.out; have := HK2.out; omega⟩, ⟨bk_ BK319.out⟩, ⟨bh_⟩⟩
     rw [if_neg c8] at H
     have c8b0 : decide (x4_2 < x5_2) = false := decide_eq_false c8
     clear c8
     obtain ⟨t322, A11, H⟩ := bs_ H
     have H' := am_ H
     clear H
     go_wp2_with (first | ((with_reducible refine gate_callee (f := 34) rfl ?_); refine gl_ (some 34) Try.func34 #[.int .i64 x4_2] ?_; (with_reducible refine (computusref03_First.calls x4_2 t322 _ A11.out).mono ?_); rintro e w' ⟨rfl, ⟨nd, rfl⟩⟩; refine ⟨_, rfl, ?_⟩; (try (rw [drewN_self wr]; generalize hq_ : World.drewN wr _ = wr; have n0_ : Aside0 (wr.heap[gb319]? = some (.cells #[.int .i64 0, .int .i64 0, .int .i64 0] 98 (0, 0))) := ⟨by rw [← hq_]; exact (bk_ BK319.out)⟩; have n1_ : Aside0 (Below w.heap.size w wr) := ⟨by rw [← hq_]; exact bh_⟩; clear BK319 HB hq_; have BK319 := n0_; have HB := n1_; clear n0_ n1_))) | ((with_reducible refine gate_dst (N := 7) rfl ?_); refine be_ (N := 7) (cs := #[.int .i64 0, .int .i64 0, .int .i64 0]) (t := 98) ?_; intro gb323 hg w12 hbox hb; have BK323 := am_ (hbox); have GW323 := gw_ (w := w) hg; have GE323 := gw_ (w := w) hg; replace HB := bt_ hb; have NB319_323 := ne_ hg BK319; have NB323_319 := nf_ hg BK319; replace BK319 := bw_ BK319 hb; clear hb hbox hg; have hnb13 := NB323_319.out; have hnc13 := NB319_323.out; obtain ⟨hcz14_0, hcz14_1, hcz14_2⟩ := cz3_ BK323.out; obtain ⟨hfz14_0, hfz14_1, hfz14_2⟩ := fz3_ BK323.out))
     go_loopg [] k2 (fun kq w' => ∃ (x324001_3 : Int) (x324002_3 : Int), Aside0 (computusref03_FromDay.l1 kq x4_2 x4_2 x324001_3 x324002_3 = some (r1, r2, r3, r4)) ∧ Aside0 (kq ≤ k2) ∧ Aside0 (w'.heap[gb319]? = some (.cells #[.int .i64 0, .int .i64 0, .int .i64 0] 98 (0, 0))) ∧ Aside0 (w'.heap[gb323]? = some (.cells #[.int .i64 x4_2, .int .i64 x324001_3, .int .i64 x324002_3] 98 (0, 0))) ∧ Aside0 (Below w.heap.size w w'))
     case atStart => exact ⟨(1), (wrap64 ((wrap64 (a0 - t322)) + 1)), H', ⟨Nat.le_refl _⟩, ⟨bf1_ NB319_323 BK319⟩, ⟨by refine bp_ ?_; refine blk_put (cs := #[.int .i64 x4_2, .int .i64 1, .int .i64 0]) ?_ 2 _ rfl; refine bp_ ?_; refine blk_put (cs := #[.int .i64 x4_2, .int .i64 0, .int .i64 0]) ?_ 1 _ rfl; refine bp_ ?_; refine blk_put (cs := #[.int .i64 0, .int .i64 0, .int .i64 0]) ?_ 0 _ rfl; exact bk_ BK323.out⟩, ⟨bh_⟩⟩
     case round =>
      clear H'
      obtain ⟨x324001_3, x324002_3, HA, HK3, BK319, BK323, HB⟩ := hrel
      cases gk with
      | zero => exact absurd HA.out (by simp [computusref03_FromDay.l1])
      | succ k3 =>
       have H := HA.out
       clear HA
       simp only [computusref03_FromDay.l1] at H
       obtain ⟨t324, A15, H⟩ := bs_ H
       obtain ⟨t325, A16, H⟩ := bs_ H
       by_cases c17 : x324002_3 > t325
       rotate_left
       ·rw [if_neg c17] at H
        have c17b0 : decide (t325 < x324002_3) = false := decide_eq_false c17
        clear c17
        simp only [Option.some.injEq, Prod.mk.injEq] at H
        obtain ⟨rfl, rfl, rfl, rfl⟩ := H
        try go_wp2
        replace BK319 := am_ (blk_drew BK319.out)
        replace BK323 := am_ (blk_drew BK323.out)
        replace HB := am_ (below_drew1 HB.out)
        refine start_ (n := 8) (S := fun w' => w'.cell? ⟨gb323, 0, none⟩ = some (.int .i64 x4_2) ∧ w'.cell? ⟨gb323, 1, none⟩ = some (.int .i64 x324001_3) ∧ w'.cell? ⟨gb323, 2, none⟩ = some (.int .i64 x324002_3)) (ds := []) (bf_ 8 0) (by kernel_rfl) rfl rfl (cz3_ BK323.out) (fun hHeld => ?_); refine with_tabW computusref03_FromDay.tab11 computusref03_FromDay.bits11 (fun HT_ HW_ => ?_)
        generalize wr.drew = w25 at BK319 BK323 HB hHeld ⊢
        refine pu_ 0 (some 38) (bf_ 8 1) HT_.out ?_
        refine pu_ 2 (some 40) (bf_ 8 5) HT_.out ?_
        refine pu_ 4 (some 42) (bf_ 8 21) HT_.out ?_
        refine ta_ 1 (some 39) (bf_ 8 23) HT_.out HW_.out hHeld ?_
        refine ta_ 5 (some 43) (bf_ 8 55) HT_.out HW_.out hHeld ?_
        refine one_ (i := 3) (N := some 41) (bf_ 8 63) rfl rfl (one_of HT_.out (by kernel_rfl)) (by decide) (fun K hK => ?_)
        refine gs_ Try.func72 #[.int .i64 x4_2] ?_
        with_reducible refine (computusref03_Leap.calls x4_2 t324 _ A15.out).mono ?_
        rintro e w' ⟨rfl, ⟨nd, rfl⟩⟩
        refine ⟨_, rfl, ?_⟩
        refine hK.out _ _ (by first | exact (cz3_ BK323.out) | exact hHeld) (fun hHeld => ?_)
        clear hK K
        refine norm_ (a' := ?_) ?_ ?_
        rotate_left
        ·show Act.put _ (some 41) _ = _
         simp only [Act.put, sA_, sZ_, sS_, i64_w, i32_w]
         rfl
        refine one_ (i := 6) (N := some 44) (bf_ 8 127) rfl rfl (one_of HT_.out (by kernel_rfl)) (by decide) (fun K hK => ?_)
        refine gs_ Try.func71 #[.bool t324, .int .i64 x324001_3] ?_
        with_reducible refine (computusref02_Length.calls k3 t324 x324001_3 t325 _ A16.out).mono ?_
        rintro e w' ⟨rfl, ⟨nd, rfl⟩⟩
        refine ⟨_, rfl, ?_⟩
        refine hK.out _ _ (by first | exact (cz3_ BK323.out) | exact hHeld) (fun hHeld => ?_)
        clear hK K
        refine norm_ (a' := ?_) ?_ ?_
        rotate_left
        ·show Act.put _ (some 44) _ = _
         simp only [Act.put, sA_, sZ_, sS_, i64_w, i32_w]
         rfl
        refine pu_ 7 (some 45) (bf_ 8 255) HT_.out ?_
        refine done_ (done_of HT_.out (by kernel_rfl)) ?_
        have hnb26 := NB323_319.out
        have hnc26 := NB319_323.out
        obtain ⟨hcz27_0, hcz27_1, hcz27_2⟩ := cz3_ BK323.out
        obtain ⟨hfz27_0, hfz27_1, hfz27_2⟩ := fz3_ BK323.out
        obtain ⟨hcz28_0, hcz28_1, hcz28_2⟩ := cz3_ BK319.out
        obtain ⟨hfz28_0, hfz28_1, hfz28_2⟩ := fz3_ BK319.out
        try go_wp2
        refine bodyPost_ret (results_ct rfl _ _ gb319 98 #[.int .i64 x4_2, .int .i64 x324001_3, .int .i64 x324002_3] (0, 0) _ rfl (by refine bp_ ?_; refine blk_put (cs := #[.int .i64 x4_2, .int .i64 x324001_3, .int .i64 0]) ?_ 2 _ rfl; refine bp_ ?_; refine blk_put (cs := #[.int .i64 x4_2, .int .i64 0, .int .i64 0]) ?_ 1 _ rfl; refine bp_ ?_; refine blk_put (cs := #[.int .i64 0, .int .i64 0, .int .i64 0]) ?_ 0 _ rfl; exact bk_ BK319.out) Try.underlying98 rfl (by kernel_rfl)) rfl ?_
        exact rt_
       rw [if_pos c17] at H
       have c17b0 : decide (t325 < x324002_3) = true := decide_eq_true c17
       clear c17
       obtain ⟨t326, A18, H⟩ := bs_ H
       obtain ⟨t327, A19, H⟩ := bs_ H
       have H' := am_ H
       clear H
       try go_wp2
       replace BK319 := am_ (blk_drew BK319.out)
       replace BK323 := am_ (blk_drew BK323.out)
       replace HB := am_ (below_drew1 HB.out)
       refine start_ (n := 8) (S := fun w' => w'.cell? ⟨gb323, 0, none⟩ = some (.int .i64 x4_2) ∧ w'.cell? ⟨gb323, 1, none⟩ = some (.int .i64 x324001_3) ∧ w'.cell? ⟨gb323, 2, none⟩ = some (.int .i64 x324002_3)) (ds := []) (bf_ 8 0) (by kernel_rfl) rfl rfl (cz3_ BK323.out) (fun hHeld => ?_); refine with_tabW computusref03_FromDay.tab11 computusref03_FromDay.bits11 (fun HT_ HW_ => ?_)
       generalize wr.drew = w20 at BK319 BK323 HB hHeld ⊢
       refine pu_ 0 (some 38) (bf_ 8 1) HT_.out ?_
       refine pu_ 2 (some 40) (bf_ 8 5) HT_.out ?_
       refine pu_ 4 (some 42) (bf_ 8 21) HT_.out ?_
       refine ta_ 1 (some 39) (bf_ 8 23) HT_.out HW_.out hHeld ?_
       refine ta_ 5 (some 43) (bf_ 8 55) HT_.out HW_.out hHeld ?_
       refine one_ (i := 3) (N := some 41) (bf_ 8 63) rfl rfl (one_of HT_.out (by kernel_rfl)) (by decide) (fun K hK => ?_)
       refine gs_ Try.func72 #[.int .i64 x4_2] ?_
       with_reducible refine (computusref03_Leap.calls x4_2 t324 _ A15.out).mono ?_
       rintro e w' ⟨rfl, ⟨nd, rfl⟩⟩
       refine ⟨_, rfl, ?_⟩
       refine hK.out _ _ (by first | exact (cz3_ BK323.out) | exact hHeld) (fun hHeld => ?_)
       clear hK K
       refine norm_ (a' := ?_) ?_ ?_
       rotate_left
       ·show Act.put _ (some 41) _ = _
        simp only [Act.put, sA_, sZ_, sS_, i64_w, i32_w]
        rfl
       refine one_ (i := 6) (N := some 44) (bf_ 8 127) rfl rfl (one_of HT_.out (by kernel_rfl)) (by decide) (fun K hK => ?_)
       refine gs_ Try.func71 #[.bool t324, .int .i64 x324001_3] ?_
       with_reducible refine (computusref02_Length.calls k3 t324 x324001_3 t325 _ A16.out).mono ?_
       rintro e w' ⟨rfl, ⟨nd, rfl⟩⟩
       refine ⟨_, rfl, ?_⟩
       refine hK.out _ _ (by first | exact (cz3_ BK323.out) | exact hHeld) (fun hHeld => ?_)
       clear hK K
       refine norm_ (a' := ?_) ?_ ?_
       rotate_left
       ·show Act.put _ (some 44) _ = _
        simp only [Act.put, sA_, sZ_, sS_, i64_w, i32_w]
        rfl
       refine pu_ 7 (some 45) (bf_ 8 255) HT_.out ?_
       refine done_ (done_of HT_.out (by kernel_rfl)) ?_
       try go_wp2
       (try (rw [drewN_self w20]; generalize hq_ : World.drewN w20 _ = w20; have n0_ : Aside0 (w20.heap[gb319]? = some (.cells #[.int .i64 0, .int .i64 0, .int .i64 0] 98 (0, 0))) := ⟨by rw [← hq_]; exact (bk_ BK319.out)⟩; have n1_ : Aside0 (w20.heap[gb323]? = some (.cells #[.int .i64 x4_2, .int .i64 x324001_3, .int .i64 x324002_3] 98 (0, 0))) := ⟨by rw [← hq_]; exact (bk_ BK323.out)⟩; have n2_ : Aside0 (Below w.heap.size w w20) := ⟨by rw [← hq_]; exact bh_⟩; clear BK319 BK323 HB hq_; have BK319 := n0_; have BK323 := n1_; have HB := n2_; clear n0_ n1_ n2_))
       (try (rw [drewN_self w20]; generalize hq_ : World.drewN w20 _ = w20; have n0_ : Aside0 (w20.heap[gb319]? = some (.cells #[.int .i64 0, .int .i64 0, .int .i64 0] 98 (0, 0))) := ⟨by rw [← hq_]; exact (bk_ BK319.out)⟩; have n1_ : Aside0 (w20.heap[gb323]? = some (.cells #[.int .i64 x4_2, .int .i64 x324001_3, .int .i64 x324002_3] 98 (0, 0))) := ⟨by rw [← hq_]; exact (bk_ BK323.out)⟩; have n2_ : Aside0 (Below w.heap.size w w20) := ⟨by rw [← hq_]; exact bh_⟩; clear BK319 BK323 HB hq_; have BK319 := n0_; have BK323 := n1_; have HB := n2_; clear n0_ n1_ n2_))
       replace BK319 := am_ (blk_drew BK319.out)
       replace BK323 := am_ (blk_drew BK323.out)
       replace HB := am_ (below_drew1 HB.out)
       refine start_ (n := 10) (S := fun w' => w'.cell? ⟨gb323, 0, none⟩ = some (.int .i64 x4_2) ∧ w'.cell? ⟨gb323, 1, none⟩ = some (.int .i64 x324001_3) ∧ w'.cell? ⟨gb323, 2, none⟩ = some (.int .i64 x324002_3)) (ds := [9]) (bf_ 10 0) (by kernel_rfl) rfl rfl (cz3_ BK323.out) (fun hHeld => ?_); refine with_tabW computusref03_FromDay.tab12 computusref03_FromDay.bits12 (fun HT_ HW_ => ?_)
       generalize w20.drew = w21 at BK319 BK323 HB hHeld ⊢
       refine pu_ 0 (some 46) (bf_ 10 1) HT_.out ?_
       refine pu_ 2 (some 48) (bf_ 10 5) HT_.out ?_
       refine pu_ 4 (some 50) (bf_ 10 21) HT_.out ?_
       refine ta_ 1 (some 47) (bf_ 10 23) HT_.out HW_.out hHeld ?_
       refine ta_ 5 (some 51) (bf_ 10 55) HT_.out HW_.out hHeld ?_
       refine one_ (i := 3) (N := some 49) (bf_ 10 63) rfl rfl (one_of HT_.out (by kernel_rfl)) (by decide) (fun K hK => ?_)
       refine gs_ Try.func72 #[.int .i64 x4_2] ?_
       with_reducible refine (computusref03_Leap.calls x4_2 t326 _ A18.out).mono ?_
       rintro e w' ⟨rfl, ⟨nd, rfl⟩⟩
       refine ⟨_, rfl, ?_⟩
       refine hK.out _ _ (by first | exact (cz3_ BK323.out) | exact hHeld) (fun hHeld => ?_)
       clear hK K
       refine norm_ (a' := ?_) ?_ ?_
       rotate_left
       ·show Act.put _ (some 49) _ = _
        simp only [Act.put, sA_, sZ_, sS_, i64_w, i32_w]
        rfl
       refine one_ (i := 6) (N := some 52) (bf_ 10 127) rfl rfl (one_of HT_.out (by kernel_rfl)) (by decide) (fun K hK => ?_)
       refine gs_ Try.func71 #[.bool t326, .int .i64 x324001_3] ?_
       with_reducible refine (computusref02_Length.calls k3 t326 x324001_3 t327 _ A19.out).mono ?_
       rintro e w' ⟨rfl, ⟨nd, rfl⟩⟩
       refine ⟨_, rfl, ?_⟩
       refine hK.out _ _ (by first | exact (cz3_ BK323.out) | exact hHeld) (fun hHeld => ?_)
       clear hK K
       refine norm_ (a' := ?_) ?_ ?_
       rotate_left
       ·show Act.put _ (some 52) _ = _
        simp only [Act.put, sA_, sZ_, sS_, i64_w, i32_w]
        rfl
       refine pu_ 7 (some 53) (bf_ 10 255) HT_.out ?_
       refine pu_ 8 (some 54) (bf_ 10 511) HT_.out ?_
       refine last_ (i := 9) (N := none) (bf_ 10 1023) rfl rfl (one_of HT_.out (by kernel_rfl)) (by decide) (fun K hK => ?_)
       have hs22 : w21.cell? ⟨gb323, 2, none⟩ = some (.int .i64 x324002_3) := (blk_cell BK323.out 2).trans rfl
       have hfs22 := blk_frozen BK323.out 2
       have hns22_0 := NB319_323.out
       have hms22_0 := NB323_319.out
       refine skip_ (w1 := ?_) (by rfl) rfl ?_ ?_
       rotate_left
       ·go_simp
        rfl
       refine hK.out _ _ ?_
       clear hK K
       refine done_ (done_of HT_.out (by kernel_rfl)) ?_
       have hnb23 := NB323_319.out
       have hnc23 := NB319_323.out
       obtain ⟨hcz24_0, hcz24_1, hcz24_2⟩ := cz3_ BK323.out
       obtain ⟨hfz24_0, hfz24_1, hfz24_2⟩ := fz3_ BK323.out
       try go_wp2
       go_roundg k3
       case measure => have := HJ1.out; have := HK2.out; have := HK3.out; omega
       case rel => exact ⟨(wrap64 (x324001_3 + 1)), (wrap64 (x324002_3 - t327)), H', ⟨by have := HJ1.out; have := HK2.out; have := HK3.out; omega⟩, ⟨bf1_ NB319_323 BK319⟩, ⟨by refine bp_ ?_; refine blk_put (cs := #[.int .i64 x4_2, .int .i64 x324001_3, .int .i64 (wrap64 (x324002_3 - t327))]) ?_ 1 _ rfl; refine bp_ ?_; refine blk_put (cs := #[.int .i64 x4_2, .int .i64 x324001_3, .int .i64 x324002_3]) ?_ 2 _ rfl; exact bk_ BK323.out⟩, ⟨bh_⟩⟩
def computusref05_FromDay.f (k : Nat) (a0 : Int) (a1 : Int) : Option (Int × Int × Int × Int) := if a0 = 1 then ((computusref02_FromDay.f k a1).bind fun bt329 => (some (bt329.1, bt329.2.1, bt329.2.2.1, bt329.2.2.2))) else (if a0 = 2 then ((computusref03_FromDay.f k a1).bind fun bt333 => (some (bt333.1, bt333.2.1, bt333.2.2.1, bt333.2.2.2))) else (some (0, 0, 0, 3)))
theorem computusref05_FromDay.calls (k : Nat) (a0 : Int) (a1 : Int) (r1 : Int) (r2 : Int) (r3 : Int) (r4 : Int) (w : World) (h : computusref05_FromDay.f k a0 a1 = some (r1, r2, r3, r4)) :
  Calls Try.prog 78 #[.int .i64 a0, .int .i64 a1] w fun e w' => e = .returned (.tuple #[.agg #[.int .i64 r1, .int .i64 r2, .int .i64 r3], .int .i64 r4]) ∧ Below w.heap.size w w' := by
 have hu98 := Try.underlying98
 have HB := am_ (Below.refl w.heap.size w)
 have H := h
 clear h
 unfold computusref05_FromDay.f at H
 by_cases c3 : a0 = 1
 ·rw [if_pos c3] at H
  have c3b0 : (a0 == 1) = true := beq_iff_eq.mpr c3
  have c3b1 : (a0 != 1) = false := bne_eq_false_iff_eq.mpr c3
  clear c3
  obtain ⟨⟨t329, t330, t331, t332⟩, A4, H⟩ := bs_ H
  dsimp only at H
  simp only [Option.some.injEq, Prod.mk.injEq] at H
  obtain ⟨rfl, rfl, rfl, rfl⟩ := H
  go_enter Try.func78, Try.ntmps78
  go_wp2_with (first | ((with_reducible refine gate_dst (N := 4) rfl ?_); refine bx_ (w := w) (N := 4) (cs := #[.int .i64 0, .int .i64 0, .int .i64 0]) (t := 98) ?_; intro gb328 w5 BK328 n0_ GW328 GE328; clear HB; have HB := n0_; clear n0_) | ((with_reducible refine gate_callee (f := 84) rfl ?_); refine gl_ (some 9) Try.func84 #[.int .i64 a1] ?_; (with_reducible refine (computusref02_FromDay.calls k a1 t329 t330 t331 t332 _ A4.out).mono ?_); rintro e w6 ⟨rfl, hb⟩; refine ⟨_, rfl, ?_⟩; replace BK328 := bw_ BK328 hb; replace HB := bt_ hb; (try clear hb); obtain ⟨hcz7_0, hcz7_1, hcz7_2⟩ := cz3_ BK328.out; obtain ⟨hfz7_0, hfz7_1, hfz7_2⟩ := fz3_ BK328.out))
  refine bodyPost_ret (results_ct rfl _ _ gb328 98 #[.int .i64 t329, .int .i64 t330, .int .i64 t331] (0, 0) _ rfl (by refine bp_ ?_; refine blk_put (cs := #[.int .i64 t329, .int .i64 t330, .int .i64 0]) ?_ 2 _ rfl; refine bp_ ?_; refine blk_put (cs := #[.int .i64 t329, .int .i64 0, .int .i64 0]) ?_ 1 _ rfl; refine bp_ ?_; refine blk_put (cs := #[.int .i64 0, .int .i64 0, .int .i64 0]) ?_ 0 _ rfl; exact bk_ BK328.out) Try.underlying98 rfl (by kernel_rfl)) rfl ?_
  exact rt_
 rw [if_neg c3] at H
 have c3b0 : (a0 == 1) = false := beq_eq_false_iff_ne.mpr c3
 have c3b1 : (a0 != 1) = true := bne_iff_ne.mpr c3
 by_cases c8 : a0 = 2
 rotate_left
 ·rw [if_neg c8] at H
  have c8b0 : (a0 == 2) = false := beq_eq_false_iff_ne.mpr c8
  have c8b1 : (a0 != 2) = true := bne_iff_ne.mpr c8
  simp only [Option.some.injEq, Prod.mk.injEq] at H
  obtain ⟨rfl, rfl, rfl, rfl⟩ := H
  go_enter Try.func78, Try.ntmps78
  go_wp2_with (first | ((with_reducible refine gate_dst (N := 4) rfl ?_); refine bx_ (w := w) (N := 4) (cs := #[.int .i64 0, .int .i64 0, .int .i64 0]) (t := 98) ?_; intro gb328 w13 BK328 n0_ GW328 GE328; clear HB; have HB := n0_; clear n0_; obtain ⟨hcz14_0, hcz14_1, hcz14_2⟩ := cz3_ BK328.out; obtain ⟨hfz14_0, hfz14_1, hfz14_2⟩ := fz3_ BK328.out))
  refine bodyPost_ret (results_ct rfl _ _ gb328 98 #[.int .i64 0, .int .i64 0, .int .i64 0] (0, 0) _ rfl (by refine bp_ ?_; refine blk_put (cs := #[.int .i64 0, .int .i64 0, .int .i64 0]) ?_ 2 _ rfl; refine bp_ ?_; refine blk_put (cs := #[.int .i64 0, .int .i64 0, .int .i64 0]) ?_ 1 _ rfl; refine bp_ ?_; refine blk_put (cs := #[.int .i64 0, .int .i64 0, .int .i64 0]) ?_ 0 _ rfl; exact bk_ BK328.out) Try.underlying98 rfl (by kernel_rfl)) rfl ?_
  exact rt_
 rw [if_pos c8] at H
 have c8b0 : (a0 == 2) = true := beq_iff_eq.mpr c8
 have c8b1 : (a0 != 2) = false := bne_eq_false_iff_eq.mpr c8
 clear c8
 obtain ⟨⟨t333, t334, t335, t336⟩, A9, H⟩ := bs_ H
 dsimp only at H
 simp only [Option.some.injEq, Prod.mk.injEq] at H
 obtain ⟨rfl, rfl, rfl, rfl⟩ := H
 go_enter Try.func78, Try.ntmps78
 go_wp2_with (first | ((with_reducible refine gate_dst (N := 4) rfl ?_); refine bx_ (w := w) (N := 4) (cs := #[.int .i64 0, .int .i64 0, .int .i64 0]) (t := 98) ?_; intro gb328 w10 BK328 n0_ GW328 GE328; clear HB; have HB := n0_; clear n0_) | ((with_reducible refine gate_callee (f := 85) rfl ?_); refine gl_ (some 15) Try.func85 #[.int .i64 a1] ?_; (with_reducible refine (computusref03_FromDay.calls k a1 t333 t334 t335 t336 _ A9.out).mono ?_); rintro e w11 ⟨rfl, hb⟩; refine ⟨_, rfl, ?_⟩; replace BK328 := bw_ BK328 hb; replace HB := bt_ hb; (try clear hb); obtain ⟨hcz12_0, hcz12_1, hcz12_2⟩ := cz3_ BK328.out; obtain ⟨hfz12_0, hfz12_1, hfz12_2⟩ := fz3_ BK328.out))
 refine bodyPost_ret (results_ct rfl _ _ gb328 98 #[.int .i64 t333, .int .i64 t334, .int .i64 t335] (0, 0) _ rfl (by refine bp_ ?_; refine blk_put (cs := #[.int .i64 t333, .int .i64 t334, .int .i64 0]) ?_ 2 _ rfl; refine bp_ ?_; refine blk_put (cs := #[.int .i64 t333, .int .i64 0, .int .i64 0]) ?_ 1 _ rfl; refine bp_ ?_; refine blk_put (cs := #[.int .i64 0, .int .i64 0, .int .i64 0]) ?_ 0 _ rfl; exact bk_ BK328.out) Try.underlying98 rfl (by kernel_rfl)) rfl ?_
 exact rt_
def computusref08_starts.f  : Option (List Int) := some (([101, 131, 301, 331, 429, 529, 627, 727, 825, 924, 1023, 1122, 1221] : List Int))
theorem computusref08_starts.calls  (r : List Int) (w : World) (h : computusref08_starts.f  = some r) :
  Calls Try.prog 91 #[] w fun e w' => ∃ v0_ : Value, e = .returned (v0_) ∧ Kd.R (Kd.int .i64) 3 w' w.heap.size (fun _ => True) v0_ r ∧ Below w.heap.size w w' := by
 have HB := am_ (Below.refl w.heap.size w)
 have H := h
 clear h
 unfold computusref08_starts.f at H
 obtain ⟨y337, hy337⟩ : ∃ y_ : List Int, y_ = (([101, 131, 301, 331, 429, 529, 627, 727, 825, 924, 1023, 1122, 1221] : List Int)) := ⟨_, rfl⟩
 replace H : (some y337) = some r := by first | (rw [hy337]; with_reducible exact H) | (have H2_ := (Option.bind_some _ _).symm.trans H; rw [hy337]; with_reducible exact H2_) | (have H2_ := (Option.bind_some _ _).symm.trans H; with_reducible exact H2_) | with_reducible exact H | (rw [hy337]; exact H) | exact H
 have Ny337 := am_ hy337
 clear hy337
 obtain rfl := Option.some.inj H
 go_enter Try.func91, Try.ntmps91
 go_wp2_with (first | ((with_reducible refine gate_dst (N := 1) rfl ?_); refine Kd.R_lit (Kd.int .i64) _ 3 ?hg (N := 1) ?hd (xs := ([101, 131, 301, 331, 429, 529, 627, 727, 825, 924, 1023, 1122, 1221] : List Int)) (inner := [.int .i64 101, .int .i64 131, .int .i64 301, .int .i64 331, .int .i64 429, .int .i64 529, .int .i64 627, .int .i64 727, .int .i64 825, .int .i64 924, .int .i64 1023, .int .i64 1122, .int .i64 1221]) (ok := fun _ => True) (okp := fun _ => True) ?hr ?hp (fun _ hk => hk) trivial (Below.refl _ _) (Nat.le_refl _) (by simp) ?_; (case hd => rfl); (case hg => rfl); (case hr => first | (go_simp; done) | (go_simp; rfl)); (case hp => exact (Reps.one (show Kd.M (Kd.int .i64) _ _ _ 101 [.int .i64 101] from rfl) (Reps.one (show Kd.M (Kd.int .i64) _ _ _ 131 [.int .i64 131] from rfl) (Reps.one (show Kd.M (Kd.int .i64) _ _ _ 301 [.int .i64 301] from rfl) (Reps.one (show Kd.M (Kd.int .i64) _ _ _ 331 [.int .i64 331] from rfl) (Reps.one (show Kd.M (Kd.int .i64) _ _ _ 429 [.int .i64 429] from rfl) (Reps.one (show Kd.M (Kd.int .i64) _ _ _ 529 [.int .i64 529] from rfl) (Reps.one (show Kd.M (Kd.int .i64) _ _ _ 627 [.int .i64 627] from rfl) (Reps.one (show Kd.M (Kd.int .i64) _ _ _ 727 [.int .i64 727] from rfl) (Reps.one (show Kd.M (Kd.int .i64) _ _ _ 825 [.int .i64 825] from rfl) (Reps.one (show Kd.M (Kd.int .i64) _ _ _ 924 [.int .i64 924] from rfl) (Reps.one (show Kd.M (Kd.int .i64) _ _ _ 1023 [.int .i64 1023] from rfl) (Reps.one (show Kd.M (Kd.int .i64) _ _ _ 1122 [.int .i64 1122] from rfl) (Reps.one (show Kd.M (Kd.int .i64) _ _ _ 1221 [.int .i64 1221] from rfl) (Reps.none _ _))))))))))))))); intro v338 w1 ho2 hb hg_ hnew_; clear hg_ hnew_; (first | rw [← Ny337.out] at ho2 | (simp only [Int.reduceToNat] at ho2; rw [← Ny337.out] at ho2)); have HO339 := am_ (Kd.R_lower ho2 bz_); replace HB := bt_ hb; clear hb ho2))
 go_ret
 exact ⟨_, by first | rfl | (simp [errW_none, errW_some] <;> rfl) | (simp [*, errW_none, errW_some] <;> rfl), rk_ HO339.out, bh_⟩
mutual
def computusref08_Position.l0 : Nat → Int → Int → List Int → Int → Int → Int → Option (Int × Int × Bool)
 | 0, _, _, _, _, _, _ => none
 | k + 1, x0, x1, x7, x8, x9, x10 => if x10 ≤ 12 then (computusref08_Position.l1 k x0 x1 x7 x8 x9 x10 1) else (some (0, 0, false))
def computusref08_Position.l1 : Nat → Int → Int → List Int → Int → Int → Int → Int → Option (Int × Int × Bool)
 | 0, _, _, _, _, _, _, _ => none
 | k + 1, x0, x1, x7, x8, x9, x10, x11 => (computusref02_Length.f k false x10).bind fun t344 => (if x11 ≤ t344 then (if x8 < 12 then (if 0 ≤ (wrap64 (x8 + 1)) then (if (wrap64 (x8 + 1)) < (x7.length : Int) then (computusref08_Position.j2 k x0 x1 x7 x8 (wrap64 (x9 + 1)) x10 x11 ((rd x7 (wrap64 (x8 + 1))) == (wrap64 ((wrap64 (100 * x10)) + x11)))) else (none)) else (none)) else (computusref08_Position.j2 k x0 x1 x7 x8 (wrap64 (x9 + 1)) x10 x11 false)) else (computusref08_Position.l0 k x0 x1 x7 x8 x9 (wrap64 (x10 + 1))))
def computusref08_Position.j2 : Nat → Int → Int → List Int → Int → Int → Int → Int → Bool → Option (Int × Int × Bool)
 | 0, _, _, _, _, _, _, _, _ => none
 | k + 1, x0, x1, x7, x8, x9, x10, x11, x42 => if x42 = true then (if x10 = x0 then (if x11 = x1 then (some (wrap64 (x8 + 1), 0, true)) else (computusref08_Position.l1 k x0 x1 x7 (wrap64 (x8 + 1)) 0 x10 (wrap64 (x11 + 1)))) else (computusref08_Position.l1 k x0 x1 x7 (wrap64 (x8 + 1)) 0 x10 (wrap64 (x11 + 1)))) else (if x10 = x0 then (if x11 = x1 then (some (x8, x9, true)) else (computusref08_Position.l1 k x0 x1 x7 x8 x9 x10 (wrap64 (x11 + 1)))) else (computusref08_Position.l1 k x0 x1 x7 x8 x9 x10 (wrap64 (x11 + 1))))
end
def computusref08_Position.f (k : Nat) (a0 : Int) (a1 : Int) : Option (Int × Int × Bool) := (computusref08_Exists.f k a0 a1).bind fun t340 => (if t340 = true then ((computusref08_starts.f).bind fun t341 => (computusref08_Position.l0 k a0 a1 t341 (-1) 0 1)) else (some (0, 0, false)))
theorem computusref08_Position.mono_l : ∀ k, (∀ y0 y1 y2 y3 y4 y5, LeO (computusref08_Position.l0 k y0 y1 y2 y3 y4 y5) (computusref08_Position.l0 (k + 1) y0 y1 y2 y3 y4 y5)) ∧ (∀ y0 y1 y2 y3 y4 y5 y6, LeO (computusref08_Position.l1 k y0 y1 y2 y3 y4 y5 y6) (computusref08_Position.l1 (k + 1) y0 y1 y2 y3 y4 y5 y6)) ∧ (∀ y0 y1 y2 y3 y4 y5 y6 y7, LeO (computusref08_Position.j2 k y0 y1 y2 y3 y4 y5 y6 y7) (computusref08_Position.j2 (k + 1) y0 y1 y2 y3 y4 y5 y6 y7))
 | 0 => ⟨fun _ _ _ _ _ _ r h => by simp [computusref08_Position.l0] at h, fun _ _ _ _ _ _ _ r h => by simp [computusref08_Position.l1] at h, fun _ _ _ _ _ _ _ _ r h => by simp [computusref08_Position.j2] at h⟩
 | k + 1 => by
  obtain ⟨ih0, ih1, ih2⟩ := computusref08_Position.mono_l k
  refine ⟨?_, ?_, ?_⟩
  ·intro y0 y1 y2 y3 y4 y5
   unfold computusref08_Position.l0
   repeat' first | (with_reducible first | exact ih0 _ _ _ _ _ _ | exact ih1 _ _ _ _ _ _ _ | exact ih2 _ _ _ _ _ _ _ _ | exact computusref02_Length.mono _ _ _ | exact computusref08_Exists.mono _ _ _ | exact lr_ _ | exact ln_ _ | refine li_ ?_ ?_ | refine lb_ ?_ fun _ => ?_) | exact ln_ _ | refine li_ ?_ ?_ | refine lb_ ?_ fun _ => ?_
  ·intro y0 y1 y2 y3 y4 y5 y6
   unfold computusref08_Position.l1
   repeat' first | (with_reducible first | exact ih0 _ _ _ _ _ _ | exact ih1 _ _ _ _ _ _ _ | exact ih2 _ _ _ _ _ _ _ _ | exact computusref02_Length.mono _ _ _ | exact computusref08_Exists.mono _ _ _ | exact lr_ _ | exact ln_ _ | refine li_ ?_ ?_ | refine lb_ ?_ fun _ => ?_) | exact ln_ _ | refine li_ ?_ ?_ | refine lb_ ?_ fun _ => ?_
  ·intro y0 y1 y2 y3 y4 y5 y6 y7
   unfold computusref08_Position.j2
   repeat' first | (with_reducible first | exact ih0 _ _ _ _ _ _ | exact ih1 _ _ _ _ _ _ _ | exact ih2 _ _ _ _ _ _ _ _ | exact computusref02_Length.mono _ _ _ | exact computusref08_Exists.mono _ _ _ | exact lr_ _ | exact ln_ _ | refine li_ ?_ ?_ | refine lb_ ?_ fun _ => ?_) | exact ln_ _ | refine li_ ?_ ?_ | refine lb_ ?_ fun _ => ?_
theorem computusref08_Position.mono : ∀ a0 a1 k, LeO (computusref08_Position.f k a0 a1) (computusref08_Position.f (k + 1) a0 a1) := by
 intro a0 a1 k
 obtain ⟨ih0, ih1, ih2⟩ := computusref08_Position.mono_l k
 unfold computusref08_Position.f
 repeat' first | (with_reducible first | exact ih0 _ _ _ _ _ _ | exact ih1 _ _ _ _ _ _ _ | exact ih2 _ _ _ _ _ _ _ _ | exact computusref02_Length.mono _ _ _ | exact computusref08_Exists.mono _ _ _ | exact lr_ _ | exact ln_ _ | refine li_ ?_ ?_ | refine lb_ ?_ fun _ => ?_) | exact ln_ _ | refine li_ ?_ ?_ | refine lb_ ?_ fun _ => ?_
theorem computusref08_Position.calls (k : Nat) (a0 : Int) (a1 : Int) (r1 : Int) (r2 : Int) (r3 : Bool) (w : World) (h : computusref08_Position.f k a0 a1 = some (r1, r2, r3)) :
  Calls Try.prog 88 #[.int .i64 a0, .int .i64 a1] w fun e w' => e = .returned (.tuple #[.int .i64 r1, .int .i64 r2, .bool r3]) ∧ Below w.heap.size w w' := by
 have HB := am_ (Below.refl w.heap.size w)
 have H := h
 clear h
 unfold computusref08_Position.f at H
 obtain ⟨t340, A3, H⟩ := bs_ H
 by_cases c4 : t340 = true
 rotate_left
 ·replace c4 := Bool.eq_false_iff.mpr c4
  subst c4
  replace H := if_ H
  simp only [Option.some.injEq, Prod.mk.injEq] at H
  obtain ⟨rfl, rfl, rfl⟩ := H
  go_enter Try.func88, Try.ntmps88
  go_wp2_with (first | ((with_reducible refine gate_callee (f := 64) rfl ?_); refine gl_ (some 14) Try.func64 #[.int .i64 a0, .int .i64 a1] ?_; (with_reducible refine (computusref08_Exists.calls k a0 a1 false _ A3.out).mono ?_); rintro e w' ⟨rfl, ⟨nd, rfl⟩⟩; refine ⟨_, rfl, ?_⟩))
  go_ret3
  exact rt_
 subst c4
 replace H := it_ H
 obtain ⟨t341, A5, H⟩ := bs_ H
 have H' := am_ H
 clear H
 go_enter Try.func88, Try.ntmps88
 go_wp2_with (first | ((with_reducible refine gate_callee (f := 64) rfl ?_); refine gl_ (some 14) Try.func64 #[.int .i64 a0, .int .i64 a1] ?_; (with_reducible refine (computusref08_Exists.calls k a0 a1 true _ A3.out).mono ?_); rintro e w' ⟨rfl, ⟨nd, rfl⟩⟩; refine ⟨_, rfl, ?_⟩) | ((with_reducible refine gate_callee (f := 91) rfl ?_); refine gl_ (some 16) Try.func91 #[] ?_; (with_reducible refine (computusref08_starts.calls  t341 _ A5.out).mono ?_); rintro e w6 ⟨v342, rfl, ho0, hb⟩; refine ⟨_, rfl, ?_⟩; have HO343 := am_ (Kd.R_lower ho0 bz_); replace HB := bt_ hb; (try clear hb); (try clear ho0)))
 go_loopg [8, 9, 10] k (fun kq v8 v9 v10 w' => ∃ (x8_1 : Int) (x9_1 : Int) (x10_1 : Int), v8 = .int .i64 x8_1 ∧ v9 = .int .i64 x9_1 ∧ v10 = .int .i64 x10_1 ∧ Aside0 (computusref08_Position.l0 kq a0 a1 t341 x8_1 x9_1 x10_1 = some (r1, r2, r3)) ∧ Aside0 (kq ≤ k) ∧ Aside0 (Kd.R (Kd.int .i64) 3 w' w.heap.size (fun _ => True) v342 t341) ∧ Aside0 (Below w.heap.size w w'))
 case atStart => exact ⟨((-1)), (0), (1), rs_, rs_, rs_, H', ⟨Nat.le_refl _⟩, ⟨rk_ HO343.out⟩, ⟨bh_⟩⟩
 case round =>
  clear H'
  obtain ⟨x8_1, x9_1, x10_1, rfl, rfl, rfl, HA, HK1, HO_7, HB⟩ := hrel
  cases gk with
  | zero => exact absurd HA.out (by simp [computusref08_Position.l0])
  | succ k1 =>
   have H := HA.out
   clear HA
   simp only [computusref08_Position.l0] at H
   by_cases c7 : x10_1 ≤ 12
   rotate_left
   ·rw [if_neg c7] at H
    have c7b0 : decide (x10_1 ≤ 12) = false := decide_eq_false c7
    clear c7
    simp only [Option.some.injEq, Prod.mk.injEq] at H
    obtain ⟨rfl, rfl, rfl⟩ := H
    go_wp2
    go_ret3
    exact rt_
   rw [if_pos c7] at H
   have c7b0 : decide (x10_1 ≤ 12) = true := decide_eq_true c7
   clear c7
   have H' := am_ H
   clear H
   go_wp2
   go_loopg [8, 9, 11] k1 (fun kq v8 v9 v11 w' => ∃ (x8_2 : Int) (x9_2 : Int) (x11_2 : Int), v8 = .int .i64 x8_2 ∧ v9 = .int .i64 x9_2 ∧ v11 = .int .i64 x11_2 ∧ Aside0 (computusref08_Position.l1 kq a0 a1 t341 x8_2 x9_2 x10_1 x11_2 = some (r1, r2, r3)) ∧ Aside0 (kq ≤ k1) ∧ Aside0 (Kd.R (Kd.int .i64) 3 w' w.heap.size (fun _ => True) v342 t341) ∧ Aside0 (Below w.heap.size w w'))
   case atStart => exact ⟨(x8_1), (x9_1), (1), rs_, rs_, rs_, H', ⟨Nat.le_refl _⟩, ⟨rk_ HO_7.out⟩, ⟨bh_⟩⟩
   case round =>
    clear H'
    obtain ⟨x8_2, x9_2, x11_2, rfl, rfl, rfl, HA, HK2, HO_7, HB⟩ := hrel
    cases gk with
    | zero => exact absurd HA.out (by simp [computusref08_Position.l1])
    | succ k2 =>
     have H := HA.out
     clear HA
     simp only [computusref08_Position.l1] at H
     obtain ⟨t344, A8, H⟩ := bs_ H
     by_cases c9 : x11_2 ≤ t344
     rotate_left
     ·rw [if_neg c9] at H
      have c9b0 : decide (x11_2 ≤ t344) = false := decide_eq_false c9
      clear c9
      have H' := am_ H
      clear H
      go_wp2_with (first | ((with_reducible refine gate_callee (f := 71) rfl ?_); refine gl_ (some 23) Try.func71 #[.bool false, .int .i64 x10_1] ?_; (with_reducible refine (computusref02_Length.calls k2 false x10_1 t344 _ A8.out).mono ?_); rintro e w' ⟨rfl, ⟨nd, rfl⟩⟩; refine ⟨_, rfl, ?_⟩))
      go_roundg k2
      case measure => have := HK1.out; have := HK2.out; omega
      case rel => exact ⟨(x8_2), (x9_2), (wrap64 (x10_1 + 1)), rs_, rs_, rs_, H', ⟨by have := HK1.out; have := HK2.out; omega⟩, ⟨rk_ HO_7.out⟩, ⟨bh_⟩⟩
     rw [if_pos c9] at H
     have c9b0 : decide (x11_2 ≤ t344) = true := decide_eq_true c9
     clear c9
     have HC10 := am_ H
     clear H
     go_upto_region 13 with (first | ((with_reducible refine gate_callee (f := 71) rfl ?_); refine gl_ (some 23) Try.func71 #[.bool false, .int .i64 x10_1] ?_; (with_reducible refine (computusref02_Length.calls k2 false x10_1 t344 _ A8.out).mono ?_); rintro e w' ⟨rfl, ⟨nd, rfl⟩⟩; refine ⟨_, rfl, ?_⟩))
     (try simp only [Act.put, sA_, sZ_, sS_])
     go_cut [42] (fun v42 wc => ∃ (kq : Nat) (x42_9 : Bool), v42 = .bool x42_9 ∧ Aside0 (computusref08_Position.j2 kq a0 a1 t341 x8_2 (wrap64 (x9_2 + 1)) x10_1 x11_2 x42_9 = some (r1, r2, r3)) ∧ Aside0 (kq ≤ k2) ∧ Aside0 (Kd.R (Kd.int .i64) 3 wc w.heap.size (fun _ => True) v342 t341) ∧ Aside0 (Below w.heap.size w wc))
     case first =>
      have H := HC10.out
      clear HC10
      by_cases c11 : x8_2 < 12
      rotate_left
      ·rw [if_neg c11] at H
       have c11b0 : decide (x8_2 < 12) = false := decide_eq_false c11
       clear c11
       (first | rw [c11b0] | (simp only [i64_w, i32_w]; rw [c11b0]) | skip)
       have H' := am_ H
       clear H
       go_wp2
       go_meet
       case rel => exact ⟨_, (false), rs_, H', ⟨by have := HK1.out; have := HK2.out; first | omega | exact Nat.le_refl _⟩, ⟨rk_ HO_7.out⟩, ⟨bh_⟩⟩
      rw [if_pos c11] at H
      have c11b0 : decide (x8_2 < 12) = true := decide_eq_true c11
      clear c11
      (first | rw [c11b0] | (simp only [i64_w, i32_w]; rw [c11b0]) | skip)
      obtain ⟨ji12, hji12⟩ : ∃ j_ : Int, (wrap64 (x8_2 + 1)) = j_ := ⟨_, rfl⟩
      replace H : (if 0 ≤ (ji12) then (if (ji12) < (t341.length : Int) then (computusref08_Position.j2 k2 a0 a1 t341 x8_2 (wrap64 (x9_2 + 1)) x10_1 x11_2 ((rd t341 (ji12)) == (wrap64 ((wrap64 (100 * x10_1)) + x11_2)))) else (none)) else (none)) = some (r1, r2, r3) := by first | (rw [hji12] at H; exact H) | (simp only [hji12] at H ⊢; exact H)
      have hji12w : (IntKind.i64.wrap (x8_2 + 1)) = ji12 := (i64_w _).trans hji12
      by_cases c13 : 0 ≤ (ji12)
      rotate_left
      ·rw [if_neg c13] at H
       exact absurd H (by simp)
      rw [if_pos c13] at H
      have c13b0 : decide (0 ≤ (ji12)) = true := decide_eq_true c13
      clear c13
      by_cases c14 : (ji12) < (t341.length : Int)
      rotate_left
      ·rw [if_neg c14] at H
       exact absurd H (by simp)
      rw [if_pos c14] at H
      have c14b0 : decide ((ji12) < (t341.length : Int)) = true := decide_eq_true c14
      clear c14
      have H' := am_ H
      clear H
      obtain ⟨Ao15, co15, eo15⟩ := Kd.R_slice HO_7.out
      subst eo15
      have p345 : 0 ≤ ((ji12) : Int) := of_decide_eq_true as_
      have q345 : (ji12) < (t341.length : Int) := of_decide_eq_true as_
      obtain ⟨ad345, e345, hx345_0⟩ := Kd.at_int (Kd.R_reads' HO_7.out).2.2 (ji12) p345 q345
      cases e345
      replace p345 := eq_true p345
      replace q345 := eq_true q345
      go_wp2
      go_meet
      case rel => exact ⟨_, (((rd t341 (ji12)) == (wrap64 ((wrap64 (100 * x10_1)) + x11_2)))), (by first | rfl | (simp; done) | (simp only [← hji12] <;> (first | rfl | simp)) | (simp [*]; done)), H', ⟨by have := HK1.out; have := HK2.out; first | omega | exact Nat.le_refl _⟩, ⟨rk_ HO_7.out⟩, ⟨bh_⟩⟩
     case rest =>
      clear HC10
      obtain ⟨kq, x42_9, rfl, HA, HJ9, HO_7, HB⟩ := hcut
      cases kq with
      | zero => exact absurd HA.out (by simp [computusref08_Position.j2])
      | succ kj9 =>
       have H := HA.out
       clear HA
       simp only [computusref08_Position.j2] at H
       by_cases c16 : x42_9 = true
       ·subst c16
        replace H := it_ H
        by_cases c17 : x10_1 = a0
        rotate_left
        ·rw [if_neg c17] at H
         have c17b0 : (x10_1 == a0) = false := beq_eq_false_iff_ne.mpr c17
         have c17b1 : (x10_1 != a0) = true := bne_iff_ne.mpr c17
         have H' := am_ H
         clear H
         go_wp2
         go_roundg kj9
         case measure => have := HK1.out; have := HK2.out; have := HJ9.out; omega
         case rel => exact ⟨(wrap64 (x8_2 + 1)), (0), (wrap64 (x11_2 + 1)), rs_, rs_, rs_, H', ⟨by have := HK1.out; have := HK2.out; have := HJ9.out; omega⟩, ⟨rk_ HO_7.out⟩, ⟨bh_⟩⟩
        rw [if_pos c17] at H
        have c17b0 : (x10_1 == a0) = true := beq_iff_eq.mpr c17
        have c17b1 : (x10_1 != a0) = false := bne_eq_false_iff_eq.mpr c17
        clear c17
        by_cases c18 : x11_2 = a1
        ·rw [if_pos c18] at H
         have c18b0 : (x11_2 == a1) = true := beq_iff_eq.mpr c18
         have c18b1 : (x11_2 != a1) = false := bne_eq_false_iff_eq.mpr c18
         clear c18
         simp only [Option.some.injEq, Prod.mk.injEq] at H
         obtain ⟨rfl, rfl, rfl⟩ := H
         go_wp2
         go_ret3
         exact rt_
        rw [if_neg c18] at H
        have c18b0 : (x11_2 == a1) = false := beq_eq_false_iff_ne.mpr c18
        have c18b1 : (x11_2 != a1) = true := bne_iff_ne.mpr c18
        have H' := am_ H
        clear H
        go_wp2
        go_roundg kj9
        case measure => have := HK1.out; have := HK2.out; have := HJ9.out; omega
        case rel => exact ⟨(wrap64 (x8_2 + 1)), (0), (wrap64 (x11_2 + 1)), rs_, rs_, rs_, H', ⟨by have := HK1.out; have := HK2.out; have := HJ9.out; omega⟩, ⟨rk_ HO_7.out⟩, ⟨bh_⟩⟩
       replace c16 := Bool.eq_false_iff.mpr c16
       subst c16
       replace H := if_ H
       by_cases c19 : x10_1 = a0
       rotate_left
       ·rw [if_neg c19] at H
        have c19b0 : (x10_1 == a0) = false := beq_eq_false_iff_ne.mpr c19
        have c19b1 : (x10_1 != a0) = true := bne_iff_ne.mpr c19
        have H' := am_ H
        clear H
        go_wp2
        go_roundg kj9
        case measure => have := HK1.out; have := HK2.out; have := HJ9.out; omega
        case rel => exact ⟨(x8_2), ((wrap64 (x9_2 + 1))), (wrap64 (x11_2 + 1)), rs_, rs_, rs_, H', ⟨by have := HK1.out; have := HK2.out; have := HJ9.out; omega⟩, ⟨rk_ HO_7.out⟩, ⟨bh_⟩⟩
       rw [if_pos c19] at H
       have c19b0 : (x10_1 == a0) = true := beq_iff_eq.mpr c19
       have c19b1 : (x10_1 != a0) = false := bne_eq_false_iff_eq.mpr c19
       clear c19
       by_cases c20 : x11_2 = a1
       ·rw [if_pos c20] at H
        have c20b0 : (x11_2 == a1) = true := beq_iff_eq.mpr c20
        have c20b1 : (x11_2 != a1) = false := bne_eq_false_iff_eq.mpr c20
        clear c20
        simp only [Option.some.injEq, Prod.mk.injEq] at H
        obtain ⟨rfl, rfl, rfl⟩ := H
        go_wp2
        go_ret3
        exact rt_
       rw [if_neg c20] at H
       have c20b0 : (x11_2 == a1) = false := beq_eq_false_iff_ne.mpr c20
       have c20b1 : (x11_2 != a1) = true := bne_iff_ne.mpr c20
       have H' := am_ H
       clear H
       go_wp2
       go_roundg kj9
       case measure => have := HK1.out; have := HK2.out; have := HJ9.out; omega
       case rel => exact ⟨(x8_2), ((wrap64 (x9_2 + 1))), (wrap64 (x11_2 + 1)), rs_, rs_, rs_, H', ⟨by have := HK1.out; have := HK2.out; have := HJ9.out; omega⟩, ⟨rk_ HO_7.out⟩, ⟨bh_⟩⟩
def computusref08_Bears.f (k : Nat) (a0 : Int) (a1 : Int) (a2 : Int) : Option (Bool) := (computusref08_Position.f k a0 a1).bind fun bt346 => (if bt346.2.2 = true then (if (Int.tmod bt346.1 2) = 0 then (if a2 = (wrap64 (30 - bt346.2.1)) then (some true) else (if a2 = 31 then (some (bt346.2.1 == 5)) else (some false))) else (if bt346.2.1 ≤ 4 then (if a2 = (wrap64 (30 - bt346.2.1)) then (some true) else (if a2 = 31 then (some (bt346.2.1 == 4)) else (some false))) else (if bt346.2.1 = 5 then (if a2 = 25 then (some true) else (some (a2 == 24))) else (some (a2 == (wrap64 (29 - bt346.2.1))))))) else (some false))
theorem computusref08_Bears.calls (k : Nat) (a0 : Int) (a1 : Int) (a2 : Int) (r : Bool) (w : World) (h : computusref08_Bears.f k a0 a1 a2 = some r) :
  Calls Try.prog 86 #[.int .i64 a0, .int .i64 a1, .int .i64 a2] w fun e w' => e = .returned (.bool r) ∧ Below w.heap.size w w' := by
 have HB := am_ (Below.refl w.heap.size w)
 have H := h
 clear h
 unfold computusref08_Bears.f at H
 obtain ⟨⟨t346, t347, t348⟩, A4, H⟩ := bs_ H
 dsimp only at H
 by_cases c5 : t348 = true
 rotate_left
 ·replace c5 := Bool.eq_false_iff.mpr c5
  subst c5
  replace H := if_ H
  obtain rfl := Option.some.inj H
  go_enter Try.func86, Try.ntmps86
  go_wp2_with (first | ((with_reducible refine gate_callee (f := 88) rfl ?_); refine gl_ (some 13) Try.func88 #[.int .i64 a0, .int .i64 a1] ?_; (with_reducible refine (computusref08_Position.calls k a0 a1 t346 t347 false _ A4.out).mono ?_); rintro e w23 ⟨rfl, hb⟩; refine ⟨_, rfl, ?_⟩; replace HB := bt_ hb; (try clear hb); (try clear hi)))
  go_ret
  exact rt_
 subst c5
 replace H := it_ H
 by_cases c6 : (Int.tmod t346 2) = 0
 ·rw [if_pos c6] at H
  have c6b0 : ((Int.tmod t346 2) == 0) = true := beq_iff_eq.mpr c6
  have c6b1 : ((Int.tmod t346 2) != 0) = false := bne_eq_false_iff_eq.mpr c6
  clear c6
  by_cases c7 : a2 = (wrap64 (30 - t347))
  ·rw [if_pos c7] at H
   have c7b0 : (a2 == (wrap64 (30 - t347))) = true := beq_iff_eq.mpr c7
   have c7b1 : (a2 != (wrap64 (30 - t347))) = false := bne_eq_false_iff_eq.mpr c7
   clear c7
   obtain rfl := Option.some.inj H
   go_enter Try.func86, Try.ntmps86
   go_wp2_with (first | ((with_reducible refine gate_callee (f := 88) rfl ?_); refine gl_ (some 13) Try.func88 #[.int .i64 a0, .int .i64 a1] ?_; (with_reducible refine (computusref08_Position.calls k a0 a1 t346 t347 true _ A4.out).mono ?_); rintro e w8 ⟨rfl, hb⟩; refine ⟨_, rfl, ?_⟩; replace HB := bt_ hb; (try clear hb); (try clear hi)))
   go_ret
   exact rt_
  rw [if_neg c7] at H
  have c7b0 : (a2 == (wrap64 (30 - t347))) = false := beq_eq_false_iff_ne.mpr c7
  have c7b1 : (a2 != (wrap64 (30 - t347))) = true := bne_iff_ne.mpr c7
  by_cases c9 : a2 = 31
  rotate_left
  ·rw [if_neg c9] at H
   have c9b0 : (a2 == 31) = false := beq_eq_false_iff_ne.mpr c9
   have c9b1 : (a2 != 31) = true := bne_iff_ne.mpr c9
   obtain rfl := Option.some.inj H
   go_enter Try.func86, Try.ntmps86
   go_wp2_with (first | ((with_reducible refine gate_callee (f := 88) rfl ?_); refine gl_ (some 13) Try.func88 #[.int .i64 a0, .int .i64 a1] ?_; (with_reducible refine (computusref08_Position.calls k a0 a1 t346 t347 true _ A4.out).mono ?_); rintro e w11 ⟨rfl, hb⟩; refine ⟨_, rfl, ?_⟩; replace HB := bt_ hb; (try clear hb); (try clear hi)))
   go_ret
   exact rt_
  rw [if_pos c9] at H
  have c9b0 : (a2 == 31) = true := beq_iff_eq.mpr c9
  have c9b1 : (a2 != 31) = false := bne_eq_false_iff_eq.mpr c9
  clear c9
  obtain rfl := Option.some.inj H
  go_enter Try.func86, Try.ntmps86
  go_wp2_with (first | ((with_reducible refine gate_callee (f := 88) rfl ?_); refine gl_ (some 13) Try.func88 #[.int .i64 a0, .int .i64 a1] ?_; (with_reducible refine (computusref08_Position.calls k a0 a1 t346 t347 true _ A4.out).mono ?_); rintro e w10 ⟨rfl, hb⟩; refine ⟨_, rfl, ?_⟩; replace HB := bt_ hb; (try clear hb); (try clear hi)))
  go_ret
  exact rt_
 rw [if_neg c6] at H
 have c6b0 : ((Int.tmod t346 2) == 0) = false := beq_eq_false_iff_ne.mpr c6
 have c6b1 : ((Int.tmod t346 2) != 0) = true := bne_iff_ne.mpr c6
 by_cases c12 : t347 ≤ 4
 rotate_left
 ·rw [if_neg c12] at H
  have c12b0 : decide (t347 ≤ 4) = false := decide_eq_false c12
  clear c12
  by_cases c18 : t347 = 5
  rotate_left
  ·rw [if_neg c18] at H
   have c18b0 : (t347 == 5) = false := beq_eq_false_iff_ne.mpr c18
   have c18b1 : (t347 != 5) = true := bne_iff_ne.mpr c18
   obtain rfl := Option.some.inj H
   go_enter Try.func86, Try.ntmps86
   go_wp2_with (first | ((with_reducible refine gate_callee (f := 88) rfl ?_); refine gl_ (some 13) Try.func88 #[.int .i64 a0, .int .i64 a1] ?_; (with_reducible refine (computusref08_Position.calls k a0 a1 t346 t347 true _ A4.out).mono ?_); rintro e w22 ⟨rfl, hb⟩; refine ⟨_, rfl, ?_⟩; replace HB := bt_ hb; (try clear hb); (try clear hi)))
   go_ret
   exact rt_
  rw [if_pos c18] at H
  have c18b0 : (t347 == 5) = true := beq_iff_eq.mpr c18
  have c18b1 : (t347 != 5) = false := bne_eq_false_iff_eq.mpr c18
  clear c18
  by_cases c19 : a2 = 25
  rotate_left
  ·rw [if_neg c19] at H
   have c19b0 : (a2 == 25) = false := beq_eq_false_iff_ne.mpr c19
   have c19b1 : (a2 != 25) = true := bne_iff_ne.mpr c19
   obtain rfl := Option.some.inj H
   go_enter Try.func86, Try.ntmps86
   go_wp2_with (first | ((with_reducible refine gate_callee (f := 88) rfl ?_); refine gl_ (some 13) Try.func88 #[.int .i64 a0, .int .i64 a1] ?_; (with_reducible refine (computusref08_Position.calls k a0 a1 t346 t347 true _ A4.out).mono ?_); rintro e w21 ⟨rfl, hb⟩; refine ⟨_, rfl, ?_⟩; replace HB := bt_ hb; (try clear hb); (try clear hi)))
   go_ret
   exact rt_
  rw [if_pos c19] at H
  have c19b0 : (a2 == 25) = true := beq_iff_eq.mpr c19
  have c19b1 : (a2 != 25) = false := bne_eq_false_iff_eq.mpr c19
  clear c19
  obtain rfl := Option.some.inj H
  go_enter Try.func86, Try.ntmps86
  go_wp2_with (first | ((with_reducible refine gate_callee (f := 88) rfl ?_); refine gl_ (some 13) Try.func88 #[.int .i64 a0, .int .i64 a1] ?_; (with_reducible refine (computusref08_Position.calls k a0 a1 t346 t347 true _ A4.out).mono ?_); rintro e w20 ⟨rfl, hb⟩; refine ⟨_, rfl, ?_⟩; replace HB := bt_ hb; (try clear hb); (try clear hi)))
  go_ret
  exact rt_
 rw [if_pos c12] at H
 have c12b0 : decide (t347 ≤ 4) = true := decide_eq_true c12
 clear c12
 by_cases c13 : a2 = (wrap64 (30 - t347))
 ·rw [if_pos c13] at H
  have c13b0 : (a2 == (wrap64 (30 - t347))) = true := beq_iff_eq.mpr c13
  have c13b1 : (a2 != (wrap64 (30 - t347))) = false := bne_eq_false_iff_eq.mpr c13
  clear c13
  obtain rfl := Option.some.inj H
  go_enter Try.func86, Try.ntmps86
  go_wp2_with (first | ((with_reducible refine gate_callee (f := 88) rfl ?_); refine gl_ (some 13) Try.func88 #[.int .i64 a0, .int .i64 a1] ?_; (with_reducible refine (computusref08_Position.calls k a0 a1 t346 t347 true _ A4.out).mono ?_); rintro e w14 ⟨rfl, hb⟩; refine ⟨_, rfl, ?_⟩; replace HB := bt_ hb; (try clear hb); (try clear hi)))
  go_ret
  exact rt_
 rw [if_neg c13] at H
 have c13b0 : (a2 == (wrap64 (30 - t347))) = false := beq_eq_false_iff_ne.mpr c13
 have c13b1 : (a2 != (wrap64 (30 - t347))) = true := bne_iff_ne.mpr c13
 by_cases c15 : a2 = 31
 rotate_left
 ·rw [if_neg c15] at H
  have c15b0 : (a2 == 31) = false := beq_eq_false_iff_ne.mpr c15
  have c15b1 : (a2 != 31) = true := bne_iff_ne.mpr c15
  obtain rfl := Option.some.inj H
  go_enter Try.func86, Try.ntmps86
  go_wp2_with (first | ((with_reducible refine gate_callee (f := 88) rfl ?_); refine gl_ (some 13) Try.func88 #[.int .i64 a0, .int .i64 a1] ?_; (with_reducible refine (computusref08_Position.calls k a0 a1 t346 t347 true _ A4.out).mono ?_); rintro e w17 ⟨rfl, hb⟩; refine ⟨_, rfl, ?_⟩; replace HB := bt_ hb; (try clear hb); (try clear hi)))
  go_ret
  exact rt_
 rw [if_pos c15] at H
 have c15b0 : (a2 == 31) = true := beq_iff_eq.mpr c15
 have c15b1 : (a2 != 31) = false := bne_eq_false_iff_eq.mpr c15
 clear c15
 obtain rfl := Option.some.inj H
 go_enter Try.func86, Try.ntmps86
 go_wp2_with (first | ((with_reducible refine gate_callee (f := 88) rfl ?_); refine gl_ (some 13) Try.func88 #[.int .i64 a0, .int .i64 a1] ?_; (with_reducible refine (computusref08_Position.calls k a0 a1 t346 t347 true _ A4.out).mono ?_); rintro e w16 ⟨rfl, hb⟩; refine ⟨_, rfl, ?_⟩; replace HB := bt_ hb; (try clear hb); (try clear hi)))
 go_ret
 exact rt_
def computusref06_Golden.f (a0 : Int) : Option (Int) := some (wrap64 ((wrap64 (a0 - (wrap64 (19 * (wrap64 (Int.tdiv a0 19)))))) + 1))
theorem computusref06_Golden.calls (a0 : Int) (r : Int) (w : World) (h : computusref06_Golden.f a0 = some r) :
  Calls Try.prog 90 #[.int .i64 a0] w fun e w' => e = .returned (.int .i64 r) ∧ Drawn0 w w' := by
 have H := h
 clear h
 unfold computusref06_Golden.f at H
 obtain rfl := Option.some.inj H
 go_enter Try.func90, Try.ntmps90
 go_wp2
 go_ret
 exact ⟨by first | rfl | (simp; done) | (simp [*]; done), by repeat (first | exact Drawn0.refl _ | apply Drawn0.step)⟩
def computusref06_Century.f (a0 : Int) : Option (Int) := some (wrap64 ((wrap64 (Int.tdiv a0 100)) + 1))
theorem computusref06_Century.calls (a0 : Int) (r : Int) (w : World) (h : computusref06_Century.f a0 = some r) :
  Calls Try.prog 94 #[.int .i64 a0] w fun e w' => e = .returned (.int .i64 r) ∧ Drawn0 w w' := by
 have H := h
 clear h
 unfold computusref06_Century.f at H
 obtain rfl := Option.some.inj H
 go_enter Try.func94, Try.ntmps94
 go_wp2
 go_ret
 exact ⟨by first | rfl | (simp; done) | (simp [*]; done), by repeat (first | exact Drawn0.refl _ | apply Drawn0.step)⟩
def computusref06_Lunar.f (a0 : Int) : Option (Int) := (computusref06_Century.f a0).bind fun t349 => (some (wrap64 ((wrap64 (Int.tdiv (wrap64 ((wrap64 (8 * t349)) + 5)) 25)) - 5)))
theorem computusref06_Lunar.calls (a0 : Int) (r : Int) (w : World) (h : computusref06_Lunar.f a0 = some r) :
  Calls Try.prog 92 #[.int .i64 a0] w fun e w' => e = .returned (.int .i64 r) ∧ Drawn0 w w' := by
 have H := h
 clear h
 unfold computusref06_Lunar.f at H
 obtain ⟨t349, A2, H⟩ := bs_ H
 obtain rfl := Option.some.inj H
 go_enter Try.func92, Try.ntmps92
 go_wp2_with (first | ((with_reducible refine gate_callee (f := 94) rfl ?_); refine gl_ (some 4) Try.func94 #[.int .i64 a0] ?_; (with_reducible refine (computusref06_Century.calls a0 t349 _ A2.out).mono ?_); rintro e w' ⟨rfl, ⟨nd, rfl⟩⟩; refine ⟨_, rfl, ?_⟩))
 go_ret
 exact ⟨by first | rfl | (simp; done) | (simp [*]; done), by repeat (first | exact Drawn0.refl _ | apply Drawn0.step)⟩
def computusref06_Solar.f (a0 : Int) : Option (Int) := (computusref06_Century.f a0).bind fun t350 => (some (wrap64 ((wrap64 (Int.tdiv (wrap64 (3 * t350)) 4)) - 12)))
theorem computusref06_Solar.calls (a0 : Int) (r : Int) (w : World) (h : computusref06_Solar.f a0 = some r) :
  Calls Try.prog 93 #[.int .i64 a0] w fun e w' => e = .returned (.int .i64 r) ∧ Drawn0 w w' := by
 have H := h
 clear h
 unfold computusref06_Solar.f at H
 obtain ⟨t350, A2, H⟩ := bs_ H
 obtain rfl := Option.some.inj H
 go_enter Try.func93, Try.ntmps93
 go_wp2_with (first | ((with_reducible refine gate_callee (f := 94) rfl ?_); refine gl_ (some 4) Try.func94 #[.int .i64 a0] ?_; (with_reducible refine (computusref06_Century.calls a0 t350 _ A2.out).mono ?_); rintro e w' ⟨rfl, ⟨nd, rfl⟩⟩; refine ⟨_, rfl, ?_⟩))
 go_ret
 exact ⟨by first | rfl | (simp; done) | (simp [*]; done), by repeat (first | exact Drawn0.refl _ | apply Drawn0.step)⟩
def computusref07_Of.f (a0 : Int) (a1 : Int) : Option (Int) := (computusref06_Golden.f a1).bind fun t351 => (if a0 = 2 then ((computusref06_Golden.f a1).bind fun t352 => ((computusref06_Lunar.f a1).bind fun t353 => ((computusref06_Solar.f a1).bind fun t354 => ((computusref01_Mod.f (wrap64 ((wrap64 ((wrap64 ((wrap64 (11 * t352)) + 20)) + t353)) - t354)) 30).bind fun t355 => (if t355 = 0 then (some 30) else (some t355)))))) else ((computusref01_Mod.f (wrap64 ((wrap64 (11 * t351)) - 3)) 30).bind fun t356 => (if t356 = 0 then (some 30) else (some t356))))
theorem computusref07_Of.calls (a0 : Int) (a1 : Int) (r : Int) (w : World) (h : computusref07_Of.f a0 a1 = some r) :
  Calls Try.prog 89 #[.int .i64 a0, .int .i64 a1] w fun e w' => e = .returned (.int .i64 r) ∧ Drawn0 w w' := by
 have H := h
 clear h
 unfold computusref07_Of.f at H
 obtain ⟨t351, A3, H⟩ := bs_ H
 by_cases c4 : a0 = 2
 rotate_left
 ·rw [if_neg c4] at H
  have c4b0 : (a0 == 2) = false := beq_eq_false_iff_ne.mpr c4
  have c4b1 : (a0 != 2) = true := bne_iff_ne.mpr c4
  obtain ⟨t356, A10, H⟩ := bs_ H
  by_cases c11 : t356 = 0
  rotate_left
  ·rw [if_neg c11] at H
   have c11b0 : (t356 == 0) = false := beq_eq_false_iff_ne.mpr c11
   have c11b1 : (t356 != 0) = true := bne_iff_ne.mpr c11
   obtain rfl := Option.some.inj H
   go_enter Try.func89, Try.ntmps89
   go_wp2_with (first | ((with_reducible refine gate_callee (f := 90) rfl ?_); refine gl_ (some 8) Try.func90 #[.int .i64 a1] ?_; (with_reducible refine (computusref06_Golden.calls a1 t351 _ A3.out).mono ?_); rintro e w' ⟨rfl, ⟨nd, rfl⟩⟩; refine ⟨_, rfl, ?_⟩) | ((with_reducible refine gate_callee (f := 58) rfl ?_); refine gl_ (some 24) Try.func58 #[.int .i64 (wrap64 ((wrap64 (11 * t351)) - 3)), .int .i64 30] ?_; (with_reducible refine (computusref01_Mod.calls (wrap64 ((wrap64 (11 * t351)) - 3)) 30 t356 _ A10.out).mono ?_); rintro e w' ⟨rfl, ⟨nd, rfl⟩⟩; refine ⟨_, rfl, ?_⟩))
   go_ret
   exact ⟨by first | rfl | (simp; done) | (simp [*]; done), by repeat (first | exact Drawn0.refl _ | apply Drawn0.step)⟩
  rw [if_pos c11] at H
  have c11b0 : (t356 == 0) = true := beq_iff_eq.mpr c11
  have c11b1 : (t356 != 0) = false := bne_eq_false_iff_eq.mpr c11
  clear c11
  obtain rfl := Option.some.inj H
  go_enter Try.func89, Try.ntmps89
  go_wp2_with (first | ((with_reducible refine gate_callee (f := 90) rfl ?_); refine gl_ (some 8) Try.func90 #[.int .i64 a1] ?_; (with_reducible refine (computusref06_Golden.calls a1 t351 _ A3.out).mono ?_); rintro e w' ⟨rfl, ⟨nd, rfl⟩⟩; refine ⟨_, rfl, ?_⟩) | ((with_reducible refine gate_callee (f := 58) rfl ?_); refine gl_ (some 24) Try.func58 #[.int .i64 (wrap64 ((wrap64 (11 * t351)) - 3)), .int .i64 30] ?_; (with_reducible refine (computusref01_Mod.calls (wrap64 ((wrap64 (11 * t351)) - 3)) 30 t356 _ A10.out).mono ?_); rintro e w' ⟨rfl, ⟨nd, rfl⟩⟩; refine ⟨_, rfl, ?_⟩))
  go_ret
  exact ⟨by first | rfl | (simp; done) | (simp [*]; done), by repeat (first | exact Drawn0.refl _ | apply Drawn0.step)⟩
 rw [if_pos c4] at H
 have c4b0 : (a0 == 2) = true := beq_iff_eq.mpr c4
 have c4b1 : (a0 != 2) = false := bne_eq_false_iff_eq.mpr c4
 clear c4
 obtain ⟨t352, A5, H⟩ := bs_ H
 obtain ⟨t353, A6, H⟩ := bs_ H
 obtain ⟨t354, A7, H⟩ := bs_ H
 obtain ⟨t355, A8, H⟩ := bs_ H
 by_cases c9 : t355 = 0
 rotate_left
 ·rw [if_neg c9] at H
  have c9b0 : (t355 == 0) = false := beq_eq_false_iff_ne.mpr c9
  have c9b1 : (t355 != 0) = true := bne_iff_ne.mpr c9
  obtain rfl := Option.some.inj H
  go_enter Try.func89, Try.ntmps89
  go_wp2_with (first | ((with_reducible refine gate_callee (f := 90) rfl ?_); refine gl_ (some 8) Try.func90 #[.int .i64 a1] ?_; (with_reducible refine (computusref06_Golden.calls a1 t351 _ A3.out).mono ?_); rintro e w' ⟨rfl, ⟨nd, rfl⟩⟩; refine ⟨_, rfl, ?_⟩) | ((with_reducible refine gate_callee (f := 90) rfl ?_); refine gl_ (some 14) Try.func90 #[.int .i64 a1] ?_; (with_reducible refine (computusref06_Golden.calls a1 t352 _ A5.out).mono ?_); rintro e w' ⟨rfl, ⟨nd, rfl⟩⟩; refine ⟨_, rfl, ?_⟩) | ((with_reducible refine gate_callee (f := 92) rfl ?_); refine gl_ (some 18) Try.func92 #[.int .i64 a1] ?_; (with_reducible refine (computusref06_Lunar.calls a1 t353 _ A6.out).mono ?_); rintro e w' ⟨rfl, ⟨nd, rfl⟩⟩; refine ⟨_, rfl, ?_⟩) | ((with_reducible refine gate_callee (f := 93) rfl ?_); refine gl_ (some 21) Try.func93 #[.int .i64 a1] ?_; (with_reducible refine (computusref06_Solar.calls a1 t354 _ A7.out).mono ?_); rintro e w' ⟨rfl, ⟨nd, rfl⟩⟩; refine ⟨_, rfl, ?_⟩) | ((with_reducible refine gate_callee (f := 58) rfl ?_); refine gl_ (some 24) Try.func58 #[.int .i64 (wrap64 ((wrap64 ((wrap64 ((wrap64 (11 * t352)) + 20)) + t353)) - t354)), .int .i64 30] ?_; (with_reducible refine (computusref01_Mod.calls (wrap64 ((wrap64 ((wrap64 ((wrap64 (11 * t352)) + 20)) + t353)) - t354)) 30 t355 _ A8.out).mono ?_); rintro e w' ⟨rfl, ⟨nd, rfl⟩⟩; refine ⟨_, rfl, ?_⟩))
  go_ret
  exact ⟨by first | rfl | (simp; done) | (simp [*]; done), by repeat (first | exact Drawn0.refl _ | apply Drawn0.step)⟩
 rw [if_pos c9] at H
 have c9b0 : (t355 == 0) = true := beq_iff_eq.mpr c9
 have c9b1 : (t355 != 0) = false := bne_eq_false_iff_eq.mpr c9
 clear c9
 obtain rfl := Option.some.inj H
 go_enter Try.func89, Try.ntmps89
 go_wp2_with (first | ((with_reducible refine gate_callee (f := 90) rfl ?_); refine gl_ (some 8) Try.func90 #[.int .i64 a1] ?_; (with_reducible refine (computusref06_Golden.calls a1 t351 _ A3.out).mono ?_); rintro e w' ⟨rfl, ⟨nd, rfl⟩⟩; refine ⟨_, rfl, ?_⟩) | ((with_reducible refine gate_callee (f := 90) rfl ?_); refine gl_ (some 14) Try.func90 #[.int .i64 a1] ?_; (with_reducible refine (computusref06_Golden.calls a1 t352 _ A5.out).mono ?_); rintro e w' ⟨rfl, ⟨nd, rfl⟩⟩; refine ⟨_, rfl, ?_⟩) | ((with_reducible refine gate_callee (f := 92) rfl ?_); refine gl_ (some 18) Try.func92 #[.int .i64 a1] ?_; (with_reducible refine (computusref06_Lunar.calls a1 t353 _ A6.out).mono ?_); rintro e w' ⟨rfl, ⟨nd, rfl⟩⟩; refine ⟨_, rfl, ?_⟩) | ((with_reducible refine gate_callee (f := 93) rfl ?_); refine gl_ (some 21) Try.func93 #[.int .i64 a1] ?_; (with_reducible refine (computusref06_Solar.calls a1 t354 _ A7.out).mono ?_); rintro e w' ⟨rfl, ⟨nd, rfl⟩⟩; refine ⟨_, rfl, ?_⟩) | ((with_reducible refine gate_callee (f := 58) rfl ?_); refine gl_ (some 24) Try.func58 #[.int .i64 (wrap64 ((wrap64 ((wrap64 ((wrap64 (11 * t352)) + 20)) + t353)) - t354)), .int .i64 30] ?_; (with_reducible refine (computusref01_Mod.calls (wrap64 ((wrap64 ((wrap64 ((wrap64 (11 * t352)) + 20)) + t353)) - t354)) 30 t355 _ A8.out).mono ?_); rintro e w' ⟨rfl, ⟨nd, rfl⟩⟩; refine ⟨_, rfl, ?_⟩))
 go_ret
 exact ⟨by first | rfl | (simp; done) | (simp [*]; done), by repeat (first | exact Drawn0.refl _ | apply Drawn0.step)⟩
def computusref07_Label.f (a0 : Int) (a1 : Int) : Option (Int) := (computusref07_Of.f a0 a1).bind fun t357 => (if t357 = 25 then ((computusref06_Golden.f a1).bind fun t358 => (if t358 > 11 then (some 31) else (some t357))) else (some t357))
theorem computusref07_Label.calls (a0 : Int) (a1 : Int) (r : Int) (w : World) (h : computusref07_Label.f a0 a1 = some r) :
  Calls Try.prog 87 #[.int .i64 a0, .int .i64 a1] w fun e w' => e = .returned (.int .i64 r) ∧ Drawn0 w w' := by
 have H := h
 clear h
 unfold computusref07_Label.f at H
 obtain ⟨t357, A3, H⟩ := bs_ H
 by_cases c4 : t357 = 25
 rotate_left
 ·rw [if_neg c4] at H
  have c4b0 : (t357 == 25) = false := beq_eq_false_iff_ne.mpr c4
  have c4b1 : (t357 != 25) = true := bne_iff_ne.mpr c4
  obtain rfl := Option.some.inj H
  go_enter Try.func87, Try.ntmps87
  go_wp2_with (first | ((with_reducible refine gate_callee (f := 89) rfl ?_); refine gl_ (some 8) Try.func89 #[.int .i64 a0, .int .i64 a1] ?_; (with_reducible refine (computusref07_Of.calls a0 a1 t357 _ A3.out).mono ?_); rintro e w' ⟨rfl, ⟨nd, rfl⟩⟩; refine ⟨_, rfl, ?_⟩))
  go_ret
  exact ⟨by first | rfl | (simp; done) | (simp [*]; done), by repeat (first | exact Drawn0.refl _ | apply Drawn0.step)⟩
 rw [if_pos c4] at H
 have c4b0 : (t357 == 25) = true := beq_iff_eq.mpr c4
 have c4b1 : (t357 != 25) = false := bne_eq_false_iff_eq.mpr c4
 clear c4
 obtain ⟨t358, A5, H⟩ := bs_ H
 by_cases c6 : t358 > 11
 ·rw [if_pos c6] at H
  have c6b0 : decide (11 < t358) = true := decide_eq_true c6
  clear c6
  obtain rfl := Option.some.inj H
  go_enter Try.func87, Try.ntmps87
  go_wp2_with (first | ((with_reducible refine gate_callee (f := 89) rfl ?_); refine gl_ (some 8) Try.func89 #[.int .i64 a0, .int .i64 a1] ?_; (with_reducible refine (computusref07_Of.calls a0 a1 t357 _ A3.out).mono ?_); rintro e w' ⟨rfl, ⟨nd, rfl⟩⟩; refine ⟨_, rfl, ?_⟩) | (go_at_call 90; (with_reducible refine (computusref06_Golden.calls a1 t358 _ A5.out).mono ?_); rintro e w' ⟨rfl, ⟨nd, rfl⟩⟩))
  go_ret
  exact ⟨by first | rfl | (simp; done) | (simp [*]; done), by repeat (first | exact Drawn0.refl _ | apply Drawn0.step)⟩
 rw [if_neg c6] at H
 have c6b0 : decide (11 < t358) = false := decide_eq_false c6
 clear c6
 obtain rfl := Option.some.inj H
 go_enter Try.func87, Try.ntmps87
 go_wp2_with (first | ((with_reducible refine gate_callee (f := 89) rfl ?_); refine gl_ (some 8) Try.func89 #[.int .i64 a0, .int .i64 a1] ?_; (with_reducible refine (computusref07_Of.calls a0 a1 t357 _ A3.out).mono ?_); rintro e w' ⟨rfl, ⟨nd, rfl⟩⟩; refine ⟨_, rfl, ?_⟩) | (go_at_call 90; (with_reducible refine (computusref06_Golden.calls a1 t358 _ A5.out).mono ?_); rintro e w' ⟨rfl, ⟨nd, rfl⟩⟩))
 go_ret
 exact ⟨by first | rfl | (simp; done) | (simp [*]; done), by repeat (first | exact Drawn0.refl _ | apply Drawn0.step)⟩
def computusref09_NewMoon.f (k : Nat) (a0 : Int) (a1_0 : Int) (a1_1 : Int) (a1_2 : Int) : Option (Bool) := (computusref07_Label.f a0 a1_0).bind fun t360 => ((computusref08_Bears.f k a1_1 a1_2 t360).bind fun t361 => (some t361))
def computusref09_NewMoon.T1 : Bool × List (List Nat × List Nat) := (true, [([], []), ([0], [0]), ([], []), ([2], [2]), ([], []), ([], []), ([5], [5]), ([4, 6], [4, 6]), ([1, 3, 7, 7], [1, 3, 7]), ([8, 8, 0, 1, 2, 3, 4, 5, 6, 7, 8], [8])])
def computusref09_NewMoon.B1 : List Nat := [0, 1, 0, 4, 0, 0, 32, 112, 255, 511]
theorem computusref09_NewMoon.tab1 : rtab .any (opsOf Try.f79 1) = computusref09_NewMoon.T1 := by kernel_rfl
theorem computusref09_NewMoon.bits1 : waitsOk computusref09_NewMoon.T1.2 computusref09_NewMoon.B1 = true := by kernel_rfl
theorem computusref09_NewMoon.calls (k : Nat) (a0 : Int) (a1_0 : Int) (a1_1 : Int) (a1_2 : Int) (r : Bool) (w : World) (h : computusref09_NewMoon.f k a0 a1_0 a1_1 a1_2 = some r) :
  Calls Try.prog 79 #[.int .i64 a0, .agg #[.int .i64 a1_0, .int .i64 a1_1, .int .i64 a1_2]] w fun e w' => e = .returned (.bool r) ∧ Below w.heap.size w w' := by
 have hu98 := Try.underlying98
 have HB := am_ (Below.refl w.heap.size w)
 have H := h
 clear h
 unfold computusref09_NewMoon.f at H
 obtain ⟨t360, A3, H⟩ := bs_ H
 obtain ⟨t361, A4, H⟩ := bs_ H
 obtain rfl := Option.some.inj H
 go_enter Try.func79, Try.ntmps79
 try go_wp2_with (first | ((with_reducible refine gate_dst (N := 3) rfl ?_); refine bx_ (w := w) (N := 3) (cs := #[.int .i64 a1_0, .int .i64 a1_1, .int .i64 a1_2]) (t := 98) ?_; intro gb359 w5 BK359 n0_ GW359 GE359; clear HB; have HB := n0_; clear n0_))
 replace BK359 := am_ (blk_drew BK359.out)
 replace HB := am_ (below_drew1 HB.out)
 refine start_ (n := 10) (S := fun w' => w'.cell? ⟨gb359, 0, none⟩ = some (.int .i64 a1_0) ∧ w'.cell? ⟨gb359, 1, none⟩ = some (.int .i64 a1_1) ∧ w'.cell? ⟨gb359, 2, none⟩ = some (.int .i64 a1_2)) (ds := []) (bf_ 10 0) (by kernel_rfl) rfl rfl (cz3_ BK359.out) (fun hHeld => ?_); refine with_tabW computusref09_NewMoon.tab1 computusref09_NewMoon.bits1 (fun HT_ HW_ => ?_)
 generalize w5.drew = w6 at BK359 HB hHeld ⊢
 refine pu_ 0 (some 5) (bf_ 10 1) HT_.out ?_
 refine pu_ 2 (some 7) (bf_ 10 5) HT_.out ?_
 refine pu_ 4 (some 9) (bf_ 10 21) HT_.out ?_
 refine pu_ 5 (some 10) (bf_ 10 53) HT_.out ?_
 refine ta_ 1 (some 6) (bf_ 10 55) HT_.out HW_.out hHeld ?_
 refine ta_ 3 (some 8) (bf_ 10 63) HT_.out HW_.out hHeld ?_
 refine ta_ 6 (some 11) (bf_ 10 127) HT_.out HW_.out hHeld ?_
 refine one_ (i := 7) (N := some 12) (bf_ 10 255) rfl rfl (one_of HT_.out (by kernel_rfl)) (by decide) (fun K hK => ?_)
 refine gs_ Try.func87 #[.int .i64 a0, .int .i64 a1_0] ?_
 with_reducible refine (computusref07_Label.calls a0 a1_0 t360 _ A3.out).mono ?_
 rintro e w' ⟨rfl, ⟨nd, rfl⟩⟩
 refine ⟨_, rfl, ?_⟩
 refine hK.out _ _ (by first | exact (cz3_ BK359.out) | exact hHeld) (fun hHeld => ?_)
 clear hK K
 refine norm_ (a' := ?_) ?_ ?_
 rotate_left
 ·show Act.put _ (some 12) _ = _
  simp only [Act.put, sA_, sZ_, sS_, i64_w, i32_w]
  rfl
 refine one_ (i := 8) (N := some 13) (bf_ 10 511) rfl rfl (one_of HT_.out (by kernel_rfl)) (by decide) (fun K hK => ?_)
 refine gs_ Try.func86 #[.int .i64 a1_1, .int .i64 a1_2, .int .i64 t360] ?_
 with_reducible refine (computusref08_Bears.calls k a1_1 a1_2 t360 t361 _ A4.out).mono ?_
 rintro e w7 ⟨rfl, hb⟩
 refine ⟨_, rfl, ?_⟩
 replace BK359 := bw_ BK359 hb
 replace HB := bt_ hb
 (try clear hb)
 (try clear hb2)
 (try clear hk)
 (try clear hi)
 refine hK.out _ _ (by first | exact (cz3_ BK359.out) | exact hHeld) (fun hHeld => ?_)
 clear hK K
 refine norm_ (a' := ?_) ?_ ?_
 rotate_left
 ·show Act.put _ (some 13) _ = _
  simp only [Act.put, sA_, sZ_, sS_, i64_w, i32_w]
  rfl
 refine pu_ 9 (some 4) (bf_ 10 1023) HT_.out ?_
 refine done_ (done_of HT_.out (by kernel_rfl)) ?_
 try go_wp2
 go_ret
 exact rt_
end Go.Proofs.Ytopfjjdkffdjpaa.Q
end
