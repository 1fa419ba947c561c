-- Written by wip/tool/qprint.py: the print of the kit, with hand-proved contracts put in. Lean checks it.
import Derived.Test.YtkpicinbckedoaaQx0
import Derived.Test.YtkpicinbckedoaaQx7
import Derived.Test.YtkpicinbckedoaaHAwake24
import Derived.Test.YtkpicinbckedoaaHNamesW
namespace Go.Proofs.Ytkpicinbckedoaa.Q
open Go.RowKit Go.Proofs.YtkpicinbckedoaaW.PrintWords Go.Proofs.YtkpicinbckedoaaW.PrintLast Go.Proofs.YtkpicinbckedoaaW.PrintMore
attribute [local go_sem] max2_int min2_int max_two min_two max_three min_three max_four min_four   -- for this text's walks alone
set_option linter.unusedVariables false
set_option linter.unusedSimpArgs false

/-! ### computuslaw24_BuiltinDistinct: function 4 -/
def computuslaw24_BuiltinDistinct.f (k : Nat) (a0 : Int) (a1 : Int) : Option (Bool) := (computuslaw24_awake.f).bind fun t888 => (if t888 = true then ((builtin_Names.f).bind fun t889 => (if 0 ≤ (Int.tmod (wrap64 (a0)) 33) then (if (Int.tmod (wrap64 (a0)) 33) < (t889.length : Int) then ((computusref17_Identifier.f k (rdOf ByteArray.empty t889 (Int.tmod (wrap64 (a0)) 33))).bind fun t893 => (if t893 = true then (if 0 ≤ (Int.tmod (wrap64 (a1)) 33) then (if (Int.tmod (wrap64 (a1)) 33) < (t889.length : Int) then (some (((rdOf ByteArray.empty t889 (Int.tmod (wrap64 (a0)) 33)).toList == (rdOf ByteArray.empty t889 (Int.tmod (wrap64 (a1)) 33)).toList) == ((Int.tmod (wrap64 (a0)) 33) == (Int.tmod (wrap64 (a1)) 33)))) else (none)) else (none)) else (none))) else (none)) else (none))) else (none))
theorem computuslaw24_BuiltinDistinct.mono : ∀ a0 a1 k, LeO (computuslaw24_BuiltinDistinct.f k a0 a1) (computuslaw24_BuiltinDistinct.f (k + 1) a0 a1) := by
  intro a0 a1 k
  unfold computuslaw24_BuiltinDistinct.f
  repeat' first
      | (with_reducible exact computusref17_Identifier.mono _ _)
      | (with_reducible exact LeO.refl _)
      | (with_reducible exact LeO.none _)
      | (with_reducible refine LeO.ite ?_ ?_)
      | (with_reducible refine LeO.bind ?_ (fun _ => ?_))
      | exact computusref17_Identifier.mono _ _
      | exact LeO.none _
      | refine LeO.ite ?_ ?_
      | refine LeO.bind ?_ (fun _ => ?_)
set_option maxHeartbeats 8000000 in
set_option maxRecDepth 100000 in
theorem computuslaw24_BuiltinDistinct.calls (k : Nat) (a0 : Int) (a1 : Int) (r : Bool) (w : World) (h : computuslaw24_BuiltinDistinct.f k a0 a1 = some r) :
    Calls Try.prog 4 #[.int .u8 a0, .int .u8 a1] w fun e w' => e = .returned (.bool r) ∧ Below w.heap.size w w' := by
  have HB := Aside0.mk (Below.refl w.heap.size w)
  have H : ((computuslaw24_awake.f).bind fun t888 => (if t888 = true then ((builtin_Names.f).bind fun t889 => (if 0 ≤ (Int.tmod (wrap64 (a0)) 33) then (if (Int.tmod (wrap64 (a0)) 33) < (t889.length : Int) then ((computusref17_Identifier.f k (rdOf ByteArray.empty t889 (Int.tmod (wrap64 (a0)) 33))).bind fun t893 => (if t893 = true then (if 0 ≤ (Int.tmod (wrap64 (a1)) 33) then (if (Int.tmod (wrap64 (a1)) 33) < (t889.length : Int) then (some (((rdOf ByteArray.empty t889 (Int.tmod (wrap64 (a0)) 33)).toList == (rdOf ByteArray.empty t889 (Int.tmod (wrap64 (a1)) 33)).toList) == ((Int.tmod (wrap64 (a0)) 33) == (Int.tmod (wrap64 (a1)) 33)))) else (none)) else (none)) else (none))) else (none)) else (none))) else (none))) = some r := h
  clear h
  replace H := Option.bind_eq_some_iff.mp H
  obtain ⟨t888, A30, H⟩ := H
  replace H : (if t888 = true then ((builtin_Names.f).bind fun t889 => (if 0 ≤ (Int.tmod (wrap64 (a0)) 33) then (if (Int.tmod (wrap64 (a0)) 33) < (t889.length : Int) then ((computusref17_Identifier.f k (rdOf ByteArray.empty t889 (Int.tmod (wrap64 (a0)) 33))).bind fun t893 => (if t893 = true then (if 0 ≤ (Int.tmod (wrap64 (a1)) 33) then (if (Int.tmod (wrap64 (a1)) 33) < (t889.length : Int) then (some (((rdOf ByteArray.empty t889 (Int.tmod (wrap64 (a0)) 33)).toList == (rdOf ByteArray.empty t889 (Int.tmod (wrap64 (a1)) 33)).toList) == ((Int.tmod (wrap64 (a0)) 33) == (Int.tmod (wrap64 (a1)) 33)))) else (none)) else (none)) else (none))) else (none)) else (none))) else (none)) = some r := H
  have A3 := Aside0.mk A30
  clear A30
  by_cases c4 : t888 = true
  · subst c4
    have H1 : ((builtin_Names.f).bind fun t889 => (if 0 ≤ (Int.tmod (wrap64 (a0)) 33) then (if (Int.tmod (wrap64 (a0)) 33) < (t889.length : Int) then ((computusref17_Identifier.f k (rdOf ByteArray.empty t889 (Int.tmod (wrap64 (a0)) 33))).bind fun t893 => (if t893 = true then (if 0 ≤ (Int.tmod (wrap64 (a1)) 33) then (if (Int.tmod (wrap64 (a1)) 33) < (t889.length : Int) then (some (((rdOf ByteArray.empty t889 (Int.tmod (wrap64 (a0)) 33)).toList == (rdOf ByteArray.empty t889 (Int.tmod (wrap64 (a1)) 33)).toList) == ((Int.tmod (wrap64 (a0)) 33) == (Int.tmod (wrap64 (a1)) 33)))) else (none)) else (none)) else (none))) else (none)) else (none))) = some r := by rw [if_pos rfl] at H; exact H
    clear H
    have H := H1
    clear H1
    replace H := Option.bind_eq_some_iff.mp H
    obtain ⟨t889, A50, H⟩ := H
    replace H : (if 0 ≤ (Int.tmod (wrap64 (a0)) 33) then (if (Int.tmod (wrap64 (a0)) 33) < (t889.length : Int) then ((computusref17_Identifier.f k (rdOf ByteArray.empty t889 (Int.tmod (wrap64 (a0)) 33))).bind fun t893 => (if t893 = true then (if 0 ≤ (Int.tmod (wrap64 (a1)) 33) then (if (Int.tmod (wrap64 (a1)) 33) < (t889.length : Int) then (some (((rdOf ByteArray.empty t889 (Int.tmod (wrap64 (a0)) 33)).toList == (rdOf ByteArray.empty t889 (Int.tmod (wrap64 (a1)) 33)).toList) == ((Int.tmod (wrap64 (a0)) 33) == (Int.tmod (wrap64 (a1)) 33)))) else (none)) else (none)) else (none))) else (none)) else (none)) = some r := H
    have A5 := Aside0.mk A50
    clear A50
    obtain ⟨ji6, hji6⟩ : ∃ j_ : Int, (Int.tmod (wrap64 (a0)) 33) = j_ := ⟨_, rfl⟩
    replace H : (if 0 ≤ (ji6) then (if (ji6) < (t889.length : Int) then ((computusref17_Identifier.f k (rdOf ByteArray.empty t889 (ji6))).bind fun t893 => (if t893 = true then (if 0 ≤ (Int.tmod (wrap64 (a1)) 33) then (if (Int.tmod (wrap64 (a1)) 33) < (t889.length : Int) then (some (((rdOf ByteArray.empty t889 (ji6)).toList == (rdOf ByteArray.empty t889 (Int.tmod (wrap64 (a1)) 33)).toList) == ((ji6) == (Int.tmod (wrap64 (a1)) 33)))) else (none)) else (none)) else (none))) else (none)) else (none)) = some r := by first | (rw [hji6] at H; exact H) | (simp only [hji6] at H ⊢; exact H)
    (try rw [hji6] at A3)
    (try rw [hji6] at A5)
    by_cases c7 : 0 ≤ (ji6)
    · rw [if_pos c7] at H
      have c7b0 : decide (0 ≤ (ji6)) = true := decide_eq_true c7
      clear c7
      by_cases c8 : (ji6) < (t889.length : Int)
      · rw [if_pos c8] at H
        have c8b0 : decide ((ji6) < (t889.length : Int)) = true := decide_eq_true c8
        clear c8
        replace H := Option.bind_eq_some_iff.mp H
        obtain ⟨t893, A90, H⟩ := H
        replace H : (if t893 = true then (if 0 ≤ (Int.tmod (wrap64 (a1)) 33) then (if (Int.tmod (wrap64 (a1)) 33) < (t889.length : Int) then (some (((rdOf ByteArray.empty t889 (ji6)).toList == (rdOf ByteArray.empty t889 (Int.tmod (wrap64 (a1)) 33)).toList) == ((ji6) == (Int.tmod (wrap64 (a1)) 33)))) else (none)) else (none)) else (none)) = some r := H
        have A9 := Aside0.mk A90
        clear A90
        by_cases c10 : t893 = true
        · subst c10
          have H1 : (if 0 ≤ (Int.tmod (wrap64 (a1)) 33) then (if (Int.tmod (wrap64 (a1)) 33) < (t889.length : Int) then (some (((rdOf ByteArray.empty t889 (ji6)).toList == (rdOf ByteArray.empty t889 (Int.tmod (wrap64 (a1)) 33)).toList) == ((ji6) == (Int.tmod (wrap64 (a1)) 33)))) else (none)) else (none)) = some r := by rw [if_pos rfl] at H; exact H
          clear H
          have H := H1
          clear H1
          obtain ⟨ji11, hji11⟩ : ∃ j_ : Int, (Int.tmod (wrap64 (a1)) 33) = j_ := ⟨_, rfl⟩
          replace H : (if 0 ≤ (ji11) then (if (ji11) < (t889.length : Int) then (some (((rdOf ByteArray.empty t889 (ji6)).toList == (rdOf ByteArray.empty t889 (ji11)).toList) == ((ji6) == (ji11)))) else (none)) else (none)) = some r := by first | (rw [hji11] at H; exact H) | (simp only [hji11] at H ⊢; exact H)
          (try rw [hji11] at A3)
          (try rw [hji11] at A5)
          (try rw [hji11] at A9)
          by_cases c12 : 0 ≤ (ji11)
          · rw [if_pos c12] at H
            have c12b0 : decide (0 ≤ (ji11)) = true := decide_eq_true c12
            clear c12
            by_cases c13 : (ji11) < (t889.length : Int)
            · rw [if_pos c13] at H
              have c13b0 : decide ((ji11) < (t889.length : Int)) = true := decide_eq_true c13
              clear c13
              obtain rfl := Option.some.inj H
              go_enter Try.func4, Try.ntmps4
              go_wp2_with (first | (go_at_call 6; (with_reducible refine (computuslaw24_awake.calls  true _ A3.out).mono ?_); rintro e w14 ⟨rfl, hb⟩; have n0_ := Aside0.mk (below_step (by repeat (first | (with_reducible first | exact HB.out | apply below_alloc | apply pw_below_drewN | apply below_drew1) | exact HB.out)) hb); clear HB; have HB := n0_; clear n0_; (try clear hb); (try clear hb2); (try clear hk); (try clear hi)) | (go_at_call 8; (with_reducible refine (builtin_Names.calls  t889 _ A5.out).mono ?_); rintro e w15 ⟨v890, rfl, ho0, hb⟩; have n0_ := Aside0.mk (Kd.R_lower ho0 (below_size (by repeat (first | (with_reducible first | exact HB.out | apply below_alloc | apply pw_below_drewN | apply below_drew1) | exact HB.out)))); have n1_ := Aside0.mk (below_step (by repeat (first | (with_reducible first | exact HB.out | apply below_alloc | apply pw_below_drewN | apply below_drew1) | exact HB.out)) hb); clear HB; have HO891 := n0_; have HB := n1_; clear n0_ n1_; (try clear hb); (try clear hb2); (try clear hk); (try clear hi); (try clear ho0); obtain ⟨Ao16, co16, eo16⟩ := Kd.R_slice HO891.out; subst eo16; have p892 : 0 ≤ ((ji6) : Int) := of_decide_eq_true (by first | (with_reducible assumption) | assumption); have q892 : (ji6) < (t889.length : Int) := of_decide_eq_true (by first | (with_reducible assumption) | assumption); obtain ⟨ad892, e892, hx892_0⟩ := Kd.at_string (Kd.R_reads' HO891.out).2.2 (ji6) p892 q892; cases e892; replace p892 := eq_true p892; replace q892 := eq_true q892) | (go_at_call 11; (with_reducible refine (computusref17_Identifier.calls k (rdOf ByteArray.empty t889 (ji6)) true _ A9.out).mono ?_); rintro e w' ⟨rfl, ⟨nd, rfl⟩⟩; (try first | exact ⟨rfl, _, World.drewN_drewN _ _ _⟩ | exact ⟨rfl, _, Eq.trans (World.drewN_drewN _ _ _) (congrArg (World.drewN _) (Nat.add_assoc _ _ _))⟩); have p894 : 0 ≤ ((ji6) : Int) := of_decide_eq_true (by first | (with_reducible assumption) | assumption); have q894 : (ji6) < (t889.length : Int) := of_decide_eq_true (by first | (with_reducible assumption) | assumption); obtain ⟨ad894, e894, hx894_0⟩ := Kd.at_string (Kd.R_reads' HO891.out).2.2 (ji6) p894 q894; obtain rfl : ad892 = ad894 := (by injection e894); replace p894 := eq_true p894; replace q894 := eq_true q894; have p895 : 0 ≤ ((ji11) : Int) := of_decide_eq_true (by first | (with_reducible assumption) | assumption); have q895 : (ji11) < (t889.length : Int) := of_decide_eq_true (by first | (with_reducible assumption) | assumption); obtain ⟨ad895, e895, hx895_0⟩ := Kd.at_string (Kd.R_reads' HO891.out).2.2 (ji11) p895 q895; obtain rfl : ad892 = ad895 := (by injection e895); replace p895 := eq_true p895; replace q895 := eq_true q895))
              repeat (go_quiet (first | (go_at_call 6; (with_reducible refine (computuslaw24_awake.calls  true _ A3.out).mono ?_); rintro e w14 ⟨rfl, hb⟩; have n0_ := Aside0.mk (below_step (by repeat (first | (with_reducible first | exact HB.out | apply below_alloc | apply pw_below_drewN | apply below_drew1) | exact HB.out)) hb); clear HB; have HB := n0_; clear n0_; (try clear hb); (try clear hb2); (try clear hk); (try clear hi)) | (go_at_call 8; (with_reducible refine (builtin_Names.calls  t889 _ A5.out).mono ?_); rintro e w15 ⟨v890, rfl, ho0, hb⟩; have n0_ := Aside0.mk (Kd.R_lower ho0 (below_size (by repeat (first | (with_reducible first | exact HB.out | apply below_alloc | apply pw_below_drewN | apply below_drew1) | exact HB.out)))); have n1_ := Aside0.mk (below_step (by repeat (first | (with_reducible first | exact HB.out | apply below_alloc | apply pw_below_drewN | apply below_drew1) | exact HB.out)) hb); clear HB; have HO891 := n0_; have HB := n1_; clear n0_ n1_; (try clear hb); (try clear hb2); (try clear hk); (try clear hi); (try clear ho0); obtain ⟨Ao16, co16, eo16⟩ := Kd.R_slice HO891.out; subst eo16; have p892 : 0 ≤ ((ji6) : Int) := of_decide_eq_true (by first | (with_reducible assumption) | assumption); have q892 : (ji6) < (t889.length : Int) := of_decide_eq_true (by first | (with_reducible assumption) | assumption); obtain ⟨ad892, e892, hx892_0⟩ := Kd.at_string (Kd.R_reads' HO891.out).2.2 (ji6) p892 q892; cases e892; replace p892 := eq_true p892; replace q892 := eq_true q892) | (go_at_call 11; (with_reducible refine (computusref17_Identifier.calls k (rdOf ByteArray.empty t889 (ji6)) true _ A9.out).mono ?_); rintro e w' ⟨rfl, ⟨nd, rfl⟩⟩; (try first | exact ⟨rfl, _, World.drewN_drewN _ _ _⟩ | exact ⟨rfl, _, Eq.trans (World.drewN_drewN _ _ _) (congrArg (World.drewN _) (Nat.add_assoc _ _ _))⟩); have p894 : 0 ≤ ((ji6) : Int) := of_decide_eq_true (by first | (with_reducible assumption) | assumption); have q894 : (ji6) < (t889.length : Int) := of_decide_eq_true (by first | (with_reducible assumption) | assumption); obtain ⟨ad894, e894, hx894_0⟩ := Kd.at_string (Kd.R_reads' HO891.out).2.2 (ji6) p894 q894; obtain rfl : ad892 = ad894 := (by injection e894); replace p894 := eq_true p894; replace q894 := eq_true q894; have p895 : 0 ≤ ((ji11) : Int) := of_decide_eq_true (by first | (with_reducible assumption) | assumption); have q895 : (ji11) < (t889.length : Int) := of_decide_eq_true (by first | (with_reducible assumption) | assumption); obtain ⟨ad895, e895, hx895_0⟩ := Kd.at_string (Kd.R_reads' HO891.out).2.2 (ji11) p895 q895; obtain rfl : ad892 = ad895 := (by injection e895); replace p895 := eq_true p895; replace q895 := eq_true q895)); try go_wp2_with (first | (go_at_call 6; (with_reducible refine (computuslaw24_awake.calls  true _ A3.out).mono ?_); rintro e w14 ⟨rfl, hb⟩; have n0_ := Aside0.mk (below_step (by repeat (first | (with_reducible first | exact HB.out | apply below_alloc | apply pw_below_drewN | apply below_drew1) | exact HB.out)) hb); clear HB; have HB := n0_; clear n0_; (try clear hb); (try clear hb2); (try clear hk); (try clear hi)) | (go_at_call 8; (with_reducible refine (builtin_Names.calls  t889 _ A5.out).mono ?_); rintro e w15 ⟨v890, rfl, ho0, hb⟩; have n0_ := Aside0.mk (Kd.R_lower ho0 (below_size (by repeat (first | (with_reducible first | exact HB.out | apply below_alloc | apply pw_below_drewN | apply below_drew1) | exact HB.out)))); have n1_ := Aside0.mk (below_step (by repeat (first | (with_reducible first | exact HB.out | apply below_alloc | apply pw_below_drewN | apply below_drew1) | exact HB.out)) hb); clear HB; have HO891 := n0_; have HB := n1_; clear n0_ n1_; (try clear hb); (try clear hb2); (try clear hk); (try clear hi); (try clear ho0); obtain ⟨Ao16, co16, eo16⟩ := Kd.R_slice HO891.out; subst eo16; have p892 : 0 ≤ ((ji6) : Int) := of_decide_eq_true (by first | (with_reducible assumption) | assumption); have q892 : (ji6) < (t889.length : Int) := of_decide_eq_true (by first | (with_reducible assumption) | assumption); obtain ⟨ad892, e892, hx892_0⟩ := Kd.at_string (Kd.R_reads' HO891.out).2.2 (ji6) p892 q892; cases e892; replace p892 := eq_true p892; replace q892 := eq_true q892) | (go_at_call 11; (with_reducible refine (computusref17_Identifier.calls k (rdOf ByteArray.empty t889 (ji6)) true _ A9.out).mono ?_); rintro e w' ⟨rfl, ⟨nd, rfl⟩⟩; (try first | exact ⟨rfl, _, World.drewN_drewN _ _ _⟩ | exact ⟨rfl, _, Eq.trans (World.drewN_drewN _ _ _) (congrArg (World.drewN _) (Nat.add_assoc _ _ _))⟩); have p894 : 0 ≤ ((ji6) : Int) := of_decide_eq_true (by first | (with_reducible assumption) | assumption); have q894 : (ji6) < (t889.length : Int) := of_decide_eq_true (by first | (with_reducible assumption) | assumption); obtain ⟨ad894, e894, hx894_0⟩ := Kd.at_string (Kd.R_reads' HO891.out).2.2 (ji6) p894 q894; obtain rfl : ad892 = ad894 := (by injection e894); replace p894 := eq_true p894; replace q894 := eq_true q894; have p895 : 0 ≤ ((ji11) : Int) := of_decide_eq_true (by first | (with_reducible assumption) | assumption); have q895 : (ji11) < (t889.length : Int) := of_decide_eq_true (by first | (with_reducible assumption) | assumption); obtain ⟨ad895, e895, hx895_0⟩ := Kd.at_string (Kd.R_reads' HO891.out).2.2 (ji11) p895 q895; obtain rfl : ad892 = ad895 := (by injection e895); replace p895 := eq_true p895; replace q895 := eq_true q895)))
              go_ret
              exact ⟨by first | rfl | (simp [errW_none, errW_some] <;> rfl) | (simp only [← hji6, ← hji11]; first | rfl | (simp [errW_none, errW_some] <;> rfl)) | (simp [*, errW_none, errW_some] <;> rfl), by repeat (first | (with_reducible first | exact HB.out | apply below_alloc | apply pw_below_drewN | apply below_drew1) | exact HB.out)⟩
            · rw [if_neg c13] at H
              exact absurd H (by simp)
          · rw [if_neg c12] at H
            exact absurd H (by simp)
        · replace c10 := Bool.eq_false_iff.mpr c10
          subst c10
          have H1 : (none) = some r := by rw [if_neg (show ¬ (false = true) by decide)] at H; exact H
          clear H
          have H := H1
          clear H1
          exact absurd H (by simp)
      · rw [if_neg c8] at H
        exact absurd H (by simp)
    · rw [if_neg c7] at H
      exact absurd H (by simp)
  · replace c4 := Bool.eq_false_iff.mpr c4
    subst c4
    have H1 : (none) = some r := by rw [if_neg (show ¬ (false = true) by decide)] at H; exact H
    clear H
    have H := H1
    clear H1
    exact absurd H (by simp)

def computuslaw24_BuiltinDistinct.Pure : Prop := ∀ (a0 : Int) (a1 : Int), (Lit.int .u8 a0).wf = true → (Lit.int .u8 a1).wf = true → ∃ k, computuslaw24_BuiltinDistinct.f k a0 a1 = some true

end Go.Proofs.Ytkpicinbckedoaa.Q
