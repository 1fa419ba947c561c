/- What is proved: what the statement OccurrenceMatchesReferenceSaid needs, part 5 of 6; the last part proves the statement. No condition. -/
import Derived.Test.YtopfjjdkffdjpaaZOMRe3
set_option maxHeartbeats 8000000
set_option maxRecDepth 100000
set_option linter.unusedVariables false
set_option linter.unusedSimpArgs false
section
namespace Go.Proofs.Ytopfjjdkffdjpaa.Q
open Go.RowKit Go.Proofs.YtopfjjdkffdjpaaW.PrintWords Go.Proofs.YtopfjjdkffdjpaaW.PrintLast Go.Proofs.YtopfjjdkffdjpaaW.PrintMore
attribute [local go_sem] max2_int min2_int max_two min_two max_three min_three max_four min_four
def computusref21_Displace.f (a0_0 : Int) (l0_1 : List (S66)) (l0_2 : List (S68)) (a1_0 : Int) (a1_1 : Int) (a1_2 : Int) (a1_3 : ByteArray) (l1_4 : List Int) (l1_5 : List Int) (l1_6 : List Int) : Option (Int × Int × Int × ByteArray × List Int × List Int × List Int) := (some (([] : List Int) : List Int)).bind fun y484 => (if y484.length + l1_4.length < 17592186044416 then ((some (y484 ++ l1_4 : List Int)).bind fun y487 => ((some (([] : List Int) : List Int)).bind fun y490 => (if y490.length + l1_5.length < 17592186044416 then ((some (y490 ++ l1_5 : List Int)).bind fun y493 => ((some (([] : List Int) : List Int)).bind fun y496 => (if y496.length + l1_6.length < 17592186044416 then ((some (y496 ++ l1_6 : List Int)).bind fun y499 => (if a1_0 = 2 then (if 0 ≤ a1_1 then (if a1_1 < (l0_2.length : Int) then (if ((rd_T68 l0_2 a1_1).f2) = 3 then ((some (([a1_1] : List Int) : List Int)).bind fun y504 => (if y504.length + y493.length < 17592186044416 then (some (0, 0, 0, (⟨#[]⟩ : ByteArray), y487, (y504 ++ y493), y499)) else (none))) else ((some (([a1_1] : List Int) : List Int)).bind fun y510 => (if y510.length + y487.length < 17592186044416 then (some (0, 0, 0, (⟨#[]⟩ : ByteArray), (y510 ++ y487), y493, y499)) else (none)))) else (none)) else (none)) else (some (0, 0, 0, (⟨#[]⟩ : ByteArray), y487, y493, y499)))) else (none)))) else (none)))) else (none))
def computusref21_Displace.T1 : Bool × List (List Nat × List Nat) := (true, [([], []), ([], []), ([1], [1]), ([0, 2], [0, 2]), ([], []), ([], []), ([5], [5]), ([4, 6, 3], [4, 6]), ([], []), ([], []), ([9], [9]), ([8, 10, 7], [8, 10]), ([3, 7, 11], [3, 7, 11]), ([], []), ([13, 12, 11, 0, 1, 2, 3, 4, 5, 6, 7, 8, 9, 10, 11, 12, 13], [12, 13])])
def computusref21_Displace.B1 : List Nat := [0, 0, 2, 7, 0, 0, 32, 127, 0, 0, 512, 2047, 4095, 0, 16383]
theorem computusref21_Displace.tab1 : rtab .any (opsOf Try.f23 1) = computusref21_Displace.T1 := by kernel_rfl
theorem computusref21_Displace.bits1 : waitsOk computusref21_Displace.T1.2 computusref21_Displace.B1 = true := by kernel_rfl
theorem computusref21_Displace.calls (a0_0 : Int) (A0_1 : Option Addr) (c0_1 : Nat) (l0_1 : List (S66)) (A0_2 : Option Addr) (c0_2 : Nat) (l0_2 : List (S68)) (a1_0 : Int) (a1_1 : Int) (a1_2 : Int) (a1_3 : ByteArray) (A1_4 : Option Addr) (c1_4 : Nat) (l1_4 : List Int) (A1_5 : Option Addr) (c1_5 : Nat) (l1_5 : List Int) (A1_6 : Option Addr) (c1_6 : Nat) (l1_6 : List Int) (r1 : Int) (r2 : Int) (r3 : Int) (r4 : ByteArray) (r5 : List Int) (r6 : List Int) (r7 : List Int) (w : World) (hr0_1 : Kd.C k66 w A0_1 l0_1.length l0_1) (hc0_1 : l0_1.length ≤ c0_1) (hr0_2 : Kd.C k68 w A0_2 l0_2.length l0_2) (hc0_2 : l0_2.length ≤ c0_2) (hr1_4 : Kd.C (Kd.int .i64) w A1_4 l1_4.length l1_4) (hc1_4 : l1_4.length ≤ c1_4) (hr1_5 : Kd.C (Kd.int .i64) w A1_5 l1_5.length l1_5) (hc1_5 : l1_5.length ≤ c1_5) (hr1_6 : Kd.C (Kd.int .i64) w A1_6 l1_6.length l1_6) (hc1_6 : l1_6.length ≤ c1_6) (h : computusref21_Displace.f a0_0 l0_1 l0_2 a1_0 a1_1 a1_2 a1_3 l1_4 l1_5 l1_6 = some (r1, r2, r3, r4, r5, r6, r7)) :
  Calls Try.prog 23 #[.agg #[.int .i64 a0_0, .slice A0_1 l0_1.length c0_1, .slice A0_2 l0_2.length c0_2], .agg #[.int .i64 a1_0, .int .i64 a1_1, .int .i64 a1_2, .string a1_3, .slice A1_4 l1_4.length c1_4, .slice A1_5 l1_5.length c1_5, .slice A1_6 l1_6.length c1_6]] w fun e w' => ∃ v4_ v5_ v6_ : Value, e = .returned (.agg #[.int .i64 r1, .int .i64 r2, .int .i64 r3, .string r4, v4_, v5_, v6_]) ∧ Kd.R (Kd.int .i64) 3 w' w.heap.size (fun k_ => some k_ ≠ (v5_ : Value).ownBlock ∧ some k_ ≠ (v6_ : Value).ownBlock) v4_ r5 ∧ Kd.R (Kd.int .i64) 3 w' w.heap.size (fun k_ => some k_ ≠ (v4_ : Value).ownBlock ∧ some k_ ≠ (v6_ : Value).ownBlock) v5_ r6 ∧ Kd.R (Kd.int .i64) 3 w' w.heap.size (fun k_ => some k_ ≠ (v4_ : Value).ownBlock ∧ some k_ ≠ (v5_ : Value).ownBlock) v6_ r7 ∧ Below w.heap.size w w' := by
 have hu36 := Try.underlying36
 have hu46 := Try.underlying46
 have HR0_1 := am_ hr0_1
 have HC0_1 := am_ hc0_1
 clear hr0_1 hc0_1
 have HR0_2 := am_ hr0_2
 have HC0_2 := am_ hc0_2
 clear hr0_2 hc0_2
 have HR1_4 := am_ hr1_4
 have HC1_4 := am_ hc1_4
 clear hr1_4 hc1_4
 have HR1_5 := am_ hr1_5
 have HC1_5 := am_ hc1_5
 clear hr1_5 hc1_5
 have HR1_6 := am_ hr1_6
 have HC1_6 := am_ hc1_6
 clear hr1_6 hc1_6
 have HB := am_ (Below.refl w.heap.size w)
 have H := h
 clear h
 unfold computusref21_Displace.f at H
 obtain ⟨y484, hy484⟩ : ∃ y_ : List Int, y_ = (([] : List Int)) := ⟨_, rfl⟩
 replace H : (if y484.length + l1_4.length < 17592186044416 then ((some (y484 ++ l1_4 : List Int)).bind fun y487 => ((some (([] : List Int) : List Int)).bind fun y490 => (if y490.length + l1_5.length < 17592186044416 then ((some (y490 ++ l1_5 : List Int)).bind fun y493 => ((some (([] : List Int) : List Int)).bind fun y496 => (if y496.length + l1_6.length < 17592186044416 then ((some (y496 ++ l1_6 : List Int)).bind fun y499 => (if a1_0 = 2 then (if 0 ≤ a1_1 then (if a1_1 < (l0_2.length : Int) then (if ((rd_T68 l0_2 a1_1).f2) = 3 then ((some (([a1_1] : List Int) : List Int)).bind fun y504 => (if y504.length + y493.length < 17592186044416 then (some (0, 0, 0, (⟨#[]⟩ : ByteArray), y487, (y504 ++ y493), y499)) else (none))) else ((some (([a1_1] : List Int) : List Int)).bind fun y510 => (if y510.length + y487.length < 17592186044416 then (some (0, 0, 0, (⟨#[]⟩ : ByteArray), (y510 ++ y487), y493, y499)) else (none)))) else (none)) else (none)) else (some (0, 0, 0, (⟨#[]⟩ : ByteArray), y487, y493, y499)))) else (none)))) else (none)))) else (none)) = some (r1, r2, r3, r4, r5, r6, r7) := by first | (rw [hy484]; with_reducible exact H) | (have H2_ := (Option.bind_some _ _).symm.trans H; rw [hy484]; with_reducible exact H2_) | (have H2_ := (Option.bind_some _ _).symm.trans H; with_reducible exact H2_) | with_reducible exact H | (rw [hy484]; exact H) | exact H
 have Ny484 := am_ hy484
 clear hy484
 by_cases c3 : y484.length + l1_4.length < 17592186044416
 rotate_left
 ·rw [if_neg c3] at H
  exact absurd H (by simp)
 rw [if_pos c3] at H
 have LMc3 := am_ c3
 clear c3
 obtain ⟨y487, hy487⟩ : ∃ y_ : List Int, y_ = (y484 ++ l1_4) := ⟨_, rfl⟩
 replace H : ((some (([] : List Int) : List Int)).bind fun y490 => (if y490.length + l1_5.length < 17592186044416 then ((some (y490 ++ l1_5 : List Int)).bind fun y493 => ((some (([] : List Int) : List Int)).bind fun y496 => (if y496.length + l1_6.length < 17592186044416 then ((some (y496 ++ l1_6 : List Int)).bind fun y499 => (if a1_0 = 2 then (if 0 ≤ a1_1 then (if a1_1 < (l0_2.length : Int) then (if ((rd_T68 l0_2 a1_1).f2) = 3 then ((some (([a1_1] : List Int) : List Int)).bind fun y504 => (if y504.length + y493.length < 17592186044416 then (some (0, 0, 0, (⟨#[]⟩ : ByteArray), y487, (y504 ++ y493), y499)) else (none))) else ((some (([a1_1] : List Int) : List Int)).bind fun y510 => (if y510.length + y487.length < 17592186044416 then (some (0, 0, 0, (⟨#[]⟩ : ByteArray), (y510 ++ y487), y493, y499)) else (none)))) else (none)) else (none)) else (some (0, 0, 0, (⟨#[]⟩ : ByteArray), y487, y493, y499)))) else (none)))) else (none))) = some (r1, r2, r3, r4, r5, r6, r7) := by first | (rw [hy487]; with_reducible exact H) | (have H2_ := (Option.bind_some _ _).symm.trans H; rw [hy487]; with_reducible exact H2_) | (have H2_ := (Option.bind_some _ _).symm.trans H; with_reducible exact H2_) | with_reducible exact H | (rw [hy487]; exact H) | exact H
 have Ny487 := am_ hy487
 clear hy487
 obtain ⟨y490, hy490⟩ : ∃ y_ : List Int, y_ = (([] : List Int)) := ⟨_, rfl⟩
 replace H : (if y490.length + l1_5.length < 17592186044416 then ((some (y490 ++ l1_5 : List Int)).bind fun y493 => ((some (([] : List Int) : List Int)).bind fun y496 => (if y496.length + l1_6.length < 17592186044416 then ((some (y496 ++ l1_6 : List Int)).bind fun y499 => (if a1_0 = 2 then (if 0 ≤ a1_1 then (if a1_1 < (l0_2.length : Int) then (if ((rd_T68 l0_2 a1_1).f2) = 3 then ((some (([a1_1] : List Int) : List Int)).bind fun y504 => (if y504.length + y493.length < 17592186044416 then (some (0, 0, 0, (⟨#[]⟩ : ByteArray), y487, (y504 ++ y493), y499)) else (none))) else ((some (([a1_1] : List Int) : List Int)).bind fun y510 => (if y510.length + y487.length < 17592186044416 then (some (0, 0, 0, (⟨#[]⟩ : ByteArray), (y510 ++ y487), y493, y499)) else (none)))) else (none)) else (none)) else (some (0, 0, 0, (⟨#[]⟩ : ByteArray), y487, y493, y499)))) else (none)))) else (none)) = some (r1, r2, r3, r4, r5, r6, r7) := by first | (rw [hy490]; with_reducible exact H) | (have H2_ := (Option.bind_some _ _).symm.trans H; rw [hy490]; with_reducible exact H2_) | (have H2_ := (Option.bind_some _ _).symm.trans H; with_reducible exact H2_) | with_reducible exact H | (rw [hy490]; exact H) | exact H
 have Ny490 := am_ hy490
 clear hy490
 by_cases c4 : y490.length + l1_5.length < 17592186044416
 rotate_left
 ·rw [if_neg c4] at H
  exact absurd H (by simp)
 rw [if_pos c4] at H
 have LMc4 := am_ c4
 clear c4
 obtain ⟨y493, hy493⟩ : ∃ y_ : List Int, y_ = (y490 ++ l1_5) := ⟨_, rfl⟩
 replace H : ((some (([] : List Int) : List Int)).bind fun y496 => (if y496.length + l1_6.length < 17592186044416 then ((some (y496 ++ l1_6 : List Int)).bind fun y499 => (if a1_0 = 2 then (if 0 ≤ a1_1 then (if a1_1 < (l0_2.length : Int) then (if ((rd_T68 l0_2 a1_1).f2) = 3 then ((some (([a1_1] : List Int) : List Int)).bind fun y504 => (if y504.length + y493.length < 17592186044416 then (some (0, 0, 0, (⟨#[]⟩ : ByteArray), y487, (y504 ++ y493), y499)) else (none))) else ((some (([a1_1] : List Int) : List Int)).bind fun y510 => (if y510.length + y487.length < 17592186044416 then (some (0, 0, 0, (⟨#[]⟩ : ByteArray), (y510 ++ y487), y493, y499)) else (none)))) else (none)) else (none)) else (some (0, 0, 0, (⟨#[]⟩ : ByteArray), y487, y493, y499)))) else (none))) = some (r1, r2, r3, r4, r5, r6, r7) := by first | (rw [hy493]; with_reducible exact H) | (have H2_ := (Option.bind_some _ _).symm.trans H; rw [hy493]; with_reducible exact H2_) | (have H2_ := (Option.bind_some _ _).symm.trans H; with_reducible exact H2_) | with_reducible exact H | (rw [hy493]; exact H) | exact H
 have Ny493 := am_ hy493
 clear hy493
 obtain ⟨y496, hy496⟩ : ∃ y_ : List Int, y_ = (([] : List Int)) := ⟨_, rfl⟩
 replace H : (if y496.length + l1_6.length < 17592186044416 then ((some (y496 ++ l1_6 : List Int)).bind fun y499 => (if a1_0 = 2 then (if 0 ≤ a1_1 then (if a1_1 < (l0_2.length : Int) then (if ((rd_T68 l0_2 a1_1).f2) = 3 then ((some (([a1_1] : List Int) : List Int)).bind fun y504 => (if y504.length + y493.length < 17592186044416 then (some (0, 0, 0, (⟨#[]⟩ : ByteArray), y487, (y504 ++ y493), y499)) else (none))) else ((some (([a1_1] : List Int) : List Int)).bind fun y510 => (if y510.length + y487.length < 17592186044416 then (some (0, 0, 0, (⟨#[]⟩ : ByteArray), (y510 ++ y487), y493, y499)) else (none)))) else (none)) else (none)) else (some (0, 0, 0, (⟨#[]⟩ : ByteArray), y487, y493, y499)))) else (none)) = some (r1, r2, r3, r4, r5, r6, r7) := by first | (rw [hy496]; with_reducible exact H) | (have H2_ := (Option.bind_some _ _).symm.trans H; rw [hy496]; with_reducible exact H2_) | (have H2_ := (Option.bind_some _ _).symm.trans H; with_reducible exact H2_) | with_reducible exact H | (rw [hy496]; exact H) | exact H
 have Ny496 := am_ hy496
 clear hy496
 by_cases c5 : y496.length + l1_6.length < 17592186044416
 rotate_left
 ·rw [if_neg c5] at H
  exact absurd H (by simp)
 rw [if_pos c5] at H
 have LMc5 := am_ c5
 clear c5
 obtain ⟨y499, hy499⟩ : ∃ y_ : List Int, y_ = (y496 ++ l1_6) := ⟨_, rfl⟩
 replace H : (if a1_0 = 2 then (if 0 ≤ a1_1 then (if a1_1 < (l0_2.length : Int) then (if ((rd_T68 l0_2 a1_1).f2) = 3 then ((some (([a1_1] : List Int) : List Int)).bind fun y504 => (if y504.length + y493.length < 17592186044416 then (some (0, 0, 0, (⟨#[]⟩ : ByteArray), y487, (y504 ++ y493), y499)) else (none))) else ((some (([a1_1] : List Int) : List Int)).bind fun y510 => (if y510.length + y487.length < 17592186044416 then (some (0, 0, 0, (⟨#[]⟩ : ByteArray), (y510 ++ y487), y493, y499)) else (none)))) else (none)) else (none)) else (some (0, 0, 0, (⟨#[]⟩ : ByteArray), y487, y493, y499))) = some (r1, r2, r3, r4, r5, r6, r7) := by first | (rw [hy499]; with_reducible exact H) | (have H2_ := (Option.bind_some _ _).symm.trans H; rw [hy499]; with_reducible exact H2_) | (have H2_ := (Option.bind_some _ _).symm.trans H; with_reducible exact H2_) | with_reducible exact H | (rw [hy499]; exact H) | exact H
 have Ny499 := am_ hy499
 clear hy499
 by_cases c6 : a1_0 = 2
 rotate_left
 ·rw [if_neg c6] at H
  have c6b0 : (a1_0 == 2) = false := beq_eq_false_iff_ne.mpr c6
  have c6b1 : (a1_0 != 2) = true := bne_iff_ne.mpr c6
  simp only [Option.some.injEq, Prod.mk.injEq] at H
  obtain ⟨rfl, rfl, rfl, rfl, rfl, rfl, rfl⟩ := H
  go_enter Try.func23, Try.ntmps23
  try go_wp2_with (first | ((with_reducible refine gate_dst (N := 2) rfl ?_); refine bx_ (w := w) (N := 2) (cs := #[.int .i64 a0_0, .slice A0_1 l0_1.length c0_1, .slice A0_2 l0_2.length c0_2]) (t := 36) ?_; intro gb481 w98 BK481 n0_ GW481 GE481; clear HB; have HB := n0_; clear n0_) | ((with_reducible refine gate_dst (N := 3) rfl ?_); refine be_ (N := 3) (cs := #[.int .i64 a1_0, .int .i64 a1_1, .int .i64 a1_2, .string a1_3, .slice A1_4 l1_4.length c1_4, .slice A1_5 l1_5.length c1_5, .slice A1_6 l1_6.length c1_6]) (t := 46) ?_; intro gb482 hg w99 hbox hb; have BK482 := am_ (hbox); have GW482 := gw_ (w := w) hg; have GE482 := gw_ (w := w) hg; replace HB := bt_ hb; have NB481_482 := ne_ hg BK481; have NB482_481 := nf_ hg BK481; replace BK481 := bw_ BK481 hb; clear hb hbox hg) | ((with_reducible refine gate_dst (N := 4) rfl ?_); refine be_ (N := 4) (cs := #[.int .i64 0, .int .i64 0, .int .i64 0, .string (⟨#[]⟩ : ByteArray), .slice none 0 0, .slice none 0 0, .slice none 0 0]) (t := 46) ?_; intro gb483 hg w100 hbox hb; have BK483 := am_ (hbox); have GW483 := gw_ (w := w) hg; have GE483 := gw_ (w := w) hg; replace HB := bt_ hb; have NB481_483 := ne_ hg BK481; have NB483_481 := nf_ hg BK481; replace BK481 := bw_ BK481 hb; have NB482_483 := ne_ hg BK482; have NB483_482 := nf_ hg BK482; replace BK482 := bw_ BK482 hb; clear hb hbox hg))
  replace BK481 := am_ (blk_drew BK481.out)
  replace BK482 := am_ (blk_drew BK482.out)
  replace BK483 := am_ (blk_drew BK483.out)
  replace HB := am_ (below_drew1 HB.out)
  refine start_ (n := 15) (S := fun w' => w'.cell? ⟨gb482, 0, none⟩ = some (.int .i64 a1_0) ∧ w'.cell? ⟨gb482, 1, none⟩ = some (.int .i64 a1_1) ∧ w'.cell? ⟨gb482, 2, none⟩ = some (.int .i64 a1_2) ∧ w'.cell? ⟨gb482, 3, none⟩ = some (.string a1_3) ∧ w'.cell? ⟨gb482, 4, none⟩ = some (.slice A1_4 l1_4.length c1_4) ∧ w'.cell? ⟨gb482, 5, none⟩ = some (.slice A1_5 l1_5.length c1_5) ∧ w'.cell? ⟨gb482, 6, none⟩ = some (.slice A1_6 l1_6.length c1_6)) (ds := []) (bf_ 15 0) (by kernel_rfl) rfl rfl (cz7_ BK482.out) (fun hHeld => ?_); refine with_tabW computusref21_Displace.tab1 computusref21_Displace.bits1 (fun HT_ HW_ => ?_)
  generalize w100.drew = w101 at BK481 BK482 BK483 HB hHeld ⊢
  refine pu_ 1 (some 8) (bf_ 15 2) HT_.out ?_
  refine pu_ 5 (some 12) (bf_ 15 34) HT_.out ?_
  refine pu_ 9 (some 16) (bf_ 15 546) HT_.out ?_
  refine ta_ 2 (some 9) (bf_ 15 550) HT_.out HW_.out hHeld ?_
  refine ta_ 6 (some 13) (bf_ 15 614) HT_.out HW_.out hHeld ?_
  refine ta_ 10 (some 17) (bf_ 15 1638) HT_.out HW_.out hHeld ?_
  refine join_ (σ := Value × Value × Value × Value × Value × Value × Nat) 1 (bf_ 15 16383) (fun s_ => [(7, s_.1), (10, s_.2.1), (11, s_.2.2.1), (14, s_.2.2.2.1), (15, s_.2.2.2.2.1), (18, s_.2.2.2.2.2.1), (5, .pointer (some ⟨s_.2.2.2.2.2.2, 0, none⟩)), (19, .agg #[.int .i64 0, .int .i64 0, .int .i64 0, .string (⟨#[]⟩ : ByteArray), s_.2.1, s_.2.2.2.1, s_.2.2.2.2.2.1])]) (fun s_ w' => (w'.cell? ⟨gb482, 0, none⟩ = some (.int .i64 a1_0) ∧ w'.cell? ⟨gb482, 1, none⟩ = some (.int .i64 a1_1) ∧ w'.cell? ⟨gb482, 2, none⟩ = some (.int .i64 a1_2) ∧ w'.cell? ⟨gb482, 3, none⟩ = some (.string a1_3) ∧ w'.cell? ⟨gb482, 4, none⟩ = some (.slice A1_4 l1_4.length c1_4) ∧ w'.cell? ⟨gb482, 5, none⟩ = some (.slice A1_5 l1_5.length c1_5) ∧ w'.cell? ⟨gb482, 6, none⟩ = some (.slice A1_6 l1_6.length c1_6)) ∧ (Kd.R (Kd.int .i64) 3 w' w.heap.size (fun k_ => some k_ ≠ (s_.2.2.2.1 : Value).ownBlock ∧ some k_ ≠ (s_.2.2.2.2.2.1 : Value).ownBlock) s_.2.1 y487) ∧ (Kd.R (Kd.int .i64) 3 w' w.heap.size (fun k_ => some k_ ≠ (s_.2.1 : Value).ownBlock ∧ some k_ ≠ (s_.2.2.2.2.2.1 : Value).ownBlock) s_.2.2.2.1 y493) ∧ (Kd.R (Kd.int .i64) 3 w' w.heap.size (fun k_ => some k_ ≠ (s_.2.1 : Value).ownBlock ∧ some k_ ≠ (s_.2.2.2.1 : Value).ownBlock) s_.2.2.2.2.2.1 y499) ∧ (w'.heap[gb481]? = some (.cells #[.int .i64 a0_0, .slice A0_1 l0_1.length c0_1, .slice A0_2 l0_2.length c0_2] 36 (0, 0))) ∧ (w'.heap[gb482]? = some (.cells #[.int .i64 a1_0, .int .i64 a1_1, .int .i64 a1_2, .string a1_3, .slice A1_4 l1_4.length c1_4, .slice A1_5 l1_5.length c1_5, .slice A1_6 l1_6.length c1_6] 46 (0, 0))) ∧ (w'.heap[gb483]? = some (.cells #[.int .i64 0, .int .i64 0, .int .i64 0, .string (⟨#[]⟩ : ByteArray), .slice none 0 0, .slice none 0 0, .slice none 0 0] 46 (0, 0))) ∧ (w'.heap[s_.2.2.2.2.2.2]? = some (.cells #[.int .i64 0, .int .i64 0, .int .i64 0, .string (⟨#[]⟩ : ByteArray), .slice none 0 0, .slice none 0 0, .slice none 0 0] 46 (0, 0))) ∧ (w.heap.size ≤ s_.2.2.2.2.2.2) ∧ (w.heap.size ≤ s_.2.2.2.2.2.2) ∧ (gb481 ≠ s_.2.2.2.2.2.2) ∧ (s_.2.2.2.2.2.2 ≠ gb481) ∧ (gb482 ≠ s_.2.2.2.2.2.2) ∧ (s_.2.2.2.2.2.2 ≠ gb482) ∧ (gb483 ≠ s_.2.2.2.2.2.2) ∧ (s_.2.2.2.2.2.2 ≠ gb483) ∧ (Below w.heap.size w w')) ?_ ?_
  rotate_left
  ·intro hJ0_3_4_7_8_11_13
   exact lit3_.start (b := 7) (N := 5) (L1 := l1_4) (L2 := l1_5) (L3 := l1_6) ⟨HT_.out, rfl, rfl, rfl, rfl, rfl, rfl, rfl, rfl, rfl, rfl, rfl, rfl, rfl, rfl, rfl, rfl, rfl, rfl, rfl, rfl, rfl, rfl, rfl, rfl, fun _ _ => by first | (go_simp; done) | (go_simp; rfl), fun _ _ => by first | (go_simp; done) | (go_simp; rfl), fun _ _ => by first | (go_simp; done) | (go_simp; rfl), rfl, rfl, rfl, fun _ _ _ _ _ _ _ _ _ _ _ h1 h2 h3 => by first | (go_simp; done) | (go_simp; rfl), fun _ _ => by first | (go_simp; done) | (go_simp; rfl), by simp, by decide, rfl, rfl, rfl, (Kd.C_below HR1_4.out HB.out), (Kd.C_below HR1_5.out HB.out), (Kd.C_below HR1_6.out HB.out), by have := LMc3.out; omega, by have := LMc4.out; omega, by have := LMc5.out; omega, fun _ hb_ => ⟨(blk_cell (blk_below BK482.out hb_) 0).trans rfl, (blk_cell (blk_below BK482.out hb_) 1).trans rfl, (blk_cell (blk_below BK482.out hb_) 2).trans rfl, (blk_cell (blk_below BK482.out hb_) 3).trans rfl, (blk_cell (blk_below BK482.out hb_) 4).trans rfl, (blk_cell (blk_below BK482.out hb_) 5).trans rfl, (blk_cell (blk_below BK482.out hb_) 6).trans rfl⟩⟩ ⟨fun _ _ _ _ _ h => h, fun x1 y1 x2 y2 x3 y3 g W h => hJ0_3_4_7_8_11_13 (x1, y1, x2, y2, x3, y3, g) W ⟨⟨(blk_cell (blk_below BK482.out h.B) 0).trans rfl, (blk_cell (blk_below BK482.out h.B) 1).trans rfl, (blk_cell (blk_below BK482.out h.B) 2).trans rfl, (blk_cell (blk_below BK482.out h.B) 3).trans rfl, (blk_cell (blk_below BK482.out h.B) 4).trans rfl, (blk_cell (blk_below BK482.out h.B) 5).trans rfl, (blk_cell (blk_below BK482.out h.B) 6).trans rfl⟩, (by rw [Ny487.out, Ny484.out, List.nil_append]; exact Kd.R_mono (Kd.R_lower (Kd.R_bound h.r1) (below_size HB.out)) (fun _ hk => ⟨hk.1.1, hk.1.2.1⟩)), (by rw [Ny493.out, Ny490.out, List.nil_append]; exact Kd.R_mono (Kd.R_lower (Kd.R_bound h.r2) (below_size HB.out)) (fun _ hk => ⟨hk.1.1, hk.1.2.1⟩)), (by rw [Ny499.out, Ny496.out, List.nil_append]; exact Kd.R_mono (Kd.R_lower (Kd.R_bound h.r3) (below_size HB.out)) (fun _ hk => ⟨hk.1.1, hk.1.2.1⟩)), blk_below BK481.out h.B, blk_below BK482.out h.B, blk_below BK483.out h.B, (h.g _ rfl).1, Nat.le_trans (below_size HB.out) (h.g _ rfl).2, Nat.le_trans (below_size HB.out) (h.g _ rfl).2, Nat.ne_of_lt (Nat.lt_of_lt_of_le (blk_lt BK481.out) (h.g _ rfl).2), Nat.ne_of_gt (Nat.lt_of_lt_of_le (blk_lt BK481.out) (h.g _ rfl).2), Nat.ne_of_lt (Nat.lt_of_lt_of_le (blk_lt BK482.out) (h.g _ rfl).2), Nat.ne_of_gt (Nat.lt_of_lt_of_le (blk_lt BK482.out) (h.g _ rfl).2), Nat.ne_of_lt (Nat.lt_of_lt_of_le (blk_lt BK483.out) (h.g _ rfl).2), Nat.ne_of_gt (Nat.lt_of_lt_of_le (blk_lt BK483.out) (h.g _ rfl).2), HB.out.trans (h.B.mono (below_size HB.out))⟩⟩
  rintro ⟨v485, v488, v491, v494, v497, v500, gb502⟩ w115 ⟨hS_, h0_, h1_, h2_, h3_, h4_, h5_, h6_, h7_, h8_, h9_, h10_, h11_, h12_, h13_, h14_, h15_⟩
  have HO489 : Aside0 (Kd.R (Kd.int .i64) 3 w115 w.heap.size (fun k_ => some k_ ≠ (v494 : Value).ownBlock ∧ some k_ ≠ (v500 : Value).ownBlock) v488 y487) := ⟨h0_⟩
  have HO495 : Aside0 (Kd.R (Kd.int .i64) 3 w115 w.heap.size (fun k_ => some k_ ≠ (v488 : Value).ownBlock ∧ some k_ ≠ (v500 : Value).ownBlock) v494 y493) := ⟨h1_⟩
  have HO501 : Aside0 (Kd.R (Kd.int .i64) 3 w115 w.heap.size (fun k_ => some k_ ≠ (v488 : Value).ownBlock ∧ some k_ ≠ (v494 : Value).ownBlock) v500 y499) := ⟨h2_⟩
  replace BK481 : Aside0 (w115.heap[gb481]? = some (.cells #[.int .i64 a0_0, .slice A0_1 l0_1.length c0_1, .slice A0_2 l0_2.length c0_2] 36 (0, 0))) := ⟨h3_⟩
  replace BK482 : Aside0 (w115.heap[gb482]? = some (.cells #[.int .i64 a1_0, .int .i64 a1_1, .int .i64 a1_2, .string a1_3, .slice A1_4 l1_4.length c1_4, .slice A1_5 l1_5.length c1_5, .slice A1_6 l1_6.length c1_6] 46 (0, 0))) := ⟨h4_⟩
  replace BK483 : Aside0 (w115.heap[gb483]? = some (.cells #[.int .i64 0, .int .i64 0, .int .i64 0, .string (⟨#[]⟩ : ByteArray), .slice none 0 0, .slice none 0 0, .slice none 0 0] 46 (0, 0))) := ⟨h5_⟩
  have BK502 : Aside0 (w115.heap[gb502]? = some (.cells #[.int .i64 0, .int .i64 0, .int .i64 0, .string (⟨#[]⟩ : ByteArray), .slice none 0 0, .slice none 0 0, .slice none 0 0] 46 (0, 0))) := ⟨h6_⟩
  have GW502 : Aside0 (w.heap.size ≤ gb502) := ⟨h7_⟩
  have GE502 : Aside0 (w.heap.size ≤ gb502) := ⟨h8_⟩
  have NB481_502 : Aside0 (gb481 ≠ gb502) := ⟨h9_⟩
  have NB502_481 : Aside0 (gb502 ≠ gb481) := ⟨h10_⟩
  have NB482_502 : Aside0 (gb482 ≠ gb502) := ⟨h11_⟩
  have NB502_482 : Aside0 (gb502 ≠ gb482) := ⟨h12_⟩
  have NB483_502 : Aside0 (gb483 ≠ gb502) := ⟨h13_⟩
  have NB502_483 : Aside0 (gb502 ≠ gb483) := ⟨h14_⟩
  replace HB : Aside0 (Below w.heap.size w w115) := ⟨h15_⟩
  clear h0_ h1_ h2_ h3_ h4_ h5_ h6_ h7_ h8_ h9_ h10_ h11_ h12_ h13_ h14_ h15_
  have hHeld : w115.cell? ⟨gb482, 0, none⟩ = some (.int .i64 a1_0) ∧ w115.cell? ⟨gb482, 1, none⟩ = some (.int .i64 a1_1) ∧ w115.cell? ⟨gb482, 2, none⟩ = some (.int .i64 a1_2) ∧ w115.cell? ⟨gb482, 3, none⟩ = some (.string a1_3) ∧ w115.cell? ⟨gb482, 4, none⟩ = some (.slice A1_4 l1_4.length c1_4) ∧ w115.cell? ⟨gb482, 5, none⟩ = some (.slice A1_5 l1_5.length c1_5) ∧ w115.cell? ⟨gb482, 6, none⟩ = some (.slice A1_6 l1_6.length c1_6) := hS_
  obtain ⟨Ao116, co116, eo116⟩ := Kd.R_slice HO501.out
  (first | subst eo116 | (injection eo116 with f1_ f2_ f3_; have f4_ := f1_.symm; have f5_ := f3_.symm; clear f1_ f2_ f3_; subst f4_; subst f5_))
  obtain ⟨Ao117, co117, eo117⟩ := Kd.R_slice HO495.out
  (first | subst eo117 | (injection eo117 with f1_ f2_ f3_; have f4_ := f1_.symm; have f5_ := f3_.symm; clear f1_ f2_ f3_; subst f4_; subst f5_))
  obtain ⟨Ao118, co118, eo118⟩ := Kd.R_slice HO489.out
  (first | subst eo118 | (injection eo118 with f1_ f2_ f3_; have f4_ := f1_.symm; have f5_ := f3_.symm; clear f1_ f2_ f3_; subst f4_; subst f5_))
  refine norm_ (a' := ?_) ?_ ?_
  rotate_left
  ·simp only [putAll, Act.put, sA_, sZ_, sS_]
   rfl
  refine one_ (i := 14) (N := none) (bf_ 15 32767) rfl rfl (one_of HT_.out (by kernel_rfl)) (by decide) (fun K hK => ?_)
  have hs119 : w115.cell? ⟨gb502, 0, none⟩ = some (.int .i64 0) := (blk_cell BK502.out 0).trans rfl
  have hfs119 := blk_frozen BK502.out 0
  have hns119_0 := NB481_502.out
  have hns119_1 := NB482_502.out
  have hns119_2 := NB483_502.out
  have hms119_0 := NB502_481.out
  have hms119_1 := NB502_482.out
  have hms119_2 := NB502_483.out
  have hs120 : w115.cell? ⟨gb502, 1, none⟩ = some (.int .i64 0) := (blk_cell BK502.out 1).trans rfl
  have hfs120 := blk_frozen BK502.out 1
  have hns120_0 := NB481_502.out
  have hns120_1 := NB482_502.out
  have hns120_2 := NB483_502.out
  have hms120_0 := NB502_481.out
  have hms120_1 := NB502_482.out
  have hms120_2 := NB502_483.out
  have hs121 : w115.cell? ⟨gb502, 2, none⟩ = some (.int .i64 0) := (blk_cell BK502.out 2).trans rfl
  have hfs121 := blk_frozen BK502.out 2
  have hns121_0 := NB481_502.out
  have hns121_1 := NB482_502.out
  have hns121_2 := NB483_502.out
  have hms121_0 := NB502_481.out
  have hms121_1 := NB502_482.out
  have hms121_2 := NB502_483.out
  have hs122 : w115.cell? ⟨gb502, 3, none⟩ = some (.string (⟨#[]⟩ : ByteArray)) := (blk_cell BK502.out 3).trans rfl
  have hfs122 := blk_frozen BK502.out 3
  have hns122_0 := NB481_502.out
  have hns122_1 := NB482_502.out
  have hns122_2 := NB483_502.out
  have hms122_0 := NB502_481.out
  have hms122_1 := NB502_482.out
  have hms122_2 := NB502_483.out
  have hs123 : w115.cell? ⟨gb502, 4, none⟩ = some (.slice none 0 0) := (blk_cell BK502.out 4).trans rfl
  have hfs123 := blk_frozen BK502.out 4
  have hns123_0 := NB481_502.out
  have hns123_1 := NB482_502.out
  have hns123_2 := NB483_502.out
  have hms123_0 := NB502_481.out
  have hms123_1 := NB502_482.out
  have hms123_2 := NB502_483.out
  have hs124 : w115.cell? ⟨gb502, 5, none⟩ = some (.slice none 0 0) := (blk_cell BK502.out 5).trans rfl
  have hfs124 := blk_frozen BK502.out 5
  have hns124_0 := NB481_502.out
  have hns124_1 := NB482_502.out
  have hns124_2 := NB483_502.out
  have hms124_0 := NB502_481.out
  have hms124_1 := NB502_482.out
  have hms124_2 := NB502_483.out
  have hs125 : w115.cell? ⟨gb502, 6, none⟩ = some (.slice none 0 0) := (blk_cell BK502.out 6).trans rfl
  have hfs125 := blk_frozen BK502.out 6
  have hns125_0 := NB481_502.out
  have hns125_1 := NB482_502.out
  have hns125_2 := NB483_502.out
  have hms125_0 := NB502_481.out
  have hms125_1 := NB502_482.out
  have hms125_2 := NB502_483.out
  refine skip_ (w1 := ?_) (by rfl) rfl ?_ ?_
  rotate_left
  ·go_simp
   rfl
  refine hK.out _ _ ⟨((cell_far (p := ⟨gb502, _, none⟩) NB482_502.out _).trans (((cell_far (p := ⟨gb502, _, none⟩) NB482_502.out _).trans (((cell_far (p := ⟨gb502, _, none⟩) NB482_502.out _).trans (((cell_far (p := ⟨gb502, _, none⟩) NB482_502.out _).trans (((cell_far (p := ⟨gb502, _, none⟩) NB482_502.out _).trans (((cell_far (p := ⟨gb502, _, none⟩) NB482_502.out _).trans (((cell_far (p := ⟨gb502, _, none⟩) NB482_502.out _).trans (hHeld.1)))))))))))))), ((cell_far (p := ⟨gb502, _, none⟩) NB482_502.out _).trans (((cell_far (p := ⟨gb502, _, none⟩) NB482_502.out _).trans (((cell_far (p := ⟨gb502, _, none⟩) NB482_502.out _).trans (((cell_far (p := ⟨gb502, _, none⟩) NB482_502.out _).trans (((cell_far (p := ⟨gb502, _, none⟩) NB482_502.out _).trans (((cell_far (p := ⟨gb502, _, none⟩) NB482_502.out _).trans (((cell_far (p := ⟨gb502, _, none⟩) NB482_502.out _).trans (hHeld.2.1)))))))))))))), ((cell_far (p := ⟨gb502, _, none⟩) NB482_502.out _).trans (((cell_far (p := ⟨gb502, _, none⟩) NB482_502.out _).trans (((cell_far (p := ⟨gb502, _, none⟩) NB482_502.out _).trans (((cell_far (p := ⟨gb502, _, none⟩) NB482_502.out _).trans (((cell_far (p := ⟨gb502, _, none⟩) NB482_502.out _).trans (((cell_far (p := ⟨gb502, _, none⟩) NB482_502.out _).trans (((cell_far (p := ⟨gb502, _, none⟩) NB482_502.out _).trans (hHeld.2.2.1)))))))))))))), ((cell_far (p := ⟨gb502, _, none⟩) NB482_502.out _).trans (((cell_far (p := ⟨gb502, _, none⟩) NB482_502.out _).trans (((cell_far (p := ⟨gb502, _, none⟩) NB482_502.out _).trans (((cell_far (p := ⟨gb502, _, none⟩) NB482_502.out _).trans (((cell_far (p := ⟨gb502, _, none⟩) NB482_502.out _).trans (((cell_far (p := ⟨gb502, _, none⟩) NB482_502.out _).trans (((cell_far (p := ⟨gb502, _, none⟩) NB482_502.out _).trans (hHeld.2.2.2.1)))))))))))))), ((cell_far (p := ⟨gb502, _, none⟩) NB482_502.out _).trans (((cell_far (p := ⟨gb502, _, none⟩) NB482_502.out _).trans (((cell_far (p := ⟨gb502, _, none⟩) NB482_502.out _).trans (((cell_far (p := ⟨gb502, _, none⟩) NB482_502.out _).trans (((cell_far (p := ⟨gb502, _, none⟩) NB482_502.out _).trans (((cell_far (p := ⟨gb502, _, none⟩) NB482_502.out _).trans (((cell_far (p := ⟨gb502, _, none⟩) NB482_502.out _).trans (hHeld.2.2.2.2.1)))))))))))))), ((cell_far (p := ⟨gb502, _, none⟩) NB482_502.out _).trans (((cell_far (p := ⟨gb502, _, none⟩) NB482_502.out _).trans (((cell_far (p := ⟨gb502, _, none⟩) NB482_502.out _).trans (((cell_far (p := ⟨gb502, _, none⟩) NB482_502.out _).trans (((cell_far (p := ⟨gb502, _, none⟩) NB482_502.out _).trans (((cell_far (p := ⟨gb502, _, none⟩) NB482_502.out _).trans (((cell_far (p := ⟨gb502, _, none⟩) NB482_502.out _).trans (hHeld.2.2.2.2.2.1)))))))))))))), ((cell_far (p := ⟨gb502, _, none⟩) NB482_502.out _).trans (((cell_far (p := ⟨gb502, _, none⟩) NB482_502.out _).trans (((cell_far (p := ⟨gb502, _, none⟩) NB482_502.out _).trans (((cell_far (p := ⟨gb502, _, none⟩) NB482_502.out _).trans (((cell_far (p := ⟨gb502, _, none⟩) NB482_502.out _).trans (((cell_far (p := ⟨gb502, _, none⟩) NB482_502.out _).trans (((cell_far (p := ⟨gb502, _, none⟩) NB482_502.out _).trans (hHeld.2.2.2.2.2.2))))))))))))))⟩ (fun hHeld => ?_)
  clear hK K
  refine done_ (done_of HT_.out (by kernel_rfl)) ?_
  have hnb126 := NB482_481.out
  have hnc126 := NB481_482.out
  have hnb127 := NB482_483.out
  have hnc127 := NB483_482.out
  have hnb128 := NB482_502.out
  have hnc128 := NB502_482.out
  obtain ⟨hcz129_0, hcz129_1, hcz129_2, hcz129_3, hcz129_4, hcz129_5, hcz129_6⟩ := cz7_ BK482.out
  obtain ⟨hfz129_0, hfz129_1, hfz129_2, hfz129_3, hfz129_4, hfz129_5, hfz129_6⟩ := fz7_ BK482.out
  have hnb130 := NB502_481.out
  have hnc130 := NB481_502.out
  have hnb131 := NB502_483.out
  have hnc131 := NB483_502.out
  obtain ⟨hcz132_0, hcz132_1, hcz132_2, hcz132_3, hcz132_4, hcz132_5, hcz132_6⟩ := cz7_ BK502.out
  obtain ⟨hfz132_0, hfz132_1, hfz132_2, hfz132_3, hfz132_4, hfz132_5, hfz132_6⟩ := fz7_ BK502.out
  have hnb133 := NB483_481.out
  have hnc133 := NB481_483.out
  obtain ⟨hcz134_0, hcz134_1, hcz134_2, hcz134_3, hcz134_4, hcz134_5, hcz134_6⟩ := cz7_ BK483.out
  obtain ⟨hfz134_0, hfz134_1, hfz134_2, hfz134_3, hfz134_4, hfz134_5, hfz134_6⟩ := fz7_ BK483.out
  try go_wp2
  refine bodyPost_ret (results_cell_row rfl _ _ gb483 46 #[.int .i64 0, .int .i64 0, .int .i64 0, .string (⟨#[]⟩ : ByteArray), .slice Ao118 y487.length co118, .slice Ao117 y493.length co117, .slice Ao116 y499.length co116] (0, 0) _ rfl (by refine bp_ ?_; refine blk_put (cs := #[.int .i64 0, .int .i64 0, .int .i64 0, .string (⟨#[]⟩ : ByteArray), .slice Ao118 y487.length co118, .slice Ao117 y493.length co117, .slice none 0 0]) ?_ 6 _ rfl; refine bp_ ?_; refine blk_put (cs := #[.int .i64 0, .int .i64 0, .int .i64 0, .string (⟨#[]⟩ : ByteArray), .slice Ao118 y487.length co118, .slice none 0 0, .slice none 0 0]) ?_ 5 _ rfl; refine bp_ ?_; refine blk_put (cs := #[.int .i64 0, .int .i64 0, .int .i64 0, .string (⟨#[]⟩ : ByteArray), .slice none 0 0, .slice none 0 0, .slice none 0 0]) ?_ 4 _ rfl; refine bp_ ?_; refine blk_put (cs := #[.int .i64 0, .int .i64 0, .int .i64 0, .string (⟨#[]⟩ : ByteArray), .slice none 0 0, .slice none 0 0, .slice none 0 0]) ?_ 3 _ rfl; refine bp_ ?_; refine blk_put (cs := #[.int .i64 0, .int .i64 0, .int .i64 0, .string (⟨#[]⟩ : ByteArray), .slice none 0 0, .slice none 0 0, .slice none 0 0]) ?_ 2 _ rfl; refine bp_ ?_; refine blk_put (cs := #[.int .i64 0, .int .i64 0, .int .i64 0, .string (⟨#[]⟩ : ByteArray), .slice none 0 0, .slice none 0 0, .slice none 0 0]) ?_ 1 _ rfl; refine bp_ ?_; refine blk_put (cs := #[.int .i64 0, .int .i64 0, .int .i64 0, .string (⟨#[]⟩ : ByteArray), .slice none 0 0, .slice none 0 0, .slice none 0 0]) ?_ 0 _ rfl; refine bp_ ?_; refine blk_far ?_ NB483_502.out _; refine bp_ ?_; refine blk_far ?_ NB483_502.out _; refine bp_ ?_; refine blk_far ?_ NB483_502.out _; refine bp_ ?_; refine blk_far ?_ NB483_502.out _; refine bp_ ?_; refine blk_far ?_ NB483_502.out _; refine bp_ ?_; refine blk_far ?_ NB483_502.out _; refine bp_ ?_; refine blk_far ?_ NB483_502.out _; exact bk_ BK483.out) Try.underlying46 rfl (by kernel_rfl)) rfl ?_
  exact ⟨_, _, _, by first | rfl | (simp [errW_none, errW_some] <;> rfl) | (simp [*, errW_none, errW_some] <;> rfl), by (with_reducible repeat (first | apply Kd.R_alloc | apply Kd.R_drewN | apply Kd.R_drew)); exact Kd.R_mono (Kd.R_far (p := ⟨gb483, 6, none⟩) (Kd.R_far (p := ⟨gb483, 5, none⟩) (Kd.R_far (p := ⟨gb483, 4, none⟩) (Kd.R_far (p := ⟨gb483, 3, none⟩) (Kd.R_far (p := ⟨gb483, 2, none⟩) (Kd.R_far (p := ⟨gb483, 1, none⟩) (Kd.R_far (p := ⟨gb483, 0, none⟩) (Kd.R_far (p := ⟨gb502, 6, none⟩) (Kd.R_far (p := ⟨gb502, 5, none⟩) (Kd.R_far (p := ⟨gb502, 4, none⟩) (Kd.R_far (p := ⟨gb502, 3, none⟩) (Kd.R_far (p := ⟨gb502, 2, none⟩) (Kd.R_far (p := ⟨gb502, 1, none⟩) (Kd.R_far (p := ⟨gb502, 0, none⟩) (Kd.R_types (Kd.R_types HO489.out BK502.out (by decide)) BK483.out (by decide)) (fun _ hk => hk.1.2) (.int .i64 0)) (fun _ hk => hk.1.2) (.int .i64 0)) (fun _ hk => hk.1.2) (.int .i64 0)) (fun _ hk => hk.1.2) (.string (⟨#[]⟩ : ByteArray))) (fun _ hk => hk.1.2) (.slice Ao118 y487.length co118)) (fun _ hk => hk.1.2) (.slice Ao117 y493.length co117)) (fun _ hk => hk.1.2) (.slice Ao116 y499.length co116)) (fun _ hk => hk.2) (.int .i64 0)) (fun _ hk => hk.2) (.int .i64 0)) (fun _ hk => hk.2) (.int .i64 0)) (fun _ hk => hk.2) (.string (⟨#[]⟩ : ByteArray))) (fun _ hk => hk.2) (.slice Ao118 y487.length co118)) (fun _ hk => hk.2) (.slice Ao117 y493.length co117)) (fun _ hk => hk.2) (.slice Ao116 y499.length co116)) (fun _ hk => ⟨hk.1.1.1, hk.1.1.2⟩), by (with_reducible repeat (first | apply Kd.R_alloc | apply Kd.R_drewN | apply Kd.R_drew)); exact Kd.R_mono (Kd.R_far (p := ⟨gb483, 6, none⟩) (Kd.R_far (p := ⟨gb483, 5, none⟩) (Kd.R_far (p := ⟨gb483, 4, none⟩) (Kd.R_far (p := ⟨gb483, 3, none⟩) (Kd.R_far (p := ⟨gb483, 2, none⟩) (Kd.R_far (p := ⟨gb483, 1, none⟩) (Kd.R_far (p := ⟨gb483, 0, none⟩) (Kd.R_far (p := ⟨gb502, 6, none⟩) (Kd.R_far (p := ⟨gb502, 5, none⟩) (Kd.R_far (p := ⟨gb502, 4, none⟩) (Kd.R_far (p := ⟨gb502, 3, none⟩) (Kd.R_far (p := ⟨gb502, 2, none⟩) (Kd.R_far (p := ⟨gb502, 1, none⟩) (Kd.R_far (p := ⟨gb502, 0, none⟩) (Kd.R_types (Kd.R_types HO495.out BK502.out (by decide)) BK483.out (by decide)) (fun _ hk => hk.1.2) (.int .i64 0)) (fun _ hk => hk.1.2) (.int .i64 0)) (fun _ hk => hk.1.2) (.int .i64 0)) (fun _ hk => hk.1.2) (.string (⟨#[]⟩ : ByteArray))) (fun _ hk => hk.1.2) (.slice Ao118 y487.length co118)) (fun _ hk => hk.1.2) (.slice Ao117 y493.length co117)) (fun _ hk => hk.1.2) (.slice Ao116 y499.length co116)) (fun _ hk => hk.2) (.int .i64 0)) (fun _ hk => hk.2) (.int .i64 0)) (fun _ hk => hk.2) (.int .i64 0)) (fun _ hk => hk.2) (.string (⟨#[]⟩ : ByteArray))) (fun _ hk => hk.2) (.slice Ao118 y487.length co118)) (fun _ hk => hk.2) (.slice Ao117 y493.length co117)) (fun _ hk => hk.2) (.slice Ao116 y499.length co116)) (fun _ hk => ⟨hk.1.1.1, hk.1.1.2⟩), by (with_reducible repeat (first | apply Kd.R_alloc | apply Kd.R_drewN | apply Kd.R_drew)); exact Kd.R_mono (Kd.R_far (p := ⟨gb483, 6, none⟩) (Kd.R_far (p := ⟨gb483, 5, none⟩) (Kd.R_far (p := ⟨gb483, 4, none⟩) (Kd.R_far (p := ⟨gb483, 3, none⟩) (Kd.R_far (p := ⟨gb483, 2, none⟩) (Kd.R_far (p := ⟨gb483, 1, none⟩) (Kd.R_far (p := ⟨gb483, 0, none⟩) (Kd.R_far (p := ⟨gb502, 6, none⟩) (Kd.R_far (p := ⟨gb502, 5, none⟩) (Kd.R_far (p := ⟨gb502, 4, none⟩) (Kd.R_far (p := ⟨gb502, 3, none⟩) (Kd.R_far (p := ⟨gb502, 2, none⟩) (Kd.R_far (p := ⟨gb502, 1, none⟩) (Kd.R_far (p := ⟨gb502, 0, none⟩) (Kd.R_types (Kd.R_types HO501.out BK502.out (by decide)) BK483.out (by decide)) (fun _ hk => hk.1.2) (.int .i64 0)) (fun _ hk => hk.1.2) (.int .i64 0)) (fun _ hk => hk.1.2) (.int .i64 0)) (fun _ hk => hk.1.2) (.string (⟨#[]⟩ : ByteArray))) (fun _ hk => hk.1.2) (.slice Ao118 y487.length co118)) (fun _ hk => hk.1.2) (.slice Ao117 y493.length co117)) (fun _ hk => hk.1.2) (.slice Ao116 y499.length co116)) (fun _ hk => hk.2) (.int .i64 0)) (fun _ hk => hk.2) (.int .i64 0)) (fun _ hk => hk.2) (.int .i64 0)) (fun _ hk => hk.2) (.string (⟨#[]⟩ : ByteArray))) (fun _ hk => hk.2) (.slice Ao118 y487.length co118)) (fun _ hk => hk.2) (.slice Ao117 y493.length co117)) (fun _ hk => hk.2) (.slice Ao116 y499.length co116)) (fun _ hk => ⟨hk.1.1.1, hk.1.1.2⟩), bh_⟩
 rw [if_pos c6] at H
 have c6b0 : (a1_0 == 2) = true := beq_iff_eq.mpr c6
 have c6b1 : (a1_0 != 2) = false := bne_eq_false_iff_eq.mpr c6
 clear c6
 by_cases c7 : 0 ≤ a1_1
 rotate_left
 ·rw [if_neg c7] at H
  exact absurd H (by simp)
 rw [if_pos c7] at H
 have c7b0 : decide (0 ≤ a1_1) = true := decide_eq_true c7
 clear c7
 by_cases c8 : a1_1 < (l0_2.length : Int)
 rotate_left
 ·rw [if_neg c8] at H
  exact absurd H (by simp)
 rw [if_pos c8] at H
 have c8b0 : decide (a1_1 < (l0_2.length : Int)) = true := decide_eq_true c8
 clear c8
 by_cases c9 : ((rd_T68 l0_2 a1_1).f2) = 3
 rotate_left
 ·rw [if_neg c9] at H
  have c9b0 : (((rd_T68 l0_2 a1_1).f2) == 3) = false := beq_eq_false_iff_ne.mpr c9
  have c9b1 : (((rd_T68 l0_2 a1_1).f2) != 3) = true := bne_iff_ne.mpr c9
  obtain ⟨y510, hy510⟩ : ∃ y_ : List Int, y_ = (([a1_1] : List Int)) := ⟨_, rfl⟩
  replace H : (if y510.length + y487.length < 17592186044416 then (some (0, 0, 0, (⟨#[]⟩ : ByteArray), (y510 ++ y487), y493, y499)) else (none)) = some (r1, r2, r3, r4, r5, r6, r7) := by first | (rw [hy510]; with_reducible exact H) | (have H2_ := (Option.bind_some _ _).symm.trans H; rw [hy510]; with_reducible exact H2_) | (have H2_ := (Option.bind_some _ _).symm.trans H; with_reducible exact H2_) | with_reducible exact H | (rw [hy510]; exact H) | exact H
  have Ny510 := am_ hy510
  clear hy510
  by_cases c54 : y510.length + y487.length < 17592186044416
  rotate_left
  ·rw [if_neg c54] at H
   exact absurd H (by simp)
  rw [if_pos c54] at H
  have LMc54 := am_ c54
  clear c54
  obtain ⟨y513, hy513⟩ : ∃ y_ : List Int, y_ = (y510 ++ y487) := ⟨_, rfl⟩
  replace H : (some (0, 0, 0, (⟨#[]⟩ : ByteArray), y513, y493, y499)) = some (r1, r2, r3, r4, r5, r6, r7) := by first | (rw [hy513]; with_reducible exact H) | (have H2_ := (Option.bind_some _ _).symm.trans H; rw [hy513]; with_reducible exact H2_) | (have H2_ := (Option.bind_some _ _).symm.trans H; with_reducible exact H2_) | with_reducible exact H | (rw [hy513]; exact H) | exact H
  have Ny513 := am_ hy513
  clear hy513
  simp only [Option.some.injEq, Prod.mk.injEq] at H
  obtain ⟨rfl, rfl, rfl, rfl, rfl, rfl, rfl⟩ := H
  go_enter Try.func23, Try.ntmps23
  try go_wp2_with (first | ((with_reducible refine gate_dst (N := 2) rfl ?_); refine bx_ (w := w) (N := 2) (cs := #[.int .i64 a0_0, .slice A0_1 l0_1.length c0_1, .slice A0_2 l0_2.length c0_2]) (t := 36) ?_; intro gb481 w55 BK481 n0_ GW481 GE481; clear HB; have HB := n0_; clear n0_) | ((with_reducible refine gate_dst (N := 3) rfl ?_); refine be_ (N := 3) (cs := #[.int .i64 a1_0, .int .i64 a1_1, .int .i64 a1_2, .string a1_3, .slice A1_4 l1_4.length c1_4, .slice A1_5 l1_5.length c1_5, .slice A1_6 l1_6.length c1_6]) (t := 46) ?_; intro gb482 hg w56 hbox hb; have BK482 := am_ (hbox); have GW482 := gw_ (w := w) hg; have GE482 := gw_ (w := w) hg; replace HB := bt_ hb; have NB481_482 := ne_ hg BK481; have NB482_481 := nf_ hg BK481; replace BK481 := bw_ BK481 hb; clear hb hbox hg) | ((with_reducible refine gate_dst (N := 4) rfl ?_); refine be_ (N := 4) (cs := #[.int .i64 0, .int .i64 0, .int .i64 0, .string (⟨#[]⟩ : ByteArray), .slice none 0 0, .slice none 0 0, .slice none 0 0]) (t := 46) ?_; intro gb483 hg w57 hbox hb; have BK483 := am_ (hbox); have GW483 := gw_ (w := w) hg; have GE483 := gw_ (w := w) hg; replace HB := bt_ hb; have NB481_483 := ne_ hg BK481; have NB483_481 := nf_ hg BK481; replace BK481 := bw_ BK481 hb; have NB482_483 := ne_ hg BK482; have NB483_482 := nf_ hg BK482; replace BK482 := bw_ BK482 hb; clear hb hbox hg))
  replace BK481 := am_ (blk_drew BK481.out)
  replace BK482 := am_ (blk_drew BK482.out)
  replace BK483 := am_ (blk_drew BK483.out)
  replace HB := am_ (below_drew1 HB.out)
  refine start_ (n := 15) (S := fun w' => w'.cell? ⟨gb482, 0, none⟩ = some (.int .i64 a1_0) ∧ w'.cell? ⟨gb482, 1, none⟩ = some (.int .i64 a1_1) ∧ w'.cell? ⟨gb482, 2, none⟩ = some (.int .i64 a1_2) ∧ w'.cell? ⟨gb482, 3, none⟩ = some (.string a1_3) ∧ w'.cell? ⟨gb482, 4, none⟩ = some (.slice A1_4 l1_4.length c1_4) ∧ w'.cell? ⟨gb482, 5, none⟩ = some (.slice A1_5 l1_5.length c1_5) ∧ w'.cell? ⟨gb482, 6, none⟩ = some (.slice A1_6 l1_6.length c1_6)) (ds := []) (bf_ 15 0) (by kernel_rfl) rfl rfl (cz7_ BK482.out) (fun hHeld => ?_); refine with_tabW computusref21_Displace.tab1 computusref21_Displace.bits1 (fun HT_ HW_ => ?_)
  generalize w57.drew = w58 at BK481 BK482 BK483 HB hHeld ⊢
  refine pu_ 1 (some 8) (bf_ 15 2) HT_.out ?_
  refine pu_ 5 (some 12) (bf_ 15 34) HT_.out ?_
  refine pu_ 9 (some 16) (bf_ 15 546) HT_.out ?_
  refine ta_ 2 (some 9) (bf_ 15 550) HT_.out HW_.out hHeld ?_
  refine ta_ 6 (some 13) (bf_ 15 614) HT_.out HW_.out hHeld ?_
  refine ta_ 10 (some 17) (bf_ 15 1638) HT_.out HW_.out hHeld ?_
  refine join_ (σ := Value × Value × Value × Value × Value × Value × Nat) 1 (bf_ 15 16383) (fun s_ => [(7, s_.1), (10, s_.2.1), (11, s_.2.2.1), (14, s_.2.2.2.1), (15, s_.2.2.2.2.1), (18, s_.2.2.2.2.2.1), (5, .pointer (some ⟨s_.2.2.2.2.2.2, 0, none⟩)), (19, .agg #[.int .i64 0, .int .i64 0, .int .i64 0, .string (⟨#[]⟩ : ByteArray), s_.2.1, s_.2.2.2.1, s_.2.2.2.2.2.1])]) (fun s_ w' => (w'.cell? ⟨gb482, 0, none⟩ = some (.int .i64 a1_0) ∧ w'.cell? ⟨gb482, 1, none⟩ = some (.int .i64 a1_1) ∧ w'.cell? ⟨gb482, 2, none⟩ = some (.int .i64 a1_2) ∧ w'.cell? ⟨gb482, 3, none⟩ = some (.string a1_3) ∧ w'.cell? ⟨gb482, 4, none⟩ = some (.slice A1_4 l1_4.length c1_4) ∧ w'.cell? ⟨gb482, 5, none⟩ = some (.slice A1_5 l1_5.length c1_5) ∧ w'.cell? ⟨gb482, 6, none⟩ = some (.slice A1_6 l1_6.length c1_6)) ∧ (Kd.R (Kd.int .i64) 3 w' w.heap.size (fun k_ => some k_ ≠ (s_.2.2.2.1 : Value).ownBlock ∧ some k_ ≠ (s_.2.2.2.2.2.1 : Value).ownBlock) s_.2.1 y487) ∧ (Kd.R (Kd.int .i64) 3 w' w.heap.size (fun k_ => some k_ ≠ (s_.2.1 : Value).ownBlock ∧ some k_ ≠ (s_.2.2.2.2.2.1 : Value).ownBlock) s_.2.2.2.1 y493) ∧ (Kd.R (Kd.int .i64) 3 w' w.heap.size (fun k_ => some k_ ≠ (s_.2.1 : Value).ownBlock ∧ some k_ ≠ (s_.2.2.2.1 : Value).ownBlock) s_.2.2.2.2.2.1 y499) ∧ (w'.heap[gb481]? = some (.cells #[.int .i64 a0_0, .slice A0_1 l0_1.length c0_1, .slice A0_2 l0_2.length c0_2] 36 (0, 0))) ∧ (w'.heap[gb482]? = some (.cells #[.int .i64 a1_0, .int .i64 a1_1, .int .i64 a1_2, .string a1_3, .slice A1_4 l1_4.length c1_4, .slice A1_5 l1_5.length c1_5, .slice A1_6 l1_6.length c1_6] 46 (0, 0))) ∧ (w'.heap[gb483]? = some (.cells #[.int .i64 0, .int .i64 0, .int .i64 0, .string (⟨#[]⟩ : ByteArray), .slice none 0 0, .slice none 0 0, .slice none 0 0] 46 (0, 0))) ∧ (w'.heap[s_.2.2.2.2.2.2]? = some (.cells #[.int .i64 0, .int .i64 0, .int .i64 0, .string (⟨#[]⟩ : ByteArray), .slice none 0 0, .slice none 0 0, .slice none 0 0] 46 (0, 0))) ∧ (w.heap.size ≤ s_.2.2.2.2.2.2) ∧ (w.heap.size ≤ s_.2.2.2.2.2.2) ∧ (gb481 ≠ s_.2.2.2.2.2.2) ∧ (s_.2.2.2.2.2.2 ≠ gb481) ∧ (gb482 ≠ s_.2.2.2.2.2.2) ∧ (s_.2.2.2.2.2.2 ≠ gb482) ∧ (gb483 ≠ s_.2.2.2.2.2.2) ∧ (s_.2.2.2.2.2.2 ≠ gb483) ∧ (Below w.heap.size w w')) ?_ ?_
  rotate_left
  ·intro hJ0_3_4_7_8_11_13
   exact lit3_.start (b := 7) (N := 5) (L1 := l1_4) (L2 := l1_5) (L3 := l1_6) ⟨HT_.out, rfl, rfl, rfl, rfl, rfl, rfl, rfl, rfl, rfl, rfl, rfl, rfl, rfl, rfl, rfl, rfl, rfl, rfl, rfl, rfl, rfl, rfl, rfl, rfl, fun _ _ => by first | (go_simp; done) | (go_simp; rfl), fun _ _ => by first | (go_simp; done) | (go_simp; rfl), fun _ _ => by first | (go_simp; done) | (go_simp; rfl), rfl, rfl, rfl, fun _ _ _ _ _ _ _ _ _ _ _ h1 h2 h3 => by first | (go_simp; done) | (go_simp; rfl), fun _ _ => by first | (go_simp; done) | (go_simp; rfl), by simp, by decide, rfl, rfl, rfl, (Kd.C_below HR1_4.out HB.out), (Kd.C_below HR1_5.out HB.out), (Kd.C_below HR1_6.out HB.out), by have := LMc3.out; omega, by have := LMc4.out; omega, by have := LMc5.out; omega, fun _ hb_ => ⟨(blk_cell (blk_below BK482.out hb_) 0).trans rfl, (blk_cell (blk_below BK482.out hb_) 1).trans rfl, (blk_cell (blk_below BK482.out hb_) 2).trans rfl, (blk_cell (blk_below BK482.out hb_) 3).trans rfl, (blk_cell (blk_below BK482.out hb_) 4).trans rfl, (blk_cell (blk_below BK482.out hb_) 5).trans rfl, (blk_cell (blk_below BK482.out hb_) 6).trans rfl⟩⟩ ⟨fun _ _ _ _ _ h => h, fun x1 y1 x2 y2 x3 y3 g W h => hJ0_3_4_7_8_11_13 (x1, y1, x2, y2, x3, y3, g) W ⟨⟨(blk_cell (blk_below BK482.out h.B) 0).trans rfl, (blk_cell (blk_below BK482.out h.B) 1).trans rfl, (blk_cell (blk_below BK482.out h.B) 2).trans rfl, (blk_cell (blk_below BK482.out h.B) 3).trans rfl, (blk_cell (blk_below BK482.out h.B) 4).trans rfl, (blk_cell (blk_below BK482.out h.B) 5).trans rfl, (blk_cell (blk_below BK482.out h.B) 6).trans rfl⟩, (by rw [Ny487.out, Ny484.out, List.nil_append]; exact Kd.R_mono (Kd.R_lower (Kd.R_bound h.r1) (below_size HB.out)) (fun _ hk => ⟨hk.1.1, hk.1.2.1⟩)), (by rw [Ny493.out, Ny490.out, List.nil_append]; exact Kd.R_mono (Kd.R_lower (Kd.R_bound h.r2) (below_size HB.out)) (fun _ hk => ⟨hk.1.1, hk.1.2.1⟩)), (by rw [Ny499.out, Ny496.out, List.nil_append]; exact Kd.R_mono (Kd.R_lower (Kd.R_bound h.r3) (below_size HB.out)) (fun _ hk => ⟨hk.1.1, hk.1.2.1⟩)), blk_below BK481.out h.B, blk_below BK482.out h.B, blk_below BK483.out h.B, (h.g _ rfl).1, Nat.le_trans (below_size HB.out) (h.g _ rfl).2, Nat.le_trans (below_size HB.out) (h.g _ rfl).2, Nat.ne_of_lt (Nat.lt_of_lt_of_le (blk_lt BK481.out) (h.g _ rfl).2), Nat.ne_of_gt (Nat.lt_of_lt_of_le (blk_lt BK481.out) (h.g _ rfl).2), Nat.ne_of_lt (Nat.lt_of_lt_of_le (blk_lt BK482.out) (h.g _ rfl).2), Nat.ne_of_gt (Nat.lt_of_lt_of_le (blk_lt BK482.out) (h.g _ rfl).2), Nat.ne_of_lt (Nat.lt_of_lt_of_le (blk_lt BK483.out) (h.g _ rfl).2), Nat.ne_of_gt (Nat.lt_of_lt_of_le (blk_lt BK483.out) (h.g _ rfl).2), HB.out.trans (h.B.mono (below_size HB.out))⟩⟩
  rintro ⟨v485, v488, v491, v494, v497, v500, gb502⟩ w72 ⟨hS_, h0_, h1_, h2_, h3_, h4_, h5_, h6_, h7_, h8_, h9_, h10_, h11_, h12_, h13_, h14_, h15_⟩
  have HO489 : Aside0 (Kd.R (Kd.int .i64) 3 w72 w.heap.size (fun k_ => some k_ ≠ (v494 : Value).ownBlock ∧ some k_ ≠ (v500 : Value).ownBlock) v488 y487) := ⟨h0_⟩
  have HO495 : Aside0 (Kd.R (Kd.int .i64) 3 w72 w.heap.size (fun k_ => some k_ ≠ (v488 : Value).ownBlock ∧ some k_ ≠ (v500 : Value).ownBlock) v494 y493) := ⟨h1_⟩
  have HO501 : Aside0 (Kd.R (Kd.int .i64) 3 w72 w.heap.size (fun k_ => some k_ ≠ (v488 : Value).ownBlock ∧ some k_ ≠ (v494 : Value).ownBlock) v500 y499) := ⟨h2_⟩
  replace BK481 : Aside0 (w72.heap[gb481]? = some (.cells #[.int .i64 a0_0, .slice A0_1 l0_1.length c0_1, .slice A0_2 l0_2.length c0_2] 36 (0, 0))) := ⟨h3_⟩
  replace BK482 : Aside0 (w72.heap[gb482]? = some (.cells #[.int .i64 a1_0, .int .i64 a1_1, .int .i64 a1_2, .string a1_3, .slice A1_4 l1_4.length c1_4, .slice A1_5 l1_5.length c1_5, .slice A1_6 l1_6.length c1_6] 46 (0, 0))) := ⟨h4_⟩
  replace BK483 : Aside0 (w72.heap[gb483]? = some (.cells #[.int .i64 0, .int .i64 0, .int .i64 0, .string (⟨#[]⟩ : ByteArray), .slice none 0 0, .slice none 0 0, .slice none 0 0] 46 (0, 0))) := ⟨h5_⟩
  have BK502 : Aside0 (w72.heap[gb502]? = some (.cells #[.int .i64 0, .int .i64 0, .int .i64 0, .string (⟨#[]⟩ : ByteArray), .slice none 0 0, .slice none 0 0, .slice none 0 0] 46 (0, 0))) := ⟨h6_⟩
  have GW502 : Aside0 (w.heap.size ≤ gb502) := ⟨h7_⟩
  have GE502 : Aside0 (w.heap.size ≤ gb502) := ⟨h8_⟩
  have NB481_502 : Aside0 (gb481 ≠ gb502) := ⟨h9_⟩
  have NB502_481 : Aside0 (gb502 ≠ gb481) := ⟨h10_⟩
  have NB482_502 : Aside0 (gb482 ≠ gb502) := ⟨h11_⟩
  have NB502_482 : Aside0 (gb502 ≠ gb482) := ⟨h12_⟩
  have NB483_502 : Aside0 (gb483 ≠ gb502) := ⟨h13_⟩
  have NB502_483 : Aside0 (gb502 ≠ gb483) := ⟨h14_⟩
  replace HB : Aside0 (Below w.heap.size w w72) := ⟨h15_⟩
  clear h0_ h1_ h2_ h3_ h4_ h5_ h6_ h7_ h8_ h9_ h10_ h11_ h12_ h13_ h14_ h15_
  have hHeld : w72.cell? ⟨gb482, 0, none⟩ = some (.int .i64 a1_0) ∧ w72.cell? ⟨gb482, 1, none⟩ = some (.int .i64 a1_1) ∧ w72.cell? ⟨gb482, 2, none⟩ = some (.int .i64 a1_2) ∧ w72.cell? ⟨gb482, 3, none⟩ = some (.string a1_3) ∧ w72.cell? ⟨gb482, 4, none⟩ = some (.slice A1_4 l1_4.length c1_4) ∧ w72.cell? ⟨gb482, 5, none⟩ = some (.slice A1_5 l1_5.length c1_5) ∧ w72.cell? ⟨gb482, 6, none⟩ = some (.slice A1_6 l1_6.length c1_6) := hS_
  obtain ⟨Ao73, co73, eo73⟩ := Kd.R_slice HO501.out
  (first | subst eo73 | (injection eo73 with f1_ f2_ f3_; have f4_ := f1_.symm; have f5_ := f3_.symm; clear f1_ f2_ f3_; subst f4_; subst f5_))
  obtain ⟨Ao74, co74, eo74⟩ := Kd.R_slice HO495.out
  (first | subst eo74 | (injection eo74 with f1_ f2_ f3_; have f4_ := f1_.symm; have f5_ := f3_.symm; clear f1_ f2_ f3_; subst f4_; subst f5_))
  obtain ⟨Ao75, co75, eo75⟩ := Kd.R_slice HO489.out
  (first | subst eo75 | (injection eo75 with f1_ f2_ f3_; have f4_ := f1_.symm; have f5_ := f3_.symm; clear f1_ f2_ f3_; subst f4_; subst f5_))
  refine norm_ (a' := ?_) ?_ ?_
  rotate_left
  ·simp only [putAll, Act.put, sA_, sZ_, sS_]
   rfl
  refine one_ (i := 14) (N := none) (bf_ 15 32767) rfl rfl (one_of HT_.out (by kernel_rfl)) (by decide) (fun K hK => ?_)
  have hs76 : w72.cell? ⟨gb502, 0, none⟩ = some (.int .i64 0) := (blk_cell BK502.out 0).trans rfl
  have hfs76 := blk_frozen BK502.out 0
  have hns76_0 := NB481_502.out
  have hns76_1 := NB482_502.out
  have hns76_2 := NB483_502.out
  have hms76_0 := NB502_481.out
  have hms76_1 := NB502_482.out
  have hms76_2 := NB502_483.out
  have hs77 : w72.cell? ⟨gb502, 1, none⟩ = some (.int .i64 0) := (blk_cell BK502.out 1).trans rfl
  have hfs77 := blk_frozen BK502.out 1
  have hns77_0 := NB481_502.out
  have hns77_1 := NB482_502.out
  have hns77_2 := NB483_502.out
  have hms77_0 := NB502_481.out
  have hms77_1 := NB502_482.out
  have hms77_2 := NB502_483.out
  have hs78 : w72.cell? ⟨gb502, 2, none⟩ = some (.int .i64 0) := (blk_cell BK502.out 2).trans rfl
  have hfs78 := blk_frozen BK502.out 2
  have hns78_0 := NB481_502.out
  have hns78_1 := NB482_502.out
  have hns78_2 := NB483_502.out
  have hms78_0 := NB502_481.out
  have hms78_1 := NB502_482.out
  have hms78_2 := NB502_483.out
  have hs79 : w72.cell? ⟨gb502, 3, none⟩ = some (.string (⟨#[]⟩ : ByteArray)) := (blk_cell BK502.out 3).trans rfl
  have hfs79 := blk_frozen BK502.out 3
  have hns79_0 := NB481_502.out
  have hns79_1 := NB482_502.out
  have hns79_2 := NB483_502.out
  have hms79_0 := NB502_481.out
  have hms79_1 := NB502_482.out
  have hms79_2 := NB502_483.out
  have hs80 : w72.cell? ⟨gb502, 4, none⟩ = some (.slice none 0 0) := (blk_cell BK502.out 4).trans rfl
  have hfs80 := blk_frozen BK502.out 4
  have hns80_0 := NB481_502.out
  have hns80_1 := NB482_502.out
  have hns80_2 := NB483_502.out
  have hms80_0 := NB502_481.out
  have hms80_1 := NB502_482.out
  have hms80_2 := NB502_483.out
  have hs81 : w72.cell? ⟨gb502, 5, none⟩ = some (.slice none 0 0) := (blk_cell BK502.out 5).trans rfl
  have hfs81 := blk_frozen BK502.out 5
  have hns81_0 := NB481_502.out
  have hns81_1 := NB482_502.out
  have hns81_2 := NB483_502.out
  have hms81_0 := NB502_481.out
  have hms81_1 := NB502_482.out
  have hms81_2 := NB502_483.out
  have hs82 : w72.cell? ⟨gb502, 6, none⟩ = some (.slice none 0 0) := (blk_cell BK502.out 6).trans rfl
  have hfs82 := blk_frozen BK502.out 6
  have hns82_0 := NB481_502.out
  have hns82_1 := NB482_502.out
  have hns82_2 := NB483_502.out
  have hms82_0 := NB502_481.out
  have hms82_1 := NB502_482.out
  have hms82_2 := NB502_483.out
  refine skip_ (w1 := ?_) (by rfl) rfl ?_ ?_
  rotate_left
  ·go_simp
   rfl
  refine hK.out _ _ ⟨((cell_far (p := ⟨gb502, _, none⟩) NB482_502.out _).trans (((cell_far (p := ⟨gb502, _, none⟩) NB482_502.out _).trans (((cell_far (p := ⟨gb502, _, none⟩) NB482_502.out _).trans (((cell_far (p := ⟨gb502, _, none⟩) NB482_502.out _).trans (((cell_far (p := ⟨gb502, _, none⟩) NB482_502.out _).trans (((cell_far (p := ⟨gb502, _, none⟩) NB482_502.out _).trans (((cell_far (p := ⟨gb502, _, none⟩) NB482_502.out _).trans (hHeld.1)))))))))))))), ((cell_far (p := ⟨gb502, _, none⟩) NB482_502.out _).trans (((cell_far (p := ⟨gb502, _, none⟩) NB482_502.out _).trans (((cell_far (p := ⟨gb502, _, none⟩) NB482_502.out _).trans (((cell_far (p := ⟨gb502, _, none⟩) NB482_502.out _).trans (((cell_far (p := ⟨gb502, _, none⟩) NB482_502.out _).trans (((cell_far (p := ⟨gb502, _, none⟩) NB482_502.out _).trans (((cell_far (p := ⟨gb502, _, none⟩) NB482_502.out _).trans (hHeld.2.1)))))))))))))), ((cell_far (p := ⟨gb502, _, none⟩) NB482_502.out _).trans (((cell_far (p := ⟨gb502, _, none⟩) NB482_502.out _).trans (((cell_far (p := ⟨gb502, _, none⟩) NB482_502.out _).trans (((cell_far (p := ⟨gb502, _, none⟩) NB482_502.out _).trans (((cell_far (p := ⟨gb502, _, none⟩) NB482_502.out _).trans (((cell_far (p := ⟨gb502, _, none⟩) NB482_502.out _).trans (((cell_far (p := ⟨gb502, _, none⟩) NB482_502.out _).trans (hHeld.2.2.1)))))))))))))), ((cell_far (p := ⟨gb502, _, none⟩) NB482_502.out _).trans (((cell_far (p := ⟨gb502, _, none⟩) NB482_502.out _).trans (((cell_far (p := ⟨gb502, _, none⟩) NB482_502.out _).trans (((cell_far (p := ⟨gb502, _, none⟩) NB482_502.out _).trans (((cell_far (p := ⟨gb502, _, none⟩) NB482_502.out _).trans (((cell_far (p := ⟨gb502, _, none⟩) NB482_502.out _).trans (((cell_far (p := ⟨gb502, _, none⟩) NB482_502.out _).trans (hHeld.2.2.2.1)))))))))))))), ((cell_far (p := ⟨gb502, _, none⟩) NB482_502.out _).trans (((cell_far (p := ⟨gb502, _, none⟩) NB482_502.out _).trans (((cell_far (p := ⟨gb502, _, none⟩) NB482_502.out _).trans (((cell_far (p := ⟨gb502, _, none⟩) NB482_502.out _).trans (((cell_far (p := ⟨gb502, _, none⟩) NB482_502.out _).trans (((cell_far (p := ⟨gb502, _, none⟩) NB482_502.out _).trans (((cell_far (p := ⟨gb502, _, none⟩) NB482_502.out _).trans (hHeld.2.2.2.2.1)))))))))))))), ((cell_far (p := ⟨gb502, _, none⟩) NB482_502.out _).trans (((cell_far (p := ⟨gb502, _, none⟩) NB482_502.out _).trans (((cell_far (p := ⟨gb502, _, none⟩) NB482_502.out _).trans (((cell_far (p := ⟨gb502, _, none⟩) NB482_502.out _).trans (((cell_far (p := ⟨gb502, _, none⟩) NB482_502.out _).trans (((cell_far (p := ⟨gb502, _, none⟩) NB482_502.out _).trans (((cell_far (p := ⟨gb502, _, none⟩) NB482_502.out _).trans (hHeld.2.2.2.2.2.1)))))))))))))), ((cell_far (p := ⟨gb502, _, none⟩) NB482_502.out _).trans (((cell_far (p := ⟨gb502, _, none⟩) NB482_502.out _).trans (((cell_far (p := ⟨gb502, _, none⟩) NB482_502.out _).trans (((cell_far (p := ⟨gb502, _, none⟩) NB482_502.out _).trans (((cell_far (p := ⟨gb502, _, none⟩) NB482_502.out _).trans (((cell_far (p := ⟨gb502, _, none⟩) NB482_502.out _).trans (((cell_far (p := ⟨gb502, _, none⟩) NB482_502.out _).trans (hHeld.2.2.2.2.2.2))))))))))))))⟩ (fun hHeld => ?_)
  clear hK K
  refine done_ (done_of HT_.out (by kernel_rfl)) ?_
  have hnb83 := NB482_481.out
  have hnc83 := NB481_482.out
  have hnb84 := NB482_483.out
  have hnc84 := NB483_482.out
  have hnb85 := NB482_502.out
  have hnc85 := NB502_482.out
  obtain ⟨hcz86_0, hcz86_1, hcz86_2, hcz86_3, hcz86_4, hcz86_5, hcz86_6⟩ := cz7_ BK482.out
  obtain ⟨hfz86_0, hfz86_1, hfz86_2, hfz86_3, hfz86_4, hfz86_5, hfz86_6⟩ := fz7_ BK482.out
  have hnb87 := NB481_483.out
  have hnc87 := NB483_481.out
  have hnb88 := NB481_502.out
  have hnc88 := NB502_481.out
  obtain ⟨hcz89_0, hcz89_1, hcz89_2⟩ := cz3_ BK481.out
  obtain ⟨hfz89_0, hfz89_1, hfz89_2⟩ := fz3_ BK481.out
  have p503 : 0 ≤ (a1_1 : Int) := of_decide_eq_true as_
  have q503 : a1_1 < (l0_2.length : Int) := of_decide_eq_true as_
  obtain ⟨ad503, e503, hx503_0, hx503_1, hx503_2, hx503_3, hx503_4, hx503_5, hx503_6, hx503_7, hx503_8⟩ := at_T68 HR0_2.out a1_1 p503 q503
  cases e503
  have hn503_0 : ad503.block ≠ gb502 := Nat.ne_of_lt (Nat.lt_of_lt_of_le (by have := World.block_lt_of_cell? _ _ hx503_0; first | rwa [add_block] at this | exact this) GW502.out)
  have hn503_1 : ad503.block ≠ gb502 := Nat.ne_of_lt (Nat.lt_of_lt_of_le (by have := World.block_lt_of_cell? _ _ hx503_0; first | rwa [add_block] at this | exact this) GW502.out)
  have hn503_2 : ad503.block ≠ gb502 := Nat.ne_of_lt (Nat.lt_of_lt_of_le (by have := World.block_lt_of_cell? _ _ hx503_0; first | rwa [add_block] at this | exact this) GW502.out)
  have hn503_3 : ad503.block ≠ gb502 := Nat.ne_of_lt (Nat.lt_of_lt_of_le (by have := World.block_lt_of_cell? _ _ hx503_0; first | rwa [add_block] at this | exact this) GW502.out)
  have hn503_4 : ad503.block ≠ gb502 := Nat.ne_of_lt (Nat.lt_of_lt_of_le (by have := World.block_lt_of_cell? _ _ hx503_0; first | rwa [add_block] at this | exact this) GW502.out)
  have hn503_5 : ad503.block ≠ gb502 := Nat.ne_of_lt (Nat.lt_of_lt_of_le (by have := World.block_lt_of_cell? _ _ hx503_0; first | rwa [add_block] at this | exact this) GW502.out)
  have hn503_6 : ad503.block ≠ gb502 := Nat.ne_of_lt (Nat.lt_of_lt_of_le (by have := World.block_lt_of_cell? _ _ hx503_0; first | rwa [add_block] at this | exact this) GW502.out)
  replace hx503_0 := cm_ HB.out hx503_0
  replace hx503_1 := cm_ HB.out hx503_1
  replace hx503_2 := cm_ HB.out hx503_2
  replace hx503_3 := cm_ HB.out hx503_3
  replace hx503_4 := cm_ HB.out hx503_4
  replace hx503_5 := cm_ HB.out hx503_5
  replace hx503_6 := cm_ HB.out hx503_6
  replace hx503_7 := cm_ HB.out hx503_7
  replace hx503_8 := cm_ HB.out hx503_8
  replace hx503_0 := cf_ gb502 0 (.int .i64 0) hx503_0
  replace hx503_1 := cf_ gb502 0 (.int .i64 0) hx503_1
  replace hx503_2 := cf_ gb502 0 (.int .i64 0) hx503_2
  replace hx503_3 := cf_ gb502 0 (.int .i64 0) hx503_3
  replace hx503_4 := cf_ gb502 0 (.int .i64 0) hx503_4
  replace hx503_5 := cf_ gb502 0 (.int .i64 0) hx503_5
  replace hx503_6 := cf_ gb502 0 (.int .i64 0) hx503_6
  replace hx503_7 := cf_ gb502 0 (.int .i64 0) hx503_7
  replace hx503_8 := cf_ gb502 0 (.int .i64 0) hx503_8
  replace hx503_0 := cf_ gb502 1 (.int .i64 0) hx503_0
  replace hx503_1 := cf_ gb502 1 (.int .i64 0) hx503_1
  replace hx503_2 := cf_ gb502 1 (.int .i64 0) hx503_2
  replace hx503_3 := cf_ gb502 1 (.int .i64 0) hx503_3
  replace hx503_4 := cf_ gb502 1 (.int .i64 0) hx503_4
  replace hx503_5 := cf_ gb502 1 (.int .i64 0) hx503_5
  replace hx503_6 := cf_ gb502 1 (.int .i64 0) hx503_6
  replace hx503_7 := cf_ gb502 1 (.int .i64 0) hx503_7
  replace hx503_8 := cf_ gb502 1 (.int .i64 0) hx503_8
  replace hx503_0 := cf_ gb502 2 (.int .i64 0) hx503_0
  replace hx503_1 := cf_ gb502 2 (.int .i64 0) hx503_1
  replace hx503_2 := cf_ gb502 2 (.int .i64 0) hx503_2
  replace hx503_3 := cf_ gb502 2 (.int .i64 0) hx503_3
  replace hx503_4 := cf_ gb502 2 (.int .i64 0) hx503_4
  replace hx503_5 := cf_ gb502 2 (.int .i64 0) hx503_5
  replace hx503_6 := cf_ gb502 2 (.int .i64 0) hx503_6
  replace hx503_7 := cf_ gb502 2 (.int .i64 0) hx503_7
  replace hx503_8 := cf_ gb502 2 (.int .i64 0) hx503_8
  replace hx503_0 := cf_ gb502 3 (.string (⟨#[]⟩ : ByteArray)) hx503_0
  replace hx503_1 := cf_ gb502 3 (.string (⟨#[]⟩ : ByteArray)) hx503_1
  replace hx503_2 := cf_ gb502 3 (.string (⟨#[]⟩ : ByteArray)) hx503_2
  replace hx503_3 := cf_ gb502 3 (.string (⟨#[]⟩ : ByteArray)) hx503_3
  replace hx503_4 := cf_ gb502 3 (.string (⟨#[]⟩ : ByteArray)) hx503_4
  replace hx503_5 := cf_ gb502 3 (.string (⟨#[]⟩ : ByteArray)) hx503_5
  replace hx503_6 := cf_ gb502 3 (.string (⟨#[]⟩ : ByteArray)) hx503_6
  replace hx503_7 := cf_ gb502 3 (.string (⟨#[]⟩ : ByteArray)) hx503_7
  replace hx503_8 := cf_ gb502 3 (.string (⟨#[]⟩ : ByteArray)) hx503_8
  replace hx503_0 := cf_ gb502 4 (.slice Ao75 y487.length co75) hx503_0
  replace hx503_1 := cf_ gb502 4 (.slice Ao75 y487.length co75) hx503_1
  replace hx503_2 := cf_ gb502 4 (.slice Ao75 y487.length co75) hx503_2
  replace hx503_3 := cf_ gb502 4 (.slice Ao75 y487.length co75) hx503_3
  replace hx503_4 := cf_ gb502 4 (.slice Ao75 y487.length co75) hx503_4
  replace hx503_5 := cf_ gb502 4 (.slice Ao75 y487.length co75) hx503_5
  replace hx503_6 := cf_ gb502 4 (.slice Ao75 y487.length co75) hx503_6
  replace hx503_7 := cf_ gb502 4 (.slice Ao75 y487.length co75) hx503_7
  replace hx503_8 := cf_ gb502 4 (.slice Ao75 y487.length co75) hx503_8
  replace hx503_0 := cf_ gb502 5 (.slice Ao74 y493.length co74) hx503_0
  replace hx503_1 := cf_ gb502 5 (.slice Ao74 y493.length co74) hx503_1
  replace hx503_2 := cf_ gb502 5 (.slice Ao74 y493.length co74) hx503_2
  replace hx503_3 := cf_ gb502 5 (.slice Ao74 y493.length co74) hx503_3
  replace hx503_4 := cf_ gb502 5 (.slice Ao74 y493.length co74) hx503_4
  replace hx503_5 := cf_ gb502 5 (.slice Ao74 y493.length co74) hx503_5
  replace hx503_6 := cf_ gb502 5 (.slice Ao74 y493.length co74) hx503_6
  replace hx503_7 := cf_ gb502 5 (.slice Ao74 y493.length co74) hx503_7
  replace hx503_8 := cf_ gb502 5 (.slice Ao74 y493.length co74) hx503_8
  replace hx503_0 := cf_ gb502 6 (.slice Ao73 y499.length co73) hx503_0
  replace hx503_1 := cf_ gb502 6 (.slice Ao73 y499.length co73) hx503_1
  replace hx503_2 := cf_ gb502 6 (.slice Ao73 y499.length co73) hx503_2
  replace hx503_3 := cf_ gb502 6 (.slice Ao73 y499.length co73) hx503_3
  replace hx503_4 := cf_ gb502 6 (.slice Ao73 y499.length co73) hx503_4
  replace hx503_5 := cf_ gb502 6 (.slice Ao73 y499.length co73) hx503_5
  replace hx503_6 := cf_ gb502 6 (.slice Ao73 y499.length co73) hx503_6
  replace hx503_7 := cf_ gb502 6 (.slice Ao73 y499.length co73) hx503_7
  replace hx503_8 := cf_ gb502 6 (.slice Ao73 y499.length co73) hx503_8
  clear hn503_0
  clear hn503_1
  clear hn503_2
  clear hn503_3
  clear hn503_4
  clear hn503_5
  clear hn503_6
  replace p503 := eq_true p503
  replace q503 := eq_true q503
  try go_wp2_with (first | ((with_reducible refine gate_dst (N := 41) rfl ?_); refine Kd.R_lit (Kd.int .i64) _ 3 ?hg (N := 41) ?hd (xs := ([a1_1] : List Int)) (inner := [.int .i64 a1_1]) (ok := fun _ => True) (okp := fun _ => True) ?hr ?hp (fun _ hk => hk) trivial (Below.refl _ _) (Nat.le_refl _) (by simp) ?_; (case hd => rfl); (case hg => rfl); (case hr => first | (go_simp; done) | (go_simp; rfl)); (case hp => exact (Reps.one (show Kd.M (Kd.int .i64) _ _ _ a1_1 [.int .i64 a1_1] from rfl) (Reps.none _ _))); intro v511 w90 ho91 hb hg_ hnew_; clear hg_ hnew_; (first | rw [← Ny510.out] at ho91 | (simp only [Int.reduceToNat] at ho91; rw [← Ny510.out] at ho91)); have HO512 := am_ (Kd.R_lower (Kd.R_new' (Kd.R_new' (Kd.R_new' ho91 (Kd.R_lt (by (with_reducible repeat (first | apply Kd.R_alloc | apply Kd.R_drewN | apply Kd.R_drew)); exact (Kd.R_mono (Kd.R_far (p := ⟨gb502, 6, none⟩) (Kd.R_far (p := ⟨gb502, 5, none⟩) (Kd.R_far (p := ⟨gb502, 4, none⟩) (Kd.R_far (p := ⟨gb502, 3, none⟩) (Kd.R_far (p := ⟨gb502, 2, none⟩) (Kd.R_far (p := ⟨gb502, 1, none⟩) (Kd.R_far (p := ⟨gb502, 0, none⟩) (Kd.R_types HO489.out BK502.out (by decide)) (fun _ hk => hk.2) (.int .i64 0)) (fun _ hk => hk.2) (.int .i64 0)) (fun _ hk => hk.2) (.int .i64 0)) (fun _ hk => hk.2) (.string (⟨#[]⟩ : ByteArray))) (fun _ hk => hk.2) (.slice Ao75 y487.length co75)) (fun _ hk => hk.2) (.slice Ao74 y493.length co74)) (fun _ hk => hk.2) (.slice Ao73 y499.length co73)) (fun _ h_ => h_.1))))) (Kd.R_lt (by (with_reducible repeat (first | apply Kd.R_alloc | apply Kd.R_drewN | apply Kd.R_drew)); exact (Kd.R_mono (Kd.R_far (p := ⟨gb502, 6, none⟩) (Kd.R_far (p := ⟨gb502, 5, none⟩) (Kd.R_far (p := ⟨gb502, 4, none⟩) (Kd.R_far (p := ⟨gb502, 3, none⟩) (Kd.R_far (p := ⟨gb502, 2, none⟩) (Kd.R_far (p := ⟨gb502, 1, none⟩) (Kd.R_far (p := ⟨gb502, 0, none⟩) (Kd.R_types HO495.out BK502.out (by decide)) (fun _ hk => hk.2) (.int .i64 0)) (fun _ hk => hk.2) (.int .i64 0)) (fun _ hk => hk.2) (.int .i64 0)) (fun _ hk => hk.2) (.string (⟨#[]⟩ : ByteArray))) (fun _ hk => hk.2) (.slice Ao75 y487.length co75)) (fun _ hk => hk.2) (.slice Ao74 y493.length co74)) (fun _ hk => hk.2) (.slice Ao73 y499.length co73)) (fun _ h_ => h_.1))))) (Kd.R_lt (by (with_reducible repeat (first | apply Kd.R_alloc | apply Kd.R_drewN | apply Kd.R_drew)); exact (Kd.R_mono (Kd.R_far (p := ⟨gb502, 6, none⟩) (Kd.R_far (p := ⟨gb502, 5, none⟩) (Kd.R_far (p := ⟨gb502, 4, none⟩) (Kd.R_far (p := ⟨gb502, 3, none⟩) (Kd.R_far (p := ⟨gb502, 2, none⟩) (Kd.R_far (p := ⟨gb502, 1, none⟩) (Kd.R_far (p := ⟨gb502, 0, none⟩) (Kd.R_types HO501.out BK502.out (by decide)) (fun _ hk => hk.2) (.int .i64 0)) (fun _ hk => hk.2) (.int .i64 0)) (fun _ hk => hk.2) (.int .i64 0)) (fun _ hk => hk.2) (.string (⟨#[]⟩ : ByteArray))) (fun _ hk => hk.2) (.slice Ao75 y487.length co75)) (fun _ hk => hk.2) (.slice Ao74 y493.length co74)) (fun _ hk => hk.2) (.slice Ao73 y499.length co73)) (fun _ h_ => h_.1))))) bz_); replace HO489 := am_ (Kd.R_elder' (by (with_reducible repeat (first | apply Kd.R_alloc | apply Kd.R_drewN | apply Kd.R_drew)); exact (Kd.R_mono (Kd.R_far (p := ⟨gb502, 6, none⟩) (Kd.R_far (p := ⟨gb502, 5, none⟩) (Kd.R_far (p := ⟨gb502, 4, none⟩) (Kd.R_far (p := ⟨gb502, 3, none⟩) (Kd.R_far (p := ⟨gb502, 2, none⟩) (Kd.R_far (p := ⟨gb502, 1, none⟩) (Kd.R_far (p := ⟨gb502, 0, none⟩) (Kd.R_types HO489.out BK502.out (by decide)) (fun _ hk => hk.2) (.int .i64 0)) (fun _ hk => hk.2) (.int .i64 0)) (fun _ hk => hk.2) (.int .i64 0)) (fun _ hk => hk.2) (.string (⟨#[]⟩ : ByteArray))) (fun _ hk => hk.2) (.slice Ao75 y487.length co75)) (fun _ hk => hk.2) (.slice Ao74 y493.length co74)) (fun _ hk => hk.2) (.slice Ao73 y499.length co73)) (fun _ h_ => h_.1))) (Kd.R_base ho91) hb); replace HO495 := am_ (Kd.R_elder' (by (with_reducible repeat (first | apply Kd.R_alloc | apply Kd.R_drewN | apply Kd.R_drew)); exact (Kd.R_mono (Kd.R_far (p := ⟨gb502, 6, none⟩) (Kd.R_far (p := ⟨gb502, 5, none⟩) (Kd.R_far (p := ⟨gb502, 4, none⟩) (Kd.R_far (p := ⟨gb502, 3, none⟩) (Kd.R_far (p := ⟨gb502, 2, none⟩) (Kd.R_far (p := ⟨gb502, 1, none⟩) (Kd.R_far (p := ⟨gb502, 0, none⟩) (Kd.R_types HO495.out BK502.out (by decide)) (fun _ hk => hk.2) (.int .i64 0)) (fun _ hk => hk.2) (.int .i64 0)) (fun _ hk => hk.2) (.int .i64 0)) (fun _ hk => hk.2) (.string (⟨#[]⟩ : ByteArray))) (fun _ hk => hk.2) (.slice Ao75 y487.length co75)) (fun _ hk => hk.2) (.slice Ao74 y493.length co74)) (fun _ hk => hk.2) (.slice Ao73 y499.length co73)) (fun _ h_ => h_.1))) (Kd.R_base ho91) hb); replace HO501 := am_ (Kd.R_elder' (by (with_reducible repeat (first | apply Kd.R_alloc | apply Kd.R_drewN | apply Kd.R_drew)); exact (Kd.R_mono (Kd.R_far (p := ⟨gb502, 6, none⟩) (Kd.R_far (p := ⟨gb502, 5, none⟩) (Kd.R_far (p := ⟨gb502, 4, none⟩) (Kd.R_far (p := ⟨gb502, 3, none⟩) (Kd.R_far (p := ⟨gb502, 2, none⟩) (Kd.R_far (p := ⟨gb502, 1, none⟩) (Kd.R_far (p := ⟨gb502, 0, none⟩) (Kd.R_types HO501.out BK502.out (by decide)) (fun _ hk => hk.2) (.int .i64 0)) (fun _ hk => hk.2) (.int .i64 0)) (fun _ hk => hk.2) (.int .i64 0)) (fun _ hk => hk.2) (.string (⟨#[]⟩ : ByteArray))) (fun _ hk => hk.2) (.slice Ao75 y487.length co75)) (fun _ hk => hk.2) (.slice Ao74 y493.length co74)) (fun _ hk => hk.2) (.slice Ao73 y499.length co73)) (fun _ h_ => h_.1))) (Kd.R_base ho91) hb); replace BK481 := am_ (blk_below (g := gb481) (o := .cells #[.int .i64 a0_0, .slice A0_1 l0_1.length c0_1, .slice (some ad503) l0_2.length c0_2] 36 (0, 0)) (by refine bp_ ?_; refine blk_far ?_ NB481_502.out _; refine bp_ ?_; refine blk_far ?_ NB481_502.out _; refine bp_ ?_; refine blk_far ?_ NB481_502.out _; refine bp_ ?_; refine blk_far ?_ NB481_502.out _; refine bp_ ?_; refine blk_far ?_ NB481_502.out _; refine bp_ ?_; refine blk_far ?_ NB481_502.out _; refine bp_ ?_; refine blk_far ?_ NB481_502.out _; exact bk_ BK481.out) hb); replace BK482 := am_ (blk_below (g := gb482) (o := .cells #[.int .i64 a1_0, .int .i64 a1_1, .int .i64 a1_2, .string a1_3, .slice A1_4 l1_4.length c1_4, .slice A1_5 l1_5.length c1_5, .slice A1_6 l1_6.length c1_6] 46 (0, 0)) (by refine bp_ ?_; refine blk_far ?_ NB482_502.out _; refine bp_ ?_; refine blk_far ?_ NB482_502.out _; refine bp_ ?_; refine blk_far ?_ NB482_502.out _; refine bp_ ?_; refine blk_far ?_ NB482_502.out _; refine bp_ ?_; refine blk_far ?_ NB482_502.out _; refine bp_ ?_; refine blk_far ?_ NB482_502.out _; refine bp_ ?_; refine blk_far ?_ NB482_502.out _; exact bk_ BK482.out) hb); replace BK483 := am_ (blk_below (g := gb483) (o := .cells #[.int .i64 0, .int .i64 0, .int .i64 0, .string (⟨#[]⟩ : ByteArray), .slice none 0 0, .slice none 0 0, .slice none 0 0] 46 (0, 0)) (by refine bp_ ?_; refine blk_far ?_ NB483_502.out _; refine bp_ ?_; refine blk_far ?_ NB483_502.out _; refine bp_ ?_; refine blk_far ?_ NB483_502.out _; refine bp_ ?_; refine blk_far ?_ NB483_502.out _; refine bp_ ?_; refine blk_far ?_ NB483_502.out _; refine bp_ ?_; refine blk_far ?_ NB483_502.out _; refine bp_ ?_; refine blk_far ?_ NB483_502.out _; exact bk_ BK483.out) hb); replace BK502 := am_ (blk_below (g := gb502) (o := .cells #[.int .i64 0, .int .i64 0, .int .i64 0, .string (⟨#[]⟩ : ByteArray), .slice Ao75 y487.length co75, .slice Ao74 y493.length co74, .slice Ao73 y499.length co73] 46 (0, 0)) (by refine bp_ ?_; refine blk_put (cs := #[.int .i64 0, .int .i64 0, .int .i64 0, .string (⟨#[]⟩ : ByteArray), .slice Ao75 y487.length co75, .slice Ao74 y493.length co74, .slice none 0 0]) ?_ 6 _ rfl; refine bp_ ?_; refine blk_put (cs := #[.int .i64 0, .int .i64 0, .int .i64 0, .string (⟨#[]⟩ : ByteArray), .slice Ao75 y487.length co75, .slice none 0 0, .slice none 0 0]) ?_ 5 _ rfl; refine bp_ ?_; refine blk_put (cs := #[.int .i64 0, .int .i64 0, .int .i64 0, .string (⟨#[]⟩ : ByteArray), .slice none 0 0, .slice none 0 0, .slice none 0 0]) ?_ 4 _ rfl; refine bp_ ?_; refine blk_put (cs := #[.int .i64 0, .int .i64 0, .int .i64 0, .string (⟨#[]⟩ : ByteArray), .slice none 0 0, .slice none 0 0, .slice none 0 0]) ?_ 3 _ rfl; refine bp_ ?_; refine blk_put (cs := #[.int .i64 0, .int .i64 0, .int .i64 0, .string (⟨#[]⟩ : ByteArray), .slice none 0 0, .slice none 0 0, .slice none 0 0]) ?_ 2 _ rfl; refine bp_ ?_; refine blk_put (cs := #[.int .i64 0, .int .i64 0, .int .i64 0, .string (⟨#[]⟩ : ByteArray), .slice none 0 0, .slice none 0 0, .slice none 0 0]) ?_ 1 _ rfl; refine bp_ ?_; refine blk_put (cs := #[.int .i64 0, .int .i64 0, .int .i64 0, .string (⟨#[]⟩ : ByteArray), .slice none 0 0, .slice none 0 0, .slice none 0 0]) ?_ 0 _ rfl; exact bk_ BK502.out) hb); replace HB := bt_ hb; clear hb ho91; have hnb92 := NB502_483.out; have hnc92 := NB483_502.out; obtain ⟨hcz93_0, hcz93_1, hcz93_2, hcz93_3, hcz93_4, hcz93_5, hcz93_6⟩ := cz7_ BK502.out; obtain ⟨hfz93_0, hfz93_1, hfz93_2, hfz93_3, hfz93_4, hfz93_5, hfz93_6⟩ := fz7_ BK502.out) | ((with_reducible refine gate_builtin (b := .append) (xs := #[.tmp 41, .tmp 43]) rfl ?_); at_builtin; refine Kd.R_append_rows (Kd.int .i64) (w0 := w) w.heap.size rfl (.tmp 41) (.tmp 43) 40 3 (.int .i64 0) 8 rfl Try.underlying40 info3 rfl (by decide) (by omega) v511 y510 y487 _ _ _ (fun k_ => some k_ ≠ (.slice Ao75 y487.length co75 : Value).ownBlock ∧ some k_ ≠ (.slice Ao74 y493.length co74 : Value).ownBlock ∧ some k_ ≠ (.slice Ao73 y499.length co73 : Value).ownBlock) (fun _ => False) rfl rfl ?aO ?aR (fun _ _ h => h) (fun _ h => h.elim) ?aF ?aB ?aS ?aL ?_; (case aR => exact ck_ (Kd.R_reads' HO489.out).2.2); (case aB => exact bh_); (case aF => exact (fun k_ hk => ⟨Kd.fresh' (Kd.R_lt (rk_ HO489.out)) k_ hk, Kd.fresh' (Kd.R_lt (rk_ HO495.out)) k_ hk, Kd.fresh' (Kd.R_lt (rk_ HO501.out)) k_ hk⟩)); (case aO => exact (by (with_reducible repeat (first | apply Kd.R_alloc | apply Kd.R_drewN | apply Kd.R_drew)); exact Kd.R_mono HO512.out (fun _ hk => ⟨hk.1.1.2, ⟨hk.1.2, hk.2⟩⟩))); (case aS => exact bz_); (case aL => have := LMc54.out; omega); intro v514 w94 ho hb hg hat; rw [← Ny513.out] at ho; have n0_ := am_ (blk_grown (bk_ BK481.out) hg (Kd.R_ne HO512.out BK481.out (by decide))); have n1_ := am_ (blk_grown (bk_ BK482.out) hg (Kd.R_ne HO512.out BK482.out (by decide))); have n2_ := am_ (blk_grown (bk_ BK483.out) hg (Kd.R_ne HO512.out BK483.out (by decide))); have n3_ := am_ (Kd.R_after (ok := (fun k_ => some k_ ≠ (.slice Ao74 y493.length co74 : Value).ownBlock ∧ some k_ ≠ (.slice Ao73 y499.length co73 : Value).ownBlock)) (rk_ HO489.out) hg hat); have n4_ := am_ (Kd.R_after (ok := (fun k_ => some k_ ≠ (.slice Ao75 y487.length co75 : Value).ownBlock ∧ some k_ ≠ (.slice Ao73 y499.length co73 : Value).ownBlock)) (rk_ HO495.out) hg hat); have n5_ := am_ (Kd.R_after (ok := (fun k_ => some k_ ≠ (.slice Ao75 y487.length co75 : Value).ownBlock ∧ some k_ ≠ (.slice Ao74 y493.length co74 : Value).ownBlock)) (rk_ HO501.out) hg hat); have n6_ := am_ (blk_grown (bk_ BK502.out) hg (Kd.R_ne HO512.out BK502.out (by decide))); have n7_ := am_ (hb); have n8_ := am_ (ho); clear BK481; clear BK482; clear BK483; clear HO489; clear HO495; clear HO501; clear BK502; clear HB; clear HO512; have BK481 := n0_; have BK482 := n1_; have BK483 := n2_; have HO489 := n3_; have HO495 := n4_; have HO501 := n5_; have BK502 := n6_; have HB := n7_; have HO515 := n8_; clear n0_ n1_ n2_ n3_ n4_ n5_ n6_ n7_ n8_; clear ho hb hg hat; obtain ⟨Ao95, co95, eo95⟩ := Kd.R_slice HO515.out; subst eo95; obtain ⟨hcz96_0, hcz96_1, hcz96_2, hcz96_3, hcz96_4, hcz96_5, hcz96_6⟩ := cz7_ BK502.out; obtain ⟨hfz96_0, hfz96_1, hfz96_2, hfz96_3, hfz96_4, hfz96_5, hfz96_6⟩ := fz7_ BK502.out; obtain ⟨hcz97_0, hcz97_1, hcz97_2, hcz97_3, hcz97_4, hcz97_5, hcz97_6⟩ := cz7_ BK483.out; obtain ⟨hfz97_0, hfz97_1, hfz97_2, hfz97_3, hfz97_4, hfz97_5, hfz97_6⟩ := fz7_ BK483.out))
  refine bodyPost_ret (results_cell_row rfl _ _ gb483 46 #[.int .i64 0, .int .i64 0, .int .i64 0, .string (⟨#[]⟩ : ByteArray), .slice Ao95 y513.length co95, .slice Ao74 y493.length co74, .slice Ao73 y499.length co73] (0, 0) _ rfl (by refine bp_ ?_; refine blk_put (cs := #[.int .i64 0, .int .i64 0, .int .i64 0, .string (⟨#[]⟩ : ByteArray), .slice Ao95 y513.length co95, .slice Ao74 y493.length co74, .slice none 0 0]) ?_ 6 _ rfl; refine bp_ ?_; refine blk_put (cs := #[.int .i64 0, .int .i64 0, .int .i64 0, .string (⟨#[]⟩ : ByteArray), .slice Ao95 y513.length co95, .slice none 0 0, .slice none 0 0]) ?_ 5 _ rfl; refine bp_ ?_; refine blk_put (cs := #[.int .i64 0, .int .i64 0, .int .i64 0, .string (⟨#[]⟩ : ByteArray), .slice none 0 0, .slice none 0 0, .slice none 0 0]) ?_ 4 _ rfl; refine bp_ ?_; refine blk_put (cs := #[.int .i64 0, .int .i64 0, .int .i64 0, .string (⟨#[]⟩ : ByteArray), .slice none 0 0, .slice none 0 0, .slice none 0 0]) ?_ 3 _ rfl; refine bp_ ?_; refine blk_put (cs := #[.int .i64 0, .int .i64 0, .int .i64 0, .string (⟨#[]⟩ : ByteArray), .slice none 0 0, .slice none 0 0, .slice none 0 0]) ?_ 2 _ rfl; refine bp_ ?_; refine blk_put (cs := #[.int .i64 0, .int .i64 0, .int .i64 0, .string (⟨#[]⟩ : ByteArray), .slice none 0 0, .slice none 0 0, .slice none 0 0]) ?_ 1 _ rfl; refine bp_ ?_; refine blk_put (cs := #[.int .i64 0, .int .i64 0, .int .i64 0, .string (⟨#[]⟩ : ByteArray), .slice none 0 0, .slice none 0 0, .slice none 0 0]) ?_ 0 _ rfl; refine bp_ ?_; refine blk_far ?_ NB483_502.out _; exact bk_ BK483.out) Try.underlying46 rfl (by kernel_rfl)) rfl ?_
  exact ⟨_, _, _, by first | rfl | (simp [errW_none, errW_some] <;> rfl) | (simp [*, errW_none, errW_some] <;> rfl), by (with_reducible repeat (first | apply Kd.R_alloc | apply Kd.R_drewN | apply Kd.R_drew)); exact Kd.R_mono (Kd.R_far (p := ⟨gb483, 6, none⟩) (Kd.R_far (p := ⟨gb483, 5, none⟩) (Kd.R_far (p := ⟨gb483, 4, none⟩) (Kd.R_far (p := ⟨gb483, 3, none⟩) (Kd.R_far (p := ⟨gb483, 2, none⟩) (Kd.R_far (p := ⟨gb483, 1, none⟩) (Kd.R_far (p := ⟨gb483, 0, none⟩) (Kd.R_far (p := ⟨gb502, 4, none⟩) (Kd.R_types (Kd.R_types HO515.out BK502.out (by decide)) BK483.out (by decide)) (fun _ hk => hk.1.2) (.slice Ao95 y513.length co95)) (fun _ hk => hk.2) (.int .i64 0)) (fun _ hk => hk.2) (.int .i64 0)) (fun _ hk => hk.2) (.int .i64 0)) (fun _ hk => hk.2) (.string (⟨#[]⟩ : ByteArray))) (fun _ hk => hk.2) (.slice Ao95 y513.length co95)) (fun _ hk => hk.2) (.slice Ao74 y493.length co74)) (fun _ hk => hk.2) (.slice Ao73 y499.length co73)) (fun _ hk => ⟨hk.1.1.2.1, hk.1.1.2.2⟩), by (with_reducible repeat (first | apply Kd.R_alloc | apply Kd.R_drewN | apply Kd.R_drew)); exact Kd.R_mono (Kd.R_far (p := ⟨gb483, 6, none⟩) (Kd.R_far (p := ⟨gb483, 5, none⟩) (Kd.R_far (p := ⟨gb483, 4, none⟩) (Kd.R_far (p := ⟨gb483, 3, none⟩) (Kd.R_far (p := ⟨gb483, 2, none⟩) (Kd.R_far (p := ⟨gb483, 1, none⟩) (Kd.R_far (p := ⟨gb483, 0, none⟩) (Kd.R_far (p := ⟨gb502, 4, none⟩) (Kd.R_types (Kd.R_types HO495.out BK502.out (by decide)) BK483.out (by decide)) (fun _ hk => hk.1.2) (.slice Ao95 y513.length co95)) (fun _ hk => hk.2) (.int .i64 0)) (fun _ hk => hk.2) (.int .i64 0)) (fun _ hk => hk.2) (.int .i64 0)) (fun _ hk => hk.2) (.string (⟨#[]⟩ : ByteArray))) (fun _ hk => hk.2) (.slice Ao95 y513.length co95)) (fun _ hk => hk.2) (.slice Ao74 y493.length co74)) (fun _ hk => hk.2) (.slice Ao73 y499.length co73)) (fun _ hk => ⟨hk.1.1.2, hk.1.1.1.2⟩), by (with_reducible repeat (first | apply Kd.R_alloc | apply Kd.R_drewN | apply Kd.R_drew)); exact Kd.R_mono (Kd.R_far (p := ⟨gb483, 6, none⟩) (Kd.R_far (p := ⟨gb483, 5, none⟩) (Kd.R_far (p := ⟨gb483, 4, none⟩) (Kd.R_far (p := ⟨gb483, 3, none⟩) (Kd.R_far (p := ⟨gb483, 2, none⟩) (Kd.R_far (p := ⟨gb483, 1, none⟩) (Kd.R_far (p := ⟨gb483, 0, none⟩) (Kd.R_far (p := ⟨gb502, 4, none⟩) (Kd.R_types (Kd.R_types HO501.out BK502.out (by decide)) BK483.out (by decide)) (fun _ hk => hk.1.2) (.slice Ao95 y513.length co95)) (fun _ hk => hk.2) (.int .i64 0)) (fun _ hk => hk.2) (.int .i64 0)) (fun _ hk => hk.2) (.int .i64 0)) (fun _ hk => hk.2) (.string (⟨#[]⟩ : ByteArray))) (fun _ hk => hk.2) (.slice Ao95 y513.length co95)) (fun _ hk => hk.2) (.slice Ao74 y493.length co74)) (fun _ hk => hk.2) (.slice Ao73 y499.length co73)) (fun _ hk => ⟨hk.1.1.2, hk.1.1.1.2⟩), bh_⟩
 rw [if_pos c9] at H
 have c9b0 : (((rd_T68 l0_2 a1_1).f2) == 3) = true := beq_iff_eq.mpr c9
 have c9b1 : (((rd_T68 l0_2 a1_1).f2) != 3) = false := bne_eq_false_iff_eq.mpr c9
 clear c9
 obtain ⟨y504, hy504⟩ : ∃ y_ : List Int, y_ = (([a1_1] : List Int)) := ⟨_, rfl⟩
 replace H : (if y504.length + y493.length < 17592186044416 then (some (0, 0, 0, (⟨#[]⟩ : ByteArray), y487, (y504 ++ y493), y499)) else (none)) = some (r1, r2, r3, r4, r5, r6, r7) := by first | (rw [hy504]; with_reducible exact H) | (have H2_ := (Option.bind_some _ _).symm.trans H; rw [hy504]; with_reducible exact H2_) | (have H2_ := (Option.bind_some _ _).symm.trans H; with_reducible exact H2_) | with_reducible exact H | (rw [hy504]; exact H) | exact H
 have Ny504 := am_ hy504
 clear hy504
 by_cases c10 : y504.length + y493.length < 17592186044416
 rotate_left
 ·rw [if_neg c10] at H
  exact absurd H (by simp)
 rw [if_pos c10] at H
 have LMc10 := am_ c10
 clear c10
 obtain ⟨y507, hy507⟩ : ∃ y_ : List Int, y_ = (y504 ++ y493) := ⟨_, rfl⟩
 replace H : (some (0, 0, 0, (⟨#[]⟩ : ByteArray), y487, y507, y499)) = some (r1, r2, r3, r4, r5, r6, r7) := by first | (rw [hy507]; with_reducible exact H) | (have H2_ := (Option.bind_some _ _).symm.trans H; rw [hy507]; with_reducible exact H2_) | (have H2_ := (Option.bind_some _ _).symm.trans H; with_reducible exact H2_) | with_reducible exact H | (rw [hy507]; exact H) | exact H
 have Ny507 := am_ hy507
 clear hy507
 simp only [Option.some.injEq, Prod.mk.injEq] at H
 obtain ⟨rfl, rfl, rfl, rfl, rfl, rfl, rfl⟩ := H
 go_enter Try.func23, Try.ntmps23
 try go_wp2_with (first | ((with_reducible refine gate_dst (N := 2) rfl ?_); refine bx_ (w := w) (N := 2) (cs := #[.int .i64 a0_0, .slice A0_1 l0_1.length c0_1, .slice A0_2 l0_2.length c0_2]) (t := 36) ?_; intro gb481 w11 BK481 n0_ GW481 GE481; clear HB; have HB := n0_; clear n0_) | ((with_reducible refine gate_dst (N := 3) rfl ?_); refine be_ (N := 3) (cs := #[.int .i64 a1_0, .int .i64 a1_1, .int .i64 a1_2, .string a1_3, .slice A1_4 l1_4.length c1_4, .slice A1_5 l1_5.length c1_5, .slice A1_6 l1_6.length c1_6]) (t := 46) ?_; intro gb482 hg w12 hbox hb; have BK482 := am_ (hbox); have GW482 := gw_ (w := w) hg; have GE482 := gw_ (w := w) hg; replace HB := bt_ hb; have NB481_482 := ne_ hg BK481; have NB482_481 := nf_ hg BK481; replace BK481 := bw_ BK481 hb; clear hb hbox hg) | ((with_reducible refine gate_dst (N := 4) rfl ?_); refine be_ (N := 4) (cs := #[.int .i64 0, .int .i64 0, .int .i64 0, .string (⟨#[]⟩ : ByteArray), .slice none 0 0, .slice none 0 0, .slice none 0 0]) (t := 46) ?_; intro gb483 hg w13 hbox hb; have BK483 := am_ (hbox); have GW483 := gw_ (w := w) hg; have GE483 := gw_ (w := w) hg; replace HB := bt_ hb; have NB481_483 := ne_ hg BK481; have NB483_481 := nf_ hg BK481; replace BK481 := bw_ BK481 hb; have NB482_483 := ne_ hg BK482; have NB483_482 := nf_ hg BK482; replace BK482 := bw_ BK482 hb; clear hb hbox hg))
 replace BK481 := am_ (blk_drew BK481.out)
 replace BK482 := am_ (blk_drew BK482.out)
 replace BK483 := am_ (blk_drew BK483.out)
 replace HB := am_ (below_drew1 HB.out)
 refine start_ (n := 15) (S := fun w' => w'.cell? ⟨gb482, 0, none⟩ = some (.int .i64 a1_0) ∧ w'.cell? ⟨gb482, 1, none⟩ = some (.int .i64 a1_1) ∧ w'.cell? ⟨gb482, 2, none⟩ = some (.int .i64 a1_2) ∧ w'.cell? ⟨gb482, 3, none⟩ = some (.string a1_3) ∧ w'.cell? ⟨gb482, 4, none⟩ = some (.slice A1_4 l1_4.length c1_4) ∧ w'.cell? ⟨gb482, 5, none⟩ = some (.slice A1_5 l1_5.length c1_5) ∧ w'.cell? ⟨gb482, 6, none⟩ = some (.slice A1_6 l1_6.length c1_6)) (ds := []) (bf_ 15 0) (by kernel_rfl) rfl rfl (cz7_ BK482.out) (fun hHeld => ?_); refine with_tabW computusref21_Displace.tab1 computusref21_Displace.bits1 (fun HT_ HW_ => ?_)
 generalize w13.drew = w14 at BK481 BK482 BK483 HB hHeld ⊢
 refine pu_ 1 (some 8) (bf_ 15 2) HT_.out ?_
 refine pu_ 5 (some 12) (bf_ 15 34) HT_.out ?_
 refine pu_ 9 (some 16) (bf_ 15 546) HT_.out ?_
 refine ta_ 2 (some 9) (bf_ 15 550) HT_.out HW_.out hHeld ?_
 refine ta_ 6 (some 13) (bf_ 15 614) HT_.out HW_.out hHeld ?_
 refine ta_ 10 (some 17) (bf_ 15 1638) HT_.out HW_.out hHeld ?_
 refine join_ (σ := Value × Value × Value × Value × Value × Value × Nat) 1 (bf_ 15 16383) (fun s_ => [(7, s_.1), (10, s_.2.1), (11, s_.2.2.1), (14, s_.2.2.2.1), (15, s_.2.2.2.2.1), (18, s_.2.2.2.2.2.1), (5, .pointer (some ⟨s_.2.2.2.2.2.2, 0, none⟩)), (19, .agg #[.int .i64 0, .int .i64 0, .int .i64 0, .string (⟨#[]⟩ : ByteArray), s_.2.1, s_.2.2.2.1, s_.2.2.2.2.2.1])]) (fun s_ w' => (w'.cell? ⟨gb482, 0, none⟩ = some (.int .i64 a1_0) ∧ w'.cell? ⟨gb482, 1, none⟩ = some (.int .i64 a1_1) ∧ w'.cell? ⟨gb482, 2, none⟩ = some (.int .i64 a1_2) ∧ w'.cell? ⟨gb482, 3, none⟩ = some (.string a1_3) ∧ w'.cell? ⟨gb482, 4, none⟩ = some (.slice A1_4 l1_4.length c1_4) ∧ w'.cell? ⟨gb482, 5, none⟩ = some (.slice A1_5 l1_5.length c1_5) ∧ w'.cell? ⟨gb482, 6, none⟩ = some (.slice A1_6 l1_6.length c1_6)) ∧ (Kd.R (Kd.int .i64) 3 w' w.heap.size (fun k_ => some k_ ≠ (s_.2.2.2.1 : Value).ownBlock ∧ some k_ ≠ (s_.2.2.2.2.2.1 : Value).ownBlock) s_.2.1 y487) ∧ (Kd.R (Kd.int .i64) 3 w' w.heap.size (fun k_ => some k_ ≠ (s_.2.1 : Value).ownBlock ∧ some k_ ≠ (s_.2.2.2.2.2.1 : Value).ownBlock) s_.2.2.2.1 y493) ∧ (Kd.R (Kd.int .i64) 3 w' w.heap.size (fun k_ => some k_ ≠ (s_.2.1 : Value).ownBlock ∧ some k_ ≠ (s_.2.2.2.1 : Value).ownBlock) s_.2.2.2.2.2.1 y499) ∧ (w'.heap[gb481]? = some (.cells #[.int .i64 a0_0, .slice A0_1 l0_1.length c0_1, .slice A0_2 l0_2.length c0_2] 36 (0, 0))) ∧ (w'.heap[gb482]? = some (.cells #[.int .i64 a1_0, .int .i64 a1_1, .int .i64 a1_2, .string a1_3, .slice A1_4 l1_4.length c1_4, .slice A1_5 l1_5.length c1_5, .slice A1_6 l1_6.length c1_6] 46 (0, 0))) ∧ (w'.heap[gb483]? = some (.cells #[.int .i64 0, .int .i64 0, .int .i64 0, .string (⟨#[]⟩ : ByteArray), .slice none 0 0, .slice none 0 0, .slice none 0 0] 46 (0, 0))) ∧ (w'.heap[s_.2.2.2.2.2.2]? = some (.cells #[.int .i64 0, .int .i64 0, .int .i64 0, .string (⟨#[]⟩ : ByteArray), .slice none 0 0, .slice none 0 0, .slice none 0 0] 46 (0, 0))) ∧ (w.heap.size ≤ s_.2.2.2.2.2.2) ∧ (w.heap.size ≤ s_.2.2.2.2.2.2) ∧ (gb481 ≠ s_.2.2.2.2.2.2) ∧ (s_.2.2.2.2.2.2 ≠ gb481) ∧ (gb482 ≠ s_.2.2.2.2.2.2) ∧ (s_.2.2.2.2.2.2 ≠ gb482) ∧ (gb483 ≠ s_.2.2.2.2.2.2) ∧ (s_.2.2.2.2.2.2 ≠ gb483) ∧ (Below w.heap.size w w')) ?_ ?_
 rotate_left
 ·intro hJ0_3_4_7_8_11_13
  exact lit3_.start (b := 7) (N := 5) (L1 := l1_4) (L2 := l1_5) (L3 := l1_6) ⟨HT_.out, rfl, rfl, rfl, rfl, rfl, rfl, rfl, rfl, rfl, rfl, rfl, rfl, rfl, rfl, rfl, rfl, rfl, rfl, rfl, rfl, rfl, rfl, rfl, rfl, fun _ _ => by first | (go_simp; done) | (go_simp; rfl), fun _ _ => by first | (go_simp; done) | (go_simp; rfl), fun _ _ => by first | (go_simp; done) | (go_simp; rfl), rfl, rfl, rfl, fun _ _ _ _ _ _ _ _ _ _ _ h1 h2 h3 => by first | (go_simp; done) | (go_simp; rfl), fun _ _ => by first | (go_simp; done) | (go_simp; rfl), by simp, by decide, rfl, rfl, rfl, (Kd.C_below HR1_4.out HB.out), (Kd.C_below HR1_5.out HB.out), (Kd.C_below HR1_6.out HB.out), by have := LMc3.out; omega, by have := LMc4.out; omega, by have := LMc5.out; omega, fun _ hb_ => ⟨(blk_cell (blk_below BK482.out hb_) 0).trans rfl, (blk_cell (blk_below BK482.out hb_) 1).trans rfl, (blk_cell (blk_below BK482.out hb_) 2).trans rfl, (blk_cell (blk_below BK482.out hb_) 3).trans rfl, (blk_cell (blk_below BK482.out hb_) 4).trans rfl, (blk_cell (blk_below BK482.out hb_) 5).trans rfl, (blk_cell (blk_below BK482.out hb_) 6).trans rfl⟩⟩ ⟨fun _ _ _ _ _ h => h, fun x1 y1 x2 y2 x3 y3 g W h => hJ0_3_4_7_8_11_13 (x1, y1, x2, y2, x3, y3, g) W ⟨⟨(blk_cell (blk_below BK482.out h.B) 0).trans rfl, (blk_cell (blk_below BK482.out h.B) 1).trans rfl, (blk_cell (blk_below BK482.out h.B) 2).trans rfl, (blk_cell (blk_below BK482.out h.B) 3).trans rfl, (blk_cell (blk_below BK482.out h.B) 4).trans rfl, (blk_cell (blk_below BK482.out h.B) 5).trans rfl, (blk_cell (blk_below BK482.out h.B) 6).trans rfl⟩, (by rw [Ny487.out, Ny484.out, List.nil_append]; exact Kd.R_mono (Kd.R_lower (Kd.R_bound h.r1) (below_size HB.out)) (fun _ hk => ⟨hk.1.1, hk.1.2.1⟩)), (by rw [Ny493.out, Ny490.out, List.nil_append]; exact Kd.R_mono (Kd.R_lower (Kd.R_bound h.r2) (below_size HB.out)) (fun _ hk => ⟨hk.1.1, hk.1.2.1⟩)), (by rw [Ny499.out, Ny496.out, List.nil_append]; exact Kd.R_mono (Kd.R_lower (Kd.R_bound h.r3) (below_size HB.out)) (fun _ hk => ⟨hk.1.1, hk.1.2.1⟩)), blk_below BK481.out h.B, blk_below BK482.out h.B, blk_below BK483.out h.B, (h.g _ rfl).1, Nat.le_trans (below_size HB.out) (h.g _ rfl).2, Nat.le_trans (below_size HB.out) (h.g _ rfl).2, Nat.ne_of_lt (Nat.lt_of_lt_of_le (blk_lt BK481.out) (h.g _ rfl).2), Nat.ne_of_gt (Nat.lt_of_lt_of_le (blk_lt BK481.out) (h.g _ rfl).2), Nat.ne_of_lt (Nat.lt_of_lt_of_le (blk_lt BK482.out) (h.g _ rfl).2), Nat.ne_of_gt (Nat.lt_of_lt_of_le (blk_lt BK482.out) (h.g _ rfl).2), Nat.ne_of_lt (Nat.lt_of_lt_of_le (blk_lt BK483.out) (h.g _ rfl).2), Nat.ne_of_gt (Nat.lt_of_lt_of_le (blk_lt BK483.out) (h.g _ rfl).2), HB.out.trans (h.B.mono (below_size HB.out))⟩⟩
 rintro ⟨v485, v488, v491, v494, v497, v500, gb502⟩ w28 ⟨hS_, h0_, h1_, h2_, h3_, h4_, h5_, h6_, h7_, h8_, h9_, h10_, h11_, h12_, h13_, h14_, h15_⟩
 have HO489 : Aside0 (Kd.R (Kd.int .i64) 3 w28 w.heap.size (fun k_ => some k_ ≠ (v494 : Value).ownBlock ∧ some k_ ≠ (v500 : Value).ownBlock) v488 y487) := ⟨h0_⟩
 have HO495 : Aside0 (Kd.R (Kd.int .i64) 3 w28 w.heap.size (fun k_ => some k_ ≠ (v488 : Value).ownBlock ∧ some k_ ≠ (v500 : Value).ownBlock) v494 y493) := ⟨h1_⟩
 have HO501 : Aside0 (Kd.R (Kd.int .i64) 3 w28 w.heap.size (fun k_ => some k_ ≠ (v488 : Value).ownBlock ∧ some k_ ≠ (v494 : Value).ownBlock) v500 y499) := ⟨h2_⟩
 replace BK481 : Aside0 (w28.heap[gb481]? = some (.cells #[.int .i64 a0_0, .slice A0_1 l0_1.length c0_1, .slice A0_2 l0_2.length c0_2] 36 (0, 0))) := ⟨h3_⟩
 replace BK482 : Aside0 (w28.heap[gb482]? = some (.cells #[.int .i64 a1_0, .int .i64 a1_1, .int .i64 a1_2, .string a1_3, .slice A1_4 l1_4.length c1_4, .slice A1_5 l1_5.length c1_5, .slice A1_6 l1_6.length c1_6] 46 (0, 0))) := ⟨h4_⟩
 replace BK483 : Aside0 (w28.heap[gb483]? = some (.cells #[.int .i64 0, .int .i64 0, .int .i64 0, .string (⟨#[]⟩ : ByteArray), .slice none 0 0, .slice none 0 0, .slice none 0 0] 46 (0, 0))) := ⟨h5_⟩
 have BK502 : Aside0 (w28.heap[gb502]? = some (.cells #[.int .i64 0, .int .i64 0, .int .i64 0, .string (⟨#[]⟩ : ByteArray), .slice none 0 0, .slice none 0 0, .slice none 0 0] 46 (0, 0))) := ⟨h6_⟩
 have GW502 : Aside0 (w.heap.size ≤ gb502) := ⟨h7_⟩
 have GE502 : Aside0 (w.heap.size ≤ gb502) := ⟨h8_⟩
 have NB481_502 : Aside0 (gb481 ≠ gb502) := ⟨h9_⟩
 have NB502_481 : Aside0 (gb502 ≠ gb481) := ⟨h10_⟩
 have NB482_502 : Aside0 (gb482 ≠ gb502) := ⟨h11_⟩
 have NB502_482 : Aside0 (gb502 ≠ gb482) := ⟨h12_⟩
 have NB483_502 : Aside0 (gb483 ≠ gb502) := ⟨h13_⟩
 have NB502_483 : Aside0 (gb502 ≠ gb483) := ⟨h14_⟩
 replace HB : Aside0 (Below w.heap.size w w28) := ⟨h15_⟩
 clear h0_ h1_ h2_ h3_ h4_ h5_ h6_ h7_ h8_ h9_ h10_ h11_ h12_ h13_ h14_ h15_
 have hHeld : w28.cell? ⟨gb482, 0, none⟩ = some (.int .i64 a1_0) ∧ w28.cell? ⟨gb482, 1, none⟩ = some (.int .i64 a1_1) ∧ w28.cell? ⟨gb482, 2, none⟩ = some (.int .i64 a1_2) ∧ w28.cell? ⟨gb482, 3, none⟩ = some (.string a1_3) ∧ w28.cell? ⟨gb482, 4, none⟩ = some (.slice A1_4 l1_4.length c1_4) ∧ w28.cell? ⟨gb482, 5, none⟩ = some (.slice A1_5 l1_5.length c1_5) ∧ w28.cell? ⟨gb482, 6, none⟩ = some (.slice A1_6 l1_6.length c1_6) := hS_
 obtain ⟨Ao29, co29, eo29⟩ := Kd.R_slice HO501.out
 (first | subst eo29 | (injection eo29 with f1_ f2_ f3_; have f4_ := f1_.symm; have f5_ := f3_.symm; clear f1_ f2_ f3_; subst f4_; subst f5_))
 obtain ⟨Ao30, co30, eo30⟩ := Kd.R_slice HO495.out
 (first | subst eo30 | (injection eo30 with f1_ f2_ f3_; have f4_ := f1_.symm; have f5_ := f3_.symm; clear f1_ f2_ f3_; subst f4_; subst f5_))
 obtain ⟨Ao31, co31, eo31⟩ := Kd.R_slice HO489.out
 (first | subst eo31 | (injection eo31 with f1_ f2_ f3_; have f4_ := f1_.symm; have f5_ := f3_.symm; clear f1_ f2_ f3_; subst f4_; subst f5_))
 refine norm_ (a' := ?_) ?_ ?_
 rotate_left
 ·simp only [putAll, Act.put, sA_, sZ_, sS_]
  rfl
 refine one_ (i := 14) (N := none) (bf_ 15 32767) rfl rfl (one_of HT_.out (by kernel_rfl)) (by decide) (fun K hK => ?_)
 have hs32 : w28.cell? ⟨gb502, 0, none⟩ = some (.int .i64 0) := (blk_cell BK502.out 0).trans rfl
 have hfs32 := blk_frozen BK502.out 0
 have hns32_0 := NB481_502.out
 have hns32_1 := NB482_502.out
 have hns32_2 := NB483_502.out
 have hms32_0 := NB502_481.out
 have hms32_1 := NB502_482.out
 have hms32_2 := NB502_483.out
 have hs33 : w28.cell? ⟨gb502, 1, none⟩ = some (.int .i64 0) := (blk_cell BK502.out 1).trans rfl
 have hfs33 := blk_frozen BK502.out 1
 have hns33_0 := NB481_502.out
 have hns33_1 := NB482_502.out
 have hns33_2 := NB483_502.out
 have hms33_0 := NB502_481.out
 have hms33_1 := NB502_482.out
 have hms33_2 := NB502_483.out
 have hs34 : w28.cell? ⟨gb502, 2, none⟩ = some (.int .i64 0) := (blk_cell BK502.out 2).trans rfl
 have hfs34 := blk_frozen BK502.out 2
 have hns34_0 := NB481_502.out
 have hns34_1 := NB482_502.out
 have hns34_2 := NB483_502.out
 have hms34_0 := NB502_481.out
 have hms34_1 := NB502_482.out
 have hms34_2 := NB502_483.out
 have hs35 : w28.cell? ⟨gb502, 3, none⟩ = some (.string (⟨#[]⟩ : ByteArray)) := (blk_cell BK502.out 3).trans rfl
 have hfs35 := blk_frozen BK502.out 3
 have hns35_0 := NB481_502.out
 have hns35_1 := NB482_502.out
 have hns35_2 := NB483_502.out
 have hms35_0 := NB502_481.out
 have hms35_1 := NB502_482.out
 have hms35_2 := NB502_483.out
 have hs36 : w28.cell? ⟨gb502, 4, none⟩ = some (.slice none 0 0) := (blk_cell BK502.out 4).trans rfl
 have hfs36 := blk_frozen BK502.out 4
 have hns36_0 := NB481_502.out
 have hns36_1 := NB482_502.out
 have hns36_2 := NB483_502.out
 have hms36_0 := NB502_481.out
 have hms36_1 := NB502_482.out
 have hms36_2 := NB502_483.out
 have hs37 : w28.cell? ⟨gb502, 5, none⟩ = some (.slice none 0 0) := (blk_cell BK502.out 5).trans rfl
 have hfs37 := blk_frozen BK502.out 5
 have hns37_0 := NB481_502.out
 have hns37_1 := NB482_502.out
 have hns37_2 := NB483_502.out
 have hms37_0 := NB502_481.out
 have hms37_1 := NB502_482.out
 have hms37_2 := NB502_483.out
 have hs38 : w28.cell? ⟨gb502, 6, none⟩ = some (.slice none 0 0) := (blk_cell BK502.out 6).trans rfl
 have hfs38 := blk_frozen BK502.out 6
 have hns38_0 := NB481_502.out
 have hns38_1 := NB482_502.out
 have hns38_2 := NB483_502.out
 have hms38_0 := NB502_481.out
 have hms38_1 := NB502_482.out
 have hms38_2 := NB502_483.out
 refine skip_ (w1 := ?_) (by rfl) rfl ?_ ?_
 rotate_left
 ·go_simp
  rfl
 refine hK.out _ _ ⟨((cell_far (p := ⟨gb502, _, none⟩) NB482_502.out _).trans (((cell_far (p := ⟨gb502, _, none⟩) NB482_502.out _).trans (((cell_far (p := ⟨gb502, _, none⟩) NB482_502.out _).trans (((cell_far (p := ⟨gb502, _, none⟩) NB482_502.out _).trans (((cell_far (p := ⟨gb502, _, none⟩) NB482_502.out _).trans (((cell_far (p := ⟨gb502, _, none⟩) NB482_502.out _).trans (((cell_far (p := ⟨gb502, _, none⟩) NB482_502.out _).trans (hHeld.1)))))))))))))), ((cell_far (p := ⟨gb502, _, none⟩) NB482_502.out _).trans (((cell_far (p := ⟨gb502, _, none⟩) NB482_502.out _).trans (((cell_far (p := ⟨gb502, _, none⟩) NB482_502.out _).trans (((cell_far (p := ⟨gb502, _, none⟩) NB482_502.out _).trans (((cell_far (p := ⟨gb502, _, none⟩) NB482_502.out _).trans (((cell_far (p := ⟨gb502, _, none⟩) NB482_502.out _).trans (((cell_far (p := ⟨gb502, _, none⟩) NB482_502.out _).trans (hHeld.2.1)))))))))))))), ((cell_far (p := ⟨gb502, _, none⟩) NB482_502.out _).trans (((cell_far (p := ⟨gb502, _, none⟩) NB482_502.out _).trans (((cell_far (p := ⟨gb502, _, none⟩) NB482_502.out _).trans (((cell_far (p := ⟨gb502, _, none⟩) NB482_502.out _).trans (((cell_far (p := ⟨gb502, _, none⟩) NB482_502.out _).trans (((cell_far (p := ⟨gb502, _, none⟩) NB482_502.out _).trans (((cell_far (p := ⟨gb502, _, none⟩) NB482_502.out _).trans (hHeld.2.2.1)))))))))))))), ((cell_far (p := ⟨gb502, _, none⟩) NB482_502.out _).trans (((cell_far (p := ⟨gb502, _, none⟩) NB482_502.out _).trans (((cell_far (p := ⟨gb502, _, none⟩) NB482_502.out _).trans (((cell_far (p := ⟨gb502, _, none⟩) NB482_502.out _).trans (((cell_far (p := ⟨gb502, _, none⟩) NB482_502.out _).trans (((cell_far (p := ⟨gb502, _, none⟩) NB482_502.out _).trans (((cell_far (p := ⟨gb502, _, none⟩) NB482_502.out _).trans (hHeld.2.2.2.1)))))))))))))), ((cell_far (p := ⟨gb502, _, none⟩) NB482_502.out _).trans (((cell_far (p := ⟨gb502, _, none⟩) NB482_502.out _).trans (((cell_far (p := ⟨gb502, _, none⟩) NB482_502.out _).trans (((cell_far (p := ⟨gb502, _, none⟩) NB482_502.out _).trans (((cell_far (p := ⟨gb502, _, none⟩) NB482_502.out _).trans (((cell_far (p := ⟨gb502, _, none⟩) NB482_502.out _).trans (((cell_far (p := ⟨gb502, _, none⟩) NB482_502.out _).trans (hHeld.2.2.2.2.1)))))))))))))), ((cell_far (p := ⟨gb502, _, none⟩) NB482_502.out _).trans (((cell_far (p := ⟨gb502, _, none⟩) NB482_502.out _).trans (((cell_far (p := ⟨gb502, _, none⟩) NB482_502.out _).trans (((cell_far (p := ⟨gb502, _, none⟩) NB482_502.out _).trans (((cell_far (p := ⟨gb502, _, none⟩) NB482_502.out _).trans (((cell_far (p := ⟨gb502, _, none⟩) NB482_502.out _).trans (((cell_far (p := ⟨gb502, _, none⟩) NB482_502.out _).trans (hHeld.2.2.2.2.2.1)))))))))))))), ((cell_far (p := ⟨gb502, _, none⟩) NB482_502.out _).trans (((cell_far (p := ⟨gb502, _, none⟩) NB482_502.out _).trans (((cell_far (p := ⟨gb502, _, none⟩) NB482_502.out _).trans (((cell_far (p := ⟨gb502, _, none⟩) NB482_502.out _).trans (((cell_far (p := ⟨gb502, _, none⟩) NB482_502.out _).trans (((cell_far (p := ⟨gb502, _, none⟩) NB482_502.out _).trans (((cell_far (p := ⟨gb502, _, none⟩) NB482_502.out _).trans (hHeld.2.2.2.2.2.2))))))))))))))⟩ (fun hHeld => ?_)
 clear hK K
 refine done_ (done_of HT_.out (by kernel_rfl)) ?_
 have hnb39 := NB482_481.out
 have hnc39 := NB481_482.out
 have hnb40 := NB482_483.out
 have hnc40 := NB483_482.out
 have hnb41 := NB482_502.out
 have hnc41 := NB502_482.out
 obtain ⟨hcz42_0, hcz42_1, hcz42_2, hcz42_3, hcz42_4, hcz42_5, hcz42_6⟩ := cz7_ BK482.out
 obtain ⟨hfz42_0, hfz42_1, hfz42_2, hfz42_3, hfz42_4, hfz42_5, hfz42_6⟩ := fz7_ BK482.out
 have hnb43 := NB481_483.out
 have hnc43 := NB483_481.out
 have hnb44 := NB481_502.out
 have hnc44 := NB502_481.out
 obtain ⟨hcz45_0, hcz45_1, hcz45_2⟩ := cz3_ BK481.out
 obtain ⟨hfz45_0, hfz45_1, hfz45_2⟩ := fz3_ BK481.out
 have p503 : 0 ≤ (a1_1 : Int) := of_decide_eq_true as_
 have q503 : a1_1 < (l0_2.length : Int) := of_decide_eq_true as_
 obtain ⟨ad503, e503, hx503_0, hx503_1, hx503_2, hx503_3, hx503_4, hx503_5, hx503_6, hx503_7, hx503_8⟩ := at_T68 HR0_2.out a1_1 p503 q503
 cases e503
 have hn503_0 : ad503.block ≠ gb502 := Nat.ne_of_lt (Nat.lt_of_lt_of_le (by have := World.block_lt_of_cell? _ _ hx503_0; first | rwa [add_block] at this | exact this) GW502.out)
 have hn503_1 : ad503.block ≠ gb502 := Nat.ne_of_lt (Nat.lt_of_lt_of_le (by have := World.block_lt_of_cell? _ _ hx503_0; first | rwa [add_block] at this | exact this) GW502.out)
 have hn503_2 : ad503.block ≠ gb502 := Nat.ne_of_lt (Nat.lt_of_lt_of_le (by have := World.block_lt_of_cell? _ _ hx503_0; first | rwa [add_block] at this | exact this) GW502.out)
 have hn503_3 : ad503.block ≠ gb502 := Nat.ne_of_lt (Nat.lt_of_lt_of_le (by have := World.block_lt_of_cell? _ _ hx503_0; first | rwa [add_block] at this | exact this) GW502.out)
 have hn503_4 : ad503.block ≠ gb502 := Nat.ne_of_lt (Nat.lt_of_lt_of_le (by have := World.block_lt_of_cell? _ _ hx503_0; first | rwa [add_block] at this | exact this) GW502.out)
 have hn503_5 : ad503.block ≠ gb502 := Nat.ne_of_lt (Nat.lt_of_lt_of_le (by have := World.block_lt_of_cell? _ _ hx503_0; first | rwa [add_block] at this | exact this) GW502.out)
 have hn503_6 : ad503.block ≠ gb502 := Nat.ne_of_lt (Nat.lt_of_lt_of_le (by have := World.block_lt_of_cell? _ _ hx503_0; first | rwa [add_block] at this | exact this) GW502.out)
 replace hx503_0 := cm_ HB.out hx503_0
 replace hx503_1 := cm_ HB.out hx503_1
 replace hx503_2 := cm_ HB.out hx503_2
 replace hx503_3 := cm_ HB.out hx503_3
 replace hx503_4 := cm_ HB.out hx503_4
 replace hx503_5 := cm_ HB.out hx503_5
 replace hx503_6 := cm_ HB.out hx503_6
 replace hx503_7 := cm_ HB.out hx503_7
 replace hx503_8 := cm_ HB.out hx503_8
 replace hx503_0 := cf_ gb502 0 (.int .i64 0) hx503_0
 replace hx503_1 := cf_ gb502 0 (.int .i64 0) hx503_1
 replace hx503_2 := cf_ gb502 0 (.int .i64 0) hx503_2
 replace hx503_3 := cf_ gb502 0 (.int .i64 0) hx503_3
 replace hx503_4 := cf_ gb502 0 (.int .i64 0) hx503_4
 replace hx503_5 := cf_ gb502 0 (.int .i64 0) hx503_5
 replace hx503_6 := cf_ gb502 0 (.int .i64 0) hx503_6
 replace hx503_7 := cf_ gb502 0 (.int .i64 0) hx503_7
 replace hx503_8 := cf_ gb502 0 (.int .i64 0) hx503_8
 replace hx503_0 := cf_ gb502 1 (.int .i64 0) hx503_0
 replace hx503_1 := cf_ gb502 1 (.int .i64 0) hx503_1
 replace hx503_2 := cf_ gb502 1 (.int .i64 0) hx503_2
 replace hx503_3 := cf_ gb502 1 (.int .i64 0) hx503_3
 replace hx503_4 := cf_ gb502 1 (.int .i64 0) hx503_4
 replace hx503_5 := cf_ gb502 1 (.int .i64 0) hx503_5
 replace hx503_6 := cf_ gb502 1 (.int .i64 0) hx503_6
 replace hx503_7 := cf_ gb502 1 (.int .i64 0) hx503_7
 replace hx503_8 := cf_ gb502 1 (.int .i64 0) hx503_8
 replace hx503_0 := cf_ gb502 2 (.int .i64 0) hx503_0
 replace hx503_1 := cf_ gb502 2 (.int .i64 0) hx503_1
 replace hx503_2 := cf_ gb502 2 (.int .i64 0) hx503_2
 replace hx503_3 := cf_ gb502 2 (.int .i64 0) hx503_3
 replace hx503_4 := cf_ gb502 2 (.int .i64 0) hx503_4
 replace hx503_5 := cf_ gb502 2 (.int .i64 0) hx503_5
 replace hx503_6 := cf_ gb502 2 (.int .i64 0) hx503_6
 replace hx503_7 := cf_ gb502 2 (.int .i64 0) hx503_7
 replace hx503_8 := cf_ gb502 2 (.int .i64 0) hx503_8
 replace hx503_0 := cf_ gb502 3 (.string (⟨#[]⟩ : ByteArray)) hx503_0
 replace hx503_1 := cf_ gb502 3 (.string (⟨#[]⟩ : ByteArray)) hx503_1
 replace hx503_2 := cf_ gb502 3 (.string (⟨#[]⟩ : ByteArray)) hx503_2
 replace hx503_3 := cf_ gb502 3 (.string (⟨#[]⟩ : ByteArray)) hx503_3
 replace hx503_4 := cf_ gb502 3 (.string (⟨#[]⟩ : ByteArray)) hx503_4
 replace hx503_5 := cf_ gb502 3 (.string (⟨#[]⟩ : ByteArray)) hx503_5
 replace hx503_6 := cf_ gb502 3 (.string (⟨#[]⟩ : ByteArray)) hx503_6
 replace hx503_7 := cf_ gb502 3 (.string (⟨#[]⟩ : ByteArray)) hx503_7
 replace hx503_8 := cf_ gb502 3 (.string (⟨#[]⟩ : ByteArray)) hx503_8
 replace hx503_0 := cf_ gb502 4 (.slice Ao31 y487.length co31) hx503_0
 replace hx503_1 := cf_ gb502 4 (.slice Ao31 y487.length co31) hx503_1
 replace hx503_2 := cf_ gb502 4 (.slice Ao31 y487.length co31) hx503_2
 replace hx503_3 := cf_ gb502 4 (.slice Ao31 y487.length co31) hx503_3
 replace hx503_4 := cf_ gb502 4 (.slice Ao31 y487.length co31) hx503_4
 replace hx503_5 := cf_ gb502 4 (.slice Ao31 y487.length co31) hx503_5
 replace hx503_6 := cf_ gb502 4 (.slice Ao31 y487.length co31) hx503_6
 replace hx503_7 := cf_ gb502 4 (.slice Ao31 y487.length co31) hx503_7
 replace hx503_8 := cf_ gb502 4 (.slice Ao31 y487.length co31) hx503_8
 replace hx503_0 := cf_ gb502 5 (.slice Ao30 y493.length co30) hx503_0
 replace hx503_1 := cf_ gb502 5 (.slice Ao30 y493.length co30) hx503_1
 replace hx503_2 := cf_ gb502 5 (.slice Ao30 y493.length co30) hx503_2
 replace hx503_3 := cf_ gb502 5 (.slice Ao30 y493.length co30) hx503_3
 replace hx503_4 := cf_ gb502 5 (.slice Ao30 y493.length co30) hx503_4
 replace hx503_5 := cf_ gb502 5 (.slice Ao30 y493.length co30) hx503_5
 replace hx503_6 := cf_ gb502 5 (.slice Ao30 y493.length co30) hx503_6
 replace hx503_7 := cf_ gb502 5 (.slice Ao30 y493.length co30) hx503_7
 replace hx503_8 := cf_ gb502 5 (.slice Ao30 y493.length co30) hx503_8
 replace hx503_0 := cf_ gb502 6 (.slice Ao29 y499.length co29) hx503_0
 replace hx503_1 := cf_ gb502 6 (.slice Ao29 y499.length co29) hx503_1
 replace hx503_2 := cf_ gb502 6 (.slice Ao29 y499.length co29) hx503_2
 replace hx503_3 := cf_ gb502 6 (.slice Ao29 y499.length co29) hx503_3
 replace hx503_4 := cf_ gb502 6 (.slice Ao29 y499.length co29) hx503_4
 replace hx503_5 := cf_ gb502 6 (.slice Ao29 y499.length co29) hx503_5
 replace hx503_6 := cf_ gb502 6 (.slice Ao29 y499.length co29) hx503_6
 replace hx503_7 := cf_ gb502 6 (.slice Ao29 y499.length co29) hx503_7
 replace hx503_8 := cf_ gb502 6 (.slice Ao29 y499.length co29) hx503_8
 clear hn503_0
 clear hn503_1
 clear hn503_2
 clear hn503_3
 clear hn503_4
 clear hn503_5
 clear hn503_6
 replace p503 := eq_true p503
 replace q503 := eq_true q503
 try go_wp2_with (first | ((with_reducible refine gate_dst (N := 35) rfl ?_); refine Kd.R_lit (Kd.int .i64) _ 3 ?hg (N := 35) ?hd (xs := ([a1_1] : List Int)) (inner := [.int .i64 a1_1]) (ok := fun _ => True) (okp := fun _ => True) ?hr ?hp (fun _ hk => hk) trivial (Below.refl _ _) (Nat.le_refl _) (by simp) ?_; (case hd => rfl); (case hg => rfl); (case hr => first | (go_simp; done) | (go_simp; rfl)); (case hp => exact (Reps.one (show Kd.M (Kd.int .i64) _ _ _ a1_1 [.int .i64 a1_1] from rfl) (Reps.none _ _))); intro v505 w46 ho47 hb hg_ hnew_; clear hg_ hnew_; (first | rw [← Ny504.out] at ho47 | (simp only [Int.reduceToNat] at ho47; rw [← Ny504.out] at ho47)); have HO506 := am_ (Kd.R_lower (Kd.R_new' (Kd.R_new' (Kd.R_new' ho47 (Kd.R_lt (by (with_reducible repeat (first | apply Kd.R_alloc | apply Kd.R_drewN | apply Kd.R_drew)); exact (Kd.R_mono (Kd.R_far (p := ⟨gb502, 6, none⟩) (Kd.R_far (p := ⟨gb502, 5, none⟩) (Kd.R_far (p := ⟨gb502, 4, none⟩) (Kd.R_far (p := ⟨gb502, 3, none⟩) (Kd.R_far (p := ⟨gb502, 2, none⟩) (Kd.R_far (p := ⟨gb502, 1, none⟩) (Kd.R_far (p := ⟨gb502, 0, none⟩) (Kd.R_types HO489.out BK502.out (by decide)) (fun _ hk => hk.2) (.int .i64 0)) (fun _ hk => hk.2) (.int .i64 0)) (fun _ hk => hk.2) (.int .i64 0)) (fun _ hk => hk.2) (.string (⟨#[]⟩ : ByteArray))) (fun _ hk => hk.2) (.slice Ao31 y487.length co31)) (fun _ hk => hk.2) (.slice Ao30 y493.length co30)) (fun _ hk => hk.2) (.slice Ao29 y499.length co29)) (fun _ h_ => h_.1))))) (Kd.R_lt (by (with_reducible repeat (first | apply Kd.R_alloc | apply Kd.R_drewN | apply Kd.R_drew)); exact (Kd.R_mono (Kd.R_far (p := ⟨gb502, 6, none⟩) (Kd.R_far (p := ⟨gb502, 5, none⟩) (Kd.R_far (p := ⟨gb502, 4, none⟩) (Kd.R_far (p := ⟨gb502, 3, none⟩) (Kd.R_far (p := ⟨gb502, 2, none⟩) (Kd.R_far (p := ⟨gb502, 1, none⟩) (Kd.R_far (p := ⟨gb502, 0, none⟩) (Kd.R_types HO495.out BK502.out (by decide)) (fun _ hk => hk.2) (.int .i64 0)) (fun _ hk => hk.2) (.int .i64 0)) (fun _ hk => hk.2) (.int .i64 0)) (fun _ hk => hk.2) (.string (⟨#[]⟩ : ByteArray))) (fun _ hk => hk.2) (.slice Ao31 y487.length co31)) (fun _ hk => hk.2) (.slice Ao30 y493.length co30)) (fun _ hk => hk.2) (.slice Ao29 y499.length co29)) (fun _ h_ => h_.1))))) (Kd.R_lt (by (with_reducible repeat (first | apply Kd.R_alloc | apply Kd.R_drewN | apply Kd.R_drew)); exact (Kd.R_mono (Kd.R_far (p := ⟨gb502, 6, none⟩) (Kd.R_far (p := ⟨gb502, 5, none⟩) (Kd.R_far (p := ⟨gb502, 4, none⟩) (Kd.R_far (p := ⟨gb502, 3, none⟩) (Kd.R_far (p := ⟨gb502, 2, none⟩) (Kd.R_far (p := ⟨gb502, 1, none⟩) (Kd.R_far (p := ⟨gb502, 0, none⟩) (Kd.R_types HO501.out BK502.out (by decide)) (fun _ hk => hk.2) (.int .i64 0)) (fun _ hk => hk.2) (.int .i64 0)) (fun _ hk => hk.2) (.int .i64 0)) (fun _ hk => hk.2) (.string (⟨#[]⟩ : ByteArray))) (fun _ hk => hk.2) (.slice Ao31 y487.length co31)) (fun _ hk => hk.2) (.slice Ao30 y493.length co30)) (fun _ hk => hk.2) (.slice Ao29 y499.length co29)) (fun _ h_ => h_.1))))) bz_); replace HO489 := am_ (Kd.R_elder' (by (with_reducible repeat (first | apply Kd.R_alloc | apply Kd.R_drewN | apply Kd.R_drew)); exact (Kd.R_mono (Kd.R_far (p := ⟨gb502, 6, none⟩) (Kd.R_far (p := ⟨gb502, 5, none⟩) (Kd.R_far (p := ⟨gb502, 4, none⟩) (Kd.R_far (p := ⟨gb502, 3, none⟩) (Kd.R_far (p := ⟨gb502, 2, none⟩) (Kd.R_far (p := ⟨gb502, 1, none⟩) (Kd.R_far (p := ⟨gb502, 0, none⟩) (Kd.R_types HO489.out BK502.out (by decide)) (fun _ hk => hk.2) (.int .i64 0)) (fun _ hk => hk.2) (.int .i64 0)) (fun _ hk => hk.2) (.int .i64 0)) (fun _ hk => hk.2) (.string (⟨#[]⟩ : ByteArray))) (fun _ hk => hk.2) (.slice Ao31 y487.length co31)) (fun _ hk => hk.2) (.slice Ao30 y493.length co30)) (fun _ hk => hk.2) (.slice Ao29 y499.length co29)) (fun _ h_ => h_.1))) (Kd.R_base ho47) hb); replace HO495 := am_ (Kd.R_elder' (by (with_reducible repeat (first | apply Kd.R_alloc | apply Kd.R_drewN | apply Kd.R_drew)); exact (Kd.R_mono (Kd.R_far (p := ⟨gb502, 6, none⟩) (Kd.R_far (p := ⟨gb502, 5, none⟩) (Kd.R_far (p := ⟨gb502, 4, none⟩) (Kd.R_far (p := ⟨gb502, 3, none⟩) (Kd.R_far (p := ⟨gb502, 2, none⟩) (Kd.R_far (p := ⟨gb502, 1, none⟩) (Kd.R_far (p := ⟨gb502, 0, none⟩) (Kd.R_types HO495.out BK502.out (by decide)) (fun _ hk => hk.2) (.int .i64 0)) (fun _ hk => hk.2) (.int .i64 0)) (fun _ hk => hk.2) (.int .i64 0)) (fun _ hk => hk.2) (.string (⟨#[]⟩ : ByteArray))) (fun _ hk => hk.2) (.slice Ao31 y487.length co31)) (fun _ hk => hk.2) (.slice Ao30 y493.length co30)) (fun _ hk => hk.2) (.slice Ao29 y499.length co29)) (fun _ h_ => h_.1))) (Kd.R_base ho47) hb); replace HO501 := am_ (Kd.R_elder' (by (with_reducible repeat (first | apply Kd.R_alloc | apply Kd.R_drewN | apply Kd.R_drew)); exact (Kd.R_mono (Kd.R_far (p := ⟨gb502, 6, none⟩) (Kd.R_far (p := ⟨gb502, 5, none⟩) (Kd.R_far (p := ⟨gb502, 4, none⟩) (Kd.R_far (p := ⟨gb502, 3, none⟩) (Kd.R_far (p := ⟨gb502, 2, none⟩) (Kd.R_far (p := ⟨gb502, 1, none⟩) (Kd.R_far (p := ⟨gb502, 0, none⟩) (Kd.R_types HO501.out BK502.out (by decide)) (fun _ hk => hk.2) (.int .i64 0)) (fun _ hk => hk.2) (.int .i64 0)) (fun _ hk => hk.2) (.int .i64 0)) (fun _ hk => hk.2) (.string (⟨#[]⟩ : ByteArray))) (fun _ hk => hk.2) (.slice Ao31 y487.length co31)) (fun _ hk => hk.2) (.slice Ao30 y493.length co30)) (fun _ hk => hk.2) (.slice Ao29 y499.length co29)) (fun _ h_ => h_.1))) (Kd.R_base ho47) hb); replace BK481 := am_ (blk_below (g := gb481) (o := .cells #[.int .i64 a0_0, .slice A0_1 l0_1.length c0_1, .slice (some ad503) l0_2.length c0_2] 36 (0, 0)) (by refine bp_ ?_; refine blk_far ?_ NB481_502.out _; refine bp_ ?_; refine blk_far ?_ NB481_502.out _; refine bp_ ?_; refine blk_far ?_ NB481_502.out _; refine bp_ ?_; refine blk_far ?_ NB481_502.out _; refine bp_ ?_; refine blk_far ?_ NB481_502.out _; refine bp_ ?_; refine blk_far ?_ NB481_502.out _; refine bp_ ?_; refine blk_far ?_ NB481_502.out _; exact bk_ BK481.out) hb); replace BK482 := am_ (blk_below (g := gb482) (o := .cells #[.int .i64 a1_0, .int .i64 a1_1, .int .i64 a1_2, .string a1_3, .slice A1_4 l1_4.length c1_4, .slice A1_5 l1_5.length c1_5, .slice A1_6 l1_6.length c1_6] 46 (0, 0)) (by refine bp_ ?_; refine blk_far ?_ NB482_502.out _; refine bp_ ?_; refine blk_far ?_ NB482_502.out _; refine bp_ ?_; refine blk_far ?_ NB482_502.out _; refine bp_ ?_; refine blk_far ?_ NB482_502.out _; refine bp_ ?_; refine blk_far ?_ NB482_502.out _; refine bp_ ?_; refine blk_far ?_ NB482_502.out _; refine bp_ ?_; refine blk_far ?_ NB482_502.out _; exact bk_ BK482.out) hb); replace BK483 := am_ (blk_below (g := gb483) (o := .cells #[.int .i64 0, .int .i64 0, .int .i64 0, .string (⟨#[]⟩ : ByteArray), .slice none 0 0, .slice none 0 0, .slice none 0 0] 46 (0, 0)) (by refine bp_ ?_; refine blk_far ?_ NB483_502.out _; refine bp_ ?_; refine blk_far ?_ NB483_502.out _; refine bp_ ?_; refine blk_far ?_ NB483_502.out _; refine bp_ ?_; refine blk_far ?_ NB483_502.out _; refine bp_ ?_; refine blk_far ?_ NB483_502.out _; refine bp_ ?_; refine blk_far ?_ NB483_502.out _; refine bp_ ?_; refine blk_far ?_ NB483_502.out _; exact bk_ BK483.out) hb); replace BK502 := am_ (blk_below (g := gb502) (o := .cells #[.int .i64 0, .int .i64 0, .int .i64 0, .string (⟨#[]⟩ : ByteArray), .slice Ao31 y487.length co31, .slice Ao30 y493.length co30, .slice Ao29 y499.length co29] 46 (0, 0)) (by refine bp_ ?_; refine blk_put (cs := #[.int .i64 0, .int .i64 0, .int .i64 0, .string (⟨#[]⟩ : ByteArray), .slice Ao31 y487.length co31, .slice Ao30 y493.length co30, .slice none 0 0]) ?_ 6 _ rfl; refine bp_ ?_; refine blk_put (cs := #[.int .i64 0, .int .i64 0, .int .i64 0, .string (⟨#[]⟩ : ByteArray), .slice Ao31 y487.length co31, .slice none 0 0, .slice none 0 0]) ?_ 5 _ rfl; refine bp_ ?_; refine blk_put (cs := #[.int .i64 0, .int .i64 0, .int .i64 0, .string (⟨#[]⟩ : ByteArray), .slice none 0 0, .slice none 0 0, .slice none 0 0]) ?_ 4 _ rfl; refine bp_ ?_; refine blk_put (cs := #[.int .i64 0, .int .i64 0, .int .i64 0, .string (⟨#[]⟩ : ByteArray), .slice none 0 0, .slice none 0 0, .slice none 0 0]) ?_ 3 _ rfl; refine bp_ ?_; refine blk_put (cs := #[.int .i64 0, .int .i64 0, .int .i64 0, .string (⟨#[]⟩ : ByteArray), .slice none 0 0, .slice none 0 0, .slice none 0 0]) ?_ 2 _ rfl; refine bp_ ?_; refine blk_put (cs := #[.int .i64 0, .int .i64 0, .int .i64 0, .string (⟨#[]⟩ : ByteArray), .slice none 0 0, .slice none 0 0, .slice none 0 0]) ?_ 1 _ rfl; refine bp_ ?_; refine blk_put (cs := #[.int .i64 0, .int .i64 0, .int .i64 0, .string (⟨#[]⟩ : ByteArray), .slice none 0 0, .slice none 0 0, .slice none 0 0]) ?_ 0 _ rfl; exact bk_ BK502.out) hb); replace HB := bt_ hb; clear hb ho47; have hnb48 := NB502_483.out; have hnc48 := NB483_502.out; obtain ⟨hcz49_0, hcz49_1, hcz49_2, hcz49_3, hcz49_4, hcz49_5, hcz49_6⟩ := cz7_ BK502.out; obtain ⟨hfz49_0, hfz49_1, hfz49_2, hfz49_3, hfz49_4, hfz49_5, hfz49_6⟩ := fz7_ BK502.out) | ((with_reducible refine gate_builtin (b := .append) (xs := #[.tmp 35, .tmp 37]) rfl ?_); at_builtin; refine Kd.R_append_rows (Kd.int .i64) (w0 := w) w.heap.size rfl (.tmp 35) (.tmp 37) 40 3 (.int .i64 0) 8 rfl Try.underlying40 info3 rfl (by decide) (by omega) v505 y504 y493 _ _ _ (fun k_ => some k_ ≠ (.slice Ao31 y487.length co31 : Value).ownBlock ∧ some k_ ≠ (.slice Ao30 y493.length co30 : Value).ownBlock ∧ some k_ ≠ (.slice Ao29 y499.length co29 : Value).ownBlock) (fun _ => False) rfl rfl ?aO ?aR (fun _ _ h => h) (fun _ h => h.elim) ?aF ?aB ?aS ?aL ?_; (case aR => exact ck_ (Kd.R_reads' HO495.out).2.2); (case aB => exact bh_); (case aF => exact (fun k_ hk => ⟨Kd.fresh' (Kd.R_lt (rk_ HO489.out)) k_ hk, Kd.fresh' (Kd.R_lt (rk_ HO495.out)) k_ hk, Kd.fresh' (Kd.R_lt (rk_ HO501.out)) k_ hk⟩)); (case aO => exact (by (with_reducible repeat (first | apply Kd.R_alloc | apply Kd.R_drewN | apply Kd.R_drew)); exact Kd.R_mono HO506.out (fun _ hk => ⟨hk.1.1.2, ⟨hk.1.2, hk.2⟩⟩))); (case aS => exact bz_); (case aL => have := LMc10.out; omega); intro v508 w50 ho hb hg hat; rw [← Ny507.out] at ho; have n0_ := am_ (blk_grown (bk_ BK481.out) hg (Kd.R_ne HO506.out BK481.out (by decide))); have n1_ := am_ (blk_grown (bk_ BK482.out) hg (Kd.R_ne HO506.out BK482.out (by decide))); have n2_ := am_ (blk_grown (bk_ BK483.out) hg (Kd.R_ne HO506.out BK483.out (by decide))); have n3_ := am_ (Kd.R_after (ok := (fun k_ => some k_ ≠ (.slice Ao30 y493.length co30 : Value).ownBlock ∧ some k_ ≠ (.slice Ao29 y499.length co29 : Value).ownBlock)) (rk_ HO489.out) hg hat); have n4_ := am_ (Kd.R_after (ok := (fun k_ => some k_ ≠ (.slice Ao31 y487.length co31 : Value).ownBlock ∧ some k_ ≠ (.slice Ao29 y499.length co29 : Value).ownBlock)) (rk_ HO495.out) hg hat); have n5_ := am_ (Kd.R_after (ok := (fun k_ => some k_ ≠ (.slice Ao31 y487.length co31 : Value).ownBlock ∧ some k_ ≠ (.slice Ao30 y493.length co30 : Value).ownBlock)) (rk_ HO501.out) hg hat); have n6_ := am_ (blk_grown (bk_ BK502.out) hg (Kd.R_ne HO506.out BK502.out (by decide))); have n7_ := am_ (hb); have n8_ := am_ (ho); clear BK481; clear BK482; clear BK483; clear HO489; clear HO495; clear HO501; clear BK502; clear HB; clear HO506; have BK481 := n0_; have BK482 := n1_; have BK483 := n2_; have HO489 := n3_; have HO495 := n4_; have HO501 := n5_; have BK502 := n6_; have HB := n7_; have HO509 := n8_; clear n0_ n1_ n2_ n3_ n4_ n5_ n6_ n7_ n8_; clear ho hb hg hat; obtain ⟨Ao51, co51, eo51⟩ := Kd.R_slice HO509.out; subst eo51; obtain ⟨hcz52_0, hcz52_1, hcz52_2, hcz52_3, hcz52_4, hcz52_5, hcz52_6⟩ := cz7_ BK502.out; obtain ⟨hfz52_0, hfz52_1, hfz52_2, hfz52_3, hfz52_4, hfz52_5, hfz52_6⟩ := fz7_ BK502.out; obtain ⟨hcz53_0, hcz53_1, hcz53_2, hcz53_3, hcz53_4, hcz53_5, hcz53_6⟩ := cz7_ BK483.out; obtain ⟨hfz53_0, hfz53_1, hfz53_2, hfz53_3, hfz53_4, hfz53_5, hfz53_6⟩ := fz7_ BK483.out))
 refine bodyPost_ret (results_cell_row rfl _ _ gb483 46 #[.int .i64 0, .int .i64 0, .int .i64 0, .string (⟨#[]⟩ : ByteArray), .slice Ao31 y487.length co31, .slice Ao51 y507.length co51, .slice Ao29 y499.length co29] (0, 0) _ rfl (by refine bp_ ?_; refine blk_put (cs := #[.int .i64 0, .int .i64 0, .int .i64 0, .string (⟨#[]⟩ : ByteArray), .slice Ao31 y487.length co31, .slice Ao51 y507.length co51, .slice none 0 0]) ?_ 6 _ rfl; refine bp_ ?_; refine blk_put (cs := #[.int .i64 0, .int .i64 0, .int .i64 0, .string (⟨#[]⟩ : ByteArray), .slice Ao31 y487.length co31, .slice none 0 0, .slice none 0 0]) ?_ 5 _ rfl; refine bp_ ?_; refine blk_put (cs := #[.int .i64 0, .int .i64 0, .int .i64 0, .string (⟨#[]⟩ : ByteArray), .slice none 0 0, .slice none 0 0, .slice none 0 0]) ?_ 4 _ rfl; refine bp_ ?_; refine blk_put (cs := #[.int .i64 0, .int .i64 0, .int .i64 0, .string (⟨#[]⟩ : ByteArray), .slice none 0 0, .slice none 0 0, .slice none 0 0]) ?_ 3 _ rfl; refine bp_ ?_; refine blk_put (cs := #[.int .i64 0, .int .i64 0, .int .i64 0, .string (⟨#[]⟩ : ByteArray), .slice none 0 0, .slice none 0 0, .slice none 0 0]) ?_ 2 _ rfl; refine bp_ ?_; refine blk_put (cs := #[.int .i64 0, .int .i64 0, .int .i64 0, .string (⟨#[]⟩ : ByteArray), .slice none 0 0, .slice none 0 0, .slice none 0 0]) ?_ 1 _ rfl; refine bp_ ?_; refine blk_put (cs := #[.int .i64 0, .int .i64 0, .int .i64 0, .string (⟨#[]⟩ : ByteArray), .slice none 0 0, .slice none 0 0, .slice none 0 0]) ?_ 0 _ rfl; refine bp_ ?_; refine blk_far ?_ NB483_502.out _; exact bk_ BK483.out) Try.underlying46 rfl (by kernel_rfl)) rfl ?_
 exact ⟨_, _, _, by first | rfl | (simp [errW_none, errW_some] <;> rfl) | (simp [*, errW_none, errW_some] <;> rfl), by (with_reducible repeat (first | apply Kd.R_alloc | apply Kd.R_drewN | apply Kd.R_drew)); exact Kd.R_mono (Kd.R_far (p := ⟨gb483, 6, none⟩) (Kd.R_far (p := ⟨gb483, 5, none⟩) (Kd.R_far (p := ⟨gb483, 4, none⟩) (Kd.R_far (p := ⟨gb483, 3, none⟩) (Kd.R_far (p := ⟨gb483, 2, none⟩) (Kd.R_far (p := ⟨gb483, 1, none⟩) (Kd.R_far (p := ⟨gb483, 0, none⟩) (Kd.R_far (p := ⟨gb502, 5, none⟩) (Kd.R_types (Kd.R_types HO489.out BK502.out (by decide)) BK483.out (by decide)) (fun _ hk => hk.1.2) (.slice Ao51 y507.length co51)) (fun _ hk => hk.2) (.int .i64 0)) (fun _ hk => hk.2) (.int .i64 0)) (fun _ hk => hk.2) (.int .i64 0)) (fun _ hk => hk.2) (.string (⟨#[]⟩ : ByteArray))) (fun _ hk => hk.2) (.slice Ao31 y487.length co31)) (fun _ hk => hk.2) (.slice Ao51 y507.length co51)) (fun _ hk => hk.2) (.slice Ao29 y499.length co29)) (fun _ hk => ⟨hk.1.1.2, hk.1.1.1.2⟩), by (with_reducible repeat (first | apply Kd.R_alloc | apply Kd.R_drewN | apply Kd.R_drew)); exact Kd.R_mono (Kd.R_far (p := ⟨gb483, 6, none⟩) (Kd.R_far (p := ⟨gb483, 5, none⟩) (Kd.R_far (p := ⟨gb483, 4, none⟩) (Kd.R_far (p := ⟨gb483, 3, none⟩) (Kd.R_far (p := ⟨gb483, 2, none⟩) (Kd.R_far (p := ⟨gb483, 1, none⟩) (Kd.R_far (p := ⟨gb483, 0, none⟩) (Kd.R_far (p := ⟨gb502, 5, none⟩) (Kd.R_types (Kd.R_types HO509.out BK502.out (by decide)) BK483.out (by decide)) (fun _ hk => hk.1.2) (.slice Ao51 y507.length co51)) (fun _ hk => hk.2) (.int .i64 0)) (fun _ hk => hk.2) (.int .i64 0)) (fun _ hk => hk.2) (.int .i64 0)) (fun _ hk => hk.2) (.string (⟨#[]⟩ : ByteArray))) (fun _ hk => hk.2) (.slice Ao31 y487.length co31)) (fun _ hk => hk.2) (.slice Ao51 y507.length co51)) (fun _ hk => hk.2) (.slice Ao29 y499.length co29)) (fun _ hk => ⟨hk.1.1.1, hk.1.1.2.2⟩), by (with_reducible repeat (first | apply Kd.R_alloc | apply Kd.R_drewN | apply Kd.R_drew)); exact Kd.R_mono (Kd.R_far (p := ⟨gb483, 6, none⟩) (Kd.R_far (p := ⟨gb483, 5, none⟩) (Kd.R_far (p := ⟨gb483, 4, none⟩) (Kd.R_far (p := ⟨gb483, 3, none⟩) (Kd.R_far (p := ⟨gb483, 2, none⟩) (Kd.R_far (p := ⟨gb483, 1, none⟩) (Kd.R_far (p := ⟨gb483, 0, none⟩) (Kd.R_far (p := ⟨gb502, 5, none⟩) (Kd.R_types (Kd.R_types HO501.out BK502.out (by decide)) BK483.out (by decide)) (fun _ hk => hk.1.2) (.slice Ao51 y507.length co51)) (fun _ hk => hk.2) (.int .i64 0)) (fun _ hk => hk.2) (.int .i64 0)) (fun _ hk => hk.2) (.int .i64 0)) (fun _ hk => hk.2) (.string (⟨#[]⟩ : ByteArray))) (fun _ hk => hk.2) (.slice Ao31 y487.length co31)) (fun _ hk => hk.2) (.slice Ao51 y507.length co51)) (fun _ hk => hk.2) (.slice Ao29 y499.length co29)) (fun _ hk => ⟨hk.1.1.1.1, hk.1.1.2⟩), bh_⟩
def computuslaw21_OccurrenceMatchesReference.j0 : Nat → Int → Int → Int → Bool → Int → List (S66) → List (S68) → Option (Bool)
 | 0, _, _, _, _, _, _, _ => none
 | k + 1, x1, x2, x3, x27, x517000, x517001, x517002 => if x27 = true then ((computuslaw21_awake.f k).bind fun t520 => (some t520)) else ((computusref19_Of.f k x517000 x517001 x517002 x1 x2).bind fun t521 => (if (t521.length : Int) = 0 then (none) else ((some (([] : List (S44)) : List (S44))).bind fun y524 => (if 0 ≤ (Int.tmod (wrap64 (x3)) (t521.length : Int)) then (if (Int.tmod (wrap64 (x3)) (t521.length : Int)) ≤ (t521.length : Int) then ((some (t521.drop ((Int.tmod (wrap64 (x3)) (t521.length : Int)) : Int).toNat : List (S44))).bind fun y527 => (if y524.length + y527.length < 3518437208883 then ((some (y524 ++ y527 : List (S44))).bind fun y531 => ((some (t521.take ((Int.tmod (wrap64 (x3)) (t521.length : Int)) : Int).toNat : List (S44))).bind fun y534 => (if y531.length + y534.length < 3518437208883 then ((computuslaw21_forward.f k (y531 ++ y534)).bind fun t541 => ((occurrence_Resolve.f x517000 x517001 x517002 t541).bind fun bt544 => ((computusref21_Resolve.f k x517000 x517001 x517002 t521).bind fun bt558 => ((computuslaw21_same.f k bt544.1 bt544.2.1 bt544.2.2.1 bt544.2.2.2.1 bt544.2.2.2.2.1 bt544.2.2.2.2.2.1 bt544.2.2.2.2.2.2 bt558.1 bt558.2.1 bt558.2.2.1 bt558.2.2.2.1 bt558.2.2.2.2.1 bt558.2.2.2.2.2.1 bt558.2.2.2.2.2.2).bind fun t572 => (if t572 = true then ((occurrence_Free.f x517000 x517001 x517002 bt544.1 bt544.2.1 bt544.2.2.1 bt544.2.2.2.1 bt544.2.2.2.2.1 bt544.2.2.2.2.2.1 bt544.2.2.2.2.2.2).bind fun t573 => (if (t573 == (decide (bt558.2.2.1 > x517000))) = true then ((occurrence_Displace.f x517000 x517001 x517002 bt544.1 bt544.2.1 bt544.2.2.1 bt544.2.2.2.1 bt544.2.2.2.2.1 bt544.2.2.2.2.2.1 bt544.2.2.2.2.2.2).bind fun bt574 => ((computusref21_Displace.f x517000 x517001 x517002 bt558.1 bt558.2.1 bt558.2.2.1 bt558.2.2.2.1 bt558.2.2.2.2.1 bt558.2.2.2.2.2.1 bt558.2.2.2.2.2.2).bind fun bt587 => ((computuslaw21_same.f k bt574.1 bt574.2.1 bt574.2.2.1 bt574.2.2.2.1 bt574.2.2.2.2.1 bt574.2.2.2.2.2.1 bt574.2.2.2.2.2.2 bt587.1 bt587.2.1 bt587.2.2.1 bt587.2.2.2.1 bt587.2.2.2.2.1 bt587.2.2.2.2.2.1 bt587.2.2.2.2.2.2).bind fun t600 => (some t600)))) else (none))) else (none)))))) else (none)))) else (none))) else (none)) else (none)))))
def computuslaw21_OccurrenceMatchesReference.f (k : Nat) (a0_0 : Int) (l0_1 : List (S66)) (l0_2 : List (S68)) (a1 : Int) (a2 : Int) (a3 : Int) : Option (Bool) := (computuslaw21_awake.f k).bind fun t517 => (if t517 = true then ((computusref17_Right.f k a0_0 l0_1 l0_2).bind fun t518 => (if t518 = true then ((computusref18_Fails.f k a0_0 l0_1 l0_2 a1 a2).bind fun t519 => (computuslaw21_OccurrenceMatchesReference.j0 k a1 a2 a3 (t519 != 0) a0_0 l0_1 l0_2)) else (computuslaw21_OccurrenceMatchesReference.j0 k a1 a2 a3 true a0_0 l0_1 l0_2))) else (computuslaw21_OccurrenceMatchesReference.j0 k a1 a2 a3 true a0_0 l0_1 l0_2))
def computuslaw21_OccurrenceMatchesReference.T5 : Bool × List (List Nat × List Nat) := (true, [([], []), ([], []), ([], []), ([1, 2], [1, 2]), ([0, 3], [0, 3]), ([], []), ([], []), ([5, 6], [5, 6]), ([4, 7, 4], [4, 7]), ([8, 8, 0, 1, 2, 3, 4, 5, 6, 7, 8], [8])])
def computuslaw21_OccurrenceMatchesReference.B5 : List Nat := [0, 0, 0, 6, 15, 0, 0, 96, 255, 511]
theorem computuslaw21_OccurrenceMatchesReference.tab5 : rtab .any (opsOf Try.f4 5) = computuslaw21_OccurrenceMatchesReference.T5 := by kernel_rfl
theorem computuslaw21_OccurrenceMatchesReference.bits5 : waitsOk computuslaw21_OccurrenceMatchesReference.T5.2 computuslaw21_OccurrenceMatchesReference.B5 = true := by kernel_rfl
def computuslaw21_OccurrenceMatchesReference.T8 : Bool × List (List Nat × List Nat) := (true, [([], []), ([], []), ([0, 1], [0, 1]), ([2, 2], [2]), ([3], [3]), ([3], [3]), ([4, 5, 3, 3], [3, 4, 5]), ([3], [3]), ([7, 3], [3, 7]), ([8, 3], [3, 8]), ([3], [3]), ([10, 3], [3, 10]), ([9, 11, 3], [3, 9, 11]), ([6, 12, 3], [3, 6, 12]), ([3, 13], [3, 13]), ([14, 6], [14]), ([15], [15]), ([15], [15]), ([16, 17, 15, 15], [15, 16, 17]), ([15], [15]), ([15], [15]), ([19, 20, 18, 15], [15, 19, 20]), ([18, 21, 21, 15], [15, 18, 21]), ([15, 22], [15, 22]), ([23, 22, 0, 1, 2, 3, 4, 5, 6, 7, 8, 9, 10, 11, 12, 13, 14, 15, 16, 17, 18, 19, 20, 21, 22, 23], [23])])
def computuslaw21_OccurrenceMatchesReference.B8 : List Nat := [0, 0, 3, 7, 15, 15, 63, 15, 143, 399, 15, 1039, 3983, 8191, 16383, 32767, 65535, 65535, 262143, 65535, 65535, 2097151, 4194303, 8388607, 16777215]
theorem computuslaw21_OccurrenceMatchesReference.tab8 : rtab .any (opsOf Try.f4 8) = computuslaw21_OccurrenceMatchesReference.T8 := by kernel_rfl
theorem computuslaw21_OccurrenceMatchesReference.bits8 : waitsOk computuslaw21_OccurrenceMatchesReference.T8.2 computuslaw21_OccurrenceMatchesReference.B8 = true := by kernel_rfl
theorem computuslaw21_OccurrenceMatchesReference.calls (k : Nat) (a0_0 : Int) (A0_1 : Option Addr) (c0_1 : Nat) (l0_1 : List (S66)) (A0_2 : Option Addr) (c0_2 : Nat) (l0_2 : List (S68)) (a1 : Int) (a2 : Int) (a3 : Int) (r : Bool) (w : World) (hr0_1 : Kd.C k66 w A0_1 l0_1.length l0_1) (hc0_1 : l0_1.length ≤ c0_1) (hr0_2 : Kd.C k68 w A0_2 l0_2.length l0_2) (hc0_2 : l0_2.length ≤ c0_2) (h : computuslaw21_OccurrenceMatchesReference.f k a0_0 l0_1 l0_2 a1 a2 a3 = some r) :
  Calls Try.prog 4 #[.agg #[.int .i64 a0_0, .slice A0_1 l0_1.length c0_1, .slice A0_2 l0_2.length c0_2], .int .i64 a1, .int .i64 a2, .int .u8 a3] w fun e w' => e = .returned (.bool r) ∧ Below w.heap.size w w' := by
 have hu36 := Try.underlying36
 have hu42 := Try.underlying42
 have hu46 := Try.underlying46
 have HR0_1 := am_ hr0_1
 have HC0_1 := am_ hc0_1
 clear hr0_1 hc0_1
 have HR0_2 := am_ hr0_2
 have HC0_2 := am_ hc0_2
 clear hr0_2 hc0_2
 have HB := am_ (Below.refl w.heap.size w)
 have H := h
 clear h
 unfold computuslaw21_OccurrenceMatchesReference.f at H
 have HC5 := am_ H
 clear H
 go_enter Try.func4, Try.ntmps4
 go_upto_region 1 with (first | ((with_reducible refine gate_dst (N := 4) rfl ?_); refine bx_ (w := w) (N := 4) (cs := #[.int .i64 a0_0, .slice A0_1 l0_1.length c0_1, .slice A0_2 l0_2.length c0_2]) (t := 36) ?_; intro gb516 w6 BK516 n0_ GW516 GE516; clear HB; have HB := n0_; clear n0_))
 (try simp only [Act.put, sA_, sZ_, sS_])
 go_cut [27] (fun v27 wc => ∃ (kq : Nat) (x27_4 : Bool), v27 = .bool x27_4 ∧ Aside0 (computuslaw21_OccurrenceMatchesReference.j0 kq a1 a2 a3 x27_4 a0_0 l0_1 l0_2 = some r) ∧ Aside0 (kq ≤ k) ∧ Aside0 (wc.heap[gb516]? = some (.cells #[.int .i64 a0_0, (.slice A0_1 l0_1.length c0_1), (.slice A0_2 l0_2.length c0_2)] 36 (0, 0))) ∧ Aside0 (Below w.heap.size w wc))
 case first =>
  have H := HC5.out
  clear HC5
  obtain ⟨t517, A7, H⟩ := bs_ H
  by_cases c8 : t517 = true
  rotate_left
  ·replace c8 := Bool.eq_false_iff.mpr c8
   subst c8
   replace H := if_ H
   have H' := am_ H
   clear H
   go_wp2_with (first | ((with_reducible refine gate_callee (f := 13) rfl ?_); refine gl_ (some 14) Try.func13 #[] ?_; (with_reducible refine (computuslaw21_awake.calls k  false _ A7.out).mono ?_); rintro e w20 ⟨rfl, hb⟩; refine ⟨_, rfl, ?_⟩; replace BK516 := bw_ BK516 hb; replace HB := bt_ hb; (try clear hb); (try clear hi)))
   go_meet
   case rel => exact ⟨_, (true), rs_, H', ⟨by first | omega | exact Nat.le_refl _⟩, ⟨bk_ BK516.out⟩, ⟨bh_⟩⟩
  subst c8
  replace H := it_ H
  obtain ⟨t518, A9, H⟩ := bs_ H
  by_cases c10 : t518 = true
  rotate_left
  ·replace c10 := Bool.eq_false_iff.mpr c10
   subst c10
   replace H := if_ H
   have H' := am_ H
   clear H
   go_wp2_with (first | ((with_reducible refine gate_callee (f := 13) rfl ?_); refine gl_ (some 14) Try.func13 #[] ?_; (with_reducible refine (computuslaw21_awake.calls k  true _ A7.out).mono ?_); rintro e w17 ⟨rfl, hb⟩; refine ⟨_, rfl, ?_⟩; replace BK516 := bw_ BK516 hb; replace HB := bt_ hb; (try clear hb); obtain ⟨hcz18_0, hcz18_1, hcz18_2⟩ := cz3_ BK516.out; obtain ⟨hfz18_0, hfz18_1, hfz18_2⟩ := fz3_ BK516.out) | (go_at_call 14; (with_reducible refine (computusref17_Right.calls k a0_0 _ _ l0_1 _ _ l0_2 false _ ?side1 ?side2 ?side3 ?side4 A9.out).mono ?_); (case side1 => exact ck_ (Kd.C_below HR0_1.out HB.out)); (case side2 => exact HC0_1.out); (case side3 => exact ck_ (Kd.C_below HR0_2.out HB.out)); (case side4 => exact HC0_2.out); rintro e w19 ⟨rfl, hb⟩; replace BK516 := bw_ BK516 hb; replace HB := bt_ hb; (try clear hb); (try clear hi)))
   go_meet
   case rel => exact ⟨_, (true), rs_, H', ⟨by first | omega | exact Nat.le_refl _⟩, ⟨bk_ BK516.out⟩, ⟨bh_⟩⟩
  subst c10
  replace H := it_ H
  obtain ⟨t519, A11, H⟩ := bs_ H
  have H' := am_ H
  clear H
  go_wp2_with (first | ((with_reducible refine gate_callee (f := 13) rfl ?_); refine gl_ (some 14) Try.func13 #[] ?_; (with_reducible refine (computuslaw21_awake.calls k  true _ A7.out).mono ?_); rintro e w12 ⟨rfl, hb⟩; refine ⟨_, rfl, ?_⟩; replace BK516 := bw_ BK516 hb; replace HB := bt_ hb; (try clear hb); obtain ⟨hcz13_0, hcz13_1, hcz13_2⟩ := cz3_ BK516.out; obtain ⟨hfz13_0, hfz13_1, hfz13_2⟩ := fz3_ BK516.out) | (go_at_call 14; (with_reducible refine (computusref17_Right.calls k a0_0 _ _ l0_1 _ _ l0_2 true _ ?side1 ?side2 ?side3 ?side4 A9.out).mono ?_); (case side1 => exact ck_ (Kd.C_below HR0_1.out HB.out)); (case side2 => exact HC0_1.out); (case side3 => exact ck_ (Kd.C_below HR0_2.out HB.out)); (case side4 => exact HC0_2.out); rintro e w14 ⟨rfl, hb⟩; replace BK516 := bw_ BK516 hb; replace HB := bt_ hb; (try clear hb); obtain ⟨hcz15_0, hcz15_1, hcz15_2⟩ := cz3_ BK516.out; obtain ⟨hfz15_0, hfz15_1, hfz15_2⟩ := fz3_ BK516.out) | (go_at_call 15; (with_reducible refine (computusref18_Fails.calls k a0_0 _ _ l0_1 _ _ l0_2 a1 a2 t519 _ ?side1 ?side2 ?side3 ?side4 A11.out).mono ?_); (case side1 => exact ck_ (Kd.C_below HR0_1.out HB.out)); (case side2 => exact HC0_1.out); (case side3 => exact ck_ (Kd.C_below HR0_2.out HB.out)); (case side4 => exact HC0_2.out); rintro e w16 ⟨rfl, hb⟩; replace BK516 := bw_ BK516 hb; replace HB := bt_ hb; (try clear hb); (try clear hi)))
  go_meet
  case rel => exact ⟨_, ((t519 != 0)), rs_, H', ⟨by first | omega | exact Nat.le_refl _⟩, ⟨bk_ BK516.out⟩, ⟨bh_⟩⟩
 case rest =>
  clear HC5
  obtain ⟨kq, x27_4, rfl, HA, HJ4, BK516, HB⟩ := hcut
  cases kq with
  | zero => exact absurd HA.out (by simp [computuslaw21_OccurrenceMatchesReference.j0])
  | succ kj4 =>
   have H := HA.out
   clear HA
   simp only [computuslaw21_OccurrenceMatchesReference.j0] at H
   by_cases c21 : x27_4 = true
   ·subst c21
    replace H := it_ H
    obtain ⟨t520, A22, H⟩ := bs_ H
    obtain rfl := Option.some.inj H
    go_wp2_with (first | ((with_reducible refine gate_callee (f := 13) rfl ?_); refine gl_ (some 28) Try.func13 #[] ?_; (with_reducible refine (computuslaw21_awake.calls kj4  t520 _ A22.out).mono ?_); rintro e w23 ⟨rfl, hb⟩; refine ⟨_, rfl, ?_⟩; replace BK516 := bw_ BK516 hb; replace HB := bt_ hb; (try clear hb); (try clear hi)))
    all_goals (first | (exfalso; simp_all; done) | (exfalso; simp_all; omega) | (go_ret; exact rt_))
   replace c21 := Bool.eq_false_iff.mpr c21
   subst c21
   replace H := if_ H
   obtain ⟨t521, A24, H⟩ := bs_ H
   by_cases c25 : (t521.length : Int) = 0
   ·rw [if_pos c25] at H
    exact absurd H (by simp)
   rw [if_neg c25] at H
   have c25b0 : ((t521.length : Int) == 0) = false := beq_eq_false_iff_ne.mpr c25
   have c25b1 : ((t521.length : Int) != 0) = true := bne_iff_ne.mpr c25
   have c25b2 : ¬ (t521 = []) := fun h_ => c25 (by rw [h_]; rfl)
   obtain ⟨y524, hy524⟩ : ∃ y_ : List (S44), y_ = (([] : List (S44))) := ⟨_, rfl⟩
   replace H : (if 0 ≤ (Int.tmod (wrap64 (a3)) (t521.length : Int)) then (if (Int.tmod (wrap64 (a3)) (t521.length : Int)) ≤ (t521.length : Int) then ((some (t521.drop ((Int.tmod (wrap64 (a3)) (t521.length : Int)) : Int).toNat : List (S44))).bind fun y527 => (if y524.length + y527.length < 3518437208883 then ((some (y524 ++ y527 : List (S44))).bind fun y531 => ((some (t521.take ((Int.tmod (wrap64 (a3)) (t521.length : Int)) : Int).toNat : List (S44))).bind fun y534 => (if y531.length + y534.length < 3518437208883 then ((computuslaw21_forward.f kj4 (y531 ++ y534)).bind fun t541 => ((occurrence_Resolve.f a0_0 l0_1 l0_2 t541).bind fun bt544 => ((computusref21_Resolve.f kj4 a0_0 l0_1 l0_2 t521).bind fun bt558 => ((computuslaw21_same.f kj4 bt544.1 bt544.2.1 bt544.2.2.1 bt544.2.2.2.1 bt544.2.2.2.2.1 bt544.2.2.2.2.2.1 bt544.2.2.2.2.2.2 bt558.1 bt558.2.1 bt558.2.2.1 bt558.2.2.2.1 bt558.2.2.2.2.1 bt558.2.2.2.2.2.1 bt558.2.2.2.2.2.2).bind fun t572 => (if t572 = true then ((occurrence_Free.f a0_0 l0_1 l0_2 bt544.1 bt544.2.1 bt544.2.2.1 bt544.2.2.2.1 bt544.2.2.2.2.1 bt544.2.2.2.2.2.1 bt544.2.2.2.2.2.2).bind fun t573 => (if (t573 == (decide (bt558.2.2.1 > a0_0))) = true then ((occurrence_Displace.f a0_0 l0_1 l0_2 bt544.1 bt544.2.1 bt544.2.2.1 bt544.2.2.2.1 bt544.2.2.2.2.1 bt544.2.2.2.2.2.1 bt544.2.2.2.2.2.2).bind fun bt574 => ((computusref21_Displace.f a0_0 l0_1 l0_2 bt558.1 bt558.2.1 bt558.2.2.1 bt558.2.2.2.1 bt558.2.2.2.2.1 bt558.2.2.2.2.2.1 bt558.2.2.2.2.2.2).bind fun bt587 => ((computuslaw21_same.f kj4 bt574.1 bt574.2.1 bt574.2.2.1 bt574.2.2.2.1 bt574.2.2.2.2.1 bt574.2.2.2.2.2.1 bt574.2.2.2.2.2.2 bt587.1 bt587.2.1 bt587.2.2.1 bt587.2.2.2.1 bt587.2.2.2.2.1 bt587.2.2.2.2.2.1 bt587.2.2.2.2.2.2).bind fun t600 => (some t600)))) else (none))) else (none)))))) else (none)))) else (none))) else (none)) else (none)) = some r := by first | (rw [hy524]; with_reducible exact H) | (have H2_ := (Option.bind_some _ _).symm.trans H; rw [hy524]; with_reducible exact H2_) | (have H2_ := (Option.bind_some _ _).symm.trans H; with_reducible exact H2_) | with_reducible exact H | (rw [hy524]; exact H) | exact H
   have Ny524 := am_ hy524
   clear hy524
   obtain ⟨ji26, hji26⟩ : ∃ j_ : Int, (Int.tmod (wrap64 (a3)) (t521.length : Int)) = j_ := ⟨_, rfl⟩
   replace H : (if 0 ≤ (ji26) then (if (ji26) ≤ (t521.length : Int) then ((some (t521.drop ((ji26) : Int).toNat : List (S44))).bind fun y527 => (if y524.length + y527.length < 3518437208883 then ((some (y524 ++ y527 : List (S44))).bind fun y531 => ((some (t521.take ((ji26) : Int).toNat : List (S44))).bind fun y534 => (if y531.length + y534.length < 3518437208883 then ((computuslaw21_forward.f kj4 (y531 ++ y534)).bind fun t541 => ((occurrence_Resolve.f a0_0 l0_1 l0_2 t541).bind fun bt544 => ((computusref21_Resolve.f kj4 a0_0 l0_1 l0_2 t521).bind fun bt558 => ((computuslaw21_same.f kj4 bt544.1 bt544.2.1 bt544.2.2.1 bt544.2.2.2.1 bt544.2.2.2.2.1 bt544.2.2.2.2.2.1 bt544.2.2.2.2.2.2 bt558.1 bt558.2.1 bt558.2.2.1 bt558.2.2.2.1 bt558.2.2.2.2.1 bt558.2.2.2.2.2.1 bt558.2.2.2.2.2.2).bind fun t572 => (if t572 = true then ((occurrence_Free.f a0_0 l0_1 l0_2 bt544.1 bt544.2.1 bt544.2.2.1 bt544.2.2.2.1 bt544.2.2.2.2.1 bt544.2.2.2.2.2.1 bt544.2.2.2.2.2.2).bind fun t573 => (if (t573 == (decide (bt558.2.2.1 > a0_0))) = true then ((occurrence_Displace.f a0_0 l0_1 l0_2 bt544.1 bt544.2.1 bt544.2.2.1 bt544.2.2.2.1 bt544.2.2.2.2.1 bt544.2.2.2.2.2.1 bt544.2.2.2.2.2.2).bind fun bt574 => ((computusref21_Displace.f a0_0 l0_1 l0_2 bt558.1 bt558.2.1 bt558.2.2.1 bt558.2.2.2.1 bt558.2.2.2.2.1 bt558.2.2.2.2.2.1 bt558.2.2.2.2.2.2).bind fun bt587 => ((computuslaw21_same.f kj4 bt574.1 bt574.2.1 bt574.2.2.1 bt574.2.2.2.1 bt574.2.2.2.2.1 bt574.2.2.2.2.2.1 bt574.2.2.2.2.2.2 bt587.1 bt587.2.1 bt587.2.2.1 bt587.2.2.2.1 bt587.2.2.2.2.1 bt587.2.2.2.2.2.1 bt587.2.2.2.2.2.2).bind fun t600 => (some t600)))) else (none))) else (none)))))) else (none)))) else (none))) else (none)) else (none)) = some r := by first | (rw [hji26] at H; exact H) | (simp only [hji26] at H ⊢; exact H)
   (try rw [hji26] at A24)
   by_cases c27 : 0 ≤ (ji26)
   rotate_left
   ·rw [if_neg c27] at H
    exact absurd H (by simp)
   rw [if_pos c27] at H
   have c27b0 := eq_true c27
   have c27b1 : decide (0 ≤ (ji26)) = true := decide_eq_true c27
   clear c27
   by_cases c28 : (ji26) ≤ (t521.length : Int)
   rotate_left
   ·rw [if_neg c28] at H
    exact absurd H (by simp)
   rw [if_pos c28] at H
   have c28b0 := eq_true c28
   have c28b1 : decide ((ji26) ≤ (t521.length : Int)) = true := decide_eq_true c28
   clear c28
   obtain ⟨y527, hy527⟩ : ∃ y_ : List (S44), y_ = (t521.drop ((ji26) : Int).toNat) := ⟨_, rfl⟩
   replace H : (if y524.length + y527.length < 3518437208883 then ((some (y524 ++ y527 : List (S44))).bind fun y531 => ((some (t521.take ((ji26) : Int).toNat : List (S44))).bind fun y534 => (if y531.length + y534.length < 3518437208883 then ((computuslaw21_forward.f kj4 (y531 ++ y534)).bind fun t541 => ((occurrence_Resolve.f a0_0 l0_1 l0_2 t541).bind fun bt544 => ((computusref21_Resolve.f kj4 a0_0 l0_1 l0_2 t521).bind fun bt558 => ((computuslaw21_same.f kj4 bt544.1 bt544.2.1 bt544.2.2.1 bt544.2.2.2.1 bt544.2.2.2.2.1 bt544.2.2.2.2.2.1 bt544.2.2.2.2.2.2 bt558.1 bt558.2.1 bt558.2.2.1 bt558.2.2.2.1 bt558.2.2.2.2.1 bt558.2.2.2.2.2.1 bt558.2.2.2.2.2.2).bind fun t572 => (if t572 = true then ((occurrence_Free.f a0_0 l0_1 l0_2 bt544.1 bt544.2.1 bt544.2.2.1 bt544.2.2.2.1 bt544.2.2.2.2.1 bt544.2.2.2.2.2.1 bt544.2.2.2.2.2.2).bind fun t573 => (if (t573 == (decide (bt558.2.2.1 > a0_0))) = true then ((occurrence_Displace.f a0_0 l0_1 l0_2 bt544.1 bt544.2.1 bt544.2.2.1 bt544.2.2.2.1 bt544.2.2.2.2.1 bt544.2.2.2.2.2.1 bt544.2.2.2.2.2.2).bind fun bt574 => ((computusref21_Displace.f a0_0 l0_1 l0_2 bt558.1 bt558.2.1 bt558.2.2.1 bt558.2.2.2.1 bt558.2.2.2.2.1 bt558.2.2.2.2.2.1 bt558.2.2.2.2.2.2).bind fun bt587 => ((computuslaw21_same.f kj4 bt574.1 bt574.2.1 bt574.2.2.1 bt574.2.2.2.1 bt574.2.2.2.2.1 bt574.2.2.2.2.2.1 bt574.2.2.2.2.2.2 bt587.1 bt587.2.1 bt587.2.2.1 bt587.2.2.2.1 bt587.2.2.2.2.1 bt587.2.2.2.2.2.1 bt587.2.2.2.2.2.2).bind fun t600 => (some t600)))) else (none))) else (none)))))) else (none)))) else (none)) = some r := by first | (rw [hy527]; with_reducible exact H) | (have H2_ := (Option.bind_some _ _).symm.trans H; rw [hy527]; with_reducible exact H2_) | (have H2_ := (Option.bind_some _ _).symm.trans H; with_reducible exact H2_) | with_reducible exact H | (rw [hy527]; exact H) | exact H
   have Ny527 := am_ hy527
   clear hy527
   by_cases c29 : y524.length + y527.length < 3518437208883
   rotate_left
   ·rw [if_neg c29] at H
    exact absurd H (by simp)
   rw [if_pos c29] at H
   have LMc29 := am_ c29
   clear c29
   obtain ⟨y531, hy531⟩ : ∃ y_ : List (S44), y_ = (y524 ++ y527) := ⟨_, rfl⟩
   replace H : ((some (t521.take ((ji26) : Int).toNat : List (S44))).bind fun y534 => (if y531.length + y534.length < 3518437208883 then ((computuslaw21_forward.f kj4 (y531 ++ y534)).bind fun t541 => ((occurrence_Resolve.f a0_0 l0_1 l0_2 t541).bind fun bt544 => ((computusref21_Resolve.f kj4 a0_0 l0_1 l0_2 t521).bind fun bt558 => ((computuslaw21_same.f kj4 bt544.1 bt544.2.1 bt544.2.2.1 bt544.2.2.2.1 bt544.2.2.2.2.1 bt544.2.2.2.2.2.1 bt544.2.2.2.2.2.2 bt558.1 bt558.2.1 bt558.2.2.1 bt558.2.2.2.1 bt558.2.2.2.2.1 bt558.2.2.2.2.2.1 bt558.2.2.2.2.2.2).bind fun t572 => (if t572 = true then ((occurrence_Free.f a0_0 l0_1 l0_2 bt544.1 bt544.2.1 bt544.2.2.1 bt544.2.2.2.1 bt544.2.2.2.2.1 bt544.2.2.2.2.2.1 bt544.2.2.2.2.2.2).bind fun t573 => (if (t573 == (decide (bt558.2.2.1 > a0_0))) = true then ((occurrence_Displace.f a0_0 l0_1 l0_2 bt544.1 bt544.2.1 bt544.2.2.1 bt544.2.2.2.1 bt544.2.2.2.2.1 bt544.2.2.2.2.2.1 bt544.2.2.2.2.2.2).bind fun bt574 => ((computusref21_Displace.f a0_0 l0_1 l0_2 bt558.1 bt558.2.1 bt558.2.2.1 bt558.2.2.2.1 bt558.2.2.2.2.1 bt558.2.2.2.2.2.1 bt558.2.2.2.2.2.2).bind fun bt587 => ((computuslaw21_same.f kj4 bt574.1 bt574.2.1 bt574.2.2.1 bt574.2.2.2.1 bt574.2.2.2.2.1 bt574.2.2.2.2.2.1 bt574.2.2.2.2.2.2 bt587.1 bt587.2.1 bt587.2.2.1 bt587.2.2.2.1 bt587.2.2.2.2.1 bt587.2.2.2.2.2.1 bt587.2.2.2.2.2.2).bind fun t600 => (some t600)))) else (none))) else (none)))))) else (none))) = some r := by first | (rw [hy531]; with_reducible exact H) | (have H2_ := (Option.bind_some _ _).symm.trans H; rw [hy531]; with_reducible exact H2_) | (have H2_ := (Option.bind_some _ _).symm.trans H; with_reducible exact H2_) | with_reducible exact H | (rw [hy531]; exact H) | exact H
   have Ny531 := am_ hy531
   clear hy531
   have c30b0 := eq_true (of_decide_eq_true as_ : 0 ≤ (ji26))
   have c31b0 := eq_true (of_decide_eq_true as_ : (ji26) ≤ (t521.length : Int))
   obtain ⟨y534, hy534⟩ : ∃ y_ : List (S44), y_ = (t521.take ((ji26) : Int).toNat) := ⟨_, rfl⟩
   replace H : (if y531.length + y534.length < 3518437208883 then ((computuslaw21_forward.f kj4 (y531 ++ y534)).bind fun t541 => ((occurrence_Resolve.f a0_0 l0_1 l0_2 t541).bind fun bt544 => ((computusref21_Resolve.f kj4 a0_0 l0_1 l0_2 t521).bind fun bt558 => ((computuslaw21_same.f kj4 bt544.1 bt544.2.1 bt544.2.2.1 bt544.2.2.2.1 bt544.2.2.2.2.1 bt544.2.2.2.2.2.1 bt544.2.2.2.2.2.2 bt558.1 bt558.2.1 bt558.2.2.1 bt558.2.2.2.1 bt558.2.2.2.2.1 bt558.2.2.2.2.2.1 bt558.2.2.2.2.2.2).bind fun t572 => (if t572 = true then ((occurrence_Free.f a0_0 l0_1 l0_2 bt544.1 bt544.2.1 bt544.2.2.1 bt544.2.2.2.1 bt544.2.2.2.2.1 bt544.2.2.2.2.2.1 bt544.2.2.2.2.2.2).bind fun t573 => (if (t573 == (decide (bt558.2.2.1 > a0_0))) = true then ((occurrence_Displace.f a0_0 l0_1 l0_2 bt544.1 bt544.2.1 bt544.2.2.1 bt544.2.2.2.1 bt544.2.2.2.2.1 bt544.2.2.2.2.2.1 bt544.2.2.2.2.2.2).bind fun bt574 => ((computusref21_Displace.f a0_0 l0_1 l0_2 bt558.1 bt558.2.1 bt558.2.2.1 bt558.2.2.2.1 bt558.2.2.2.2.1 bt558.2.2.2.2.2.1 bt558.2.2.2.2.2.2).bind fun bt587 => ((computuslaw21_same.f kj4 bt574.1 bt574.2.1 bt574.2.2.1 bt574.2.2.2.1 bt574.2.2.2.2.1 bt574.2.2.2.2.2.1 bt574.2.2.2.2.2.2 bt587.1 bt587.2.1 bt587.2.2.1 bt587.2.2.2.1 bt587.2.2.2.2.1 bt587.2.2.2.2.2.1 bt587.2.2.2.2.2.2).bind fun t600 => (some t600)))) else (none))) else (none)))))) else (none)) = some r := by first | (rw [hy534]; with_reducible exact H) | (have H2_ := (Option.bind_some _ _).symm.trans H; rw [hy534]; with_reducible exact H2_) | (have H2_ := (Option.bind_some _ _).symm.trans H; with_reducible exact H2_) | with_reducible exact H | (rw [hy534]; exact H) | exact H
   have Ny534 := am_ hy534
   clear hy534
   by_cases c32 : y531.length + y534.length < 3518437208883
   rotate_left
   ·rw [if_neg c32] at H
    exact absurd H (by simp)
   rw [if_pos c32] at H
   have LMc32 := am_ c32
   clear c32
   obtain ⟨y538, hy538⟩ : ∃ y_ : List (S44), y_ = (y531 ++ y534) := ⟨_, rfl⟩
   replace H : ((computuslaw21_forward.f kj4 y538).bind fun t541 => ((occurrence_Resolve.f a0_0 l0_1 l0_2 t541).bind fun bt544 => ((computusref21_Resolve.f kj4 a0_0 l0_1 l0_2 t521).bind fun bt558 => ((computuslaw21_same.f kj4 bt544.1 bt544.2.1 bt544.2.2.1 bt544.2.2.2.1 bt544.2.2.2.2.1 bt544.2.2.2.2.2.1 bt544.2.2.2.2.2.2 bt558.1 bt558.2.1 bt558.2.2.1 bt558.2.2.2.1 bt558.2.2.2.2.1 bt558.2.2.2.2.2.1 bt558.2.2.2.2.2.2).bind fun t572 => (if t572 = true then ((occurrence_Free.f a0_0 l0_1 l0_2 bt544.1 bt544.2.1 bt544.2.2.1 bt544.2.2.2.1 bt544.2.2.2.2.1 bt544.2.2.2.2.2.1 bt544.2.2.2.2.2.2).bind fun t573 => (if (t573 == (decide (bt558.2.2.1 > a0_0))) = true then ((occurrence_Displace.f a0_0 l0_1 l0_2 bt544.1 bt544.2.1 bt544.2.2.1 bt544.2.2.2.1 bt544.2.2.2.2.1 bt544.2.2.2.2.2.1 bt544.2.2.2.2.2.2).bind fun bt574 => ((computusref21_Displace.f a0_0 l0_1 l0_2 bt558.1 bt558.2.1 bt558.2.2.1 bt558.2.2.2.1 bt558.2.2.2.2.1 bt558.2.2.2.2.2.1 bt558.2.2.2.2.2.2).bind fun bt587 => ((computuslaw21_same.f kj4 bt574.1 bt574.2.1 bt574.2.2.1 bt574.2.2.2.1 bt574.2.2.2.2.1 bt574.2.2.2.2.2.1 bt574.2.2.2.2.2.2 bt587.1 bt587.2.1 bt587.2.2.1 bt587.2.2.2.1 bt587.2.2.2.2.1 bt587.2.2.2.2.2.1 bt587.2.2.2.2.2.2).bind fun t600 => (some t600)))) else (none))) else (none)))))) = some r := by first | (rw [hy538]; with_reducible exact H) | (have H2_ := (Option.bind_some _ _).symm.trans H; rw [hy538]; with_reducible exact H2_) | (have H2_ := (Option.bind_some _ _).symm.trans H; with_reducible exact H2_) | with_reducible exact H | (rw [hy538]; exact H) | exact H
   have Ny538 := am_ hy538
   clear hy538
   obtain ⟨t541, A33, H⟩ := bs_ H
   obtain ⟨⟨t544, t545, t546, t547, t548, t551, t554⟩, A34, H⟩ := bs_ H
   dsimp only at H
   obtain ⟨⟨t558, t559, t560, t561, t562, t565, t568⟩, A35, H⟩ := bs_ H
   dsimp only at H
   obtain ⟨t572, A36, H⟩ := bs_ H
   by_cases c37 : t572 = true
   rotate_left
   ·replace c37 := Bool.eq_false_iff.mpr c37
    subst c37
    replace H := if_ H
    exact absurd H (by simp)
   subst c37
   replace H := it_ H
   obtain ⟨t573, A38, H⟩ := bs_ H
   by_cases c39 : (t573 == (decide (t560 > a0_0))) = true
   rotate_left
   ·rw [if_neg c39] at H
    exact absurd H (by simp)
   rw [if_pos c39] at H
   have c39b0 : (t573 == (decide (t560 > a0_0))) = true := c39
   (try (have c39b1 : decide (t573 = (decide (t560 > a0_0))) = true := by simpa using c39))
   (try (have c39b2 : (t573 == (decide (t560 > a0_0))) = true := by simpa using c39))
   clear c39
   obtain ⟨⟨t574, t575, t576, t577, t578, t581, t584⟩, A40, H⟩ := bs_ H
   dsimp only at H
   obtain ⟨⟨t587, t588, t589, t590, t591, t594, t597⟩, A41, H⟩ := bs_ H
   dsimp only at H
   obtain ⟨t600, A42, H⟩ := bs_ H
   obtain rfl := Option.some.inj H
   obtain ⟨hcz43_0, hcz43_1, hcz43_2⟩ := cz3_ BK516.out
   obtain ⟨hfz43_0, hfz43_1, hfz43_2⟩ := fz3_ BK516.out
   try go_wp2_with (first | ((with_reducible refine gate_callee (f := 16) rfl ?_); refine gl_ (some 32) Try.func16 #[.agg #[.int .i64 a0_0, .slice A0_1 l0_1.length c0_1, .slice A0_2 l0_2.length c0_2], .int .i64 a1, .int .i64 a2] ?_; (with_reducible refine (computusref19_Of.calls kj4 a0_0 _ _ l0_1 _ _ l0_2 a1 a2 t521 _ ?side1 ?side2 ?side3 ?side4 A24.out).mono ?_); (case side1 => exact ck_ (Kd.C_below HR0_1.out HB.out)); (case side2 => exact HC0_1.out); (case side3 => exact ck_ (Kd.C_below HR0_2.out HB.out)); (case side4 => exact HC0_2.out); rintro e w44 ⟨v522, rfl, ho0, hb⟩; refine ⟨_, rfl, ?_⟩; have HO523 := am_ (Kd.R_lower ho0 bz_); replace BK516 := bw_ BK516 hb; replace HB := bt_ hb; (try clear hb); (try clear ho0); obtain ⟨Ao45, co45, eo45⟩ := Kd.R_slice HO523.out; subst eo45))
   replace HO523 := am_ (Kd.R_drew HO523.out)
   replace BK516 := am_ (blk_drew BK516.out)
   replace HB := am_ (below_drew1 HB.out)
   have q47 : ((ji26) : Int) ≤ ((t521.length : Int) : Int) := of_decide_eq_true as_
   obtain ⟨i047, hi047, _, hsz47, _⟩ := info_parts info44
   have hroom47 : t521.length ≤ co45 := (Kd.R_reads' HO523.out).2.1
   have hC47 : Kd.C k44 _ Ao45 t521.length t521 := (Kd.R_reads' HO523.out).2.2
   have q047 : (0 : Int) ≤ ((ji26) : Int) := of_decide_eq_true as_
   have hcut47 := cut_from (P := Try.prog) 22 44 .i64 Try.underlying22 hi047 4 hsz47 Ao45 t521.length co45 (ji26) q047 q47
   have hr47 := Kd.C_drop (m := ((ji26) : Int).toNat) (c := co45) hC47 (by omega) hroom47
   obtain ⟨A47, hA47⟩ : ∃ A1, A1 = (if co45 = ((ji26) : Int).toNat then Ao45 else (Ao45 : Option Addr).map (·.add (((ji26) : Int).toNat * 4))) := ⟨_, rfl⟩
   obtain ⟨c47, hc47⟩ : ∃ c1, c1 = co45 - ((ji26) : Int).toNat := ⟨_, rfl⟩
   have hy47 : y527.length = t521.length - ((ji26) : Int).toNat := (by rw [Ny527.out, List.length_drop] <;> omega)
   rw [show (t521).drop ((ji26) : Int).toNat = y527 from Ny527.out.symm] at hr47
   replace hr47 : Kd.C k44 _ A47 y527.length y527 := (by rw [hA47]; exact hr47)
   rw [← hy47, ← hA47, ← hc47] at hcut47
   have HR530 := am_ hr47
   have HC530 := am_ (show y527.length ≤ c47 from by rw [hy47, hc47]; exact Nat.sub_le_sub_right hroom47 _)
   clear hr47 hC47 hroom47 hi047 hsz47 hc47
   have KY47 := am_ hy47
   have KA47 := am_ hA47
   clear hy47 hA47
   have KL47 := am_ (show ((ji26) : Int).toNat ≤ t521.length from by omega)
   replace q47 := eq_true q47
   have q48 : ((ji26) : Int) ≤ ((t521.length : Int) : Int) := of_decide_eq_true as_
   obtain ⟨i048, hi048, _, hsz48, _⟩ := info_parts info44
   have hroom48 : t521.length ≤ co45 := (Kd.R_reads' HO523.out).2.1
   have hC48 : Kd.C k44 _ Ao45 t521.length t521 := (Kd.R_reads' HO523.out).2.2
   have hcut48 := cut_to (P := Try.prog) 22 44 .i64 Try.underlying22 hi048 Ao45 t521.length co45 (ji26) (of_decide_eq_true as_) q48 hroom48
   have hr48 := Kd.C_take (m := ((ji26) : Int).toNat) hC48 (by omega)
   have hy48 : y534.length = ((ji26) : Int).toNat := (by rw [Ny534.out, List.length_take]; omega)
   rw [← Ny534.out] at hr48
   rw [← hy48] at hcut48
   have HR537 := am_ hr48
   have HC537 := am_ (show y534.length ≤ co45 from by omega)
   clear hr48 hC48 hroom48 hi048 hsz48
   have KY48 := am_ hy48
   clear hy48
   have KL48 := am_ (show ((ji26) : Int).toNat ≤ t521.length from by omega)
   replace q48 := eq_true q48
   refine start_ (n := 10) (S := fun w' => True) (ds := []) (bf_ 10 0) (by kernel_rfl) rfl rfl trivial (fun hHeld => ?_); refine with_tabW computuslaw21_OccurrenceMatchesReference.tab5 computuslaw21_OccurrenceMatchesReference.bits5 (fun HT_ HW_ => ?_)
   generalize w44.drew = w46 at HO523 BK516 HB HR530 HR537 hHeld ⊢
   refine pu_ 1 (some 39) (bf_ 10 2) HT_.out ?_
   refine pu_ 2 (some 40) (bf_ 10 6) HT_.out ?_
   refine pu_ 3 (some 41) (bf_ 10 14) HT_.out ?_
   refine pu_ 5 (some 43) (bf_ 10 46) HT_.out ?_
   refine pu_ 6 (some 44) (bf_ 10 110) HT_.out ?_
   refine pu_ 7 (some 45) (bf_ 10 238) HT_.out ?_
   refine one_ (i := 0) (N := some 38) (bf_ 10 239) rfl rfl (one_of HT_.out (by kernel_rfl)) (by decide) (fun K hK => ?_)
   refine Kd.R_lit_step k44 _ 44 ?hg (N := 38) ?hd (xs := ([] : List (S44))) (inner := []) (ok := fun _ => True) (okp := fun _ => True) ?hr ?hp (fun _ hk => hk) trivial (Below.refl _ _) (Nat.le_refl _) (by simp) ?_; (case hd => rfl); (case hg => rfl); (case hr => first | (go_simp; done) | (go_simp; rfl)); (case hp => exact (Reps.none _ _))
   intro v525 w49 ho50 hb hg_ hnew_
   clear hg_ hnew_
   (first | rw [← Ny524.out] at ho50 | (simp only [Int.reduceToNat] at ho50; rw [← Ny524.out] at ho50))
   have HO526 := am_ (Kd.R_lower (Kd.R_new' ho50 (Kd.R_lt (rk_ HO523.out))) bz_)
   replace HO523 := am_ (Kd.R_elder' (rk_ HO523.out) (Kd.R_base ho50) hb)
   replace BK516 := bw_ BK516 hb
   replace HR530 := am_ (Kd.C_below (by repeat (first | (with_reducible exact HR530.out) | (with_reducible refine Kd.C_alloc ?_ _) | (with_reducible refine Kd.C_drewN ?_ _) | (with_reducible refine Kd.C_drew ?_) | exact HR530.out)) hb)
   replace HR537 := am_ (Kd.C_below (by repeat (first | (with_reducible exact HR537.out) | (with_reducible refine Kd.C_alloc ?_ _) | (with_reducible refine Kd.C_drewN ?_ _) | (with_reducible refine Kd.C_drew ?_) | exact HR537.out)) hb)
   replace HB := bt_ hb
   clear hb ho50
   refine hK.out _ _ trivial (fun hHeld => ?_)
   clear hK K
   refine norm_ (a' := ?_) ?_ ?_
   rotate_left
   ·show Act.put _ (some 38) _ = _
    simp only [Act.put, sA_, sZ_, sS_, i64_w, i32_w]
    rfl
   refine one_ (i := 4) (N := some 42) (bf_ 10 255) rfl rfl (one_of HT_.out (by kernel_rfl)) (by decide) (fun K hK => ?_)
   refine Kd.R_append_rows_step k44 (w0 := w) w.heap.size (by rfl) (.tmp 38) (.tmp 41) 22 44 (.agg #[(.int .i64 0), (.int .i64 0), (.int .i64 0), (.string ⟨#[]⟩)]) 40 rfl Try.underlying22 info44 rfl (by decide) (by omega) v525 y524 y527 _ _ _ (fun k_ => some k_ ≠ (.slice Ao45 t521.length co45 : Value).ownBlock) (fun _ => False) rfl rfl ?aO ?aR (fun _ _ h => h) (fun _ h => h.elim) ?aF ?aB ?aS ?aL ?_
   (case aR => repeat (first | exact (by repeat (first | (with_reducible exact HR530.out) | (with_reducible refine Kd.C_alloc ?_ _) | (with_reducible refine Kd.C_drewN ?_ _) | (with_reducible refine Kd.C_drew ?_) | exact HR530.out)) | (with_reducible refine Kd.C_alloc ?_ _) | (with_reducible refine Kd.C_drewN ?_ _) | (with_reducible refine Kd.C_drew ?_)))
   (case aB => exact bh_)
   (case aF => exact (fun k_ hk => Kd.fresh' (Kd.R_lt (rk_ HO523.out)) k_ hk))
   (case aO => exact (by (with_reducible repeat (first | apply Kd.R_alloc | apply Kd.R_drewN | apply Kd.R_drew)); exact Kd.R_mono HO526.out (fun _ hk => hk.2)))
   (case aS => exact bz_)
   (case aL => have := LMc29.out; omega)
   intro v532 w51 ho hb hg hat
   rw [← Ny531.out] at ho
   have n0_ := am_ (blk_grown (bk_ BK516.out) hg (Kd.R_ne HO526.out BK516.out (by decide)))
   have n1_ := am_ (Kd.R_after (ok := (fun _ => True)) (rk_ HO523.out) hg hat)
   have n2_ := am_ (hb)
   have n3_ := am_ ((show Kd.C k44 w51 A47 y527.length y527 from by rw [Ny527.out, KA47.out]; exact Kd.C_drop (m := ((ji26) : Int).toNat) (c := co45) ((Kd.R_reads' (Kd.R_after (ok := (fun _ => True)) (rk_ HO523.out) hg hat)).2.2) KL47.out ((Kd.R_reads' (Kd.R_after (ok := (fun _ => True)) (rk_ HO523.out) hg hat)).2.1)))
   have n4_ := am_ ((show Kd.C k44 w51 Ao45 y534.length y534 from by rw [Ny534.out]; exact Kd.C_take (m := ((ji26) : Int).toNat) ((Kd.R_reads' (Kd.R_after (ok := (fun _ => True)) (rk_ HO523.out) hg hat)).2.2) KL48.out))
   have n5_ := am_ (ho)
   clear BK516
   clear HO523
   clear HB
   clear HR530
   clear HR537
   clear HO526
   have BK516 := n0_
   have HO523 := n1_
   have HB := n2_
   have HR530 := n3_
   have HR537 := n4_
   have HO533 := n5_
   clear n0_ n1_ n2_ n3_ n4_ n5_
   clear ho hb hg hat
   refine hK.out _ _ trivial (fun hHeld => ?_)
   clear hK K
   refine norm_ (a' := ?_) ?_ ?_
   rotate_left
   ·show Act.put _ (some 42) _ = _
    simp only [Act.put, sA_, sZ_, sS_, i64_w, i32_w]
    rfl
   refine one_ (i := 8) (N := some 46) (bf_ 10 511) rfl rfl (one_of HT_.out (by kernel_rfl)) (by decide) (fun K hK => ?_)
   refine Kd.R_append_rows_step k44 (w0 := w) w.heap.size (by rfl) (.tmp 42) (.tmp 45) 22 44 (.agg #[(.int .i64 0), (.int .i64 0), (.int .i64 0), (.string ⟨#[]⟩)]) 40 rfl Try.underlying22 info44 rfl (by decide) (by omega) v532 y531 y534 _ _ _ (fun k_ => some k_ ≠ (.slice Ao45 t521.length co45 : Value).ownBlock) (fun _ => False) rfl rfl ?aO ?aR (fun _ _ h => h) (fun _ h => h.elim) ?aF ?aB ?aS ?aL ?_
   (case aR => repeat (first | exact (by repeat (first | (with_reducible exact HR537.out) | (with_reducible refine Kd.C_alloc ?_ _) | (with_reducible refine Kd.C_drewN ?_ _) | (with_reducible refine Kd.C_drew ?_) | exact HR537.out)) | (with_reducible refine Kd.C_alloc ?_ _) | (with_reducible refine Kd.C_drewN ?_ _) | (with_reducible refine Kd.C_drew ?_)))
   (case aB => exact bh_)
   (case aF => exact (fun k_ hk => Kd.fresh' (Kd.R_lt (rk_ HO523.out)) k_ hk))
   (case aO => exact (rk_ HO533.out))
   (case aS => exact bz_)
   (case aL => have := LMc32.out; omega)
   intro v539 w52 ho hb hg hat
   rw [← Ny538.out] at ho
   have n0_ := am_ (blk_grown (bk_ BK516.out) hg (Kd.R_ne HO533.out BK516.out (by decide)))
   have n1_ := am_ (Kd.R_after (ok := (fun _ => True)) (rk_ HO523.out) hg hat)
   have n2_ := am_ (hb)
   have n3_ := am_ ((show Kd.C k44 w52 A47 y527.length y527 from by rw [Ny527.out, KA47.out]; exact Kd.C_drop (m := ((ji26) : Int).toNat) (c := co45) ((Kd.R_reads' (Kd.R_after (ok := (fun _ => True)) (rk_ HO523.out) hg hat)).2.2) KL47.out ((Kd.R_reads' (Kd.R_after (ok := (fun _ => True)) (rk_ HO523.out) hg hat)).2.1)))
   have n4_ := am_ ((show Kd.C k44 w52 Ao45 y534.length y534 from by rw [Ny534.out]; exact Kd.C_take (m := ((ji26) : Int).toNat) ((Kd.R_reads' (Kd.R_after (ok := (fun _ => True)) (rk_ HO523.out) hg hat)).2.2) KL48.out))
   have n5_ := am_ (ho)
   clear BK516
   clear HO523
   clear HB
   clear HR530
   clear HR537
   clear HO533
   have BK516 := n0_
   have HO523 := n1_
   have HB := n2_
   have HR530 := n3_
   have HR537 := n4_
   have HO540 := n5_
   clear n0_ n1_ n2_ n3_ n4_ n5_
   clear ho hb hg hat
   refine hK.out _ _ trivial (fun hHeld => ?_)
   clear hK K
   refine norm_ (a' := ?_) ?_ ?_
   rotate_left
   ·show Act.put _ (some 46) _ = _
    simp only [Act.put, sA_, sZ_, sS_, i64_w, i32_w]
    rfl
   refine pu_ 9 (some 11) (bf_ 10 1023) HT_.out ?_
   refine done_ (done_of HT_.out (by kernel_rfl)) ?_
   obtain ⟨Ao53, co53, eo53⟩ := Kd.R_slice HO540.out
   subst eo53
   try go_wp2
   replace HO523 := am_ (Kd.R_drew HO523.out)
   replace HO540 := am_ (Kd.R_drew HO540.out)
   replace BK516 := am_ (blk_drew BK516.out)
   replace HR530 := am_ (Kd.C_drew HR530.out)
   replace HR537 := am_ (Kd.C_drew HR537.out)
   replace HB := am_ (below_drew1 HB.out)
   refine start_ (n := 6) (S := fun w' => w'.cell? ⟨gb516, 0, none⟩ = some (.int .i64 a0_0) ∧ w'.cell? ⟨gb516, 1, none⟩ = some (.slice A0_1 l0_1.length c0_1) ∧ w'.cell? ⟨gb516, 2, none⟩ = some (.slice A0_2 l0_2.length c0_2)) (ds := []) (bf_ 6 0) (by kernel_rfl) rfl rfl (cz3_ BK516.out) (fun hHeld => ?_)
   generalize w52.drew = w54 at HO523 HO540 BK516 HR530 HR537 HB hHeld ⊢
   refine pure_ (i := 1) (N := some 48) (v := ?_) (a' := ?_) (bf_ 6 2) rfl rfl (by kernel_rfl) (fun _ _ _ h => h) (Or.inl ⟨by rfl, ?_⟩) ?_ ?_
   rotate_left
   ·intro w'
    go_simp
    with_reducible rfl
   rotate_left
   ·simp only [Act.put, sA_, sZ_, sS_, i64_w, i32_w]
    rfl
   refine take_ (i := 0) (N := some 47) (v := ?_) (a' := ?_) (bf_ 6 3) rfl rfl (by kernel_rfl) (fun _ _ _ h => h) (Or.inl ⟨by rfl, ?_⟩) hHeld ?_ ?_
   rotate_left
   ·rintro w' ⟨s0, s1, s2⟩
    go_simp
    with_reducible rfl
   rotate_left
   ·simp only [Act.put, sA_, sZ_, sS_, i64_w, i32_w]
    rfl
   refine join_ (σ := Value × Value × Value × Value × Nat) 1 (bf_ 6 31) (fun s_ => [(49, s_.1), (50, .agg #[.int .i64 t544, .int .i64 t545, .int .i64 t546, .string t547, s_.2.1, s_.2.2.1, s_.2.2.2.1]), (12, .pointer (some ⟨s_.2.2.2.2, 0, none⟩))]) (fun s_ w' => (w'.cell? ⟨gb516, 0, none⟩ = some (.int .i64 a0_0) ∧ w'.cell? ⟨gb516, 1, none⟩ = some (.slice A0_1 l0_1.length c0_1) ∧ w'.cell? ⟨gb516, 2, none⟩ = some (.slice A0_2 l0_2.length c0_2)) ∧ (Kd.R k44 44 w' w.heap.size (fun k_ => some k_ ≠ (.slice Ao53 y538.length co53 : Value).ownBlock) (.slice Ao45 t521.length co45) t521) ∧ (Kd.R k44 44 w' w.heap.size (fun k_ => some k_ ≠ (.slice Ao45 t521.length co45 : Value).ownBlock) (.slice Ao53 y538.length co53) y538) ∧ (Kd.R k28 28 w' w.heap.size (fun _ => True) s_.1 t541) ∧ (Kd.R (Kd.int .i64) 3 w' w.heap.size (fun k_ => some k_ ≠ (s_.2.2.1 : Value).ownBlock ∧ some k_ ≠ (s_.2.2.2.1 : Value).ownBlock) s_.2.1 t548) ∧ (Kd.R (Kd.int .i64) 3 w' w.heap.size (fun k_ => some k_ ≠ (s_.2.1 : Value).ownBlock ∧ some k_ ≠ (s_.2.2.2.1 : Value).ownBlock) s_.2.2.1 t551) ∧ (Kd.R (Kd.int .i64) 3 w' w.heap.size (fun k_ => some k_ ≠ (s_.2.1 : Value).ownBlock ∧ some k_ ≠ (s_.2.2.1 : Value).ownBlock) s_.2.2.2.1 t554) ∧ (w'.heap[gb516]? = some (.cells #[.int .i64 a0_0, .slice A0_1 l0_1.length c0_1, .slice A0_2 l0_2.length c0_2] 36 (0, 0))) ∧ (w'.heap[s_.2.2.2.2]? = some (.cells #[.int .i64 0, .int .i64 0, .int .i64 0, .string (⟨#[]⟩ : ByteArray), .slice none 0 0, .slice none 0 0, .slice none 0 0] 42 (0, 0))) ∧ (w.heap.size ≤ s_.2.2.2.2) ∧ (w.heap.size ≤ s_.2.2.2.2) ∧ (gb516 ≠ s_.2.2.2.2) ∧ (s_.2.2.2.2 ≠ gb516) ∧ (Below w.heap.size w w')) ?_ ?_
   rotate_left
   ·intro hCont
    refine two_ (i := 2) (j := 4) (Ni := some 49) (Nj := some 12) (bf_ 6 7) (bf_ 6 19) rfl rfl rfl rfl (by kernel_rfl) (by decide) (by decide) (fun K hK => ?_) (fun K hK => ?_)
    ·skip
     refine gs_ Try.func18 #[.slice Ao53 y538.length co53] ?_
     with_reducible refine (computuslaw21_forward.calls kj4 _ _ y538 t541 _ ?side1 ?side2 A33.out).mono ?_
     (case side1 => exact ck_ (Kd.R_reads' HO540.out).2.2)
     (case side2 => exact (Kd.R_reads' HO540.out).2.1)
     rintro e w55 ⟨v542, rfl, ho0, hb⟩
     refine ⟨_, rfl, ?_⟩
     replace HO523 := rw_ HO523 hb
     replace HO540 := rw_ HO540 hb
     have HO543 := am_ (Kd.R_lower ho0 bz_)
     replace BK516 := bw_ BK516 hb
     replace HR530 := am_ (Kd.C_below (by repeat (first | (with_reducible exact HR530.out) | (with_reducible refine Kd.C_alloc ?_ _) | (with_reducible refine Kd.C_drewN ?_ _) | (with_reducible refine Kd.C_drew ?_) | exact HR530.out)) hb)
     replace HR537 := am_ (Kd.C_below (by repeat (first | (with_reducible exact HR537.out) | (with_reducible refine Kd.C_alloc ?_ _) | (with_reducible refine Kd.C_drewN ?_ _) | (with_reducible refine Kd.C_drew ?_) | exact HR537.out)) hb)
     replace HB := bt_ hb
     (try clear hb)
     (try clear hb2)
     (try clear hk)
     (try clear hi)
     (try clear ho0)
     obtain ⟨Ao56, co56, eo56⟩ := Kd.R_slice HO543.out
     (first | subst eo56 | (injection eo56 with f1_ f2_ f3_; have f4_ := f1_.symm; have f5_ := f3_.symm; clear f1_ f2_ f3_; subst f4_; subst f5_))
     refine hK.out _ _ (by first | exact (cz3_ BK516.out) | exact hHeld) (fun hHeld => ?_)
     clear hK K
     refine norm_ (a' := ?_) ?_ ?_
     rotate_left
     ·show Act.put _ (some 49) _ = _
      simp only [Act.put, sA_, sZ_, sS_, i64_w, i32_w]
      rfl
     refine two_ (i := 3) (j := 4) (Ni := some 50) (Nj := some 12) (bf_ 6 15) (bf_ 6 23) rfl rfl rfl rfl (by kernel_rfl) (by decide) (by decide) (fun K hK => ?_) (fun K hK => ?_)
     ·skip
      refine gs_ Try.func17 #[.agg #[.int .i64 a0_0, .slice A0_1 l0_1.length c0_1, .slice A0_2 l0_2.length c0_2], .slice Ao56 t541.length co56] ?_
      with_reducible refine (occurrence_Resolve.calls a0_0 _ _ l0_1 _ _ l0_2 _ _ t541 t544 t545 t546 t547 t548 t551 t554 _ ?side1 ?side2 ?side3 ?side4 ?side5 ?side6 A34.out).mono ?_
      (case side1 => exact ck_ (Kd.C_below HR0_1.out HB.out))
      (case side2 => exact HC0_1.out)
      (case side3 => exact ck_ (Kd.C_below HR0_2.out HB.out))
      (case side4 => exact HC0_2.out)
      (case side5 => exact ck_ (Kd.R_reads' HO543.out).2.2)
      (case side6 => exact (Kd.R_reads' HO543.out).2.1)
      rintro e w57 ⟨v549, v552, v555, rfl, ho0, ho1, ho2, hb⟩
      refine ⟨_, rfl, ?_⟩
      replace HO523 := rw_ HO523 hb
      replace HO540 := rw_ HO540 hb
      replace HO543 := rw_ HO543 hb
      have HO550 := am_ (Kd.R_lower ho0 bz_)
      have HO553 := am_ (Kd.R_lower ho1 bz_)
      have HO556 := am_ (Kd.R_lower ho2 bz_)
      replace BK516 := bw_ BK516 hb
      replace HR530 := am_ (Kd.C_below (by repeat (first | (with_reducible exact HR530.out) | (with_reducible refine Kd.C_alloc ?_ _) | (with_reducible refine Kd.C_drewN ?_ _) | (with_reducible refine Kd.C_drew ?_) | exact HR530.out)) hb)
      replace HR537 := am_ (Kd.C_below (by repeat (first | (with_reducible exact HR537.out) | (with_reducible refine Kd.C_alloc ?_ _) | (with_reducible refine Kd.C_drewN ?_ _) | (with_reducible refine Kd.C_drew ?_) | exact HR537.out)) hb)
      replace HB := bt_ hb
      (try clear hb)
      (try clear hb2)
      (try clear hk)
      (try clear hi)
      (try clear ho0)
      (try clear ho1)
      (try clear ho2)
      refine hK.out _ _ (by first | exact (cz3_ BK516.out) | exact hHeld) (fun hHeld => ?_)
      clear hK K
      refine norm_ (a' := ?_) ?_ ?_
      rotate_left
      ·show Act.put _ (some 50) _ = _
       simp only [Act.put, sA_, sZ_, sS_, i64_w, i32_w]
       rfl
      refine one_ (i := 4) (N := some 12) (bf_ 6 31) rfl rfl (by kernel_rfl) (by decide) (fun K hK => ?_)
      refine box_step ?hg (N := 12) ?hd (cs := #[.int .i64 0, .int .i64 0, .int .i64 0, .string (⟨#[]⟩ : ByteArray), .slice none 0 0, .slice none 0 0, .slice none 0 0]) (t := 42) ?hr ?_; (case hd => rfl); (case hg => rfl); (case hr => first | (go_simp; done) | (go_simp; rfl))
      intro gb557 hg w58 hbox hb
      replace HO523 := rw_ HO523 hb
      replace HO540 := rw_ HO540 hb
      replace HO543 := rw_ HO543 hb
      replace HO550 := rw_ HO550 hb
      replace HO553 := rw_ HO553 hb
      replace HO556 := rw_ HO556 hb
      replace HR530 := am_ (Kd.C_below (by repeat (first | (with_reducible exact HR530.out) | (with_reducible refine Kd.C_alloc ?_ _) | (with_reducible refine Kd.C_drewN ?_ _) | (with_reducible refine Kd.C_drew ?_) | exact HR530.out)) hb)
      replace HR537 := am_ (Kd.C_below (by repeat (first | (with_reducible exact HR537.out) | (with_reducible refine Kd.C_alloc ?_ _) | (with_reducible refine Kd.C_drewN ?_ _) | (with_reducible refine Kd.C_drew ?_) | exact HR537.out)) hb)
      have BK557 := am_ (hbox)
      have GW557 := gw_ (w := w) hg
      have GE557 := gw_ (w := w) hg
      replace HB := bt_ hb
      have NB516_557 := ne_ hg BK516
      have NB557_516 := nf_ hg BK516
      replace BK516 := bw_ BK516 hb
      clear hb hbox hg
      refine hK.out _ _ (by first | exact (cz3_ BK516.out) | exact hHeld) (fun hHeld => ?_)
      clear hK K
      refine norm_ (a' := ?_) ?_ ?_
      rotate_left
      ·show Act.put _ (some 12) _ = _
       simp only [Act.put, sA_, sZ_, sS_, i64_w, i32_w]
       rfl
      exact norm_ (by simp only [putAll, Act.put, sA_, sZ_, sS_]) (hCont (.slice Ao56 t541.length co56, v549, v552, v555, gb557) _ ⟨hHeld, (by (with_reducible repeat (first | apply Kd.R_alloc | apply Kd.R_drewN | apply Kd.R_drew)); exact Kd.R_mono HO523.out (fun _ hk => hk.2)), (rk_ HO540.out), (rk_ HO543.out), (rk_ HO550.out), (rk_ HO553.out), (rk_ HO556.out), (bk_ BK516.out), (bk_ BK557.out), GW557.out, GE557.out, NB516_557.out, NB557_516.out, bh_⟩)
     ·skip
      refine box_step ?hg (N := 12) ?hd (cs := #[.int .i64 0, .int .i64 0, .int .i64 0, .string (⟨#[]⟩ : ByteArray), .slice none 0 0, .slice none 0 0, .slice none 0 0]) (t := 42) ?hr ?_; (case hd => rfl); (case hg => rfl); (case hr => first | (go_simp; done) | (go_simp; rfl))
      intro gb557 hg w56 hbox hb
      replace HO523 := rw_ HO523 hb
      replace HO540 := rw_ HO540 hb
      replace HO543 := rw_ HO543 hb
      replace HR530 := am_ (Kd.C_below (by repeat (first | (with_reducible exact HR530.out) | (with_reducible refine Kd.C_alloc ?_ _) | (with_reducible refine Kd.C_drewN ?_ _) | (with_reducible refine Kd.C_drew ?_) | exact HR530.out)) hb)
      replace HR537 := am_ (Kd.C_below (by repeat (first | (with_reducible exact HR537.out) | (with_reducible refine Kd.C_alloc ?_ _) | (with_reducible refine Kd.C_drewN ?_ _) | (with_reducible refine Kd.C_drew ?_) | exact HR537.out)) hb)
      have BK557 := am_ (hbox)
      have GW557 := gw_ (w := w) hg
      have GE557 := gw_ (w := w) hg
      replace HB := bt_ hb
      have NB516_557 := ne_ hg BK516
      have NB557_516 := nf_ hg BK516
      replace BK516 := bw_ BK516 hb
      clear hb hbox hg
      obtain ⟨Ao57, co57, eo57⟩ := Kd.R_slice HO543.out
      (first | subst eo57 | (injection eo57 with f1_ f2_ f3_; have f4_ := f1_.symm; have f5_ := f3_.symm; clear f1_ f2_ f3_; subst f4_; subst f5_))
      refine hK.out _ _ (by first | exact (cz3_ BK516.out) | exact hHeld) (fun hHeld => ?_)
      clear hK K
      refine norm_ (a' := ?_) ?_ ?_
      rotate_left
      ·show Act.put _ (some 12) _ = _
       simp only [Act.put, sA_, sZ_, sS_, i64_w, i32_w]
       rfl
      refine one_ (i := 3) (N := some 50) (bf_ 6 31) rfl rfl (by kernel_rfl) (by decide) (fun K hK => ?_)
      refine gs_ Try.func17 #[.agg #[.int .i64 a0_0, .slice A0_1 l0_1.length c0_1, .slice A0_2 l0_2.length c0_2], .slice Ao57 t541.length co57] ?_
      with_reducible refine (occurrence_Resolve.calls a0_0 _ _ l0_1 _ _ l0_2 _ _ t541 t544 t545 t546 t547 t548 t551 t554 _ ?side1 ?side2 ?side3 ?side4 ?side5 ?side6 A34.out).mono ?_
      (case side1 => exact ck_ (Kd.C_below HR0_1.out HB.out))
      (case side2 => exact HC0_1.out)
      (case side3 => exact ck_ (Kd.C_below HR0_2.out HB.out))
      (case side4 => exact HC0_2.out)
      (case side5 => exact ck_ (Kd.R_reads' HO543.out).2.2)
      (case side6 => exact (Kd.R_reads' HO543.out).2.1)
      rintro e w58 ⟨v549, v552, v555, rfl, ho0, ho1, ho2, hb⟩
      refine ⟨_, rfl, ?_⟩
      replace HO523 := rw_ HO523 hb
      replace HO540 := rw_ HO540 hb
      replace HO543 := rw_ HO543 hb
      have HO550 := am_ (Kd.R_lower ho0 bz_)
      have HO553 := am_ (Kd.R_lower ho1 bz_)
      have HO556 := am_ (Kd.R_lower ho2 bz_)
      replace BK516 := bw_ BK516 hb
      replace HR530 := am_ (Kd.C_below (by repeat (first | (with_reducible exact HR530.out) | (with_reducible refine Kd.C_alloc ?_ _) | (with_reducible refine Kd.C_drewN ?_ _) | (with_reducible refine Kd.C_drew ?_) | exact HR530.out)) hb)
      replace HR537 := am_ (Kd.C_below (by repeat (first | (with_reducible exact HR537.out) | (with_reducible refine Kd.C_alloc ?_ _) | (with_reducible refine Kd.C_drewN ?_ _) | (with_reducible refine Kd.C_drew ?_) | exact HR537.out)) hb)
      replace BK557 := bw_ BK557 hb
      replace HB := bt_ hb
      (try clear hb)
      (try clear hb2)
      (try clear hk)
      (try clear hi)
      (try clear ho0)
      (try clear ho1)
      (try clear ho2)
      refine hK.out _ _ (by first | exact (cz3_ BK516.out) | exact hHeld) (fun hHeld => ?_)
      clear hK K
      refine norm_ (a' := ?_) ?_ ?_
      rotate_left
      ·show Act.put _ (some 50) _ = _
       simp only [Act.put, sA_, sZ_, sS_, i64_w, i32_w]
       rfl
      exact norm_ (by simp only [putAll, Act.put, sA_, sZ_, sS_]) (hCont (.slice Ao57 t541.length co57, v549, v552, v555, gb557) _ ⟨hHeld, (by (with_reducible repeat (first | apply Kd.R_alloc | apply Kd.R_drewN | apply Kd.R_drew)); exact Kd.R_mono HO523.out (fun _ hk => hk.2)), (rk_ HO540.out), (rk_ HO543.out), (rk_ HO550.out), (rk_ HO553.out), (rk_ HO556.out), (bk_ BK516.out), (bk_ BK557.out), GW557.out, GE557.out, NB516_557.out, NB557_516.out, bh_⟩)
    ·skip
     refine box_step ?hg (N := 12) ?hd (cs := #[.int .i64 0, .int .i64 0, .int .i64 0, .string (⟨#[]⟩ : ByteArray), .slice none 0 0, .slice none 0 0, .slice none 0 0]) (t := 42) ?hr ?_; (case hd => rfl); (case hg => rfl); (case hr => first | (go_simp; done) | (go_simp; rfl))
     intro gb557 hg w55 hbox hb
     replace HO523 := rw_ HO523 hb
     replace HO540 := rw_ HO540 hb
     replace HR530 := am_ (Kd.C_below (by repeat (first | (with_reducible exact HR530.out) | (with_reducible refine Kd.C_alloc ?_ _) | (with_reducible refine Kd.C_drewN ?_ _) | (with_reducible refine Kd.C_drew ?_) | exact HR530.out)) hb)
     replace HR537 := am_ (Kd.C_below (by repeat (first | (with_reducible exact HR537.out) | (with_reducible refine Kd.C_alloc ?_ _) | (with_reducible refine Kd.C_drewN ?_ _) | (with_reducible refine Kd.C_drew ?_) | exact HR537.out)) hb)
     have BK557 := am_ (hbox)
     have GW557 := gw_ (w := w) hg
     have GE557 := gw_ (w := w) hg
     replace HB := bt_ hb
     have NB516_557 := ne_ hg BK516
     have NB557_516 := nf_ hg BK516
     replace BK516 := bw_ BK516 hb
     clear hb hbox hg
     refine hK.out _ _ (by first | exact (cz3_ BK516.out) | exact hHeld) (fun hHeld => ?_)
     clear hK K
     refine norm_ (a' := ?_) ?_ ?_
     rotate_left
     ·show Act.put _ (some 12) _ = _
      simp only [Act.put, sA_, sZ_, sS_, i64_w, i32_w]
      rfl
     refine one_ (i := 2) (N := some 49) (bf_ 6 23) rfl rfl (by kernel_rfl) (by decide) (fun K hK => ?_)
     refine gs_ Try.func18 #[.slice Ao53 y538.length co53] ?_
     with_reducible refine (computuslaw21_forward.calls kj4 _ _ y538 t541 _ ?side1 ?side2 A33.out).mono ?_
     (case side1 => exact ck_ (Kd.R_reads' HO540.out).2.2)
     (case side2 => exact (Kd.R_reads' HO540.out).2.1)
     rintro e w56 ⟨v542, rfl, ho0, hb⟩
     refine ⟨_, rfl, ?_⟩
     replace HO523 := rw_ HO523 hb
     replace HO540 := rw_ HO540 hb
     have HO543 := am_ (Kd.R_lower ho0 bz_)
     replace BK516 := bw_ BK516 hb
     replace HR530 := am_ (Kd.C_below (by repeat (first | (with_reducible exact HR530.out) | (with_reducible refine Kd.C_alloc ?_ _) | (with_reducible refine Kd.C_drewN ?_ _) | (with_reducible refine Kd.C_drew ?_) | exact HR530.out)) hb)
     replace HR537 := am_ (Kd.C_below (by repeat (first | (with_reducible exact HR537.out) | (with_reducible refine Kd.C_alloc ?_ _) | (with_reducible refine Kd.C_drewN ?_ _) | (with_reducible refine Kd.C_drew ?_) | exact HR537.out)) hb)
     replace BK557 := bw_ BK557 hb
     replace HB := bt_ hb
     (try clear hb)
     (try clear hb2)
     (try clear hk)
     (try clear hi)
     (try clear ho0)
     obtain ⟨Ao57, co57, eo57⟩ := Kd.R_slice HO543.out
     (first | subst eo57 | (injection eo57 with f1_ f2_ f3_; have f4_ := f1_.symm; have f5_ := f3_.symm; clear f1_ f2_ f3_; subst f4_; subst f5_))
     refine hK.out _ _ (by first | exact (cz3_ BK516.out) | exact hHeld) (fun hHeld => ?_)
     clear hK K
     refine norm_ (a' := ?_) ?_ ?_
     rotate_left
     ·show Act.put _ (some 49) _ = _
      simp only [Act.put, sA_, sZ_, sS_, i64_w, i32_w]
      rfl
     refine one_ (i := 3) (N := some 50) (bf_ 6 31) rfl rfl (by kernel_rfl) (by decide) (fun K hK => ?_)
     refine gs_ Try.func17 #[.agg #[.int .i64 a0_0, .slice A0_1 l0_1.length c0_1, .slice A0_2 l0_2.length c0_2], .slice Ao57 t541.length co57] ?_
     with_reducible refine (occurrence_Resolve.calls a0_0 _ _ l0_1 _ _ l0_2 _ _ t541 t544 t545 t546 t547 t548 t551 t554 _ ?side1 ?side2 ?side3 ?side4 ?side5 ?side6 A34.out).mono ?_
     (case side1 => exact ck_ (Kd.C_below HR0_1.out HB.out))
     (case side2 => exact HC0_1.out)
     (case side3 => exact ck_ (Kd.C_below HR0_2.out HB.out))
     (case side4 => exact HC0_2.out)
     (case side5 => exact ck_ (Kd.R_reads' HO543.out).2.2)
     (case side6 => exact (Kd.R_reads' HO543.out).2.1)
     rintro e w58 ⟨v549, v552, v555, rfl, ho0, ho1, ho2, hb⟩
     refine ⟨_, rfl, ?_⟩
     replace HO523 := rw_ HO523 hb
     replace HO540 := rw_ HO540 hb
     replace HO543 := rw_ HO543 hb
     have HO550 := am_ (Kd.R_lower ho0 bz_)
     have HO553 := am_ (Kd.R_lower ho1 bz_)
     have HO556 := am_ (Kd.R_lower ho2 bz_)
     replace BK516 := bw_ BK516 hb
     replace HR530 := am_ (Kd.C_below (by repeat (first | (with_reducible exact HR530.out) | (with_reducible refine Kd.C_alloc ?_ _) | (with_reducible refine Kd.C_drewN ?_ _) | (with_reducible refine Kd.C_drew ?_) | exact HR530.out)) hb)
     replace HR537 := am_ (Kd.C_below (by repeat (first | (with_reducible exact HR537.out) | (with_reducible refine Kd.C_alloc ?_ _) | (with_reducible refine Kd.C_drewN ?_ _) | (with_reducible refine Kd.C_drew ?_) | exact HR537.out)) hb)
     replace BK557 := bw_ BK557 hb
     replace HB := bt_ hb
     (try clear hb)
     (try clear hb2)
     (try clear hk)
     (try clear hi)
     (try clear ho0)
     (try clear ho1)
     (try clear ho2)
     refine hK.out _ _ (by first | exact (cz3_ BK516.out) | exact hHeld) (fun hHeld => ?_)
     clear hK K
     refine norm_ (a' := ?_) ?_ ?_
     rotate_left
     ·show Act.put _ (some 50) _ = _
      simp only [Act.put, sA_, sZ_, sS_, i64_w, i32_w]
      rfl
     exact norm_ (by simp only [putAll, Act.put, sA_, sZ_, sS_]) (hCont (.slice Ao57 t541.length co57, v549, v552, v555, gb557) _ ⟨hHeld, (by (with_reducible repeat (first | apply Kd.R_alloc | apply Kd.R_drewN | apply Kd.R_drew)); exact Kd.R_mono HO523.out (fun _ hk => hk.2)), (rk_ HO540.out), (rk_ HO543.out), (rk_ HO550.out), (rk_ HO553.out), (rk_ HO556.out), (bk_ BK516.out), (bk_ BK557.out), GW557.out, GE557.out, NB516_557.out, NB557_516.out, bh_⟩)
   rintro ⟨v542, v549, v552, v555, gb557⟩ w59 ⟨hS_, h0_, h1_, h2_, h3_, h4_, h5_, h6_, h7_, h8_, h9_, h10_, h11_, h12_⟩
   have n0_ : Aside0 (Kd.R k44 44 w59 w.heap.size (fun k_ => some k_ ≠ (.slice Ao53 y538.length co53 : Value).ownBlock) (.slice Ao45 t521.length co45) t521) := ⟨h0_⟩
   have n1_ : Aside0 (Kd.R k44 44 w59 w.heap.size (fun k_ => some k_ ≠ (.slice Ao45 t521.length co45 : Value).ownBlock) (.slice Ao53 y538.length co53) y538) := ⟨h1_⟩
   have n2_ : Aside0 (Kd.R k28 28 w59 w.heap.size (fun _ => True) v542 t541) := ⟨h2_⟩
   have n3_ : Aside0 (Kd.R (Kd.int .i64) 3 w59 w.heap.size (fun k_ => some k_ ≠ (v552 : Value).ownBlock ∧ some k_ ≠ (v555 : Value).ownBlock) v549 t548) := ⟨h3_⟩
   have n4_ : Aside0 (Kd.R (Kd.int .i64) 3 w59 w.heap.size (fun k_ => some k_ ≠ (v549 : Value).ownBlock ∧ some k_ ≠ (v555 : Value).ownBlock) v552 t551) := ⟨h4_⟩
   have n5_ : Aside0 (Kd.R (Kd.int .i64) 3 w59 w.heap.size (fun k_ => some k_ ≠ (v549 : Value).ownBlock ∧ some k_ ≠ (v552 : Value).ownBlock) v555 t554) := ⟨h5_⟩
   have n6_ : Aside0 (w59.heap[gb516]? = some (.cells #[.int .i64 a0_0, .slice A0_1 l0_1.length c0_1, .slice A0_2 l0_2.length c0_2] 36 (0, 0))) := ⟨h6_⟩
   have n7_ : Aside0 (w59.heap[gb557]? = some (.cells #[.int .i64 0, .int .i64 0, .int .i64 0, .string (⟨#[]⟩ : ByteArray), .slice none 0 0, .slice none 0 0, .slice none 0 0] 42 (0, 0))) := ⟨h7_⟩
   have n8_ : Aside0 (w.heap.size ≤ gb557) := ⟨h8_⟩
   have n9_ : Aside0 (w.heap.size ≤ gb557) := ⟨h9_⟩
   have n10_ : Aside0 (gb516 ≠ gb557) := ⟨h10_⟩
   have n11_ : Aside0 (gb557 ≠ gb516) := ⟨h11_⟩
   have n12_ : Aside0 (Below w.heap.size w w59) := ⟨h12_⟩
   clear HO523
   clear HO540
   clear BK516
   clear HR530
   clear HR537
   clear HB
   clear h0_ h1_ h2_ h3_ h4_ h5_ h6_ h7_ h8_ h9_ h10_ h11_ h12_
   have HO523 := n0_
   have HO540 := n1_
   have HO543 := n2_
   have HO550 := n3_
   have HO553 := n4_
   have HO556 := n5_
   have BK516 := n6_
   have BK557 := n7_
   have GW557 := n8_
   have GE557 := n9_
   have NB516_557 := n10_
   have NB557_516 := n11_
   have HB := n12_
   clear n0_ n1_ n2_ n3_ n4_ n5_ n6_ n7_ n8_ n9_ n10_ n11_ n12_
   have hHeld : w59.cell? ⟨gb516, 0, none⟩ = some (.int .i64 a0_0) ∧ w59.cell? ⟨gb516, 1, none⟩ = some (.slice A0_1 l0_1.length c0_1) ∧ w59.cell? ⟨gb516, 2, none⟩ = some (.slice A0_2 l0_2.length c0_2) := hS_
   obtain ⟨Ao64, co64, eo64⟩ := Kd.R_slice HO550.out
   (first | subst eo64 | (injection eo64 with f1_ f2_ f3_; have f4_ := f1_.symm; have f5_ := f3_.symm; clear f1_ f2_ f3_; subst f4_; subst f5_))
   obtain ⟨Ao66, co66, eo66⟩ := Kd.R_slice HO553.out
   (first | subst eo66 | (injection eo66 with f1_ f2_ f3_; have f4_ := f1_.symm; have f5_ := f3_.symm; clear f1_ f2_ f3_; subst f4_; subst f5_))
   obtain ⟨Ao68, co68, eo68⟩ := Kd.R_slice HO556.out
   (first | subst eo68 | (injection eo68 with f1_ f2_ f3_; have f4_ := f1_.symm; have f5_ := f3_.symm; clear f1_ f2_ f3_; subst f4_; subst f5_))
   refine norm_ (a' := ?_) ?_ ?_
   rotate_left
   ·simp only [putAll, Act.put, sA_, sZ_, sS_]
    rfl
   refine one_ (i := 5) (N := none) (bf_ 6 63) rfl rfl (by kernel_rfl) (by decide) (fun K hK => ?_)
   have hs60 : w59.cell? ⟨gb557, 0, none⟩ = some (.int .i64 0) := (blk_cell BK557.out 0).trans rfl
   have hfs60 := blk_frozen BK557.out 0
   have hns60_0 := NB516_557.out
   have hms60_0 := NB557_516.out
   have hs61 : w59.cell? ⟨gb557, 1, none⟩ = some (.int .i64 0) := (blk_cell BK557.out 1).trans rfl
   have hfs61 := blk_frozen BK557.out 1
   have hns61_0 := NB516_557.out
   have hms61_0 := NB557_516.out
   have hs62 : w59.cell? ⟨gb557, 2, none⟩ = some (.int .i64 0) := (blk_cell BK557.out 2).trans rfl
   have hfs62 := blk_frozen BK557.out 2
   have hns62_0 := NB516_557.out
   have hms62_0 := NB557_516.out
   have hs63 : w59.cell? ⟨gb557, 3, none⟩ = some (.string (⟨#[]⟩ : ByteArray)) := (blk_cell BK557.out 3).trans rfl
   have hfs63 := blk_frozen BK557.out 3
   have hns63_0 := NB516_557.out
   have hms63_0 := NB557_516.out
   have hs65 : w59.cell? ⟨gb557, 4, none⟩ = some (.slice none 0 0) := (blk_cell BK557.out 4).trans rfl
   have hfs65 := blk_frozen BK557.out 4
   have hns65_0 := NB516_557.out
   have hms65_0 := NB557_516.out
   have hs67 : w59.cell? ⟨gb557, 5, none⟩ = some (.slice none 0 0) := (blk_cell BK557.out 5).trans rfl
   have hfs67 := blk_frozen BK557.out 5
   have hns67_0 := NB516_557.out
   have hms67_0 := NB557_516.out
   have hs69 : w59.cell? ⟨gb557, 6, none⟩ = some (.slice none 0 0) := (blk_cell BK557.out 6).trans rfl
   have hfs69 := blk_frozen BK557.out 6
   have hns69_0 := NB516_557.out
   have hms69_0 := NB557_516.out
   refine skip_ (w1 := ?_) (by rfl) rfl ?_ ?_
   rotate_left
   ·go_simp
    rfl
   refine hK.out _ _ ⟨((cell_far (p := ⟨gb557, _, none⟩) NB516_557.out _).trans (((cell_far (p := ⟨gb557, _, none⟩) NB516_557.out _).trans (((cell_far (p := ⟨gb557, _, none⟩) NB516_557.out _).trans (((cell_far (p := ⟨gb557, _, none⟩) NB516_557.out _).trans (((cell_far (p := ⟨gb557, _, none⟩) NB516_557.out _).trans (((cell_far (p := ⟨gb557, _, none⟩) NB516_557.out _).trans (((cell_far (p := ⟨gb557, _, none⟩) NB516_557.out _).trans (hHeld.1)))))))))))))), ((cell_far (p := ⟨gb557, _, none⟩) NB516_557.out _).trans (((cell_far (p := ⟨gb557, _, none⟩) NB516_557.out _).trans (((cell_far (p := ⟨gb557, _, none⟩) NB516_557.out _).trans (((cell_far (p := ⟨gb557, _, none⟩) NB516_557.out _).trans (((cell_far (p := ⟨gb557, _, none⟩) NB516_557.out _).trans (((cell_far (p := ⟨gb557, _, none⟩) NB516_557.out _).trans (((cell_far (p := ⟨gb557, _, none⟩) NB516_557.out _).trans (hHeld.2.1)))))))))))))), ((cell_far (p := ⟨gb557, _, none⟩) NB516_557.out _).trans (((cell_far (p := ⟨gb557, _, none⟩) NB516_557.out _).trans (((cell_far (p := ⟨gb557, _, none⟩) NB516_557.out _).trans (((cell_far (p := ⟨gb557, _, none⟩) NB516_557.out _).trans (((cell_far (p := ⟨gb557, _, none⟩) NB516_557.out _).trans (((cell_far (p := ⟨gb557, _, none⟩) NB516_557.out _).trans (((cell_far (p := ⟨gb557, _, none⟩) NB516_557.out _).trans (hHeld.2.2))))))))))))))⟩ (fun hHeld => ?_)
   clear hK K
   refine done_ (by kernel_rfl) ?_
   have hnb70 := NB516_557.out
   have hnc70 := NB557_516.out
   obtain ⟨hcz71_0, hcz71_1, hcz71_2⟩ := cz3_ BK516.out
   obtain ⟨hfz71_0, hfz71_1, hfz71_2⟩ := fz3_ BK516.out
   try go_wp2_with (first | ((with_reducible refine gate_callee (f := 19) rfl ?_); refine gl_ (some 53) Try.func19 #[.agg #[.int .i64 a0_0, .slice A0_1 l0_1.length c0_1, .slice A0_2 l0_2.length c0_2], .slice Ao45 t521.length co45] ?_; (with_reducible refine (computusref21_Resolve.calls kj4 a0_0 _ _ l0_1 _ _ l0_2 _ _ t521 t558 t559 t560 t561 t562 t565 t568 _ ?side1 ?side2 ?side3 ?side4 ?side5 ?side6 A35.out).mono ?_); (case side1 => exact Kd.C_below HR0_1.out bh_); (case side2 => exact HC0_1.out); (case side3 => exact Kd.C_below HR0_2.out bh_); (case side4 => exact HC0_2.out); (case side5 => refine (Kd.R_reads' (e := 44) (base := w.heap.size) (ok := fun k_ => some k_ ≠ (.slice Ao53 y538.length co53 : Value).ownBlock) (n := t521.length) (c := co45) ?_).2.2; exact (by (with_reducible repeat (first | apply Kd.R_alloc | apply Kd.R_drewN | apply Kd.R_drew)); exact (Kd.R_mono (Kd.R_far (p := ⟨gb557, 6, none⟩) (Kd.R_far (p := ⟨gb557, 5, none⟩) (Kd.R_far (p := ⟨gb557, 4, none⟩) (Kd.R_far (p := ⟨gb557, 3, none⟩) (Kd.R_far (p := ⟨gb557, 2, none⟩) (Kd.R_far (p := ⟨gb557, 1, none⟩) (Kd.R_far (p := ⟨gb557, 0, none⟩) (Kd.R_types HO523.out BK557.out (by decide)) (fun _ hk => hk.2) (.int .i64 t544)) (fun _ hk => hk.2) (.int .i64 t545)) (fun _ hk => hk.2) (.int .i64 t546)) (fun _ hk => hk.2) (.string t547)) (fun _ hk => hk.2) (.slice Ao64 t548.length co64)) (fun _ hk => hk.2) (.slice Ao66 t551.length co66)) (fun _ hk => hk.2) (.slice Ao68 t554.length co68)) (fun _ h_ => h_.1)))); (case side6 => exact (Kd.R_reads' HO523.out).2.1); rintro e w72 ⟨v563, v566, v569, rfl, ho0, ho1, ho2, hb⟩; refine ⟨_, rfl, ?_⟩; replace HO523 := am_ (Kd.R_below (by (with_reducible repeat (first | apply Kd.R_alloc | apply Kd.R_drewN | apply Kd.R_drew)); exact (Kd.R_mono (Kd.R_far (p := ⟨gb557, 6, none⟩) (Kd.R_far (p := ⟨gb557, 5, none⟩) (Kd.R_far (p := ⟨gb557, 4, none⟩) (Kd.R_far (p := ⟨gb557, 3, none⟩) (Kd.R_far (p := ⟨gb557, 2, none⟩) (Kd.R_far (p := ⟨gb557, 1, none⟩) (Kd.R_far (p := ⟨gb557, 0, none⟩) (Kd.R_types HO523.out BK557.out (by decide)) (fun _ hk => hk.2) (.int .i64 t544)) (fun _ hk => hk.2) (.int .i64 t545)) (fun _ hk => hk.2) (.int .i64 t546)) (fun _ hk => hk.2) (.string t547)) (fun _ hk => hk.2) (.slice Ao64 t548.length co64)) (fun _ hk => hk.2) (.slice Ao66 t551.length co66)) (fun _ hk => hk.2) (.slice Ao68 t554.length co68)) (fun _ h_ => h_.1))) hb); replace HO540 := am_ (Kd.R_below (by (with_reducible repeat (first | apply Kd.R_alloc | apply Kd.R_drewN | apply Kd.R_drew)); exact (Kd.R_mono (Kd.R_far (p := ⟨gb557, 6, none⟩) (Kd.R_far (p := ⟨gb557, 5, none⟩) (Kd.R_far (p := ⟨gb557, 4, none⟩) (Kd.R_far (p := ⟨gb557, 3, none⟩) (Kd.R_far (p := ⟨gb557, 2, none⟩) (Kd.R_far (p := ⟨gb557, 1, none⟩) (Kd.R_far (p := ⟨gb557, 0, none⟩) (Kd.R_types HO540.out BK557.out (by decide)) (fun _ hk => hk.2) (.int .i64 t544)) (fun _ hk => hk.2) (.int .i64 t545)) (fun _ hk => hk.2) (.int .i64 t546)) (fun _ hk => hk.2) (.string t547)) (fun _ hk => hk.2) (.slice Ao64 t548.length co64)) (fun _ hk => hk.2) (.slice Ao66 t551.length co66)) (fun _ hk => hk.2) (.slice Ao68 t554.length co68)) (fun _ h_ => h_.1))) hb); replace HO543 := am_ (Kd.R_below (by (with_reducible repeat (first | apply Kd.R_alloc | apply Kd.R_drewN | apply Kd.R_drew)); exact (Kd.R_mono (Kd.R_far (p := ⟨gb557, 6, none⟩) (Kd.R_far (p := ⟨gb557, 5, none⟩) (Kd.R_far (p := ⟨gb557, 4, none⟩) (Kd.R_far (p := ⟨gb557, 3, none⟩) (Kd.R_far (p := ⟨gb557, 2, none⟩) (Kd.R_far (p := ⟨gb557, 1, none⟩) (Kd.R_far (p := ⟨gb557, 0, none⟩) (Kd.R_types HO543.out BK557.out (by decide)) (fun _ hk => hk.2) (.int .i64 t544)) (fun _ hk => hk.2) (.int .i64 t545)) (fun _ hk => hk.2) (.int .i64 t546)) (fun _ hk => hk.2) (.string t547)) (fun _ hk => hk.2) (.slice Ao64 t548.length co64)) (fun _ hk => hk.2) (.slice Ao66 t551.length co66)) (fun _ hk => hk.2) (.slice Ao68 t554.length co68)) (fun _ h_ => h_.1))) hb); have HO564 := am_ (Kd.R_lower (Kd.R_new' (Kd.R_new' (Kd.R_new' ho0 (Kd.R_lt (by (with_reducible repeat (first | apply Kd.R_alloc | apply Kd.R_drewN | apply Kd.R_drew)); exact (Kd.R_mono (Kd.R_far (p := ⟨gb557, 6, none⟩) (Kd.R_far (p := ⟨gb557, 5, none⟩) (Kd.R_far (p := ⟨gb557, 4, none⟩) (Kd.R_far (p := ⟨gb557, 3, none⟩) (Kd.R_far (p := ⟨gb557, 2, none⟩) (Kd.R_far (p := ⟨gb557, 1, none⟩) (Kd.R_far (p := ⟨gb557, 0, none⟩) (Kd.R_types HO550.out BK557.out (by decide)) (fun _ hk => hk.2) (.int .i64 t544)) (fun _ hk => hk.2) (.int .i64 t545)) (fun _ hk => hk.2) (.int .i64 t546)) (fun _ hk => hk.2) (.string t547)) (fun _ hk => hk.2) (.slice Ao64 t548.length co64)) (fun _ hk => hk.2) (.slice Ao66 t551.length co66)) (fun _ hk => hk.2) (.slice Ao68 t554.length co68)) (fun _ h_ => h_.1))))) (Kd.R_lt (by (with_reducible repeat (first | apply Kd.R_alloc | apply Kd.R_drewN | apply Kd.R_drew)); exact (Kd.R_mono (Kd.R_far (p := ⟨gb557, 6, none⟩) (Kd.R_far (p := ⟨gb557, 5, none⟩) (Kd.R_far (p := ⟨gb557, 4, none⟩) (Kd.R_far (p := ⟨gb557, 3, none⟩) (Kd.R_far (p := ⟨gb557, 2, none⟩) (Kd.R_far (p := ⟨gb557, 1, none⟩) (Kd.R_far (p := ⟨gb557, 0, none⟩) (Kd.R_types HO553.out BK557.out (by decide)) (fun _ hk => hk.2) (.int .i64 t544)) (fun _ hk => hk.2) (.int .i64 t545)) (fun _ hk => hk.2) (.int .i64 t546)) (fun _ hk => hk.2) (.string t547)) (fun _ hk => hk.2) (.slice Ao64 t548.length co64)) (fun _ hk => hk.2) (.slice Ao66 t551.length co66)) (fun _ hk => hk.2) (.slice Ao68 t554.length co68)) (fun _ h_ => h_.1))))) (Kd.R_lt (by (with_reducible repeat (first | apply Kd.R_alloc | apply Kd.R_drewN | apply Kd.R_drew)); exact (Kd.R_mono (Kd.R_far (p := ⟨gb557, 6, none⟩) (Kd.R_far (p := ⟨gb557, 5, none⟩) (Kd.R_far (p := ⟨gb557, 4, none⟩) (Kd.R_far (p := ⟨gb557, 3, none⟩) (Kd.R_far (p := ⟨gb557, 2, none⟩) (Kd.R_far (p := ⟨gb557, 1, none⟩) (Kd.R_far (p := ⟨gb557, 0, none⟩) (Kd.R_types HO556.out BK557.out (by decide)) (fun _ hk => hk.2) (.int .i64 t544)) (fun _ hk => hk.2) (.int .i64 t545)) (fun _ hk => hk.2) (.int .i64 t546)) (fun _ hk => hk.2) (.string t547)) (fun _ hk => hk.2) (.slice Ao64 t548.length co64)) (fun _ hk => hk.2) (.slice Ao66 t551.length co66)) (fun _ hk => hk.2) (.slice Ao68 t554.length co68)) (fun _ h_ => h_.1))))) bz_); have HO567 := am_ (Kd.R_lower (Kd.R_new' (Kd.R_new' (Kd.R_new' ho1 (Kd.R_lt (by (with_reducible repeat (first | apply Kd.R_alloc | apply Kd.R_drewN | apply Kd.R_drew)); exact (Kd.R_mono (Kd.R_far (p := ⟨gb557, 6, none⟩) (Kd.R_far (p := ⟨gb557, 5, none⟩) (Kd.R_far (p := ⟨gb557, 4, none⟩) (Kd.R_far (p := ⟨gb557, 3, none⟩) (Kd.R_far (p := ⟨gb557, 2, none⟩) (Kd.R_far (p := ⟨gb557, 1, none⟩) (Kd.R_far (p := ⟨gb557, 0, none⟩) (Kd.R_types HO550.out BK557.out (by decide)) (fun _ hk => hk.2) (.int .i64 t544)) (fun _ hk => hk.2) (.int .i64 t545)) (fun _ hk => hk.2) (.int .i64 t546)) (fun _ hk => hk.2) (.string t547)) (fun _ hk => hk.2) (.slice Ao64 t548.length co64)) (fun _ hk => hk.2) (.slice Ao66 t551.length co66)) (fun _ hk => hk.2) (.slice Ao68 t554.length co68)) (fun _ h_ => h_.1))))) (Kd.R_lt (by (with_reducible repeat (first | apply Kd.R_alloc | apply Kd.R_drewN | apply Kd.R_drew)); exact (Kd.R_mono (Kd.R_far (p := ⟨gb557, 6, none⟩) (Kd.R_far (p := ⟨gb557, 5, none⟩) (Kd.R_far (p := ⟨gb557, 4, none⟩) (Kd.R_far (p := ⟨gb557, 3, none⟩) (Kd.R_far (p := ⟨gb557, 2, none⟩) (Kd.R_far (p := ⟨gb557, 1, none⟩) (Kd.R_far (p := ⟨gb557, 0, none⟩) (Kd.R_types HO553.out BK557.out (by decide)) (fun _ hk => hk.2) (.int .i64 t544)) (fun _ hk => hk.2) (.int .i64 t545)) (fun _ hk => hk.2) (.int .i64 t546)) (fun _ hk => hk.2) (.string t547)) (fun _ hk => hk.2) (.slice Ao64 t548.length co64)) (fun _ hk => hk.2) (.slice Ao66 t551.length co66)) (fun _ hk => hk.2) (.slice Ao68 t554.length co68)) (fun _ h_ => h_.1))))) (Kd.R_lt (by (with_reducible repeat (first | apply Kd.R_alloc | apply Kd.R_drewN | apply Kd.R_drew)); exact (Kd.R_mono (Kd.R_far (p := ⟨gb557, 6, none⟩) (Kd.R_far (p := ⟨gb557, 5, none⟩) (Kd.R_far (p := ⟨gb557, 4, none⟩) (Kd.R_far (p := ⟨gb557, 3, none⟩) (Kd.R_far (p := ⟨gb557, 2, none⟩) (Kd.R_far (p := ⟨gb557, 1, none⟩) (Kd.R_far (p := ⟨gb557, 0, none⟩) (Kd.R_types HO556.out BK557.out (by decide)) (fun _ hk => hk.2) (.int .i64 t544)) (fun _ hk => hk.2) (.int .i64 t545)) (fun _ hk => hk.2) (.int .i64 t546)) (fun _ hk => hk.2) (.string t547)) (fun _ hk => hk.2) (.slice Ao64 t548.length co64)) (fun _ hk => hk.2) (.slice Ao66 t551.length co66)) (fun _ hk => hk.2) (.slice Ao68 t554.length co68)) (fun _ h_ => h_.1))))) bz_); have HO570 := am_ (Kd.R_lower (Kd.R_new' (Kd.R_new' (Kd.R_new' ho2 (Kd.R_lt (by (with_reducible repeat (first | apply Kd.R_alloc | apply Kd.R_drewN | apply Kd.R_drew)); exact (Kd.R_mono (Kd.R_far (p := ⟨gb557, 6, none⟩) (Kd.R_far (p := ⟨gb557, 5, none⟩) (Kd.R_far (p := ⟨gb557, 4, none⟩) (Kd.R_far (p := ⟨gb557, 3, none⟩) (Kd.R_far (p := ⟨gb557, 2, none⟩) (Kd.R_far (p := ⟨gb557, 1, none⟩) (Kd.R_far (p := ⟨gb557, 0, none⟩) (Kd.R_types HO550.out BK557.out (by decide)) (fun _ hk => hk.2) (.int .i64 t544)) (fun _ hk => hk.2) (.int .i64 t545)) (fun _ hk => hk.2) (.int .i64 t546)) (fun _ hk => hk.2) (.string t547)) (fun _ hk => hk.2) (.slice Ao64 t548.length co64)) (fun _ hk => hk.2) (.slice Ao66 t551.length co66)) (fun _ hk => hk.2) (.slice Ao68 t554.length co68)) (fun _ h_ => h_.1))))) (Kd.R_lt (by (with_reducible repeat (first | apply Kd.R_alloc | apply Kd.R_drewN | apply Kd.R_drew)); exact (Kd.R_mono (Kd.R_far (p := ⟨gb557, 6, none⟩) (Kd.R_far (p := ⟨gb557, 5, none⟩) (Kd.R_far (p := ⟨gb557, 4, none⟩) (Kd.R_far (p := ⟨gb557, 3, none⟩) (Kd.R_far (p := ⟨gb557, 2, none⟩) (Kd.R_far (p := ⟨gb557, 1, none⟩) (Kd.R_far (p := ⟨gb557, 0, none⟩) (Kd.R_types HO553.out BK557.out (by decide)) (fun _ hk => hk.2) (.int .i64 t544)) (fun _ hk => hk.2) (.int .i64 t545)) (fun _ hk => hk.2) (.int .i64 t546)) (fun _ hk => hk.2) (.string t547)) (fun _ hk => hk.2) (.slice Ao64 t548.length co64)) (fun _ hk => hk.2) (.slice Ao66 t551.length co66)) (fun _ hk => hk.2) (.slice Ao68 t554.length co68)) (fun _ h_ => h_.1))))) (Kd.R_lt (by (with_reducible repeat (first | apply Kd.R_alloc | apply Kd.R_drewN | apply Kd.R_drew)); exact (Kd.R_mono (Kd.R_far (p := ⟨gb557, 6, none⟩) (Kd.R_far (p := ⟨gb557, 5, none⟩) (Kd.R_far (p := ⟨gb557, 4, none⟩) (Kd.R_far (p := ⟨gb557, 3, none⟩) (Kd.R_far (p := ⟨gb557, 2, none⟩) (Kd.R_far (p := ⟨gb557, 1, none⟩) (Kd.R_far (p := ⟨gb557, 0, none⟩) (Kd.R_types HO556.out BK557.out (by decide)) (fun _ hk => hk.2) (.int .i64 t544)) (fun _ hk => hk.2) (.int .i64 t545)) (fun _ hk => hk.2) (.int .i64 t546)) (fun _ hk => hk.2) (.string t547)) (fun _ hk => hk.2) (.slice Ao64 t548.length co64)) (fun _ hk => hk.2) (.slice Ao66 t551.length co66)) (fun _ hk => hk.2) (.slice Ao68 t554.length co68)) (fun _ h_ => h_.1))))) bz_); replace HO550 := am_ (Kd.R_mono (Kd.R_told (Kd.R_told (Kd.R_told (Kd.R_old (by (with_reducible repeat (first | apply Kd.R_alloc | apply Kd.R_drewN | apply Kd.R_drew)); exact (Kd.R_mono (Kd.R_far (p := ⟨gb557, 6, none⟩) (Kd.R_far (p := ⟨gb557, 5, none⟩) (Kd.R_far (p := ⟨gb557, 4, none⟩) (Kd.R_far (p := ⟨gb557, 3, none⟩) (Kd.R_far (p := ⟨gb557, 2, none⟩) (Kd.R_far (p := ⟨gb557, 1, none⟩) (Kd.R_far (p := ⟨gb557, 0, none⟩) (Kd.R_types HO550.out BK557.out (by decide)) (fun _ hk => hk.2) (.int .i64 t544)) (fun _ hk => hk.2) (.int .i64 t545)) (fun _ hk => hk.2) (.int .i64 t546)) (fun _ hk => hk.2) (.string t547)) (fun _ hk => hk.2) (.slice Ao64 t548.length co64)) (fun _ hk => hk.2) (.slice Ao66 t551.length co66)) (fun _ hk => hk.2) (.slice Ao68 t554.length co68)) (fun _ h_ => h_.1))) hb) (Kd.R_base ho0)) (Kd.R_base ho1)) (Kd.R_base ho2)) (fun _ h_ => h_.1)); replace HO553 := am_ (Kd.R_mono (Kd.R_told (Kd.R_told (Kd.R_told (Kd.R_old (by (with_reducible repeat (first | apply Kd.R_alloc | apply Kd.R_drewN | apply Kd.R_drew)); exact (Kd.R_mono (Kd.R_far (p := ⟨gb557, 6, none⟩) (Kd.R_far (p := ⟨gb557, 5, none⟩) (Kd.R_far (p := ⟨gb557, 4, none⟩) (Kd.R_far (p := ⟨gb557, 3, none⟩) (Kd.R_far (p := ⟨gb557, 2, none⟩) (Kd.R_far (p := ⟨gb557, 1, none⟩) (Kd.R_far (p := ⟨gb557, 0, none⟩) (Kd.R_types HO553.out BK557.out (by decide)) (fun _ hk => hk.2) (.int .i64 t544)) (fun _ hk => hk.2) (.int .i64 t545)) (fun _ hk => hk.2) (.int .i64 t546)) (fun _ hk => hk.2) (.string t547)) (fun _ hk => hk.2) (.slice Ao64 t548.length co64)) (fun _ hk => hk.2) (.slice Ao66 t551.length co66)) (fun _ hk => hk.2) (.slice Ao68 t554.length co68)) (fun _ h_ => h_.1))) hb) (Kd.R_base ho0)) (Kd.R_base ho1)) (Kd.R_base ho2)) (fun _ h_ => h_.1)); replace HO556 := am_ (Kd.R_mono (Kd.R_told (Kd.R_told (Kd.R_told (Kd.R_old (by (with_reducible repeat (first | apply Kd.R_alloc | apply Kd.R_drewN | apply Kd.R_drew)); exact (Kd.R_mono (Kd.R_far (p := ⟨gb557, 6, none⟩) (Kd.R_far (p := ⟨gb557, 5, none⟩) (Kd.R_far (p := ⟨gb557, 4, none⟩) (Kd.R_far (p := ⟨gb557, 3, none⟩) (Kd.R_far (p := ⟨gb557, 2, none⟩) (Kd.R_far (p := ⟨gb557, 1, none⟩) (Kd.R_far (p := ⟨gb557, 0, none⟩) (Kd.R_types HO556.out BK557.out (by decide)) (fun _ hk => hk.2) (.int .i64 t544)) (fun _ hk => hk.2) (.int .i64 t545)) (fun _ hk => hk.2) (.int .i64 t546)) (fun _ hk => hk.2) (.string t547)) (fun _ hk => hk.2) (.slice Ao64 t548.length co64)) (fun _ hk => hk.2) (.slice Ao66 t551.length co66)) (fun _ hk => hk.2) (.slice Ao68 t554.length co68)) (fun _ h_ => h_.1))) hb) (Kd.R_base ho0)) (Kd.R_base ho1)) (Kd.R_base ho2)) (fun _ h_ => h_.1)); replace BK516 := am_ (blk_below (g := gb516) (o := .cells #[.int .i64 a0_0, .slice A0_1 l0_1.length c0_1, .slice A0_2 l0_2.length c0_2] 36 (0, 0)) (by refine bp_ ?_; refine blk_far ?_ NB516_557.out _; refine bp_ ?_; refine blk_far ?_ NB516_557.out _; refine bp_ ?_; refine blk_far ?_ NB516_557.out _; refine bp_ ?_; refine blk_far ?_ NB516_557.out _; refine bp_ ?_; refine blk_far ?_ NB516_557.out _; refine bp_ ?_; refine blk_far ?_ NB516_557.out _; refine bp_ ?_; refine blk_far ?_ NB516_557.out _; exact bk_ BK516.out) hb); replace BK557 := am_ (blk_below (g := gb557) (o := .cells #[.int .i64 t544, .int .i64 t545, .int .i64 t546, .string t547, .slice Ao64 t548.length co64, .slice Ao66 t551.length co66, .slice Ao68 t554.length co68] 42 (0, 0)) (by refine bp_ ?_; refine blk_put (cs := #[.int .i64 t544, .int .i64 t545, .int .i64 t546, .string t547, .slice Ao64 t548.length co64, .slice Ao66 t551.length co66, .slice none 0 0]) ?_ 6 _ rfl; refine bp_ ?_; refine blk_put (cs := #[.int .i64 t544, .int .i64 t545, .int .i64 t546, .string t547, .slice Ao64 t548.length co64, .slice none 0 0, .slice none 0 0]) ?_ 5 _ rfl; refine bp_ ?_; refine blk_put (cs := #[.int .i64 t544, .int .i64 t545, .int .i64 t546, .string t547, .slice none 0 0, .slice none 0 0, .slice none 0 0]) ?_ 4 _ rfl; refine bp_ ?_; refine blk_put (cs := #[.int .i64 t544, .int .i64 t545, .int .i64 t546, .string (⟨#[]⟩ : ByteArray), .slice none 0 0, .slice none 0 0, .slice none 0 0]) ?_ 3 _ rfl; refine bp_ ?_; refine blk_put (cs := #[.int .i64 t544, .int .i64 t545, .int .i64 0, .string (⟨#[]⟩ : ByteArray), .slice none 0 0, .slice none 0 0, .slice none 0 0]) ?_ 2 _ rfl; refine bp_ ?_; refine blk_put (cs := #[.int .i64 t544, .int .i64 0, .int .i64 0, .string (⟨#[]⟩ : ByteArray), .slice none 0 0, .slice none 0 0, .slice none 0 0]) ?_ 1 _ rfl; refine bp_ ?_; refine blk_put (cs := #[.int .i64 0, .int .i64 0, .int .i64 0, .string (⟨#[]⟩ : ByteArray), .slice none 0 0, .slice none 0 0, .slice none 0 0]) ?_ 0 _ rfl; exact bk_ BK557.out) hb); replace HB := bt_ hb; (try clear hb); (try clear hk); (try clear ho0); (try clear ho1); (try clear ho2)) | ((with_reducible refine gate_dst (N := 13) rfl ?_); refine be_ (N := 13) (cs := #[.int .i64 0, .int .i64 0, .int .i64 0, .string (⟨#[]⟩ : ByteArray), .slice none 0 0, .slice none 0 0, .slice none 0 0]) (t := 46) ?_; intro gb571 hg w73 hbox hb; replace HO523 := rw_ HO523 hb; replace HO540 := rw_ HO540 hb; replace HO543 := rw_ HO543 hb; replace HO550 := rw_ HO550 hb; replace HO553 := rw_ HO553 hb; replace HO556 := rw_ HO556 hb; replace HO564 := rw_ HO564 hb; replace HO567 := rw_ HO567 hb; replace HO570 := rw_ HO570 hb; have BK571 := am_ (hbox); have GW571 := gw_ (w := w) hg; have GE571 := gw_ (w := w) hg; replace HB := bt_ hb; have NB516_571 := ne_ hg BK516; have NB571_516 := nf_ hg BK516; replace BK516 := bw_ BK516 hb; have NB557_571 := ne_ hg BK557; have NB571_557 := nf_ hg BK557; replace BK557 := bw_ BK557 hb; clear hb hbox hg; have hnb74 := NB571_516.out; have hnc74 := NB516_571.out; have hnb75 := NB571_557.out; have hnc75 := NB557_571.out; obtain ⟨hcz76_0, hcz76_1, hcz76_2, hcz76_3, hcz76_4, hcz76_5, hcz76_6⟩ := cz7_ BK571.out; obtain ⟨hfz76_0, hfz76_1, hfz76_2, hfz76_3, hfz76_4, hfz76_5, hfz76_6⟩ := fz7_ BK571.out; obtain ⟨Ao77, co77, eo77⟩ := Kd.R_slice HO564.out; subst eo77; obtain ⟨Ao78, co78, eo78⟩ := Kd.R_slice HO567.out; subst eo78; obtain ⟨Ao79, co79, eo79⟩ := Kd.R_slice HO570.out; subst eo79))
   have n0_ : Aside0 (Kd.R k44 44 (((((((w73.setCell ⟨gb571, 0, none⟩ (.int .i64 t558)).setCell ⟨gb571, 1, none⟩ (.int .i64 t559)).setCell ⟨gb571, 2, none⟩ (.int .i64 t560)).setCell ⟨gb571, 3, none⟩ (.string t561)).setCell ⟨gb571, 4, none⟩ (.slice Ao77 t562.length co77)).setCell ⟨gb571, 5, none⟩ (.slice Ao78 t565.length co78)).setCell ⟨gb571, 6, none⟩ (.slice Ao79 t568.length co79)) w.heap.size (fun k_ => some k_ ≠ (.slice Ao53 y538.length co53 : Value).ownBlock) (.slice Ao45 t521.length co45) t521) := ⟨by (with_reducible repeat (first | apply Kd.R_alloc | apply Kd.R_drewN | apply Kd.R_drew)); exact Kd.R_mono (Kd.R_far (p := ⟨gb571, 6, none⟩) (Kd.R_far (p := ⟨gb571, 5, none⟩) (Kd.R_far (p := ⟨gb571, 4, none⟩) (Kd.R_far (p := ⟨gb571, 3, none⟩) (Kd.R_far (p := ⟨gb571, 2, none⟩) (Kd.R_far (p := ⟨gb571, 1, none⟩) (Kd.R_far (p := ⟨gb571, 0, none⟩) (Kd.R_types HO523.out BK571.out (by decide)) (fun _ hk => hk.2) (.int .i64 t558)) (fun _ hk => hk.2) (.int .i64 t559)) (fun _ hk => hk.2) (.int .i64 t560)) (fun _ hk => hk.2) (.string t561)) (fun _ hk => hk.2) (.slice Ao77 t562.length co77)) (fun _ hk => hk.2) (.slice Ao78 t565.length co78)) (fun _ hk => hk.2) (.slice Ao79 t568.length co79)) (fun _ hk => hk.1)⟩
   have n1_ : Aside0 (Kd.R k44 44 (((((((w73.setCell ⟨gb571, 0, none⟩ (.int .i64 t558)).setCell ⟨gb571, 1, none⟩ (.int .i64 t559)).setCell ⟨gb571, 2, none⟩ (.int .i64 t560)).setCell ⟨gb571, 3, none⟩ (.string t561)).setCell ⟨gb571, 4, none⟩ (.slice Ao77 t562.length co77)).setCell ⟨gb571, 5, none⟩ (.slice Ao78 t565.length co78)).setCell ⟨gb571, 6, none⟩ (.slice Ao79 t568.length co79)) w.heap.size (fun k_ => some k_ ≠ (.slice Ao45 t521.length co45 : Value).ownBlock) (.slice Ao53 y538.length co53) y538) := ⟨by (with_reducible repeat (first | apply Kd.R_alloc | apply Kd.R_drewN | apply Kd.R_drew)); exact Kd.R_mono (Kd.R_far (p := ⟨gb571, 6, none⟩) (Kd.R_far (p := ⟨gb571, 5, none⟩) (Kd.R_far (p := ⟨gb571, 4, none⟩) (Kd.R_far (p := ⟨gb571, 3, none⟩) (Kd.R_far (p := ⟨gb571, 2, none⟩) (Kd.R_far (p := ⟨gb571, 1, none⟩) (Kd.R_far (p := ⟨gb571, 0, none⟩) (Kd.R_types HO540.out BK571.out (by decide)) (fun _ hk => hk.2) (.int .i64 t558)) (fun _ hk => hk.2) (.int .i64 t559)) (fun _ hk => hk.2) (.int .i64 t560)) (fun _ hk => hk.2) (.string t561)) (fun _ hk => hk.2) (.slice Ao77 t562.length co77)) (fun _ hk => hk.2) (.slice Ao78 t565.length co78)) (fun _ hk => hk.2) (.slice Ao79 t568.length co79)) (fun _ hk => hk.1)⟩
   have n2_ : Aside0 (Kd.R k28 28 (((((((w73.setCell ⟨gb571, 0, none⟩ (.int .i64 t558)).setCell ⟨gb571, 1, none⟩ (.int .i64 t559)).setCell ⟨gb571, 2, none⟩ (.int .i64 t560)).setCell ⟨gb571, 3, none⟩ (.string t561)).setCell ⟨gb571, 4, none⟩ (.slice Ao77 t562.length co77)).setCell ⟨gb571, 5, none⟩ (.slice Ao78 t565.length co78)).setCell ⟨gb571, 6, none⟩ (.slice Ao79 t568.length co79)) w.heap.size (fun _ => True) v542 t541) := ⟨by (with_reducible repeat (first | apply Kd.R_alloc | apply Kd.R_drewN | apply Kd.R_drew)); exact Kd.R_mono (Kd.R_far (p := ⟨gb571, 6, none⟩) (Kd.R_far (p := ⟨gb571, 5, none⟩) (Kd.R_far (p := ⟨gb571, 4, none⟩) (Kd.R_far (p := ⟨gb571, 3, none⟩) (Kd.R_far (p := ⟨gb571, 2, none⟩) (Kd.R_far (p := ⟨gb571, 1, none⟩) (Kd.R_far (p := ⟨gb571, 0, none⟩) (Kd.R_types HO543.out BK571.out (by decide)) (fun _ hk => hk.2) (.int .i64 t558)) (fun _ hk => hk.2) (.int .i64 t559)) (fun _ hk => hk.2) (.int .i64 t560)) (fun _ hk => hk.2) (.string t561)) (fun _ hk => hk.2) (.slice Ao77 t562.length co77)) (fun _ hk => hk.2) (.slice Ao78 t565.length co78)) (fun _ hk => hk.2) (.slice Ao79 t568.length co79)) (fun _ hk => trivial)⟩
   have n3_ : Aside0 (Kd.R (Kd.int .i64) 3 (((((((w73.setCell ⟨gb571, 0, none⟩ (.int .i64 t558)).setCell ⟨gb571, 1, none⟩ (.int .i64 t559)).setCell ⟨gb571, 2, none⟩ (.int .i64 t560)).setCell ⟨gb571, 3, none⟩ (.string t561)).setCell ⟨gb571, 4, none⟩ (.slice Ao77 t562.length co77)).setCell ⟨gb571, 5, none⟩ (.slice Ao78 t565.length co78)).setCell ⟨gb571, 6, none⟩ (.slice Ao79 t568.length co79)) w.heap.size (fun k_ => some k_ ≠ (.slice Ao66 t551.length co66 : Value).ownBlock ∧ some k_ ≠ (.slice Ao68 t554.length co68 : Value).ownBlock ∧ some k_ ≠ (.slice Ao77 t562.length co77 : Value).ownBlock ∧ some k_ ≠ (.slice Ao78 t565.length co78 : Value).ownBlock ∧ some k_ ≠ (.slice Ao79 t568.length co79 : Value).ownBlock) (.slice Ao64 t548.length co64) t548) := ⟨by (with_reducible repeat (first | apply Kd.R_alloc | apply Kd.R_drewN | apply Kd.R_drew)); exact Kd.R_mono (Kd.R_far (p := ⟨gb571, 6, none⟩) (Kd.R_far (p := ⟨gb571, 5, none⟩) (Kd.R_far (p := ⟨gb571, 4, none⟩) (Kd.R_far (p := ⟨gb571, 3, none⟩) (Kd.R_far (p := ⟨gb571, 2, none⟩) (Kd.R_far (p := ⟨gb571, 1, none⟩) (Kd.R_far (p := ⟨gb571, 0, none⟩) (Kd.R_types HO550.out BK571.out (by decide)) (fun _ hk => hk.2) (.int .i64 t558)) (fun _ hk => hk.2) (.int .i64 t559)) (fun _ hk => hk.2) (.int .i64 t560)) (fun _ hk => hk.2) (.string t561)) (fun _ hk => hk.2) (.slice Ao77 t562.length co77)) (fun _ hk => hk.2) (.slice Ao78 t565.length co78)) (fun _ hk => hk.2) (.slice Ao79 t568.length co79)) (fun _ hk => ⟨hk.1.1.1.1.1, ⟨hk.1.1.1.1.2, ⟨hk.1.1.1.2, ⟨hk.1.1.2, hk.1.2⟩⟩⟩⟩)⟩
   have n4_ : Aside0 (Kd.R (Kd.int .i64) 3 (((((((w73.setCell ⟨gb571, 0, none⟩ (.int .i64 t558)).setCell ⟨gb571, 1, none⟩ (.int .i64 t559)).setCell ⟨gb571, 2, none⟩ (.int .i64 t560)).setCell ⟨gb571, 3, none⟩ (.string t561)).setCell ⟨gb571, 4, none⟩ (.slice Ao77 t562.length co77)).setCell ⟨gb571, 5, none⟩ (.slice Ao78 t565.length co78)).setCell ⟨gb571, 6, none⟩ (.slice Ao79 t568.length co79)) w.heap.size (fun k_ => some k_ ≠ (.slice Ao64 t548.length co64 : Value).ownBlock ∧ some k_ ≠ (.slice Ao68 t554.length co68 : Value).ownBlock ∧ some k_ ≠ (.slice Ao77 t562.length co77 : Value).ownBlock ∧ some k_ ≠ (.slice Ao78 t565.length co78 : Value).ownBlock ∧ some k_ ≠ (.slice Ao79 t568.length co79 : Value).ownBlock) (.slice Ao66 t551.length co66) t551) := ⟨by (with_reducible repeat (first | apply Kd.R_alloc | apply Kd.R_drewN | apply Kd.R_drew)); exact Kd.R_mono (Kd.R_far (p := ⟨gb571, 6, none⟩) (Kd.R_far (p := ⟨gb571, 5, none⟩) (Kd.R_far (p := ⟨gb571, 4, none⟩) (Kd.R_far (p := ⟨gb571, 3, none⟩) (Kd.R_far (p := ⟨gb571, 2, none⟩) (Kd.R_far (p := ⟨gb571, 1, none⟩) (Kd.R_far (p := ⟨gb571, 0, none⟩) (Kd.R_types HO553.out BK571.out (by decide)) (fun _ hk => hk.2) (.int .i64 t558)) (fun _ hk => hk.2) (.int .i64 t559)) (fun _ hk => hk.2) (.int .i64 t560)) (fun _ hk => hk.2) (.string t561)) (fun _ hk => hk.2) (.slice Ao77 t562.length co77)) (fun _ hk => hk.2) (.slice Ao78 t565.length co78)) (fun _ hk => hk.2) (.slice Ao79 t568.length co79)) (fun _ hk => ⟨hk.1.1.1.1.1, ⟨hk.1.1.1.1.2, ⟨hk.1.1.1.2, ⟨hk.1.1.2, hk.1.2⟩⟩⟩⟩)⟩
   have n5_ : Aside0 (Kd.R (Kd.int .i64) 3 (((((((w73.setCell ⟨gb571, 0, none⟩ (.int .i64 t558)).setCell ⟨gb571, 1, none⟩ (.int .i64 t559)).setCell ⟨gb571, 2, none⟩ (.int .i64 t560)).setCell ⟨gb571, 3, none⟩ (.string t561)).setCell ⟨gb571, 4, none⟩ (.slice Ao77 t562.length co77)).setCell ⟨gb571, 5, none⟩ (.slice Ao78 t565.length co78)).setCell ⟨gb571, 6, none⟩ (.slice Ao79 t568.length co79)) w.heap.size (fun k_ => some k_ ≠ (.slice Ao64 t548.length co64 : Value).ownBlock ∧ some k_ ≠ (.slice Ao66 t551.length co66 : Value).ownBlock ∧ some k_ ≠ (.slice Ao77 t562.length co77 : Value).ownBlock ∧ some k_ ≠ (.slice Ao78 t565.length co78 : Value).ownBlock ∧ some k_ ≠ (.slice Ao79 t568.length co79 : Value).ownBlock) (.slice Ao68 t554.length co68) t554) := ⟨by (with_reducible repeat (first | apply Kd.R_alloc | apply Kd.R_drewN | apply Kd.R_drew)); exact Kd.R_mono (Kd.R_far (p := ⟨gb571, 6, none⟩) (Kd.R_far (p := ⟨gb571, 5, none⟩) (Kd.R_far (p := ⟨gb571, 4, none⟩) (Kd.R_far (p := ⟨gb571, 3, none⟩) (Kd.R_far (p := ⟨gb571, 2, none⟩) (Kd.R_far (p := ⟨gb571, 1, none⟩) (Kd.R_far (p := ⟨gb571, 0, none⟩) (Kd.R_types HO556.out BK571.out (by decide)) (fun _ hk => hk.2) (.int .i64 t558)) (fun _ hk => hk.2) (.int .i64 t559)) (fun _ hk => hk.2) (.int .i64 t560)) (fun _ hk => hk.2) (.string t561)) (fun _ hk => hk.2) (.slice Ao77 t562.length co77)) (fun _ hk => hk.2) (.slice Ao78 t565.length co78)) (fun _ hk => hk.2) (.slice Ao79 t568.length co79)) (fun _ hk => ⟨hk.1.1.1.1.1, ⟨hk.1.1.1.1.2, ⟨hk.1.1.1.2, ⟨hk.1.1.2, hk.1.2⟩⟩⟩⟩)⟩
   have n6_ : Aside0 (Kd.R (Kd.int .i64) 3 (((((((w73.setCell ⟨gb571, 0, none⟩ (.int .i64 t558)).setCell ⟨gb571, 1, none⟩ (.int .i64 t559)).setCell ⟨gb571, 2, none⟩ (.int .i64 t560)).setCell ⟨gb571, 3, none⟩ (.string t561)).setCell ⟨gb571, 4, none⟩ (.slice Ao77 t562.length co77)).setCell ⟨gb571, 5, none⟩ (.slice Ao78 t565.length co78)).setCell ⟨gb571, 6, none⟩ (.slice Ao79 t568.length co79)) w.heap.size (fun k_ => some k_ ≠ (.slice Ao64 t548.length co64 : Value).ownBlock ∧ some k_ ≠ (.slice Ao66 t551.length co66 : Value).ownBlock ∧ some k_ ≠ (.slice Ao68 t554.length co68 : Value).ownBlock ∧ some k_ ≠ (.slice Ao78 t565.length co78 : Value).ownBlock ∧ some k_ ≠ (.slice Ao79 t568.length co79 : Value).ownBlock) (.slice Ao77 t562.length co77) t562) := ⟨by (with_reducible repeat (first | apply Kd.R_alloc | apply Kd.R_drewN | apply Kd.R_drew)); exact Kd.R_mono (Kd.R_far (p := ⟨gb571, 6, none⟩) (Kd.R_far (p := ⟨gb571, 5, none⟩) (Kd.R_far (p := ⟨gb571, 4, none⟩) (Kd.R_far (p := ⟨gb571, 3, none⟩) (Kd.R_far (p := ⟨gb571, 2, none⟩) (Kd.R_far (p := ⟨gb571, 1, none⟩) (Kd.R_far (p := ⟨gb571, 0, none⟩) (Kd.R_types HO564.out BK571.out (by decide)) (fun _ hk => hk.2) (.int .i64 t558)) (fun _ hk => hk.2) (.int .i64 t559)) (fun _ hk => hk.2) (.int .i64 t560)) (fun _ hk => hk.2) (.string t561)) (fun _ hk => hk.2) (.slice Ao77 t562.length co77)) (fun _ hk => hk.2) (.slice Ao78 t565.length co78)) (fun _ hk => hk.2) (.slice Ao79 t568.length co79)) (fun _ hk => ⟨hk.1.1.1.2, ⟨hk.1.1.2, ⟨hk.1.2, ⟨hk.1.1.1.1.1, hk.1.1.1.1.2⟩⟩⟩⟩)⟩
   have n7_ : Aside0 (Kd.R (Kd.int .i64) 3 (((((((w73.setCell ⟨gb571, 0, none⟩ (.int .i64 t558)).setCell ⟨gb571, 1, none⟩ (.int .i64 t559)).setCell ⟨gb571, 2, none⟩ (.int .i64 t560)).setCell ⟨gb571, 3, none⟩ (.string t561)).setCell ⟨gb571, 4, none⟩ (.slice Ao77 t562.length co77)).setCell ⟨gb571, 5, none⟩ (.slice Ao78 t565.length co78)).setCell ⟨gb571, 6, none⟩ (.slice Ao79 t568.length co79)) w.heap.size (fun k_ => some k_ ≠ (.slice Ao64 t548.length co64 : Value).ownBlock ∧ some k_ ≠ (.slice Ao66 t551.length co66 : Value).ownBlock ∧ some k_ ≠ (.slice Ao68 t554.length co68 : Value).ownBlock ∧ some k_ ≠ (.slice Ao77 t562.length co77 : Value).ownBlock ∧ some k_ ≠ (.slice Ao79 t568.length co79 : Value).ownBlock) (.slice Ao78 t565.length co78) t565) := ⟨by (with_reducible repeat (first | apply Kd.R_alloc | apply Kd.R_drewN | apply Kd.R_drew)); exact Kd.R_mono (Kd.R_far (p := ⟨gb571, 6, none⟩) (Kd.R_far (p := ⟨gb571, 5, none⟩) (Kd.R_far (p := ⟨gb571, 4, none⟩) (Kd.R_far (p := ⟨gb571, 3, none⟩) (Kd.R_far (p := ⟨gb571, 2, none⟩) (Kd.R_far (p := ⟨gb571, 1, none⟩) (Kd.R_far (p := ⟨gb571, 0, none⟩) (Kd.R_types HO567.out BK571.out (by decide)) (fun _ hk => hk.2) (.int .i64 t558)) (fun _ hk => hk.2) (.int .i64 t559)) (fun _ hk => hk.2) (.int .i64 t560)) (fun _ hk => hk.2) (.string t561)) (fun _ hk => hk.2) (.slice Ao77 t562.length co77)) (fun _ hk => hk.2) (.slice Ao78 t565.length co78)) (fun _ hk => hk.2) (.slice Ao79 t568.length co79)) (fun _ hk => ⟨hk.1.1.1.2, ⟨hk.1.1.2, ⟨hk.1.2, ⟨hk.1.1.1.1.1, hk.1.1.1.1.2⟩⟩⟩⟩)⟩
   have n8_ : Aside0 (Kd.R (Kd.int .i64) 3 (((((((w73.setCell ⟨gb571, 0, none⟩ (.int .i64 t558)).setCell ⟨gb571, 1, none⟩ (.int .i64 t559)).setCell ⟨gb571, 2, none⟩ (.int .i64 t560)).setCell ⟨gb571, 3, none⟩ (.string t561)).setCell ⟨gb571, 4, none⟩ (.slice Ao77 t562.length co77)).setCell ⟨gb571, 5, none⟩ (.slice Ao78 t565.length co78)).setCell ⟨gb571, 6, none⟩ (.slice Ao79 t568.length co79)) w.heap.size (fun k_ => some k_ ≠ (.slice Ao64 t548.length co64 : Value).ownBlock ∧ some k_ ≠ (.slice Ao66 t551.length co66 : Value).ownBlock ∧ some k_ ≠ (.slice Ao68 t554.length co68 : Value).ownBlock ∧ some k_ ≠ (.slice Ao77 t562.length co77 : Value).ownBlock ∧ some k_ ≠ (.slice Ao78 t565.length co78 : Value).ownBlock) (.slice Ao79 t568.length co79) t568) := ⟨by (with_reducible repeat (first | apply Kd.R_alloc | apply Kd.R_drewN | apply Kd.R_drew)); exact Kd.R_mono (Kd.R_far (p := ⟨gb571, 6, none⟩) (Kd.R_far (p := ⟨gb571, 5, none⟩) (Kd.R_far (p := ⟨gb571, 4, none⟩) (Kd.R_far (p := ⟨gb571, 3, none⟩) (Kd.R_far (p := ⟨gb571, 2, none⟩) (Kd.R_far (p := ⟨gb571, 1, none⟩) (Kd.R_far (p := ⟨gb571, 0, none⟩) (Kd.R_types HO570.out BK571.out (by decide)) (fun _ hk => hk.2) (.int .i64 t558)) (fun _ hk => hk.2) (.int .i64 t559)) (fun _ hk => hk.2) (.int .i64 t560)) (fun _ hk => hk.2) (.string t561)) (fun _ hk => hk.2) (.slice Ao77 t562.length co77)) (fun _ hk => hk.2) (.slice Ao78 t565.length co78)) (fun _ hk => hk.2) (.slice Ao79 t568.length co79)) (fun _ hk => ⟨hk.1.1.1.2, ⟨hk.1.1.2, ⟨hk.1.2, ⟨hk.1.1.1.1.1, hk.1.1.1.1.2⟩⟩⟩⟩)⟩
   have n9_ : Aside0 ((((((((w73.setCell ⟨gb571, 0, none⟩ (.int .i64 t558)).setCell ⟨gb571, 1, none⟩ (.int .i64 t559)).setCell ⟨gb571, 2, none⟩ (.int .i64 t560)).setCell ⟨gb571, 3, none⟩ (.string t561)).setCell ⟨gb571, 4, none⟩ (.slice Ao77 t562.length co77)).setCell ⟨gb571, 5, none⟩ (.slice Ao78 t565.length co78)).setCell ⟨gb571, 6, none⟩ (.slice Ao79 t568.length co79)).heap[gb516]? = some (.cells #[.int .i64 a0_0, .slice A0_1 l0_1.length c0_1, .slice A0_2 l0_2.length c0_2] 36 (0, 0))) := ⟨by refine bp_ ?_; refine blk_far ?_ NB516_571.out _; refine bp_ ?_; refine blk_far ?_ NB516_571.out _; refine bp_ ?_; refine blk_far ?_ NB516_571.out _; refine bp_ ?_; refine blk_far ?_ NB516_571.out _; refine bp_ ?_; refine blk_far ?_ NB516_571.out _; refine bp_ ?_; refine blk_far ?_ NB516_571.out _; refine bp_ ?_; refine blk_far ?_ NB516_571.out _; exact bk_ BK516.out⟩
   have n10_ : Aside0 ((((((((w73.setCell ⟨gb571, 0, none⟩ (.int .i64 t558)).setCell ⟨gb571, 1, none⟩ (.int .i64 t559)).setCell ⟨gb571, 2, none⟩ (.int .i64 t560)).setCell ⟨gb571, 3, none⟩ (.string t561)).setCell ⟨gb571, 4, none⟩ (.slice Ao77 t562.length co77)).setCell ⟨gb571, 5, none⟩ (.slice Ao78 t565.length co78)).setCell ⟨gb571, 6, none⟩ (.slice Ao79 t568.length co79)).heap[gb557]? = some (.cells #[.int .i64 t544, .int .i64 t545, .int .i64 t546, .string t547, .slice Ao64 t548.length co64, .slice Ao66 t551.length co66, .slice Ao68 t554.length co68] 42 (0, 0))) := ⟨by refine bp_ ?_; refine blk_far ?_ NB557_571.out _; refine bp_ ?_; refine blk_far ?_ NB557_571.out _; refine bp_ ?_; refine blk_far ?_ NB557_571.out _; refine bp_ ?_; refine blk_far ?_ NB557_571.out _; refine bp_ ?_; refine blk_far ?_ NB557_571.out _; refine bp_ ?_; refine blk_far ?_ NB557_571.out _; refine bp_ ?_; refine blk_far ?_ NB557_571.out _; exact bk_ BK557.out⟩
   have n11_ : Aside0 ((((((((w73.setCell ⟨gb571, 0, none⟩ (.int .i64 t558)).setCell ⟨gb571, 1, none⟩ (.int .i64 t559)).setCell ⟨gb571, 2, none⟩ (.int .i64 t560)).setCell ⟨gb571, 3, none⟩ (.string t561)).setCell ⟨gb571, 4, none⟩ (.slice Ao77 t562.length co77)).setCell ⟨gb571, 5, none⟩ (.slice Ao78 t565.length co78)).setCell ⟨gb571, 6, none⟩ (.slice Ao79 t568.length co79)).heap[gb571]? = some (.cells #[.int .i64 t558, .int .i64 t559, .int .i64 t560, .string t561, .slice Ao77 t562.length co77, .slice Ao78 t565.length co78, .slice Ao79 t568.length co79] 46 (0, 0))) := ⟨by refine bp_ ?_; refine blk_put (cs := #[.int .i64 t558, .int .i64 t559, .int .i64 t560, .string t561, .slice Ao77 t562.length co77, .slice Ao78 t565.length co78, .slice none 0 0]) ?_ 6 _ rfl; refine bp_ ?_; refine blk_put (cs := #[.int .i64 t558, .int .i64 t559, .int .i64 t560, .string t561, .slice Ao77 t562.length co77, .slice none 0 0, .slice none 0 0]) ?_ 5 _ rfl; refine bp_ ?_; refine blk_put (cs := #[.int .i64 t558, .int .i64 t559, .int .i64 t560, .string t561, .slice none 0 0, .slice none 0 0, .slice none 0 0]) ?_ 4 _ rfl; refine bp_ ?_; refine blk_put (cs := #[.int .i64 t558, .int .i64 t559, .int .i64 t560, .string (⟨#[]⟩ : ByteArray), .slice none 0 0, .slice none 0 0, .slice none 0 0]) ?_ 3 _ rfl; refine bp_ ?_; refine blk_put (cs := #[.int .i64 t558, .int .i64 t559, .int .i64 0, .string (⟨#[]⟩ : ByteArray), .slice none 0 0, .slice none 0 0, .slice none 0 0]) ?_ 2 _ rfl; refine bp_ ?_; refine blk_put (cs := #[.int .i64 t558, .int .i64 0, .int .i64 0, .string (⟨#[]⟩ : ByteArray), .slice none 0 0, .slice none 0 0, .slice none 0 0]) ?_ 1 _ rfl; refine bp_ ?_; refine blk_put (cs := #[.int .i64 0, .int .i64 0, .int .i64 0, .string (⟨#[]⟩ : ByteArray), .slice none 0 0, .slice none 0 0, .slice none 0 0]) ?_ 0 _ rfl; exact bk_ BK571.out⟩
   have n12_ : Aside0 (Below w.heap.size w (((((((w73.setCell ⟨gb571, 0, none⟩ (.int .i64 t558)).setCell ⟨gb571, 1, none⟩ (.int .i64 t559)).setCell ⟨gb571, 2, none⟩ (.int .i64 t560)).setCell ⟨gb571, 3, none⟩ (.string t561)).setCell ⟨gb571, 4, none⟩ (.slice Ao77 t562.length co77)).setCell ⟨gb571, 5, none⟩ (.slice Ao78 t565.length co78)).setCell ⟨gb571, 6, none⟩ (.slice Ao79 t568.length co79))) := ⟨bh_⟩
   (try clear HO523)
   (try clear HO540)
   (try clear HO543)
   (try clear HO550)
   (try clear HO553)
   (try clear HO556)
   (try clear HO564)
   (try clear HO567)
   (try clear HO570)
   (try clear BK516)
   (try clear BK557)
   (try clear BK571)
   (try clear HB)
   generalize (((((((w73.setCell ⟨gb571, 0, none⟩ (.int .i64 t558)).setCell ⟨gb571, 1, none⟩ (.int .i64 t559)).setCell ⟨gb571, 2, none⟩ (.int .i64 t560)).setCell ⟨gb571, 3, none⟩ (.string t561)).setCell ⟨gb571, 4, none⟩ (.slice Ao77 t562.length co77)).setCell ⟨gb571, 5, none⟩ (.slice Ao78 t565.length co78)).setCell ⟨gb571, 6, none⟩ (.slice Ao79 t568.length co79)) = w80 at n0_ n1_ n2_ n3_ n4_ n5_ n6_ n7_ n8_ n9_ n10_ n11_ n12_ ⊢
   have HO523 := n0_
   have HO540 := n1_
   have HO543 := n2_
   have HO550 := n3_
   have HO553 := n4_
   have HO556 := n5_
   have HO564 := n6_
   have HO567 := n7_
   have HO570 := n8_
   have BK516 := n9_
   have BK557 := n10_
   have BK571 := n11_
   have HB := n12_
   clear n0_ n1_ n2_ n3_ n4_ n5_ n6_ n7_ n8_ n9_ n10_ n11_ n12_
   replace HO523 := am_ (Kd.R_drew HO523.out)
   replace HO540 := am_ (Kd.R_drew HO540.out)
   replace HO543 := am_ (Kd.R_drew HO543.out)
   replace HO550 := am_ (Kd.R_drew HO550.out)
   replace HO553 := am_ (Kd.R_drew HO553.out)
   replace HO556 := am_ (Kd.R_drew HO556.out)
   replace HO564 := am_ (Kd.R_drew HO564.out)
   replace HO567 := am_ (Kd.R_drew HO567.out)
   replace HO570 := am_ (Kd.R_drew HO570.out)
   replace BK516 := am_ (blk_drew BK516.out)
   replace BK557 := am_ (blk_drew BK557.out)
   replace BK571 := am_ (blk_drew BK571.out)
   replace HB := am_ (below_drew1 HB.out)
   refine start_ (n := 25) (S := fun w' => w'.cell? ⟨gb557, 0, none⟩ = some (.int .i64 t544) ∧ w'.cell? ⟨gb557, 1, none⟩ = some (.int .i64 t545) ∧ w'.cell? ⟨gb557, 2, none⟩ = some (.int .i64 t546) ∧ w'.cell? ⟨gb557, 3, none⟩ = some (.string t547) ∧ w'.cell? ⟨gb557, 4, none⟩ = some (.slice Ao64 t548.length co64) ∧ w'.cell? ⟨gb557, 5, none⟩ = some (.slice Ao66 t551.length co66) ∧ w'.cell? ⟨gb557, 6, none⟩ = some (.slice Ao68 t554.length co68) ∧ w'.cell? ⟨gb571, 0, none⟩ = some (.int .i64 t558) ∧ w'.cell? ⟨gb571, 1, none⟩ = some (.int .i64 t559) ∧ w'.cell? ⟨gb571, 2, none⟩ = some (.int .i64 t560) ∧ w'.cell? ⟨gb571, 3, none⟩ = some (.string t561) ∧ w'.cell? ⟨gb571, 4, none⟩ = some (.slice Ao77 t562.length co77) ∧ w'.cell? ⟨gb571, 5, none⟩ = some (.slice Ao78 t565.length co78) ∧ w'.cell? ⟨gb571, 6, none⟩ = some (.slice Ao79 t568.length co79) ∧ w'.cell? ⟨gb516, 0, none⟩ = some (.int .i64 a0_0) ∧ w'.cell? ⟨gb516, 1, none⟩ = some (.slice A0_1 l0_1.length c0_1) ∧ w'.cell? ⟨gb516, 2, none⟩ = some (.slice A0_2 l0_2.length c0_2)) (ds := []) (bf_ 25 0) (by kernel_rfl) rfl rfl ⟨(blk_cell BK557.out 0).trans rfl, (blk_cell BK557.out 1).trans rfl, (blk_cell BK557.out 2).trans rfl, (blk_cell BK557.out 3).trans rfl, (blk_cell BK557.out 4).trans rfl, (blk_cell BK557.out 5).trans rfl, (blk_cell BK557.out 6).trans rfl, (blk_cell BK571.out 0).trans rfl, (blk_cell BK571.out 1).trans rfl, (blk_cell BK571.out 2).trans rfl, (blk_cell BK571.out 3).trans rfl, (blk_cell BK571.out 4).trans rfl, (blk_cell BK571.out 5).trans rfl, (blk_cell BK571.out 6).trans rfl, (blk_cell BK516.out 0).trans rfl, (blk_cell BK516.out 1).trans rfl, (blk_cell BK516.out 2).trans rfl⟩ (fun hHeld => ?_); refine with_tabW computuslaw21_OccurrenceMatchesReference.tab8 computuslaw21_OccurrenceMatchesReference.bits8 (fun HT_ HW_ => ?_)
   generalize w80.drew = w81 at HO523 HO540 HO543 HO550 HO553 HO556 HO564 HO567 HO570 BK516 BK557 BK571 HB hHeld ⊢
   refine ta_ 0 (some 54) (bf_ 25 1) HT_.out HW_.out hHeld ?_
   refine ta_ 1 (some 55) (bf_ 25 3) HT_.out HW_.out hHeld ?_
   refine one_ (i := 2) (N := some 56) (bf_ 25 7) rfl rfl (one_of HT_.out (by kernel_rfl)) (by decide) (fun K hK => ?_)
   refine gs_ Try.func20 #[.agg #[.int .i64 t544, .int .i64 t545, .int .i64 t546, .string t547, .slice Ao64 t548.length co64, .slice Ao66 t551.length co66, .slice Ao68 t554.length co68], .agg #[.int .i64 t558, .int .i64 t559, .int .i64 t560, .string t561, .slice Ao77 t562.length co77, .slice Ao78 t565.length co78, .slice Ao79 t568.length co79]] ?_
   with_reducible refine (computuslaw21_same.calls kj4 t544 t545 t546 t547 _ _ t548 _ _ t551 _ _ t554 t558 t559 t560 t561 _ _ t562 _ _ t565 _ _ t568 true _ ?side1 ?side2 ?side3 ?side4 ?side5 ?side6 ?side7 ?side8 ?side9 ?side10 ?side11 ?side12 A36.out).mono ?_
   (case side1 => exact ck_ (Kd.R_reads' HO550.out).2.2)
   (case side2 => exact (Kd.R_reads' HO550.out).2.1)
   (case side3 => exact ck_ (Kd.R_reads' HO553.out).2.2)
   (case side4 => exact (Kd.R_reads' HO553.out).2.1)
   (case side5 => exact ck_ (Kd.R_reads' HO556.out).2.2)
   (case side6 => exact (Kd.R_reads' HO556.out).2.1)
   (case side7 => exact ck_ (Kd.R_reads' HO564.out).2.2)
   (case side8 => exact (Kd.R_reads' HO564.out).2.1)
   (case side9 => exact ck_ (Kd.R_reads' HO567.out).2.2)
   (case side10 => exact (Kd.R_reads' HO567.out).2.1)
   (case side11 => exact ck_ (Kd.R_reads' HO570.out).2.2)
   (case side12 => exact (Kd.R_reads' HO570.out).2.1)
   rintro e w82 ⟨rfl, hb⟩
   refine ⟨_, rfl, ?_⟩
   replace HO523 := rw_ HO523 hb
   replace HO540 := rw_ HO540 hb
   replace HO543 := rw_ HO543 hb
   replace HO550 := rw_ HO550 hb
   replace HO553 := rw_ HO553 hb
   replace HO556 := rw_ HO556 hb
   replace HO564 := rw_ HO564 hb
   replace HO567 := rw_ HO567 hb
   replace HO570 := rw_ HO570 hb
   replace BK516 := bw_ BK516 hb
   replace BK557 := bw_ BK557 hb
   replace BK571 := bw_ BK571 hb
   replace HB := bt_ hb
   (try clear hb)
   (try clear hb2)
   (try clear hk)
   (try clear hi)
   refine hK.out _ _ (by first | exact ⟨(blk_cell BK557.out 0).trans rfl, (blk_cell BK557.out 1).trans rfl, (blk_cell BK557.out 2).trans rfl, (blk_cell BK557.out 3).trans rfl, (blk_cell BK557.out 4).trans rfl, (blk_cell BK557.out 5).trans rfl, (blk_cell BK557.out 6).trans rfl, (blk_cell BK571.out 0).trans rfl, (blk_cell BK571.out 1).trans rfl, (blk_cell BK571.out 2).trans rfl, (blk_cell BK571.out 3).trans rfl, (blk_cell BK571.out 4).trans rfl, (blk_cell BK571.out 5).trans rfl, (blk_cell BK571.out 6).trans rfl, (blk_cell BK516.out 0).trans rfl, (blk_cell BK516.out 1).trans rfl, (blk_cell BK516.out 2).trans rfl⟩ | exact hHeld) (fun hHeld => ?_)
   clear hK K
   refine norm_ (a' := ?_) ?_ ?_
   rotate_left
   ·show Act.put _ (some 56) _ = _
    simp only [Act.put, sA_, sZ_, sS_, i64_w, i32_w]
    rfl
   refine pu_ 3 (some 57) (bf_ 25 15) HT_.out ?_
   refine pu_ 7 (some 61) (bf_ 25 143) HT_.out ?_
   refine pu_ 8 (some 62) (bf_ 25 399) HT_.out ?_
   refine pu_ 10 (some 64) (bf_ 25 1423) HT_.out ?_
   refine ta_ 4 (some 58) (bf_ 25 1439) HT_.out HW_.out hHeld ?_
   refine ta_ 5 (some 59) (bf_ 25 1471) HT_.out HW_.out hHeld ?_
   refine ta_ 9 (some 63) (bf_ 25 1983) HT_.out HW_.out hHeld ?_
   refine ta_ 11 (some 65) (bf_ 25 4031) HT_.out HW_.out hHeld ?_
   refine pu_ 12 (some 66) (bf_ 25 8127) HT_.out ?_
   refine one_ (i := 6) (N := some 60) (bf_ 25 8191) rfl rfl (one_of HT_.out (by kernel_rfl)) (by decide) (fun K hK => ?_)
   refine gs_ Try.func21 #[.agg #[.int .i64 a0_0, .slice A0_1 l0_1.length c0_1, .slice A0_2 l0_2.length c0_2], .agg #[.int .i64 t544, .int .i64 t545, .int .i64 t546, .string t547, .slice Ao64 t548.length co64, .slice Ao66 t551.length co66, .slice Ao68 t554.length co68]] ?_
   with_reducible refine (occurrence_Free.calls a0_0 _ _ l0_1 _ _ l0_2 t544 t545 t546 t547 _ _ t548 _ _ t551 _ _ t554 t573 _ ?side1 ?side2 ?side3 ?side4 ?side5 ?side6 ?side7 ?side8 ?side9 ?side10 A38.out).mono ?_
   (case side1 => exact ck_ (Kd.C_below HR0_1.out HB.out))
   (case side2 => exact HC0_1.out)
   (case side3 => exact ck_ (Kd.C_below HR0_2.out HB.out))
   (case side4 => exact HC0_2.out)
   (case side5 => exact ck_ (Kd.R_reads' HO550.out).2.2)
   (case side6 => exact (Kd.R_reads' HO550.out).2.1)
   (case side7 => exact ck_ (Kd.R_reads' HO553.out).2.2)
   (case side8 => exact (Kd.R_reads' HO553.out).2.1)
   (case side9 => exact ck_ (Kd.R_reads' HO556.out).2.2)
   (case side10 => exact (Kd.R_reads' HO556.out).2.1)
   rintro e w83 ⟨rfl, hb⟩
   refine ⟨_, rfl, ?_⟩
   replace HO523 := rw_ HO523 hb
   replace HO540 := rw_ HO540 hb
   replace HO543 := rw_ HO543 hb
   replace HO550 := rw_ HO550 hb
   replace HO553 := rw_ HO553 hb
   replace HO556 := rw_ HO556 hb
   replace HO564 := rw_ HO564 hb
   replace HO567 := rw_ HO567 hb
   replace HO570 := rw_ HO570 hb
   replace BK516 := bw_ BK516 hb
   replace BK557 := bw_ BK557 hb
   replace BK571 := bw_ BK571 hb
   replace HB := bt_ hb
   (try clear hb)
   (try clear hb2)
   (try clear hk)
   (try clear hi)
   refine hK.out _ _ (by first | exact ⟨(blk_cell BK557.out 0).trans rfl, (blk_cell BK557.out 1).trans rfl, (blk_cell BK557.out 2).trans rfl, (blk_cell BK557.out 3).trans rfl, (blk_cell BK557.out 4).trans rfl, (blk_cell BK557.out 5).trans rfl, (blk_cell BK557.out 6).trans rfl, (blk_cell BK571.out 0).trans rfl, (blk_cell BK571.out 1).trans rfl, (blk_cell BK571.out 2).trans rfl, (blk_cell BK571.out 3).trans rfl, (blk_cell BK571.out 4).trans rfl, (blk_cell BK571.out 5).trans rfl, (blk_cell BK571.out 6).trans rfl, (blk_cell BK516.out 0).trans rfl, (blk_cell BK516.out 1).trans rfl, (blk_cell BK516.out 2).trans rfl⟩ | exact hHeld) (fun hHeld => ?_)
   clear hK K
   refine norm_ (a' := ?_) ?_ ?_
   rotate_left
   ·show Act.put _ (some 60) _ = _
    simp only [Act.put, sA_, sZ_, sS_, i64_w, i32_w]
    rfl
   refine pu_ 13 (some 67) (bf_ 25 16383) HT_.out ?_
   refine pu_ 14 (some 68) (bf_ 25 32767) HT_.out ?_
   refine pu_ 15 (some 69) (bf_ 25 65535) HT_.out ?_
   refine ta_ 16 (some 70) (bf_ 25 131071) HT_.out HW_.out hHeld ?_
   refine ta_ 17 (some 71) (bf_ 25 262143) HT_.out HW_.out hHeld ?_
   refine ta_ 19 (some 73) (bf_ 25 786431) HT_.out HW_.out hHeld ?_
   refine ta_ 20 (some 74) (bf_ 25 1835007) HT_.out HW_.out hHeld ?_
   refine one_ (i := 18) (N := some 72) (bf_ 25 2097151) rfl rfl (one_of HT_.out (by kernel_rfl)) (by decide) (fun K hK => ?_)
   refine gs_ Try.func22 #[.agg #[.int .i64 a0_0, .slice A0_1 l0_1.length c0_1, .slice A0_2 l0_2.length c0_2], .agg #[.int .i64 t544, .int .i64 t545, .int .i64 t546, .string t547, .slice Ao64 t548.length co64, .slice Ao66 t551.length co66, .slice Ao68 t554.length co68]] ?_
   with_reducible refine (occurrence_Displace.calls a0_0 _ _ l0_1 _ _ l0_2 t544 t545 t546 t547 _ _ t548 _ _ t551 _ _ t554 t574 t575 t576 t577 t578 t581 t584 _ ?side1 ?side2 ?side3 ?side4 ?side5 ?side6 ?side7 ?side8 ?side9 ?side10 A40.out).mono ?_
   (case side1 => exact ck_ (Kd.C_below HR0_1.out HB.out))
   (case side2 => exact HC0_1.out)
   (case side3 => exact ck_ (Kd.C_below HR0_2.out HB.out))
   (case side4 => exact HC0_2.out)
   (case side5 => exact ck_ (Kd.R_reads' HO550.out).2.2)
   (case side6 => exact (Kd.R_reads' HO550.out).2.1)
   (case side7 => exact ck_ (Kd.R_reads' HO553.out).2.2)
   (case side8 => exact (Kd.R_reads' HO553.out).2.1)
   (case side9 => exact ck_ (Kd.R_reads' HO556.out).2.2)
   (case side10 => exact (Kd.R_reads' HO556.out).2.1)
   rintro e w84 ⟨v579, v582, v585, rfl, ho0, ho1, ho2, hb⟩
   refine ⟨_, rfl, ?_⟩
   replace HO523 := rw_ HO523 hb
   replace HO540 := rw_ HO540 hb
   replace HO543 := rw_ HO543 hb
   have HO580 := am_ (Kd.R_lower (Kd.R_new' (Kd.R_new' (Kd.R_new' (Kd.R_new' (Kd.R_new' (Kd.R_new' ho0 (Kd.R_lt (rk_ HO550.out))) (Kd.R_lt (rk_ HO553.out))) (Kd.R_lt (rk_ HO556.out))) (Kd.R_lt (rk_ HO564.out))) (Kd.R_lt (rk_ HO567.out))) (Kd.R_lt (rk_ HO570.out))) bz_)
   have HO583 := am_ (Kd.R_lower (Kd.R_new' (Kd.R_new' (Kd.R_new' (Kd.R_new' (Kd.R_new' (Kd.R_new' ho1 (Kd.R_lt (rk_ HO550.out))) (Kd.R_lt (rk_ HO553.out))) (Kd.R_lt (rk_ HO556.out))) (Kd.R_lt (rk_ HO564.out))) (Kd.R_lt (rk_ HO567.out))) (Kd.R_lt (rk_ HO570.out))) bz_)
   have HO586 := am_ (Kd.R_lower (Kd.R_new' (Kd.R_new' (Kd.R_new' (Kd.R_new' (Kd.R_new' (Kd.R_new' ho2 (Kd.R_lt (rk_ HO550.out))) (Kd.R_lt (rk_ HO553.out))) (Kd.R_lt (rk_ HO556.out))) (Kd.R_lt (rk_ HO564.out))) (Kd.R_lt (rk_ HO567.out))) (Kd.R_lt (rk_ HO570.out))) bz_)
   replace HO550 := am_ (Kd.R_mono (Kd.R_told (Kd.R_told (Kd.R_told (Kd.R_old (rk_ HO550.out) hb) (Kd.R_base ho0)) (Kd.R_base ho1)) (Kd.R_base ho2)) (fun _ h_ => h_.1))
   replace HO553 := am_ (Kd.R_mono (Kd.R_told (Kd.R_told (Kd.R_told (Kd.R_old (rk_ HO553.out) hb) (Kd.R_base ho0)) (Kd.R_base ho1)) (Kd.R_base ho2)) (fun _ h_ => h_.1))
   replace HO556 := am_ (Kd.R_mono (Kd.R_told (Kd.R_told (Kd.R_told (Kd.R_old (rk_ HO556.out) hb) (Kd.R_base ho0)) (Kd.R_base ho1)) (Kd.R_base ho2)) (fun _ h_ => h_.1))
   replace HO564 := am_ (Kd.R_mono (Kd.R_told (Kd.R_told (Kd.R_told (Kd.R_old (rk_ HO564.out) hb) (Kd.R_base ho0)) (Kd.R_base ho1)) (Kd.R_base ho2)) (fun _ h_ => h_.1))
   replace HO567 := am_ (Kd.R_mono (Kd.R_told (Kd.R_told (Kd.R_told (Kd.R_old (rk_ HO567.out) hb) (Kd.R_base ho0)) (Kd.R_base ho1)) (Kd.R_base ho2)) (fun _ h_ => h_.1))
   replace HO570 := am_ (Kd.R_mono (Kd.R_told (Kd.R_told (Kd.R_told (Kd.R_old (rk_ HO570.out) hb) (Kd.R_base ho0)) (Kd.R_base ho1)) (Kd.R_base ho2)) (fun _ h_ => h_.1))
   replace BK516 := bw_ BK516 hb
   replace BK557 := bw_ BK557 hb
   replace BK571 := bw_ BK571 hb
   replace HB := bt_ hb
   (try clear hb)
   (try clear hb2)
   (try clear hk)
   (try clear hi)
   (try clear ho0)
   (try clear ho1)
   (try clear ho2)
   refine hK.out _ _ (by first | exact ⟨(blk_cell BK557.out 0).trans rfl, (blk_cell BK557.out 1).trans rfl, (blk_cell BK557.out 2).trans rfl, (blk_cell BK557.out 3).trans rfl, (blk_cell BK557.out 4).trans rfl, (blk_cell BK557.out 5).trans rfl, (blk_cell BK557.out 6).trans rfl, (blk_cell BK571.out 0).trans rfl, (blk_cell BK571.out 1).trans rfl, (blk_cell BK571.out 2).trans rfl, (blk_cell BK571.out 3).trans rfl, (blk_cell BK571.out 4).trans rfl, (blk_cell BK571.out 5).trans rfl, (blk_cell BK571.out 6).trans rfl, (blk_cell BK516.out 0).trans rfl, (blk_cell BK516.out 1).trans rfl, (blk_cell BK516.out 2).trans rfl⟩ | exact hHeld) (fun hHeld => ?_)
   clear hK K
   refine norm_ (a' := ?_) ?_ ?_
   rotate_left
   ·show Act.put _ (some 72) _ = _
    simp only [Act.put, sA_, sZ_, sS_, i64_w, i32_w]
    rfl
   refine one_ (i := 21) (N := some 75) (bf_ 25 4194303) rfl rfl (one_of HT_.out (by kernel_rfl)) (by decide) (fun K hK => ?_)
   refine gs_ Try.func23 #[.agg #[.int .i64 a0_0, .slice A0_1 l0_1.length c0_1, .slice A0_2 l0_2.length c0_2], .agg #[.int .i64 t558, .int .i64 t559, .int .i64 t560, .string t561, .slice Ao77 t562.length co77, .slice Ao78 t565.length co78, .slice Ao79 t568.length co79]] ?_
   with_reducible refine (computusref21_Displace.calls a0_0 _ _ l0_1 _ _ l0_2 t558 t559 t560 t561 _ _ t562 _ _ t565 _ _ t568 t587 t588 t589 t590 t591 t594 t597 _ ?side1 ?side2 ?side3 ?side4 ?side5 ?side6 ?side7 ?side8 ?side9 ?side10 A41.out).mono ?_
   (case side1 => exact ck_ (Kd.C_below HR0_1.out HB.out))
   (case side2 => exact HC0_1.out)
   (case side3 => exact ck_ (Kd.C_below HR0_2.out HB.out))
   (case side4 => exact HC0_2.out)
   (case side5 => exact ck_ (Kd.R_reads' HO564.out).2.2)
   (case side6 => exact (Kd.R_reads' HO564.out).2.1)
   (case side7 => exact ck_ (Kd.R_reads' HO567.out).2.2)
   (case side8 => exact (Kd.R_reads' HO567.out).2.1)
   (case side9 => exact ck_ (Kd.R_reads' HO570.out).2.2)
   (case side10 => exact (Kd.R_reads' HO570.out).2.1)
   rintro e w85 ⟨v592, v595, v598, rfl, ho0, ho1, ho2, hb⟩
   refine ⟨_, rfl, ?_⟩
   replace HO523 := rw_ HO523 hb
   replace HO540 := rw_ HO540 hb
   replace HO543 := rw_ HO543 hb
   have HO593 := am_ (Kd.R_lower (Kd.R_new' (Kd.R_new' (Kd.R_new' (Kd.R_new' (Kd.R_new' (Kd.R_new' (Kd.R_new' (Kd.R_new' (Kd.R_new' ho0 (Kd.R_lt (rk_ HO550.out))) (Kd.R_lt (rk_ HO553.out))) (Kd.R_lt (rk_ HO556.out))) (Kd.R_lt (rk_ HO564.out))) (Kd.R_lt (rk_ HO567.out))) (Kd.R_lt (rk_ HO570.out))) (Kd.R_lt (rk_ HO580.out))) (Kd.R_lt (rk_ HO583.out))) (Kd.R_lt (rk_ HO586.out))) bz_)
   have HO596 := am_ (Kd.R_lower (Kd.R_new' (Kd.R_new' (Kd.R_new' (Kd.R_new' (Kd.R_new' (Kd.R_new' (Kd.R_new' (Kd.R_new' (Kd.R_new' ho1 (Kd.R_lt (rk_ HO550.out))) (Kd.R_lt (rk_ HO553.out))) (Kd.R_lt (rk_ HO556.out))) (Kd.R_lt (rk_ HO564.out))) (Kd.R_lt (rk_ HO567.out))) (Kd.R_lt (rk_ HO570.out))) (Kd.R_lt (rk_ HO580.out))) (Kd.R_lt (rk_ HO583.out))) (Kd.R_lt (rk_ HO586.out))) bz_)
   have HO599 := am_ (Kd.R_lower (Kd.R_new' (Kd.R_new' (Kd.R_new' (Kd.R_new' (Kd.R_new' (Kd.R_new' (Kd.R_new' (Kd.R_new' (Kd.R_new' ho2 (Kd.R_lt (rk_ HO550.out))) (Kd.R_lt (rk_ HO553.out))) (Kd.R_lt (rk_ HO556.out))) (Kd.R_lt (rk_ HO564.out))) (Kd.R_lt (rk_ HO567.out))) (Kd.R_lt (rk_ HO570.out))) (Kd.R_lt (rk_ HO580.out))) (Kd.R_lt (rk_ HO583.out))) (Kd.R_lt (rk_ HO586.out))) bz_)
   replace HO550 := am_ (Kd.R_mono (Kd.R_told (Kd.R_told (Kd.R_told (Kd.R_old (rk_ HO550.out) hb) (Kd.R_base ho0)) (Kd.R_base ho1)) (Kd.R_base ho2)) (fun _ h_ => h_.1))
   replace HO553 := am_ (Kd.R_mono (Kd.R_told (Kd.R_told (Kd.R_told (Kd.R_old (rk_ HO553.out) hb) (Kd.R_base ho0)) (Kd.R_base ho1)) (Kd.R_base ho2)) (fun _ h_ => h_.1))
   replace HO556 := am_ (Kd.R_mono (Kd.R_told (Kd.R_told (Kd.R_told (Kd.R_old (rk_ HO556.out) hb) (Kd.R_base ho0)) (Kd.R_base ho1)) (Kd.R_base ho2)) (fun _ h_ => h_.1))
   replace HO564 := am_ (Kd.R_mono (Kd.R_told (Kd.R_told (Kd.R_told (Kd.R_old (rk_ HO564.out) hb) (Kd.R_base ho0)) (Kd.R_base ho1)) (Kd.R_base ho2)) (fun _ h_ => h_.1))
   replace HO567 := am_ (Kd.R_mono (Kd.R_told (Kd.R_told (Kd.R_told (Kd.R_old (rk_ HO567.out) hb) (Kd.R_base ho0)) (Kd.R_base ho1)) (Kd.R_base ho2)) (fun _ h_ => h_.1))
   replace HO570 := am_ (Kd.R_mono (Kd.R_told (Kd.R_told (Kd.R_told (Kd.R_old (rk_ HO570.out) hb) (Kd.R_base ho0)) (Kd.R_base ho1)) (Kd.R_base ho2)) (fun _ h_ => h_.1))
   replace HO580 := am_ (Kd.R_mono (Kd.R_told (Kd.R_told (Kd.R_told (Kd.R_old (rk_ HO580.out) hb) (Kd.R_base ho0)) (Kd.R_base ho1)) (Kd.R_base ho2)) (fun _ h_ => h_.1))
   replace HO583 := am_ (Kd.R_mono (Kd.R_told (Kd.R_told (Kd.R_told (Kd.R_old (rk_ HO583.out) hb) (Kd.R_base ho0)) (Kd.R_base ho1)) (Kd.R_base ho2)) (fun _ h_ => h_.1))
   replace HO586 := am_ (Kd.R_mono (Kd.R_told (Kd.R_told (Kd.R_told (Kd.R_old (rk_ HO586.out) hb) (Kd.R_base ho0)) (Kd.R_base ho1)) (Kd.R_base ho2)) (fun _ h_ => h_.1))
   replace BK516 := bw_ BK516 hb
   replace BK557 := bw_ BK557 hb
   replace BK571 := bw_ BK571 hb
   replace HB := bt_ hb
   (try clear hb)
   (try clear hb2)
   (try clear hk)
   (try clear hi)
   (try clear ho0)
   (try clear ho1)
   (try clear ho2)
   obtain ⟨Ao86, co86, eo86⟩ := Kd.R_slice HO580.out
   (first | subst eo86 | (injection eo86 with f1_ f2_ f3_; have f4_ := f1_.symm; have f5_ := f3_.symm; clear f1_ f2_ f3_; subst f4_; subst f5_))
   obtain ⟨Ao87, co87, eo87⟩ := Kd.R_slice HO583.out
   (first | subst eo87 | (injection eo87 with f1_ f2_ f3_; have f4_ := f1_.symm; have f5_ := f3_.symm; clear f1_ f2_ f3_; subst f4_; subst f5_))
   obtain ⟨Ao88, co88, eo88⟩ := Kd.R_slice HO586.out
   (first | subst eo88 | (injection eo88 with f1_ f2_ f3_; have f4_ := f1_.symm; have f5_ := f3_.symm; clear f1_ f2_ f3_; subst f4_; subst f5_))
   obtain ⟨Ao89, co89, eo89⟩ := Kd.R_slice HO593.out
   (first | subst eo89 | (injection eo89 with f1_ f2_ f3_; have f4_ := f1_.symm; have f5_ := f3_.symm; clear f1_ f2_ f3_; subst f4_; subst f5_))
   obtain ⟨Ao90, co90, eo90⟩ := Kd.R_slice HO596.out
   (first | subst eo90 | (injection eo90 with f1_ f2_ f3_; have f4_ := f1_.symm; have f5_ := f3_.symm; clear f1_ f2_ f3_; subst f4_; subst f5_))
   obtain ⟨Ao91, co91, eo91⟩ := Kd.R_slice HO599.out
   (first | subst eo91 | (injection eo91 with f1_ f2_ f3_; have f4_ := f1_.symm; have f5_ := f3_.symm; clear f1_ f2_ f3_; subst f4_; subst f5_))
   refine hK.out _ _ (by first | exact ⟨(blk_cell BK557.out 0).trans rfl, (blk_cell BK557.out 1).trans rfl, (blk_cell BK557.out 2).trans rfl, (blk_cell BK557.out 3).trans rfl, (blk_cell BK557.out 4).trans rfl, (blk_cell BK557.out 5).trans rfl, (blk_cell BK557.out 6).trans rfl, (blk_cell BK571.out 0).trans rfl, (blk_cell BK571.out 1).trans rfl, (blk_cell BK571.out 2).trans rfl, (blk_cell BK571.out 3).trans rfl, (blk_cell BK571.out 4).trans rfl, (blk_cell BK571.out 5).trans rfl, (blk_cell BK571.out 6).trans rfl, (blk_cell BK516.out 0).trans rfl, (blk_cell BK516.out 1).trans rfl, (blk_cell BK516.out 2).trans rfl⟩ | exact hHeld) (fun hHeld => ?_)
   clear hK K
   refine norm_ (a' := ?_) ?_ ?_
   rotate_left
   ·show Act.put _ (some 75) _ = _
    simp only [Act.put, sA_, sZ_, sS_, i64_w, i32_w]
    rfl
   refine one_ (i := 22) (N := some 76) (bf_ 25 8388607) rfl rfl (one_of HT_.out (by kernel_rfl)) (by decide) (fun K hK => ?_)
   refine gs_ Try.func20 #[.agg #[.int .i64 t574, .int .i64 t575, .int .i64 t576, .string t577, .slice Ao86 t578.length co86, .slice Ao87 t581.length co87, .slice Ao88 t584.length co88], .agg #[.int .i64 t587, .int .i64 t588, .int .i64 t589, .string t590, .slice Ao89 t591.length co89, .slice Ao90 t594.length co90, .slice Ao91 t597.length co91]] ?_
   with_reducible refine (computuslaw21_same.calls kj4 t574 t575 t576 t577 _ _ t578 _ _ t581 _ _ t584 t587 t588 t589 t590 _ _ t591 _ _ t594 _ _ t597 t600 _ ?side1 ?side2 ?side3 ?side4 ?side5 ?side6 ?side7 ?side8 ?side9 ?side10 ?side11 ?side12 A42.out).mono ?_
   (case side1 => exact ck_ (Kd.R_reads' HO580.out).2.2)
   (case side2 => exact (Kd.R_reads' HO580.out).2.1)
   (case side3 => exact ck_ (Kd.R_reads' HO583.out).2.2)
   (case side4 => exact (Kd.R_reads' HO583.out).2.1)
   (case side5 => exact ck_ (Kd.R_reads' HO586.out).2.2)
   (case side6 => exact (Kd.R_reads' HO586.out).2.1)
   (case side7 => exact ck_ (Kd.R_reads' HO593.out).2.2)
   (case side8 => exact (Kd.R_reads' HO593.out).2.1)
   (case side9 => exact ck_ (Kd.R_reads' HO596.out).2.2)
   (case side10 => exact (Kd.R_reads' HO596.out).2.1)
   (case side11 => exact ck_ (Kd.R_reads' HO599.out).2.2)
   (case side12 => exact (Kd.R_reads' HO599.out).2.1)
   rintro e w92 ⟨rfl, hb⟩
   refine ⟨_, rfl, ?_⟩
   replace HO523 := rw_ HO523 hb
   replace HO540 := rw_ HO540 hb
   replace HO543 := rw_ HO543 hb
   replace HO550 := rw_ HO550 hb
   replace HO553 := rw_ HO553 hb
   replace HO556 := rw_ HO556 hb
   replace HO564 := rw_ HO564 hb
   replace HO567 := rw_ HO567 hb
   replace HO570 := rw_ HO570 hb
   replace HO580 := rw_ HO580 hb
   replace HO583 := rw_ HO583 hb
   replace HO586 := rw_ HO586 hb
   replace HO593 := rw_ HO593 hb
   replace HO596 := rw_ HO596 hb
   replace HO599 := rw_ HO599 hb
   replace BK516 := bw_ BK516 hb
   replace BK557 := bw_ BK557 hb
   replace BK571 := bw_ BK571 hb
   replace HB := bt_ hb
   (try clear hb)
   (try clear hb2)
   (try clear hk)
   (try clear hi)
   refine hK.out _ _ (by first | exact ⟨(blk_cell BK557.out 0).trans rfl, (blk_cell BK557.out 1).trans rfl, (blk_cell BK557.out 2).trans rfl, (blk_cell BK557.out 3).trans rfl, (blk_cell BK557.out 4).trans rfl, (blk_cell BK557.out 5).trans rfl, (blk_cell BK557.out 6).trans rfl, (blk_cell BK571.out 0).trans rfl, (blk_cell BK571.out 1).trans rfl, (blk_cell BK571.out 2).trans rfl, (blk_cell BK571.out 3).trans rfl, (blk_cell BK571.out 4).trans rfl, (blk_cell BK571.out 5).trans rfl, (blk_cell BK571.out 6).trans rfl, (blk_cell BK516.out 0).trans rfl, (blk_cell BK516.out 1).trans rfl, (blk_cell BK516.out 2).trans rfl⟩ | exact hHeld) (fun hHeld => ?_)
   clear hK K
   refine norm_ (a' := ?_) ?_ ?_
   rotate_left
   ·show Act.put _ (some 76) _ = _
    simp only [Act.put, sA_, sZ_, sS_, i64_w, i32_w]
    rfl
   refine pu_ 23 (some 77) (bf_ 25 16777215) HT_.out ?_
   refine pu_ 24 (some 8) (bf_ 25 33554431) HT_.out ?_
   refine done_ (done_of HT_.out (by kernel_rfl)) ?_
   try go_wp2
   all_goals (first | (exfalso; simp_all; done) | (exfalso; simp_all; omega) | (go_ret; exact ⟨by first | rfl | (simp [errW_none, errW_some] <;> rfl) | (simp only [← hji26]; first | rfl | (simp [errW_none, errW_some] <;> rfl)) | (simp [*, errW_none, errW_some] <;> rfl), bh_⟩))
def computuslaw21_OccurrenceMatchesReference.Pure : Prop := ∀ (a0_0 : Int) (l0_1 : List (S66)) (l0_2 : List (S68)) (a1 : Int) (a2 : Int) (a3 : Int), (Lit.int .i64 a0_0).wf = true → l0_1.length ≤ maxLen → (∀ x ∈ l0_1, wf66 x) → l0_2.length ≤ maxLen → (∀ x ∈ l0_2, wf68 x) → (Lit.int .i64 a1).wf = true → (Lit.int .i64 a2).wf = true → (Lit.int .u8 a3).wf = true → ∃ k, computuslaw21_OccurrenceMatchesReference.f k a0_0 l0_1 l0_2 a1 a2 a3 = some true

end Go.Proofs.Ytopfjjdkffdjpaa.Q
end
section
namespace Go.Proofs.Ytopfjjdkffdjpaa.Cal
def lp (c y : Int) : Bool := if c = 1 then decide (y % 4 = 0) else (decide (y % 4 = 0) && (!decide (y % 100 = 0) || decide (y % 400 = 0)))
def mlen (b : Bool) (m : Int) : Int := if m = 2 then (if b then 29 else 28) else if m = 4 ∨ m = 6 ∨ m = 9 ∨ m = 11 then 30 else if 1 ≤ m ∧ m ≤ 12 then 31 else 0
def cum (b : Bool) : Nat → Int
 | 0 => 0
 | 1 => 0
 | m + 2 => cum b (m + 1) + mlen b ((m + 1 : Nat) : Int)
def fst (c y : Int) : Int := if c = 1 then 365 * (y - 1) + (y - 1) / 4 - 1 else 365 * (y - 1) + (y - 1) / 4 - (y - 1) / 100 + (y - 1) / 400 + 1
def ylen (c y : Int) : Int := if lp c y then 366 else 365
theorem fst_next (c y : Int) : fst c (y + 1) = fst c y + ylen c y := by
 unfold fst ylen lp
 by_cases hc : c = 1
 ·rw [if_pos hc, if_pos hc, if_pos hc]
  by_cases h : y % 4 = 0
  ·rw [decide_eq_true h, if_pos rfl]; omega
  ·rw [decide_eq_false h, if_neg (by simp)]; omega
 ·rw [if_neg hc, if_neg hc, if_neg hc]
  by_cases h : y % 4 = 0
  ·by_cases h1 : y % 100 = 0
   ·by_cases h2 : y % 400 = 0
    ·rw [decide_eq_true h, decide_eq_true h2, Bool.or_true, Bool.and_true, if_pos rfl]; omega
    ·rw [decide_eq_true h1, decide_eq_false h2, Bool.not_true, Bool.or_false, Bool.and_false, if_neg (by simp)]; omega
   ·rw [decide_eq_true h, decide_eq_false h1, Bool.not_false, Bool.true_or, Bool.and_true, if_pos rfl]; omega
  ·rw [decide_eq_false h, Bool.false_and, if_neg (by simp)]; omega
theorem ylen_le (c y : Int) : 365 ≤ ylen c y ∧ ylen c y ≤ 366 := by unfold ylen; split <;> omega
theorem fst_mono (c : Int) {a b : Int} (h : a ≤ b) : fst c a + 365 * (b - a) ≤ fst c b := by
 obtain ⟨n, rfl⟩ : ∃ n : Nat, b = a + n := ⟨(b - a).toNat, by omega⟩
 induction n with
 | zero => simp
 | succ n ih =>
  have h1 := fst_next c (a + n)
  have h2 := ylen_le c (a + n)
  have h3 := ih (by omega)
  rw [show a + ((n + 1 : Nat) : Int) = a + n + 1 by omega, h1]
  omega
theorem year_one {c a b n : Int} (h1 : fst c a ≤ n) (h2 : n < fst c (a + 1)) (h3 : fst c b ≤ n) (h4 : n < fst c (b + 1)) : a = b := by
 rcases Int.lt_trichotomy a b with h | h | h
 ·have := fst_mono c (show a + 1 ≤ b by omega); omega
 ·exact h
 ·have := fst_mono c (show b + 1 ≤ a by omega); omega
theorem fst_bounds (c : Int) {y : Int} (h0 : -10 ≤ y) (h1 : y ≤ 1000000010) : -5000 ≤ fst c y ∧ fst c y ≤ 370000000000 := by unfold fst; split <;> omega
theorem fst_pos {y : Int} (h : 1583 ≤ y) : 577000 ≤ fst 2 y := by unfold fst; rw [if_neg (by omega)]; omega
theorem mlen_range (b : Bool) {m : Int} (h : 1 ≤ m ∧ m ≤ 12) : 28 ≤ mlen b m ∧ mlen b m ≤ 31 := by
 unfold mlen
 split
 ·split <;> omega
 ·split
  ·omega
  ·first | omega | (rw [if_pos h]; omega)
theorem mlen_zero (b : Bool) {m : Int} (h : ¬ (1 ≤ m ∧ m ≤ 12)) : mlen b m = 0 := by
 unfold mlen
 rw [if_neg (by omega), if_neg (by omega), if_neg h]
theorem mlen_nonneg (b : Bool) (m : Int) : 0 ≤ mlen b m ∧ mlen b m ≤ 31 := by
 by_cases h : 1 ≤ m ∧ m ≤ 12
 ·have := mlen_range b h; omega
 ·rw [mlen_zero b h]; omega
theorem cum_succ (b : Bool) {m : Nat} (h : 1 ≤ m) : cum b (m + 1) = cum b m + mlen b (m : Int) := by
 obtain ⟨k, rfl⟩ : ∃ k, m = k + 1 := ⟨m - 1, by omega⟩
 rfl
theorem cum_all : ∀ b : Bool, cum b 13 = if b then 366 else 365 := by decide
theorem cum_tab : ∀ b : Bool, ∀ m : Nat, m < 14 → 0 ≤ cum b m ∧ cum b m ≤ 366 := by decide
theorem cum_mono (b : Bool) {m k : Nat} (h1 : 1 ≤ m) (h : m ≤ k) : cum b m ≤ cum b k := by
 obtain ⟨n, rfl⟩ : ∃ n : Nat, k = m + n := ⟨k - m, by omega⟩
 induction n with
 | zero => simp
 | succ n ih =>
  have := cum_succ b (m := m + n) (by omega)
  have h3 := (mlen_nonneg b ((m + n : Nat) : Int)).1
  have h4 := ih (by omega)
  rw [show m + (n + 1) = m + n + 1 by omega, this]
  omega
structure Date where
 y : Int
 m : Int
 d : Int
 deriving DecidableEq
def Ok (c : Int) (x : Date) : Prop := 1 ≤ x.y ∧ x.y ≤ 1000000000 ∧ 1 ≤ x.m ∧ x.m ≤ 12 ∧ 1 ≤ x.d ∧ x.d ≤ mlen (lp c x.y) x.m
instance (c : Int) (x : Date) : Decidable (Ok c x) := by unfold Ok; infer_instance
def num (c : Int) (x : Date) : Int := fst c x.y + cum (lp c x.y) x.m.toNat + x.d - 1
theorem num_year {c : Int} {x : Date} (h : Ok c x) : fst c x.y ≤ num c x ∧ num c x < fst c (x.y + 1) := by
 obtain ⟨h1, h2, h3, h4, h5, h6⟩ := h
 unfold num
 have e := fst_next c x.y
 obtain ⟨k, hk⟩ : ∃ k : Nat, x.m = (k : Int) := ⟨x.m.toNat, by omega⟩
 have h7 := cum_tab (lp c x.y) k (by omega)
 have h8 := cum_succ (lp c x.y) (m := k) (by omega)
 have h9 := cum_mono (lp c x.y) (m := k + 1) (k := 13) (by omega) (by omega)
 have h10 := cum_all (lp c x.y)
 rw [hk] at h6 ⊢
 rw [Int.toNat_natCast]
 unfold ylen at e
 cases hb : lp c x.y
 ·rw [hb] at e h10 h9 h8 h7 h6
  simp at e h10
  omega
 ·rw [hb] at e h10 h9 h8 h7 h6
  simp at e h10
  omega
theorem md_one (b : Bool) {m k : Nat} {d e : Int} (hm : 1 ≤ m ∧ m ≤ 12) (hk : 1 ≤ k ∧ k ≤ 12) (hd : 1 ≤ d ∧ d ≤ mlen b (m : Int)) (he : 1 ≤ e ∧ e ≤ mlen b (k : Int)) (h : cum b m + d = cum b k + e) : m = k ∧ d = e := by
 have hmk : m = k := by
  rcases Nat.lt_trichotomy m k with h1 | h1 | h1
  ·have h2 := cum_succ b hm.1
   have h3 := cum_mono b (m := m + 1) (k := k) (by omega) (by omega)
   omega
  ·exact h1
  ·have h2 := cum_succ b hk.1
   have h3 := cum_mono b (m := k + 1) (k := m) (by omega) (by omega)
   omega
 subst hmk
 exact ⟨rfl, by omega⟩
theorem num_inj {c : Int} {x z : Date} (hx : Ok c x) (hz : Ok c z) (h : num c x = num c z) : x = z := by
 have h1 := num_year hx
 have h2 := num_year hz
 have hy : x.y = z.y := year_one (c := c) (n := num c x) h1.1 h1.2 (by omega) (by omega)
 obtain ⟨a1, a2, a3, a4, a5, a6⟩ := hx
 obtain ⟨b1, b2, b3, b4, b5, b6⟩ := hz
 obtain ⟨y, m, d⟩ := x
 obtain ⟨y2, m2, d2⟩ := z
 simp only at hy a1 a2 a3 a4 a5 a6 b1 b2 b3 b4 b5 b6
 subst hy
 obtain ⟨k, rfl⟩ : ∃ k : Nat, m = (k : Int) := ⟨m.toNat, by omega⟩
 obtain ⟨k2, rfl⟩ : ∃ k : Nat, m2 = (k : Int) := ⟨m2.toNat, by omega⟩
 unfold num at h
 simp only [Int.toNat_natCast] at h
 obtain ⟨e1, e2⟩ := md_one (lp c y) (m := k) (k := k2) (d := d) (e := d2) (by omega) (by omega) ⟨a5, a6⟩ ⟨b5, b6⟩ (by omega)
 subst e1
 subst e2
 rfl
def mdGo (b : Bool) : Nat → Int → Int → Int × Int
 | 0, m, r => (m, r + 1)
 | k + 1, m, r => if mlen b m ≤ r then mdGo b k (m + 1) (r - mlen b m) else (m, r + 1)
theorem mdGo_spec (b : Bool) : ∀ (k m : Nat) (r : Int), m + k = 12 → 1 ≤ m → 0 ≤ r → cum b m + r < cum b 13 →
  1 ≤ (mdGo b k (m : Int) r).1 ∧ (mdGo b k (m : Int) r).1 ≤ 12 ∧ 1 ≤ (mdGo b k (m : Int) r).2 ∧ (mdGo b k (m : Int) r).2 ≤ mlen b (mdGo b k (m : Int) r).1 ∧ cum b (mdGo b k (m : Int) r).1.toNat + (mdGo b k (m : Int) r).2 = cum b m + r + 1
 | 0, m, r, hk, h1, h0, h => by
  have h2 := cum_succ b h1
  obtain rfl : m = 12 := by omega
  rw [mdGo]
  have h3 : cum b (12 + 1) = cum b 13 := rfl
  refine ⟨by simp, by simp, by simp; omega, ?_, by simp; omega⟩
  show r + 1 ≤ mlen b ((12 : Nat) : Int)
  omega
 | k + 1, m, r, hk, h1, h0, h => by
  rw [mdGo]
  by_cases hr : mlen b (m : Int) ≤ r
  ·rw [if_pos hr]
   have h2 := cum_succ b h1
   have h3 := mdGo_spec b k (m + 1) (r - mlen b (m : Int)) (by omega) (by omega) (by omega) (by omega)
   rw [show ((m + 1 : Nat) : Int) = (m : Int) + 1 by omega] at h3
   refine ⟨h3.1, h3.2.1, h3.2.2.1, h3.2.2.2.1, ?_⟩
   rw [h3.2.2.2.2]
   omega
  ·rw [if_neg hr]
   refine ⟨by simp; omega, by simp; omega, by simp; omega, by simp; omega, by simp; omega⟩
def dateIn (c y n : Int) : Date := ⟨y, (mdGo (lp c y) 11 1 (n - fst c y)).1, (mdGo (lp c y) 11 1 (n - fst c y)).2⟩
theorem dateIn_ok {c y n : Int} (hy : 1 ≤ y ∧ y ≤ 1000000000) (h1 : fst c y ≤ n) (h2 : n < fst c (y + 1)) : Ok c (dateIn c y n) ∧ num c (dateIn c y n) = n := by
 have e := fst_next c y
 have h3 := mdGo_spec (lp c y) 11 1 (n - fst c y) rfl (by omega) (by omega) (by
  have h4 := cum_all (lp c y)
  have h5 : cum (lp c y) 1 = 0 := rfl
  unfold ylen at e
  cases hb : lp c y <;> rw [hb] at e h4 h5 <;> simp at e h4 <;> omega)
 obtain ⟨a, b, d, f, g⟩ := h3
 refine ⟨⟨hy.1, hy.2, a, b, d, f⟩, ?_⟩
 unfold num dateIn
 simp only
 have h5 : cum (lp c y) 1 = 0 := rfl
 rw [h5] at g
 have g2 : cum (lp c y) (mdGo (lp c y) 11 1 (n - fst c y)).1.toNat + (mdGo (lp c y) 11 1 (n - fst c y)).2 = 0 + (n - fst c y) + 1 := g
 omega
def yr (c n : Int) : Int :=
 if c = 1 then 4 * ((n + 1) / 1461) + min ((n + 1) % 1461 / 365) 3 + 1
 else 400 * ((n - 1) / 146097) + 100 * min ((n - 1) % 146097 / 36524) 3 + 4 * (((n - 1) % 146097 - 36524 * min ((n - 1) % 146097 / 36524) 3) / 1461) + min ((((n - 1) % 146097 - 36524 * min ((n - 1) % 146097 / 36524) 3) % 1461) / 365) 3 + 1
theorem yr_spec (c n : Int) : fst c (yr c n) ≤ n ∧ n < fst c (yr c n + 1) := by
 unfold fst yr
 by_cases hc : c = 1
 ·rw [if_pos hc, if_pos hc, if_pos hc]
  omega
 ·rw [if_neg hc, if_neg hc, if_neg hc]
  generalize hq : (n - 1) / 146097 = q
  generalize hr : (n - 1) % 146097 = r
  have h1 : n - 1 = 146097 * q + r ∧ 0 ≤ r ∧ r < 146097 := by omega
  generalize hs : min (r / 36524) 3 = s
  have h2 : 0 ≤ s ∧ s ≤ 3 ∧ 36524 * s ≤ r ∧ (r < 36524 * s + 36524 ∨ s = 3) := by omega
  generalize ht : (r - 36524 * s) / 1461 = t
  have h3 : 0 ≤ t ∧ t ≤ 24 ∧ 1461 * t ≤ r - 36524 * s ∧ r - 36524 * s < 1461 * t + 1461 := by omega
  generalize hu : (r - 36524 * s) % 1461 = u
  have h4 : r - 36524 * s = 1461 * t + u := by omega
  generalize hv : min (u / 365) 3 = v
  have h5 : 0 ≤ v ∧ v ≤ 3 ∧ 365 * v ≤ u ∧ (u < 365 * v + 365 ∨ v = 3) := by omega
  have e1 : (400 * q + 100 * s + 4 * t + v + 1 - 1) / 4 = 100 * q + 25 * s + t := by omega
  have e2 : (400 * q + 100 * s + 4 * t + v + 1 - 1) / 100 = 4 * q + s := by omega
  have e3 : (400 * q + 100 * s + 4 * t + v + 1 - 1) / 400 = q := by omega
  rw [e1, e2, e3]
  constructor
  ·omega
  ·rcases Int.lt_or_le v 3 with hv3 | hv3
   ·have f1 : (400 * q + 100 * s + 4 * t + v + 1 + 1 - 1) / 4 = 100 * q + 25 * s + t := by omega
    have f2 : (400 * q + 100 * s + 4 * t + v + 1 + 1 - 1) / 100 = 4 * q + s := by omega
    have f3 : (400 * q + 100 * s + 4 * t + v + 1 + 1 - 1) / 400 = q := by omega
    rw [f1, f2, f3]
    omega
   ·obtain rfl : v = 3 := by omega
    have f1 : (400 * q + 100 * s + 4 * t + 3 + 1 + 1 - 1) / 4 = 100 * q + 25 * s + t + 1 := by omega
    rw [f1]
    rcases Int.lt_or_le t 24 with ht3 | ht3
    ·have f2 : (400 * q + 100 * s + 4 * t + 3 + 1 + 1 - 1) / 100 = 4 * q + s := by omega
     have f3 : (400 * q + 100 * s + 4 * t + 3 + 1 + 1 - 1) / 400 = q := by omega
     rw [f2, f3]
     omega
    ·obtain rfl : t = 24 := by omega
     have f2 : (400 * q + 100 * s + 4 * 24 + 3 + 1 + 1 - 1) / 100 = 4 * q + s + 1 := by omega
     rw [f2]
     rcases Int.lt_or_le s 3 with hs3 | hs3
     ·have f3 : (400 * q + 100 * s + 4 * 24 + 3 + 1 + 1 - 1) / 400 = q := by omega
      rw [f3]
      omega
     ·obtain rfl : s = 3 := by omega
      have f3 : (400 * q + 100 * 3 + 4 * 24 + 3 + 1 + 1 - 1) / 400 = q + 1 := by omega
      rw [f3]
      omega
theorem yr_of {c y n : Int} (h1 : fst c y ≤ n) (h2 : n < fst c (y + 1)) : yr c n = y := year_one (c := c) (yr_spec c n).1 (yr_spec c n).2 h1 h2
def date (c n : Int) : Date := dateIn c (yr c n) n
def inDays (c n : Int) : Prop := fst c 1 ≤ n ∧ n < fst c 1000000001
theorem yr_range {c n : Int} (h : inDays c n) : 1 ≤ yr c n ∧ yr c n ≤ 1000000000 := by
 have h1 := yr_spec c n
 constructor
 ·rcases Int.lt_or_le (yr c n) 1 with h2 | h2
  ·have := fst_mono c (show yr c n + 1 ≤ 1 by omega)
   have := h.1
   omega
  ·exact h2
 ·rcases Int.lt_or_le 1000000000 (yr c n) with h2 | h2
  ·have := fst_mono c (show (1000000001 : Int) ≤ yr c n by omega)
   have := h.2
   omega
  ·omega
theorem date_ok {c n : Int} (h : inDays c n) : Ok c (date c n) ∧ num c (date c n) = n := dateIn_ok (yr_range h) (yr_spec c n).1 (yr_spec c n).2
theorem date_num {c : Int} {x : Date} (h : Ok c x) : date c (num c x) = x ∧ inDays c (num c x) := by
 have h1 := num_year h
 have h2 : inDays c (num c x) := ⟨by have := fst_mono c (show (1 : Int) ≤ x.y from h.1); have := h.1; omega, by have := fst_mono c (show x.y + 1 ≤ 1000000001 by have := h.2.1; omega); have := h.2.1; omega⟩
 have h3 := date_ok h2
 exact ⟨num_inj h3.1 h h3.2, h2⟩
end Go.Proofs.Ytopfjjdkffdjpaa.Cal
end
section
namespace Go.Proofs.Ytopfjjdkffdjpaa.Q
open Go.RowKit Go.Proofs.YtopfjjdkffdjpaaW.PrintWords Go.Proofs.YtopfjjdkffdjpaaW.PrintLast Go.Proofs.Ytopfjjdkffdjpaa.Cal
theorem wq (n : Int) (h : -9223372036854775808 ≤ n ∧ n ≤ 9223372036854775807) : wrap64 n = n := by unfold wrap64; omega
theorem Ev.fin {α : Type} {g : Nat → Option α} {r : α} (h : ∀ k, g (k + 1) = some r) : Ev g r := Ev.step h (Ev.now r)
theorem Ev.def_ {α : Type} {o : Option α} {r : α} (h : o = some r) : Ev (fun _ => o) r := ⟨0, fun _ _ => h⟩
theorem modq4 (n : Int) (h : -1000000000000000 ≤ n ∧ n ≤ 1000000000000000) : computusref01_Mod.f n 4 = some (n % 4) := by
 have hd := Int.tmod_def n 4
 have h2 := Int.tmod_lt_of_pos n (b := 4) (by omega)
 have h3 := Int.lt_tmod_of_pos n (b := 4) (by omega)
 have hs := Int.tmod_nonneg (a := n) 4
 have ht : n < 0 → n.tmod 4 ≤ 0 := fun h => by
  have h4 := Int.tmod_nonneg (a := -n) 4 (by omega)
  rw [Int.neg_tmod] at h4
  omega
 unfold computusref01_Mod.f computusref01_Div.f
 rw [if_neg (by omega), wq (n.tdiv 4) (by omega), wq (n.tdiv 4 * 4) (by omega)]
 by_cases he : n.tdiv 4 * 4 = n
 ·rw [if_pos he]
  simp only [Option.bind_some]
  rw [wq (4 * n.tdiv 4) (by omega), wq _ (by omega)]
  congr 1; omega
 ·rw [if_neg he]
  by_cases hn : n < 0
  ·rw [decide_eq_true hn, decide_eq_false (by omega), if_pos (by decide)]
   simp only [Option.bind_some]
   have := ht hn
   rw [wq (n.tdiv 4 - 1) (by omega), wq (4 * (n.tdiv 4 - 1)) (by omega), wq _ (by omega)]
   congr 1; omega
  ·rw [decide_eq_false hn, decide_eq_false (by omega), if_neg (by decide)]
   simp only [Option.bind_some]
   have := hs (by omega)
   rw [wq (4 * n.tdiv 4) (by omega), wq _ (by omega)]
   congr 1; omega
theorem modq7 (n : Int) (h : -1000000000000000 ≤ n ∧ n ≤ 1000000000000000) : computusref01_Mod.f n 7 = some (n % 7) := by
 have hd := Int.tmod_def n 7
 have h2 := Int.tmod_lt_of_pos n (b := 7) (by omega)
 have h3 := Int.lt_tmod_of_pos n (b := 7) (by omega)
 have hs := Int.tmod_nonneg (a := n) 7
 have ht : n < 0 → n.tmod 7 ≤ 0 := fun h => by
  have h4 := Int.tmod_nonneg (a := -n) 7 (by omega)
  rw [Int.neg_tmod] at h4
  omega
 unfold computusref01_Mod.f computusref01_Div.f
 rw [if_neg (by omega), wq (n.tdiv 7) (by omega), wq (n.tdiv 7 * 7) (by omega)]
 by_cases he : n.tdiv 7 * 7 = n
 ·rw [if_pos he]
  simp only [Option.bind_some]
  rw [wq (7 * n.tdiv 7) (by omega), wq _ (by omega)]
  congr 1; omega
 ·rw [if_neg he]
  by_cases hn : n < 0
  ·rw [decide_eq_true hn, decide_eq_false (by omega), if_pos (by decide)]
   simp only [Option.bind_some]
   have := ht hn
   rw [wq (n.tdiv 7 - 1) (by omega), wq (7 * (n.tdiv 7 - 1)) (by omega), wq _ (by omega)]
   congr 1; omega
  ·rw [decide_eq_false hn, decide_eq_false (by omega), if_neg (by decide)]
   simp only [Option.bind_some]
   have := hs (by omega)
   rw [wq (7 * n.tdiv 7) (by omega), wq _ (by omega)]
   congr 1; omega
theorem modq30 (n : Int) (h : -1000000000000000 ≤ n ∧ n ≤ 1000000000000000) : computusref01_Mod.f n 30 = some (n % 30) := by
 have hd := Int.tmod_def n 30
 have h2 := Int.tmod_lt_of_pos n (b := 30) (by omega)
 have h3 := Int.lt_tmod_of_pos n (b := 30) (by omega)
 have hs := Int.tmod_nonneg (a := n) 30
 have ht : n < 0 → n.tmod 30 ≤ 0 := fun h => by
  have h4 := Int.tmod_nonneg (a := -n) 30 (by omega)
  rw [Int.neg_tmod] at h4
  omega
 unfold computusref01_Mod.f computusref01_Div.f
 rw [if_neg (by omega), wq (n.tdiv 30) (by omega), wq (n.tdiv 30 * 30) (by omega)]
 by_cases he : n.tdiv 30 * 30 = n
 ·rw [if_pos he]
  simp only [Option.bind_some]
  rw [wq (30 * n.tdiv 30) (by omega), wq _ (by omega)]
  congr 1; omega
 ·rw [if_neg he]
  by_cases hn : n < 0
  ·rw [decide_eq_true hn, decide_eq_false (by omega), if_pos (by decide)]
   simp only [Option.bind_some]
   have := ht hn
   rw [wq (n.tdiv 30 - 1) (by omega), wq (30 * (n.tdiv 30 - 1)) (by omega), wq _ (by omega)]
   congr 1; omega
  ·rw [decide_eq_false hn, decide_eq_false (by omega), if_neg (by decide)]
   simp only [Option.bind_some]
   have := hs (by omega)
   rw [wq (30 * n.tdiv 30) (by omega), wq _ (by omega)]
   congr 1; omega
theorem modq100 (n : Int) (h : -1000000000000000 ≤ n ∧ n ≤ 1000000000000000) : computusref01_Mod.f n 100 = some (n % 100) := by
 have hd := Int.tmod_def n 100
 have h2 := Int.tmod_lt_of_pos n (b := 100) (by omega)
 have h3 := Int.lt_tmod_of_pos n (b := 100) (by omega)
 have hs := Int.tmod_nonneg (a := n) 100
 have ht : n < 0 → n.tmod 100 ≤ 0 := fun h => by
  have h4 := Int.tmod_nonneg (a := -n) 100 (by omega)
  rw [Int.neg_tmod] at h4
  omega
 unfold computusref01_Mod.f computusref01_Div.f
 rw [if_neg (by omega), wq (n.tdiv 100) (by omega), wq (n.tdiv 100 * 100) (by omega)]
 by_cases he : n.tdiv 100 * 100 = n
 ·rw [if_pos he]
  simp only [Option.bind_some]
  rw [wq (100 * n.tdiv 100) (by omega), wq _ (by omega)]
  congr 1; omega
 ·rw [if_neg he]
  by_cases hn : n < 0
  ·rw [decide_eq_true hn, decide_eq_false (by omega), if_pos (by decide)]
   simp only [Option.bind_some]
   have := ht hn
   rw [wq (n.tdiv 100 - 1) (by omega), wq (100 * (n.tdiv 100 - 1)) (by omega), wq _ (by omega)]
   congr 1; omega
  ·rw [decide_eq_false hn, decide_eq_false (by omega), if_neg (by decide)]
   simp only [Option.bind_some]
   have := hs (by omega)
   rw [wq (100 * n.tdiv 100) (by omega), wq _ (by omega)]
   congr 1; omega
theorem modq400 (n : Int) (h : -1000000000000000 ≤ n ∧ n ≤ 1000000000000000) : computusref01_Mod.f n 400 = some (n % 400) := by
 have hd := Int.tmod_def n 400
 have h2 := Int.tmod_lt_of_pos n (b := 400) (by omega)
 have h3 := Int.lt_tmod_of_pos n (b := 400) (by omega)
 have hs := Int.tmod_nonneg (a := n) 400
 have ht : n < 0 → n.tmod 400 ≤ 0 := fun h => by
  have h4 := Int.tmod_nonneg (a := -n) 400 (by omega)
  rw [Int.neg_tmod] at h4
  omega
 unfold computusref01_Mod.f computusref01_Div.f
 rw [if_neg (by omega), wq (n.tdiv 400) (by omega), wq (n.tdiv 400 * 400) (by omega)]
 by_cases he : n.tdiv 400 * 400 = n
 ·rw [if_pos he]
  simp only [Option.bind_some]
  rw [wq (400 * n.tdiv 400) (by omega), wq _ (by omega)]
  congr 1; omega
 ·rw [if_neg he]
  by_cases hn : n < 0
  ·rw [decide_eq_true hn, decide_eq_false (by omega), if_pos (by decide)]
   simp only [Option.bind_some]
   have := ht hn
   rw [wq (n.tdiv 400 - 1) (by omega), wq (400 * (n.tdiv 400 - 1)) (by omega), wq _ (by omega)]
   congr 1; omega
  ·rw [decide_eq_false hn, decide_eq_false (by omega), if_neg (by decide)]
   simp only [Option.bind_some]
   have := hs (by omega)
   rw [wq (400 * n.tdiv 400) (by omega), wq _ (by omega)]
   congr 1; omega
theorem leapq (y : Int) (h : 1 ≤ y ∧ y ≤ 1000000010) : computusref03_Leap.f y = some (lp 2 y) := by
 unfold computusref03_Leap.f lp
 rw [modq400 y (by omega), modq4 y (by omega), modq100 y (by omega), if_neg (by omega)]
 simp only [Option.bind_some]
 by_cases h4 : y % 400 = 0
 ·rw [if_pos h4, decide_eq_true h4, decide_eq_true (show y % 4 = 0 by omega)]
  simp
 ·rw [if_neg h4, decide_eq_false h4]
  by_cases h2 : y % 4 = 0
  ·rw [if_pos h2, decide_eq_true h2]
   by_cases h3 : y % 100 = 0
   ·simp [h3]
   ·simp [h3]
  ·rw [if_neg h2, decide_eq_false h2]
   simp
theorem len_ev (b : Bool) (m : Int) : Ev (fun k => computusref02_Length.f k b m) (mlen b m) := by
 have h1 : ∀ m : Int, (m = 1 ∨ m = 3 ∨ m = 5 ∨ m = 7 ∨ m = 8 ∨ m = 10 ∨ m = 12) → Ev (fun k => computusref02_Length.j0 k b m true) (mlen b m) := fun m hm => by
  refine Ev.fin fun k => ?_
  simp only [computusref02_Length.j0]
  unfold mlen
  rw [if_pos trivial, if_neg (by omega), if_neg (by omega), if_pos (by omega)]
 have h2 : ∀ m : Int, ¬ (m = 1 ∨ m = 3 ∨ m = 5 ∨ m = 7 ∨ m = 8 ∨ m = 10 ∨ m = 12) → Ev (fun k => computusref02_Length.j0 k b m false) (mlen b m) := fun m hm => by
  have j1 : ∀ m : Int, (m = 4 ∨ m = 6 ∨ m = 9 ∨ m = 11) → Ev (fun k => computusref02_Length.j1 k b m true) (mlen b m) := fun m hm => by
   refine Ev.fin fun k => ?_
   simp only [computusref02_Length.j1]
   unfold mlen
   rw [if_pos trivial, if_neg (by omega), if_pos (by omega)]
  have j2 : ∀ m : Int, ¬ (m = 1 ∨ m = 3 ∨ m = 5 ∨ m = 7 ∨ m = 8 ∨ m = 10 ∨ m = 12) → ¬ (m = 4 ∨ m = 6 ∨ m = 9 ∨ m = 11) → Ev (fun k => computusref02_Length.j1 k b m false) (mlen b m) := fun m h0 hm => by
   refine Ev.fin fun k => ?_
   simp only [computusref02_Length.j1]
   unfold mlen
   rw [if_neg (by simp)]
   by_cases h2 : m = 2
   ·rw [if_pos h2, if_pos h2]
    cases b <;> rfl
   ·rw [if_neg h2, if_neg h2, if_neg hm, if_neg (by omega)]
  by_cases h4 : m = 4
  ·refine Ev.step (fun k => ?_) (j1 m (.inl h4))
   simp only [computusref02_Length.j0]
   rw [if_neg (by simp), if_pos h4, beq_iff_eq.mpr h4]
  ·by_cases h6 : m = 6
   ·refine Ev.step (fun k => ?_) (j1 m (by omega))
    simp only [computusref02_Length.j0]
    rw [if_neg (by simp), if_neg h4, if_pos h6, beq_iff_eq.mpr h6]
   ·by_cases h9 : m = 9
    ·refine Ev.step (fun k => ?_) (j1 m (by omega))
     simp only [computusref02_Length.j0]
     rw [if_neg (by simp), if_neg h4, if_neg h6, if_pos h9, beq_iff_eq.mpr h9]
    ·by_cases h11 : m = 11
     ·refine Ev.step (fun k => ?_) (j1 m (by omega))
      simp only [computusref02_Length.j0]
      rw [if_neg (by simp), if_neg h4, if_neg h6, if_neg h9, beq_iff_eq.mpr h11]
     ·refine Ev.step (fun k => ?_) (j2 m hm (by omega))
      simp only [computusref02_Length.j0]
      rw [if_neg (by simp), if_neg h4, if_neg h6, if_neg h9, beq_eq_false_iff_ne.mpr h11]
 unfold computusref02_Length.f
 by_cases a1 : m = 1
 ·exact Ev.congr (fun k => by rw [if_pos a1, beq_iff_eq.mpr a1]) (h1 m (by omega))
 by_cases a3 : m = 3
 ·exact Ev.congr (fun k => by rw [if_neg a1, if_pos a3, beq_iff_eq.mpr a3]) (h1 m (by omega))
 by_cases a5 : m = 5
 ·exact Ev.congr (fun k => by rw [if_neg a1, if_neg a3, if_pos a5, beq_iff_eq.mpr a5]) (h1 m (by omega))
 by_cases a7 : m = 7
 ·exact Ev.congr (fun k => by rw [if_neg a1, if_neg a3, if_neg a5, if_pos a7, beq_iff_eq.mpr a7]) (h1 m (by omega))
 by_cases a8 : m = 8
 ·exact Ev.congr (fun k => by rw [if_neg a1, if_neg a3, if_neg a5, if_neg a7, if_pos a8, beq_iff_eq.mpr a8]) (h1 m (by omega))
 by_cases a10 : m = 10
 ·exact Ev.congr (fun k => by rw [if_neg a1, if_neg a3, if_neg a5, if_neg a7, if_neg a8, if_pos a10, beq_iff_eq.mpr a10]) (h1 m (by omega))
 by_cases a12 : m = 12
 ·exact Ev.congr (fun k => by rw [if_neg a1, if_neg a3, if_neg a5, if_neg a7, if_neg a8, if_neg a10, beq_iff_eq.mpr a12]) (h1 m (by omega))
 ·exact Ev.congr (fun k => by rw [if_neg a1, if_neg a3, if_neg a5, if_neg a7, if_neg a8, if_neg a10, beq_eq_false_iff_ne.mpr a12]) (h2 m (by omega))
theorem firstq (y : Int) (h : 1 ≤ y ∧ y ≤ 1000000010) : computusref03_First.f y = some (fst 2 y) := by
 unfold computusref03_First.f fst
 rw [if_neg (by omega), wq (y - 1) (by omega), Int.tdiv_eq_ediv_of_nonneg (by omega), Int.tdiv_eq_ediv_of_nonneg (by omega), Int.tdiv_eq_ediv_of_nonneg (by omega), wq (365 * (y - 1)) (by omega), wq ((y - 1) / 4) (by omega), wq ((y - 1) / 100) (by omega), wq ((y - 1) / 400) (by omega), wq (365 * (y - 1) + (y - 1) / 4) (by omega), wq (365 * (y - 1) + (y - 1) / 4 - (y - 1) / 100) (by omega), wq (365 * (y - 1) + (y - 1) / 4 - (y - 1) / 100 + (y - 1) / 400) (by omega), wq _ (by omega)]
theorem inq (y : Int) (h : 1 ≤ y ∧ y ≤ 1000000000) : computusref02_In.f y = some true := by
 unfold computusref02_In.f
 rw [if_pos (by omega), decide_eq_true h.2]
theorem validq (x : Date) (h : Ok 2 x) : Ev (fun k => computusref03_Valid.f k x.y x.m x.d) true := by
 obtain ⟨h1, h2, h3, h4, h5, h6⟩ := h
 unfold computusref03_Valid.f
 rw [inq x.y ⟨h1, h2⟩, leapq x.y (by omega)]
 simp only [Option.bind_some, if_true]
 refine Ev.congr (fun k => if_pos h5) ?_
 refine Ev.bind (len_ev (lp 2 x.y) x.m) ?_
 rw [decide_eq_true h6]
 exact Ev.now true
theorem todayl (x : Date) (h : Ok 2 x) : ∀ (n m : Nat), (m : Int) + n = x.m → 1 ≤ m → Ev (fun k => computusref03_ToDay.l0 k (fst 2 x.y + cum (lp 2 x.y) m) (m : Int) x.y x.m x.d) (num 2 x, 0)
 | 0, m, hm, h1 => Ev.fin fun k => by
  obtain ⟨y1, y2, y3, y4, y5, y6⟩ := h
  have hb := fst_bounds 2 (y := x.y) (by omega) (by omega)
  have hc := cum_tab (lp 2 x.y) m (by omega)
  have hl := mlen_nonneg (lp 2 x.y) x.m
  simp only [computusref03_ToDay.l0]
  rw [if_neg (by omega), wq (fst 2 x.y + cum (lp 2 x.y) m + x.d) (by omega), wq _ (by omega)]
  have e : x.m.toNat = m := by omega
  unfold num
  rw [e]
 | n + 1, m, hm, h1 => by
  have h0 := h
  obtain ⟨y1, y2, y3, y4, y5, y6⟩ := h
  have hb := fst_bounds 2 (y := x.y) (by omega) (by omega)
  have hc := cum_tab (lp 2 x.y) m (by omega)
  have hl := mlen_nonneg (lp 2 x.y) m
  have e := todayl x h0 n (m + 1) (by omega) (by omega)
  refine Ev.step (f := fun k => (computusref02_Length.f k (lp 2 x.y) (m : Int)).bind fun t => computusref03_ToDay.l0 k (wrap64 (fst 2 x.y + cum (lp 2 x.y) m + t)) (wrap64 ((m : Int) + 1)) x.y x.m x.d) (fun k => ?_) ?_
  ·simp only [computusref03_ToDay.l0]
   rw [if_pos (by omega), leapq x.y (by omega)]
   rfl
  ·refine Ev.bind (len_ev _ _) ?_
   rw [wq (fst 2 x.y + cum (lp 2 x.y) m + mlen (lp 2 x.y) (m : Int)) (by omega), wq ((m : Int) + 1) (by omega)]
   rw [cum_succ (lp 2 x.y) h1] at e
   rw [show ((m + 1 : Nat) : Int) = (m : Int) + 1 by omega, ← Int.add_assoc] at e
   exact e
theorem today_ev (x : Date) (h : Ok 2 x) : Ev (fun k => computusref03_ToDay.f k x.y x.m x.d) (num 2 x, 0) := by
 have h0 := h
 obtain ⟨h1, h2, h3, h4, h5, h6⟩ := h
 unfold computusref03_ToDay.f
 rw [inq x.y ⟨h1, h2⟩, firstq x.y (by omega)]
 simp only [Option.bind_some, if_true]
 refine Ev.bind (validq x h0) ?_
 simp only [if_true]
 have e := todayl x h0 (x.m.toNat - 1) 1 (by omega) (by omega)
 have c1 : cum (lp 2 x.y) 1 = 0 := rfl
 rw [c1, Int.add_zero] at e
 exact e
theorem fromday_md (y : Int) (hy : 1 ≤ y ∧ y ≤ 1000000000) : ∀ (q m : Nat) (r : Int), m + q = 12 → 1 ≤ m → 0 ≤ r → cum (lp 2 y) m + r < cum (lp 2 y) 13 →
  Ev (fun k => computusref03_FromDay.l1 k y y (m : Int) (r + 1)) (y, (mdGo (lp 2 y) q (m : Int) r).1, (mdGo (lp 2 y) q (m : Int) r).2, 0)
 | q, m, r, hq, h1, h0, hr => by
  have hl := mlen_nonneg (lp 2 y) m
  have h13 : cum (lp 2 y) 13 ≤ 366 := (cum_tab (lp 2 y) 13 (by omega)).2
  have hcm := (cum_tab (lp 2 y) m (by omega)).1
  have hs := cum_succ (lp 2 y) h1
  have start : ∀ (f : Nat → Option (Int × Int × Int × Int)) (R : Int × Int × Int × Int), Ev (fun k => if r + 1 > mlen (lp 2 y) (m : Int) then (computusref02_Length.f k (lp 2 y) (m : Int)).bind fun t => computusref03_FromDay.l1 k y y (wrap64 ((m : Int) + 1)) (wrap64 (r + 1 - t)) else some (y, (m : Int), r + 1, 0)) R → Ev (fun k => computusref03_FromDay.l1 k y y (m : Int) (r + 1)) R := fun _ R e => by
   refine Ev.step (f := fun k => (computusref02_Length.f k (lp 2 y) (m : Int)).bind fun t => if r + 1 > t then (computusref02_Length.f k (lp 2 y) (m : Int)).bind fun t => computusref03_FromDay.l1 k y y (wrap64 ((m : Int) + 1)) (wrap64 (r + 1 - t)) else some (y, (m : Int), r + 1, 0)) (fun k => ?_) (Ev.bind (len_ev _ _) e)
   simp only [computusref03_FromDay.l1]
   rw [leapq y (by omega)]
   rfl
  cases q with
  | zero =>
   obtain rfl : m = 12 := by omega
   have h12 : cum (lp 2 y) (12 + 1) = cum (lp 2 y) 13 := rfl
   refine start (fun _ => none) _ (Ev.congr (fun k => if_neg (by omega)) ?_)
   exact Ev.now _
  | succ q =>
   rw [mdGo]
   by_cases hc : mlen (lp 2 y) (m : Int) ≤ r
   ·rw [if_pos hc]
    have e := fromday_md y hy q (m + 1) (r - mlen (lp 2 y) (m : Int)) (by omega) (by omega) (by omega) (by omega)
    rw [show ((m + 1 : Nat) : Int) = (m : Int) + 1 by omega] at e
    refine start (fun _ => none) _ (Ev.congr (fun k => if_pos (by omega)) ?_)
    refine Ev.bind (len_ev _ _) ?_
    rw [wq ((m : Int) + 1) (by omega), wq (r + 1 - mlen (lp 2 y) (m : Int)) (by omega), show r + 1 - mlen (lp 2 y) (m : Int) = r - mlen (lp 2 y) (m : Int) + 1 by omega]
    exact e
   ·rw [if_neg hc]
    refine start (fun _ => none) _ (Ev.congr (fun k => if_neg (by omega)) ?_)
    exact Ev.now _
theorem fromday_l0 (n : Int) (hn : 0 ≤ n ∧ n ≤ 400000000000) : ∀ (s : Nat) (lo hi : Int), hi - lo ≤ s → 1 ≤ lo → lo ≤ hi → hi ≤ 1000000000 → fst 2 lo ≤ n → n < fst 2 (hi + 1) → Ev (fun k => computusref03_FromDay.l0 k n lo hi) ((date 2 n).y, (date 2 n).m, (date 2 n).d, 0)
 | s, lo, hi, hs, h1, h2, h3, h4, h5 => by
  by_cases he : lo < hi
  ·have hmid : wrap64 (Int.tdiv (wrap64 (wrap64 (lo + hi) + 1)) 2) = (lo + hi + 1) / 2 := by
    rw [wq (lo + hi) (by omega), wq (lo + hi + 1) (by omega), Int.tdiv_eq_ediv_of_nonneg (by omega), wq _ (by omega)]
   cases s with
   | zero => omega
   | succ s =>
    by_cases hc : fst 2 ((lo + hi + 1) / 2) ≤ n
    ·refine Ev.step (fun k => ?_) (fromday_l0 n hn s ((lo + hi + 1) / 2) hi (by omega) (by omega) (by omega) h3 hc h5)
     simp only [computusref03_FromDay.l0]
     rw [if_pos he, hmid, firstq _ (by omega)]
     simp only [Option.bind_some]
     rw [if_pos hc]
    ·refine Ev.step (fun k => ?_) (fromday_l0 n hn s lo ((lo + hi + 1) / 2 - 1) (by omega) h1 (by omega) (by omega) h4 (by rw [show (lo + hi + 1) / 2 - 1 + 1 = (lo + hi + 1) / 2 by omega]; omega))
     simp only [computusref03_FromDay.l0]
     rw [if_pos he, hmid, firstq _ (by omega)]
     simp only [Option.bind_some]
     rw [if_neg hc, wq ((lo + hi + 1) / 2 - 1) (by omega)]
  ·obtain rfl : lo = hi := by omega
   have hb := fst_bounds 2 (y := lo) (by omega) (by omega)
   have hy : yr 2 n = lo := yr_of h4 h5
   have hyl := fst_next 2 lo
   have e := fromday_md lo ⟨h1, h3⟩ 11 1 (n - fst 2 lo) rfl (by omega) (by omega) (by
    have c1 : cum (lp 2 lo) 1 = 0 := rfl
    have c13 := cum_all (lp 2 lo)
    unfold ylen at hyl
    cases hb : lp 2 lo <;> rw [hb] at hyl c1 c13 <;> simp at hyl c13 <;> omega)
   refine Ev.step (fun k => ?_) (f := fun k => computusref03_FromDay.l1 k lo lo 1 (n - fst 2 lo + 1)) ?_
   ·simp only [computusref03_FromDay.l0]
    rw [if_neg he, firstq _ (by omega)]
    simp only [Option.bind_some]
    rw [wq (n - fst 2 lo) (by omega), wq _ (by omega)]
   ·have : date 2 n = ⟨lo, (mdGo (lp 2 lo) 11 1 (n - fst 2 lo)).1, (mdGo (lp 2 lo) 11 1 (n - fst 2 lo)).2⟩ := by
     unfold date dateIn
     rw [hy]
    rw [this]
    exact e
theorem fst_ends : fst 2 1 = 1 ∧ fst 2 1000000001 = 365242500001 := by constructor <;> decide
theorem fromday_ev (n : Int) (h : inDays 2 n) : Ev (fun k => computusref03_FromDay.f k n) ((date 2 n).y, (date 2 n).m, (date 2 n).d, 0) := by
 obtain ⟨h1, h2⟩ := h
 have he := fst_ends
 unfold computusref03_FromDay.f
 rw [firstq 1000000001 (by omega)]
 refine Ev.congr (fun k => if_neg (by omega)) ?_
 simp only [Option.bind_some]
 rw [decide_eq_false (by omega)]
 refine Ev.step (fun k => ?_) (fromday_l0 n (by omega) 1000000000 1 1000000000 (by omega) (by omega) (by omega) (by omega) h1 h2)
 simp only [computusref03_FromDay.j0]
 rw [if_neg (by simp)]
theorem today05_ev (x : Date) (h : Ok 2 x) : Ev (fun k => computusref05_ToDay.f k 2 x.y x.m x.d) (num 2 x, 0) := by
 unfold computusref05_ToDay.f
 refine Ev.congr (fun k => by rw [if_neg (by omega), if_pos rfl]) ?_
 exact Ev.bind (today_ev x h) (Ev.now _)
theorem fromday05_ev (n : Int) (h : inDays 2 n) : Ev (fun k => computusref05_FromDay.f k 2 n) ((date 2 n).y, (date 2 n).m, (date 2 n).d, 0) := by
 unfold computusref05_FromDay.f
 refine Ev.congr (fun k => by rw [if_neg (by omega), if_pos rfl]) ?_
 exact Ev.bind (fromday_ev n h) (Ev.now _)
theorem ofq (n : Int) (h : -1000000000000000 ≤ n ∧ n ≤ 1000000000000000) : computusref04_Of.f n = some (n % 7) := by
 unfold computusref04_Of.f
 rw [modq7 n h]
 rfl
end Go.Proofs.Ytopfjjdkffdjpaa.Q
end
