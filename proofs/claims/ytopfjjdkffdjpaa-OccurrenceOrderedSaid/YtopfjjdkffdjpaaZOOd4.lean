/- What is proved: what the statement OccurrenceOrderedSaid needs, part 5 of 6; the last part proves the statement. No condition. -/
import Derived.Test.YtopfjjdkffdjpaaZOOd3
set_option linter.unusedVariables false
set_option linter.unusedSimpArgs false
section
namespace Go.Proofs.Ytopfjjdkffdjpaa.Q
open Go.RowKit Go.Proofs.YtopfjjdkffdjpaaW.PrintWords Go.Proofs.YtopfjjdkffdjpaaW.PrintLast Go.Proofs.YtopfjjdkffdjpaaW.PrintMore
attribute [local go_sem] max2_int min2_int max_two min_two max_three min_three max_four min_four
mutual
def computusref03_FromDay.j0 : Nat → Int → Bool → Option (Int × Int × Int × Int)
 | 0, _, _ => none
 | k + 1, x0, x14 => if x14 = true then (some (0, 0, 0, 1)) else (computusref03_FromDay.l0 k x0 1 1000000000)
def computusref03_FromDay.l0 : Nat → Int → Int → Int → Option (Int × Int × Int × Int)
 | 0, _, _, _ => none
 | k + 1, x0, x4, x5 => if x4 < x5 then ((computusref03_First.f (wrap64 (Int.tdiv (wrap64 ((wrap64 (x4 + x5)) + 1)) 2))).bind fun t321 => (if t321 ≤ x0 then (computusref03_FromDay.l0 k x0 (wrap64 (Int.tdiv (wrap64 ((wrap64 (x4 + x5)) + 1)) 2)) x5) else (computusref03_FromDay.l0 k x0 x4 (wrap64 ((wrap64 (Int.tdiv (wrap64 ((wrap64 (x4 + x5)) + 1)) 2)) - 1))))) else ((computusref03_First.f x4).bind fun t322 => (computusref03_FromDay.l1 k x4 x4 1 (wrap64 ((wrap64 (x0 - t322)) + 1))))
def computusref03_FromDay.l1 : Nat → Int → Int → Int → Int → Option (Int × Int × Int × Int)
 | 0, _, _, _, _ => none
 | k + 1, x4, x324000, x324001, x324002 => (computusref03_Leap.f x4).bind fun t324 => ((computusref02_Length.f k t324 x324001).bind fun t325 => (if x324002 > t325 then ((computusref03_Leap.f x4).bind fun t326 => ((computusref02_Length.f k t326 x324001).bind fun t327 => (computusref03_FromDay.l1 k x4 x324000 (wrap64 (x324001 + 1)) (wrap64 (x324002 - t327))))) else (some (x324000, x324001, x324002, 0))))
end
def computusref03_FromDay.f (k : Nat) (a0 : Int) : Option (Int × Int × Int × Int) := if a0 < 1 then (computusref03_FromDay.j0 k a0 true) else ((computusref03_First.f 1000000001).bind fun t320 => (computusref03_FromDay.j0 k a0 (decide (a0 ≥ t320))))
theorem computusref03_FromDay.mono_l : ∀ k, (∀ y0 y1, LeO (computusref03_FromDay.j0 k y0 y1) (computusref03_FromDay.j0 (k + 1) y0 y1)) ∧ (∀ y0 y1 y2, LeO (computusref03_FromDay.l0 k y0 y1 y2) (computusref03_FromDay.l0 (k + 1) y0 y1 y2)) ∧ (∀ y0 y1 y2 y3, LeO (computusref03_FromDay.l1 k y0 y1 y2 y3) (computusref03_FromDay.l1 (k + 1) y0 y1 y2 y3))
 | 0 => ⟨fun _ _ r h => by simp [computusref03_FromDay.j0] at h, fun _ _ _ r h => by simp [computusref03_FromDay.l0] at h, fun _ _ _ _ r h => by simp [computusref03_FromDay.l1] at h⟩
 | k + 1 => by
  obtain ⟨ih0, ih1, ih2⟩ := computusref03_FromDay.mono_l k
  refine ⟨?_, ?_, ?_⟩
  ·intro y0 y1
   unfold computusref03_FromDay.j0
   repeat' first | (with_reducible first | exact ih0 _ _ | exact ih1 _ _ _ | exact ih2 _ _ _ _ | exact computusref02_Length.mono _ _ _ | exact LeO.refl _ | exact LeO.none _ | refine LeO.ite ?_ ?_ | refine LeO.bind ?_ (fun _ => ?_)) | exact ih0 _ _ | exact ih1 _ _ _ | exact ih2 _ _ _ _ | exact computusref02_Length.mono _ _ _ | exact LeO.none _ | refine LeO.ite ?_ ?_ | refine LeO.bind ?_ (fun _ => ?_)
  ·intro y0 y1 y2
   unfold computusref03_FromDay.l0
   repeat' first | (with_reducible first | exact ih0 _ _ | exact ih1 _ _ _ | exact ih2 _ _ _ _ | exact computusref02_Length.mono _ _ _ | exact LeO.refl _ | exact LeO.none _ | refine LeO.ite ?_ ?_ | refine LeO.bind ?_ (fun _ => ?_)) | exact ih0 _ _ | exact ih1 _ _ _ | exact ih2 _ _ _ _ | exact computusref02_Length.mono _ _ _ | exact LeO.none _ | refine LeO.ite ?_ ?_ | refine LeO.bind ?_ (fun _ => ?_)
  ·intro y0 y1 y2 y3
   unfold computusref03_FromDay.l1
   repeat' first | (with_reducible first | exact ih0 _ _ | exact ih1 _ _ _ | exact ih2 _ _ _ _ | exact computusref02_Length.mono _ _ _ | exact LeO.refl _ | exact LeO.none _ | refine LeO.ite ?_ ?_ | refine LeO.bind ?_ (fun _ => ?_)) | exact ih0 _ _ | exact ih1 _ _ _ | exact ih2 _ _ _ _ | exact computusref02_Length.mono _ _ _ | exact LeO.none _ | refine LeO.ite ?_ ?_ | refine LeO.bind ?_ (fun _ => ?_)
theorem computusref03_FromDay.mono : ∀ a0 k, LeO (computusref03_FromDay.f k a0) (computusref03_FromDay.f (k + 1) a0) := by
 intro a0 k
 obtain ⟨ih0, ih1, ih2⟩ := computusref03_FromDay.mono_l k
 unfold computusref03_FromDay.f
 repeat' first | (with_reducible first | exact ih0 _ _ | exact ih1 _ _ _ | exact ih2 _ _ _ _ | exact computusref02_Length.mono _ _ _ | exact LeO.refl _ | exact LeO.none _ | refine LeO.ite ?_ ?_ | refine LeO.bind ?_ (fun _ => ?_)) | exact ih0 _ _ | exact ih1 _ _ _ | exact ih2 _ _ _ _ | exact computusref02_Length.mono _ _ _ | exact LeO.none _ | refine LeO.ite ?_ ?_ | refine LeO.bind ?_ (fun _ => ?_)
def computusref03_FromDay.T11 : Bool × List (List Nat × List Nat) := (true, [([], []), ([0], [0]), ([], []), ([2], [2]), ([], []), ([4], [4]), ([3, 5, 3], [3, 5]), ([1, 6], [1, 6])])
def computusref03_FromDay.B11 : List Nat := [0, 1, 0, 4, 0, 16, 60, 127]
theorem computusref03_FromDay.tab11 : rtab .any (opsOf Try.f85 11) = computusref03_FromDay.T11 := by kernel_rfl
theorem computusref03_FromDay.bits11 : waitsOk computusref03_FromDay.T11.2 computusref03_FromDay.B11 = true := by kernel_rfl
def computusref03_FromDay.T12 : Bool × List (List Nat × List Nat) := (true, [([], []), ([0], [0]), ([], []), ([2], [2]), ([], []), ([4], [4]), ([3, 5, 3], [3, 5]), ([1, 6], [1, 6]), ([0, 1, 2, 3, 4, 5, 6, 7], []), ([8, 7, 6, 0, 1, 2, 3, 4, 5, 6, 7], [7, 8])])
def computusref03_FromDay.B12 : List Nat := [0, 1, 0, 4, 0, 16, 60, 127, 255, 511]
theorem computusref03_FromDay.tab12 : rtab .any (opsOf Try.f85 12) = computusref03_FromDay.T12 := by kernel_rfl
theorem computusref03_FromDay.bits12 : waitsOk computusref03_FromDay.T12.2 computusref03_FromDay.B12 = true := by kernel_rfl
set_option maxHeartbeats 8000000 in
set_option maxRecDepth 100000 in
theorem computusref03_FromDay.calls (k : Nat) (a0 : Int) (r1 : Int) (r2 : Int) (r3 : Int) (r4 : Int) (w : World) (h : computusref03_FromDay.f k a0 = some (r1, r2, r3, r4)) :
  Calls Try.prog 85 #[.int .i64 a0] w fun e w' => e = .returned (.tuple #[.agg #[.int .i64 r1, .int .i64 r2, .int .i64 r3], .int .i64 r4]) ∧ Below w.heap.size w w' := by
 have hu98 := Try.underlying98
 have HB := Aside0.mk (Below.refl w.heap.size w)
 have H : (if a0 < 1 then (computusref03_FromDay.j0 k a0 true) else ((computusref03_First.f 1000000001).bind fun t320 => (computusref03_FromDay.j0 k a0 (decide (a0 ≥ t320))))) = some (r1, r2, r3, r4) := h
 clear h
 have HC2 := Aside0.mk H
 clear H
 go_enter Try.func85, Try.ntmps85
 go_upto_region 1 with (first | ((with_reducible refine gate_dst (N := 2) rfl ?_); refine bx_ (w := w) (N := 2) (cs := #[.int .i64 0, .int .i64 0, .int .i64 0]) (t := 98) ?_; intro gb319 w3 BK319 n0_ GW319 GE319; clear HB; have HB := n0_; clear n0_))
 (try simp only [Act.put, List.setIfInBounds_toArray, List.set_cons_zero, List.set_cons_succ])
 go_cut [14] (fun v14 wc => ∃ (kq : Nat) (x14_1 : Bool), v14 = .bool x14_1 ∧ Aside0 (computusref03_FromDay.j0 kq a0 x14_1 = some (r1, r2, r3, r4)) ∧ Aside0 (kq ≤ k) ∧ Aside0 (wc.heap[gb319]? = some (.cells #[.int .i64 0, .int .i64 0, .int .i64 0] 98 (0, 0))) ∧ Aside0 (Below w.heap.size w wc))
 case first =>
  have H := HC2.out
  clear HC2
  by_cases c4 : a0 < 1
  ·rw [if_pos c4] at H
   have c4b0 : decide (a0 < 1) = true := decide_eq_true c4
   clear c4
   (first | rw [c4b0] | (simp only [i64_w, i32_w]; rw [c4b0]) | skip)
   have H' := Aside0.mk H
   clear H
   go_wp2
   go_meet
   case rel => exact ⟨_, (true), rs_, H', ⟨by first | omega | exact Nat.le_refl _⟩, ⟨bk_ BK319.out⟩, ⟨bh_⟩⟩
  ·rw [if_neg c4] at H
   have c4b0 : decide (a0 < 1) = false := decide_eq_false c4
   clear c4
   (first | rw [c4b0] | (simp only [i64_w, i32_w]; rw [c4b0]) | skip)
   obtain ⟨t320, A5, H⟩ := bs_ H
   have H' := Aside0.mk H
   clear H
   go_wp2_with (first | (go_at_call 34; (with_reducible refine (computusref03_First.calls 1000000001 t320 _ A5.out).mono ?_); rintro e w' ⟨rfl, ⟨nd, rfl⟩⟩))
   go_meet
   case rel => exact ⟨_, (decide (a0 ≥ t320)), rs_, H', ⟨by first | omega | exact Nat.le_refl _⟩, ⟨bk_ BK319.out⟩, ⟨bh_⟩⟩
 case rest =>
  clear HC2
  try clear p2
  try clear c4
  try clear c4b0
  obtain ⟨kq, x14_1, rfl, HA, HJ1, BK319, HB⟩ := hcut
  cases kq with
  | zero => exact absurd HA.out (by simp [computusref03_FromDay.j0])
  | succ kj1 =>
   have H := HA.out
   clear HA
   simp only [computusref03_FromDay.j0] at H
   by_cases c6 : x14_1 = true
   ·subst c6
    replace H := it_ H
    simp only [Option.some.injEq, Prod.mk.injEq] at H
    obtain ⟨rfl, rfl, rfl, rfl⟩ := H
    obtain ⟨hcz7_0, hcz7_1, hcz7_2⟩ := cz3_ BK319.out
    obtain ⟨hfz7_0, hfz7_1, hfz7_2⟩ := fz3_ BK319.out
    go_wp2
    refine bodyPost_ret (results_ct rfl _ _ gb319 98 #[.int .i64 0, .int .i64 0, .int .i64 0] (0, 0) _ rfl (by refine bp_ ?_; refine blk_put (cs := #[.int .i64 0, .int .i64 0, .int .i64 0]) ?_ 2 _ rfl; refine bp_ ?_; refine blk_put (cs := #[.int .i64 0, .int .i64 0, .int .i64 0]) ?_ 1 _ rfl; refine bp_ ?_; refine blk_put (cs := #[.int .i64 0, .int .i64 0, .int .i64 0]) ?_ 0 _ rfl; exact bk_ BK319.out) Try.underlying98 rfl (by kernel_rfl)) rfl ?_
    exact rt_
   ·replace c6 := Bool.eq_false_iff.mpr c6
    subst c6
    replace H := if_ H
    have H' := Aside0.mk H
    clear H
    go_wp2
    go_loopg [4, 5] kj1 (fun kq v4 v5 w' => ∃ (x4_2 : Int) (x5_2 : Int), v4 = .int .i64 x4_2 ∧ v5 = .int .i64 x5_2 ∧ Aside0 (computusref03_FromDay.l0 kq a0 x4_2 x5_2 = some (r1, r2, r3, r4)) ∧ Aside0 (kq ≤ kj1) ∧ Aside0 (w'.heap[gb319]? = some (.cells #[.int .i64 0, .int .i64 0, .int .i64 0] 98 (0, 0))) ∧ Aside0 (Below w.heap.size w w'))
    case atStart => exact ⟨(1), (1000000000), rs_, rs_, H', ⟨Nat.le_refl _⟩, ⟨bk_ BK319.out⟩, ⟨bh_⟩⟩
    case round =>
     clear H'
     try clear p2
     try clear c4
     try clear c4b0
     try clear c6
     try clear hcz7_0
     try clear hcz7_1
     try clear hcz7_2
     try clear hfz7_0
     try clear hfz7_1
     try clear hfz7_2
     try clear p2
     obtain ⟨x4_2, x5_2, rfl, rfl, HA, HK2, BK319, HB⟩ := hrel
     cases gk with
     | zero => exact absurd HA.out (by simp [computusref03_FromDay.l0])
     | succ k2 =>
      have H := HA.out
      clear HA
      simp only [computusref03_FromDay.l0] at H
      by_cases c8 : x4_2 < x5_2
      ·rw [if_pos c8] at H
       have c8b0 : decide (x4_2 < x5_2) = true := decide_eq_true c8
       clear c8
       obtain ⟨t321, A9, H⟩ := bs_ H
       by_cases c10 : t321 ≤ a0
       ·rw [if_pos c10] at H
        have c10b0 : decide (t321 ≤ a0) = true := decide_eq_true c10
        clear c10
        have H' := Aside0.mk H
        clear H
        go_wp2_with (first | ((with_reducible refine gate_callee (f := 34) rfl ?_); refine gl_ (some 25) Try.func34 #[.int .i64 (wrap64 (Int.tdiv (wrap64 ((wrap64 (x4_2 + x5_2)) + 1)) 2))] ?_; (with_reducible refine (computusref03_First.calls (wrap64 (Int.tdiv (wrap64 ((wrap64 (x4_2 + x5_2)) + 1)) 2)) t321 _ A9.out).mono ?_); rintro e w' ⟨rfl, ⟨nd, rfl⟩⟩; refine ⟨_, rfl, ?_⟩))
        go_roundg k2
        case measure => have := HJ1.out; have := HK2.out; omega
        case rel => exact ⟨(wrap64 (Int.tdiv (wrap64 ((wrap64 (x4_2 + x5_2)) + 1)) 2)), (x5_2), rs_, rs_, H', ⟨by have := HJ1.out; have := HK2.out; omega⟩, ⟨bk_ BK319.out⟩, ⟨bh_⟩⟩
       ·rw [if_neg c10] at H
        have c10b0 : decide (t321 ≤ a0) = false := decide_eq_false c10
        clear c10
        have H' := Aside0.mk H
        clear H
        go_wp2_with (first | ((with_reducible refine gate_callee (f := 34) rfl ?_); refine gl_ (some 25) Try.func34 #[.int .i64 (wrap64 (Int.tdiv (wrap64 ((wrap64 (x4_2 + x5_2)) + 1)) 2))] ?_; (with_reducible refine (computusref03_First.calls (wrap64 (Int.tdiv (wrap64 ((wrap64 (x4_2 + x5_2)) + 1)) 2)) t321 _ A9.out).mono ?_); rintro e w' ⟨rfl, ⟨nd, rfl⟩⟩; refine ⟨_, rfl, ?_⟩))
        go_roundg k2
        case measure => have := HJ1.out; have := HK2.out; omega
        case rel => exact ⟨(x4_2), (wrap64 ((wrap64 (Int.tdiv (wrap64 ((wrap64 (x4_2 + x5_2)) + 1)) 2)) - 1)), rs_, rs_, H', ⟨by have := HJ1.out; have := HK2.out; omega⟩, ⟨bk_ BK319.out⟩, ⟨bh_⟩⟩
      ·rw [if_neg c8] at H
       have c8b0 : decide (x4_2 < x5_2) = false := decide_eq_false c8
       clear c8
       obtain ⟨t322, A11, H⟩ := bs_ H
       have H' := Aside0.mk H
       clear H
       go_wp2_with (first | ((with_reducible refine gate_callee (f := 34) rfl ?_); refine gl_ (some 34) Try.func34 #[.int .i64 x4_2] ?_; (with_reducible refine (computusref03_First.calls x4_2 t322 _ A11.out).mono ?_); rintro e w' ⟨rfl, ⟨nd, rfl⟩⟩; refine ⟨_, rfl, ?_⟩; (try (rw [drewN_self wr]; generalize hq_ : World.drewN wr _ = wr; have n0_ : Aside0 (wr.heap[gb319]? = some (.cells #[.int .i64 0, .int .i64 0, .int .i64 0] 98 (0, 0))) := ⟨by rw [← hq_]; exact (bk_ BK319.out)⟩; have n1_ : Aside0 (Below w.heap.size w wr) := ⟨by rw [← hq_]; exact bh_⟩; clear BK319 HB hq_; have BK319 := n0_; have HB := n1_; clear n0_ n1_))) | ((with_reducible refine gate_dst (N := 7) rfl ?_); refine box_event ?hg (N := 7) ?hd (cs := #[.int .i64 0, .int .i64 0, .int .i64 0]) (t := 98) ?hr ?_; (case hd => rfl); (case hg => rfl); (case hr => first | (go_simp; done) | (go_simp; rfl)); intro gb323 hg w12 hbox hb; have n0_ := Aside0.mk (blk_below (g := gb319) (o := .cells #[.int .i64 0, .int .i64 0, .int .i64 0] 98 (0, 0)) (bk_ BK319.out) hb); have n1_ := bt_ hb; have n2_ := Aside0.mk (hbox); have n3_ := Aside0.mk ((by rw [hg]; exact bz_ : w.heap.size ≤ gb323)); have n4_ := Aside0.mk ((by rw [hg]; exact bz_ : w.heap.size ≤ gb323)); have n5_ := Aside0.mk ((by rw [hg]; exact Nat.ne_of_lt (blk_lt (g := gb319) (o := .cells #[.int .i64 0, .int .i64 0, .int .i64 0] 98 (0, 0)) (bk_ BK319.out)) : gb319 ≠ gb323)); have n6_ := Aside0.mk ((by rw [hg]; exact Nat.ne_of_gt (blk_lt (g := gb319) (o := .cells #[.int .i64 0, .int .i64 0, .int .i64 0] 98 (0, 0)) (bk_ BK319.out)) : gb323 ≠ gb319)); clear BK319; clear HB; have BK319 := n0_; have HB := n1_; have BK323 := n2_; have GW323 := n3_; have GE323 := n4_; have NB319_323 := n5_; have NB323_319 := n6_; clear n0_ n1_ n2_ n3_ n4_ n5_ n6_; clear hb hbox hg; have hnb13 := NB323_319.out; have hnc13 := NB319_323.out; obtain ⟨hcz14_0, hcz14_1, hcz14_2⟩ := cz3_ BK323.out; obtain ⟨hfz14_0, hfz14_1, hfz14_2⟩ := fz3_ BK323.out))
       go_loopg [] k2 (fun kq w' => ∃ (x324001_3 : Int) (x324002_3 : Int), Aside0 (computusref03_FromDay.l1 kq x4_2 x4_2 x324001_3 x324002_3 = some (r1, r2, r3, r4)) ∧ Aside0 (kq ≤ k2) ∧ Aside0 (w'.heap[gb319]? = some (.cells #[.int .i64 0, .int .i64 0, .int .i64 0] 98 (0, 0))) ∧ Aside0 (w'.heap[gb323]? = some (.cells #[.int .i64 x4_2, .int .i64 x324001_3, .int .i64 x324002_3] 98 (0, 0))) ∧ Aside0 (Below w.heap.size w w'))
       case atStart => exact ⟨(1), (wrap64 ((wrap64 (a0 - t322)) + 1)), H', ⟨Nat.le_refl _⟩, ⟨by refine bp_ ?_; refine blk_far ?_ NB319_323.out _; refine bp_ ?_; refine blk_far ?_ NB319_323.out _; refine bp_ ?_; refine blk_far ?_ NB319_323.out _; exact bk_ BK319.out⟩, ⟨by refine bp_ ?_; refine blk_put (cs := #[.int .i64 x4_2, .int .i64 1, .int .i64 0]) ?_ 2 _ rfl; refine bp_ ?_; refine blk_put (cs := #[.int .i64 x4_2, .int .i64 0, .int .i64 0]) ?_ 1 _ rfl; refine bp_ ?_; refine blk_put (cs := #[.int .i64 0, .int .i64 0, .int .i64 0]) ?_ 0 _ rfl; exact bk_ BK323.out⟩, ⟨bh_⟩⟩
       case round =>
        clear H'
        try clear c1
        try clear p2
        try clear c3
        try clear c4
        try clear c4b0
        try clear c6
        try clear p6
        try clear c8
        try clear c8b0
        try clear c10
        try clear c10b0
        try clear c13
        try clear hcz14_0
        try clear hcz14_1
        try clear hcz14_2
        try clear hcz7_0
        try clear hcz7_1
        try clear hcz7_2
        try clear hfz14_0
        try clear hfz14_1
        try clear hfz14_2
        try clear hfz7_0
        try clear hfz7_1
        try clear hfz7_2
        try clear p2
        obtain ⟨x324001_3, x324002_3, HA, HK3, BK319, BK323, HB⟩ := hrel
        cases gk with
        | zero => exact absurd HA.out (by simp [computusref03_FromDay.l1])
        | succ k3 =>
         have H := HA.out
         clear HA
         simp only [computusref03_FromDay.l1] at H
         obtain ⟨t324, A15, H⟩ := bs_ H
         obtain ⟨t325, A16, H⟩ := bs_ H
         by_cases c17 : x324002_3 > t325
         ·rw [if_pos c17] at H
          have c17b0 : decide (t325 < x324002_3) = true := decide_eq_true c17
          clear c17
          obtain ⟨t326, A18, H⟩ := bs_ H
          obtain ⟨t327, A19, H⟩ := bs_ H
          have H' := Aside0.mk H
          clear H
          try go_wp2
          have n0_ := Aside0.mk (blk_drew BK319.out)
          have n1_ := Aside0.mk (blk_drew BK323.out)
          have n2_ := Aside0.mk (below_drew1 HB.out)
          clear BK319
          clear BK323
          clear HB
          have BK319 := n0_
          have BK323 := n1_
          have HB := n2_
          clear n0_ n1_ n2_
          refine start_ (n := 8) (S := fun w' => w'.cell? ⟨gb323, 0, none⟩ = some (.int .i64 x4_2) ∧ w'.cell? ⟨gb323, 1, none⟩ = some (.int .i64 x324001_3) ∧ w'.cell? ⟨gb323, 2, none⟩ = some (.int .i64 x324002_3)) (ds := []) #[false, false, false, false, false, false, false, false] (by kernel_rfl) rfl rfl ⟨(blk_cell BK323.out 0).trans rfl, (blk_cell BK323.out 1).trans rfl, (blk_cell BK323.out 2).trans rfl⟩ (fun hHeld => ?_); refine with_tabW computusref03_FromDay.tab11 computusref03_FromDay.bits11 (fun HT_ HW_ => ?_)
          generalize wr.drew = w20 at BK319 BK323 HB hHeld ⊢
          refine pure_ (i := 0) (N := some 38) (v := ?_) (a' := ?_) #[true, false, false, false, false, false, false, false] rfl rfl (any_of HT_.out (by kernel_rfl)) (fun _ _ _ h => h) (Or.inl ⟨by rfl, ?_⟩) ?_ ?_
          rotate_left
          ·intro w'
           go_simp
           with_reducible rfl
          rotate_left
          ·simp only [Act.put, List.setIfInBounds_toArray, List.set_cons_zero, List.set_cons_succ, i64_w, i32_w]
           rfl
          refine pure_ (i := 2) (N := some 40) (v := ?_) (a' := ?_) #[true, false, true, false, false, false, false, false] rfl rfl (any_of HT_.out (by kernel_rfl)) (fun _ _ _ h => h) (Or.inl ⟨by rfl, ?_⟩) ?_ ?_
          rotate_left
          ·intro w'
           go_simp
           with_reducible rfl
          rotate_left
          ·simp only [Act.put, List.setIfInBounds_toArray, List.set_cons_zero, List.set_cons_succ, i64_w, i32_w]
           rfl
          refine pure_ (i := 4) (N := some 42) (v := ?_) (a' := ?_) #[true, false, true, false, true, false, false, false] rfl rfl (any_of HT_.out (by kernel_rfl)) (fun _ _ _ h => h) (Or.inl ⟨by rfl, ?_⟩) ?_ ?_
          rotate_left
          ·intro w'
           go_simp
           with_reducible rfl
          rotate_left
          ·simp only [Act.put, List.setIfInBounds_toArray, List.set_cons_zero, List.set_cons_succ, i64_w, i32_w]
           rfl
          refine take_ (i := 1) (N := some 39) (v := ?_) (a' := ?_) #[true, true, true, false, true, false, false, false] rfl rfl (take_ofW HT_.out HW_.out (by kernel_rfl)) (fun _ _ _ h => h) (Or.inl ⟨by rfl, ?_⟩) hHeld ?_ ?_
          rotate_left
          ·rintro w' ⟨s0, s1, s2⟩
           go_simp
           with_reducible rfl
          rotate_left
          ·simp only [Act.put, List.setIfInBounds_toArray, List.set_cons_zero, List.set_cons_succ, i64_w, i32_w]
           rfl
          refine take_ (i := 5) (N := some 43) (v := ?_) (a' := ?_) #[true, true, true, false, true, true, false, false] rfl rfl (take_ofW HT_.out HW_.out (by kernel_rfl)) (fun _ _ _ h => h) (Or.inl ⟨by rfl, ?_⟩) hHeld ?_ ?_
          rotate_left
          ·rintro w' ⟨s0, s1, s2⟩
           go_simp
           with_reducible rfl
          rotate_left
          ·simp only [Act.put, List.setIfInBounds_toArray, List.set_cons_zero, List.set_cons_succ, i64_w, i32_w]
           rfl
          refine one_ (i := 3) (N := some 41) #[true, true, true, true, true, true, false, false] rfl rfl (one_of HT_.out (by kernel_rfl)) (by decide) (fun K hK => ?_)
          refine goes_ Try.func72 (by kernel_rfl) rfl #[.int .i64 x4_2] (by rfl) rfl rfl (by (try simp only [List.map_toArray, List.map_cons, List.map_nil]); first | done | rfl | (simp only [List.length_drop, List.length_take]; rfl)) ?_
          with_reducible refine (computusref03_Leap.calls x4_2 t324 _ A15.out).mono ?_
          rintro e w' ⟨rfl, ⟨nd, rfl⟩⟩
          refine ⟨_, rfl, ?_⟩
          refine hK.out _ _ (by first | exact ⟨(blk_cell BK323.out 0).trans rfl, (blk_cell BK323.out 1).trans rfl, (blk_cell BK323.out 2).trans rfl⟩ | exact hHeld) (fun hHeld => ?_)
          clear hK K
          refine norm_ (a' := ?_) ?_ ?_
          rotate_left
          ·show Act.put _ (some 41) _ = _
           simp only [Act.put, List.setIfInBounds_toArray, List.set_cons_zero, List.set_cons_succ, i64_w, i32_w]
           rfl
          refine one_ (i := 6) (N := some 44) #[true, true, true, true, true, true, true, false] rfl rfl (one_of HT_.out (by kernel_rfl)) (by decide) (fun K hK => ?_)
          refine goes_ Try.func71 (by kernel_rfl) rfl #[.bool t324, .int .i64 x324001_3] (by rfl) rfl rfl (by (try simp only [List.map_toArray, List.map_cons, List.map_nil]); first | done | rfl | (simp only [List.length_drop, List.length_take]; rfl)) ?_
          with_reducible refine (computusref02_Length.calls k3 t324 x324001_3 t325 _ A16.out).mono ?_
          rintro e w' ⟨rfl, ⟨nd, rfl⟩⟩
          refine ⟨_, rfl, ?_⟩
          refine hK.out _ _ (by first | exact ⟨(blk_cell BK323.out 0).trans rfl, (blk_cell BK323.out 1).trans rfl, (blk_cell BK323.out 2).trans rfl⟩ | exact hHeld) (fun hHeld => ?_)
          clear hK K
          refine norm_ (a' := ?_) ?_ ?_
          rotate_left
          ·show Act.put _ (some 44) _ = _
           simp only [Act.put, List.setIfInBounds_toArray, List.set_cons_zero, List.set_cons_succ, i64_w, i32_w]
           rfl
          refine pure_ (i := 7) (N := some 45) (v := ?_) (a' := ?_) #[true, true, true, true, true, true, true, true] rfl rfl (any_of HT_.out (by kernel_rfl)) (fun _ _ _ h => h) (Or.inl ⟨by rfl, ?_⟩) ?_ ?_
          rotate_left
          ·intro w'
           go_simp
           with_reducible rfl
          rotate_left
          ·simp only [Act.put, List.setIfInBounds_toArray, List.set_cons_zero, List.set_cons_succ, i64_w, i32_w]
           rfl
          refine done_ (done_of HT_.out (by kernel_rfl)) ?_
          try go_wp2
          (try (rw [drewN_self w20]; generalize hq_ : World.drewN w20 _ = w20; have n0_ : Aside0 (w20.heap[gb319]? = some (.cells #[.int .i64 0, .int .i64 0, .int .i64 0] 98 (0, 0))) := ⟨by rw [← hq_]; exact (bk_ BK319.out)⟩; have n1_ : Aside0 (w20.heap[gb323]? = some (.cells #[.int .i64 x4_2, .int .i64 x324001_3, .int .i64 x324002_3] 98 (0, 0))) := ⟨by rw [← hq_]; exact (bk_ BK323.out)⟩; have n2_ : Aside0 (Below w.heap.size w w20) := ⟨by rw [← hq_]; exact bh_⟩; clear BK319 BK323 HB hq_; have BK319 := n0_; have BK323 := n1_; have HB := n2_; clear n0_ n1_ n2_))
          (try (rw [drewN_self w20]; generalize hq_ : World.drewN w20 _ = w20; have n0_ : Aside0 (w20.heap[gb319]? = some (.cells #[.int .i64 0, .int .i64 0, .int .i64 0] 98 (0, 0))) := ⟨by rw [← hq_]; exact (bk_ BK319.out)⟩; have n1_ : Aside0 (w20.heap[gb323]? = some (.cells #[.int .i64 x4_2, .int .i64 x324001_3, .int .i64 x324002_3] 98 (0, 0))) := ⟨by rw [← hq_]; exact (bk_ BK323.out)⟩; have n2_ : Aside0 (Below w.heap.size w w20) := ⟨by rw [← hq_]; exact bh_⟩; clear BK319 BK323 HB hq_; have BK319 := n0_; have BK323 := n1_; have HB := n2_; clear n0_ n1_ n2_))
          have n0_ := Aside0.mk (blk_drew BK319.out)
          have n1_ := Aside0.mk (blk_drew BK323.out)
          have n2_ := Aside0.mk (below_drew1 HB.out)
          clear BK319
          clear BK323
          clear HB
          have BK319 := n0_
          have BK323 := n1_
          have HB := n2_
          clear n0_ n1_ n2_
          refine start_ (n := 10) (S := fun w' => w'.cell? ⟨gb323, 0, none⟩ = some (.int .i64 x4_2) ∧ w'.cell? ⟨gb323, 1, none⟩ = some (.int .i64 x324001_3) ∧ w'.cell? ⟨gb323, 2, none⟩ = some (.int .i64 x324002_3)) (ds := [9]) #[false, false, false, false, false, false, false, false, false, false] (by kernel_rfl) rfl rfl ⟨(blk_cell BK323.out 0).trans rfl, (blk_cell BK323.out 1).trans rfl, (blk_cell BK323.out 2).trans rfl⟩ (fun hHeld => ?_); refine with_tabW computusref03_FromDay.tab12 computusref03_FromDay.bits12 (fun HT_ HW_ => ?_)
          generalize w20.drew = w21 at BK319 BK323 HB hHeld ⊢
          refine pure_ (i := 0) (N := some 46) (v := ?_) (a' := ?_) #[true, false, false, false, false, false, false, false, false, false] rfl rfl (any_of HT_.out (by kernel_rfl)) (fun _ _ _ h => h) (Or.inl ⟨by rfl, ?_⟩) ?_ ?_
          rotate_left
          ·intro w'
           go_simp
           with_reducible rfl
          rotate_left
          ·simp only [Act.put, List.setIfInBounds_toArray, List.set_cons_zero, List.set_cons_succ, i64_w, i32_w]
           rfl
          refine pure_ (i := 2) (N := some 48) (v := ?_) (a' := ?_) #[true, false, true, false, false, false, false, false, false, false] rfl rfl (any_of HT_.out (by kernel_rfl)) (fun _ _ _ h => h) (Or.inl ⟨by rfl, ?_⟩) ?_ ?_
          rotate_left
          ·intro w'
           go_simp
           with_reducible rfl
          rotate_left
          ·simp only [Act.put, List.setIfInBounds_toArray, List.set_cons_zero, List.set_cons_succ, i64_w, i32_w]
           rfl
          refine pure_ (i := 4) (N := some 50) (v := ?_) (a' := ?_) #[true, false, true, false, true, false, false, false, false, false] rfl rfl (any_of HT_.out (by kernel_rfl)) (fun _ _ _ h => h) (Or.inl ⟨by rfl, ?_⟩) ?_ ?_
          rotate_left
          ·intro w'
           go_simp
           with_reducible rfl
          rotate_left
          ·simp only [Act.put, List.setIfInBounds_toArray, List.set_cons_zero, List.set_cons_succ, i64_w, i32_w]
           rfl
          refine take_ (i := 1) (N := some 47) (v := ?_) (a' := ?_) #[true, true, true, false, true, false, false, false, false, false] rfl rfl (take_ofW HT_.out HW_.out (by kernel_rfl)) (fun _ _ _ h => h) (Or.inl ⟨by rfl, ?_⟩) hHeld ?_ ?_
          rotate_left
          ·rintro w' ⟨s0, s1, s2⟩
           go_simp
           with_reducible rfl
          rotate_left
          ·simp only [Act.put, List.setIfInBounds_toArray, List.set_cons_zero, List.set_cons_succ, i64_w, i32_w]
           rfl
          refine take_ (i := 5) (N := some 51) (v := ?_) (a' := ?_) #[true, true, true, false, true, true, false, false, false, false] rfl rfl (take_ofW HT_.out HW_.out (by kernel_rfl)) (fun _ _ _ h => h) (Or.inl ⟨by rfl, ?_⟩) hHeld ?_ ?_
          rotate_left
          ·rintro w' ⟨s0, s1, s2⟩
           go_simp
           with_reducible rfl
          rotate_left
          ·simp only [Act.put, List.setIfInBounds_toArray, List.set_cons_zero, List.set_cons_succ, i64_w, i32_w]
           rfl
          refine one_ (i := 3) (N := some 49) #[true, true, true, true, true, true, false, false, false, false] rfl rfl (one_of HT_.out (by kernel_rfl)) (by decide) (fun K hK => ?_)
          refine goes_ Try.func72 (by kernel_rfl) rfl #[.int .i64 x4_2] (by rfl) rfl rfl (by (try simp only [List.map_toArray, List.map_cons, List.map_nil]); first | done | rfl | (simp only [List.length_drop, List.length_take]; rfl)) ?_
          with_reducible refine (computusref03_Leap.calls x4_2 t326 _ A18.out).mono ?_
          rintro e w' ⟨rfl, ⟨nd, rfl⟩⟩
          refine ⟨_, rfl, ?_⟩
          refine hK.out _ _ (by first | exact ⟨(blk_cell BK323.out 0).trans rfl, (blk_cell BK323.out 1).trans rfl, (blk_cell BK323.out 2).trans rfl⟩ | exact hHeld) (fun hHeld => ?_)
          clear hK K
          refine norm_ (a' := ?_) ?_ ?_
          rotate_left
          ·show Act.put _ (some 49) _ = _
           simp only [Act.put, List.setIfInBounds_toArray, List.set_cons_zero, List.set_cons_succ, i64_w, i32_w]
           rfl
          refine one_ (i := 6) (N := some 52) #[true, true, true, true, true, true, true, false, false, false] rfl rfl (one_of HT_.out (by kernel_rfl)) (by decide) (fun K hK => ?_)
          refine goes_ Try.func71 (by kernel_rfl) rfl #[.bool t326, .int .i64 x324001_3] (by rfl) rfl rfl (by (try simp only [List.map_toArray, List.map_cons, List.map_nil]); first | done | rfl | (simp only [List.length_drop, List.length_take]; rfl)) ?_
          with_reducible refine (computusref02_Length.calls k3 t326 x324001_3 t327 _ A19.out).mono ?_
          rintro e w' ⟨rfl, ⟨nd, rfl⟩⟩
          refine ⟨_, rfl, ?_⟩
          refine hK.out _ _ (by first | exact ⟨(blk_cell BK323.out 0).trans rfl, (blk_cell BK323.out 1).trans rfl, (blk_cell BK323.out 2).trans rfl⟩ | exact hHeld) (fun hHeld => ?_)
          clear hK K
          refine norm_ (a' := ?_) ?_ ?_
          rotate_left
          ·show Act.put _ (some 52) _ = _
           simp only [Act.put, List.setIfInBounds_toArray, List.set_cons_zero, List.set_cons_succ, i64_w, i32_w]
           rfl
          refine pure_ (i := 7) (N := some 53) (v := ?_) (a' := ?_) #[true, true, true, true, true, true, true, true, false, false] rfl rfl (any_of HT_.out (by kernel_rfl)) (fun _ _ _ h => h) (Or.inl ⟨by rfl, ?_⟩) ?_ ?_
          rotate_left
          ·intro w'
           go_simp
           with_reducible rfl
          rotate_left
          ·simp only [Act.put, List.setIfInBounds_toArray, List.set_cons_zero, List.set_cons_succ, i64_w, i32_w]
           rfl
          refine pure_ (i := 8) (N := some 54) (v := ?_) (a' := ?_) #[true, true, true, true, true, true, true, true, true, false] rfl rfl (any_of HT_.out (by kernel_rfl)) (fun _ _ _ h => h) (Or.inl ⟨by rfl, ?_⟩) ?_ ?_
          rotate_left
          ·intro w'
           go_simp
           with_reducible rfl
          rotate_left
          ·simp only [Act.put, List.setIfInBounds_toArray, List.set_cons_zero, List.set_cons_succ, i64_w, i32_w]
           rfl
          refine last_ (i := 9) (N := none) #[true, true, true, true, true, true, true, true, true, true] rfl rfl (one_of HT_.out (by kernel_rfl)) (by decide) (fun K hK => ?_)
          have hs22 : w21.cell? ⟨gb323, 2, none⟩ = some (.int .i64 x324002_3) := (blk_cell BK323.out 2).trans rfl
          have hfs22 := blk_frozen BK323.out 2
          have hns22_0 := NB319_323.out
          have hms22_0 := NB323_319.out
          refine skip_ (w1 := ?_) (by rfl) rfl ?_ ?_
          rotate_left
          ·go_simp
           rfl
          refine hK.out _ _ ?_
          clear hK K
          refine done_ (done_of HT_.out (by kernel_rfl)) ?_
          have hnb23 := NB323_319.out
          have hnc23 := NB319_323.out
          obtain ⟨hcz24_0, hcz24_1, hcz24_2⟩ := cz3_ BK323.out
          obtain ⟨hfz24_0, hfz24_1, hfz24_2⟩ := fz3_ BK323.out
          try go_wp2
          go_roundg k3
          case measure => have := HJ1.out; have := HK2.out; have := HK3.out; omega
          case rel => exact ⟨(wrap64 (x324001_3 + 1)), (wrap64 (x324002_3 - t327)), H', ⟨by have := HJ1.out; have := HK2.out; have := HK3.out; omega⟩, ⟨by refine bp_ ?_; refine blk_far ?_ NB319_323.out _; refine bp_ ?_; refine blk_far ?_ NB319_323.out _; exact bk_ BK319.out⟩, ⟨by refine bp_ ?_; refine blk_put (cs := #[.int .i64 x4_2, .int .i64 x324001_3, .int .i64 (wrap64 (x324002_3 - t327))]) ?_ 1 _ rfl; refine bp_ ?_; refine blk_put (cs := #[.int .i64 x4_2, .int .i64 x324001_3, .int .i64 x324002_3]) ?_ 2 _ rfl; exact bk_ BK323.out⟩, ⟨bh_⟩⟩
         ·rw [if_neg c17] at H
          have c17b0 : decide (t325 < x324002_3) = false := decide_eq_false c17
          clear c17
          simp only [Option.some.injEq, Prod.mk.injEq] at H
          obtain ⟨rfl, rfl, rfl, rfl⟩ := H
          try go_wp2
          have n0_ := Aside0.mk (blk_drew BK319.out)
          have n1_ := Aside0.mk (blk_drew BK323.out)
          have n2_ := Aside0.mk (below_drew1 HB.out)
          clear BK319
          clear BK323
          clear HB
          have BK319 := n0_
          have BK323 := n1_
          have HB := n2_
          clear n0_ n1_ n2_
          refine start_ (n := 8) (S := fun w' => w'.cell? ⟨gb323, 0, none⟩ = some (.int .i64 x4_2) ∧ w'.cell? ⟨gb323, 1, none⟩ = some (.int .i64 x324001_3) ∧ w'.cell? ⟨gb323, 2, none⟩ = some (.int .i64 x324002_3)) (ds := []) #[false, false, false, false, false, false, false, false] (by kernel_rfl) rfl rfl ⟨(blk_cell BK323.out 0).trans rfl, (blk_cell BK323.out 1).trans rfl, (blk_cell BK323.out 2).trans rfl⟩ (fun hHeld => ?_); refine with_tabW computusref03_FromDay.tab11 computusref03_FromDay.bits11 (fun HT_ HW_ => ?_)
          generalize wr.drew = w25 at BK319 BK323 HB hHeld ⊢
          refine pure_ (i := 0) (N := some 38) (v := ?_) (a' := ?_) #[true, false, false, false, false, false, false, false] rfl rfl (any_of HT_.out (by kernel_rfl)) (fun _ _ _ h => h) (Or.inl ⟨by rfl, ?_⟩) ?_ ?_
          rotate_left
          ·intro w'
           go_simp
           with_reducible rfl
          rotate_left
          ·simp only [Act.put, List.setIfInBounds_toArray, List.set_cons_zero, List.set_cons_succ, i64_w, i32_w]
           rfl
          refine pure_ (i := 2) (N := some 40) (v := ?_) (a' := ?_) #[true, false, true, false, false, false, false, false] rfl rfl (any_of HT_.out (by kernel_rfl)) (fun _ _ _ h => h) (Or.inl ⟨by rfl, ?_⟩) ?_ ?_
          rotate_left
          ·intro w'
           go_simp
           with_reducible rfl
          rotate_left
          ·simp only [Act.put, List.setIfInBounds_toArray, List.set_cons_zero, List.set_cons_succ, i64_w, i32_w]
           rfl
          refine pure_ (i := 4) (N := some 42) (v := ?_) (a' := ?_) #[true, false, true, false, true, false, false, false] rfl rfl (any_of HT_.out (by kernel_rfl)) (fun _ _ _ h => h) (Or.inl ⟨by rfl, ?_⟩) ?_ ?_
          rotate_left
          ·intro w'
           go_simp
           with_reducible rfl
          rotate_left
          ·simp only [Act.put, List.setIfInBounds_toArray, List.set_cons_zero, List.set_cons_succ, i64_w, i32_w]
           rfl
          refine take_ (i := 1) (N := some 39) (v := ?_) (a' := ?_) #[true, true, true, false, true, false, false, false] rfl rfl (take_ofW HT_.out HW_.out (by kernel_rfl)) (fun _ _ _ h => h) (Or.inl ⟨by rfl, ?_⟩) hHeld ?_ ?_
          rotate_left
          ·rintro w' ⟨s0, s1, s2⟩
           go_simp
           with_reducible rfl
          rotate_left
          ·simp only [Act.put, List.setIfInBounds_toArray, List.set_cons_zero, List.set_cons_succ, i64_w, i32_w]
           rfl
          refine take_ (i := 5) (N := some 43) (v := ?_) (a' := ?_) #[true, true, true, false, true, true, false, false] rfl rfl (take_ofW HT_.out HW_.out (by kernel_rfl)) (fun _ _ _ h => h) (Or.inl ⟨by rfl, ?_⟩) hHeld ?_ ?_
          rotate_left
          ·rintro w' ⟨s0, s1, s2⟩
           go_simp
           with_reducible rfl
          rotate_left
          ·simp only [Act.put, List.setIfInBounds_toArray, List.set_cons_zero, List.set_cons_succ, i64_w, i32_w]
           rfl
          refine one_ (i := 3) (N := some 41) #[true, true, true, true, true, true, false, false] rfl rfl (one_of HT_.out (by kernel_rfl)) (by decide) (fun K hK => ?_)
          refine goes_ Try.func72 (by kernel_rfl) rfl #[.int .i64 x4_2] (by rfl) rfl rfl (by (try simp only [List.map_toArray, List.map_cons, List.map_nil]); first | done | rfl | (simp only [List.length_drop, List.length_take]; rfl)) ?_
          with_reducible refine (computusref03_Leap.calls x4_2 t324 _ A15.out).mono ?_
          rintro e w' ⟨rfl, ⟨nd, rfl⟩⟩
          refine ⟨_, rfl, ?_⟩
          refine hK.out _ _ (by first | exact ⟨(blk_cell BK323.out 0).trans rfl, (blk_cell BK323.out 1).trans rfl, (blk_cell BK323.out 2).trans rfl⟩ | exact hHeld) (fun hHeld => ?_)
          clear hK K
          refine norm_ (a' := ?_) ?_ ?_
          rotate_left
          ·show Act.put _ (some 41) _ = _
           simp only [Act.put, List.setIfInBounds_toArray, List.set_cons_zero, List.set_cons_succ, i64_w, i32_w]
           rfl
          refine one_ (i := 6) (N := some 44) #[true, true, true, true, true, true, true, false] rfl rfl (one_of HT_.out (by kernel_rfl)) (by decide) (fun K hK => ?_)
          refine goes_ Try.func71 (by kernel_rfl) rfl #[.bool t324, .int .i64 x324001_3] (by rfl) rfl rfl (by (try simp only [List.map_toArray, List.map_cons, List.map_nil]); first | done | rfl | (simp only [List.length_drop, List.length_take]; rfl)) ?_
          with_reducible refine (computusref02_Length.calls k3 t324 x324001_3 t325 _ A16.out).mono ?_
          rintro e w' ⟨rfl, ⟨nd, rfl⟩⟩
          refine ⟨_, rfl, ?_⟩
          refine hK.out _ _ (by first | exact ⟨(blk_cell BK323.out 0).trans rfl, (blk_cell BK323.out 1).trans rfl, (blk_cell BK323.out 2).trans rfl⟩ | exact hHeld) (fun hHeld => ?_)
          clear hK K
          refine norm_ (a' := ?_) ?_ ?_
          rotate_left
          ·show Act.put _ (some 44) _ = _
           simp only [Act.put, List.setIfInBounds_toArray, List.set_cons_zero, List.set_cons_succ, i64_w, i32_w]
           rfl
          refine pure_ (i := 7) (N := some 45) (v := ?_) (a' := ?_) #[true, true, true, true, true, true, true, true] rfl rfl (any_of HT_.out (by kernel_rfl)) (fun _ _ _ h => h) (Or.inl ⟨by rfl, ?_⟩) ?_ ?_
          rotate_left
          ·intro w'
           go_simp
           with_reducible rfl
          rotate_left
          ·simp only [Act.put, List.setIfInBounds_toArray, List.set_cons_zero, List.set_cons_succ, i64_w, i32_w]
           rfl
          refine done_ (done_of HT_.out (by kernel_rfl)) ?_
          have hnb26 := NB323_319.out
          have hnc26 := NB319_323.out
          obtain ⟨hcz27_0, hcz27_1, hcz27_2⟩ := cz3_ BK323.out
          obtain ⟨hfz27_0, hfz27_1, hfz27_2⟩ := fz3_ BK323.out
          obtain ⟨hcz28_0, hcz28_1, hcz28_2⟩ := cz3_ BK319.out
          obtain ⟨hfz28_0, hfz28_1, hfz28_2⟩ := fz3_ BK319.out
          try go_wp2
          refine bodyPost_ret (results_ct rfl _ _ gb319 98 #[.int .i64 x4_2, .int .i64 x324001_3, .int .i64 x324002_3] (0, 0) _ rfl (by refine bp_ ?_; refine blk_put (cs := #[.int .i64 x4_2, .int .i64 x324001_3, .int .i64 0]) ?_ 2 _ rfl; refine bp_ ?_; refine blk_put (cs := #[.int .i64 x4_2, .int .i64 0, .int .i64 0]) ?_ 1 _ rfl; refine bp_ ?_; refine blk_put (cs := #[.int .i64 0, .int .i64 0, .int .i64 0]) ?_ 0 _ rfl; exact bk_ BK319.out) Try.underlying98 rfl (by kernel_rfl)) rfl ?_
          exact rt_
end Go.Proofs.Ytopfjjdkffdjpaa.Q
end
section
namespace Go.Proofs.Ytopfjjdkffdjpaa.Q
open Go.RowKit Go.Proofs.YtopfjjdkffdjpaaW.PrintWords Go.Proofs.YtopfjjdkffdjpaaW.PrintLast Go.Proofs.YtopfjjdkffdjpaaW.PrintMore
attribute [local go_sem] max2_int min2_int max_two min_two max_three min_three max_four min_four
def computusref05_FromDay.f (k : Nat) (a0 : Int) (a1 : Int) : Option (Int × Int × Int × Int) := if a0 = 1 then ((computusref02_FromDay.f k a1).bind fun bt329 => (some (bt329.1, bt329.2.1, bt329.2.2.1, bt329.2.2.2))) else (if a0 = 2 then ((computusref03_FromDay.f k a1).bind fun bt333 => (some (bt333.1, bt333.2.1, bt333.2.2.1, bt333.2.2.2))) else (some (0, 0, 0, 3)))
theorem computusref05_FromDay.mono : ∀ a0 a1 k, LeO (computusref05_FromDay.f k a0 a1) (computusref05_FromDay.f (k + 1) a0 a1) := by
 intro a0 a1 k
 unfold computusref05_FromDay.f
 repeat' first | (with_reducible first | exact computusref02_FromDay.mono _ _ | exact computusref03_FromDay.mono _ _ | exact LeO.refl _ | exact LeO.none _ | refine LeO.ite ?_ ?_ | refine LeO.bind ?_ (fun _ => ?_)) | exact computusref02_FromDay.mono _ _ | exact computusref03_FromDay.mono _ _ | exact LeO.none _ | refine LeO.ite ?_ ?_ | refine LeO.bind ?_ (fun _ => ?_)
set_option maxHeartbeats 8000000 in
set_option maxRecDepth 100000 in
theorem computusref05_FromDay.calls (k : Nat) (a0 : Int) (a1 : Int) (r1 : Int) (r2 : Int) (r3 : Int) (r4 : Int) (w : World) (h : computusref05_FromDay.f k a0 a1 = some (r1, r2, r3, r4)) :
  Calls Try.prog 78 #[.int .i64 a0, .int .i64 a1] w fun e w' => e = .returned (.tuple #[.agg #[.int .i64 r1, .int .i64 r2, .int .i64 r3], .int .i64 r4]) ∧ Below w.heap.size w w' := by
 have hu98 := Try.underlying98
 have HB := Aside0.mk (Below.refl w.heap.size w)
 have H : (if a0 = 1 then ((computusref02_FromDay.f k a1).bind fun bt329 => (some (bt329.1, bt329.2.1, bt329.2.2.1, bt329.2.2.2))) else (if a0 = 2 then ((computusref03_FromDay.f k a1).bind fun bt333 => (some (bt333.1, bt333.2.1, bt333.2.2.1, bt333.2.2.2))) else (some (0, 0, 0, 3)))) = some (r1, r2, r3, r4) := h
 clear h
 by_cases c3 : a0 = 1
 ·rw [if_pos c3] at H
  have c3b0 : (a0 == 1) = true := beq_iff_eq.mpr c3
  have c3b1 : (a0 != 1) = false := bne_eq_false_iff_eq.mpr c3
  clear c3
  obtain ⟨⟨t329, t330, t331, t332⟩, A4, H⟩ := bs_ H
  dsimp only at H
  simp only [Option.some.injEq, Prod.mk.injEq] at H
  obtain ⟨rfl, rfl, rfl, rfl⟩ := H
  go_enter Try.func78, Try.ntmps78
  go_wp2_with (first | ((with_reducible refine gate_dst (N := 4) rfl ?_); refine bx_ (w := w) (N := 4) (cs := #[.int .i64 0, .int .i64 0, .int .i64 0]) (t := 98) ?_; intro gb328 w5 BK328 n0_ GW328 GE328; clear HB; have HB := n0_; clear n0_) | ((with_reducible refine gate_callee (f := 84) rfl ?_); refine gl_ (some 9) Try.func84 #[.int .i64 a1] ?_; (with_reducible refine (computusref02_FromDay.calls k a1 t329 t330 t331 t332 _ A4.out).mono ?_); rintro e w6 ⟨rfl, hb⟩; refine ⟨_, rfl, ?_⟩; have n0_ := Aside0.mk (blk_below (g := gb328) (o := .cells #[.int .i64 0, .int .i64 0, .int .i64 0] 98 (0, 0)) (bk_ BK328.out) hb); have n1_ := bt_ hb; clear BK328; clear HB; have BK328 := n0_; have HB := n1_; clear n0_ n1_; (try clear hb); (try clear hb2); (try clear hk); (try clear hi); obtain ⟨hcz7_0, hcz7_1, hcz7_2⟩ := cz3_ BK328.out; obtain ⟨hfz7_0, hfz7_1, hfz7_2⟩ := fz3_ BK328.out))
  refine bodyPost_ret (results_ct rfl _ _ gb328 98 #[.int .i64 t329, .int .i64 t330, .int .i64 t331] (0, 0) _ rfl (by refine bp_ ?_; refine blk_put (cs := #[.int .i64 t329, .int .i64 t330, .int .i64 0]) ?_ 2 _ rfl; refine bp_ ?_; refine blk_put (cs := #[.int .i64 t329, .int .i64 0, .int .i64 0]) ?_ 1 _ rfl; refine bp_ ?_; refine blk_put (cs := #[.int .i64 0, .int .i64 0, .int .i64 0]) ?_ 0 _ rfl; exact bk_ BK328.out) Try.underlying98 rfl (by kernel_rfl)) rfl ?_
  exact rt_
 ·rw [if_neg c3] at H
  have c3b0 : (a0 == 1) = false := beq_eq_false_iff_ne.mpr c3
  have c3b1 : (a0 != 1) = true := bne_iff_ne.mpr c3
  by_cases c8 : a0 = 2
  ·rw [if_pos c8] at H
   have c8b0 : (a0 == 2) = true := beq_iff_eq.mpr c8
   have c8b1 : (a0 != 2) = false := bne_eq_false_iff_eq.mpr c8
   clear c8
   obtain ⟨⟨t333, t334, t335, t336⟩, A9, H⟩ := bs_ H
   dsimp only at H
   simp only [Option.some.injEq, Prod.mk.injEq] at H
   obtain ⟨rfl, rfl, rfl, rfl⟩ := H
   go_enter Try.func78, Try.ntmps78
   go_wp2_with (first | ((with_reducible refine gate_dst (N := 4) rfl ?_); refine bx_ (w := w) (N := 4) (cs := #[.int .i64 0, .int .i64 0, .int .i64 0]) (t := 98) ?_; intro gb328 w10 BK328 n0_ GW328 GE328; clear HB; have HB := n0_; clear n0_) | ((with_reducible refine gate_callee (f := 85) rfl ?_); refine gl_ (some 15) Try.func85 #[.int .i64 a1] ?_; (with_reducible refine (computusref03_FromDay.calls k a1 t333 t334 t335 t336 _ A9.out).mono ?_); rintro e w11 ⟨rfl, hb⟩; refine ⟨_, rfl, ?_⟩; have n0_ := Aside0.mk (blk_below (g := gb328) (o := .cells #[.int .i64 0, .int .i64 0, .int .i64 0] 98 (0, 0)) (bk_ BK328.out) hb); have n1_ := bt_ hb; clear BK328; clear HB; have BK328 := n0_; have HB := n1_; clear n0_ n1_; (try clear hb); (try clear hb2); (try clear hk); (try clear hi); obtain ⟨hcz12_0, hcz12_1, hcz12_2⟩ := cz3_ BK328.out; obtain ⟨hfz12_0, hfz12_1, hfz12_2⟩ := fz3_ BK328.out))
   refine bodyPost_ret (results_ct rfl _ _ gb328 98 #[.int .i64 t333, .int .i64 t334, .int .i64 t335] (0, 0) _ rfl (by refine bp_ ?_; refine blk_put (cs := #[.int .i64 t333, .int .i64 t334, .int .i64 0]) ?_ 2 _ rfl; refine bp_ ?_; refine blk_put (cs := #[.int .i64 t333, .int .i64 0, .int .i64 0]) ?_ 1 _ rfl; refine bp_ ?_; refine blk_put (cs := #[.int .i64 0, .int .i64 0, .int .i64 0]) ?_ 0 _ rfl; exact bk_ BK328.out) Try.underlying98 rfl (by kernel_rfl)) rfl ?_
   exact rt_
  ·rw [if_neg c8] at H
   have c8b0 : (a0 == 2) = false := beq_eq_false_iff_ne.mpr c8
   have c8b1 : (a0 != 2) = true := bne_iff_ne.mpr c8
   simp only [Option.some.injEq, Prod.mk.injEq] at H
   obtain ⟨rfl, rfl, rfl, rfl⟩ := H
   go_enter Try.func78, Try.ntmps78
   go_wp2_with (first | ((with_reducible refine gate_dst (N := 4) rfl ?_); refine bx_ (w := w) (N := 4) (cs := #[.int .i64 0, .int .i64 0, .int .i64 0]) (t := 98) ?_; intro gb328 w13 BK328 n0_ GW328 GE328; clear HB; have HB := n0_; clear n0_; obtain ⟨hcz14_0, hcz14_1, hcz14_2⟩ := cz3_ BK328.out; obtain ⟨hfz14_0, hfz14_1, hfz14_2⟩ := fz3_ BK328.out))
   refine bodyPost_ret (results_ct rfl _ _ gb328 98 #[.int .i64 0, .int .i64 0, .int .i64 0] (0, 0) _ rfl (by refine bp_ ?_; refine blk_put (cs := #[.int .i64 0, .int .i64 0, .int .i64 0]) ?_ 2 _ rfl; refine bp_ ?_; refine blk_put (cs := #[.int .i64 0, .int .i64 0, .int .i64 0]) ?_ 1 _ rfl; refine bp_ ?_; refine blk_put (cs := #[.int .i64 0, .int .i64 0, .int .i64 0]) ?_ 0 _ rfl; exact bk_ BK328.out) Try.underlying98 rfl (by kernel_rfl)) rfl ?_
   exact rt_
def computusref08_starts.f  : Option (List Int) := some (([101, 131, 301, 331, 429, 529, 627, 727, 825, 924, 1023, 1122, 1221] : List Int))
set_option maxHeartbeats 8000000 in
set_option maxRecDepth 100000 in
theorem computusref08_starts.calls  (r : List Int) (w : World) (h : computusref08_starts.f  = some r) :
  Calls Try.prog 91 #[] w fun e w' => ∃ v0_ : Value, e = .returned (v0_) ∧ Kd.R (Kd.int .i64) 3 w' w.heap.size (fun _ => True) v0_ r ∧ Below w.heap.size w w' := by
 have HB := Aside0.mk (Below.refl w.heap.size w)
 have H : (some (([101, 131, 301, 331, 429, 529, 627, 727, 825, 924, 1023, 1122, 1221] : List Int))) = some r := h
 clear h
 obtain ⟨y337, hy337⟩ : ∃ y_ : List Int, y_ = (([101, 131, 301, 331, 429, 529, 627, 727, 825, 924, 1023, 1122, 1221] : List Int)) := ⟨_, rfl⟩
 replace H : (some y337) = some r := by first | (rw [hy337]; with_reducible exact H) | (have H2_ := (Option.bind_some _ _).symm.trans H; rw [hy337]; with_reducible exact H2_) | (have H2_ := (Option.bind_some _ _).symm.trans H; with_reducible exact H2_) | with_reducible exact H | (rw [hy337]; exact H) | exact H
 have Ny337 := Aside0.mk hy337
 clear hy337
 obtain rfl := Option.some.inj H
 go_enter Try.func91, Try.ntmps91
 go_wp2_with (first | ((with_reducible refine gate_dst (N := 1) rfl ?_); refine Kd.R_lit (Kd.int .i64) _ 3 ?hg (N := 1) ?hd (xs := ([101, 131, 301, 331, 429, 529, 627, 727, 825, 924, 1023, 1122, 1221] : List Int)) (inner := [.int .i64 101, .int .i64 131, .int .i64 301, .int .i64 331, .int .i64 429, .int .i64 529, .int .i64 627, .int .i64 727, .int .i64 825, .int .i64 924, .int .i64 1023, .int .i64 1122, .int .i64 1221]) (ok := fun _ => True) (okp := fun _ => True) ?hr ?hp (fun _ hk => hk) trivial (Below.refl _ _) (Nat.le_refl _) (by simp) ?_; (case hd => rfl); (case hg => rfl); (case hr => first | (go_simp; done) | (go_simp; rfl)); (case hp => exact (Reps.one (show Kd.M (Kd.int .i64) _ _ _ 101 [.int .i64 101] from rfl) (Reps.one (show Kd.M (Kd.int .i64) _ _ _ 131 [.int .i64 131] from rfl) (Reps.one (show Kd.M (Kd.int .i64) _ _ _ 301 [.int .i64 301] from rfl) (Reps.one (show Kd.M (Kd.int .i64) _ _ _ 331 [.int .i64 331] from rfl) (Reps.one (show Kd.M (Kd.int .i64) _ _ _ 429 [.int .i64 429] from rfl) (Reps.one (show Kd.M (Kd.int .i64) _ _ _ 529 [.int .i64 529] from rfl) (Reps.one (show Kd.M (Kd.int .i64) _ _ _ 627 [.int .i64 627] from rfl) (Reps.one (show Kd.M (Kd.int .i64) _ _ _ 727 [.int .i64 727] from rfl) (Reps.one (show Kd.M (Kd.int .i64) _ _ _ 825 [.int .i64 825] from rfl) (Reps.one (show Kd.M (Kd.int .i64) _ _ _ 924 [.int .i64 924] from rfl) (Reps.one (show Kd.M (Kd.int .i64) _ _ _ 1023 [.int .i64 1023] from rfl) (Reps.one (show Kd.M (Kd.int .i64) _ _ _ 1122 [.int .i64 1122] from rfl) (Reps.one (show Kd.M (Kd.int .i64) _ _ _ 1221 [.int .i64 1221] from rfl) (Reps.none _ _))))))))))))))); intro v338 w1 ho2 hb hg_ hnew_; clear hg_ hnew_; (first | rw [← Ny337.out] at ho2 | (simp only [Int.reduceToNat] at ho2; rw [← Ny337.out] at ho2)); have n0_ := Aside0.mk (Kd.R_lower ho2 bz_); have n1_ := bt_ hb; clear HB; have HO339 := n0_; have HB := n1_; clear n0_ n1_; clear hb ho2))
 go_ret
 exact ⟨_, by first | rfl | (simp [errW_none, errW_some] <;> rfl) | (simp [*, errW_none, errW_some] <;> rfl), rk_ HO339.out, bh_⟩
end Go.Proofs.Ytopfjjdkffdjpaa.Q
end
section
namespace Go.Proofs.Ytopfjjdkffdjpaa.Q
open Go.RowKit Go.Proofs.YtopfjjdkffdjpaaW.PrintWords Go.Proofs.YtopfjjdkffdjpaaW.PrintLast Go.Proofs.YtopfjjdkffdjpaaW.PrintMore
attribute [local go_sem] max2_int min2_int max_two min_two max_three min_three max_four min_four
mutual
def computusref08_Position.l0 : Nat → Int → Int → List Int → Int → Int → Int → Option (Int × Int × Bool)
 | 0, _, _, _, _, _, _ => none
 | k + 1, x0, x1, x7, x8, x9, x10 => if x10 ≤ 12 then (computusref08_Position.l1 k x0 x1 x7 x8 x9 x10 1) else (some (0, 0, false))
def computusref08_Position.l1 : Nat → Int → Int → List Int → Int → Int → Int → Int → Option (Int × Int × Bool)
 | 0, _, _, _, _, _, _, _ => none
 | k + 1, x0, x1, x7, x8, x9, x10, x11 => (computusref02_Length.f k false x10).bind fun t344 => (if x11 ≤ t344 then (if x8 < 12 then (if 0 ≤ (wrap64 (x8 + 1)) then (if (wrap64 (x8 + 1)) < (x7.length : Int) then (computusref08_Position.j2 k x0 x1 x7 x8 (wrap64 (x9 + 1)) x10 x11 ((rd x7 (wrap64 (x8 + 1))) == (wrap64 ((wrap64 (100 * x10)) + x11)))) else (none)) else (none)) else (computusref08_Position.j2 k x0 x1 x7 x8 (wrap64 (x9 + 1)) x10 x11 false)) else (computusref08_Position.l0 k x0 x1 x7 x8 x9 (wrap64 (x10 + 1))))
def computusref08_Position.j2 : Nat → Int → Int → List Int → Int → Int → Int → Int → Bool → Option (Int × Int × Bool)
 | 0, _, _, _, _, _, _, _, _ => none
 | k + 1, x0, x1, x7, x8, x9, x10, x11, x42 => if x42 = true then (if x10 = x0 then (if x11 = x1 then (some (wrap64 (x8 + 1), 0, true)) else (computusref08_Position.l1 k x0 x1 x7 (wrap64 (x8 + 1)) 0 x10 (wrap64 (x11 + 1)))) else (computusref08_Position.l1 k x0 x1 x7 (wrap64 (x8 + 1)) 0 x10 (wrap64 (x11 + 1)))) else (if x10 = x0 then (if x11 = x1 then (some (x8, x9, true)) else (computusref08_Position.l1 k x0 x1 x7 x8 x9 x10 (wrap64 (x11 + 1)))) else (computusref08_Position.l1 k x0 x1 x7 x8 x9 x10 (wrap64 (x11 + 1))))
end
def computusref08_Position.f (k : Nat) (a0 : Int) (a1 : Int) : Option (Int × Int × Bool) := (computusref08_Exists.f k a0 a1).bind fun t340 => (if t340 = true then ((computusref08_starts.f).bind fun t341 => (computusref08_Position.l0 k a0 a1 t341 (-1) 0 1)) else (some (0, 0, false)))
theorem computusref08_Position.mono_l : ∀ k, (∀ y0 y1 y2 y3 y4 y5, LeO (computusref08_Position.l0 k y0 y1 y2 y3 y4 y5) (computusref08_Position.l0 (k + 1) y0 y1 y2 y3 y4 y5)) ∧ (∀ y0 y1 y2 y3 y4 y5 y6, LeO (computusref08_Position.l1 k y0 y1 y2 y3 y4 y5 y6) (computusref08_Position.l1 (k + 1) y0 y1 y2 y3 y4 y5 y6)) ∧ (∀ y0 y1 y2 y3 y4 y5 y6 y7, LeO (computusref08_Position.j2 k y0 y1 y2 y3 y4 y5 y6 y7) (computusref08_Position.j2 (k + 1) y0 y1 y2 y3 y4 y5 y6 y7))
 | 0 => ⟨fun _ _ _ _ _ _ r h => by simp [computusref08_Position.l0] at h, fun _ _ _ _ _ _ _ r h => by simp [computusref08_Position.l1] at h, fun _ _ _ _ _ _ _ _ r h => by simp [computusref08_Position.j2] at h⟩
 | k + 1 => by
  obtain ⟨ih0, ih1, ih2⟩ := computusref08_Position.mono_l k
  refine ⟨?_, ?_, ?_⟩
  ·intro y0 y1 y2 y3 y4 y5
   unfold computusref08_Position.l0
   repeat' first | (with_reducible first | exact ih0 _ _ _ _ _ _ | exact ih1 _ _ _ _ _ _ _ | exact ih2 _ _ _ _ _ _ _ _ | exact computusref02_Length.mono _ _ _ | exact computusref08_Exists.mono _ _ _ | exact LeO.refl _ | exact LeO.none _ | refine LeO.ite ?_ ?_ | refine LeO.bind ?_ (fun _ => ?_)) | exact ih0 _ _ _ _ _ _ | exact ih1 _ _ _ _ _ _ _ | exact ih2 _ _ _ _ _ _ _ _ | exact computusref02_Length.mono _ _ _ | exact computusref08_Exists.mono _ _ _ | exact LeO.none _ | refine LeO.ite ?_ ?_ | refine LeO.bind ?_ (fun _ => ?_)
  ·intro y0 y1 y2 y3 y4 y5 y6
   unfold computusref08_Position.l1
   repeat' first | (with_reducible first | exact ih0 _ _ _ _ _ _ | exact ih1 _ _ _ _ _ _ _ | exact ih2 _ _ _ _ _ _ _ _ | exact computusref02_Length.mono _ _ _ | exact computusref08_Exists.mono _ _ _ | exact LeO.refl _ | exact LeO.none _ | refine LeO.ite ?_ ?_ | refine LeO.bind ?_ (fun _ => ?_)) | exact ih0 _ _ _ _ _ _ | exact ih1 _ _ _ _ _ _ _ | exact ih2 _ _ _ _ _ _ _ _ | exact computusref02_Length.mono _ _ _ | exact computusref08_Exists.mono _ _ _ | exact LeO.none _ | refine LeO.ite ?_ ?_ | refine LeO.bind ?_ (fun _ => ?_)
  ·intro y0 y1 y2 y3 y4 y5 y6 y7
   unfold computusref08_Position.j2
   repeat' first | (with_reducible first | exact ih0 _ _ _ _ _ _ | exact ih1 _ _ _ _ _ _ _ | exact ih2 _ _ _ _ _ _ _ _ | exact computusref02_Length.mono _ _ _ | exact computusref08_Exists.mono _ _ _ | exact LeO.refl _ | exact LeO.none _ | refine LeO.ite ?_ ?_ | refine LeO.bind ?_ (fun _ => ?_)) | exact ih0 _ _ _ _ _ _ | exact ih1 _ _ _ _ _ _ _ | exact ih2 _ _ _ _ _ _ _ _ | exact computusref02_Length.mono _ _ _ | exact computusref08_Exists.mono _ _ _ | exact LeO.none _ | refine LeO.ite ?_ ?_ | refine LeO.bind ?_ (fun _ => ?_)
theorem computusref08_Position.mono : ∀ a0 a1 k, LeO (computusref08_Position.f k a0 a1) (computusref08_Position.f (k + 1) a0 a1) := by
 intro a0 a1 k
 obtain ⟨ih0, ih1, ih2⟩ := computusref08_Position.mono_l k
 unfold computusref08_Position.f
 repeat' first | (with_reducible first | exact ih0 _ _ _ _ _ _ | exact ih1 _ _ _ _ _ _ _ | exact ih2 _ _ _ _ _ _ _ _ | exact computusref02_Length.mono _ _ _ | exact computusref08_Exists.mono _ _ _ | exact LeO.refl _ | exact LeO.none _ | refine LeO.ite ?_ ?_ | refine LeO.bind ?_ (fun _ => ?_)) | exact ih0 _ _ _ _ _ _ | exact ih1 _ _ _ _ _ _ _ | exact ih2 _ _ _ _ _ _ _ _ | exact computusref02_Length.mono _ _ _ | exact computusref08_Exists.mono _ _ _ | exact LeO.none _ | refine LeO.ite ?_ ?_ | refine LeO.bind ?_ (fun _ => ?_)
set_option maxHeartbeats 8000000 in
set_option maxRecDepth 100000 in
theorem computusref08_Position.calls (k : Nat) (a0 : Int) (a1 : Int) (r1 : Int) (r2 : Int) (r3 : Bool) (w : World) (h : computusref08_Position.f k a0 a1 = some (r1, r2, r3)) :
  Calls Try.prog 88 #[.int .i64 a0, .int .i64 a1] w fun e w' => e = .returned (.tuple #[.int .i64 r1, .int .i64 r2, .bool r3]) ∧ Below w.heap.size w w' := by
 have HB := Aside0.mk (Below.refl w.heap.size w)
 have H : ((computusref08_Exists.f k a0 a1).bind fun t340 => (if t340 = true then ((computusref08_starts.f).bind fun t341 => (computusref08_Position.l0 k a0 a1 t341 (-1) 0 1)) else (some (0, 0, false)))) = some (r1, r2, r3) := h
 clear h
 obtain ⟨t340, A3, H⟩ := bs_ H
 by_cases c4 : t340 = true
 ·subst c4
  replace H := it_ H
  obtain ⟨t341, A5, H⟩ := bs_ H
  have H' := Aside0.mk H
  clear H
  go_enter Try.func88, Try.ntmps88
  go_wp2_with (first | ((with_reducible refine gate_callee (f := 64) rfl ?_); refine gl_ (some 14) Try.func64 #[.int .i64 a0, .int .i64 a1] ?_; (with_reducible refine (computusref08_Exists.calls k a0 a1 true _ A3.out).mono ?_); rintro e w' ⟨rfl, ⟨nd, rfl⟩⟩; refine ⟨_, rfl, ?_⟩) | ((with_reducible refine gate_callee (f := 91) rfl ?_); refine gl_ (some 16) Try.func91 #[] ?_; (with_reducible refine (computusref08_starts.calls  t341 _ A5.out).mono ?_); rintro e w6 ⟨v342, rfl, ho0, hb⟩; refine ⟨_, rfl, ?_⟩; have n0_ := Aside0.mk (Kd.R_lower ho0 bz_); have n1_ := bt_ hb; clear HB; have HO343 := n0_; have HB := n1_; clear n0_ n1_; (try clear hb); (try clear hb2); (try clear hk); (try clear hi); (try clear ho0)))
  go_loopg [8, 9, 10] k (fun kq v8 v9 v10 w' => ∃ (x8_1 : Int) (x9_1 : Int) (x10_1 : Int), v8 = .int .i64 x8_1 ∧ v9 = .int .i64 x9_1 ∧ v10 = .int .i64 x10_1 ∧ Aside0 (computusref08_Position.l0 kq a0 a1 t341 x8_1 x9_1 x10_1 = some (r1, r2, r3)) ∧ Aside0 (kq ≤ k) ∧ Aside0 (Kd.R (Kd.int .i64) 3 w' w.heap.size (fun _ => True) v342 t341) ∧ Aside0 (Below w.heap.size w w'))
  case atStart => exact ⟨((-1)), (0), (1), rs_, rs_, rs_, H', ⟨Nat.le_refl _⟩, ⟨rk_ HO343.out⟩, ⟨bh_⟩⟩
  case round =>
   clear H'
   try clear p2
   try clear c4
   try clear c6
   obtain ⟨x8_1, x9_1, x10_1, rfl, rfl, rfl, HA, HK1, HO_7, HB⟩ := hrel
   cases gk with
   | zero => exact absurd HA.out (by simp [computusref08_Position.l0])
   | succ k1 =>
    have H := HA.out
    clear HA
    simp only [computusref08_Position.l0] at H
    by_cases c7 : x10_1 ≤ 12
    ·rw [if_pos c7] at H
     have c7b0 : decide (x10_1 ≤ 12) = true := decide_eq_true c7
     clear c7
     have H' := Aside0.mk H
     clear H
     go_wp2
     go_loopg [8, 9, 11] k1 (fun kq v8 v9 v11 w' => ∃ (x8_2 : Int) (x9_2 : Int) (x11_2 : Int), v8 = .int .i64 x8_2 ∧ v9 = .int .i64 x9_2 ∧ v11 = .int .i64 x11_2 ∧ Aside0 (computusref08_Position.l1 kq a0 a1 t341 x8_2 x9_2 x10_1 x11_2 = some (r1, r2, r3)) ∧ Aside0 (kq ≤ k1) ∧ Aside0 (Kd.R (Kd.int .i64) 3 w' w.heap.size (fun _ => True) v342 t341) ∧ Aside0 (Below w.heap.size w w'))
     case atStart => exact ⟨(x8_1), (x9_1), (1), rs_, rs_, rs_, H', ⟨Nat.le_refl _⟩, ⟨rk_ HO_7.out⟩, ⟨bh_⟩⟩
     case round =>
      clear H'
      try clear p2
      try clear c4
      try clear c6
      try clear c7
      try clear c7b0
      try clear p2
      obtain ⟨x8_2, x9_2, x11_2, rfl, rfl, rfl, HA, HK2, HO_7, HB⟩ := hrel
      cases gk with
      | zero => exact absurd HA.out (by simp [computusref08_Position.l1])
      | succ k2 =>
       have H := HA.out
       clear HA
       simp only [computusref08_Position.l1] at H
       obtain ⟨t344, A8, H⟩ := bs_ H
       by_cases c9 : x11_2 ≤ t344
       ·rw [if_pos c9] at H
        have c9b0 : decide (x11_2 ≤ t344) = true := decide_eq_true c9
        clear c9
        have HC10 := Aside0.mk H
        clear H
        go_upto_region 13 with (first | ((with_reducible refine gate_callee (f := 71) rfl ?_); refine gl_ (some 23) Try.func71 #[.bool false, .int .i64 x10_1] ?_; (with_reducible refine (computusref02_Length.calls k2 false x10_1 t344 _ A8.out).mono ?_); rintro e w' ⟨rfl, ⟨nd, rfl⟩⟩; refine ⟨_, rfl, ?_⟩))
        (try simp only [Act.put, List.setIfInBounds_toArray, List.set_cons_zero, List.set_cons_succ])
        go_cut [42] (fun v42 wc => ∃ (kq : Nat) (x42_9 : Bool), v42 = .bool x42_9 ∧ Aside0 (computusref08_Position.j2 kq a0 a1 t341 x8_2 (wrap64 (x9_2 + 1)) x10_1 x11_2 x42_9 = some (r1, r2, r3)) ∧ Aside0 (kq ≤ k2) ∧ Aside0 (Kd.R (Kd.int .i64) 3 wc w.heap.size (fun _ => True) v342 t341) ∧ Aside0 (Below w.heap.size w wc))
        case first =>
         have H := HC10.out
         clear HC10
         by_cases c11 : x8_2 < 12
         ·rw [if_pos c11] at H
          have c11b0 : decide (x8_2 < 12) = true := decide_eq_true c11
          clear c11
          (first | rw [c11b0] | (simp only [i64_w, i32_w]; rw [c11b0]) | skip)
          obtain ⟨ji12, hji12⟩ : ∃ j_ : Int, (wrap64 (x8_2 + 1)) = j_ := ⟨_, rfl⟩
          replace H : (if 0 ≤ (ji12) then (if (ji12) < (t341.length : Int) then (computusref08_Position.j2 k2 a0 a1 t341 x8_2 (wrap64 (x9_2 + 1)) x10_1 x11_2 ((rd t341 (ji12)) == (wrap64 ((wrap64 (100 * x10_1)) + x11_2)))) else (none)) else (none)) = some (r1, r2, r3) := by first | (rw [hji12] at H; exact H) | (simp only [hji12] at H ⊢; exact H)
          have hji12w : (IntKind.i64.wrap (x8_2 + 1)) = ji12 := (i64_w _).trans hji12
          by_cases c13 : 0 ≤ (ji12)
          ·rw [if_pos c13] at H
           have c13b0 : decide (0 ≤ (ji12)) = true := decide_eq_true c13
           clear c13
           by_cases c14 : (ji12) < (t341.length : Int)
           ·rw [if_pos c14] at H
            have c14b0 : decide ((ji12) < (t341.length : Int)) = true := decide_eq_true c14
            clear c14
            have H' := Aside0.mk H
            clear H
            obtain ⟨Ao15, co15, eo15⟩ := Kd.R_slice HO_7.out
            subst eo15
            have p345 : 0 ≤ ((ji12) : Int) := of_decide_eq_true as_
            have q345 : (ji12) < (t341.length : Int) := of_decide_eq_true as_
            obtain ⟨ad345, e345, hx345_0⟩ := Kd.at_int (Kd.R_reads' HO_7.out).2.2 (ji12) p345 q345
            cases e345
            replace p345 := eq_true p345
            replace q345 := eq_true q345
            go_wp2
            go_meet
            case rel => exact ⟨_, (((rd t341 (ji12)) == (wrap64 ((wrap64 (100 * x10_1)) + x11_2)))), (by first | rfl | (simp; done) | (simp only [← hji12] <;> (first | rfl | simp)) | (simp [*]; done)), H', ⟨by have := HK1.out; have := HK2.out; first | omega | exact Nat.le_refl _⟩, ⟨rk_ HO_7.out⟩, ⟨bh_⟩⟩
           ·rw [if_neg c14] at H
            exact absurd H (by simp)
          ·rw [if_neg c13] at H
           exact absurd H (by simp)
         ·rw [if_neg c11] at H
          have c11b0 : decide (x8_2 < 12) = false := decide_eq_false c11
          clear c11
          (first | rw [c11b0] | (simp only [i64_w, i32_w]; rw [c11b0]) | skip)
          have H' := Aside0.mk H
          clear H
          go_wp2
          go_meet
          case rel => exact ⟨_, (false), rs_, H', ⟨by have := HK1.out; have := HK2.out; first | omega | exact Nat.le_refl _⟩, ⟨rk_ HO_7.out⟩, ⟨bh_⟩⟩
        case rest =>
         clear HC10
         try clear c1
         try clear p2
         try clear p3
         try clear q3
         try clear hx3
         try clear c4
         try clear c6
         try clear p6
         try clear c7
         try clear c7b0
         try clear c8
         try clear c9
         try clear c9b0
         try clear c11
         try clear c11b0
         try clear c13
         try clear c13b0
         try clear c14
         try clear c14b0
         try clear hx345_0
         try clear p2
         try clear p345
         try clear q345
         obtain ⟨kq, x42_9, rfl, HA, HJ9, HO_7, HB⟩ := hcut
         cases kq with
         | zero => exact absurd HA.out (by simp [computusref08_Position.j2])
         | succ kj9 =>
          have H := HA.out
          clear HA
          simp only [computusref08_Position.j2] at H
          by_cases c16 : x42_9 = true
          ·subst c16
           replace H := it_ H
           by_cases c17 : x10_1 = a0
           ·rw [if_pos c17] at H
            have c17b0 : (x10_1 == a0) = true := beq_iff_eq.mpr c17
            have c17b1 : (x10_1 != a0) = false := bne_eq_false_iff_eq.mpr c17
            clear c17
            by_cases c18 : x11_2 = a1
            ·rw [if_pos c18] at H
             have c18b0 : (x11_2 == a1) = true := beq_iff_eq.mpr c18
             have c18b1 : (x11_2 != a1) = false := bne_eq_false_iff_eq.mpr c18
             clear c18
             simp only [Option.some.injEq, Prod.mk.injEq] at H
             obtain ⟨rfl, rfl, rfl⟩ := H
             go_wp2
             go_ret3
             exact rt_
            ·rw [if_neg c18] at H
             have c18b0 : (x11_2 == a1) = false := beq_eq_false_iff_ne.mpr c18
             have c18b1 : (x11_2 != a1) = true := bne_iff_ne.mpr c18
             have H' := Aside0.mk H
             clear H
             go_wp2
             go_roundg kj9
             case measure => have := HK1.out; have := HK2.out; have := HJ9.out; omega
             case rel => exact ⟨(wrap64 (x8_2 + 1)), (0), (wrap64 (x11_2 + 1)), rs_, rs_, rs_, H', ⟨by have := HK1.out; have := HK2.out; have := HJ9.out; omega⟩, ⟨rk_ HO_7.out⟩, ⟨bh_⟩⟩
           ·rw [if_neg c17] at H
            have c17b0 : (x10_1 == a0) = false := beq_eq_false_iff_ne.mpr c17
            have c17b1 : (x10_1 != a0) = true := bne_iff_ne.mpr c17
            have H' := Aside0.mk H
            clear H
            go_wp2
            go_roundg kj9
            case measure => have := HK1.out; have := HK2.out; have := HJ9.out; omega
            case rel => exact ⟨(wrap64 (x8_2 + 1)), (0), (wrap64 (x11_2 + 1)), rs_, rs_, rs_, H', ⟨by have := HK1.out; have := HK2.out; have := HJ9.out; omega⟩, ⟨rk_ HO_7.out⟩, ⟨bh_⟩⟩
          ·replace c16 := Bool.eq_false_iff.mpr c16
           subst c16
           replace H := if_ H
           by_cases c19 : x10_1 = a0
           ·rw [if_pos c19] at H
            have c19b0 : (x10_1 == a0) = true := beq_iff_eq.mpr c19
            have c19b1 : (x10_1 != a0) = false := bne_eq_false_iff_eq.mpr c19
            clear c19
            by_cases c20 : x11_2 = a1
            ·rw [if_pos c20] at H
             have c20b0 : (x11_2 == a1) = true := beq_iff_eq.mpr c20
             have c20b1 : (x11_2 != a1) = false := bne_eq_false_iff_eq.mpr c20
             clear c20
             simp only [Option.some.injEq, Prod.mk.injEq] at H
             obtain ⟨rfl, rfl, rfl⟩ := H
             go_wp2
             go_ret3
             exact rt_
            ·rw [if_neg c20] at H
             have c20b0 : (x11_2 == a1) = false := beq_eq_false_iff_ne.mpr c20
             have c20b1 : (x11_2 != a1) = true := bne_iff_ne.mpr c20
             have H' := Aside0.mk H
             clear H
             go_wp2
             go_roundg kj9
             case measure => have := HK1.out; have := HK2.out; have := HJ9.out; omega
             case rel => exact ⟨(x8_2), ((wrap64 (x9_2 + 1))), (wrap64 (x11_2 + 1)), rs_, rs_, rs_, H', ⟨by have := HK1.out; have := HK2.out; have := HJ9.out; omega⟩, ⟨rk_ HO_7.out⟩, ⟨bh_⟩⟩
           ·rw [if_neg c19] at H
            have c19b0 : (x10_1 == a0) = false := beq_eq_false_iff_ne.mpr c19
            have c19b1 : (x10_1 != a0) = true := bne_iff_ne.mpr c19
            have H' := Aside0.mk H
            clear H
            go_wp2
            go_roundg kj9
            case measure => have := HK1.out; have := HK2.out; have := HJ9.out; omega
            case rel => exact ⟨(x8_2), ((wrap64 (x9_2 + 1))), (wrap64 (x11_2 + 1)), rs_, rs_, rs_, H', ⟨by have := HK1.out; have := HK2.out; have := HJ9.out; omega⟩, ⟨rk_ HO_7.out⟩, ⟨bh_⟩⟩
       ·rw [if_neg c9] at H
        have c9b0 : decide (x11_2 ≤ t344) = false := decide_eq_false c9
        clear c9
        have H' := Aside0.mk H
        clear H
        go_wp2_with (first | ((with_reducible refine gate_callee (f := 71) rfl ?_); refine gl_ (some 23) Try.func71 #[.bool false, .int .i64 x10_1] ?_; (with_reducible refine (computusref02_Length.calls k2 false x10_1 t344 _ A8.out).mono ?_); rintro e w' ⟨rfl, ⟨nd, rfl⟩⟩; refine ⟨_, rfl, ?_⟩))
        go_roundg k2
        case measure => have := HK1.out; have := HK2.out; omega
        case rel => exact ⟨(x8_2), (x9_2), (wrap64 (x10_1 + 1)), rs_, rs_, rs_, H', ⟨by have := HK1.out; have := HK2.out; omega⟩, ⟨rk_ HO_7.out⟩, ⟨bh_⟩⟩
    ·rw [if_neg c7] at H
     have c7b0 : decide (x10_1 ≤ 12) = false := decide_eq_false c7
     clear c7
     simp only [Option.some.injEq, Prod.mk.injEq] at H
     obtain ⟨rfl, rfl, rfl⟩ := H
     go_wp2
     go_ret3
     exact rt_
 ·replace c4 := Bool.eq_false_iff.mpr c4
  subst c4
  replace H := if_ H
  simp only [Option.some.injEq, Prod.mk.injEq] at H
  obtain ⟨rfl, rfl, rfl⟩ := H
  go_enter Try.func88, Try.ntmps88
  go_wp2_with (first | ((with_reducible refine gate_callee (f := 64) rfl ?_); refine gl_ (some 14) Try.func64 #[.int .i64 a0, .int .i64 a1] ?_; (with_reducible refine (computusref08_Exists.calls k a0 a1 false _ A3.out).mono ?_); rintro e w' ⟨rfl, ⟨nd, rfl⟩⟩; refine ⟨_, rfl, ?_⟩))
  go_ret3
  exact rt_
end Go.Proofs.Ytopfjjdkffdjpaa.Q
end
section
namespace Go.Proofs.Ytopfjjdkffdjpaa.Q
open Go.RowKit Go.Proofs.YtopfjjdkffdjpaaW.PrintWords Go.Proofs.YtopfjjdkffdjpaaW.PrintLast Go.Proofs.YtopfjjdkffdjpaaW.PrintMore
attribute [local go_sem] max2_int min2_int max_two min_two max_three min_three max_four min_four
def computusref08_Bears.f (k : Nat) (a0 : Int) (a1 : Int) (a2 : Int) : Option (Bool) := (computusref08_Position.f k a0 a1).bind fun bt346 => (if bt346.2.2 = true then (if (Int.tmod bt346.1 2) = 0 then (if a2 = (wrap64 (30 - bt346.2.1)) then (some true) else (if a2 = 31 then (some (bt346.2.1 == 5)) else (some false))) else (if bt346.2.1 ≤ 4 then (if a2 = (wrap64 (30 - bt346.2.1)) then (some true) else (if a2 = 31 then (some (bt346.2.1 == 4)) else (some false))) else (if bt346.2.1 = 5 then (if a2 = 25 then (some true) else (some (a2 == 24))) else (some (a2 == (wrap64 (29 - bt346.2.1))))))) else (some false))
theorem computusref08_Bears.mono : ∀ a0 a1 a2 k, LeO (computusref08_Bears.f k a0 a1 a2) (computusref08_Bears.f (k + 1) a0 a1 a2) := by
 intro a0 a1 a2 k
 unfold computusref08_Bears.f
 repeat' first | (with_reducible first | exact computusref08_Position.mono _ _ _ | exact LeO.refl _ | exact LeO.none _ | refine LeO.ite ?_ ?_ | refine LeO.bind ?_ (fun _ => ?_)) | exact computusref08_Position.mono _ _ _ | exact LeO.none _ | refine LeO.ite ?_ ?_ | refine LeO.bind ?_ (fun _ => ?_)
set_option maxHeartbeats 8000000 in
set_option maxRecDepth 100000 in
theorem computusref08_Bears.calls (k : Nat) (a0 : Int) (a1 : Int) (a2 : Int) (r : Bool) (w : World) (h : computusref08_Bears.f k a0 a1 a2 = some r) :
  Calls Try.prog 86 #[.int .i64 a0, .int .i64 a1, .int .i64 a2] w fun e w' => e = .returned (.bool r) ∧ Below w.heap.size w w' := by
 have HB := Aside0.mk (Below.refl w.heap.size w)
 have H : ((computusref08_Position.f k a0 a1).bind fun bt346 => (if bt346.2.2 = true then (if (Int.tmod bt346.1 2) = 0 then (if a2 = (wrap64 (30 - bt346.2.1)) then (some true) else (if a2 = 31 then (some (bt346.2.1 == 5)) else (some false))) else (if bt346.2.1 ≤ 4 then (if a2 = (wrap64 (30 - bt346.2.1)) then (some true) else (if a2 = 31 then (some (bt346.2.1 == 4)) else (some false))) else (if bt346.2.1 = 5 then (if a2 = 25 then (some true) else (some (a2 == 24))) else (some (a2 == (wrap64 (29 - bt346.2.1))))))) else (some false))) = some r := h
 clear h
 obtain ⟨⟨t346, t347, t348⟩, A4, H⟩ := bs_ H
 dsimp only at H
 by_cases c5 : t348 = true
 ·subst c5
  replace H := it_ H
  by_cases c6 : (Int.tmod t346 2) = 0
  ·rw [if_pos c6] at H
   have c6b0 : ((Int.tmod t346 2) == 0) = true := beq_iff_eq.mpr c6
   have c6b1 : ((Int.tmod t346 2) != 0) = false := bne_eq_false_iff_eq.mpr c6
   clear c6
   by_cases c7 : a2 = (wrap64 (30 - t347))
   ·rw [if_pos c7] at H
    have c7b0 : (a2 == (wrap64 (30 - t347))) = true := beq_iff_eq.mpr c7
    have c7b1 : (a2 != (wrap64 (30 - t347))) = false := bne_eq_false_iff_eq.mpr c7
    clear c7
    obtain rfl := Option.some.inj H
    go_enter Try.func86, Try.ntmps86
    go_wp2_with (first | ((with_reducible refine gate_callee (f := 88) rfl ?_); refine gl_ (some 13) Try.func88 #[.int .i64 a0, .int .i64 a1] ?_; (with_reducible refine (computusref08_Position.calls k a0 a1 t346 t347 true _ A4.out).mono ?_); rintro e w8 ⟨rfl, hb⟩; refine ⟨_, rfl, ?_⟩; have n0_ := bt_ hb; clear HB; have HB := n0_; clear n0_; (try clear hb); (try clear hb2); (try clear hk); (try clear hi)))
    go_ret
    exact rt_
   ·rw [if_neg c7] at H
    have c7b0 : (a2 == (wrap64 (30 - t347))) = false := beq_eq_false_iff_ne.mpr c7
    have c7b1 : (a2 != (wrap64 (30 - t347))) = true := bne_iff_ne.mpr c7
    by_cases c9 : a2 = 31
    ·rw [if_pos c9] at H
     have c9b0 : (a2 == 31) = true := beq_iff_eq.mpr c9
     have c9b1 : (a2 != 31) = false := bne_eq_false_iff_eq.mpr c9
     clear c9
     obtain rfl := Option.some.inj H
     go_enter Try.func86, Try.ntmps86
     go_wp2_with (first | ((with_reducible refine gate_callee (f := 88) rfl ?_); refine gl_ (some 13) Try.func88 #[.int .i64 a0, .int .i64 a1] ?_; (with_reducible refine (computusref08_Position.calls k a0 a1 t346 t347 true _ A4.out).mono ?_); rintro e w10 ⟨rfl, hb⟩; refine ⟨_, rfl, ?_⟩; have n0_ := bt_ hb; clear HB; have HB := n0_; clear n0_; (try clear hb); (try clear hb2); (try clear hk); (try clear hi)))
     go_ret
     exact rt_
    ·rw [if_neg c9] at H
     have c9b0 : (a2 == 31) = false := beq_eq_false_iff_ne.mpr c9
     have c9b1 : (a2 != 31) = true := bne_iff_ne.mpr c9
     obtain rfl := Option.some.inj H
     go_enter Try.func86, Try.ntmps86
     go_wp2_with (first | ((with_reducible refine gate_callee (f := 88) rfl ?_); refine gl_ (some 13) Try.func88 #[.int .i64 a0, .int .i64 a1] ?_; (with_reducible refine (computusref08_Position.calls k a0 a1 t346 t347 true _ A4.out).mono ?_); rintro e w11 ⟨rfl, hb⟩; refine ⟨_, rfl, ?_⟩; have n0_ := bt_ hb; clear HB; have HB := n0_; clear n0_; (try clear hb); (try clear hb2); (try clear hk); (try clear hi)))
     go_ret
     exact rt_
  ·rw [if_neg c6] at H
   have c6b0 : ((Int.tmod t346 2) == 0) = false := beq_eq_false_iff_ne.mpr c6
   have c6b1 : ((Int.tmod t346 2) != 0) = true := bne_iff_ne.mpr c6
   by_cases c12 : t347 ≤ 4
   ·rw [if_pos c12] at H
    have c12b0 : decide (t347 ≤ 4) = true := decide_eq_true c12
    clear c12
    by_cases c13 : a2 = (wrap64 (30 - t347))
    ·rw [if_pos c13] at H
     have c13b0 : (a2 == (wrap64 (30 - t347))) = true := beq_iff_eq.mpr c13
     have c13b1 : (a2 != (wrap64 (30 - t347))) = false := bne_eq_false_iff_eq.mpr c13
     clear c13
     obtain rfl := Option.some.inj H
     go_enter Try.func86, Try.ntmps86
     go_wp2_with (first | ((with_reducible refine gate_callee (f := 88) rfl ?_); refine gl_ (some 13) Try.func88 #[.int .i64 a0, .int .i64 a1] ?_; (with_reducible refine (computusref08_Position.calls k a0 a1 t346 t347 true _ A4.out).mono ?_); rintro e w14 ⟨rfl, hb⟩; refine ⟨_, rfl, ?_⟩; have n0_ := bt_ hb; clear HB; have HB := n0_; clear n0_; (try clear hb); (try clear hb2); (try clear hk); (try clear hi)))
     go_ret
     exact rt_
    ·rw [if_neg c13] at H
     have c13b0 : (a2 == (wrap64 (30 - t347))) = false := beq_eq_false_iff_ne.mpr c13
     have c13b1 : (a2 != (wrap64 (30 - t347))) = true := bne_iff_ne.mpr c13
     by_cases c15 : a2 = 31
     ·rw [if_pos c15] at H
      have c15b0 : (a2 == 31) = true := beq_iff_eq.mpr c15
      have c15b1 : (a2 != 31) = false := bne_eq_false_iff_eq.mpr c15
      clear c15
      obtain rfl := Option.some.inj H
      go_enter Try.func86, Try.ntmps86
      go_wp2_with (first | ((with_reducible refine gate_callee (f := 88) rfl ?_); refine gl_ (some 13) Try.func88 #[.int .i64 a0, .int .i64 a1] ?_; (with_reducible refine (computusref08_Position.calls k a0 a1 t346 t347 true _ A4.out).mono ?_); rintro e w16 ⟨rfl, hb⟩; refine ⟨_, rfl, ?_⟩; have n0_ := bt_ hb; clear HB; have HB := n0_; clear n0_; (try clear hb); (try clear hb2); (try clear hk); (try clear hi)))
      go_ret
      exact rt_
     ·rw [if_neg c15] at H
      have c15b0 : (a2 == 31) = false := beq_eq_false_iff_ne.mpr c15
      have c15b1 : (a2 != 31) = true := bne_iff_ne.mpr c15
      obtain rfl := Option.some.inj H
      go_enter Try.func86, Try.ntmps86
      go_wp2_with (first | ((with_reducible refine gate_callee (f := 88) rfl ?_); refine gl_ (some 13) Try.func88 #[.int .i64 a0, .int .i64 a1] ?_; (with_reducible refine (computusref08_Position.calls k a0 a1 t346 t347 true _ A4.out).mono ?_); rintro e w17 ⟨rfl, hb⟩; refine ⟨_, rfl, ?_⟩; have n0_ := bt_ hb; clear HB; have HB := n0_; clear n0_; (try clear hb); (try clear hb2); (try clear hk); (try clear hi)))
      go_ret
      exact rt_
   ·rw [if_neg c12] at H
    have c12b0 : decide (t347 ≤ 4) = false := decide_eq_false c12
    clear c12
    by_cases c18 : t347 = 5
    ·rw [if_pos c18] at H
     have c18b0 : (t347 == 5) = true := beq_iff_eq.mpr c18
     have c18b1 : (t347 != 5) = false := bne_eq_false_iff_eq.mpr c18
     clear c18
     by_cases c19 : a2 = 25
     ·rw [if_pos c19] at H
      have c19b0 : (a2 == 25) = true := beq_iff_eq.mpr c19
      have c19b1 : (a2 != 25) = false := bne_eq_false_iff_eq.mpr c19
      clear c19
      obtain rfl := Option.some.inj H
      go_enter Try.func86, Try.ntmps86
      go_wp2_with (first | ((with_reducible refine gate_callee (f := 88) rfl ?_); refine gl_ (some 13) Try.func88 #[.int .i64 a0, .int .i64 a1] ?_; (with_reducible refine (computusref08_Position.calls k a0 a1 t346 t347 true _ A4.out).mono ?_); rintro e w20 ⟨rfl, hb⟩; refine ⟨_, rfl, ?_⟩; have n0_ := bt_ hb; clear HB; have HB := n0_; clear n0_; (try clear hb); (try clear hb2); (try clear hk); (try clear hi)))
      go_ret
      exact rt_
     ·rw [if_neg c19] at H
      have c19b0 : (a2 == 25) = false := beq_eq_false_iff_ne.mpr c19
      have c19b1 : (a2 != 25) = true := bne_iff_ne.mpr c19
      obtain rfl := Option.some.inj H
      go_enter Try.func86, Try.ntmps86
      go_wp2_with (first | ((with_reducible refine gate_callee (f := 88) rfl ?_); refine gl_ (some 13) Try.func88 #[.int .i64 a0, .int .i64 a1] ?_; (with_reducible refine (computusref08_Position.calls k a0 a1 t346 t347 true _ A4.out).mono ?_); rintro e w21 ⟨rfl, hb⟩; refine ⟨_, rfl, ?_⟩; have n0_ := bt_ hb; clear HB; have HB := n0_; clear n0_; (try clear hb); (try clear hb2); (try clear hk); (try clear hi)))
      go_ret
      exact rt_
    ·rw [if_neg c18] at H
     have c18b0 : (t347 == 5) = false := beq_eq_false_iff_ne.mpr c18
     have c18b1 : (t347 != 5) = true := bne_iff_ne.mpr c18
     obtain rfl := Option.some.inj H
     go_enter Try.func86, Try.ntmps86
     go_wp2_with (first | ((with_reducible refine gate_callee (f := 88) rfl ?_); refine gl_ (some 13) Try.func88 #[.int .i64 a0, .int .i64 a1] ?_; (with_reducible refine (computusref08_Position.calls k a0 a1 t346 t347 true _ A4.out).mono ?_); rintro e w22 ⟨rfl, hb⟩; refine ⟨_, rfl, ?_⟩; have n0_ := bt_ hb; clear HB; have HB := n0_; clear n0_; (try clear hb); (try clear hb2); (try clear hk); (try clear hi)))
     go_ret
     exact rt_
 ·replace c5 := Bool.eq_false_iff.mpr c5
  subst c5
  replace H := if_ H
  obtain rfl := Option.some.inj H
  go_enter Try.func86, Try.ntmps86
  go_wp2_with (first | ((with_reducible refine gate_callee (f := 88) rfl ?_); refine gl_ (some 13) Try.func88 #[.int .i64 a0, .int .i64 a1] ?_; (with_reducible refine (computusref08_Position.calls k a0 a1 t346 t347 false _ A4.out).mono ?_); rintro e w23 ⟨rfl, hb⟩; refine ⟨_, rfl, ?_⟩; have n0_ := bt_ hb; clear HB; have HB := n0_; clear n0_; (try clear hb); (try clear hb2); (try clear hk); (try clear hi)))
  go_ret
  exact rt_
end Go.Proofs.Ytopfjjdkffdjpaa.Q
end
section
namespace Go.Proofs.Ytopfjjdkffdjpaa.Q
open Go.RowKit Go.Proofs.YtopfjjdkffdjpaaW.PrintWords Go.Proofs.YtopfjjdkffdjpaaW.PrintLast Go.Proofs.YtopfjjdkffdjpaaW.PrintMore
attribute [local go_sem] max2_int min2_int max_two min_two max_three min_three max_four min_four
def computusref06_Golden.f (a0 : Int) : Option (Int) := some (wrap64 ((wrap64 (a0 - (wrap64 (19 * (wrap64 (Int.tdiv a0 19)))))) + 1))
set_option maxHeartbeats 8000000 in
set_option maxRecDepth 100000 in
theorem computusref06_Golden.calls (a0 : Int) (r : Int) (w : World) (h : computusref06_Golden.f a0 = some r) :
  Calls Try.prog 90 #[.int .i64 a0] w fun e w' => e = .returned (.int .i64 r) ∧ Drawn0 w w' := by
 have H : (some (wrap64 ((wrap64 (a0 - (wrap64 (19 * (wrap64 (Int.tdiv a0 19)))))) + 1))) = some r := h
 clear h
 obtain rfl := Option.some.inj H
 go_enter Try.func90, Try.ntmps90
 go_wp2
 go_ret
 exact ⟨by first | rfl | (simp; done) | (simp [*]; done), by repeat (first | exact Drawn0.refl _ | apply Drawn0.step)⟩
def computusref06_Century.f (a0 : Int) : Option (Int) := some (wrap64 ((wrap64 (Int.tdiv a0 100)) + 1))
set_option maxHeartbeats 8000000 in
set_option maxRecDepth 100000 in
theorem computusref06_Century.calls (a0 : Int) (r : Int) (w : World) (h : computusref06_Century.f a0 = some r) :
  Calls Try.prog 94 #[.int .i64 a0] w fun e w' => e = .returned (.int .i64 r) ∧ Drawn0 w w' := by
 have H : (some (wrap64 ((wrap64 (Int.tdiv a0 100)) + 1))) = some r := h
 clear h
 obtain rfl := Option.some.inj H
 go_enter Try.func94, Try.ntmps94
 go_wp2
 go_ret
 exact ⟨by first | rfl | (simp; done) | (simp [*]; done), by repeat (first | exact Drawn0.refl _ | apply Drawn0.step)⟩
def computusref06_Lunar.f (a0 : Int) : Option (Int) := (computusref06_Century.f a0).bind fun t349 => (some (wrap64 ((wrap64 (Int.tdiv (wrap64 ((wrap64 (8 * t349)) + 5)) 25)) - 5)))
set_option maxHeartbeats 8000000 in
set_option maxRecDepth 100000 in
theorem computusref06_Lunar.calls (a0 : Int) (r : Int) (w : World) (h : computusref06_Lunar.f a0 = some r) :
  Calls Try.prog 92 #[.int .i64 a0] w fun e w' => e = .returned (.int .i64 r) ∧ Drawn0 w w' := by
 have H : ((computusref06_Century.f a0).bind fun t349 => (some (wrap64 ((wrap64 (Int.tdiv (wrap64 ((wrap64 (8 * t349)) + 5)) 25)) - 5)))) = some r := h
 clear h
 obtain ⟨t349, A2, H⟩ := bs_ H
 obtain rfl := Option.some.inj H
 go_enter Try.func92, Try.ntmps92
 go_wp2_with (first | ((with_reducible refine gate_callee (f := 94) rfl ?_); refine gl_ (some 4) Try.func94 #[.int .i64 a0] ?_; (with_reducible refine (computusref06_Century.calls a0 t349 _ A2.out).mono ?_); rintro e w' ⟨rfl, ⟨nd, rfl⟩⟩; refine ⟨_, rfl, ?_⟩))
 go_ret
 exact ⟨by first | rfl | (simp; done) | (simp [*]; done), by repeat (first | exact Drawn0.refl _ | apply Drawn0.step)⟩
def computusref06_Solar.f (a0 : Int) : Option (Int) := (computusref06_Century.f a0).bind fun t350 => (some (wrap64 ((wrap64 (Int.tdiv (wrap64 (3 * t350)) 4)) - 12)))
set_option maxHeartbeats 8000000 in
set_option maxRecDepth 100000 in
theorem computusref06_Solar.calls (a0 : Int) (r : Int) (w : World) (h : computusref06_Solar.f a0 = some r) :
  Calls Try.prog 93 #[.int .i64 a0] w fun e w' => e = .returned (.int .i64 r) ∧ Drawn0 w w' := by
 have H : ((computusref06_Century.f a0).bind fun t350 => (some (wrap64 ((wrap64 (Int.tdiv (wrap64 (3 * t350)) 4)) - 12)))) = some r := h
 clear h
 obtain ⟨t350, A2, H⟩ := bs_ H
 obtain rfl := Option.some.inj H
 go_enter Try.func93, Try.ntmps93
 go_wp2_with (first | ((with_reducible refine gate_callee (f := 94) rfl ?_); refine gl_ (some 4) Try.func94 #[.int .i64 a0] ?_; (with_reducible refine (computusref06_Century.calls a0 t350 _ A2.out).mono ?_); rintro e w' ⟨rfl, ⟨nd, rfl⟩⟩; refine ⟨_, rfl, ?_⟩))
 go_ret
 exact ⟨by first | rfl | (simp; done) | (simp [*]; done), by repeat (first | exact Drawn0.refl _ | apply Drawn0.step)⟩
end Go.Proofs.Ytopfjjdkffdjpaa.Q
end
section
namespace Go.Proofs.Ytopfjjdkffdjpaa.Q
open Go.RowKit Go.Proofs.YtopfjjdkffdjpaaW.PrintWords Go.Proofs.YtopfjjdkffdjpaaW.PrintLast Go.Proofs.YtopfjjdkffdjpaaW.PrintMore
attribute [local go_sem] max2_int min2_int max_two min_two max_three min_three max_four min_four
def computusref07_Of.f (a0 : Int) (a1 : Int) : Option (Int) := (computusref06_Golden.f a1).bind fun t351 => (if a0 = 2 then ((computusref06_Golden.f a1).bind fun t352 => ((computusref06_Lunar.f a1).bind fun t353 => ((computusref06_Solar.f a1).bind fun t354 => ((computusref01_Mod.f (wrap64 ((wrap64 ((wrap64 ((wrap64 (11 * t352)) + 20)) + t353)) - t354)) 30).bind fun t355 => (if t355 = 0 then (some 30) else (some t355)))))) else ((computusref01_Mod.f (wrap64 ((wrap64 (11 * t351)) - 3)) 30).bind fun t356 => (if t356 = 0 then (some 30) else (some t356))))
set_option maxHeartbeats 8000000 in
set_option maxRecDepth 100000 in
theorem computusref07_Of.calls (a0 : Int) (a1 : Int) (r : Int) (w : World) (h : computusref07_Of.f a0 a1 = some r) :
  Calls Try.prog 89 #[.int .i64 a0, .int .i64 a1] w fun e w' => e = .returned (.int .i64 r) ∧ Drawn0 w w' := by
 have H : ((computusref06_Golden.f a1).bind fun t351 => (if a0 = 2 then ((computusref06_Golden.f a1).bind fun t352 => ((computusref06_Lunar.f a1).bind fun t353 => ((computusref06_Solar.f a1).bind fun t354 => ((computusref01_Mod.f (wrap64 ((wrap64 ((wrap64 ((wrap64 (11 * t352)) + 20)) + t353)) - t354)) 30).bind fun t355 => (if t355 = 0 then (some 30) else (some t355)))))) else ((computusref01_Mod.f (wrap64 ((wrap64 (11 * t351)) - 3)) 30).bind fun t356 => (if t356 = 0 then (some 30) else (some t356))))) = some r := h
 clear h
 obtain ⟨t351, A3, H⟩ := bs_ H
 by_cases c4 : a0 = 2
 ·rw [if_pos c4] at H
  have c4b0 : (a0 == 2) = true := beq_iff_eq.mpr c4
  have c4b1 : (a0 != 2) = false := bne_eq_false_iff_eq.mpr c4
  clear c4
  obtain ⟨t352, A5, H⟩ := bs_ H
  obtain ⟨t353, A6, H⟩ := bs_ H
  obtain ⟨t354, A7, H⟩ := bs_ H
  obtain ⟨t355, A8, H⟩ := bs_ H
  by_cases c9 : t355 = 0
  ·rw [if_pos c9] at H
   have c9b0 : (t355 == 0) = true := beq_iff_eq.mpr c9
   have c9b1 : (t355 != 0) = false := bne_eq_false_iff_eq.mpr c9
   clear c9
   obtain rfl := Option.some.inj H
   go_enter Try.func89, Try.ntmps89
   go_wp2_with (first | ((with_reducible refine gate_callee (f := 90) rfl ?_); refine gl_ (some 8) Try.func90 #[.int .i64 a1] ?_; (with_reducible refine (computusref06_Golden.calls a1 t351 _ A3.out).mono ?_); rintro e w' ⟨rfl, ⟨nd, rfl⟩⟩; refine ⟨_, rfl, ?_⟩) | ((with_reducible refine gate_callee (f := 90) rfl ?_); refine gl_ (some 14) Try.func90 #[.int .i64 a1] ?_; (with_reducible refine (computusref06_Golden.calls a1 t352 _ A5.out).mono ?_); rintro e w' ⟨rfl, ⟨nd, rfl⟩⟩; refine ⟨_, rfl, ?_⟩) | ((with_reducible refine gate_callee (f := 92) rfl ?_); refine gl_ (some 18) Try.func92 #[.int .i64 a1] ?_; (with_reducible refine (computusref06_Lunar.calls a1 t353 _ A6.out).mono ?_); rintro e w' ⟨rfl, ⟨nd, rfl⟩⟩; refine ⟨_, rfl, ?_⟩) | ((with_reducible refine gate_callee (f := 93) rfl ?_); refine gl_ (some 21) Try.func93 #[.int .i64 a1] ?_; (with_reducible refine (computusref06_Solar.calls a1 t354 _ A7.out).mono ?_); rintro e w' ⟨rfl, ⟨nd, rfl⟩⟩; refine ⟨_, rfl, ?_⟩) | ((with_reducible refine gate_callee (f := 58) rfl ?_); refine gl_ (some 24) Try.func58 #[.int .i64 (wrap64 ((wrap64 ((wrap64 ((wrap64 (11 * t352)) + 20)) + t353)) - t354)), .int .i64 30] ?_; (with_reducible refine (computusref01_Mod.calls (wrap64 ((wrap64 ((wrap64 ((wrap64 (11 * t352)) + 20)) + t353)) - t354)) 30 t355 _ A8.out).mono ?_); rintro e w' ⟨rfl, ⟨nd, rfl⟩⟩; refine ⟨_, rfl, ?_⟩))
   go_ret
   exact ⟨by first | rfl | (simp; done) | (simp [*]; done), by repeat (first | exact Drawn0.refl _ | apply Drawn0.step)⟩
  ·rw [if_neg c9] at H
   have c9b0 : (t355 == 0) = false := beq_eq_false_iff_ne.mpr c9
   have c9b1 : (t355 != 0) = true := bne_iff_ne.mpr c9
   obtain rfl := Option.some.inj H
   go_enter Try.func89, Try.ntmps89
   go_wp2_with (first | ((with_reducible refine gate_callee (f := 90) rfl ?_); refine gl_ (some 8) Try.func90 #[.int .i64 a1] ?_; (with_reducible refine (computusref06_Golden.calls a1 t351 _ A3.out).mono ?_); rintro e w' ⟨rfl, ⟨nd, rfl⟩⟩; refine ⟨_, rfl, ?_⟩) | ((with_reducible refine gate_callee (f := 90) rfl ?_); refine gl_ (some 14) Try.func90 #[.int .i64 a1] ?_; (with_reducible refine (computusref06_Golden.calls a1 t352 _ A5.out).mono ?_); rintro e w' ⟨rfl, ⟨nd, rfl⟩⟩; refine ⟨_, rfl, ?_⟩) | ((with_reducible refine gate_callee (f := 92) rfl ?_); refine gl_ (some 18) Try.func92 #[.int .i64 a1] ?_; (with_reducible refine (computusref06_Lunar.calls a1 t353 _ A6.out).mono ?_); rintro e w' ⟨rfl, ⟨nd, rfl⟩⟩; refine ⟨_, rfl, ?_⟩) | ((with_reducible refine gate_callee (f := 93) rfl ?_); refine gl_ (some 21) Try.func93 #[.int .i64 a1] ?_; (with_reducible refine (computusref06_Solar.calls a1 t354 _ A7.out).mono ?_); rintro e w' ⟨rfl, ⟨nd, rfl⟩⟩; refine ⟨_, rfl, ?_⟩) | ((with_reducible refine gate_callee (f := 58) rfl ?_); refine gl_ (some 24) Try.func58 #[.int .i64 (wrap64 ((wrap64 ((wrap64 ((wrap64 (11 * t352)) + 20)) + t353)) - t354)), .int .i64 30] ?_; (with_reducible refine (computusref01_Mod.calls (wrap64 ((wrap64 ((wrap64 ((wrap64 (11 * t352)) + 20)) + t353)) - t354)) 30 t355 _ A8.out).mono ?_); rintro e w' ⟨rfl, ⟨nd, rfl⟩⟩; refine ⟨_, rfl, ?_⟩))
   go_ret
   exact ⟨by first | rfl | (simp; done) | (simp [*]; done), by repeat (first | exact Drawn0.refl _ | apply Drawn0.step)⟩
 ·rw [if_neg c4] at H
  have c4b0 : (a0 == 2) = false := beq_eq_false_iff_ne.mpr c4
  have c4b1 : (a0 != 2) = true := bne_iff_ne.mpr c4
  obtain ⟨t356, A10, H⟩ := bs_ H
  by_cases c11 : t356 = 0
  ·rw [if_pos c11] at H
   have c11b0 : (t356 == 0) = true := beq_iff_eq.mpr c11
   have c11b1 : (t356 != 0) = false := bne_eq_false_iff_eq.mpr c11
   clear c11
   obtain rfl := Option.some.inj H
   go_enter Try.func89, Try.ntmps89
   go_wp2_with (first | ((with_reducible refine gate_callee (f := 90) rfl ?_); refine gl_ (some 8) Try.func90 #[.int .i64 a1] ?_; (with_reducible refine (computusref06_Golden.calls a1 t351 _ A3.out).mono ?_); rintro e w' ⟨rfl, ⟨nd, rfl⟩⟩; refine ⟨_, rfl, ?_⟩) | ((with_reducible refine gate_callee (f := 58) rfl ?_); refine gl_ (some 24) Try.func58 #[.int .i64 (wrap64 ((wrap64 (11 * t351)) - 3)), .int .i64 30] ?_; (with_reducible refine (computusref01_Mod.calls (wrap64 ((wrap64 (11 * t351)) - 3)) 30 t356 _ A10.out).mono ?_); rintro e w' ⟨rfl, ⟨nd, rfl⟩⟩; refine ⟨_, rfl, ?_⟩))
   go_ret
   exact ⟨by first | rfl | (simp; done) | (simp [*]; done), by repeat (first | exact Drawn0.refl _ | apply Drawn0.step)⟩
  ·rw [if_neg c11] at H
   have c11b0 : (t356 == 0) = false := beq_eq_false_iff_ne.mpr c11
   have c11b1 : (t356 != 0) = true := bne_iff_ne.mpr c11
   obtain rfl := Option.some.inj H
   go_enter Try.func89, Try.ntmps89
   go_wp2_with (first | ((with_reducible refine gate_callee (f := 90) rfl ?_); refine gl_ (some 8) Try.func90 #[.int .i64 a1] ?_; (with_reducible refine (computusref06_Golden.calls a1 t351 _ A3.out).mono ?_); rintro e w' ⟨rfl, ⟨nd, rfl⟩⟩; refine ⟨_, rfl, ?_⟩) | ((with_reducible refine gate_callee (f := 58) rfl ?_); refine gl_ (some 24) Try.func58 #[.int .i64 (wrap64 ((wrap64 (11 * t351)) - 3)), .int .i64 30] ?_; (with_reducible refine (computusref01_Mod.calls (wrap64 ((wrap64 (11 * t351)) - 3)) 30 t356 _ A10.out).mono ?_); rintro e w' ⟨rfl, ⟨nd, rfl⟩⟩; refine ⟨_, rfl, ?_⟩))
   go_ret
   exact ⟨by first | rfl | (simp; done) | (simp [*]; done), by repeat (first | exact Drawn0.refl _ | apply Drawn0.step)⟩
end Go.Proofs.Ytopfjjdkffdjpaa.Q
end
section
namespace Go.Proofs.Ytopfjjdkffdjpaa.Q
open Go.RowKit Go.Proofs.YtopfjjdkffdjpaaW.PrintWords Go.Proofs.YtopfjjdkffdjpaaW.PrintLast Go.Proofs.YtopfjjdkffdjpaaW.PrintMore
attribute [local go_sem] max2_int min2_int max_two min_two max_three min_three max_four min_four
def computusref07_Label.f (a0 : Int) (a1 : Int) : Option (Int) := (computusref07_Of.f a0 a1).bind fun t357 => (if t357 = 25 then ((computusref06_Golden.f a1).bind fun t358 => (if t358 > 11 then (some 31) else (some t357))) else (some t357))
set_option maxHeartbeats 8000000 in
set_option maxRecDepth 100000 in
theorem computusref07_Label.calls (a0 : Int) (a1 : Int) (r : Int) (w : World) (h : computusref07_Label.f a0 a1 = some r) :
  Calls Try.prog 87 #[.int .i64 a0, .int .i64 a1] w fun e w' => e = .returned (.int .i64 r) ∧ Drawn0 w w' := by
 have H : ((computusref07_Of.f a0 a1).bind fun t357 => (if t357 = 25 then ((computusref06_Golden.f a1).bind fun t358 => (if t358 > 11 then (some 31) else (some t357))) else (some t357))) = some r := h
 clear h
 obtain ⟨t357, A3, H⟩ := bs_ H
 by_cases c4 : t357 = 25
 ·rw [if_pos c4] at H
  have c4b0 : (t357 == 25) = true := beq_iff_eq.mpr c4
  have c4b1 : (t357 != 25) = false := bne_eq_false_iff_eq.mpr c4
  clear c4
  obtain ⟨t358, A5, H⟩ := bs_ H
  by_cases c6 : t358 > 11
  ·rw [if_pos c6] at H
   have c6b0 : decide (11 < t358) = true := decide_eq_true c6
   clear c6
   obtain rfl := Option.some.inj H
   go_enter Try.func87, Try.ntmps87
   go_wp2_with (first | ((with_reducible refine gate_callee (f := 89) rfl ?_); refine gl_ (some 8) Try.func89 #[.int .i64 a0, .int .i64 a1] ?_; (with_reducible refine (computusref07_Of.calls a0 a1 t357 _ A3.out).mono ?_); rintro e w' ⟨rfl, ⟨nd, rfl⟩⟩; refine ⟨_, rfl, ?_⟩) | (go_at_call 90; (with_reducible refine (computusref06_Golden.calls a1 t358 _ A5.out).mono ?_); rintro e w' ⟨rfl, ⟨nd, rfl⟩⟩))
   go_ret
   exact ⟨by first | rfl | (simp; done) | (simp [*]; done), by repeat (first | exact Drawn0.refl _ | apply Drawn0.step)⟩
  ·rw [if_neg c6] at H
   have c6b0 : decide (11 < t358) = false := decide_eq_false c6
   clear c6
   obtain rfl := Option.some.inj H
   go_enter Try.func87, Try.ntmps87
   go_wp2_with (first | ((with_reducible refine gate_callee (f := 89) rfl ?_); refine gl_ (some 8) Try.func89 #[.int .i64 a0, .int .i64 a1] ?_; (with_reducible refine (computusref07_Of.calls a0 a1 t357 _ A3.out).mono ?_); rintro e w' ⟨rfl, ⟨nd, rfl⟩⟩; refine ⟨_, rfl, ?_⟩) | (go_at_call 90; (with_reducible refine (computusref06_Golden.calls a1 t358 _ A5.out).mono ?_); rintro e w' ⟨rfl, ⟨nd, rfl⟩⟩))
   go_ret
   exact ⟨by first | rfl | (simp; done) | (simp [*]; done), by repeat (first | exact Drawn0.refl _ | apply Drawn0.step)⟩
 ·rw [if_neg c4] at H
  have c4b0 : (t357 == 25) = false := beq_eq_false_iff_ne.mpr c4
  have c4b1 : (t357 != 25) = true := bne_iff_ne.mpr c4
  obtain rfl := Option.some.inj H
  go_enter Try.func87, Try.ntmps87
  go_wp2_with (first | ((with_reducible refine gate_callee (f := 89) rfl ?_); refine gl_ (some 8) Try.func89 #[.int .i64 a0, .int .i64 a1] ?_; (with_reducible refine (computusref07_Of.calls a0 a1 t357 _ A3.out).mono ?_); rintro e w' ⟨rfl, ⟨nd, rfl⟩⟩; refine ⟨_, rfl, ?_⟩))
  go_ret
  exact ⟨by first | rfl | (simp; done) | (simp [*]; done), by repeat (first | exact Drawn0.refl _ | apply Drawn0.step)⟩
end Go.Proofs.Ytopfjjdkffdjpaa.Q
end
section
namespace Go.Proofs.Ytopfjjdkffdjpaa.Q
open Go.RowKit Go.Proofs.YtopfjjdkffdjpaaW.PrintWords Go.Proofs.YtopfjjdkffdjpaaW.PrintLast Go.Proofs.YtopfjjdkffdjpaaW.PrintMore
attribute [local go_sem] max2_int min2_int max_two min_two max_three min_three max_four min_four
def computusref09_NewMoon.f (k : Nat) (a0 : Int) (a1_0 : Int) (a1_1 : Int) (a1_2 : Int) : Option (Bool) := (computusref07_Label.f a0 a1_0).bind fun t360 => ((computusref08_Bears.f k a1_1 a1_2 t360).bind fun t361 => (some t361))
theorem computusref09_NewMoon.mono : ∀ a0 a1 a2 a3 k, LeO (computusref09_NewMoon.f k a0 a1 a2 a3) (computusref09_NewMoon.f (k + 1) a0 a1 a2 a3) := by
 intro a0 a1 a2 a3 k
 unfold computusref09_NewMoon.f
 repeat' first | (with_reducible first | exact computusref08_Bears.mono _ _ _ _ | exact LeO.refl _ | exact LeO.none _ | refine LeO.ite ?_ ?_ | refine LeO.bind ?_ (fun _ => ?_)) | exact computusref08_Bears.mono _ _ _ _ | exact LeO.none _ | refine LeO.ite ?_ ?_ | refine LeO.bind ?_ (fun _ => ?_)
def computusref09_NewMoon.T1 : Bool × List (List Nat × List Nat) := (true, [([], []), ([0], [0]), ([], []), ([2], [2]), ([], []), ([], []), ([5], [5]), ([4, 6], [4, 6]), ([1, 3, 7, 7], [1, 3, 7]), ([8, 8, 0, 1, 2, 3, 4, 5, 6, 7, 8], [8])])
def computusref09_NewMoon.B1 : List Nat := [0, 1, 0, 4, 0, 0, 32, 112, 255, 511]
theorem computusref09_NewMoon.tab1 : rtab .any (opsOf Try.f79 1) = computusref09_NewMoon.T1 := by kernel_rfl
theorem computusref09_NewMoon.bits1 : waitsOk computusref09_NewMoon.T1.2 computusref09_NewMoon.B1 = true := by kernel_rfl
set_option maxHeartbeats 8000000 in
set_option maxRecDepth 100000 in
theorem computusref09_NewMoon.calls (k : Nat) (a0 : Int) (a1_0 : Int) (a1_1 : Int) (a1_2 : Int) (r : Bool) (w : World) (h : computusref09_NewMoon.f k a0 a1_0 a1_1 a1_2 = some r) :
  Calls Try.prog 79 #[.int .i64 a0, .agg #[.int .i64 a1_0, .int .i64 a1_1, .int .i64 a1_2]] w fun e w' => e = .returned (.bool r) ∧ Below w.heap.size w w' := by
 have hu98 := Try.underlying98
 have HB := Aside0.mk (Below.refl w.heap.size w)
 have H : ((computusref07_Label.f a0 a1_0).bind fun t360 => ((computusref08_Bears.f k a1_1 a1_2 t360).bind fun t361 => (some t361))) = some r := h
 clear h
 obtain ⟨t360, A3, H⟩ := bs_ H
 obtain ⟨t361, A4, H⟩ := bs_ H
 obtain rfl := Option.some.inj H
 go_enter Try.func79, Try.ntmps79
 try go_wp2_with (first | ((with_reducible refine gate_dst (N := 3) rfl ?_); refine bx_ (w := w) (N := 3) (cs := #[.int .i64 a1_0, .int .i64 a1_1, .int .i64 a1_2]) (t := 98) ?_; intro gb359 w5 BK359 n0_ GW359 GE359; clear HB; have HB := n0_; clear n0_))
 have n0_ := Aside0.mk (blk_drew BK359.out)
 have n1_ := Aside0.mk (below_drew1 HB.out)
 clear BK359
 clear HB
 have BK359 := n0_
 have HB := n1_
 clear n0_ n1_
 refine start_ (n := 10) (S := fun w' => w'.cell? ⟨gb359, 0, none⟩ = some (.int .i64 a1_0) ∧ w'.cell? ⟨gb359, 1, none⟩ = some (.int .i64 a1_1) ∧ w'.cell? ⟨gb359, 2, none⟩ = some (.int .i64 a1_2)) (ds := []) #[false, false, false, false, false, false, false, false, false, false] (by kernel_rfl) rfl rfl ⟨(blk_cell BK359.out 0).trans rfl, (blk_cell BK359.out 1).trans rfl, (blk_cell BK359.out 2).trans rfl⟩ (fun hHeld => ?_); refine with_tabW computusref09_NewMoon.tab1 computusref09_NewMoon.bits1 (fun HT_ HW_ => ?_)
 generalize w5.drew = w6 at BK359 HB hHeld ⊢
 refine pure_ (i := 0) (N := some 5) (v := ?_) (a' := ?_) #[true, false, false, false, false, false, false, false, false, false] rfl rfl (any_of HT_.out (by kernel_rfl)) (fun _ _ _ h => h) (Or.inl ⟨by rfl, ?_⟩) ?_ ?_
 rotate_left
 ·intro w'
  go_simp
  with_reducible rfl
 rotate_left
 ·simp only [Act.put, List.setIfInBounds_toArray, List.set_cons_zero, List.set_cons_succ, i64_w, i32_w]
  rfl
 refine pure_ (i := 2) (N := some 7) (v := ?_) (a' := ?_) #[true, false, true, false, false, false, false, false, false, false] rfl rfl (any_of HT_.out (by kernel_rfl)) (fun _ _ _ h => h) (Or.inl ⟨by rfl, ?_⟩) ?_ ?_
 rotate_left
 ·intro w'
  go_simp
  with_reducible rfl
 rotate_left
 ·simp only [Act.put, List.setIfInBounds_toArray, List.set_cons_zero, List.set_cons_succ, i64_w, i32_w]
  rfl
 refine pure_ (i := 4) (N := some 9) (v := ?_) (a' := ?_) #[true, false, true, false, true, false, false, false, false, false] rfl rfl (any_of HT_.out (by kernel_rfl)) (fun _ _ _ h => h) (Or.inl ⟨by rfl, ?_⟩) ?_ ?_
 rotate_left
 ·intro w'
  go_simp
  with_reducible rfl
 rotate_left
 ·simp only [Act.put, List.setIfInBounds_toArray, List.set_cons_zero, List.set_cons_succ, i64_w, i32_w]
  rfl
 refine pure_ (i := 5) (N := some 10) (v := ?_) (a' := ?_) #[true, false, true, false, true, true, false, false, false, false] rfl rfl (any_of HT_.out (by kernel_rfl)) (fun _ _ _ h => h) (Or.inl ⟨by rfl, ?_⟩) ?_ ?_
 rotate_left
 ·intro w'
  go_simp
  with_reducible rfl
 rotate_left
 ·simp only [Act.put, List.setIfInBounds_toArray, List.set_cons_zero, List.set_cons_succ, i64_w, i32_w]
  rfl
 refine take_ (i := 1) (N := some 6) (v := ?_) (a' := ?_) #[true, true, true, false, true, true, false, false, false, false] rfl rfl (take_ofW HT_.out HW_.out (by kernel_rfl)) (fun _ _ _ h => h) (Or.inl ⟨by rfl, ?_⟩) hHeld ?_ ?_
 rotate_left
 ·rintro w' ⟨s0, s1, s2⟩
  go_simp
  with_reducible rfl
 rotate_left
 ·simp only [Act.put, List.setIfInBounds_toArray, List.set_cons_zero, List.set_cons_succ, i64_w, i32_w]
  rfl
 refine take_ (i := 3) (N := some 8) (v := ?_) (a' := ?_) #[true, true, true, true, true, true, false, false, false, false] rfl rfl (take_ofW HT_.out HW_.out (by kernel_rfl)) (fun _ _ _ h => h) (Or.inl ⟨by rfl, ?_⟩) hHeld ?_ ?_
 rotate_left
 ·rintro w' ⟨s0, s1, s2⟩
  go_simp
  with_reducible rfl
 rotate_left
 ·simp only [Act.put, List.setIfInBounds_toArray, List.set_cons_zero, List.set_cons_succ, i64_w, i32_w]
  rfl
 refine take_ (i := 6) (N := some 11) (v := ?_) (a' := ?_) #[true, true, true, true, true, true, true, false, false, false] rfl rfl (take_ofW HT_.out HW_.out (by kernel_rfl)) (fun _ _ _ h => h) (Or.inl ⟨by rfl, ?_⟩) hHeld ?_ ?_
 rotate_left
 ·rintro w' ⟨s0, s1, s2⟩
  go_simp
  with_reducible rfl
 rotate_left
 ·simp only [Act.put, List.setIfInBounds_toArray, List.set_cons_zero, List.set_cons_succ, i64_w, i32_w]
  rfl
 refine one_ (i := 7) (N := some 12) #[true, true, true, true, true, true, true, true, false, false] rfl rfl (one_of HT_.out (by kernel_rfl)) (by decide) (fun K hK => ?_)
 refine goes_ Try.func87 (by kernel_rfl) rfl #[.int .i64 a0, .int .i64 a1_0] (by rfl) rfl rfl (by (try simp only [List.map_toArray, List.map_cons, List.map_nil]); first | done | rfl | (simp only [List.length_drop, List.length_take]; rfl)) ?_
 with_reducible refine (computusref07_Label.calls a0 a1_0 t360 _ A3.out).mono ?_
 rintro e w' ⟨rfl, ⟨nd, rfl⟩⟩
 refine ⟨_, rfl, ?_⟩
 refine hK.out _ _ (by first | exact ⟨(blk_cell BK359.out 0).trans rfl, (blk_cell BK359.out 1).trans rfl, (blk_cell BK359.out 2).trans rfl⟩ | exact hHeld) (fun hHeld => ?_)
 clear hK K
 refine norm_ (a' := ?_) ?_ ?_
 rotate_left
 ·show Act.put _ (some 12) _ = _
  simp only [Act.put, List.setIfInBounds_toArray, List.set_cons_zero, List.set_cons_succ, i64_w, i32_w]
  rfl
 refine one_ (i := 8) (N := some 13) #[true, true, true, true, true, true, true, true, true, false] rfl rfl (one_of HT_.out (by kernel_rfl)) (by decide) (fun K hK => ?_)
 refine goes_ Try.func86 (by kernel_rfl) rfl #[.int .i64 a1_1, .int .i64 a1_2, .int .i64 t360] (by rfl) rfl rfl (by (try simp only [List.map_toArray, List.map_cons, List.map_nil]); first | done | rfl | (simp only [List.length_drop, List.length_take]; rfl)) ?_
 with_reducible refine (computusref08_Bears.calls k a1_1 a1_2 t360 t361 _ A4.out).mono ?_
 rintro e w7 ⟨rfl, hb⟩
 refine ⟨_, rfl, ?_⟩
 have n0_ := Aside0.mk (blk_below (g := gb359) (o := .cells #[.int .i64 a1_0, .int .i64 a1_1, .int .i64 a1_2] 98 (0, 0)) (bk_ BK359.out) hb)
 have n1_ := bt_ hb
 clear BK359
 clear HB
 have BK359 := n0_
 have HB := n1_
 clear n0_ n1_
 (try clear hb)
 (try clear hb2)
 (try clear hk)
 (try clear hi)
 refine hK.out _ _ (by first | exact ⟨(blk_cell BK359.out 0).trans rfl, (blk_cell BK359.out 1).trans rfl, (blk_cell BK359.out 2).trans rfl⟩ | exact hHeld) (fun hHeld => ?_)
 clear hK K
 refine norm_ (a' := ?_) ?_ ?_
 rotate_left
 ·show Act.put _ (some 13) _ = _
  simp only [Act.put, List.setIfInBounds_toArray, List.set_cons_zero, List.set_cons_succ, i64_w, i32_w]
  rfl
 refine pure_ (i := 9) (N := some 4) (v := ?_) (a' := ?_) #[true, true, true, true, true, true, true, true, true, true] rfl rfl (any_of HT_.out (by kernel_rfl)) (fun _ _ _ h => h) (Or.inl ⟨by rfl, ?_⟩) ?_ ?_
 rotate_left
 ·intro w'
  go_simp
  with_reducible rfl
 rotate_left
 ·simp only [Act.put, List.setIfInBounds_toArray, List.set_cons_zero, List.set_cons_succ, i64_w, i32_w]
  rfl
 refine done_ (done_of HT_.out (by kernel_rfl)) ?_
 try go_wp2
 go_ret
 exact rt_
end Go.Proofs.Ytopfjjdkffdjpaa.Q
end
section
namespace Go.Proofs.Ytopfjjdkffdjpaa.Q
open Go.RowKit Go.Proofs.YtopfjjdkffdjpaaW.PrintWords Go.Proofs.YtopfjjdkffdjpaaW.PrintLast Go.Proofs.YtopfjjdkffdjpaaW.PrintMore
attribute [local go_sem] max2_int min2_int max_two min_two max_three min_three max_four min_four
def computusref09_FullMoon.l0 : Nat → Int → Int → Int → Option (Int × Int × Int)
 | 0, _, _, _ => none
 | k + 1, x0, x6, x8 => if x8 < 40 then ((computusref05_FromDay.f k x0 (wrap64 (x6 - 13))).bind fun bt371 => ((computusref09_NewMoon.f k x0 bt371.1 bt371.2.1 bt371.2.2.1).bind fun t376 => (if t376 = true then ((computusref05_FromDay.f k x0 x6).bind fun bt377 => (some (bt377.1, bt377.2.1, bt377.2.2.1))) else (computusref09_FullMoon.l0 k x0 (wrap64 (x6 + 1)) (wrap64 (x8 + 1)))))) else ((computusref05_FromDay.f k x0 x6).bind fun bt366 => (some (bt366.1, bt366.2.1, bt366.2.2.1)))
def computusref09_FullMoon.f (k : Nat) (a0 : Int) (a1 : Int) : Option (Int × Int × Int) := (computusref05_ToDay.f k a0 a1 3 21).bind fun bt364 => (computusref09_FullMoon.l0 k a0 bt364.1 0)
theorem computusref09_FullMoon.mono_l : ∀ k, (∀ y0 y1 y2, LeO (computusref09_FullMoon.l0 k y0 y1 y2) (computusref09_FullMoon.l0 (k + 1) y0 y1 y2))
 | 0 => fun _ _ _ r h => by simp [computusref09_FullMoon.l0] at h
 | k + 1 => by
  have ih0 := computusref09_FullMoon.mono_l k
  ·intro y0 y1 y2
   unfold computusref09_FullMoon.l0
   repeat' first | (with_reducible first | exact ih0 _ _ _ | exact computusref05_FromDay.mono _ _ _ | exact computusref05_ToDay.mono _ _ _ _ _ | exact computusref09_NewMoon.mono _ _ _ _ _ | exact LeO.refl _ | exact LeO.none _ | refine LeO.ite ?_ ?_ | refine LeO.bind ?_ (fun _ => ?_)) | exact ih0 _ _ _ | exact computusref05_FromDay.mono _ _ _ | exact computusref05_ToDay.mono _ _ _ _ _ | exact computusref09_NewMoon.mono _ _ _ _ _ | exact LeO.none _ | refine LeO.ite ?_ ?_ | refine LeO.bind ?_ (fun _ => ?_)
theorem computusref09_FullMoon.mono : ∀ a0 a1 k, LeO (computusref09_FullMoon.f k a0 a1) (computusref09_FullMoon.f (k + 1) a0 a1) := by
 intro a0 a1 k
 have ih0 := computusref09_FullMoon.mono_l k
 unfold computusref09_FullMoon.f
 repeat' first | (with_reducible first | exact ih0 _ _ _ | exact computusref05_FromDay.mono _ _ _ | exact computusref05_ToDay.mono _ _ _ _ _ | exact computusref09_NewMoon.mono _ _ _ _ _ | exact LeO.refl _ | exact LeO.none _ | refine LeO.ite ?_ ?_ | refine LeO.bind ?_ (fun _ => ?_)) | exact ih0 _ _ _ | exact computusref05_FromDay.mono _ _ _ | exact computusref05_ToDay.mono _ _ _ _ _ | exact computusref09_NewMoon.mono _ _ _ _ _ | exact LeO.none _ | refine LeO.ite ?_ ?_ | refine LeO.bind ?_ (fun _ => ?_)
set_option maxHeartbeats 8000000 in
set_option maxRecDepth 100000 in
theorem computusref09_FullMoon.calls (k : Nat) (a0 : Int) (a1 : Int) (r1 : Int) (r2 : Int) (r3 : Int) (w : World) (h : computusref09_FullMoon.f k a0 a1 = some (r1, r2, r3)) :
  Calls Try.prog 68 #[.int .i64 a0, .int .i64 a1] w fun e w' => e = .returned (.agg #[.int .i64 r1, .int .i64 r2, .int .i64 r3]) ∧ Below w.heap.size w w' := by
 have hu98 := Try.underlying98
 have HB := Aside0.mk (Below.refl w.heap.size w)
 have H : ((computusref05_ToDay.f k a0 a1 3 21).bind fun bt364 => (computusref09_FullMoon.l0 k a0 bt364.1 0)) = some (r1, r2, r3) := h
 clear h
 obtain ⟨⟨t364, t365⟩, A3, H⟩ := bs_ H
 dsimp only at H
 have H' := Aside0.mk H
 clear H
 go_enter Try.func68, Try.ntmps68
 go_wp2_with (first | ((with_reducible refine gate_dst (N := 4) rfl ?_); refine bx_ (w := w) (N := 4) (cs := #[.int .i64 0, .int .i64 0, .int .i64 0]) (t := 98) ?_; intro gb362 w4 BK362 n0_ GW362 GE362; clear HB; have HB := n0_; clear n0_) | ((with_reducible refine gate_dst (N := 5) rfl ?_); refine box_event ?hg (N := 5) ?hd (cs := #[.int .i64 0, .int .i64 0, .int .i64 0]) (t := 98) ?hr ?_; (case hd => rfl); (case hg => rfl); (case hr => first | (go_simp; done) | (go_simp; rfl)); intro gb363 hg w5 hbox hb; have n0_ := Aside0.mk (blk_below (g := gb362) (o := .cells #[.int .i64 0, .int .i64 0, .int .i64 0] 98 (0, 0)) (bk_ BK362.out) hb); have n1_ := bt_ hb; have n2_ := Aside0.mk (hbox); have n3_ := Aside0.mk ((by rw [hg]; exact bz_ : w.heap.size ≤ gb363)); have n4_ := Aside0.mk ((by rw [hg]; exact bz_ : w.heap.size ≤ gb363)); have n5_ := Aside0.mk ((by rw [hg]; exact Nat.ne_of_lt (blk_lt (g := gb362) (o := .cells #[.int .i64 0, .int .i64 0, .int .i64 0] 98 (0, 0)) (bk_ BK362.out)) : gb362 ≠ gb363)); have n6_ := Aside0.mk ((by rw [hg]; exact Nat.ne_of_gt (blk_lt (g := gb362) (o := .cells #[.int .i64 0, .int .i64 0, .int .i64 0] 98 (0, 0)) (bk_ BK362.out)) : gb363 ≠ gb362)); clear BK362; clear HB; have BK362 := n0_; have HB := n1_; have BK363 := n2_; have GW363 := n3_; have GE363 := n4_; have NB362_363 := n5_; have NB363_362 := n6_; clear n0_ n1_ n2_ n3_ n4_ n5_ n6_; clear hb hbox hg; have hnb6 := NB363_362.out; have hnc6 := NB362_363.out; obtain ⟨hcz7_0, hcz7_1, hcz7_2⟩ := cz3_ BK363.out; obtain ⟨hfz7_0, hfz7_1, hfz7_2⟩ := fz3_ BK363.out) | ((with_reducible refine gate_callee (f := 67) rfl ?_); refine gl_ (some 18) Try.func67 #[.int .i64 a0, .agg #[.int .i64 a1, .int .i64 3, .int .i64 21]] ?_; (with_reducible refine (computusref05_ToDay.calls k a0 a1 3 21 t364 t365 _ A3.out).mono ?_); rintro e w8 ⟨rfl, hb⟩; refine ⟨_, rfl, ?_⟩; have n0_ := Aside0.mk (blk_below (g := gb362) (o := .cells #[.int .i64 0, .int .i64 0, .int .i64 0] 98 (0, 0)) (by refine bp_ ?_; refine blk_far ?_ NB362_363.out _; refine bp_ ?_; refine blk_far ?_ NB362_363.out _; refine bp_ ?_; refine blk_far ?_ NB362_363.out _; exact bk_ BK362.out) hb); have n1_ := Aside0.mk (blk_below (g := gb363) (o := .cells #[.int .i64 a1, .int .i64 3, .int .i64 21] 98 (0, 0)) (by refine bp_ ?_; refine blk_put (cs := #[.int .i64 a1, .int .i64 3, .int .i64 0]) ?_ 2 _ rfl; refine bp_ ?_; refine blk_put (cs := #[.int .i64 a1, .int .i64 0, .int .i64 0]) ?_ 1 _ rfl; refine bp_ ?_; refine blk_put (cs := #[.int .i64 0, .int .i64 0, .int .i64 0]) ?_ 0 _ rfl; exact bk_ BK363.out) hb); have n2_ := bt_ hb; clear BK362; clear BK363; clear HB; have BK362 := n0_; have BK363 := n1_; have HB := n2_; clear n0_ n1_ n2_; (try clear hb); (try clear hb2); (try clear hk); (try clear hi)))
 go_loopg [6, 8] k (fun kq v6 v8 w' => ∃ (x6_1 : Int) (x8_1 : Int), v6 = .int .i64 x6_1 ∧ v8 = .int .i64 x8_1 ∧ Aside0 (computusref09_FullMoon.l0 kq a0 x6_1 x8_1 = some (r1, r2, r3)) ∧ Aside0 (kq ≤ k) ∧ Aside0 (w'.heap[gb362]? = some (.cells #[.int .i64 0, .int .i64 0, .int .i64 0] 98 (0, 0))) ∧ Aside0 (w'.heap[gb363]? = some (.cells #[.int .i64 a1, .int .i64 3, .int .i64 21] 98 (0, 0))) ∧ Aside0 (Below w.heap.size w w'))
 case atStart => exact ⟨(t364), (0), rs_, rs_, H', ⟨Nat.le_refl _⟩, ⟨bk_ BK362.out⟩, ⟨bk_ BK363.out⟩, ⟨bh_⟩⟩
 case round =>
  clear H'
  try clear p2
  try clear c6
  try clear hcz7_0
  try clear hcz7_1
  try clear hcz7_2
  try clear hfz7_0
  try clear hfz7_1
  try clear hfz7_2
  obtain ⟨x6_1, x8_1, rfl, rfl, HA, HK1, BK362, BK363, HB⟩ := hrel
  cases gk with
  | zero => exact absurd HA.out (by simp [computusref09_FullMoon.l0])
  | succ k1 =>
   have H := HA.out
   clear HA
   simp only [computusref09_FullMoon.l0] at H
   by_cases c9 : x8_1 < 40
   ·rw [if_pos c9] at H
    have c9b0 : decide (x8_1 < 40) = true := decide_eq_true c9
    clear c9
    obtain ⟨⟨t371, t372, t373, t374⟩, A10, H⟩ := bs_ H
    dsimp only at H
    obtain ⟨t376, A11, H⟩ := bs_ H
    by_cases c12 : t376 = true
    ·subst c12
     replace H := it_ H
     obtain ⟨⟨t377, t378, t379, t380⟩, A13, H⟩ := bs_ H
     dsimp only at H
     simp only [Option.some.injEq, Prod.mk.injEq] at H
     obtain ⟨rfl, rfl, rfl⟩ := H
     go_wp2_with (first | ((with_reducible refine gate_callee (f := 78) rfl ?_); refine gl_ (some 29) Try.func78 #[.int .i64 a0, .int .i64 (wrap64 (x6_1 - 13))] ?_; (with_reducible refine (computusref05_FromDay.calls k1 a0 (wrap64 (x6_1 - 13)) t371 t372 t373 t374 _ A10.out).mono ?_); rintro e w14 ⟨rfl, hb⟩; refine ⟨_, rfl, ?_⟩; have n0_ := Aside0.mk (blk_below (g := gb362) (o := .cells #[.int .i64 0, .int .i64 0, .int .i64 0] 98 (0, 0)) (bk_ BK362.out) hb); have n1_ := Aside0.mk (blk_below (g := gb363) (o := .cells #[.int .i64 a1, .int .i64 3, .int .i64 21] 98 (0, 0)) (bk_ BK363.out) hb); have n2_ := bt_ hb; clear BK362; clear BK363; clear HB; have BK362 := n0_; have BK363 := n1_; have HB := n2_; clear n0_ n1_ n2_; (try clear hb); (try clear hb2); (try clear hk); (try clear hi)) | ((with_reducible refine gate_dst (N := 9) rfl ?_); refine box_event ?hg (N := 9) ?hd (cs := #[.int .i64 0, .int .i64 0, .int .i64 0]) (t := 98) ?hr ?_; (case hd => rfl); (case hg => rfl); (case hr => first | (go_simp; done) | (go_simp; rfl)); intro gb375 hg w15 hbox hb; have n0_ := Aside0.mk (blk_below (g := gb362) (o := .cells #[.int .i64 0, .int .i64 0, .int .i64 0] 98 (0, 0)) (bk_ BK362.out) hb); have n1_ := Aside0.mk (blk_below (g := gb363) (o := .cells #[.int .i64 a1, .int .i64 3, .int .i64 21] 98 (0, 0)) (bk_ BK363.out) hb); have n2_ := bt_ hb; have n3_ := Aside0.mk (hbox); have n4_ := Aside0.mk ((by rw [hg]; exact bz_ : w.heap.size ≤ gb375)); have n5_ := Aside0.mk ((by rw [hg]; exact bz_ : w.heap.size ≤ gb375)); have n6_ := Aside0.mk ((by rw [hg]; exact Nat.ne_of_lt (blk_lt (g := gb362) (o := .cells #[.int .i64 0, .int .i64 0, .int .i64 0] 98 (0, 0)) (bk_ BK362.out)) : gb362 ≠ gb375)); have n7_ := Aside0.mk ((by rw [hg]; exact Nat.ne_of_gt (blk_lt (g := gb362) (o := .cells #[.int .i64 0, .int .i64 0, .int .i64 0] 98 (0, 0)) (bk_ BK362.out)) : gb375 ≠ gb362)); have n8_ := Aside0.mk ((by rw [hg]; exact Nat.ne_of_lt (blk_lt (g := gb363) (o := .cells #[.int .i64 a1, .int .i64 3, .int .i64 21] 98 (0, 0)) (bk_ BK363.out)) : gb363 ≠ gb375)); have n9_ := Aside0.mk ((by rw [hg]; exact Nat.ne_of_gt (blk_lt (g := gb363) (o := .cells #[.int .i64 a1, .int .i64 3, .int .i64 21] 98 (0, 0)) (bk_ BK363.out)) : gb375 ≠ gb363)); clear BK362; clear BK363; clear HB; have BK362 := n0_; have BK363 := n1_; have HB := n2_; have BK375 := n3_; have GW375 := n4_; have GE375 := n5_; have NB362_375 := n6_; have NB375_362 := n7_; have NB363_375 := n8_; have NB375_363 := n9_; clear n0_ n1_ n2_ n3_ n4_ n5_ n6_ n7_ n8_ n9_; clear hb hbox hg; have hnb16 := NB375_362.out; have hnc16 := NB362_375.out; have hnb17 := NB375_363.out; have hnc17 := NB363_375.out; obtain ⟨hcz18_0, hcz18_1, hcz18_2⟩ := cz3_ BK375.out; obtain ⟨hfz18_0, hfz18_1, hfz18_2⟩ := fz3_ BK375.out) | ((with_reducible refine gate_callee (f := 79) rfl ?_); refine gl_ (some 34) Try.func79 #[.int .i64 a0, .agg #[.int .i64 t371, .int .i64 t372, .int .i64 t373]] ?_; (with_reducible refine (computusref09_NewMoon.calls k1 a0 t371 t372 t373 true _ A11.out).mono ?_); rintro e w19 ⟨rfl, hb⟩; refine ⟨_, rfl, ?_⟩; have n0_ := Aside0.mk (blk_below (g := gb362) (o := .cells #[.int .i64 0, .int .i64 0, .int .i64 0] 98 (0, 0)) (by refine bp_ ?_; refine blk_far ?_ NB362_375.out _; refine bp_ ?_; refine blk_far ?_ NB362_375.out _; refine bp_ ?_; refine blk_far ?_ NB362_375.out _; exact bk_ BK362.out) hb); have n1_ := Aside0.mk (blk_below (g := gb363) (o := .cells #[.int .i64 a1, .int .i64 3, .int .i64 21] 98 (0, 0)) (by refine bp_ ?_; refine blk_far ?_ NB363_375.out _; refine bp_ ?_; refine blk_far ?_ NB363_375.out _; refine bp_ ?_; refine blk_far ?_ NB363_375.out _; exact bk_ BK363.out) hb); have n2_ := Aside0.mk (blk_below (g := gb375) (o := .cells #[.int .i64 t371, .int .i64 t372, .int .i64 t373] 98 (0, 0)) (by refine bp_ ?_; refine blk_put (cs := #[.int .i64 t371, .int .i64 t372, .int .i64 0]) ?_ 2 _ rfl; refine bp_ ?_; refine blk_put (cs := #[.int .i64 t371, .int .i64 0, .int .i64 0]) ?_ 1 _ rfl; refine bp_ ?_; refine blk_put (cs := #[.int .i64 0, .int .i64 0, .int .i64 0]) ?_ 0 _ rfl; exact bk_ BK375.out) hb); have n3_ := bt_ hb; clear BK362; clear BK363; clear BK375; clear HB; have BK362 := n0_; have BK363 := n1_; have BK375 := n2_; have HB := n3_; clear n0_ n1_ n2_ n3_; (try clear hb); (try clear hb2); (try clear hk); (try clear hi)) | ((with_reducible refine gate_callee (f := 78) rfl ?_); refine gl_ (some 40) Try.func78 #[.int .i64 a0, .int .i64 x6_1] ?_; (with_reducible refine (computusref05_FromDay.calls k1 a0 x6_1 t377 t378 t379 t380 _ A13.out).mono ?_); rintro e w20 ⟨rfl, hb⟩; refine ⟨_, rfl, ?_⟩; have n0_ := Aside0.mk (blk_below (g := gb362) (o := .cells #[.int .i64 0, .int .i64 0, .int .i64 0] 98 (0, 0)) (bk_ BK362.out) hb); have n1_ := Aside0.mk (blk_below (g := gb363) (o := .cells #[.int .i64 a1, .int .i64 3, .int .i64 21] 98 (0, 0)) (bk_ BK363.out) hb); have n2_ := Aside0.mk (blk_below (g := gb375) (o := .cells #[.int .i64 t371, .int .i64 t372, .int .i64 t373] 98 (0, 0)) (bk_ BK375.out) hb); have n3_ := bt_ hb; clear BK362; clear BK363; clear BK375; clear HB; have BK362 := n0_; have BK363 := n1_; have BK375 := n2_; have HB := n3_; clear n0_ n1_ n2_ n3_; (try clear hb); (try clear hb2); (try clear hk); (try clear hi)) | ((with_reducible refine gate_dst (N := 11) rfl ?_); refine box_event ?hg (N := 11) ?hd (cs := #[.int .i64 0, .int .i64 0, .int .i64 0]) (t := 98) ?hr ?_; (case hd => rfl); (case hg => rfl); (case hr => first | (go_simp; done) | (go_simp; rfl)); intro gb381 hg w21 hbox hb; have n0_ := Aside0.mk (blk_below (g := gb362) (o := .cells #[.int .i64 0, .int .i64 0, .int .i64 0] 98 (0, 0)) (bk_ BK362.out) hb); have n1_ := Aside0.mk (blk_below (g := gb363) (o := .cells #[.int .i64 a1, .int .i64 3, .int .i64 21] 98 (0, 0)) (bk_ BK363.out) hb); have n2_ := Aside0.mk (blk_below (g := gb375) (o := .cells #[.int .i64 t371, .int .i64 t372, .int .i64 t373] 98 (0, 0)) (bk_ BK375.out) hb); have n3_ := bt_ hb; have n4_ := Aside0.mk (hbox); have n5_ := Aside0.mk ((by rw [hg]; exact bz_ : w.heap.size ≤ gb381)); have n6_ := Aside0.mk ((by rw [hg]; exact bz_ : w.heap.size ≤ gb381)); have n7_ := Aside0.mk ((by rw [hg]; exact Nat.ne_of_lt (blk_lt (g := gb362) (o := .cells #[.int .i64 0, .int .i64 0, .int .i64 0] 98 (0, 0)) (bk_ BK362.out)) : gb362 ≠ gb381)); have n8_ := Aside0.mk ((by rw [hg]; exact Nat.ne_of_gt (blk_lt (g := gb362) (o := .cells #[.int .i64 0, .int .i64 0, .int .i64 0] 98 (0, 0)) (bk_ BK362.out)) : gb381 ≠ gb362)); have n9_ := Aside0.mk ((by rw [hg]; exact Nat.ne_of_lt (blk_lt (g := gb363) (o := .cells #[.int .i64 a1, .int .i64 3, .int .i64 21] 98 (0, 0)) (bk_ BK363.out)) : gb363 ≠ gb381)); have n10_ := Aside0.mk ((by rw [hg]; exact Nat.ne_of_gt (blk_lt (g := gb363) (o := .cells #[.int .i64 a1, .int .i64 3, .int .i64 21] 98 (0, 0)) (bk_ BK363.out)) : gb381 ≠ gb363)); have n11_ := Aside0.mk ((by rw [hg]; exact Nat.ne_of_lt (blk_lt (g := gb375) (o := .cells #[.int .i64 t371, .int .i64 t372, .int .i64 t373] 98 (0, 0)) (bk_ BK375.out)) : gb375 ≠ gb381)); have n12_ := Aside0.mk ((by rw [hg]; exact Nat.ne_of_gt (blk_lt (g := gb375) (o := .cells #[.int .i64 t371, .int .i64 t372, .int .i64 t373] 98 (0, 0)) (bk_ BK375.out)) : gb381 ≠ gb375)); clear BK362; clear BK363; clear BK375; clear HB; have BK362 := n0_; have BK363 := n1_; have BK375 := n2_; have HB := n3_; have BK381 := n4_; have GW381 := n5_; have GE381 := n6_; have NB362_381 := n7_; have NB381_362 := n8_; have NB363_381 := n9_; have NB381_363 := n10_; have NB375_381 := n11_; have NB381_375 := n12_; clear n0_ n1_ n2_ n3_ n4_ n5_ n6_ n7_ n8_ n9_ n10_ n11_ n12_; clear hb hbox hg; have hnb22 := NB381_362.out; have hnc22 := NB362_381.out; have hnb23 := NB381_363.out; have hnc23 := NB363_381.out; have hnb24 := NB381_375.out; have hnc24 := NB375_381.out; obtain ⟨hcz25_0, hcz25_1, hcz25_2⟩ := cz3_ BK381.out; obtain ⟨hfz25_0, hfz25_1, hfz25_2⟩ := fz3_ BK381.out; have hnb26 := NB362_363.out; have hnc26 := NB363_362.out; obtain ⟨hcz27_0, hcz27_1, hcz27_2⟩ := cz3_ BK362.out; obtain ⟨hfz27_0, hfz27_1, hfz27_2⟩ := fz3_ BK362.out))
     refine bodyPost_ret (results_cell_row rfl _ _ gb362 98 #[.int .i64 t377, .int .i64 t378, .int .i64 t379] (0, 0) _ rfl (by refine bp_ ?_; refine blk_put (cs := #[.int .i64 t377, .int .i64 t378, .int .i64 0]) ?_ 2 _ rfl; refine bp_ ?_; refine blk_put (cs := #[.int .i64 t377, .int .i64 0, .int .i64 0]) ?_ 1 _ rfl; refine bp_ ?_; refine blk_put (cs := #[.int .i64 0, .int .i64 0, .int .i64 0]) ?_ 0 _ rfl; refine bp_ ?_; refine blk_far ?_ NB362_381.out _; refine bp_ ?_; refine blk_far ?_ NB362_381.out _; refine bp_ ?_; refine blk_far ?_ NB362_381.out _; exact bk_ BK362.out) Try.underlying98 rfl (by kernel_rfl)) rfl ?_
     exact rt_
    ·replace c12 := Bool.eq_false_iff.mpr c12
     subst c12
     replace H := if_ H
     have H' := Aside0.mk H
     clear H
     go_wp2_with (first | ((with_reducible refine gate_callee (f := 78) rfl ?_); refine gl_ (some 29) Try.func78 #[.int .i64 a0, .int .i64 (wrap64 (x6_1 - 13))] ?_; (with_reducible refine (computusref05_FromDay.calls k1 a0 (wrap64 (x6_1 - 13)) t371 t372 t373 t374 _ A10.out).mono ?_); rintro e w28 ⟨rfl, hb⟩; refine ⟨_, rfl, ?_⟩; have n0_ := Aside0.mk (blk_below (g := gb362) (o := .cells #[.int .i64 0, .int .i64 0, .int .i64 0] 98 (0, 0)) (bk_ BK362.out) hb); have n1_ := Aside0.mk (blk_below (g := gb363) (o := .cells #[.int .i64 a1, .int .i64 3, .int .i64 21] 98 (0, 0)) (bk_ BK363.out) hb); have n2_ := bt_ hb; clear BK362; clear BK363; clear HB; have BK362 := n0_; have BK363 := n1_; have HB := n2_; clear n0_ n1_ n2_; (try clear hb); (try clear hb2); (try clear hk); (try clear hi)) | ((with_reducible refine gate_dst (N := 9) rfl ?_); refine box_event ?hg (N := 9) ?hd (cs := #[.int .i64 0, .int .i64 0, .int .i64 0]) (t := 98) ?hr ?_; (case hd => rfl); (case hg => rfl); (case hr => first | (go_simp; done) | (go_simp; rfl)); intro gb375 hg w29 hbox hb; have n0_ := Aside0.mk (blk_below (g := gb362) (o := .cells #[.int .i64 0, .int .i64 0, .int .i64 0] 98 (0, 0)) (bk_ BK362.out) hb); have n1_ := Aside0.mk (blk_below (g := gb363) (o := .cells #[.int .i64 a1, .int .i64 3, .int .i64 21] 98 (0, 0)) (bk_ BK363.out) hb); have n2_ := bt_ hb; have n3_ := Aside0.mk (hbox); have n4_ := Aside0.mk ((by rw [hg]; exact bz_ : w.heap.size ≤ gb375)); have n5_ := Aside0.mk ((by rw [hg]; exact bz_ : w.heap.size ≤ gb375)); have n6_ := Aside0.mk ((by rw [hg]; exact Nat.ne_of_lt (blk_lt (g := gb362) (o := .cells #[.int .i64 0, .int .i64 0, .int .i64 0] 98 (0, 0)) (bk_ BK362.out)) : gb362 ≠ gb375)); have n7_ := Aside0.mk ((by rw [hg]; exact Nat.ne_of_gt (blk_lt (g := gb362) (o := .cells #[.int .i64 0, .int .i64 0, .int .i64 0] 98 (0, 0)) (bk_ BK362.out)) : gb375 ≠ gb362)); have n8_ := Aside0.mk ((by rw [hg]; exact Nat.ne_of_lt (blk_lt (g := gb363) (o := .cells #[.int .i64 a1, .int .i64 3, .int .i64 21] 98 (0, 0)) (bk_ BK363.out)) : gb363 ≠ gb375)); have n9_ := Aside0.mk ((by rw [hg]; exact Nat.ne_of_gt (blk_lt (g := gb363) (o := .cells #[.int .i64 a1, .int .i64 3, .int .i64 21] 98 (0, 0)) (bk_ BK363.out)) : gb375 ≠ gb363)); clear BK362; clear BK363; clear HB; have BK362 := n0_; have BK363 := n1_; have HB := n2_; have BK375 := n3_; have GW375 := n4_; have GE375 := n5_; have NB362_375 := n6_; have NB375_362 := n7_; have NB363_375 := n8_; have NB375_363 := n9_; clear n0_ n1_ n2_ n3_ n4_ n5_ n6_ n7_ n8_ n9_; clear hb hbox hg; have hnb30 := NB375_362.out; have hnc30 := NB362_375.out; have hnb31 := NB375_363.out; have hnc31 := NB363_375.out; obtain ⟨hcz32_0, hcz32_1, hcz32_2⟩ := cz3_ BK375.out; obtain ⟨hfz32_0, hfz32_1, hfz32_2⟩ := fz3_ BK375.out) | ((with_reducible refine gate_callee (f := 79) rfl ?_); refine gl_ (some 34) Try.func79 #[.int .i64 a0, .agg #[.int .i64 t371, .int .i64 t372, .int .i64 t373]] ?_; (with_reducible refine (computusref09_NewMoon.calls k1 a0 t371 t372 t373 false _ A11.out).mono ?_); rintro e w33 ⟨rfl, hb⟩; refine ⟨_, rfl, ?_⟩; have n0_ := Aside0.mk (blk_below (g := gb362) (o := .cells #[.int .i64 0, .int .i64 0, .int .i64 0] 98 (0, 0)) (by refine bp_ ?_; refine blk_far ?_ NB362_375.out _; refine bp_ ?_; refine blk_far ?_ NB362_375.out _; refine bp_ ?_; refine blk_far ?_ NB362_375.out _; exact bk_ BK362.out) hb); have n1_ := Aside0.mk (blk_below (g := gb363) (o := .cells #[.int .i64 a1, .int .i64 3, .int .i64 21] 98 (0, 0)) (by refine bp_ ?_; refine blk_far ?_ NB363_375.out _; refine bp_ ?_; refine blk_far ?_ NB363_375.out _; refine bp_ ?_; refine blk_far ?_ NB363_375.out _; exact bk_ BK363.out) hb); have n2_ := Aside0.mk (blk_below (g := gb375) (o := .cells #[.int .i64 t371, .int .i64 t372, .int .i64 t373] 98 (0, 0)) (by refine bp_ ?_; refine blk_put (cs := #[.int .i64 t371, .int .i64 t372, .int .i64 0]) ?_ 2 _ rfl; refine bp_ ?_; refine blk_put (cs := #[.int .i64 t371, .int .i64 0, .int .i64 0]) ?_ 1 _ rfl; refine bp_ ?_; refine blk_put (cs := #[.int .i64 0, .int .i64 0, .int .i64 0]) ?_ 0 _ rfl; exact bk_ BK375.out) hb); have n3_ := bt_ hb; clear BK362; clear BK363; clear BK375; clear HB; have BK362 := n0_; have BK363 := n1_; have BK375 := n2_; have HB := n3_; clear n0_ n1_ n2_ n3_; (try clear hb); (try clear hb2); (try clear hk); (try clear hi)))
     go_roundg k1
     case measure => have := HK1.out; omega
     case rel => exact ⟨(wrap64 (x6_1 + 1)), (wrap64 (x8_1 + 1)), rs_, rs_, H', ⟨by have := HK1.out; omega⟩, ⟨bk_ BK362.out⟩, ⟨bk_ BK363.out⟩, ⟨bh_⟩⟩
   ·rw [if_neg c9] at H
    have c9b0 : decide (x8_1 < 40) = false := decide_eq_false c9
    clear c9
    obtain ⟨⟨t366, t367, t368, t369⟩, A34, H⟩ := bs_ H
    dsimp only at H
    simp only [Option.some.injEq, Prod.mk.injEq] at H
    obtain ⟨rfl, rfl, rfl⟩ := H
    go_wp2_with (first | ((with_reducible refine gate_callee (f := 78) rfl ?_); refine gl_ (some 40) Try.func78 #[.int .i64 a0, .int .i64 x6_1] ?_; (with_reducible refine (computusref05_FromDay.calls k1 a0 x6_1 t366 t367 t368 t369 _ A34.out).mono ?_); rintro e w35 ⟨rfl, hb⟩; refine ⟨_, rfl, ?_⟩; have n0_ := Aside0.mk (blk_below (g := gb362) (o := .cells #[.int .i64 0, .int .i64 0, .int .i64 0] 98 (0, 0)) (bk_ BK362.out) hb); have n1_ := Aside0.mk (blk_below (g := gb363) (o := .cells #[.int .i64 a1, .int .i64 3, .int .i64 21] 98 (0, 0)) (bk_ BK363.out) hb); have n2_ := bt_ hb; clear BK362; clear BK363; clear HB; have BK362 := n0_; have BK363 := n1_; have HB := n2_; clear n0_ n1_ n2_; (try clear hb); (try clear hb2); (try clear hk); (try clear hi)) | ((with_reducible refine gate_dst (N := 11) rfl ?_); refine box_event ?hg (N := 11) ?hd (cs := #[.int .i64 0, .int .i64 0, .int .i64 0]) (t := 98) ?hr ?_; (case hd => rfl); (case hg => rfl); (case hr => first | (go_simp; done) | (go_simp; rfl)); intro gb370 hg w36 hbox hb; have n0_ := Aside0.mk (blk_below (g := gb362) (o := .cells #[.int .i64 0, .int .i64 0, .int .i64 0] 98 (0, 0)) (bk_ BK362.out) hb); have n1_ := Aside0.mk (blk_below (g := gb363) (o := .cells #[.int .i64 a1, .int .i64 3, .int .i64 21] 98 (0, 0)) (bk_ BK363.out) hb); have n2_ := bt_ hb; have n3_ := Aside0.mk (hbox); have n4_ := Aside0.mk ((by rw [hg]; exact bz_ : w.heap.size ≤ gb370)); have n5_ := Aside0.mk ((by rw [hg]; exact bz_ : w.heap.size ≤ gb370)); have n6_ := Aside0.mk ((by rw [hg]; exact Nat.ne_of_lt (blk_lt (g := gb362) (o := .cells #[.int .i64 0, .int .i64 0, .int .i64 0] 98 (0, 0)) (bk_ BK362.out)) : gb362 ≠ gb370)); have n7_ := Aside0.mk ((by rw [hg]; exact Nat.ne_of_gt (blk_lt (g := gb362) (o := .cells #[.int .i64 0, .int .i64 0, .int .i64 0] 98 (0, 0)) (bk_ BK362.out)) : gb370 ≠ gb362)); have n8_ := Aside0.mk ((by rw [hg]; exact Nat.ne_of_lt (blk_lt (g := gb363) (o := .cells #[.int .i64 a1, .int .i64 3, .int .i64 21] 98 (0, 0)) (bk_ BK363.out)) : gb363 ≠ gb370)); have n9_ := Aside0.mk ((by rw [hg]; exact Nat.ne_of_gt (blk_lt (g := gb363) (o := .cells #[.int .i64 a1, .int .i64 3, .int .i64 21] 98 (0, 0)) (bk_ BK363.out)) : gb370 ≠ gb363)); clear BK362; clear BK363; clear HB; have BK362 := n0_; have BK363 := n1_; have HB := n2_; have BK370 := n3_; have GW370 := n4_; have GE370 := n5_; have NB362_370 := n6_; have NB370_362 := n7_; have NB363_370 := n8_; have NB370_363 := n9_; clear n0_ n1_ n2_ n3_ n4_ n5_ n6_ n7_ n8_ n9_; clear hb hbox hg; have hnb37 := NB370_362.out; have hnc37 := NB362_370.out; have hnb38 := NB370_363.out; have hnc38 := NB363_370.out; obtain ⟨hcz39_0, hcz39_1, hcz39_2⟩ := cz3_ BK370.out; obtain ⟨hfz39_0, hfz39_1, hfz39_2⟩ := fz3_ BK370.out; have hnb40 := NB362_363.out; have hnc40 := NB363_362.out; obtain ⟨hcz41_0, hcz41_1, hcz41_2⟩ := cz3_ BK362.out; obtain ⟨hfz41_0, hfz41_1, hfz41_2⟩ := fz3_ BK362.out))
    refine bodyPost_ret (results_cell_row rfl _ _ gb362 98 #[.int .i64 t366, .int .i64 t367, .int .i64 t368] (0, 0) _ rfl (by refine bp_ ?_; refine blk_put (cs := #[.int .i64 t366, .int .i64 t367, .int .i64 0]) ?_ 2 _ rfl; refine bp_ ?_; refine blk_put (cs := #[.int .i64 t366, .int .i64 0, .int .i64 0]) ?_ 1 _ rfl; refine bp_ ?_; refine blk_put (cs := #[.int .i64 0, .int .i64 0, .int .i64 0]) ?_ 0 _ rfl; refine bp_ ?_; refine blk_far ?_ NB362_370.out _; refine bp_ ?_; refine blk_far ?_ NB362_370.out _; refine bp_ ?_; refine blk_far ?_ NB362_370.out _; exact bk_ BK362.out) Try.underlying98 rfl (by kernel_rfl)) rfl ?_
    exact rt_
end Go.Proofs.Ytopfjjdkffdjpaa.Q
end
section
namespace Go.Proofs.Ytopfjjdkffdjpaa.Q
open Go.RowKit Go.Proofs.YtopfjjdkffdjpaaW.PrintWords Go.Proofs.YtopfjjdkffdjpaaW.PrintLast Go.Proofs.YtopfjjdkffdjpaaW.PrintMore
attribute [local go_sem] max2_int min2_int max_two min_two max_three min_three max_four min_four
def computusref10_Day.l0 : Nat → Int → Option (Int)
 | 0, _ => none
 | k + 1, x5 => (computusref04_Of.f x5).bind fun t387 => (if t387 = 0 then (some x5) else (computusref10_Day.l0 k (wrap64 (x5 + 1))))
def computusref10_Day.f (k : Nat) (a0 : Int) (a1 : Int) : Option (Int) := (computusref09_FullMoon.f k a0 a1).bind fun bt382 => ((computusref05_ToDay.f k a0 bt382.1 bt382.2.1 bt382.2.2).bind fun bt385 => (computusref10_Day.l0 k (wrap64 (bt385.1 + 1))))
theorem computusref10_Day.mono_l : ∀ k, (∀ y0, LeO (computusref10_Day.l0 k y0) (computusref10_Day.l0 (k + 1) y0))
 | 0 => fun _ r h => by simp [computusref10_Day.l0] at h
 | k + 1 => by
  have ih0 := computusref10_Day.mono_l k
  ·intro y0
   unfold computusref10_Day.l0
   repeat' first | (with_reducible first | exact ih0 _ | exact computusref05_ToDay.mono _ _ _ _ _ | exact computusref09_FullMoon.mono _ _ _ | exact LeO.refl _ | exact LeO.none _ | refine LeO.ite ?_ ?_ | refine LeO.bind ?_ (fun _ => ?_)) | exact ih0 _ | exact computusref05_ToDay.mono _ _ _ _ _ | exact computusref09_FullMoon.mono _ _ _ | exact LeO.none _ | refine LeO.ite ?_ ?_ | refine LeO.bind ?_ (fun _ => ?_)
theorem computusref10_Day.mono : ∀ a0 a1 k, LeO (computusref10_Day.f k a0 a1) (computusref10_Day.f (k + 1) a0 a1) := by
 intro a0 a1 k
 have ih0 := computusref10_Day.mono_l k
 unfold computusref10_Day.f
 repeat' first | (with_reducible first | exact ih0 _ | exact computusref05_ToDay.mono _ _ _ _ _ | exact computusref09_FullMoon.mono _ _ _ | exact LeO.refl _ | exact LeO.none _ | refine LeO.ite ?_ ?_ | refine LeO.bind ?_ (fun _ => ?_)) | exact ih0 _ | exact computusref05_ToDay.mono _ _ _ _ _ | exact computusref09_FullMoon.mono _ _ _ | exact LeO.none _ | refine LeO.ite ?_ ?_ | refine LeO.bind ?_ (fun _ => ?_)
set_option maxHeartbeats 8000000 in
set_option maxRecDepth 100000 in
theorem computusref10_Day.calls (k : Nat) (a0 : Int) (a1 : Int) (r : Int) (w : World) (h : computusref10_Day.f k a0 a1 = some r) :
  Calls Try.prog 59 #[.int .i64 a0, .int .i64 a1] w fun e w' => e = .returned (.int .i64 r) ∧ Below w.heap.size w w' := by
 have HB := Aside0.mk (Below.refl w.heap.size w)
 have H : ((computusref09_FullMoon.f k a0 a1).bind fun bt382 => ((computusref05_ToDay.f k a0 bt382.1 bt382.2.1 bt382.2.2).bind fun bt385 => (computusref10_Day.l0 k (wrap64 (bt385.1 + 1))))) = some r := h
 clear h
 obtain ⟨⟨t382, t383, t384⟩, A3, H⟩ := bs_ H
 dsimp only at H
 obtain ⟨⟨t385, t386⟩, A4, H⟩ := bs_ H
 dsimp only at H
 have H' := Aside0.mk H
 clear H
 go_enter Try.func59, Try.ntmps59
 go_wp2_with (first | ((with_reducible refine gate_callee (f := 68) rfl ?_); refine gl_ (some 11) Try.func68 #[.int .i64 a0, .int .i64 a1] ?_; (with_reducible refine (computusref09_FullMoon.calls k a0 a1 t382 t383 t384 _ A3.out).mono ?_); rintro e w5 ⟨rfl, hb⟩; refine ⟨_, rfl, ?_⟩; have n0_ := bt_ hb; clear HB; have HB := n0_; clear n0_; (try clear hb); (try clear hb2); (try clear hk); (try clear hi)) | ((with_reducible refine gate_callee (f := 67) rfl ?_); refine gl_ (some 12) Try.func67 #[.int .i64 a0, .agg #[.int .i64 t382, .int .i64 t383, .int .i64 t384]] ?_; (with_reducible refine (computusref05_ToDay.calls k a0 t382 t383 t384 t385 t386 _ A4.out).mono ?_); rintro e w6 ⟨rfl, hb⟩; refine ⟨_, rfl, ?_⟩; have n0_ := bt_ hb; clear HB; have HB := n0_; clear n0_; (try clear hb); (try clear hb2); (try clear hk); (try clear hi)))
 go_loopg [5] k (fun kq v5 w' => ∃ (x5_1 : Int), v5 = .int .i64 x5_1 ∧ Aside0 (computusref10_Day.l0 kq x5_1 = some r) ∧ Aside0 (kq ≤ k) ∧ Aside0 (Below w.heap.size w w'))
 case atStart => exact ⟨(wrap64 (t385 + 1)), rs_, H', ⟨Nat.le_refl _⟩, ⟨bh_⟩⟩
 case round =>
  clear H'
  try clear p2
  try clear c5
  try clear c6
  try clear p6
  obtain ⟨x5_1, rfl, HA, HK1, HB⟩ := hrel
  cases gk with
  | zero => exact absurd HA.out (by simp [computusref10_Day.l0])
  | succ k1 =>
   have H := HA.out
   clear HA
   simp only [computusref10_Day.l0] at H
   obtain ⟨t387, A7, H⟩ := bs_ H
   by_cases c8 : t387 = 0
   ·rw [if_pos c8] at H
    have c8b0 : (t387 == 0) = true := beq_iff_eq.mpr c8
    have c8b1 : (t387 != 0) = false := bne_eq_false_iff_eq.mpr c8
    clear c8
    obtain rfl := Option.some.inj H
    go_wp2_with (first | ((with_reducible refine gate_callee (f := 47) rfl ?_); refine gl_ (some 18) Try.func47 #[.int .i64 x5_1] ?_; (with_reducible refine (computusref04_Of.calls x5_1 t387 _ A7.out).mono ?_); rintro e w' ⟨rfl, ⟨nd, rfl⟩⟩; refine ⟨_, rfl, ?_⟩))
    go_ret
    exact rt_
   ·rw [if_neg c8] at H
    have c8b0 : (t387 == 0) = false := beq_eq_false_iff_ne.mpr c8
    have c8b1 : (t387 != 0) = true := bne_iff_ne.mpr c8
    have H' := Aside0.mk H
    clear H
    go_wp2_with (first | ((with_reducible refine gate_callee (f := 47) rfl ?_); refine gl_ (some 18) Try.func47 #[.int .i64 x5_1] ?_; (with_reducible refine (computusref04_Of.calls x5_1 t387 _ A7.out).mono ?_); rintro e w' ⟨rfl, ⟨nd, rfl⟩⟩; refine ⟨_, rfl, ?_⟩))
    go_roundg k1
    case measure => have := HK1.out; omega
    case rel => exact ⟨(wrap64 (x5_1 + 1)), rs_, H', ⟨by have := HK1.out; omega⟩, ⟨bh_⟩⟩
end Go.Proofs.Ytopfjjdkffdjpaa.Q
end
section
namespace Go.Proofs.Ytopfjjdkffdjpaa.Q
open Go.RowKit Go.Proofs.YtopfjjdkffdjpaaW.PrintWords Go.Proofs.YtopfjjdkffdjpaaW.PrintLast Go.Proofs.YtopfjjdkffdjpaaW.PrintMore
attribute [local go_sem] max2_int min2_int max_two min_two max_three min_three max_four min_four
def computusref04_fails.j0 : Nat → Int → Bool → Option (Int)
 | 0, _, _ => none
 | k + 1, x0, x10 => if x10 = true then (some 3) else (if x0 < (-1099511627776) then (some 1) else (if x0 > 1099511627776 then (some 1) else (some 0)))
def computusref04_fails.f (k : Nat) (a0 : Int) (a1 : Int) : Option (Int) := if a1 < 0 then (computusref04_fails.j0 k a0 true) else (computusref04_fails.j0 k a0 (decide (a1 > 6)))
theorem computusref04_fails.mono_l : ∀ k, (∀ y0 y1, LeO (computusref04_fails.j0 k y0 y1) (computusref04_fails.j0 (k + 1) y0 y1))
 | 0 => fun _ _ r h => by simp [computusref04_fails.j0] at h
 | k + 1 => by
  have ih0 := computusref04_fails.mono_l k
  ·intro y0 y1
   unfold computusref04_fails.j0
   repeat' first | (with_reducible first | exact ih0 _ _ | exact LeO.refl _ | exact LeO.none _ | refine LeO.ite ?_ ?_ | refine LeO.bind ?_ (fun _ => ?_)) | exact ih0 _ _ | exact LeO.none _ | refine LeO.ite ?_ ?_ | refine LeO.bind ?_ (fun _ => ?_)
theorem computusref04_fails.mono : ∀ a0 a1 k, LeO (computusref04_fails.f k a0 a1) (computusref04_fails.f (k + 1) a0 a1) := by
 intro a0 a1 k
 have ih0 := computusref04_fails.mono_l k
 unfold computusref04_fails.f
 repeat' first | (with_reducible first | exact ih0 _ _ | exact LeO.refl _ | exact LeO.none _ | refine LeO.ite ?_ ?_ | refine LeO.bind ?_ (fun _ => ?_)) | exact ih0 _ _ | exact LeO.none _ | refine LeO.ite ?_ ?_ | refine LeO.bind ?_ (fun _ => ?_)
set_option maxHeartbeats 8000000 in
set_option maxRecDepth 100000 in
theorem computusref04_fails.calls (k : Nat) (a0 : Int) (a1 : Int) (r : Int) (w : World) (h : computusref04_fails.f k a0 a1 = some r) :
  Calls Try.prog 80 #[.int .i64 a0, .int .i64 a1] w fun e w' => e = .returned (.int .i64 r) ∧ Drawn0 w w' := by
 have H : (if a1 < 0 then (computusref04_fails.j0 k a0 true) else (computusref04_fails.j0 k a0 (decide (a1 > 6)))) = some r := h
 clear h
 have HC3 := Aside0.mk H
 clear H
 go_enter Try.func80, Try.ntmps80
 go_upto_region 1 with (fail)
 go_cut [10] (fun v10 wc => ∃ (kq : Nat) (x10_2 : Bool), v10 = .bool x10_2 ∧ Aside0 (computusref04_fails.j0 kq a0 x10_2 = some r) ∧ Aside0 (kq ≤ k) ∧ Drawn0 w wc)
 case first =>
  have H := HC3.out
  clear HC3
  by_cases c4 : a1 < 0
  ·rw [if_pos c4] at H
   have c4b0 : decide (a1 < 0) = true := decide_eq_true c4
   clear c4
   (first | rw [c4b0] | (simp only [i64_w, i32_w]; rw [c4b0]) | skip)
   have H' := Aside0.mk H
   clear H
   go_wp2
   go_meet
   case rel => exact ⟨_, (true), rs_, H', ⟨by first | omega | exact Nat.le_refl _⟩, by repeat (first | exact Drawn0.refl _ | apply Drawn0.step)⟩
  ·rw [if_neg c4] at H
   have c4b0 : decide (a1 < 0) = false := decide_eq_false c4
   clear c4
   (first | rw [c4b0] | (simp only [i64_w, i32_w]; rw [c4b0]) | skip)
   have H' := Aside0.mk H
   clear H
   go_wp2
   go_meet
   case rel => exact ⟨_, (decide (a1 > 6)), rs_, H', ⟨by first | omega | exact Nat.le_refl _⟩, by repeat (first | exact Drawn0.refl _ | apply Drawn0.step)⟩
 case rest =>
  clear HC3
  try clear p2
  try clear c4
  try clear c4b0
  obtain ⟨kq, x10_2, rfl, HA, HJ2, ⟨mc2, rfl⟩⟩ := hcut
  cases kq with
  | zero => exact absurd HA.out (by simp [computusref04_fails.j0])
  | succ kj2 =>
   have H := HA.out
   clear HA
   simp only [computusref04_fails.j0] at H
   by_cases c5 : x10_2 = true
   ·subst c5
    replace H := it_ H
    obtain rfl := Option.some.inj H
    go_wp2
    go_ret
    exact ⟨by first | rfl | (simp; done) | (simp [*]; done), by repeat (first | exact Drawn0.refl _ | apply Drawn0.step)⟩
   ·replace c5 := Bool.eq_false_iff.mpr c5
    subst c5
    replace H := if_ H
    by_cases c6 : a0 < (-1099511627776)
    ·rw [if_pos c6] at H
     have c6b0 : decide (a0 < (-1099511627776)) = true := decide_eq_true c6
     clear c6
     obtain rfl := Option.some.inj H
     go_wp2
     go_ret
     exact ⟨by first | rfl | (simp; done) | (simp [*]; done), by repeat (first | exact Drawn0.refl _ | apply Drawn0.step)⟩
    ·rw [if_neg c6] at H
     have c6b0 : decide (a0 < (-1099511627776)) = false := decide_eq_false c6
     clear c6
     by_cases c7 : a0 > 1099511627776
     ·rw [if_pos c7] at H
      have c7b0 : decide (1099511627776 < a0) = true := decide_eq_true c7
      clear c7
      obtain rfl := Option.some.inj H
      go_wp2
      go_ret
      exact ⟨by first | rfl | (simp; done) | (simp [*]; done), by repeat (first | exact Drawn0.refl _ | apply Drawn0.step)⟩
     ·rw [if_neg c7] at H
      have c7b0 : decide (1099511627776 < a0) = false := decide_eq_false c7
      clear c7
      obtain rfl := Option.some.inj H
      go_wp2
      go_ret
      exact ⟨by first | rfl | (simp; done) | (simp [*]; done), by repeat (first | exact Drawn0.refl _ | apply Drawn0.step)⟩
end Go.Proofs.Ytopfjjdkffdjpaa.Q
end
section
namespace Go.Proofs.Ytopfjjdkffdjpaa.Q
open Go.RowKit Go.Proofs.YtopfjjdkffdjpaaW.PrintWords Go.Proofs.YtopfjjdkffdjpaaW.PrintLast Go.Proofs.YtopfjjdkffdjpaaW.PrintMore
attribute [local go_sem] max2_int min2_int max_two min_two max_three min_three max_four min_four
def computusref04_OnOrAfter.l0 : Nat → Int → Int → Option (Int × Int)
 | 0, _, _ => none
 | k + 1, x0, x1 => (computusref04_Of.f x0).bind fun t389 => (if t389 = x1 then (some (x0, 0)) else (computusref04_OnOrAfter.l0 k (wrap64 (x0 + 1)) x1))
def computusref04_OnOrAfter.f (k : Nat) (a0 : Int) (a1 : Int) : Option (Int × Int) := (computusref04_fails.f k a0 a1).bind fun t388 => (if t388 = 0 then (computusref04_OnOrAfter.l0 k a0 a1) else (some (0, t388)))
theorem computusref04_OnOrAfter.mono_l : ∀ k, (∀ y0 y1, LeO (computusref04_OnOrAfter.l0 k y0 y1) (computusref04_OnOrAfter.l0 (k + 1) y0 y1))
 | 0 => fun _ _ r h => by simp [computusref04_OnOrAfter.l0] at h
 | k + 1 => by
  have ih0 := computusref04_OnOrAfter.mono_l k
  ·intro y0 y1
   unfold computusref04_OnOrAfter.l0
   repeat' first | (with_reducible first | exact ih0 _ _ | exact computusref04_fails.mono _ _ _ | exact LeO.refl _ | exact LeO.none _ | refine LeO.ite ?_ ?_ | refine LeO.bind ?_ (fun _ => ?_)) | exact ih0 _ _ | exact computusref04_fails.mono _ _ _ | exact LeO.none _ | refine LeO.ite ?_ ?_ | refine LeO.bind ?_ (fun _ => ?_)
theorem computusref04_OnOrAfter.mono : ∀ a0 a1 k, LeO (computusref04_OnOrAfter.f k a0 a1) (computusref04_OnOrAfter.f (k + 1) a0 a1) := by
 intro a0 a1 k
 have ih0 := computusref04_OnOrAfter.mono_l k
 unfold computusref04_OnOrAfter.f
 repeat' first | (with_reducible first | exact ih0 _ _ | exact computusref04_fails.mono _ _ _ | exact LeO.refl _ | exact LeO.none _ | refine LeO.ite ?_ ?_ | refine LeO.bind ?_ (fun _ => ?_)) | exact ih0 _ _ | exact computusref04_fails.mono _ _ _ | exact LeO.none _ | refine LeO.ite ?_ ?_ | refine LeO.bind ?_ (fun _ => ?_)
set_option maxHeartbeats 8000000 in
set_option maxRecDepth 100000 in
theorem computusref04_OnOrAfter.calls (k : Nat) (a0 : Int) (a1 : Int) (r1 : Int) (r2 : Int) (w : World) (h : computusref04_OnOrAfter.f k a0 a1 = some (r1, r2)) :
  Calls Try.prog 73 #[.int .i64 a0, .int .i64 a1] w fun e w' => e = .returned (.tuple #[.int .i64 r1, .int .i64 r2]) ∧ Drawn0 w w' := by
 have H : ((computusref04_fails.f k a0 a1).bind fun t388 => (if t388 = 0 then (computusref04_OnOrAfter.l0 k a0 a1) else (some (0, t388)))) = some (r1, r2) := h
 clear h
 obtain ⟨t388, A3, H⟩ := bs_ H
 by_cases c4 : t388 = 0
 ·rw [if_pos c4] at H
  have c4b0 : (t388 == 0) = true := beq_iff_eq.mpr c4
  have c4b1 : (t388 != 0) = false := bne_eq_false_iff_eq.mpr c4
  clear c4
  have H' := Aside0.mk H
  clear H
  go_enter Try.func73, Try.ntmps73
  go_wp2_with (first | ((with_reducible refine gate_callee (f := 80) rfl ?_); refine gl_ (some 9) Try.func80 #[.int .i64 a0, .int .i64 a1] ?_; (with_reducible refine (computusref04_fails.calls k a0 a1 t388 _ A3.out).mono ?_); rintro e w' ⟨rfl, ⟨nd, rfl⟩⟩; refine ⟨_, rfl, ?_⟩))
  go_loopg [0] k (fun kq v0 w' => ∃ (x0_1 : Int), v0 = .int .i64 x0_1 ∧ Aside0 (computusref04_OnOrAfter.l0 kq x0_1 a1 = some (r1, r2)) ∧ Aside0 (kq ≤ k) ∧ Drawn0 w w')
  case atStart => exact ⟨(a0), rs_, H', ⟨Nat.le_refl _⟩, by repeat (first | exact Drawn0.refl _ | apply Drawn0.step)⟩
  case round =>
   clear H'
   try clear p2
   try clear c4
   try clear c4b0
   try clear c4b1
   obtain ⟨x0_1, rfl, HA, HK1, ⟨m1, rfl⟩⟩ := hrel
   cases gk with
   | zero => exact absurd HA.out (by simp [computusref04_OnOrAfter.l0])
   | succ k1 =>
    have H := HA.out
    clear HA
    simp only [computusref04_OnOrAfter.l0] at H
    obtain ⟨t389, A5, H⟩ := bs_ H
    by_cases c6 : t389 = a1
    ·rw [if_pos c6] at H
     have c6b0 : (t389 == a1) = true := beq_iff_eq.mpr c6
     have c6b1 : (t389 != a1) = false := bne_eq_false_iff_eq.mpr c6
     clear c6
     simp only [Option.some.injEq, Prod.mk.injEq] at H
     obtain ⟨rfl, rfl⟩ := H
     go_wp2_with (first | ((with_reducible refine gate_callee (f := 47) rfl ?_); refine gl_ (some 14) Try.func47 #[.int .i64 x0_1] ?_; (with_reducible refine (computusref04_Of.calls x0_1 t389 _ A5.out).mono ?_); rintro e w' ⟨rfl, ⟨nd, rfl⟩⟩; refine ⟨_, rfl, ?_⟩))
     go_ret2
     exact ⟨by first | rfl | (simp; done) | (simp [*]; done), by repeat (first | exact Drawn0.refl _ | apply Drawn0.step)⟩
    ·rw [if_neg c6] at H
     have c6b0 : (t389 == a1) = false := beq_eq_false_iff_ne.mpr c6
     have c6b1 : (t389 != a1) = true := bne_iff_ne.mpr c6
     have H' := Aside0.mk H
     clear H
     go_wp2_with (first | ((with_reducible refine gate_callee (f := 47) rfl ?_); refine gl_ (some 14) Try.func47 #[.int .i64 x0_1] ?_; (with_reducible refine (computusref04_Of.calls x0_1 t389 _ A5.out).mono ?_); rintro e w' ⟨rfl, ⟨nd, rfl⟩⟩; refine ⟨_, rfl, ?_⟩))
     go_roundg k1
     case measure => have := HK1.out; omega
     case rel => exact ⟨(wrap64 (x0_1 + 1)), rs_, H', ⟨by have := HK1.out; omega⟩, by repeat (first | exact Drawn0.refl _ | apply Drawn0.step)⟩
 ·rw [if_neg c4] at H
  have c4b0 : (t388 == 0) = false := beq_eq_false_iff_ne.mpr c4
  have c4b1 : (t388 != 0) = true := bne_iff_ne.mpr c4
  simp only [Option.some.injEq, Prod.mk.injEq] at H
  obtain ⟨rfl, rfl⟩ := H
  go_enter Try.func73, Try.ntmps73
  go_wp2_with (first | ((with_reducible refine gate_callee (f := 80) rfl ?_); refine gl_ (some 9) Try.func80 #[.int .i64 a0, .int .i64 a1] ?_; (with_reducible refine (computusref04_fails.calls k a0 a1 t388 _ A3.out).mono ?_); rintro e w' ⟨rfl, ⟨nd, rfl⟩⟩; refine ⟨_, rfl, ?_⟩))
  go_ret2
  exact ⟨by first | rfl | (simp; done) | (simp [*]; done), by repeat (first | exact Drawn0.refl _ | apply Drawn0.step)⟩
end Go.Proofs.Ytopfjjdkffdjpaa.Q
end
section
namespace Go.Proofs.Ytopfjjdkffdjpaa.Q
open Go.RowKit Go.Proofs.YtopfjjdkffdjpaaW.PrintWords Go.Proofs.YtopfjjdkffdjpaaW.PrintLast Go.Proofs.YtopfjjdkffdjpaaW.PrintMore
attribute [local go_sem] max2_int min2_int max_two min_two max_three min_three max_four min_four
def computusref04_OnOrBefore.l0 : Nat → Int → Int → Option (Int × Int)
 | 0, _, _ => none
 | k + 1, x0, x1 => (computusref04_Of.f x0).bind fun t391 => (if t391 = x1 then (some (x0, 0)) else (computusref04_OnOrBefore.l0 k (wrap64 (x0 - 1)) x1))
def computusref04_OnOrBefore.f (k : Nat) (a0 : Int) (a1 : Int) : Option (Int × Int) := (computusref04_fails.f k a0 a1).bind fun t390 => (if t390 = 0 then (computusref04_OnOrBefore.l0 k a0 a1) else (some (0, t390)))
theorem computusref04_OnOrBefore.mono_l : ∀ k, (∀ y0 y1, LeO (computusref04_OnOrBefore.l0 k y0 y1) (computusref04_OnOrBefore.l0 (k + 1) y0 y1))
 | 0 => fun _ _ r h => by simp [computusref04_OnOrBefore.l0] at h
 | k + 1 => by
  have ih0 := computusref04_OnOrBefore.mono_l k
  ·intro y0 y1
   unfold computusref04_OnOrBefore.l0
   repeat' first | (with_reducible first | exact ih0 _ _ | exact computusref04_fails.mono _ _ _ | exact LeO.refl _ | exact LeO.none _ | refine LeO.ite ?_ ?_ | refine LeO.bind ?_ (fun _ => ?_)) | exact ih0 _ _ | exact computusref04_fails.mono _ _ _ | exact LeO.none _ | refine LeO.ite ?_ ?_ | refine LeO.bind ?_ (fun _ => ?_)
theorem computusref04_OnOrBefore.mono : ∀ a0 a1 k, LeO (computusref04_OnOrBefore.f k a0 a1) (computusref04_OnOrBefore.f (k + 1) a0 a1) := by
 intro a0 a1 k
 have ih0 := computusref04_OnOrBefore.mono_l k
 unfold computusref04_OnOrBefore.f
 repeat' first | (with_reducible first | exact ih0 _ _ | exact computusref04_fails.mono _ _ _ | exact LeO.refl _ | exact LeO.none _ | refine LeO.ite ?_ ?_ | refine LeO.bind ?_ (fun _ => ?_)) | exact ih0 _ _ | exact computusref04_fails.mono _ _ _ | exact LeO.none _ | refine LeO.ite ?_ ?_ | refine LeO.bind ?_ (fun _ => ?_)
set_option maxHeartbeats 8000000 in
set_option maxRecDepth 100000 in
theorem computusref04_OnOrBefore.calls (k : Nat) (a0 : Int) (a1 : Int) (r1 : Int) (r2 : Int) (w : World) (h : computusref04_OnOrBefore.f k a0 a1 = some (r1, r2)) :
  Calls Try.prog 74 #[.int .i64 a0, .int .i64 a1] w fun e w' => e = .returned (.tuple #[.int .i64 r1, .int .i64 r2]) ∧ Drawn0 w w' := by
 have H : ((computusref04_fails.f k a0 a1).bind fun t390 => (if t390 = 0 then (computusref04_OnOrBefore.l0 k a0 a1) else (some (0, t390)))) = some (r1, r2) := h
 clear h
 obtain ⟨t390, A3, H⟩ := bs_ H
 by_cases c4 : t390 = 0
 ·rw [if_pos c4] at H
  have c4b0 : (t390 == 0) = true := beq_iff_eq.mpr c4
  have c4b1 : (t390 != 0) = false := bne_eq_false_iff_eq.mpr c4
  clear c4
  have H' := Aside0.mk H
  clear H
  go_enter Try.func74, Try.ntmps74
  go_wp2_with (first | ((with_reducible refine gate_callee (f := 80) rfl ?_); refine gl_ (some 9) Try.func80 #[.int .i64 a0, .int .i64 a1] ?_; (with_reducible refine (computusref04_fails.calls k a0 a1 t390 _ A3.out).mono ?_); rintro e w' ⟨rfl, ⟨nd, rfl⟩⟩; refine ⟨_, rfl, ?_⟩))
  go_loopg [0] k (fun kq v0 w' => ∃ (x0_1 : Int), v0 = .int .i64 x0_1 ∧ Aside0 (computusref04_OnOrBefore.l0 kq x0_1 a1 = some (r1, r2)) ∧ Aside0 (kq ≤ k) ∧ Drawn0 w w')
  case atStart => exact ⟨(a0), rs_, H', ⟨Nat.le_refl _⟩, by repeat (first | exact Drawn0.refl _ | apply Drawn0.step)⟩
  case round =>
   clear H'
   try clear p2
   try clear c4
   try clear c4b0
   try clear c4b1
   obtain ⟨x0_1, rfl, HA, HK1, ⟨m1, rfl⟩⟩ := hrel
   cases gk with
   | zero => exact absurd HA.out (by simp [computusref04_OnOrBefore.l0])
   | succ k1 =>
    have H := HA.out
    clear HA
    simp only [computusref04_OnOrBefore.l0] at H
    obtain ⟨t391, A5, H⟩ := bs_ H
    by_cases c6 : t391 = a1
    ·rw [if_pos c6] at H
     have c6b0 : (t391 == a1) = true := beq_iff_eq.mpr c6
     have c6b1 : (t391 != a1) = false := bne_eq_false_iff_eq.mpr c6
     clear c6
     simp only [Option.some.injEq, Prod.mk.injEq] at H
     obtain ⟨rfl, rfl⟩ := H
     go_wp2_with (first | ((with_reducible refine gate_callee (f := 47) rfl ?_); refine gl_ (some 14) Try.func47 #[.int .i64 x0_1] ?_; (with_reducible refine (computusref04_Of.calls x0_1 t391 _ A5.out).mono ?_); rintro e w' ⟨rfl, ⟨nd, rfl⟩⟩; refine ⟨_, rfl, ?_⟩))
     go_ret2
     exact ⟨by first | rfl | (simp; done) | (simp [*]; done), by repeat (first | exact Drawn0.refl _ | apply Drawn0.step)⟩
    ·rw [if_neg c6] at H
     have c6b0 : (t391 == a1) = false := beq_eq_false_iff_ne.mpr c6
     have c6b1 : (t391 != a1) = true := bne_iff_ne.mpr c6
     have H' := Aside0.mk H
     clear H
     go_wp2_with (first | ((with_reducible refine gate_callee (f := 47) rfl ?_); refine gl_ (some 14) Try.func47 #[.int .i64 x0_1] ?_; (with_reducible refine (computusref04_Of.calls x0_1 t391 _ A5.out).mono ?_); rintro e w' ⟨rfl, ⟨nd, rfl⟩⟩; refine ⟨_, rfl, ?_⟩))
     go_roundg k1
     case measure => have := HK1.out; omega
     case rel => exact ⟨(wrap64 (x0_1 - 1)), rs_, H', ⟨by have := HK1.out; omega⟩, by repeat (first | exact Drawn0.refl _ | apply Drawn0.step)⟩
 ·rw [if_neg c4] at H
  have c4b0 : (t390 == 0) = false := beq_eq_false_iff_ne.mpr c4
  have c4b1 : (t390 != 0) = true := bne_iff_ne.mpr c4
  simp only [Option.some.injEq, Prod.mk.injEq] at H
  obtain ⟨rfl, rfl⟩ := H
  go_enter Try.func74, Try.ntmps74
  go_wp2_with (first | ((with_reducible refine gate_callee (f := 80) rfl ?_); refine gl_ (some 9) Try.func80 #[.int .i64 a0, .int .i64 a1] ?_; (with_reducible refine (computusref04_fails.calls k a0 a1 t390 _ A3.out).mono ?_); rintro e w' ⟨rfl, ⟨nd, rfl⟩⟩; refine ⟨_, rfl, ?_⟩))
  go_ret2
  exact ⟨by first | rfl | (simp; done) | (simp [*]; done), by repeat (first | exact Drawn0.refl _ | apply Drawn0.step)⟩
end Go.Proofs.Ytopfjjdkffdjpaa.Q
end
section
namespace Go.Proofs.Ytopfjjdkffdjpaa.Q
open Go.RowKit Go.Proofs.YtopfjjdkffdjpaaW.PrintWords Go.Proofs.YtopfjjdkffdjpaaW.PrintLast Go.Proofs.YtopfjjdkffdjpaaW.PrintMore
attribute [local go_sem] max2_int min2_int max_two min_two max_three min_three max_four min_four
mutual
def computusref04_Nth.j0 : Nat → Int → Int → Int → Bool → Option (Int × Int)
 | 0, _, _, _, _ => none
 | k + 1, x0, x1, x2, x31 => if x31 = true then (some (0, 3)) else (if x2 > 0 then ((computusref04_OnOrAfter.f k x0 x1).bind fun bt392 => (computusref04_Nth.l0 k x2 bt392.1 bt392.2 1)) else ((computusref04_OnOrBefore.f k x0 x1).bind fun bt394 => (computusref04_Nth.l1 k x2 bt394.1 bt394.2 (-1))))
def computusref04_Nth.l0 : Nat → Int → Int → Int → Int → Option (Int × Int)
 | 0, _, _, _, _ => none
 | k + 1, x2, x8, x9, x10 => if x10 < x2 then (if x9 = 0 then (computusref04_Nth.l0 k x2 (wrap64 (x8 + 7)) x9 (wrap64 (x10 + 1))) else (some (x8, x9))) else (some (x8, x9))
def computusref04_Nth.l1 : Nat → Int → Int → Int → Int → Option (Int × Int)
 | 0, _, _, _, _ => none
 | k + 1, x2, x11, x12, x13 => if x13 > x2 then (if x12 = 0 then (computusref04_Nth.l1 k x2 (wrap64 (x11 - 7)) x12 (wrap64 (x13 - 1))) else (some (x11, x12))) else (some (x11, x12))
end
def computusref04_Nth.f (k : Nat) (a0 : Int) (a1 : Int) (a2 : Int) : Option (Int × Int) := if a1 < 0 then (computusref04_Nth.j0 k a0 a1 a2 true) else (if a1 > 6 then (computusref04_Nth.j0 k a0 a1 a2 true) else (if a2 = 0 then (computusref04_Nth.j0 k a0 a1 a2 true) else (if a2 < (-1000) then (computusref04_Nth.j0 k a0 a1 a2 true) else (computusref04_Nth.j0 k a0 a1 a2 (decide (a2 > 1000))))))
theorem computusref04_Nth.mono_l : ∀ k, (∀ y0 y1 y2 y3, LeO (computusref04_Nth.j0 k y0 y1 y2 y3) (computusref04_Nth.j0 (k + 1) y0 y1 y2 y3)) ∧ (∀ y0 y1 y2 y3, LeO (computusref04_Nth.l0 k y0 y1 y2 y3) (computusref04_Nth.l0 (k + 1) y0 y1 y2 y3)) ∧ (∀ y0 y1 y2 y3, LeO (computusref04_Nth.l1 k y0 y1 y2 y3) (computusref04_Nth.l1 (k + 1) y0 y1 y2 y3))
 | 0 => ⟨fun _ _ _ _ r h => by simp [computusref04_Nth.j0] at h, fun _ _ _ _ r h => by simp [computusref04_Nth.l0] at h, fun _ _ _ _ r h => by simp [computusref04_Nth.l1] at h⟩
 | k + 1 => by
  obtain ⟨ih0, ih1, ih2⟩ := computusref04_Nth.mono_l k
  refine ⟨?_, ?_, ?_⟩
  ·intro y0 y1 y2 y3
   unfold computusref04_Nth.j0
   repeat' first | (with_reducible first | exact ih0 _ _ _ _ | exact ih1 _ _ _ _ | exact ih2 _ _ _ _ | exact computusref04_OnOrAfter.mono _ _ _ | exact computusref04_OnOrBefore.mono _ _ _ | exact LeO.refl _ | exact LeO.none _ | refine LeO.ite ?_ ?_ | refine LeO.bind ?_ (fun _ => ?_)) | exact ih0 _ _ _ _ | exact ih1 _ _ _ _ | exact ih2 _ _ _ _ | exact computusref04_OnOrAfter.mono _ _ _ | exact computusref04_OnOrBefore.mono _ _ _ | exact LeO.none _ | refine LeO.ite ?_ ?_ | refine LeO.bind ?_ (fun _ => ?_)
  ·intro y0 y1 y2 y3
   unfold computusref04_Nth.l0
   repeat' first | (with_reducible first | exact ih0 _ _ _ _ | exact ih1 _ _ _ _ | exact ih2 _ _ _ _ | exact computusref04_OnOrAfter.mono _ _ _ | exact computusref04_OnOrBefore.mono _ _ _ | exact LeO.refl _ | exact LeO.none _ | refine LeO.ite ?_ ?_ | refine LeO.bind ?_ (fun _ => ?_)) | exact ih0 _ _ _ _ | exact ih1 _ _ _ _ | exact ih2 _ _ _ _ | exact computusref04_OnOrAfter.mono _ _ _ | exact computusref04_OnOrBefore.mono _ _ _ | exact LeO.none _ | refine LeO.ite ?_ ?_ | refine LeO.bind ?_ (fun _ => ?_)
  ·intro y0 y1 y2 y3
   unfold computusref04_Nth.l1
   repeat' first | (with_reducible first | exact ih0 _ _ _ _ | exact ih1 _ _ _ _ | exact ih2 _ _ _ _ | exact computusref04_OnOrAfter.mono _ _ _ | exact computusref04_OnOrBefore.mono _ _ _ | exact LeO.refl _ | exact LeO.none _ | refine LeO.ite ?_ ?_ | refine LeO.bind ?_ (fun _ => ?_)) | exact ih0 _ _ _ _ | exact ih1 _ _ _ _ | exact ih2 _ _ _ _ | exact computusref04_OnOrAfter.mono _ _ _ | exact computusref04_OnOrBefore.mono _ _ _ | exact LeO.none _ | refine LeO.ite ?_ ?_ | refine LeO.bind ?_ (fun _ => ?_)
theorem computusref04_Nth.mono : ∀ a0 a1 a2 k, LeO (computusref04_Nth.f k a0 a1 a2) (computusref04_Nth.f (k + 1) a0 a1 a2) := by
 intro a0 a1 a2 k
 obtain ⟨ih0, ih1, ih2⟩ := computusref04_Nth.mono_l k
 unfold computusref04_Nth.f
 repeat' first | (with_reducible first | exact ih0 _ _ _ _ | exact ih1 _ _ _ _ | exact ih2 _ _ _ _ | exact computusref04_OnOrAfter.mono _ _ _ | exact computusref04_OnOrBefore.mono _ _ _ | exact LeO.refl _ | exact LeO.none _ | refine LeO.ite ?_ ?_ | refine LeO.bind ?_ (fun _ => ?_)) | exact ih0 _ _ _ _ | exact ih1 _ _ _ _ | exact ih2 _ _ _ _ | exact computusref04_OnOrAfter.mono _ _ _ | exact computusref04_OnOrBefore.mono _ _ _ | exact LeO.none _ | refine LeO.ite ?_ ?_ | refine LeO.bind ?_ (fun _ => ?_)
set_option maxHeartbeats 8000000 in
set_option maxRecDepth 100000 in
theorem computusref04_Nth.calls (k : Nat) (a0 : Int) (a1 : Int) (a2 : Int) (r1 : Int) (r2 : Int) (w : World) (h : computusref04_Nth.f k a0 a1 a2 = some (r1, r2)) :
  Calls Try.prog 61 #[.int .i64 a0, .int .i64 a1, .int .i64 a2] w fun e w' => e = .returned (.tuple #[.int .i64 r1, .int .i64 r2]) ∧ Drawn0 w w' := by
 have H : (if a1 < 0 then (computusref04_Nth.j0 k a0 a1 a2 true) else (if a1 > 6 then (computusref04_Nth.j0 k a0 a1 a2 true) else (if a2 = 0 then (computusref04_Nth.j0 k a0 a1 a2 true) else (if a2 < (-1000) then (computusref04_Nth.j0 k a0 a1 a2 true) else (computusref04_Nth.j0 k a0 a1 a2 (decide (a2 > 1000))))))) = some (r1, r2) := h
 clear h
 have HC4 := Aside0.mk H
 clear H
 go_enter Try.func61, Try.ntmps61
 go_upto_region 1 with (fail)
 go_cut [31] (fun v31 wc => ∃ (kq : Nat) (x31_3 : Bool), v31 = .bool x31_3 ∧ Aside0 (computusref04_Nth.j0 kq a0 a1 a2 x31_3 = some (r1, r2)) ∧ Aside0 (kq ≤ k) ∧ Drawn0 w wc)
 case first =>
  have H := HC4.out
  clear HC4
  by_cases c5 : a1 < 0
  ·rw [if_pos c5] at H
   have c5b0 : decide (a1 < 0) = true := decide_eq_true c5
   clear c5
   (first | rw [c5b0] | (simp only [i64_w, i32_w]; rw [c5b0]) | skip)
   have H' := Aside0.mk H
   clear H
   go_wp2
   go_meet
   case rel => exact ⟨_, (true), rs_, H', ⟨by first | omega | exact Nat.le_refl _⟩, by repeat (first | exact Drawn0.refl _ | apply Drawn0.step)⟩
  ·rw [if_neg c5] at H
   have c5b0 : decide (a1 < 0) = false := decide_eq_false c5
   clear c5
   (first | rw [c5b0] | (simp only [i64_w, i32_w]; rw [c5b0]) | skip)
   by_cases c6 : a1 > 6
   ·rw [if_pos c6] at H
    have c6b0 : decide (6 < a1) = true := decide_eq_true c6
    clear c6
    have H' := Aside0.mk H
    clear H
    go_wp2
    go_meet
    case rel => exact ⟨_, (true), rs_, H', ⟨by first | omega | exact Nat.le_refl _⟩, by repeat (first | exact Drawn0.refl _ | apply Drawn0.step)⟩
   ·rw [if_neg c6] at H
    have c6b0 : decide (6 < a1) = false := decide_eq_false c6
    clear c6
    by_cases c7 : a2 = 0
    ·rw [if_pos c7] at H
     have c7b0 : (a2 == 0) = true := beq_iff_eq.mpr c7
     have c7b1 : (a2 != 0) = false := bne_eq_false_iff_eq.mpr c7
     clear c7
     have H' := Aside0.mk H
     clear H
     go_wp2
     go_meet
     case rel => exact ⟨_, (true), rs_, H', ⟨by first | omega | exact Nat.le_refl _⟩, by repeat (first | exact Drawn0.refl _ | apply Drawn0.step)⟩
    ·rw [if_neg c7] at H
     have c7b0 : (a2 == 0) = false := beq_eq_false_iff_ne.mpr c7
     have c7b1 : (a2 != 0) = true := bne_iff_ne.mpr c7
     by_cases c8 : a2 < (-1000)
     ·rw [if_pos c8] at H
      have c8b0 : decide (a2 < (-1000)) = true := decide_eq_true c8
      clear c8
      have H' := Aside0.mk H
      clear H
      go_wp2
      go_meet
      case rel => exact ⟨_, (true), rs_, H', ⟨by first | omega | exact Nat.le_refl _⟩, by repeat (first | exact Drawn0.refl _ | apply Drawn0.step)⟩
     ·rw [if_neg c8] at H
      have c8b0 : decide (a2 < (-1000)) = false := decide_eq_false c8
      clear c8
      have H' := Aside0.mk H
      clear H
      go_wp2
      go_meet
      case rel => exact ⟨_, (decide (a2 > 1000)), rs_, H', ⟨by first | omega | exact Nat.le_refl _⟩, by repeat (first | exact Drawn0.refl _ | apply Drawn0.step)⟩
 case rest =>
  clear HC4
  try clear p2
  try clear c5
  try clear c5b0
  try clear c6
  try clear c6b0
  try clear c7
  try clear c7b0
  try clear c7b1
  try clear c8
  try clear c8b0
  obtain ⟨kq, x31_3, rfl, HA, HJ3, ⟨mc3, rfl⟩⟩ := hcut
  cases kq with
  | zero => exact absurd HA.out (by simp [computusref04_Nth.j0])
  | succ kj3 =>
   have H := HA.out
   clear HA
   simp only [computusref04_Nth.j0] at H
   by_cases c9 : x31_3 = true
   ·subst c9
    replace H := it_ H
    simp only [Option.some.injEq, Prod.mk.injEq] at H
    obtain ⟨rfl, rfl⟩ := H
    go_wp2
    go_ret2
    exact ⟨by first | rfl | (simp; done) | (simp [*]; done), by repeat (first | exact Drawn0.refl _ | apply Drawn0.step)⟩
   ·replace c9 := Bool.eq_false_iff.mpr c9
    subst c9
    replace H := if_ H
    by_cases c10 : a2 > 0
    ·rw [if_pos c10] at H
     have c10b0 : decide (0 < a2) = true := decide_eq_true c10
     clear c10
     obtain ⟨⟨t392, t393⟩, A11, H⟩ := bs_ H
     dsimp only at H
     have H' := Aside0.mk H
     clear H
     go_wp2_with (first | ((with_reducible refine gate_callee (f := 73) rfl ?_); refine gl_ (some 37) Try.func73 #[.int .i64 a0, .int .i64 a1] ?_; (with_reducible refine (computusref04_OnOrAfter.calls kj3 a0 a1 t392 t393 _ A11.out).mono ?_); rintro e w' ⟨rfl, ⟨nd, rfl⟩⟩; refine ⟨_, rfl, ?_⟩))
     go_loopg [8, 10] kj3 (fun kq v8 v10 w' => ∃ (x8_2 : Int) (x10_2 : Int), v8 = .int .i64 x8_2 ∧ v10 = .int .i64 x10_2 ∧ Aside0 (computusref04_Nth.l0 kq a2 x8_2 t393 x10_2 = some (r1, r2)) ∧ Aside0 (kq ≤ kj3) ∧ Drawn0 w w')
     case atStart => exact ⟨(t392), (1), rs_, rs_, H', ⟨Nat.le_refl _⟩, by repeat (first | exact Drawn0.refl _ | apply Drawn0.step)⟩
     case round =>
      clear H'
      try clear c1
      try clear p2
      try clear c3
      try clear c5
      try clear c5b0
      try clear c6
      try clear c6b0
      try clear c7
      try clear c7b0
      try clear c7b1
      try clear c8
      try clear c8b0
      try clear c9
      try clear c10
      try clear c10b0
      try clear p2
      obtain ⟨x8_2, x10_2, rfl, rfl, HA, HK2, ⟨m2, rfl⟩⟩ := hrel
      cases gk with
      | zero => exact absurd HA.out (by simp [computusref04_Nth.l0])
      | succ k2 =>
       have H := HA.out
       clear HA
       simp only [computusref04_Nth.l0] at H
       by_cases c12 : x10_2 < a2
       ·rw [if_pos c12] at H
        have c12b0 : decide (x10_2 < a2) = true := decide_eq_true c12
        clear c12
        by_cases c13 : t393 = 0
        ·rw [if_pos c13] at H
         have c13b0 : (t393 == 0) = true := beq_iff_eq.mpr c13
         have c13b1 : (t393 != 0) = false := bne_eq_false_iff_eq.mpr c13
         clear c13
         have H' := Aside0.mk H
         clear H
         go_wp2
         go_roundg k2
         case measure => have := HJ3.out; have := HK2.out; omega
         case rel => exact ⟨(wrap64 (x8_2 + 7)), (wrap64 (x10_2 + 1)), rs_, rs_, H', ⟨by have := HJ3.out; have := HK2.out; omega⟩, by repeat (first | exact Drawn0.refl _ | apply Drawn0.step)⟩
        ·rw [if_neg c13] at H
         have c13b0 : (t393 == 0) = false := beq_eq_false_iff_ne.mpr c13
         have c13b1 : (t393 != 0) = true := bne_iff_ne.mpr c13
         simp only [Option.some.injEq, Prod.mk.injEq] at H
         obtain ⟨rfl, rfl⟩ := H
         go_wp2
         go_ret2
         exact ⟨by first | rfl | (simp; done) | (simp [*]; done), by repeat (first | exact Drawn0.refl _ | apply Drawn0.step)⟩
       ·rw [if_neg c12] at H
        have c12b0 : decide (x10_2 < a2) = false := decide_eq_false c12
        clear c12
        simp only [Option.some.injEq, Prod.mk.injEq] at H
        obtain ⟨rfl, rfl⟩ := H
        go_wp2
        go_ret2
        exact ⟨by first | rfl | (simp; done) | (simp [*]; done), by repeat (first | exact Drawn0.refl _ | apply Drawn0.step)⟩
    ·rw [if_neg c10] at H
     have c10b0 : decide (0 < a2) = false := decide_eq_false c10
     clear c10
     obtain ⟨⟨t394, t395⟩, A14, H⟩ := bs_ H
     dsimp only at H
     have H' := Aside0.mk H
     clear H
     go_wp2_with (first | ((with_reducible refine gate_callee (f := 74) rfl ?_); refine gl_ (some 56) Try.func74 #[.int .i64 a0, .int .i64 a1] ?_; (with_reducible refine (computusref04_OnOrBefore.calls kj3 a0 a1 t394 t395 _ A14.out).mono ?_); rintro e w' ⟨rfl, ⟨nd, rfl⟩⟩; refine ⟨_, rfl, ?_⟩))
     go_loopg [11, 13] kj3 (fun kq v11 v13 w' => ∃ (x11_2 : Int) (x13_2 : Int), v11 = .int .i64 x11_2 ∧ v13 = .int .i64 x13_2 ∧ Aside0 (computusref04_Nth.l1 kq a2 x11_2 t395 x13_2 = some (r1, r2)) ∧ Aside0 (kq ≤ kj3) ∧ Drawn0 w w')
     case atStart => exact ⟨(t394), ((-1)), rs_, rs_, H', ⟨Nat.le_refl _⟩, by repeat (first | exact Drawn0.refl _ | apply Drawn0.step)⟩
     case round =>
      clear H'
      try clear c1
      try clear p2
      try clear c3
      try clear c5
      try clear c5b0
      try clear c6
      try clear c6b0
      try clear p6
      try clear c7
      try clear c7b0
      try clear c7b1
      try clear c8
      try clear c8b0
      try clear c9
      try clear c10
      try clear c10b0
      try clear c12
      try clear c12b0
      try clear c13
      try clear c13b0
      try clear c13b1
      try clear p2
      obtain ⟨x11_2, x13_2, rfl, rfl, HA, HK2, ⟨m2, rfl⟩⟩ := hrel
      cases gk with
      | zero => exact absurd HA.out (by simp [computusref04_Nth.l1])
      | succ k2 =>
       have H := HA.out
       clear HA
       simp only [computusref04_Nth.l1] at H
       by_cases c15 : x13_2 > a2
       ·rw [if_pos c15] at H
        have c15b0 : decide (a2 < x13_2) = true := decide_eq_true c15
        clear c15
        by_cases c16 : t395 = 0
        ·rw [if_pos c16] at H
         have c16b0 : (t395 == 0) = true := beq_iff_eq.mpr c16
         have c16b1 : (t395 != 0) = false := bne_eq_false_iff_eq.mpr c16
         clear c16
         have H' := Aside0.mk H
         clear H
         go_wp2
         go_roundg k2
         case measure => have := HJ3.out; have := HK2.out; omega
         case rel => exact ⟨(wrap64 (x11_2 - 7)), (wrap64 (x13_2 - 1)), rs_, rs_, H', ⟨by have := HJ3.out; have := HK2.out; omega⟩, by repeat (first | exact Drawn0.refl _ | apply Drawn0.step)⟩
        ·rw [if_neg c16] at H
         have c16b0 : (t395 == 0) = false := beq_eq_false_iff_ne.mpr c16
         have c16b1 : (t395 != 0) = true := bne_iff_ne.mpr c16
         simp only [Option.some.injEq, Prod.mk.injEq] at H
         obtain ⟨rfl, rfl⟩ := H
         go_wp2
         go_ret2
         exact ⟨by first | rfl | (simp; done) | (simp [*]; done), by repeat (first | exact Drawn0.refl _ | apply Drawn0.step)⟩
       ·rw [if_neg c15] at H
        have c15b0 : decide (a2 < x13_2) = false := decide_eq_false c15
        clear c15
        simp only [Option.some.injEq, Prod.mk.injEq] at H
        obtain ⟨rfl, rfl⟩ := H
        go_wp2
        go_ret2
        exact ⟨by first | rfl | (simp; done) | (simp [*]; done), by repeat (first | exact Drawn0.refl _ | apply Drawn0.step)⟩
end Go.Proofs.Ytopfjjdkffdjpaa.Q
end
section
namespace Go.Proofs.Ytopfjjdkffdjpaa.Q
open Go.RowKit Go.Proofs.YtopfjjdkffdjpaaW.PrintWords Go.Proofs.YtopfjjdkffdjpaaW.PrintLast Go.Proofs.YtopfjjdkffdjpaaW.PrintMore
attribute [local go_sem] max2_int min2_int max_two min_two max_three min_three max_four min_four
def computusref16_Day.f (k : Nat) (a0_0 : Int) (a0_1 : Int) (a0_2 : Int) (a0_3 : Int) (a0_4 : Int) (a0_5 : Int) (a1 : Int) : Option (Int) := if a0_0 = 2 then ((computusref10_Day.f k 2 a1).bind fun t397 => (some (wrap64 (t397 + a0_3)))) else ((computusref03_ToDay.f k a1 a0_1 a0_2).bind fun bt398 => (if a0_0 = 3 then ((computusref04_Nth.f k bt398.1 a0_4 a0_5).bind fun bt400 => (some bt400.1)) else (some bt398.1)))
theorem computusref16_Day.mono : ∀ a0 a1 a2 a3 a4 a5 a6 k, LeO (computusref16_Day.f k a0 a1 a2 a3 a4 a5 a6) (computusref16_Day.f (k + 1) a0 a1 a2 a3 a4 a5 a6) := by
 intro a0 a1 a2 a3 a4 a5 a6 k
 unfold computusref16_Day.f
 repeat' first | (with_reducible first | exact computusref03_ToDay.mono _ _ _ _ | exact computusref04_Nth.mono _ _ _ _ | exact computusref10_Day.mono _ _ _ | exact LeO.refl _ | exact LeO.none _ | refine LeO.ite ?_ ?_ | refine LeO.bind ?_ (fun _ => ?_)) | exact computusref03_ToDay.mono _ _ _ _ | exact computusref04_Nth.mono _ _ _ _ | exact computusref10_Day.mono _ _ _ | exact LeO.none _ | refine LeO.ite ?_ ?_ | refine LeO.bind ?_ (fun _ => ?_)
set_option maxHeartbeats 8000000 in
set_option maxRecDepth 100000 in
theorem computusref16_Day.calls (k : Nat) (a0_0 : Int) (a0_1 : Int) (a0_2 : Int) (a0_3 : Int) (a0_4 : Int) (a0_5 : Int) (a1 : Int) (r : Int) (w : World) (h : computusref16_Day.f k a0_0 a0_1 a0_2 a0_3 a0_4 a0_5 a1 = some r) :
  Calls Try.prog 48 #[.agg #[.int .i64 a0_0, .int .i64 a0_1, .int .i64 a0_2, .int .i64 a0_3, .int .i64 a0_4, .int .i64 a0_5], .int .i64 a1] w fun e w' => e = .returned (.int .i64 r) ∧ Below w.heap.size w w' := by
 have hu64 := Try.underlying64
 have hu98 := Try.underlying98
 have HB := Aside0.mk (Below.refl w.heap.size w)
 have H : (if a0_0 = 2 then ((computusref10_Day.f k 2 a1).bind fun t397 => (some (wrap64 (t397 + a0_3)))) else ((computusref03_ToDay.f k a1 a0_1 a0_2).bind fun bt398 => (if a0_0 = 3 then ((computusref04_Nth.f k bt398.1 a0_4 a0_5).bind fun bt400 => (some bt400.1)) else (some bt398.1)))) = some r := h
 clear h
 by_cases c3 : a0_0 = 2
 ·rw [if_pos c3] at H
  have c3b0 : (a0_0 == 2) = true := beq_iff_eq.mpr c3
  have c3b1 : (a0_0 != 2) = false := bne_eq_false_iff_eq.mpr c3
  clear c3
  obtain ⟨t397, A4, H⟩ := bs_ H
  obtain rfl := Option.some.inj H
  go_enter Try.func48, Try.ntmps48
  try go_wp2_with (first | ((with_reducible refine gate_dst (N := 2) rfl ?_); refine bx_ (w := w) (N := 2) (cs := #[.int .i64 a0_0, .int .i64 a0_1, .int .i64 a0_2, .int .i64 a0_3, .int .i64 a0_4, .int .i64 a0_5]) (t := 64) ?_; intro gb396 w5 BK396 n0_ GW396 GE396; clear HB; have HB := n0_; clear n0_; obtain ⟨hcz6_0, hcz6_1, hcz6_2, hcz6_3, hcz6_4, hcz6_5⟩ := cz6_ BK396.out; obtain ⟨hfz6_0, hfz6_1, hfz6_2, hfz6_3, hfz6_4, hfz6_5⟩ := fz6_ BK396.out))
  have n0_ := Aside0.mk (blk_drew BK396.out)
  have n1_ := Aside0.mk (below_drew1 HB.out)
  clear BK396
  clear HB
  have BK396 := n0_
  have HB := n1_
  clear n0_ n1_
  refine start_ (n := 6) (S := fun w' => w'.cell? ⟨gb396, 0, none⟩ = some (.int .i64 a0_0) ∧ w'.cell? ⟨gb396, 1, none⟩ = some (.int .i64 a0_1) ∧ w'.cell? ⟨gb396, 2, none⟩ = some (.int .i64 a0_2) ∧ w'.cell? ⟨gb396, 3, none⟩ = some (.int .i64 a0_3) ∧ w'.cell? ⟨gb396, 4, none⟩ = some (.int .i64 a0_4) ∧ w'.cell? ⟨gb396, 5, none⟩ = some (.int .i64 a0_5)) (ds := []) #[false, false, false, false, false, false] (by kernel_rfl) rfl rfl ⟨(blk_cell BK396.out 0).trans rfl, (blk_cell BK396.out 1).trans rfl, (blk_cell BK396.out 2).trans rfl, (blk_cell BK396.out 3).trans rfl, (blk_cell BK396.out 4).trans rfl, (blk_cell BK396.out 5).trans rfl⟩ (fun hHeld => ?_)
  generalize w5.drew = w7 at BK396 HB hHeld ⊢
  refine pure_ (i := 0) (N := some 12) (v := ?_) (a' := ?_) #[true, false, false, false, false, false] rfl rfl (by kernel_rfl) (fun _ _ _ h => h) (Or.inl ⟨by rfl, ?_⟩) ?_ ?_
  rotate_left
  ·intro w'
   go_simp
   with_reducible rfl
  rotate_left
  ·simp only [Act.put, List.setIfInBounds_toArray, List.set_cons_zero, List.set_cons_succ, i64_w, i32_w]
   rfl
  refine pure_ (i := 2) (N := some 14) (v := ?_) (a' := ?_) #[true, false, true, false, false, false] rfl rfl (by kernel_rfl) (fun _ _ _ h => h) (Or.inl ⟨by rfl, ?_⟩) ?_ ?_
  rotate_left
  ·intro w'
   go_simp
   with_reducible rfl
  rotate_left
  ·simp only [Act.put, List.setIfInBounds_toArray, List.set_cons_zero, List.set_cons_succ, i64_w, i32_w]
   rfl
  refine take_ (i := 3) (N := some 15) (v := ?_) (a' := ?_) #[true, false, true, true, false, false] rfl rfl (by kernel_rfl) (fun _ _ _ h => h) (Or.inl ⟨by rfl, ?_⟩) hHeld ?_ ?_
  rotate_left
  ·rintro w' ⟨s0, s1, s2, s3, s4, s5⟩
   go_simp
   with_reducible rfl
  rotate_left
  ·simp only [Act.put, List.setIfInBounds_toArray, List.set_cons_zero, List.set_cons_succ, i64_w, i32_w]
   rfl
  refine one_ (i := 1) (N := some 13) #[true, true, true, true, false, false] rfl rfl (by kernel_rfl) (by decide) (fun K hK => ?_)
  refine goes_ Try.func59 (by kernel_rfl) rfl #[.int .i64 2, .int .i64 a1] (by rfl) rfl rfl (by (try simp only [List.map_toArray, List.map_cons, List.map_nil]); first | done | rfl | (simp only [List.length_drop, List.length_take]; rfl)) ?_
  with_reducible refine (computusref10_Day.calls k 2 a1 t397 _ A4.out).mono ?_
  rintro e w8 ⟨rfl, hb⟩
  refine ⟨_, rfl, ?_⟩
  have n0_ := Aside0.mk (blk_below (g := gb396) (o := .cells #[.int .i64 a0_0, .int .i64 a0_1, .int .i64 a0_2, .int .i64 a0_3, .int .i64 a0_4, .int .i64 a0_5] 64 (0, 0)) (bk_ BK396.out) hb)
  have n1_ := bt_ hb
  clear BK396
  clear HB
  have BK396 := n0_
  have HB := n1_
  clear n0_ n1_
  (try clear hb)
  (try clear hb2)
  (try clear hk)
  (try clear hi)
  refine hK.out _ _ (by first | exact ⟨(blk_cell BK396.out 0).trans rfl, (blk_cell BK396.out 1).trans rfl, (blk_cell BK396.out 2).trans rfl, (blk_cell BK396.out 3).trans rfl, (blk_cell BK396.out 4).trans rfl, (blk_cell BK396.out 5).trans rfl⟩ | exact hHeld) (fun hHeld => ?_)
  clear hK K
  refine norm_ (a' := ?_) ?_ ?_
  rotate_left
  ·show Act.put _ (some 13) _ = _
   simp only [Act.put, List.setIfInBounds_toArray, List.set_cons_zero, List.set_cons_succ, i64_w, i32_w]
   rfl
  refine pure_ (i := 4) (N := some 16) (v := ?_) (a' := ?_) #[true, true, true, true, true, false] rfl rfl (by kernel_rfl) (fun _ _ _ h => h) (Or.inl ⟨by rfl, ?_⟩) ?_ ?_
  rotate_left
  ·intro w'
   go_simp
   with_reducible rfl
  rotate_left
  ·simp only [Act.put, List.setIfInBounds_toArray, List.set_cons_zero, List.set_cons_succ, i64_w, i32_w]
   rfl
  refine pure_ (i := 5) (N := some 4) (v := ?_) (a' := ?_) #[true, true, true, true, true, true] rfl rfl (by kernel_rfl) (fun _ _ _ h => h) (Or.inl ⟨by rfl, ?_⟩) ?_ ?_
  rotate_left
  ·intro w'
   go_simp
   with_reducible rfl
  rotate_left
  ·simp only [Act.put, List.setIfInBounds_toArray, List.set_cons_zero, List.set_cons_succ, i64_w, i32_w]
   rfl
  refine done_ (by kernel_rfl) ?_
  try go_wp2
  go_ret
  exact rt_
 ·rw [if_neg c3] at H
  have c3b0 : (a0_0 == 2) = false := beq_eq_false_iff_ne.mpr c3
  have c3b1 : (a0_0 != 2) = true := bne_iff_ne.mpr c3
  obtain ⟨⟨t398, t399⟩, A9, H⟩ := bs_ H
  dsimp only at H
  by_cases c10 : a0_0 = 3
  ·rw [if_pos c10] at H
   have c10b0 : (a0_0 == 3) = true := beq_iff_eq.mpr c10
   have c10b1 : (a0_0 != 3) = false := bne_eq_false_iff_eq.mpr c10
   clear c10
   obtain ⟨⟨t400, t401⟩, A11, H⟩ := bs_ H
   dsimp only at H
   obtain rfl := Option.some.inj H
   go_enter Try.func48, Try.ntmps48
   go_wp2_with (first | ((with_reducible refine gate_dst (N := 2) rfl ?_); refine bx_ (w := w) (N := 2) (cs := #[.int .i64 a0_0, .int .i64 a0_1, .int .i64 a0_2, .int .i64 a0_3, .int .i64 a0_4, .int .i64 a0_5]) (t := 64) ?_; intro gb396 w12 BK396 n0_ GW396 GE396; clear HB; have HB := n0_; clear n0_; obtain ⟨hcz13_0, hcz13_1, hcz13_2, hcz13_3, hcz13_4, hcz13_5⟩ := cz6_ BK396.out; obtain ⟨hfz13_0, hfz13_1, hfz13_2, hfz13_3, hfz13_4, hfz13_5⟩ := fz6_ BK396.out) | ((with_reducible refine gate_callee (f := 60) rfl ?_); refine gl_ (some 24) Try.func60 #[.agg #[.int .i64 a1, .int .i64 a0_1, .int .i64 a0_2]] ?_; (with_reducible refine (computusref03_ToDay.calls k a1 a0_1 a0_2 t398 t399 _ A9.out).mono ?_); rintro e w14 ⟨rfl, hb⟩; refine ⟨_, rfl, ?_⟩; have n0_ := Aside0.mk (blk_below (g := gb396) (o := .cells #[.int .i64 a0_0, .int .i64 a0_1, .int .i64 a0_2, .int .i64 a0_3, .int .i64 a0_4, .int .i64 a0_5] 64 (0, 0)) (bk_ BK396.out) hb); have n1_ := bt_ hb; clear BK396; clear HB; have BK396 := n0_; have HB := n1_; clear n0_ n1_; (try clear hb); (try clear hb2); (try clear hk); (try clear hi); obtain ⟨hcz15_0, hcz15_1, hcz15_2, hcz15_3, hcz15_4, hcz15_5⟩ := cz6_ BK396.out; obtain ⟨hfz15_0, hfz15_1, hfz15_2, hfz15_3, hfz15_4, hfz15_5⟩ := fz6_ BK396.out) | ((with_reducible refine gate_callee (f := 61) rfl ?_); refine gl_ (some 36) Try.func61 #[.int .i64 t398, .int .i64 a0_4, .int .i64 a0_5] ?_; (with_reducible refine (computusref04_Nth.calls k t398 a0_4 a0_5 t400 t401 _ A11.out).mono ?_); rintro e w' ⟨rfl, ⟨nd, rfl⟩⟩; refine ⟨_, rfl, ?_⟩))
   go_ret
   exact rt_
  ·rw [if_neg c10] at H
   have c10b0 : (a0_0 == 3) = false := beq_eq_false_iff_ne.mpr c10
   have c10b1 : (a0_0 != 3) = true := bne_iff_ne.mpr c10
   obtain rfl := Option.some.inj H
   go_enter Try.func48, Try.ntmps48
   go_wp2_with (first | ((with_reducible refine gate_dst (N := 2) rfl ?_); refine bx_ (w := w) (N := 2) (cs := #[.int .i64 a0_0, .int .i64 a0_1, .int .i64 a0_2, .int .i64 a0_3, .int .i64 a0_4, .int .i64 a0_5]) (t := 64) ?_; intro gb396 w16 BK396 n0_ GW396 GE396; clear HB; have HB := n0_; clear n0_; obtain ⟨hcz17_0, hcz17_1, hcz17_2, hcz17_3, hcz17_4, hcz17_5⟩ := cz6_ BK396.out; obtain ⟨hfz17_0, hfz17_1, hfz17_2, hfz17_3, hfz17_4, hfz17_5⟩ := fz6_ BK396.out) | ((with_reducible refine gate_callee (f := 60) rfl ?_); refine gl_ (some 24) Try.func60 #[.agg #[.int .i64 a1, .int .i64 a0_1, .int .i64 a0_2]] ?_; (with_reducible refine (computusref03_ToDay.calls k a1 a0_1 a0_2 t398 t399 _ A9.out).mono ?_); rintro e w18 ⟨rfl, hb⟩; refine ⟨_, rfl, ?_⟩; have n0_ := Aside0.mk (blk_below (g := gb396) (o := .cells #[.int .i64 a0_0, .int .i64 a0_1, .int .i64 a0_2, .int .i64 a0_3, .int .i64 a0_4, .int .i64 a0_5] 64 (0, 0)) (bk_ BK396.out) hb); have n1_ := bt_ hb; clear BK396; clear HB; have BK396 := n0_; have HB := n1_; clear n0_ n1_; (try clear hb); (try clear hb2); (try clear hk); (try clear hi); obtain ⟨hcz19_0, hcz19_1, hcz19_2, hcz19_3, hcz19_4, hcz19_5⟩ := cz6_ BK396.out; obtain ⟨hfz19_0, hfz19_1, hfz19_2, hfz19_3, hfz19_4, hfz19_5⟩ := fz6_ BK396.out))
   go_ret
   exact rt_
end Go.Proofs.Ytopfjjdkffdjpaa.Q
end
section
namespace Go.Proofs.Ytopfjjdkffdjpaa.Q
open Go.RowKit Go.Proofs.YtopfjjdkffdjpaaW.PrintWords Go.Proofs.YtopfjjdkffdjpaaW.PrintLast Go.Proofs.YtopfjjdkffdjpaaW.PrintMore
attribute [local go_sem] max2_int min2_int max_two min_two max_three min_three max_four min_four
def computusref18_Starts.l0 : Nat → Int → List Int → Int → Int → List (S66) → List (S68) → Option (List Int)
 | 0, _, _, _, _, _, _ => none
 | k + 1, x1, x5, x6, x403000, x403001, x403002 => if x6 < (x403001.length : Int) then (if 0 ≤ x6 then ((computusref16_Day.f k ((rd_T66 x403001 x6).f3.f0) ((rd_T66 x403001 x6).f3.f1) ((rd_T66 x403001 x6).f3.f2) ((rd_T66 x403001 x6).f3.f3) ((rd_T66 x403001 x6).f3.f4) ((rd_T66 x403001 x6).f3.f5) x1).bind fun t404 => (if x5.length < 17592186044416 then (computusref18_Starts.l0 k x1 (x5 ++ [t404]) (wrap64 (x6 + 1)) x403000 x403001 x403002) else (none))) else (none)) else (some x5)
def computusref18_Starts.f (k : Nat) (a0_0 : Int) (l0_1 : List (S66)) (l0_2 : List (S68)) (a1 : Int) : Option (List Int) := computusref18_Starts.l0 k a1 ([] : List Int) 0 a0_0 l0_1 l0_2
theorem computusref18_Starts.mono_l : ∀ k, (∀ y0 y1 y2 y3 y4 y5, LeO (computusref18_Starts.l0 k y0 y1 y2 y3 y4 y5) (computusref18_Starts.l0 (k + 1) y0 y1 y2 y3 y4 y5))
 | 0 => fun _ _ _ _ _ _ r h => by simp [computusref18_Starts.l0] at h
 | k + 1 => by
  have ih0 := computusref18_Starts.mono_l k
  ·intro y0 y1 y2 y3 y4 y5
   unfold computusref18_Starts.l0
   repeat' first | (with_reducible first | exact ih0 _ _ _ _ _ _ | exact computusref16_Day.mono _ _ _ _ _ _ _ _ | exact LeO.refl _ | exact LeO.none _ | refine LeO.ite ?_ ?_ | refine LeO.bind ?_ (fun _ => ?_)) | exact ih0 _ _ _ _ _ _ | exact computusref16_Day.mono _ _ _ _ _ _ _ _ | exact LeO.none _ | refine LeO.ite ?_ ?_ | refine LeO.bind ?_ (fun _ => ?_)
theorem computusref18_Starts.mono : ∀ a0 a1 a2 a3 k, LeO (computusref18_Starts.f k a0 a1 a2 a3) (computusref18_Starts.f (k + 1) a0 a1 a2 a3) := by
 intro a0 a1 a2 a3 k
 have ih0 := computusref18_Starts.mono_l k
 unfold computusref18_Starts.f
 repeat' first | (with_reducible first | exact ih0 _ _ _ _ _ _ | exact computusref16_Day.mono _ _ _ _ _ _ _ _ | exact LeO.refl _ | exact LeO.none _ | refine LeO.ite ?_ ?_ | refine LeO.bind ?_ (fun _ => ?_)) | exact ih0 _ _ _ _ _ _ | exact computusref16_Day.mono _ _ _ _ _ _ _ _ | exact LeO.none _ | refine LeO.ite ?_ ?_ | refine LeO.bind ?_ (fun _ => ?_)
set_option maxHeartbeats 8000000 in
set_option maxRecDepth 100000 in
theorem computusref18_Starts.calls (k : Nat) (a0_0 : Int) (A0_1 : Option Addr) (c0_1 : Nat) (l0_1 : List (S66)) (A0_2 : Option Addr) (c0_2 : Nat) (l0_2 : List (S68)) (a1 : Int) (r : List Int) (w : World) (hr0_1 : Kd.C k66 w A0_1 l0_1.length l0_1) (hc0_1 : l0_1.length ≤ c0_1) (hr0_2 : Kd.C k68 w A0_2 l0_2.length l0_2) (hc0_2 : l0_2.length ≤ c0_2) (h : computusref18_Starts.f k a0_0 l0_1 l0_2 a1 = some r) :
  Calls Try.prog 36 #[.agg #[.int .i64 a0_0, .slice A0_1 l0_1.length c0_1, .slice A0_2 l0_2.length c0_2], .int .i64 a1] w fun e w' => ∃ v0_ : Value, e = .returned (v0_) ∧ Kd.R (Kd.int .i64) 3 w' w.heap.size (fun _ => True) v0_ r ∧ Below w.heap.size w w' := by
 have hu36 := Try.underlying36
 have hu64 := Try.underlying64
 have HR0_1 := Aside0.mk hr0_1
 have HC0_1 := Aside0.mk hc0_1
 clear hr0_1 hc0_1
 have HR0_2 := Aside0.mk hr0_2
 have HC0_2 := Aside0.mk hc0_2
 clear hr0_2 hc0_2
 have HB := Aside0.mk (Below.refl w.heap.size w)
 have H : (computusref18_Starts.l0 k a1 ([] : List Int) 0 a0_0 l0_1 l0_2) = some r := h
 clear h
 have H' := Aside0.mk H
 clear H
 go_enter Try.func36, Try.ntmps36
 go_wp2_with (first | ((with_reducible refine gate_dst (N := 2) rfl ?_); refine bx_ (w := w) (N := 2) (cs := #[.int .i64 a0_0, .slice A0_1 l0_1.length c0_1, .slice A0_2 l0_2.length c0_2]) (t := 36) ?_; intro gb402 w3 BK402 n0_ GW402 GE402; clear HB; have HB := n0_; clear n0_))
 go_loopg [5, 6] k (fun kq v5 v6 w' => ∃ (x5_1 : List Int) (x6_1 : Int), v6 = .int .i64 x6_1 ∧ Aside0 (computusref18_Starts.l0 kq a1 x5_1 x6_1 a0_0 l0_1 l0_2 = some r) ∧ Aside0 (kq ≤ k) ∧ Aside0 (Kd.R (Kd.int .i64) 3 w' w.heap.size (fun _ => True) v5 x5_1) ∧ Aside0 (w'.heap[gb402]? = some (.cells #[.int .i64 a0_0, (.slice A0_1 l0_1.length c0_1), (.slice A0_2 l0_2.length c0_2)] 36 (0, 0))) ∧ Aside0 (Below w.heap.size w w'))
 case atStart => exact ⟨(([] : List Int)), (0), rs_, H', ⟨Nat.le_refl _⟩, ⟨nl_⟩, ⟨bk_ BK402.out⟩, ⟨bh_⟩⟩
 case round =>
  clear H'
  try clear p2
  try clear c3
  obtain ⟨x5_1, x6_1, rfl, HA, HK1, HO_5, BK402, HB⟩ := hrel
  cases gk with
  | zero => exact absurd HA.out (by simp [computusref18_Starts.l0])
  | succ k1 =>
   have H := HA.out
   clear HA
   simp only [computusref18_Starts.l0] at H
   by_cases c4 : x6_1 < (l0_1.length : Int)
   ·rw [if_pos c4] at H
    have c4b0 : decide (x6_1 < (l0_1.length : Int)) = true := decide_eq_true c4
    clear c4
    by_cases c5 : 0 ≤ x6_1
    ·rw [if_pos c5] at H
     have c5b0 : decide (0 ≤ x6_1) = true := decide_eq_true c5
     clear c5
     obtain ⟨t404, A6, H⟩ := bs_ H
     by_cases c7 : x5_1.length < 17592186044416
     ·rw [if_pos c7] at H
      have LMc7 := Aside0.mk c7
      clear c7
      obtain ⟨y405, hy405⟩ : ∃ y_ : List Int, y_ = (x5_1 ++ [t404]) := ⟨_, rfl⟩
      replace H : (computusref18_Starts.l0 k1 a1 y405 (wrap64 (x6_1 + 1)) a0_0 l0_1 l0_2) = some r := by first | (rw [hy405]; with_reducible exact H) | (have H2_ := (Option.bind_some _ _).symm.trans H; rw [hy405]; with_reducible exact H2_) | (have H2_ := (Option.bind_some _ _).symm.trans H; with_reducible exact H2_) | with_reducible exact H | (rw [hy405]; exact H) | exact H
      have Ny405 := Aside0.mk hy405
      clear hy405
      have H' := Aside0.mk H
      clear H
      obtain ⟨hcz8_0, hcz8_1, hcz8_2⟩ := cz3_ BK402.out
      obtain ⟨hfz8_0, hfz8_1, hfz8_2⟩ := fz3_ BK402.out
      have p403 : 0 ≤ (x6_1 : Int) := of_decide_eq_true as_
      have q403 : x6_1 < (l0_1.length : Int) := of_decide_eq_true as_
      obtain ⟨ad403, e403, hx403_0, hx403_1, hx403_2, hx403_3, hx403_4, hx403_5, hx403_6, hx403_7, hx403_8⟩ := at_T66 HR0_1.out x6_1 p403 q403
      cases e403
      replace hx403_0 := cm_ HB.out hx403_0
      replace hx403_1 := cm_ HB.out hx403_1
      replace hx403_2 := cm_ HB.out hx403_2
      replace hx403_3 := cm_ HB.out hx403_3
      replace hx403_4 := cm_ HB.out hx403_4
      replace hx403_5 := cm_ HB.out hx403_5
      replace hx403_6 := cm_ HB.out hx403_6
      replace hx403_7 := cm_ HB.out hx403_7
      replace hx403_8 := cm_ HB.out hx403_8
      replace p403 := eq_true p403
      replace q403 := eq_true q403
      go_wp2_with (first | ((with_reducible refine gate_callee (f := 48) rfl ?_); refine gl_ (some 22) Try.func48 #[.agg #[.int .i64 ((rd_T66 l0_1 x6_1).f3.f0), .int .i64 ((rd_T66 l0_1 x6_1).f3.f1), .int .i64 ((rd_T66 l0_1 x6_1).f3.f2), .int .i64 ((rd_T66 l0_1 x6_1).f3.f3), .int .i64 ((rd_T66 l0_1 x6_1).f3.f4), .int .i64 ((rd_T66 l0_1 x6_1).f3.f5)], .int .i64 a1] ?_; (with_reducible refine (computusref16_Day.calls k1 ((rd_T66 l0_1 x6_1).f3.f0) ((rd_T66 l0_1 x6_1).f3.f1) ((rd_T66 l0_1 x6_1).f3.f2) ((rd_T66 l0_1 x6_1).f3.f3) ((rd_T66 l0_1 x6_1).f3.f4) ((rd_T66 l0_1 x6_1).f3.f5) a1 t404 _ A6.out).mono ?_); rintro e w9 ⟨rfl, hb⟩; refine ⟨_, rfl, ?_⟩; have n0_ := Aside0.mk (Kd.R_below (rk_ HO_5.out) hb); have n1_ := Aside0.mk (blk_below (g := gb402) (o := .cells #[.int .i64 a0_0, .slice (some ad403) l0_1.length c0_1, .slice A0_2 l0_2.length c0_2] 36 (0, 0)) (bk_ BK402.out) hb); have n2_ := bt_ hb; clear HO_5; clear BK402; clear HB; have HO_5 := n0_; have BK402 := n1_; have HB := n2_; clear n0_ n1_ n2_; (try clear hb); (try clear hb2); (try clear hk); (try clear hi)) | ((with_reducible refine gate_builtin (b := .append) (xs := #[.tmp 14, .tmp 23]) rfl ?_); at_builtin; refine Kd.R_append (Kd.int .i64) (w0 := w) w.heap.size rfl (.tmp 14) (.tmp 23) 40 3 (.int .i64 0) 8 rfl Try.underlying40 info3 rfl (by decide) (by omega) u5 x5_1 t404 [.int .i64 t404] (fun _ => True) (fun _ => False) rfl rfl ?aP (fun _ hk => hk.elim) ?aF ?aO ?aB ?aS ?aL ?_; (case aP => exact rfl); (case aB => exact bh_); (case aF => exact (fun _ _ => trivial)); (case aO => exact (rk_ HO_5.out)); (case aS => exact bz_); (case aL => have := LMc7.out; omega); intro v406 w10 ho hb hg hat; rw [← Ny405.out] at ho; have n0_ := Aside0.mk (blk_grown (g := gb402) (o := .cells #[.int .i64 a0_0, .slice (some ad403) l0_1.length c0_1, .slice A0_2 l0_2.length c0_2] 36 (0, 0)) (bk_ BK402.out) hg (Kd.R_ne HO_5.out BK402.out (by decide))); have n1_ := Aside0.mk (hb); have n2_ := Aside0.mk (ho); clear BK402; clear HB; clear HO_5; have BK402 := n0_; have HB := n1_; have HO407 := n2_; clear n0_ n1_ n2_; clear ho hb hg hat))
      go_roundg k1
      case measure => have := HK1.out; omega
      case rel => exact ⟨(y405), (wrap64 (x6_1 + 1)), rs_, H', ⟨by have := HK1.out; omega⟩, ⟨rk_ HO407.out⟩, ⟨bk_ BK402.out⟩, ⟨bh_⟩⟩
     ·rw [if_neg c7] at H
      exact absurd H (by simp)
    ·rw [if_neg c5] at H
     exact absurd H (by simp)
   ·rw [if_neg c4] at H
    have c4b0 : decide (x6_1 < (l0_1.length : Int)) = false := decide_eq_false c4
    clear c4
    obtain rfl := Option.some.inj H
    obtain ⟨hcz11_0, hcz11_1, hcz11_2⟩ := cz3_ BK402.out
    obtain ⟨hfz11_0, hfz11_1, hfz11_2⟩ := fz3_ BK402.out
    go_wp2
    go_ret
    exact ⟨_, by first | rfl | (simp [errW_none, errW_some] <;> rfl) | (simp [*, errW_none, errW_some] <;> rfl), rk_ HO_5.out, bh_⟩
end Go.Proofs.Ytopfjjdkffdjpaa.Q
end
section
namespace Go.Proofs.Ytopfjjdkffdjpaa.Q
open Go.RowKit Go.Proofs.YtopfjjdkffdjpaaW.PrintWords Go.Proofs.YtopfjjdkffdjpaaW.PrintLast Go.Proofs.YtopfjjdkffdjpaaW.PrintMore
attribute [local go_sem] max2_int min2_int max_two min_two max_three min_three max_four min_four
def computusref19_Days.l0 : Nat → Int → List Int → Int → Int → List (S66) → List (S68) → Option (List Int)
 | 0, _, _, _, _, _, _ => none
 | k + 1, x1, x5, x6, x409000, x409001, x409002 => if x6 < (x409002.length : Int) then (if 0 ≤ x6 then ((computusref16_Day.f k ((rd_T68 x409002 x6).f3.f0) ((rd_T68 x409002 x6).f3.f1) ((rd_T68 x409002 x6).f3.f2) ((rd_T68 x409002 x6).f3.f3) ((rd_T68 x409002 x6).f3.f4) ((rd_T68 x409002 x6).f3.f5) x1).bind fun t410 => (if x5.length < 17592186044416 then (computusref19_Days.l0 k x1 (x5 ++ [t410]) (wrap64 (x6 + 1)) x409000 x409001 x409002) else (none))) else (none)) else (some x5)
def computusref19_Days.f (k : Nat) (a0_0 : Int) (l0_1 : List (S66)) (l0_2 : List (S68)) (a1 : Int) : Option (List Int) := computusref19_Days.l0 k a1 ([] : List Int) 0 a0_0 l0_1 l0_2
theorem computusref19_Days.mono_l : ∀ k, (∀ y0 y1 y2 y3 y4 y5, LeO (computusref19_Days.l0 k y0 y1 y2 y3 y4 y5) (computusref19_Days.l0 (k + 1) y0 y1 y2 y3 y4 y5))
 | 0 => fun _ _ _ _ _ _ r h => by simp [computusref19_Days.l0] at h
 | k + 1 => by
  have ih0 := computusref19_Days.mono_l k
  ·intro y0 y1 y2 y3 y4 y5
   unfold computusref19_Days.l0
   repeat' first | (with_reducible first | exact ih0 _ _ _ _ _ _ | exact computusref16_Day.mono _ _ _ _ _ _ _ _ | exact LeO.refl _ | exact LeO.none _ | refine LeO.ite ?_ ?_ | refine LeO.bind ?_ (fun _ => ?_)) | exact ih0 _ _ _ _ _ _ | exact computusref16_Day.mono _ _ _ _ _ _ _ _ | exact LeO.none _ | refine LeO.ite ?_ ?_ | refine LeO.bind ?_ (fun _ => ?_)
theorem computusref19_Days.mono : ∀ a0 a1 a2 a3 k, LeO (computusref19_Days.f k a0 a1 a2 a3) (computusref19_Days.f (k + 1) a0 a1 a2 a3) := by
 intro a0 a1 a2 a3 k
 have ih0 := computusref19_Days.mono_l k
 unfold computusref19_Days.f
 repeat' first | (with_reducible first | exact ih0 _ _ _ _ _ _ | exact computusref16_Day.mono _ _ _ _ _ _ _ _ | exact LeO.refl _ | exact LeO.none _ | refine LeO.ite ?_ ?_ | refine LeO.bind ?_ (fun _ => ?_)) | exact ih0 _ _ _ _ _ _ | exact computusref16_Day.mono _ _ _ _ _ _ _ _ | exact LeO.none _ | refine LeO.ite ?_ ?_ | refine LeO.bind ?_ (fun _ => ?_)
set_option maxHeartbeats 8000000 in
set_option maxRecDepth 100000 in
theorem computusref19_Days.calls (k : Nat) (a0_0 : Int) (A0_1 : Option Addr) (c0_1 : Nat) (l0_1 : List (S66)) (A0_2 : Option Addr) (c0_2 : Nat) (l0_2 : List (S68)) (a1 : Int) (r : List Int) (w : World) (hr0_1 : Kd.C k66 w A0_1 l0_1.length l0_1) (hc0_1 : l0_1.length ≤ c0_1) (hr0_2 : Kd.C k68 w A0_2 l0_2.length l0_2) (hc0_2 : l0_2.length ≤ c0_2) (h : computusref19_Days.f k a0_0 l0_1 l0_2 a1 = some r) :
  Calls Try.prog 37 #[.agg #[.int .i64 a0_0, .slice A0_1 l0_1.length c0_1, .slice A0_2 l0_2.length c0_2], .int .i64 a1] w fun e w' => ∃ v0_ : Value, e = .returned (v0_) ∧ Kd.R (Kd.int .i64) 3 w' w.heap.size (fun _ => True) v0_ r ∧ Below w.heap.size w w' := by
 have hu36 := Try.underlying36
 have hu64 := Try.underlying64
 have HR0_1 := Aside0.mk hr0_1
 have HC0_1 := Aside0.mk hc0_1
 clear hr0_1 hc0_1
 have HR0_2 := Aside0.mk hr0_2
 have HC0_2 := Aside0.mk hc0_2
 clear hr0_2 hc0_2
 have HB := Aside0.mk (Below.refl w.heap.size w)
 have H : (computusref19_Days.l0 k a1 ([] : List Int) 0 a0_0 l0_1 l0_2) = some r := h
 clear h
 have H' := Aside0.mk H
 clear H
 go_enter Try.func37, Try.ntmps37
 go_wp2_with (first | ((with_reducible refine gate_dst (N := 2) rfl ?_); refine bx_ (w := w) (N := 2) (cs := #[.int .i64 a0_0, .slice A0_1 l0_1.length c0_1, .slice A0_2 l0_2.length c0_2]) (t := 36) ?_; intro gb408 w3 BK408 n0_ GW408 GE408; clear HB; have HB := n0_; clear n0_))
 go_loopg [5, 6] k (fun kq v5 v6 w' => ∃ (x5_1 : List Int) (x6_1 : Int), v6 = .int .i64 x6_1 ∧ Aside0 (computusref19_Days.l0 kq a1 x5_1 x6_1 a0_0 l0_1 l0_2 = some r) ∧ Aside0 (kq ≤ k) ∧ Aside0 (Kd.R (Kd.int .i64) 3 w' w.heap.size (fun _ => True) v5 x5_1) ∧ Aside0 (w'.heap[gb408]? = some (.cells #[.int .i64 a0_0, (.slice A0_1 l0_1.length c0_1), (.slice A0_2 l0_2.length c0_2)] 36 (0, 0))) ∧ Aside0 (Below w.heap.size w w'))
 case atStart => exact ⟨(([] : List Int)), (0), rs_, H', ⟨Nat.le_refl _⟩, ⟨nl_⟩, ⟨bk_ BK408.out⟩, ⟨bh_⟩⟩
 case round =>
  clear H'
  try clear p2
  try clear c3
  obtain ⟨x5_1, x6_1, rfl, HA, HK1, HO_5, BK408, HB⟩ := hrel
  cases gk with
  | zero => exact absurd HA.out (by simp [computusref19_Days.l0])
  | succ k1 =>
   have H := HA.out
   clear HA
   simp only [computusref19_Days.l0] at H
   by_cases c4 : x6_1 < (l0_2.length : Int)
   ·rw [if_pos c4] at H
    have c4b0 : decide (x6_1 < (l0_2.length : Int)) = true := decide_eq_true c4
    clear c4
    by_cases c5 : 0 ≤ x6_1
    ·rw [if_pos c5] at H
     have c5b0 : decide (0 ≤ x6_1) = true := decide_eq_true c5
     clear c5
     obtain ⟨t410, A6, H⟩ := bs_ H
     by_cases c7 : x5_1.length < 17592186044416
     ·rw [if_pos c7] at H
      have LMc7 := Aside0.mk c7
      clear c7
      obtain ⟨y411, hy411⟩ : ∃ y_ : List Int, y_ = (x5_1 ++ [t410]) := ⟨_, rfl⟩
      replace H : (computusref19_Days.l0 k1 a1 y411 (wrap64 (x6_1 + 1)) a0_0 l0_1 l0_2) = some r := by first | (rw [hy411]; with_reducible exact H) | (have H2_ := (Option.bind_some _ _).symm.trans H; rw [hy411]; with_reducible exact H2_) | (have H2_ := (Option.bind_some _ _).symm.trans H; with_reducible exact H2_) | with_reducible exact H | (rw [hy411]; exact H) | exact H
      have Ny411 := Aside0.mk hy411
      clear hy411
      have H' := Aside0.mk H
      clear H
      obtain ⟨hcz8_0, hcz8_1, hcz8_2⟩ := cz3_ BK408.out
      obtain ⟨hfz8_0, hfz8_1, hfz8_2⟩ := fz3_ BK408.out
      have p409 : 0 ≤ (x6_1 : Int) := of_decide_eq_true as_
      have q409 : x6_1 < (l0_2.length : Int) := of_decide_eq_true as_
      obtain ⟨ad409, e409, hx409_0, hx409_1, hx409_2, hx409_3, hx409_4, hx409_5, hx409_6, hx409_7, hx409_8⟩ := at_T68 HR0_2.out x6_1 p409 q409
      cases e409
      replace hx409_0 := cm_ HB.out hx409_0
      replace hx409_1 := cm_ HB.out hx409_1
      replace hx409_2 := cm_ HB.out hx409_2
      replace hx409_3 := cm_ HB.out hx409_3
      replace hx409_4 := cm_ HB.out hx409_4
      replace hx409_5 := cm_ HB.out hx409_5
      replace hx409_6 := cm_ HB.out hx409_6
      replace hx409_7 := cm_ HB.out hx409_7
      replace hx409_8 := cm_ HB.out hx409_8
      replace p409 := eq_true p409
      replace q409 := eq_true q409
      go_wp2_with (first | ((with_reducible refine gate_callee (f := 48) rfl ?_); refine gl_ (some 22) Try.func48 #[.agg #[.int .i64 ((rd_T68 l0_2 x6_1).f3.f0), .int .i64 ((rd_T68 l0_2 x6_1).f3.f1), .int .i64 ((rd_T68 l0_2 x6_1).f3.f2), .int .i64 ((rd_T68 l0_2 x6_1).f3.f3), .int .i64 ((rd_T68 l0_2 x6_1).f3.f4), .int .i64 ((rd_T68 l0_2 x6_1).f3.f5)], .int .i64 a1] ?_; (with_reducible refine (computusref16_Day.calls k1 ((rd_T68 l0_2 x6_1).f3.f0) ((rd_T68 l0_2 x6_1).f3.f1) ((rd_T68 l0_2 x6_1).f3.f2) ((rd_T68 l0_2 x6_1).f3.f3) ((rd_T68 l0_2 x6_1).f3.f4) ((rd_T68 l0_2 x6_1).f3.f5) a1 t410 _ A6.out).mono ?_); rintro e w9 ⟨rfl, hb⟩; refine ⟨_, rfl, ?_⟩; have n0_ := Aside0.mk (Kd.R_below (rk_ HO_5.out) hb); have n1_ := Aside0.mk (blk_below (g := gb408) (o := .cells #[.int .i64 a0_0, .slice A0_1 l0_1.length c0_1, .slice (some ad409) l0_2.length c0_2] 36 (0, 0)) (bk_ BK408.out) hb); have n2_ := bt_ hb; clear HO_5; clear BK408; clear HB; have HO_5 := n0_; have BK408 := n1_; have HB := n2_; clear n0_ n1_ n2_; (try clear hb); (try clear hb2); (try clear hk); (try clear hi)) | ((with_reducible refine gate_builtin (b := .append) (xs := #[.tmp 14, .tmp 23]) rfl ?_); at_builtin; refine Kd.R_append (Kd.int .i64) (w0 := w) w.heap.size rfl (.tmp 14) (.tmp 23) 40 3 (.int .i64 0) 8 rfl Try.underlying40 info3 rfl (by decide) (by omega) u5 x5_1 t410 [.int .i64 t410] (fun _ => True) (fun _ => False) rfl rfl ?aP (fun _ hk => hk.elim) ?aF ?aO ?aB ?aS ?aL ?_; (case aP => exact rfl); (case aB => exact bh_); (case aF => exact (fun _ _ => trivial)); (case aO => exact (rk_ HO_5.out)); (case aS => exact bz_); (case aL => have := LMc7.out; omega); intro v412 w10 ho hb hg hat; rw [← Ny411.out] at ho; have n0_ := Aside0.mk (blk_grown (g := gb408) (o := .cells #[.int .i64 a0_0, .slice A0_1 l0_1.length c0_1, .slice (some ad409) l0_2.length c0_2] 36 (0, 0)) (bk_ BK408.out) hg (Kd.R_ne HO_5.out BK408.out (by decide))); have n1_ := Aside0.mk (hb); have n2_ := Aside0.mk (ho); clear BK408; clear HB; clear HO_5; have BK408 := n0_; have HB := n1_; have HO413 := n2_; clear n0_ n1_ n2_; clear ho hb hg hat))
      go_roundg k1
      case measure => have := HK1.out; omega
      case rel => exact ⟨(y411), (wrap64 (x6_1 + 1)), rs_, H', ⟨by have := HK1.out; omega⟩, ⟨rk_ HO413.out⟩, ⟨bk_ BK408.out⟩, ⟨bh_⟩⟩
     ·rw [if_neg c7] at H
      exact absurd H (by simp)
    ·rw [if_neg c5] at H
     exact absurd H (by simp)
   ·rw [if_neg c4] at H
    have c4b0 : decide (x6_1 < (l0_2.length : Int)) = false := decide_eq_false c4
    clear c4
    obtain rfl := Option.some.inj H
    obtain ⟨hcz11_0, hcz11_1, hcz11_2⟩ := cz3_ BK408.out
    obtain ⟨hfz11_0, hfz11_1, hfz11_2⟩ := fz3_ BK408.out
    go_wp2
    go_ret
    exact ⟨_, by first | rfl | (simp [errW_none, errW_some] <;> rfl) | (simp [*, errW_none, errW_some] <;> rfl), rk_ HO_5.out, bh_⟩
end Go.Proofs.Ytopfjjdkffdjpaa.Q
end
section
namespace Go.Proofs.Ytopfjjdkffdjpaa.Q
open Go.RowKit Go.Proofs.YtopfjjdkffdjpaaW.PrintWords Go.Proofs.YtopfjjdkffdjpaaW.PrintLast Go.Proofs.YtopfjjdkffdjpaaW.PrintMore
attribute [local go_sem] max2_int min2_int max_two min_two max_three min_three max_four min_four
def computusref19_Of.f (k : Nat) (a0_0 : Int) (l0_1 : List (S66)) (l0_2 : List (S68)) (a1 : Int) (a2 : Int) : Option ((List (S44))) := (computusref18_Starts.f k a0_0 l0_1 l0_2 a1).bind fun t415 => ((computusref19_Days.f k a0_0 l0_1 l0_2 a1).bind fun t418 => ((computusref19_In.f k a0_0 l0_1 l0_2 t415 t418 a2).bind fun t421 => (some t421)))
theorem computusref19_Of.mono : ∀ a0 a1 a2 a3 a4 k, LeO (computusref19_Of.f k a0 a1 a2 a3 a4) (computusref19_Of.f (k + 1) a0 a1 a2 a3 a4) := by
 intro a0 a1 a2 a3 a4 k
 unfold computusref19_Of.f
 repeat' first | (with_reducible first | exact computusref18_Starts.mono _ _ _ _ _ | exact computusref19_Days.mono _ _ _ _ _ | exact computusref19_In.mono _ _ _ _ _ _ _ | exact LeO.refl _ | exact LeO.none _ | refine LeO.ite ?_ ?_ | refine LeO.bind ?_ (fun _ => ?_)) | exact computusref18_Starts.mono _ _ _ _ _ | exact computusref19_Days.mono _ _ _ _ _ | exact computusref19_In.mono _ _ _ _ _ _ _ | exact LeO.none _ | refine LeO.ite ?_ ?_ | refine LeO.bind ?_ (fun _ => ?_)
def computusref19_Of.T1 : Bool × List (List Nat × List Nat) := (true, [([], []), ([], []), ([], []), ([1, 2], [1, 2]), ([], []), ([], []), ([4, 5, 3], [4, 5]), ([], []), ([0, 3, 6, 7, 6], [0, 3, 6, 7]), ([8, 8, 0, 1, 2, 3, 4, 5, 6, 7, 8], [8])])
def computusref19_Of.B1 : List Nat := [0, 0, 0, 6, 0, 0, 62, 0, 255, 511]
theorem computusref19_Of.tab1 : rtab .any (opsOf Try.f16 1) = computusref19_Of.T1 := by kernel_rfl
theorem computusref19_Of.bits1 : waitsOk computusref19_Of.T1.2 computusref19_Of.B1 = true := by kernel_rfl
set_option maxHeartbeats 8000000 in
set_option maxRecDepth 100000 in
theorem computusref19_Of.calls (k : Nat) (a0_0 : Int) (A0_1 : Option Addr) (c0_1 : Nat) (l0_1 : List (S66)) (A0_2 : Option Addr) (c0_2 : Nat) (l0_2 : List (S68)) (a1 : Int) (a2 : Int) (r : List (S44)) (w : World) (hr0_1 : Kd.C k66 w A0_1 l0_1.length l0_1) (hc0_1 : l0_1.length ≤ c0_1) (hr0_2 : Kd.C k68 w A0_2 l0_2.length l0_2) (hc0_2 : l0_2.length ≤ c0_2) (h : computusref19_Of.f k a0_0 l0_1 l0_2 a1 a2 = some r) :
  Calls Try.prog 16 #[.agg #[.int .i64 a0_0, .slice A0_1 l0_1.length c0_1, .slice A0_2 l0_2.length c0_2], .int .i64 a1, .int .i64 a2] w fun e w' => ∃ v0_ : Value, e = .returned (v0_) ∧ Kd.R k44 44 w' w.heap.size (fun _ => True) v0_ r ∧ Below w.heap.size w w' := by
 have hu36 := Try.underlying36
 have HR0_1 := Aside0.mk hr0_1
 have HC0_1 := Aside0.mk hc0_1
 clear hr0_1 hc0_1
 have HR0_2 := Aside0.mk hr0_2
 have HC0_2 := Aside0.mk hc0_2
 clear hr0_2 hc0_2
 have HB := Aside0.mk (Below.refl w.heap.size w)
 have H : ((computusref18_Starts.f k a0_0 l0_1 l0_2 a1).bind fun t415 => ((computusref19_Days.f k a0_0 l0_1 l0_2 a1).bind fun t418 => ((computusref19_In.f k a0_0 l0_1 l0_2 t415 t418 a2).bind fun t421 => (some t421)))) = some r := h
 clear h
 obtain ⟨t415, A4, H⟩ := bs_ H
 obtain ⟨t418, A5, H⟩ := bs_ H
 obtain ⟨t421, A6, H⟩ := bs_ H
 obtain rfl := Option.some.inj H
 go_enter Try.func16, Try.ntmps16
 try go_wp2_with (first | ((with_reducible refine gate_dst (N := 3) rfl ?_); refine bx_ (w := w) (N := 3) (cs := #[.int .i64 a0_0, .slice A0_1 l0_1.length c0_1, .slice A0_2 l0_2.length c0_2]) (t := 36) ?_; intro gb414 w7 BK414 n0_ GW414 GE414; clear HB; have HB := n0_; clear n0_))
 have n0_ := Aside0.mk (blk_drew BK414.out)
 have n1_ := Aside0.mk (below_drew1 HB.out)
 clear BK414
 clear HB
 have BK414 := n0_
 have HB := n1_
 clear n0_ n1_
 refine start_ (n := 10) (S := fun w' => w'.cell? ⟨gb414, 0, none⟩ = some (.int .i64 a0_0) ∧ w'.cell? ⟨gb414, 1, none⟩ = some (.slice A0_1 l0_1.length c0_1) ∧ w'.cell? ⟨gb414, 2, none⟩ = some (.slice A0_2 l0_2.length c0_2)) (ds := []) #[false, false, false, false, false, false, false, false, false, false] (by kernel_rfl) rfl rfl ⟨(blk_cell BK414.out 0).trans rfl, (blk_cell BK414.out 1).trans rfl, (blk_cell BK414.out 2).trans rfl⟩ (fun hHeld => ?_); refine with_tabW computusref19_Of.tab1 computusref19_Of.bits1 (fun HT_ HW_ => ?_)
 generalize w7.drew = w8 at BK414 HB hHeld ⊢
 refine pure_ (i := 2) (N := some 9) (v := ?_) (a' := ?_) #[false, false, true, false, false, false, false, false, false, false] rfl rfl (any_of HT_.out (by kernel_rfl)) (fun _ _ _ h => h) (Or.inl ⟨by rfl, ?_⟩) ?_ ?_
 rotate_left
 ·intro w'
  go_simp
  with_reducible rfl
 rotate_left
 ·simp only [Act.put, List.setIfInBounds_toArray, List.set_cons_zero, List.set_cons_succ, i64_w, i32_w]
  rfl
 refine pure_ (i := 5) (N := some 12) (v := ?_) (a' := ?_) #[false, false, true, false, false, true, false, false, false, false] rfl rfl (any_of HT_.out (by kernel_rfl)) (fun _ _ _ h => h) (Or.inl ⟨by rfl, ?_⟩) ?_ ?_
 rotate_left
 ·intro w'
  go_simp
  with_reducible rfl
 rotate_left
 ·simp only [Act.put, List.setIfInBounds_toArray, List.set_cons_zero, List.set_cons_succ, i64_w, i32_w]
  rfl
 refine pure_ (i := 7) (N := some 14) (v := ?_) (a' := ?_) #[false, false, true, false, false, true, false, true, false, false] rfl rfl (any_of HT_.out (by kernel_rfl)) (fun _ _ _ h => h) (Or.inl ⟨by rfl, ?_⟩) ?_ ?_
 rotate_left
 ·intro w'
  go_simp
  with_reducible rfl
 rotate_left
 ·simp only [Act.put, List.setIfInBounds_toArray, List.set_cons_zero, List.set_cons_succ, i64_w, i32_w]
  rfl
 refine take_ (i := 0) (N := some 7) (v := ?_) (a' := ?_) #[true, false, true, false, false, true, false, true, false, false] rfl rfl (take_ofW HT_.out HW_.out (by kernel_rfl)) (fun _ _ _ h => h) (Or.inl ⟨by rfl, ?_⟩) hHeld ?_ ?_
 rotate_left
 ·rintro w' ⟨s0, s1, s2⟩
  go_simp
  with_reducible rfl
 rotate_left
 ·simp only [Act.put, List.setIfInBounds_toArray, List.set_cons_zero, List.set_cons_succ, i64_w, i32_w]
  rfl
 refine take_ (i := 1) (N := some 8) (v := ?_) (a' := ?_) #[true, true, true, false, false, true, false, true, false, false] rfl rfl (take_ofW HT_.out HW_.out (by kernel_rfl)) (fun _ _ _ h => h) (Or.inl ⟨by rfl, ?_⟩) hHeld ?_ ?_
 rotate_left
 ·rintro w' ⟨s0, s1, s2⟩
  go_simp
  with_reducible rfl
 rotate_left
 ·simp only [Act.put, List.setIfInBounds_toArray, List.set_cons_zero, List.set_cons_succ, i64_w, i32_w]
  rfl
 refine take_ (i := 4) (N := some 11) (v := ?_) (a' := ?_) #[true, true, true, false, true, true, false, true, false, false] rfl rfl (take_ofW HT_.out HW_.out (by kernel_rfl)) (fun _ _ _ h => h) (Or.inl ⟨by rfl, ?_⟩) hHeld ?_ ?_
 rotate_left
 ·rintro w' ⟨s0, s1, s2⟩
  go_simp
  with_reducible rfl
 rotate_left
 ·simp only [Act.put, List.setIfInBounds_toArray, List.set_cons_zero, List.set_cons_succ, i64_w, i32_w]
  rfl
 refine one_ (i := 3) (N := some 10) #[true, true, true, true, true, true, false, true, false, false] rfl rfl (one_of HT_.out (by kernel_rfl)) (by decide) (fun K hK => ?_)
 refine goes_ Try.func36 (by kernel_rfl) rfl #[.agg #[.int .i64 a0_0, .slice A0_1 l0_1.length c0_1, .slice A0_2 l0_2.length c0_2], .int .i64 a1] (by rfl) rfl rfl (by (try simp only [List.map_toArray, List.map_cons, List.map_nil]); first | done | rfl | (simp only [List.length_drop, List.length_take]; rfl)) ?_
 with_reducible refine (computusref18_Starts.calls k a0_0 _ _ l0_1 _ _ l0_2 a1 t415 _ ?side1 ?side2 ?side3 ?side4 A4.out).mono ?_
 (case side1 => repeat (first | exact (Kd.C_below HR0_1.out HB.out) | (with_reducible refine Kd.C_alloc ?_ _) | (with_reducible refine Kd.C_drewN ?_ _) | (with_reducible refine Kd.C_drew ?_)))
 (case side2 => exact HC0_1.out)
 (case side3 => repeat (first | exact (Kd.C_below HR0_2.out HB.out) | (with_reducible refine Kd.C_alloc ?_ _) | (with_reducible refine Kd.C_drewN ?_ _) | (with_reducible refine Kd.C_drew ?_)))
 (case side4 => exact HC0_2.out)
 rintro e w9 ⟨v416, rfl, ho0, hb⟩
 refine ⟨_, rfl, ?_⟩
 have n0_ := Aside0.mk (Kd.R_lower ho0 bz_)
 have n1_ := Aside0.mk (blk_below (g := gb414) (o := .cells #[.int .i64 a0_0, .slice A0_1 l0_1.length c0_1, .slice A0_2 l0_2.length c0_2] 36 (0, 0)) (bk_ BK414.out) hb)
 have n2_ := bt_ hb
 clear BK414
 clear HB
 have HO417 := n0_
 have BK414 := n1_
 have HB := n2_
 clear n0_ n1_ n2_
 (try clear hb)
 (try clear hb2)
 (try clear hk)
 (try clear hi)
 (try clear ho0)
 refine hK.out _ _ (by first | exact ⟨(blk_cell BK414.out 0).trans rfl, (blk_cell BK414.out 1).trans rfl, (blk_cell BK414.out 2).trans rfl⟩ | exact hHeld) (fun hHeld => ?_)
 clear hK K
 refine norm_ (a' := ?_) ?_ ?_
 rotate_left
 ·show Act.put _ (some 10) _ = _
  simp only [Act.put, List.setIfInBounds_toArray, List.set_cons_zero, List.set_cons_succ, i64_w, i32_w]
  rfl
 refine one_ (i := 6) (N := some 13) #[true, true, true, true, true, true, true, true, false, false] rfl rfl (one_of HT_.out (by kernel_rfl)) (by decide) (fun K hK => ?_)
 refine goes_ Try.func37 (by kernel_rfl) rfl #[.agg #[.int .i64 a0_0, .slice A0_1 l0_1.length c0_1, .slice A0_2 l0_2.length c0_2], .int .i64 a1] (by rfl) rfl rfl (by (try simp only [List.map_toArray, List.map_cons, List.map_nil]); first | done | rfl | (simp only [List.length_drop, List.length_take]; rfl)) ?_
 with_reducible refine (computusref19_Days.calls k a0_0 _ _ l0_1 _ _ l0_2 a1 t418 _ ?side1 ?side2 ?side3 ?side4 A5.out).mono ?_
 (case side1 => repeat (first | exact (Kd.C_below HR0_1.out HB.out) | (with_reducible refine Kd.C_alloc ?_ _) | (with_reducible refine Kd.C_drewN ?_ _) | (with_reducible refine Kd.C_drew ?_)))
 (case side2 => exact HC0_1.out)
 (case side3 => repeat (first | exact (Kd.C_below HR0_2.out HB.out) | (with_reducible refine Kd.C_alloc ?_ _) | (with_reducible refine Kd.C_drewN ?_ _) | (with_reducible refine Kd.C_drew ?_)))
 (case side4 => exact HC0_2.out)
 rintro e w10 ⟨v419, rfl, ho0, hb⟩
 refine ⟨_, rfl, ?_⟩
 have n0_ := Aside0.mk (Kd.R_elder' (rk_ HO417.out) (Kd.R_base ho0) hb)
 have n1_ := Aside0.mk (Kd.R_lower (Kd.R_new' ho0 (Kd.R_lt (rk_ HO417.out))) bz_)
 have n2_ := Aside0.mk (blk_below (g := gb414) (o := .cells #[.int .i64 a0_0, .slice A0_1 l0_1.length c0_1, .slice A0_2 l0_2.length c0_2] 36 (0, 0)) (bk_ BK414.out) hb)
 have n3_ := bt_ hb
 clear HO417
 clear BK414
 clear HB
 have HO417 := n0_
 have HO420 := n1_
 have BK414 := n2_
 have HB := n3_
 clear n0_ n1_ n2_ n3_
 (try clear hb)
 (try clear hb2)
 (try clear hk)
 (try clear hi)
 (try clear ho0)
 obtain ⟨Ao11, co11, eo11⟩ := Kd.R_slice HO417.out
 (first | subst eo11 | (injection eo11 with f1_ f2_ f3_; have f4_ := f1_.symm; have f5_ := f3_.symm; clear f1_ f2_ f3_; subst f4_; subst f5_))
 obtain ⟨Ao12, co12, eo12⟩ := Kd.R_slice HO420.out
 (first | subst eo12 | (injection eo12 with f1_ f2_ f3_; have f4_ := f1_.symm; have f5_ := f3_.symm; clear f1_ f2_ f3_; subst f4_; subst f5_))
 refine hK.out _ _ (by first | exact ⟨(blk_cell BK414.out 0).trans rfl, (blk_cell BK414.out 1).trans rfl, (blk_cell BK414.out 2).trans rfl⟩ | exact hHeld) (fun hHeld => ?_)
 clear hK K
 refine norm_ (a' := ?_) ?_ ?_
 rotate_left
 ·show Act.put _ (some 13) _ = _
  simp only [Act.put, List.setIfInBounds_toArray, List.set_cons_zero, List.set_cons_succ, i64_w, i32_w]
  rfl
 refine one_ (i := 8) (N := some 15) #[true, true, true, true, true, true, true, true, true, false] rfl rfl (one_of HT_.out (by kernel_rfl)) (by decide) (fun K hK => ?_)
 refine goes_ Try.func35 (by kernel_rfl) rfl #[.agg #[.int .i64 a0_0, .slice A0_1 l0_1.length c0_1, .slice A0_2 l0_2.length c0_2], .slice Ao11 t415.length co11, .slice Ao12 t418.length co12, .int .i64 a2] (by rfl) rfl rfl (by (try simp only [List.map_toArray, List.map_cons, List.map_nil]); first | done | rfl | (simp only [List.length_drop, List.length_take]; rfl)) ?_
 with_reducible refine (computusref19_In.calls k a0_0 _ _ l0_1 _ _ l0_2 _ _ t415 _ _ t418 a2 t421 _ ?side1 ?side2 ?side3 ?side4 ?side5 ?side6 ?side7 ?side8 A6.out).mono ?_
 (case side1 => repeat (first | exact (Kd.C_below HR0_1.out HB.out) | (with_reducible refine Kd.C_alloc ?_ _) | (with_reducible refine Kd.C_drewN ?_ _) | (with_reducible refine Kd.C_drew ?_)))
 (case side2 => exact HC0_1.out)
 (case side3 => repeat (first | exact (Kd.C_below HR0_2.out HB.out) | (with_reducible refine Kd.C_alloc ?_ _) | (with_reducible refine Kd.C_drewN ?_ _) | (with_reducible refine Kd.C_drew ?_)))
 (case side4 => exact HC0_2.out)
 (case side5 => repeat (first | exact (Kd.R_reads' HO417.out).2.2 | (with_reducible refine Kd.C_alloc ?_ _) | (with_reducible refine Kd.C_drewN ?_ _) | (with_reducible refine Kd.C_drew ?_)))
 (case side6 => exact (Kd.R_reads' HO417.out).2.1)
 (case side7 => repeat (first | exact (Kd.R_reads' HO420.out).2.2 | (with_reducible refine Kd.C_alloc ?_ _) | (with_reducible refine Kd.C_drewN ?_ _) | (with_reducible refine Kd.C_drew ?_)))
 (case side8 => exact (Kd.R_reads' HO420.out).2.1)
 rintro e w13 ⟨v422, rfl, ho0, hb⟩
 refine ⟨_, rfl, ?_⟩
 have n0_ := Aside0.mk (Kd.R_below (rk_ HO417.out) hb)
 have n1_ := Aside0.mk (Kd.R_below (rk_ HO420.out) hb)
 have n2_ := Aside0.mk (Kd.R_lower ho0 bz_)
 have n3_ := Aside0.mk (blk_below (g := gb414) (o := .cells #[.int .i64 a0_0, .slice A0_1 l0_1.length c0_1, .slice A0_2 l0_2.length c0_2] 36 (0, 0)) (bk_ BK414.out) hb)
 have n4_ := bt_ hb
 clear HO417
 clear HO420
 clear BK414
 clear HB
 have HO417 := n0_
 have HO420 := n1_
 have HO423 := n2_
 have BK414 := n3_
 have HB := n4_
 clear n0_ n1_ n2_ n3_ n4_
 (try clear hb)
 (try clear hb2)
 (try clear hk)
 (try clear hi)
 (try clear ho0)
 refine hK.out _ _ (by first | exact ⟨(blk_cell BK414.out 0).trans rfl, (blk_cell BK414.out 1).trans rfl, (blk_cell BK414.out 2).trans rfl⟩ | exact hHeld) (fun hHeld => ?_)
 clear hK K
 refine norm_ (a' := ?_) ?_ ?_
 rotate_left
 ·show Act.put _ (some 15) _ = _
  simp only [Act.put, List.setIfInBounds_toArray, List.set_cons_zero, List.set_cons_succ, i64_w, i32_w]
  rfl
 refine pure_ (i := 9) (N := some 6) (v := ?_) (a' := ?_) #[true, true, true, true, true, true, true, true, true, true] rfl rfl (any_of HT_.out (by kernel_rfl)) (fun _ _ _ h => h) (Or.inl ⟨by rfl, ?_⟩) ?_ ?_
 rotate_left
 ·intro w'
  go_simp
  with_reducible rfl
 rotate_left
 ·simp only [Act.put, List.setIfInBounds_toArray, List.set_cons_zero, List.set_cons_succ, i64_w, i32_w]
  rfl
 refine done_ (done_of HT_.out (by kernel_rfl)) ?_
 try go_wp2
 go_ret
 exact ⟨_, by first | rfl | (simp [errW_none, errW_some] <;> rfl) | (simp [*, errW_none, errW_some] <;> rfl), rk_ HO423.out, bh_⟩
end Go.Proofs.Ytopfjjdkffdjpaa.Q
end
section
namespace Go.Proofs.Ytopfjjdkffdjpaa.Q
open Go.RowKit Go.Proofs.YtopfjjdkffdjpaaW.PrintWords Go.Proofs.YtopfjjdkffdjpaaW.PrintLast Go.Proofs.YtopfjjdkffdjpaaW.PrintMore
attribute [local go_sem] max2_int min2_int max_two min_two max_three min_three max_four min_four
def computuslaw21_forward.l0 : Nat → List (S44) → List (S28) → Int → Option ((List (S28)))
 | 0, _, _, _ => none
 | k + 1, x0, x3, x4 => if x4 < (x0.length : Int) then (if 0 ≤ x4 then (if x3.length < 3518437208883 then (computuslaw21_forward.l0 k x0 (x3 ++ [(⟨(rd_T44 x0 x4).f0, (rd_T44 x0 x4).f1, (rd_T44 x0 x4).f2, (rd_T44 x0 x4).f3⟩ : S28)]) (wrap64 (x4 + 1))) else (none)) else (none)) else (some x3)
def computuslaw21_forward.f (k : Nat) (l0 : List (S44)) : Option ((List (S28))) := computuslaw21_forward.l0 k l0 ([] : List (S28)) 0
theorem computuslaw21_forward.mono_l : ∀ k, (∀ y0 y1 y2, LeO (computuslaw21_forward.l0 k y0 y1 y2) (computuslaw21_forward.l0 (k + 1) y0 y1 y2))
 | 0 => fun _ _ _ r h => by simp [computuslaw21_forward.l0] at h
 | k + 1 => by
  have ih0 := computuslaw21_forward.mono_l k
  ·intro y0 y1 y2
   unfold computuslaw21_forward.l0
   repeat' first | (with_reducible first | exact ih0 _ _ _ | exact LeO.refl _ | exact LeO.none _ | refine LeO.ite ?_ ?_ | refine LeO.bind ?_ (fun _ => ?_)) | exact ih0 _ _ _ | exact LeO.none _ | refine LeO.ite ?_ ?_ | refine LeO.bind ?_ (fun _ => ?_)
theorem computuslaw21_forward.mono : ∀ a0 k, LeO (computuslaw21_forward.f k a0) (computuslaw21_forward.f (k + 1) a0) := by
 intro a0 k
 have ih0 := computuslaw21_forward.mono_l k
 unfold computuslaw21_forward.f
 repeat' first | (with_reducible first | exact ih0 _ _ _ | exact LeO.refl _ | exact LeO.none _ | refine LeO.ite ?_ ?_ | refine LeO.bind ?_ (fun _ => ?_)) | exact ih0 _ _ _ | exact LeO.none _ | refine LeO.ite ?_ ?_ | refine LeO.bind ?_ (fun _ => ?_)
def computuslaw21_forward.T5 : Bool × List (List Nat × List Nat) := (true, [([], []), ([], []), ([], []), ([1, 2], [1, 2]), ([3], [3]), ([4], [4]), ([], []), ([], []), ([6, 7], [6, 7]), ([8], [8]), ([9], [9]), ([], []), ([], []), ([11, 12], [11, 12]), ([13], [13]), ([14], [14]), ([], []), ([], []), ([16, 17], [16, 17]), ([18], [18]), ([19], [19]), ([5, 10, 15, 20], [5, 10, 15, 20]), ([21], [21]), ([0, 22], [0, 22]), ([23, 23, 0, 1, 2, 3, 4, 5, 6, 7, 8, 9, 10, 11, 12, 13, 14, 15, 16, 17, 18, 19, 20, 21, 22, 23], [0, 23])])
def computuslaw21_forward.B5 : List Nat := [0, 0, 0, 6, 14, 30, 0, 0, 192, 448, 960, 0, 0, 6144, 14336, 30720, 0, 0, 196608, 458752, 983040, 2097150, 4194302, 8388607, 16777215]
theorem computuslaw21_forward.tab5 : rtab .any (opsOf Try.f18 5) = computuslaw21_forward.T5 := by kernel_rfl
theorem computuslaw21_forward.bits5 : waitsOk computuslaw21_forward.T5.2 computuslaw21_forward.B5 = true := by kernel_rfl
set_option maxHeartbeats 8000000 in
set_option maxRecDepth 100000 in
theorem computuslaw21_forward.calls (k : Nat) (A0 : Option Addr) (c0 : Nat) (l0 : List (S44)) (r : List (S28)) (w : World) (hr0 : Kd.C k44 w A0 l0.length l0) (hc0 : l0.length ≤ c0) (h : computuslaw21_forward.f k l0 = some r) :
  Calls Try.prog 18 #[.slice A0 l0.length c0] w fun e w' => ∃ v0_ : Value, e = .returned (v0_) ∧ Kd.R k28 28 w' w.heap.size (fun _ => True) v0_ r ∧ Below w.heap.size w w' := by
 have hu28 := Try.underlying28
 have HR0 := Aside0.mk hr0
 have HC0 := Aside0.mk hc0
 clear hr0 hc0
 have HB := Aside0.mk (Below.refl w.heap.size w)
 have H : (computuslaw21_forward.l0 k l0 ([] : List (S28)) 0) = some r := h
 clear h
 have H' := Aside0.mk H
 clear H
 go_enter Try.func18, Try.ntmps18
 go_wp2
 go_loopg [3, 4] k (fun kq v3 v4 w' => ∃ (x3_1 : List (S28)) (x4_1 : Int), v4 = .int .i64 x4_1 ∧ Aside0 (computuslaw21_forward.l0 kq l0 x3_1 x4_1 = some r) ∧ Aside0 (kq ≤ k) ∧ Aside0 (Kd.R k28 28 w' w.heap.size (fun _ => True) v3 x3_1) ∧ Aside0 (Below w.heap.size w w'))
 case atStart => exact ⟨(([] : List (S28))), (0), rs_, H', ⟨Nat.le_refl _⟩, ⟨nl_⟩, ⟨bh_⟩⟩
 case round =>
  clear H'
  try clear c1
  obtain ⟨x3_1, x4_1, rfl, HA, HK1, HO_3, HB⟩ := hrel
  cases gk with
  | zero => exact absurd HA.out (by simp [computuslaw21_forward.l0])
  | succ k1 =>
   have H := HA.out
   clear HA
   simp only [computuslaw21_forward.l0] at H
   by_cases c2 : x4_1 < (l0.length : Int)
   ·rw [if_pos c2] at H
    have c2b0 : decide (x4_1 < (l0.length : Int)) = true := decide_eq_true c2
    clear c2
    by_cases c3 : 0 ≤ x4_1
    ·rw [if_pos c3] at H
     have c3b0 : decide (0 ≤ x4_1) = true := decide_eq_true c3
     clear c3
     by_cases c4 : x3_1.length < 3518437208883
     ·rw [if_pos c4] at H
      have LMc4 := Aside0.mk c4
      clear c4
      obtain ⟨y428, hy428⟩ : ∃ y_ : List (S28), y_ = (x3_1 ++ [(⟨(rd_T44 l0 x4_1).f0, (rd_T44 l0 x4_1).f1, (rd_T44 l0 x4_1).f2, (rd_T44 l0 x4_1).f3⟩ : S28)]) := ⟨_, rfl⟩
      replace H : (computuslaw21_forward.l0 k1 l0 y428 (wrap64 (x4_1 + 1))) = some r := by first | (rw [hy428]; with_reducible exact H) | (have H2_ := (Option.bind_some _ _).symm.trans H; rw [hy428]; with_reducible exact H2_) | (have H2_ := (Option.bind_some _ _).symm.trans H; with_reducible exact H2_) | with_reducible exact H | (rw [hy428]; exact H) | exact H
      have Ny428 := Aside0.mk hy428
      clear hy428
      have H' := Aside0.mk H
      clear H
      try go_wp2
      have n0_ := Aside0.mk (Kd.R_drew HO_3.out)
      have n1_ := Aside0.mk (below_drew1 HB.out)
      clear HO_3
      clear HB
      have HO_3 := n0_
      have HB := n1_
      clear n0_ n1_
      have p424 : 0 ≤ (x4_1 : Int) := of_decide_eq_true as_
      have q424 : x4_1 < (l0.length : Int) := of_decide_eq_true as_
      obtain ⟨ad424, e424, hx424_0, hx424_1, hx424_2, hx424_3⟩ := at_T44 HR0.out x4_1 p424 q424
      have hw424_3 := hx424_3
      have hw424_2 := hx424_2
      have hw424_1 := hx424_1
      have hw424_0 := hx424_0
      cases e424
      replace hx424_0 := cm_ HB.out hx424_0
      replace hx424_1 := cm_ HB.out hx424_1
      replace hx424_2 := cm_ HB.out hx424_2
      replace hx424_3 := cm_ HB.out hx424_3
      replace p424 := eq_true p424
      replace q424 := eq_true q424
      have p425 : 0 ≤ (x4_1 : Int) := of_decide_eq_true as_
      have q425 : x4_1 < (l0.length : Int) := of_decide_eq_true as_
      obtain ⟨ad425, e425, hx425_0, hx425_1, hx425_2, hx425_3⟩ := at_T44 HR0.out x4_1 p425 q425
      have hw425_3 := hx425_3
      have hw425_2 := hx425_2
      have hw425_1 := hx425_1
      have hw425_0 := hx425_0
      obtain rfl : ad424 = ad425 := (by injection e425)
      replace hx425_0 := cm_ HB.out hx425_0
      replace hx425_1 := cm_ HB.out hx425_1
      replace hx425_2 := cm_ HB.out hx425_2
      replace hx425_3 := cm_ HB.out hx425_3
      replace p425 := eq_true p425
      replace q425 := eq_true q425
      have p426 : 0 ≤ (x4_1 : Int) := of_decide_eq_true as_
      have q426 : x4_1 < (l0.length : Int) := of_decide_eq_true as_
      obtain ⟨ad426, e426, hx426_0, hx426_1, hx426_2, hx426_3⟩ := at_T44 HR0.out x4_1 p426 q426
      have hw426_3 := hx426_3
      have hw426_2 := hx426_2
      have hw426_1 := hx426_1
      have hw426_0 := hx426_0
      obtain rfl : ad424 = ad426 := (by injection e426)
      replace hx426_0 := cm_ HB.out hx426_0
      replace hx426_1 := cm_ HB.out hx426_1
      replace hx426_2 := cm_ HB.out hx426_2
      replace hx426_3 := cm_ HB.out hx426_3
      replace p426 := eq_true p426
      replace q426 := eq_true q426
      have p427 : 0 ≤ (x4_1 : Int) := of_decide_eq_true as_
      have q427 : x4_1 < (l0.length : Int) := of_decide_eq_true as_
      obtain ⟨ad427, e427, hx427_0, hx427_1, hx427_2, hx427_3⟩ := at_T44 HR0.out x4_1 p427 q427
      have hw427_3 := hx427_3
      have hw427_2 := hx427_2
      have hw427_1 := hx427_1
      have hw427_0 := hx427_0
      obtain rfl : ad424 = ad427 := (by injection e427)
      replace hx427_0 := cm_ HB.out hx427_0
      replace hx427_1 := cm_ HB.out hx427_1
      replace hx427_2 := cm_ HB.out hx427_2
      replace hx427_3 := cm_ HB.out hx427_3
      replace p427 := eq_true p427
      replace q427 := eq_true q427
      refine start_ (n := 25) (S := fun w' => w'.cell? (ad424.add ((x4_1).toNat * 4)) = some (.int .i64 ((rd_T44 l0 x4_1).f0)) ∧ w'.cell? ⟨(ad424.add ((x4_1).toNat * 4)).block, (ad424.add ((x4_1).toNat * 4)).off + 1, none⟩ = some (.int .i64 ((rd_T44 l0 x4_1).f1)) ∧ w'.cell? ⟨(ad424.add ((x4_1).toNat * 4)).block, (ad424.add ((x4_1).toNat * 4)).off + 2, none⟩ = some (.int .i64 ((rd_T44 l0 x4_1).f2)) ∧ w'.cell? ⟨(ad424.add ((x4_1).toNat * 4)).block, (ad424.add ((x4_1).toNat * 4)).off + 3, none⟩ = some (.string ((rd_T44 l0 x4_1).f3)) ∧ w'.cell? (ad424.add ((x4_1).toNat * 4)) = some (.int .i64 ((rd_T44 l0 x4_1).f0)) ∧ w'.cell? ⟨(ad424.add ((x4_1).toNat * 4)).block, (ad424.add ((x4_1).toNat * 4)).off + 1, none⟩ = some (.int .i64 ((rd_T44 l0 x4_1).f1)) ∧ w'.cell? ⟨(ad424.add ((x4_1).toNat * 4)).block, (ad424.add ((x4_1).toNat * 4)).off + 2, none⟩ = some (.int .i64 ((rd_T44 l0 x4_1).f2)) ∧ w'.cell? ⟨(ad424.add ((x4_1).toNat * 4)).block, (ad424.add ((x4_1).toNat * 4)).off + 3, none⟩ = some (.string ((rd_T44 l0 x4_1).f3)) ∧ w'.cell? (ad424.add ((x4_1).toNat * 4)) = some (.int .i64 ((rd_T44 l0 x4_1).f0)) ∧ w'.cell? ⟨(ad424.add ((x4_1).toNat * 4)).block, (ad424.add ((x4_1).toNat * 4)).off + 1, none⟩ = some (.int .i64 ((rd_T44 l0 x4_1).f1)) ∧ w'.cell? ⟨(ad424.add ((x4_1).toNat * 4)).block, (ad424.add ((x4_1).toNat * 4)).off + 2, none⟩ = some (.int .i64 ((rd_T44 l0 x4_1).f2)) ∧ w'.cell? ⟨(ad424.add ((x4_1).toNat * 4)).block, (ad424.add ((x4_1).toNat * 4)).off + 3, none⟩ = some (.string ((rd_T44 l0 x4_1).f3)) ∧ w'.cell? (ad424.add ((x4_1).toNat * 4)) = some (.int .i64 ((rd_T44 l0 x4_1).f0)) ∧ w'.cell? ⟨(ad424.add ((x4_1).toNat * 4)).block, (ad424.add ((x4_1).toNat * 4)).off + 1, none⟩ = some (.int .i64 ((rd_T44 l0 x4_1).f1)) ∧ w'.cell? ⟨(ad424.add ((x4_1).toNat * 4)).block, (ad424.add ((x4_1).toNat * 4)).off + 2, none⟩ = some (.int .i64 ((rd_T44 l0 x4_1).f2)) ∧ w'.cell? ⟨(ad424.add ((x4_1).toNat * 4)).block, (ad424.add ((x4_1).toNat * 4)).off + 3, none⟩ = some (.string ((rd_T44 l0 x4_1).f3))) (ds := []) #[false, false, false, false, false, false, false, false, false, false, false, false, false, false, false, false, false, false, false, false, false, false, false, false, false] (by kernel_rfl) rfl rfl ⟨((HB.out.cell (World.block_lt_of_cell? w _ hw424_0)).trans hw424_0), ((HB.out.cell (World.block_lt_of_cell? w _ hw424_1)).trans hw424_1), ((HB.out.cell (World.block_lt_of_cell? w _ hw424_2)).trans hw424_2), ((HB.out.cell (World.block_lt_of_cell? w _ hw424_3)).trans hw424_3), ((HB.out.cell (World.block_lt_of_cell? w _ hw425_0)).trans hw425_0), ((HB.out.cell (World.block_lt_of_cell? w _ hw425_1)).trans hw425_1), ((HB.out.cell (World.block_lt_of_cell? w _ hw425_2)).trans hw425_2), ((HB.out.cell (World.block_lt_of_cell? w _ hw425_3)).trans hw425_3), ((HB.out.cell (World.block_lt_of_cell? w _ hw426_0)).trans hw426_0), ((HB.out.cell (World.block_lt_of_cell? w _ hw426_1)).trans hw426_1), ((HB.out.cell (World.block_lt_of_cell? w _ hw426_2)).trans hw426_2), ((HB.out.cell (World.block_lt_of_cell? w _ hw426_3)).trans hw426_3), ((HB.out.cell (World.block_lt_of_cell? w _ hw427_0)).trans hw427_0), ((HB.out.cell (World.block_lt_of_cell? w _ hw427_1)).trans hw427_1), ((HB.out.cell (World.block_lt_of_cell? w _ hw427_2)).trans hw427_2), ((HB.out.cell (World.block_lt_of_cell? w _ hw427_3)).trans hw427_3)⟩ (fun hHeld => ?_); refine with_tabW computuslaw21_forward.tab5 computuslaw21_forward.bits5 (fun HT_ HW_ => ?_)
      generalize wr.drew = w5 at HO_3 HB hx424_0 hx424_1 hx424_2 hx424_3 hx425_0 hx425_1 hx425_2 hx425_3 hx426_0 hx426_1 hx426_2 hx426_3 hx427_0 hx427_1 hx427_2 hx427_3 hHeld ⊢
      refine pure_ (i := 0) (N := some 11) (v := ?_) (a' := ?_) #[true, false, false, false, false, false, false, false, false, false, false, false, false, false, false, false, false, false, false, false, false, false, false, false, false] rfl rfl (any_of HT_.out (by kernel_rfl)) (fun _ _ _ h => h) (Or.inl ⟨by rfl, ?_⟩) ?_ ?_
      rotate_left
      ·intro w'
       go_simp
       with_reducible rfl
      rotate_left
      ·simp only [Act.put, List.setIfInBounds_toArray, List.set_cons_zero, List.set_cons_succ, i64_w, i32_w]
       rfl
      refine pure_ (i := 1) (N := some 12) (v := ?_) (a' := ?_) #[true, true, false, false, false, false, false, false, false, false, false, false, false, false, false, false, false, false, false, false, false, false, false, false, false] rfl rfl (any_of HT_.out (by kernel_rfl)) (fun _ _ _ h => h) (Or.inl ⟨by rfl, ?_⟩) ?_ ?_
      rotate_left
      ·intro w'
       go_simp
       with_reducible rfl
      rotate_left
      ·simp only [Act.put, List.setIfInBounds_toArray, List.set_cons_zero, List.set_cons_succ, i64_w, i32_w]
       rfl
      refine pure_ (i := 2) (N := some 13) (v := ?_) (a' := ?_) #[true, true, true, false, false, false, false, false, false, false, false, false, false, false, false, false, false, false, false, false, false, false, false, false, false] rfl rfl (any_of HT_.out (by kernel_rfl)) (fun _ _ _ h => h) (Or.inl ⟨by rfl, ?_⟩) ?_ ?_
      rotate_left
      ·intro w'
       go_simp
       with_reducible rfl
      rotate_left
      ·simp only [Act.put, List.setIfInBounds_toArray, List.set_cons_zero, List.set_cons_succ, i64_w, i32_w]
       rfl
      refine pure_ (i := 3) (N := some 14) (v := ?_) (a' := ?_) #[true, true, true, true, false, false, false, false, false, false, false, false, false, false, false, false, false, false, false, false, false, false, false, false, false] rfl rfl (any_of HT_.out (by kernel_rfl)) (fun _ _ _ h => h) (Or.inl ⟨by rfl, ?_⟩) ?_ ?_
      rotate_left
      ·intro w'
       go_simp
       with_reducible rfl
      rotate_left
      ·simp only [Act.put, List.setIfInBounds_toArray, List.set_cons_zero, List.set_cons_succ, i64_w, i32_w]
       rfl
      refine pure_ (i := 4) (N := some 15) (v := ?_) (a' := ?_) #[true, true, true, true, true, false, false, false, false, false, false, false, false, false, false, false, false, false, false, false, false, false, false, false, false] rfl rfl (any_of HT_.out (by kernel_rfl)) (fun _ _ _ h => h) (Or.inl ⟨by rfl, ?_⟩) ?_ ?_
      rotate_left
      ·intro w'
       go_simp
       with_reducible rfl
      rotate_left
      ·simp only [Act.put, List.setIfInBounds_toArray, List.set_cons_zero, List.set_cons_succ, i64_w, i32_w]
       rfl
      refine pure_ (i := 6) (N := some 17) (v := ?_) (a' := ?_) #[true, true, true, true, true, false, true, false, false, false, false, false, false, false, false, false, false, false, false, false, false, false, false, false, false] rfl rfl (any_of HT_.out (by kernel_rfl)) (fun _ _ _ h => h) (Or.inl ⟨by rfl, ?_⟩) ?_ ?_
      rotate_left
      ·intro w'
       go_simp
       with_reducible rfl
      rotate_left
      ·simp only [Act.put, List.setIfInBounds_toArray, List.set_cons_zero, List.set_cons_succ, i64_w, i32_w]
       rfl
      refine pure_ (i := 7) (N := some 18) (v := ?_) (a' := ?_) #[true, true, true, true, true, false, true, true, false, false, false, false, false, false, false, false, false, false, false, false, false, false, false, false, false] rfl rfl (any_of HT_.out (by kernel_rfl)) (fun _ _ _ h => h) (Or.inl ⟨by rfl, ?_⟩) ?_ ?_
      rotate_left
      ·intro w'
       go_simp
       with_reducible rfl
      rotate_left
      ·simp only [Act.put, List.setIfInBounds_toArray, List.set_cons_zero, List.set_cons_succ, i64_w, i32_w]
       rfl
      refine pure_ (i := 8) (N := some 19) (v := ?_) (a' := ?_) #[true, true, true, true, true, false, true, true, true, false, false, false, false, false, false, false, false, false, false, false, false, false, false, false, false] rfl rfl (any_of HT_.out (by kernel_rfl)) (fun _ _ _ h => h) (Or.inl ⟨by rfl, ?_⟩) ?_ ?_
      rotate_left
      ·intro w'
       go_simp
       with_reducible rfl
      rotate_left
      ·simp only [Act.put, List.setIfInBounds_toArray, List.set_cons_zero, List.set_cons_succ, i64_w, i32_w]
       rfl
      refine pure_ (i := 9) (N := some 20) (v := ?_) (a' := ?_) #[true, true, true, true, true, false, true, true, true, true, false, false, false, false, false, false, false, false, false, false, false, false, false, false, false] rfl rfl (any_of HT_.out (by kernel_rfl)) (fun _ _ _ h => h) (Or.inl ⟨by rfl, ?_⟩) ?_ ?_
      rotate_left
      ·intro w'
       go_simp
       with_reducible rfl
      rotate_left
      ·simp only [Act.put, List.setIfInBounds_toArray, List.set_cons_zero, List.set_cons_succ, i64_w, i32_w]
       rfl
      refine pure_ (i := 11) (N := some 22) (v := ?_) (a' := ?_) #[true, true, true, true, true, false, true, true, true, true, false, true, false, false, false, false, false, false, false, false, false, false, false, false, false] rfl rfl (any_of HT_.out (by kernel_rfl)) (fun _ _ _ h => h) (Or.inl ⟨by rfl, ?_⟩) ?_ ?_
      rotate_left
      ·intro w'
       go_simp
       with_reducible rfl
      rotate_left
      ·simp only [Act.put, List.setIfInBounds_toArray, List.set_cons_zero, List.set_cons_succ, i64_w, i32_w]
       rfl
      refine pure_ (i := 12) (N := some 23) (v := ?_) (a' := ?_) #[true, true, true, true, true, false, true, true, true, true, false, true, true, false, false, false, false, false, false, false, false, false, false, false, false] rfl rfl (any_of HT_.out (by kernel_rfl)) (fun _ _ _ h => h) (Or.inl ⟨by rfl, ?_⟩) ?_ ?_
      rotate_left
      ·intro w'
       go_simp
       with_reducible rfl
      rotate_left
      ·simp only [Act.put, List.setIfInBounds_toArray, List.set_cons_zero, List.set_cons_succ, i64_w, i32_w]
       rfl
      refine pure_ (i := 13) (N := some 24) (v := ?_) (a' := ?_) #[true, true, true, true, true, false, true, true, true, true, false, true, true, true, false, false, false, false, false, false, false, false, false, false, false] rfl rfl (any_of HT_.out (by kernel_rfl)) (fun _ _ _ h => h) (Or.inl ⟨by rfl, ?_⟩) ?_ ?_
      rotate_left
      ·intro w'
       go_simp
       with_reducible rfl
      rotate_left
      ·simp only [Act.put, List.setIfInBounds_toArray, List.set_cons_zero, List.set_cons_succ, i64_w, i32_w]
       rfl
      refine pure_ (i := 14) (N := some 25) (v := ?_) (a' := ?_) #[true, true, true, true, true, false, true, true, true, true, false, true, true, true, true, false, false, false, false, false, false, false, false, false, false] rfl rfl (any_of HT_.out (by kernel_rfl)) (fun _ _ _ h => h) (Or.inl ⟨by rfl, ?_⟩) ?_ ?_
      rotate_left
      ·intro w'
       go_simp
       with_reducible rfl
      rotate_left
      ·simp only [Act.put, List.setIfInBounds_toArray, List.set_cons_zero, List.set_cons_succ, i64_w, i32_w]
       rfl
      refine pure_ (i := 16) (N := some 27) (v := ?_) (a' := ?_) #[true, true, true, true, true, false, true, true, true, true, false, true, true, true, true, false, true, false, false, false, false, false, false, false, false] rfl rfl (any_of HT_.out (by kernel_rfl)) (fun _ _ _ h => h) (Or.inl ⟨by rfl, ?_⟩) ?_ ?_
      rotate_left
      ·intro w'
       go_simp
       with_reducible rfl
      rotate_left
      ·simp only [Act.put, List.setIfInBounds_toArray, List.set_cons_zero, List.set_cons_succ, i64_w, i32_w]
       rfl
      refine pure_ (i := 17) (N := some 28) (v := ?_) (a' := ?_) #[true, true, true, true, true, false, true, true, true, true, false, true, true, true, true, false, true, true, false, false, false, false, false, false, false] rfl rfl (any_of HT_.out (by kernel_rfl)) (fun _ _ _ h => h) (Or.inl ⟨by rfl, ?_⟩) ?_ ?_
      rotate_left
      ·intro w'
       go_simp
       with_reducible rfl
      rotate_left
      ·simp only [Act.put, List.setIfInBounds_toArray, List.set_cons_zero, List.set_cons_succ, i64_w, i32_w]
       rfl
      refine pure_ (i := 18) (N := some 29) (v := ?_) (a' := ?_) #[true, true, true, true, true, false, true, true, true, true, false, true, true, true, true, false, true, true, true, false, false, false, false, false, false] rfl rfl (any_of HT_.out (by kernel_rfl)) (fun _ _ _ h => h) (Or.inl ⟨by rfl, ?_⟩) ?_ ?_
      rotate_left
      ·intro w'
       go_simp
       with_reducible rfl
      rotate_left
      ·simp only [Act.put, List.setIfInBounds_toArray, List.set_cons_zero, List.set_cons_succ, i64_w, i32_w]
       rfl
      refine pure_ (i := 19) (N := some 30) (v := ?_) (a' := ?_) #[true, true, true, true, true, false, true, true, true, true, false, true, true, true, true, false, true, true, true, true, false, false, false, false, false] rfl rfl (any_of HT_.out (by kernel_rfl)) (fun _ _ _ h => h) (Or.inl ⟨by rfl, ?_⟩) ?_ ?_
      rotate_left
      ·intro w'
       go_simp
       with_reducible rfl
      rotate_left
      ·simp only [Act.put, List.setIfInBounds_toArray, List.set_cons_zero, List.set_cons_succ, i64_w, i32_w]
       rfl
      refine take_ (i := 5) (N := some 16) (v := ?_) (a' := ?_) #[true, true, true, true, true, true, true, true, true, true, false, true, true, true, true, false, true, true, true, true, false, false, false, false, false] rfl rfl (take_ofW HT_.out HW_.out (by kernel_rfl)) (fun _ _ _ h => h) (Or.inl ⟨by rfl, ?_⟩) hHeld ?_ ?_
      rotate_left
      ·rintro w' ⟨s0, s1, s2, s3, s4, s5, s6, s7, s8, s9, s10, s11, s12, s13, s14, s15⟩
       go_simp
       with_reducible rfl
      rotate_left
      ·simp only [Act.put, List.setIfInBounds_toArray, List.set_cons_zero, List.set_cons_succ, i64_w, i32_w]
       rfl
      refine take_ (i := 10) (N := some 21) (v := ?_) (a' := ?_) #[true, true, true, true, true, true, true, true, true, true, true, true, true, true, true, false, true, true, true, true, false, false, false, false, false] rfl rfl (take_ofW HT_.out HW_.out (by kernel_rfl)) (fun _ _ _ h => h) (Or.inl ⟨by rfl, ?_⟩) hHeld ?_ ?_
      rotate_left
      ·rintro w' ⟨s0, s1, s2, s3, s4, s5, s6, s7, s8, s9, s10, s11, s12, s13, s14, s15⟩
       go_simp
       with_reducible rfl
      rotate_left
      ·simp only [Act.put, List.setIfInBounds_toArray, List.set_cons_zero, List.set_cons_succ, i64_w, i32_w]
       rfl
      refine take_ (i := 15) (N := some 26) (v := ?_) (a' := ?_) #[true, true, true, true, true, true, true, true, true, true, true, true, true, true, true, true, true, true, true, true, false, false, false, false, false] rfl rfl (take_ofW HT_.out HW_.out (by kernel_rfl)) (fun _ _ _ h => h) (Or.inl ⟨by rfl, ?_⟩) hHeld ?_ ?_
      rotate_left
      ·rintro w' ⟨s0, s1, s2, s3, s4, s5, s6, s7, s8, s9, s10, s11, s12, s13, s14, s15⟩
       go_simp
       with_reducible rfl
      rotate_left
      ·simp only [Act.put, List.setIfInBounds_toArray, List.set_cons_zero, List.set_cons_succ, i64_w, i32_w]
       rfl
      refine take_ (i := 20) (N := some 31) (v := ?_) (a' := ?_) #[true, true, true, true, true, true, true, true, true, true, true, true, true, true, true, true, true, true, true, true, true, false, false, false, false] rfl rfl (take_ofW HT_.out HW_.out (by kernel_rfl)) (fun _ _ _ h => h) (Or.inl ⟨by rfl, ?_⟩) hHeld ?_ ?_
      rotate_left
      ·rintro w' ⟨s0, s1, s2, s3, s4, s5, s6, s7, s8, s9, s10, s11, s12, s13, s14, s15⟩
       go_simp
       with_reducible rfl
      rotate_left
      ·simp only [Act.put, List.setIfInBounds_toArray, List.set_cons_zero, List.set_cons_succ, i64_w, i32_w]
       rfl
      refine pure_ (i := 21) (N := some 32) (v := ?_) (a' := ?_) #[true, true, true, true, true, true, true, true, true, true, true, true, true, true, true, true, true, true, true, true, true, true, false, false, false] rfl rfl (any_of HT_.out (by kernel_rfl)) (fun _ _ _ h => h) (Or.inl ⟨by rfl, ?_⟩) ?_ ?_
      rotate_left
      ·intro w'
       go_simp
       with_reducible rfl
      rotate_left
      ·simp only [Act.put, List.setIfInBounds_toArray, List.set_cons_zero, List.set_cons_succ, i64_w, i32_w]
       rfl
      refine one_ (i := 22) (N := some 33) #[true, true, true, true, true, true, true, true, true, true, true, true, true, true, true, true, true, true, true, true, true, true, true, false, false] rfl rfl (one_of HT_.out (by kernel_rfl)) (by decide) (fun K hK => ?_)
      refine value_ (w1 := ?_) (v := ?_) (by rfl) rfl ?_ ?_
      rotate_left 2
      ·go_simp
       constructor
       ·rfl
       ·rfl
      refine hK.out _ _ ⟨(World.cell?_alloc_lt _ _ _ (World.block_lt_of_cell? _ _ (((HB.out.cell (World.block_lt_of_cell? w _ hw424_0)).trans hw424_0)))).trans (((HB.out.cell (World.block_lt_of_cell? w _ hw424_0)).trans hw424_0)), (World.cell?_alloc_lt _ _ _ (World.block_lt_of_cell? _ _ (((HB.out.cell (World.block_lt_of_cell? w _ hw424_1)).trans hw424_1)))).trans (((HB.out.cell (World.block_lt_of_cell? w _ hw424_1)).trans hw424_1)), (World.cell?_alloc_lt _ _ _ (World.block_lt_of_cell? _ _ (((HB.out.cell (World.block_lt_of_cell? w _ hw424_2)).trans hw424_2)))).trans (((HB.out.cell (World.block_lt_of_cell? w _ hw424_2)).trans hw424_2)), (World.cell?_alloc_lt _ _ _ (World.block_lt_of_cell? _ _ (((HB.out.cell (World.block_lt_of_cell? w _ hw424_3)).trans hw424_3)))).trans (((HB.out.cell (World.block_lt_of_cell? w _ hw424_3)).trans hw424_3)), (World.cell?_alloc_lt _ _ _ (World.block_lt_of_cell? _ _ (((HB.out.cell (World.block_lt_of_cell? w _ hw425_0)).trans hw425_0)))).trans (((HB.out.cell (World.block_lt_of_cell? w _ hw425_0)).trans hw425_0)), (World.cell?_alloc_lt _ _ _ (World.block_lt_of_cell? _ _ (((HB.out.cell (World.block_lt_of_cell? w _ hw425_1)).trans hw425_1)))).trans (((HB.out.cell (World.block_lt_of_cell? w _ hw425_1)).trans hw425_1)), (World.cell?_alloc_lt _ _ _ (World.block_lt_of_cell? _ _ (((HB.out.cell (World.block_lt_of_cell? w _ hw425_2)).trans hw425_2)))).trans (((HB.out.cell (World.block_lt_of_cell? w _ hw425_2)).trans hw425_2)), (World.cell?_alloc_lt _ _ _ (World.block_lt_of_cell? _ _ (((HB.out.cell (World.block_lt_of_cell? w _ hw425_3)).trans hw425_3)))).trans (((HB.out.cell (World.block_lt_of_cell? w _ hw425_3)).trans hw425_3)), (World.cell?_alloc_lt _ _ _ (World.block_lt_of_cell? _ _ (((HB.out.cell (World.block_lt_of_cell? w _ hw426_0)).trans hw426_0)))).trans (((HB.out.cell (World.block_lt_of_cell? w _ hw426_0)).trans hw426_0)), (World.cell?_alloc_lt _ _ _ (World.block_lt_of_cell? _ _ (((HB.out.cell (World.block_lt_of_cell? w _ hw426_1)).trans hw426_1)))).trans (((HB.out.cell (World.block_lt_of_cell? w _ hw426_1)).trans hw426_1)), (World.cell?_alloc_lt _ _ _ (World.block_lt_of_cell? _ _ (((HB.out.cell (World.block_lt_of_cell? w _ hw426_2)).trans hw426_2)))).trans (((HB.out.cell (World.block_lt_of_cell? w _ hw426_2)).trans hw426_2)), (World.cell?_alloc_lt _ _ _ (World.block_lt_of_cell? _ _ (((HB.out.cell (World.block_lt_of_cell? w _ hw426_3)).trans hw426_3)))).trans (((HB.out.cell (World.block_lt_of_cell? w _ hw426_3)).trans hw426_3)), (World.cell?_alloc_lt _ _ _ (World.block_lt_of_cell? _ _ (((HB.out.cell (World.block_lt_of_cell? w _ hw427_0)).trans hw427_0)))).trans (((HB.out.cell (World.block_lt_of_cell? w _ hw427_0)).trans hw427_0)), (World.cell?_alloc_lt _ _ _ (World.block_lt_of_cell? _ _ (((HB.out.cell (World.block_lt_of_cell? w _ hw427_1)).trans hw427_1)))).trans (((HB.out.cell (World.block_lt_of_cell? w _ hw427_1)).trans hw427_1)), (World.cell?_alloc_lt _ _ _ (World.block_lt_of_cell? _ _ (((HB.out.cell (World.block_lt_of_cell? w _ hw427_2)).trans hw427_2)))).trans (((HB.out.cell (World.block_lt_of_cell? w _ hw427_2)).trans hw427_2)), (World.cell?_alloc_lt _ _ _ (World.block_lt_of_cell? _ _ (((HB.out.cell (World.block_lt_of_cell? w _ hw427_3)).trans hw427_3)))).trans (((HB.out.cell (World.block_lt_of_cell? w _ hw427_3)).trans hw427_3))⟩ (fun hHeld => ?_)
      clear hK K
      refine norm_ (a' := ?_) ?_ ?_
      rotate_left
      ·show Act.put _ (some 33) _ = _
       simp only [Act.put, List.setIfInBounds_toArray, List.set_cons_zero, List.set_cons_succ, i64_w, i32_w]
       rfl
      refine one_ (i := 23) (N := some 34) #[true, true, true, true, true, true, true, true, true, true, true, true, true, true, true, true, true, true, true, true, true, true, true, true, false] rfl rfl (one_of HT_.out (by kernel_rfl)) (by decide) (fun K hK => ?_)
      refine Kd.R_append_step k28 (w0 := w) w.heap.size (by rfl) (.tmp 11) (.tmp 33) 24 28 (.agg #[(.int .i64 0), (.int .i64 0), (.int .i64 0), (.string ⟨#[]⟩)]) 40 rfl Try.underlying24 info28 rfl (by decide) (by omega) u3 x3_1 (⟨(rd_T44 l0 x4_1).f0, (rd_T44 l0 x4_1).f1, (rd_T44 l0 x4_1).f2, (rd_T44 l0 x4_1).f3⟩ : S28) [.int .i64 ((rd_T44 l0 x4_1).f0), .int .i64 ((rd_T44 l0 x4_1).f1), .int .i64 ((rd_T44 l0 x4_1).f2), .string ((rd_T44 l0 x4_1).f3)] (fun _ => True) (fun _ => False) rfl rfl ?aP (fun _ hk => hk.elim) ?aF ?aO ?aB ?aS ?aL ?_
      (case aP => exact k28_mkM _ _ _ (⟨(rd_T44 l0 x4_1).f0, (rd_T44 l0 x4_1).f1, (rd_T44 l0 x4_1).f2, (rd_T44 l0 x4_1).f3⟩ : S28))
      (case aB => exact bh_)
      (case aF => exact (fun _ _ => trivial))
      (case aO => exact (rk_ HO_3.out))
      (case aS => exact bz_)
      (case aL => have := LMc4.out; omega)
      intro v429 w6 ho hb hg hat
      rw [← Ny428.out] at ho
      have n0_ := Aside0.mk (hb)
      have n1_ := Aside0.mk (ho)
      clear HB
      clear HO_3
      have HB := n0_
      have HO430 := n1_
      clear n0_ n1_
      clear ho hb hg hat
      refine hK.out _ _ ⟨((HB.out.cell (World.block_lt_of_cell? w _ hw424_0)).trans hw424_0), ((HB.out.cell (World.block_lt_of_cell? w _ hw424_1)).trans hw424_1), ((HB.out.cell (World.block_lt_of_cell? w _ hw424_2)).trans hw424_2), ((HB.out.cell (World.block_lt_of_cell? w _ hw424_3)).trans hw424_3), ((HB.out.cell (World.block_lt_of_cell? w _ hw425_0)).trans hw425_0), ((HB.out.cell (World.block_lt_of_cell? w _ hw425_1)).trans hw425_1), ((HB.out.cell (World.block_lt_of_cell? w _ hw425_2)).trans hw425_2), ((HB.out.cell (World.block_lt_of_cell? w _ hw425_3)).trans hw425_3), ((HB.out.cell (World.block_lt_of_cell? w _ hw426_0)).trans hw426_0), ((HB.out.cell (World.block_lt_of_cell? w _ hw426_1)).trans hw426_1), ((HB.out.cell (World.block_lt_of_cell? w _ hw426_2)).trans hw426_2), ((HB.out.cell (World.block_lt_of_cell? w _ hw426_3)).trans hw426_3), ((HB.out.cell (World.block_lt_of_cell? w _ hw427_0)).trans hw427_0), ((HB.out.cell (World.block_lt_of_cell? w _ hw427_1)).trans hw427_1), ((HB.out.cell (World.block_lt_of_cell? w _ hw427_2)).trans hw427_2), ((HB.out.cell (World.block_lt_of_cell? w _ hw427_3)).trans hw427_3)⟩ (fun hHeld => ?_)
      clear hK K
      refine norm_ (a' := ?_) ?_ ?_
      rotate_left
      ·show Act.put _ (some 34) _ = _
       simp only [Act.put, List.setIfInBounds_toArray, List.set_cons_zero, List.set_cons_succ, i64_w, i32_w]
       rfl
      refine pure_ (i := 24) (N := some 3) (v := ?_) (a' := ?_) #[true, true, true, true, true, true, true, true, true, true, true, true, true, true, true, true, true, true, true, true, true, true, true, true, true] rfl rfl (any_of HT_.out (by kernel_rfl)) (fun _ _ _ h => h) (Or.inl ⟨by rfl, ?_⟩) ?_ ?_
      rotate_left
      ·intro w'
       go_simp
       with_reducible rfl
      rotate_left
      ·simp only [Act.put, List.setIfInBounds_toArray, List.set_cons_zero, List.set_cons_succ, i64_w, i32_w]
       rfl
      refine done_ (done_of HT_.out (by kernel_rfl)) ?_
      try go_wp2
      go_roundg k1
      case measure => have := HK1.out; omega
      case rel => exact ⟨(y428), (wrap64 (x4_1 + 1)), rs_, H', ⟨by have := HK1.out; omega⟩, ⟨rk_ HO430.out⟩, ⟨bh_⟩⟩
     ·rw [if_neg c4] at H
      exact absurd H (by simp)
    ·rw [if_neg c3] at H
     exact absurd H (by simp)
   ·rw [if_neg c2] at H
    have c2b0 : decide (x4_1 < (l0.length : Int)) = false := decide_eq_false c2
    clear c2
    obtain rfl := Option.some.inj H
    go_wp2
    go_ret
    exact ⟨_, by first | rfl | (simp [errW_none, errW_some] <;> rfl) | (simp [*, errW_none, errW_some] <;> rfl), rk_ HO_3.out, bh_⟩
end Go.Proofs.Ytopfjjdkffdjpaa.Q
end
section
namespace Go.Proofs.Ytopfjjdkffdjpaa.Q
open Go.RowKit Go.Proofs.YtopfjjdkffdjpaaW.PrintWords Go.Proofs.YtopfjjdkffdjpaaW.PrintLast Go.Proofs.YtopfjjdkffdjpaaW.PrintMore
attribute [local go_sem] max2_int min2_int max_two min_two max_three min_three max_four min_four
mutual
def computuslaw21_ordered.l0 : Nat → List Int → Int → Int → List (S66) → List (S68) → Option (Bool)
 | 0, _, _, _, _, _ => none
 | k + 1, x1, x5, x719000, x719001, x719002 => if x5 < (x1.length : Int) then (if 0 ≤ x5 then (if (rd x1 x5) < 0 then (computuslaw21_ordered.j1 k x1 x5 true x719000 x719001 x719002) else (computuslaw21_ordered.j1 k x1 x5 (decide ((rd x1 x5) ≥ (x719002.length : Int))) x719000 x719001 x719002)) else (none)) else (some true)
def computuslaw21_ordered.j1 : Nat → List Int → Int → Bool → Int → List (S66) → List (S68) → Option (Bool)
 | 0, _, _, _, _, _, _ => none
 | k + 1, x1, x5, x28, x719000, x719001, x719002 => if x28 = true then (some false) else (if x5 = 0 then (computuslaw21_ordered.l0 k x1 (wrap64 (x5 + 1)) x719000 x719001 x719002) else (if 0 ≤ (wrap64 (x5 - 1)) then (if (wrap64 (x5 - 1)) < (x1.length : Int) then (if 0 ≤ (rd x1 (wrap64 (x5 - 1))) then (if (rd x1 (wrap64 (x5 - 1))) < (x719002.length : Int) then (if 0 ≤ x5 then (if x5 < (x1.length : Int) then (if 0 ≤ (rd x1 x5) then (if (rd x1 x5) < (x719002.length : Int) then (if ((rd_T68 x719002 (rd x1 (wrap64 (x5 - 1)))).f1) > ((rd_T68 x719002 (rd x1 x5)).f1) then (some false) else (if ((rd_T68 x719002 (rd x1 (wrap64 (x5 - 1)))).f1) = ((rd_T68 x719002 (rd x1 x5)).f1) then (if (rd x1 (wrap64 (x5 - 1))) ≥ (rd x1 x5) then (some false) else (computuslaw21_ordered.l0 k x1 (wrap64 (x5 + 1)) x719000 x719001 x719002)) else (computuslaw21_ordered.l0 k x1 (wrap64 (x5 + 1)) x719000 x719001 x719002))) else (none)) else (none)) else (none)) else (none)) else (none)) else (none)) else (none)) else (none)))
end
def computuslaw21_ordered.f (k : Nat) (a0_0 : Int) (l0_1 : List (S66)) (l0_2 : List (S68)) (l1 : List Int) : Option (Bool) := computuslaw21_ordered.l0 k l1 0 a0_0 l0_1 l0_2
theorem computuslaw21_ordered.mono_l : ∀ k, (∀ y0 y1 y2 y3 y4, LeO (computuslaw21_ordered.l0 k y0 y1 y2 y3 y4) (computuslaw21_ordered.l0 (k + 1) y0 y1 y2 y3 y4)) ∧ (∀ y0 y1 y2 y3 y4 y5, LeO (computuslaw21_ordered.j1 k y0 y1 y2 y3 y4 y5) (computuslaw21_ordered.j1 (k + 1) y0 y1 y2 y3 y4 y5))
 | 0 => ⟨fun _ _ _ _ _ r h => by simp [computuslaw21_ordered.l0] at h, fun _ _ _ _ _ _ r h => by simp [computuslaw21_ordered.j1] at h⟩
 | k + 1 => by
  obtain ⟨ih0, ih1⟩ := computuslaw21_ordered.mono_l k
  refine ⟨?_, ?_⟩
  ·intro y0 y1 y2 y3 y4
   unfold computuslaw21_ordered.l0
   repeat' first | (with_reducible first | exact ih0 _ _ _ _ _ | exact ih1 _ _ _ _ _ _ | exact LeO.refl _ | exact LeO.none _ | refine LeO.ite ?_ ?_ | refine LeO.bind ?_ (fun _ => ?_)) | exact ih0 _ _ _ _ _ | exact ih1 _ _ _ _ _ _ | exact LeO.none _ | refine LeO.ite ?_ ?_ | refine LeO.bind ?_ (fun _ => ?_)
  ·intro y0 y1 y2 y3 y4 y5
   unfold computuslaw21_ordered.j1
   repeat' first | (with_reducible first | exact ih0 _ _ _ _ _ | exact ih1 _ _ _ _ _ _ | exact LeO.refl _ | exact LeO.none _ | refine LeO.ite ?_ ?_ | refine LeO.bind ?_ (fun _ => ?_)) | exact ih0 _ _ _ _ _ | exact ih1 _ _ _ _ _ _ | exact LeO.none _ | refine LeO.ite ?_ ?_ | refine LeO.bind ?_ (fun _ => ?_)
theorem computuslaw21_ordered.mono : ∀ a0 a1 a2 a3 k, LeO (computuslaw21_ordered.f k a0 a1 a2 a3) (computuslaw21_ordered.f (k + 1) a0 a1 a2 a3) := by
 intro a0 a1 a2 a3 k
 obtain ⟨ih0, ih1⟩ := computuslaw21_ordered.mono_l k
 unfold computuslaw21_ordered.f
 repeat' first | (with_reducible first | exact ih0 _ _ _ _ _ | exact ih1 _ _ _ _ _ _ | exact LeO.refl _ | exact LeO.none _ | refine LeO.ite ?_ ?_ | refine LeO.bind ?_ (fun _ => ?_)) | exact ih0 _ _ _ _ _ | exact ih1 _ _ _ _ _ _ | exact LeO.none _ | refine LeO.ite ?_ ?_ | refine LeO.bind ?_ (fun _ => ?_)
set_option maxHeartbeats 8000000 in
set_option maxRecDepth 100000 in
theorem computuslaw21_ordered.calls (k : Nat) (a0_0 : Int) (A0_1 : Option Addr) (c0_1 : Nat) (l0_1 : List (S66)) (A0_2 : Option Addr) (c0_2 : Nat) (l0_2 : List (S68)) (A1 : Option Addr) (c1 : Nat) (l1 : List Int) (r : Bool) (w : World) (hr0_1 : Kd.C k66 w A0_1 l0_1.length l0_1) (hc0_1 : l0_1.length ≤ c0_1) (hr0_2 : Kd.C k68 w A0_2 l0_2.length l0_2) (hc0_2 : l0_2.length ≤ c0_2) (hr1 : Kd.C (Kd.int .i64) w A1 l1.length l1) (hc1 : l1.length ≤ c1) (h : computuslaw21_ordered.f k a0_0 l0_1 l0_2 l1 = some r) :
  Calls Try.prog 28 #[.agg #[.int .i64 a0_0, .slice A0_1 l0_1.length c0_1, .slice A0_2 l0_2.length c0_2], .slice A1 l1.length c1] w fun e w' => e = .returned (.bool r) ∧ Below w.heap.size w w' := by
 have hu36 := Try.underlying36
 have HR0_1 := Aside0.mk hr0_1
 have HC0_1 := Aside0.mk hc0_1
 clear hr0_1 hc0_1
 have HR0_2 := Aside0.mk hr0_2
 have HC0_2 := Aside0.mk hc0_2
 clear hr0_2 hc0_2
 have HR1 := Aside0.mk hr1
 have HC1 := Aside0.mk hc1
 clear hr1 hc1
 have HB := Aside0.mk (Below.refl w.heap.size w)
 have H : (computuslaw21_ordered.l0 k l1 0 a0_0 l0_1 l0_2) = some r := h
 clear h
 have H' := Aside0.mk H
 clear H
 go_enter Try.func28, Try.ntmps28
 go_wp2_with (first | ((with_reducible refine gate_dst (N := 2) rfl ?_); (try (refine gate_guard (by rfl) ?_; dsimp only)); refine bx_ (w := w) (N := 2) (cs := #[.int .i64 a0_0, .slice A0_1 l0_1.length c0_1, .slice A0_2 l0_2.length c0_2]) (t := 36) ?_; intro gb718 w3 BK718 n0_ GW718 GE718; clear HB; have HB := n0_; clear n0_))
 repeat (go_quiet (first | ((with_reducible refine gate_dst (N := 2) rfl ?_); (try (refine gate_guard (by rfl) ?_; dsimp only)); refine bx_ (w := w) (N := 2) (cs := #[.int .i64 a0_0, .slice A0_1 l0_1.length c0_1, .slice A0_2 l0_2.length c0_2]) (t := 36) ?_; intro gb718 w3 BK718 n0_ GW718 GE718; clear HB; have HB := n0_; clear n0_)); try go_wp2_with (first | ((with_reducible refine gate_dst (N := 2) rfl ?_); (try (refine gate_guard (by rfl) ?_; dsimp only)); refine bx_ (w := w) (N := 2) (cs := #[.int .i64 a0_0, .slice A0_1 l0_1.length c0_1, .slice A0_2 l0_2.length c0_2]) (t := 36) ?_; intro gb718 w3 BK718 n0_ GW718 GE718; clear HB; have HB := n0_; clear n0_)))
 go_loopg [5] k (fun kq v5 w' => ∃ (x5_1 : Int), v5 = .int .i64 x5_1 ∧ Aside0 (computuslaw21_ordered.l0 kq l1 x5_1 a0_0 l0_1 l0_2 = some r) ∧ Aside0 (kq ≤ k) ∧ Aside0 (w'.heap[gb718]? = some (.cells #[.int .i64 a0_0, (.slice A0_1 l0_1.length c0_1), (.slice A0_2 l0_2.length c0_2)] 36 (0, 0))) ∧ Aside0 (Below w.heap.size w w'))
 case atStart => exact ⟨(0), rs_, H', ⟨Nat.le_refl _⟩, ⟨bk_ BK718.out⟩, ⟨bh_⟩⟩
 case round =>
  clear H'
  try clear c1
  try clear c2
  try clear p2
  obtain ⟨x5_1, rfl, HA, HK1, BK718, HB⟩ := hrel
  cases gk with
  | zero => exact absurd HA.out (by simp [computuslaw21_ordered.l0])
  | succ k1 =>
   have H := HA.out
   clear HA
   simp only [computuslaw21_ordered.l0] at H
   by_cases c4 : x5_1 < (l1.length : Int)
   ·rw [if_pos c4] at H
    have c4b0 : decide (x5_1 < (l1.length : Int)) = true := decide_eq_true c4
    clear c4
    have HC5 := Aside0.mk H
    clear H
    go_upto_region 4 with (fail)
    repeat (go_quiet (fail); go_upto_region 4 with (fail))
    go_cut [28] (fun v28 wc => ∃ (kq : Nat) (x28_4 : Bool), v28 = .bool x28_4 ∧ Aside0 (computuslaw21_ordered.j1 kq l1 x5_1 x28_4 a0_0 l0_1 l0_2 = some r) ∧ Aside0 (kq ≤ k1) ∧ Aside0 (wc.heap[gb718]? = some (.cells #[.int .i64 a0_0, (.slice A0_1 l0_1.length c0_1), (.slice A0_2 l0_2.length c0_2)] 36 (0, 0))) ∧ Aside0 (Below w.heap.size w wc))
    case first =>
     have H := HC5.out
     clear HC5
     by_cases c6 : 0 ≤ x5_1
     ·rw [if_pos c6] at H
      have c6b0 : decide (0 ≤ x5_1) = true := decide_eq_true c6
      clear c6
      (first | rw [c6b0] | (simp only [i64_w, i32_w]; rw [c6b0]) | skip)
      by_cases c7 : (rd l1 x5_1) < 0
      ·rw [if_pos c7] at H
       have c7b0 : decide ((rd l1 x5_1) < 0) = true := decide_eq_true c7
       clear c7
       have H' := Aside0.mk H
       clear H
       have p719 : 0 ≤ (x5_1 : Int) := of_decide_eq_true as_
       have q719 : x5_1 < (l1.length : Int) := of_decide_eq_true as_
       obtain ⟨ad719, e719, hx719_0⟩ := Kd.at_int HR1.out x5_1 p719 q719
       cases e719
       replace hx719_0 := cm_ HB.out hx719_0
       replace p719 := eq_true p719
       replace q719 := eq_true q719
       go_wp2
       repeat (go_quiet (fail); try go_wp2)
       go_meet
       case rel => exact ⟨_, (true), rs_, H', ⟨by have := HK1.out; first | omega | exact Nat.le_refl _⟩, ⟨bk_ BK718.out⟩, ⟨bh_⟩⟩
      ·rw [if_neg c7] at H
       have c7b0 : decide ((rd l1 x5_1) < 0) = false := decide_eq_false c7
       clear c7
       have H' := Aside0.mk H
       clear H
       have p719 : 0 ≤ (x5_1 : Int) := of_decide_eq_true as_
       have q719 : x5_1 < (l1.length : Int) := of_decide_eq_true as_
       obtain ⟨ad719, e719, hx719_0⟩ := Kd.at_int HR1.out x5_1 p719 q719
       cases e719
       replace hx719_0 := cm_ HB.out hx719_0
       replace p719 := eq_true p719
       replace q719 := eq_true q719
       have p720 : 0 ≤ (x5_1 : Int) := of_decide_eq_true as_
       have q720 : x5_1 < (l1.length : Int) := of_decide_eq_true as_
       obtain ⟨ad720, e720, hx720_0⟩ := Kd.at_int HR1.out x5_1 p720 q720
       obtain rfl : ad719 = ad720 := (by injection e720)
       replace hx720_0 := cm_ HB.out hx720_0
       replace p720 := eq_true p720
       replace q720 := eq_true q720
       obtain ⟨hcz8_0, hcz8_1, hcz8_2⟩ := cz3_ BK718.out
       obtain ⟨hfz8_0, hfz8_1, hfz8_2⟩ := fz3_ BK718.out
       go_wp2
       repeat (go_quiet (fail); try go_wp2)
       go_meet
       case rel => exact ⟨_, (decide ((rd l1 x5_1) ≥ (l0_2.length : Int))), rs_, H', ⟨by have := HK1.out; first | omega | exact Nat.le_refl _⟩, ⟨bk_ BK718.out⟩, ⟨bh_⟩⟩
     ·rw [if_neg c6] at H
      exact absurd H (by simp)
    case rest =>
     clear HC5
     try clear c1
     try clear c2
     try clear p2
     try clear c4
     try clear c4b0
     try clear c6
     try clear c6b0
     try clear c7
     try clear c7b0
     try clear p7
     try clear q7
     try clear hx7
     try clear hcz8_0
     try clear hcz8_1
     try clear hcz8_2
     try clear hfz8_0
     try clear hfz8_1
     try clear hfz8_2
     try clear hx719_0
     try clear hx720_0
     try clear p2
     try clear p719
     try clear p720
     try clear q719
     try clear q720
     obtain ⟨kq, x28_4, rfl, HA, HJ4, BK718, HB⟩ := hcut
     cases kq with
     | zero => exact absurd HA.out (by simp [computuslaw21_ordered.j1])
     | succ kj4 =>
      have H := HA.out
      clear HA
      simp only [computuslaw21_ordered.j1] at H
      by_cases c9 : x28_4 = true
      ·subst c9
       replace H := it_ H
       obtain rfl := Option.some.inj H
       go_wp2
       repeat (go_quiet (fail); try go_wp2)
       go_ret
       exact rt_
      ·replace c9 := Bool.eq_false_iff.mpr c9
       subst c9
       replace H := if_ H
       by_cases c10 : x5_1 = 0
       ·rw [if_pos c10] at H
        have c10b0 : (x5_1 == 0) = true := beq_iff_eq.mpr c10
        have c10b1 : (x5_1 != 0) = false := bne_eq_false_iff_eq.mpr c10
        clear c10
        have H' := Aside0.mk H
        clear H
        go_wp2
        repeat (go_quiet (fail); try go_wp2)
        go_roundg kj4
        case measure => have := HK1.out; have := HJ4.out; omega
        case rel => exact ⟨(wrap64 (x5_1 + 1)), rs_, H', ⟨by have := HK1.out; have := HJ4.out; omega⟩, ⟨bk_ BK718.out⟩, ⟨bh_⟩⟩
       ·rw [if_neg c10] at H
        have c10b0 : (x5_1 == 0) = false := beq_eq_false_iff_ne.mpr c10
        have c10b1 : (x5_1 != 0) = true := bne_iff_ne.mpr c10
        obtain ⟨ji11, hji11⟩ : ∃ j_ : Int, (wrap64 (x5_1 - 1)) = j_ := ⟨_, rfl⟩
        replace H : (if 0 ≤ (ji11) then (if (ji11) < (l1.length : Int) then (if 0 ≤ (rd l1 (ji11)) then (if (rd l1 (ji11)) < (l0_2.length : Int) then (if 0 ≤ x5_1 then (if x5_1 < (l1.length : Int) then (if 0 ≤ (rd l1 x5_1) then (if (rd l1 x5_1) < (l0_2.length : Int) then (if ((rd_T68 l0_2 (rd l1 (ji11))).f1) > ((rd_T68 l0_2 (rd l1 x5_1)).f1) then (some false) else (if ((rd_T68 l0_2 (rd l1 (ji11))).f1) = ((rd_T68 l0_2 (rd l1 x5_1)).f1) then (if (rd l1 (ji11)) ≥ (rd l1 x5_1) then (some false) else (computuslaw21_ordered.l0 kj4 l1 (wrap64 (x5_1 + 1)) a0_0 l0_1 l0_2)) else (computuslaw21_ordered.l0 kj4 l1 (wrap64 (x5_1 + 1)) a0_0 l0_1 l0_2))) else (none)) else (none)) else (none)) else (none)) else (none)) else (none)) else (none)) else (none)) = some r := by first | (rw [hji11] at H; exact H) | (simp only [hji11] at H ⊢; exact H)
        have hji11w : (IntKind.i64.wrap (x5_1 - 1)) = ji11 := (i64_w _).trans hji11
        by_cases c12 : 0 ≤ (ji11)
        ·rw [if_pos c12] at H
         have c12b0 : decide (0 ≤ (ji11)) = true := decide_eq_true c12
         clear c12
         by_cases c13 : (ji11) < (l1.length : Int)
         ·rw [if_pos c13] at H
          have c13b0 : decide ((ji11) < (l1.length : Int)) = true := decide_eq_true c13
          clear c13
          by_cases c14 : 0 ≤ (rd l1 (ji11))
          ·rw [if_pos c14] at H
           have c14b0 : decide (0 ≤ (rd l1 (ji11))) = true := decide_eq_true c14
           clear c14
           by_cases c15 : (rd l1 (ji11)) < (l0_2.length : Int)
           ·rw [if_pos c15] at H
            have c15b0 : decide ((rd l1 (ji11)) < (l0_2.length : Int)) = true := decide_eq_true c15
            clear c15
            by_cases c16 : 0 ≤ x5_1
            ·rw [if_pos c16] at H
             have c16b0 : decide (0 ≤ x5_1) = true := decide_eq_true c16
             clear c16
             by_cases c17 : x5_1 < (l1.length : Int)
             ·rw [if_pos c17] at H
              have c17b0 : decide (x5_1 < (l1.length : Int)) = true := decide_eq_true c17
              clear c17
              by_cases c18 : 0 ≤ (rd l1 x5_1)
              ·rw [if_pos c18] at H
               have c18b0 : decide (0 ≤ (rd l1 x5_1)) = true := decide_eq_true c18
               clear c18
               by_cases c19 : (rd l1 x5_1) < (l0_2.length : Int)
               ·rw [if_pos c19] at H
                have c19b0 : decide ((rd l1 x5_1) < (l0_2.length : Int)) = true := decide_eq_true c19
                clear c19
                by_cases c20 : ((rd_T68 l0_2 (rd l1 (ji11))).f1) > ((rd_T68 l0_2 (rd l1 x5_1)).f1)
                ·rw [if_pos c20] at H
                 have c20b0 : decide (((rd_T68 l0_2 (rd l1 x5_1)).f1) < ((rd_T68 l0_2 (rd l1 (ji11))).f1)) = true := decide_eq_true c20
                 clear c20
                 obtain rfl := Option.some.inj H
                 obtain ⟨hcz21_0, hcz21_1, hcz21_2⟩ := cz3_ BK718.out
                 obtain ⟨hfz21_0, hfz21_1, hfz21_2⟩ := fz3_ BK718.out
                 have p721 : 0 ≤ ((ji11) : Int) := of_decide_eq_true as_
                 have q721 : (ji11) < (l1.length : Int) := of_decide_eq_true as_
                 obtain ⟨ad721, e721, hx721_0⟩ := Kd.at_int HR1.out (ji11) p721 q721
                 cases e721
                 replace hx721_0 := cm_ HB.out hx721_0
                 replace p721 := eq_true p721
                 replace q721 := eq_true q721
                 have p722 : 0 ≤ ((rd l1 (ji11)) : Int) := of_decide_eq_true as_
                 have q722 : (rd l1 (ji11)) < (l0_2.length : Int) := of_decide_eq_true as_
                 obtain ⟨ad722, e722, hx722_0, hx722_1, hx722_2, hx722_3, hx722_4, hx722_5, hx722_6, hx722_7, hx722_8⟩ := at_T68 HR0_2.out (rd l1 (ji11)) p722 q722
                 cases e722
                 replace hx722_0 := cm_ HB.out hx722_0
                 replace hx722_1 := cm_ HB.out hx722_1
                 replace hx722_2 := cm_ HB.out hx722_2
                 replace hx722_3 := cm_ HB.out hx722_3
                 replace hx722_4 := cm_ HB.out hx722_4
                 replace hx722_5 := cm_ HB.out hx722_5
                 replace hx722_6 := cm_ HB.out hx722_6
                 replace hx722_7 := cm_ HB.out hx722_7
                 replace hx722_8 := cm_ HB.out hx722_8
                 replace p722 := eq_true p722
                 replace q722 := eq_true q722
                 have p723 : 0 ≤ (x5_1 : Int) := of_decide_eq_true as_
                 have q723 : x5_1 < (l1.length : Int) := of_decide_eq_true as_
                 obtain ⟨ad723, e723, hx723_0⟩ := Kd.at_int HR1.out x5_1 p723 q723
                 obtain rfl : ad721 = ad723 := (by injection e723)
                 replace hx723_0 := cm_ HB.out hx723_0
                 replace p723 := eq_true p723
                 replace q723 := eq_true q723
                 have p724 : 0 ≤ ((rd l1 x5_1) : Int) := of_decide_eq_true as_
                 have q724 : (rd l1 x5_1) < (l0_2.length : Int) := of_decide_eq_true as_
                 obtain ⟨ad724, e724, hx724_0, hx724_1, hx724_2, hx724_3, hx724_4, hx724_5, hx724_6, hx724_7, hx724_8⟩ := at_T68 HR0_2.out (rd l1 x5_1) p724 q724
                 obtain rfl : ad722 = ad724 := (by injection e724)
                 replace hx724_0 := cm_ HB.out hx724_0
                 replace hx724_1 := cm_ HB.out hx724_1
                 replace hx724_2 := cm_ HB.out hx724_2
                 replace hx724_3 := cm_ HB.out hx724_3
                 replace hx724_4 := cm_ HB.out hx724_4
                 replace hx724_5 := cm_ HB.out hx724_5
                 replace hx724_6 := cm_ HB.out hx724_6
                 replace hx724_7 := cm_ HB.out hx724_7
                 replace hx724_8 := cm_ HB.out hx724_8
                 replace p724 := eq_true p724
                 replace q724 := eq_true q724
                 go_wp2
                 repeat (go_quiet (fail); try go_wp2)
                 go_ret
                 exact ⟨by first | rfl | (simp [errW_none, errW_some] <;> rfl) | (simp only [← hji11]; first | rfl | (simp [errW_none, errW_some] <;> rfl)) | (simp [*, errW_none, errW_some] <;> rfl), bh_⟩
                ·rw [if_neg c20] at H
                 have c20b0 : decide (((rd_T68 l0_2 (rd l1 x5_1)).f1) < ((rd_T68 l0_2 (rd l1 (ji11))).f1)) = false := decide_eq_false c20
                 clear c20
                 by_cases c22 : ((rd_T68 l0_2 (rd l1 (ji11))).f1) = ((rd_T68 l0_2 (rd l1 x5_1)).f1)
                 ·rw [if_pos c22] at H
                  have c22b0 : (((rd_T68 l0_2 (rd l1 (ji11))).f1) == ((rd_T68 l0_2 (rd l1 x5_1)).f1)) = true := beq_iff_eq.mpr c22
                  have c22b1 : (((rd_T68 l0_2 (rd l1 (ji11))).f1) != ((rd_T68 l0_2 (rd l1 x5_1)).f1)) = false := bne_eq_false_iff_eq.mpr c22
                  clear c22
                  by_cases c23 : (rd l1 (ji11)) ≥ (rd l1 x5_1)
                  ·rw [if_pos c23] at H
                   have c23b0 : decide ((rd l1 x5_1) ≤ (rd l1 (ji11))) = true := decide_eq_true c23
                   clear c23
                   obtain rfl := Option.some.inj H
                   obtain ⟨hcz24_0, hcz24_1, hcz24_2⟩ := cz3_ BK718.out
                   obtain ⟨hfz24_0, hfz24_1, hfz24_2⟩ := fz3_ BK718.out
                   have p721 : 0 ≤ ((ji11) : Int) := of_decide_eq_true as_
                   have q721 : (ji11) < (l1.length : Int) := of_decide_eq_true as_
                   obtain ⟨ad721, e721, hx721_0⟩ := Kd.at_int HR1.out (ji11) p721 q721
                   cases e721
                   replace hx721_0 := cm_ HB.out hx721_0
                   replace p721 := eq_true p721
                   replace q721 := eq_true q721
                   have p722 : 0 ≤ ((rd l1 (ji11)) : Int) := of_decide_eq_true as_
                   have q722 : (rd l1 (ji11)) < (l0_2.length : Int) := of_decide_eq_true as_
                   obtain ⟨ad722, e722, hx722_0, hx722_1, hx722_2, hx722_3, hx722_4, hx722_5, hx722_6, hx722_7, hx722_8⟩ := at_T68 HR0_2.out (rd l1 (ji11)) p722 q722
                   cases e722
                   replace hx722_0 := cm_ HB.out hx722_0
                   replace hx722_1 := cm_ HB.out hx722_1
                   replace hx722_2 := cm_ HB.out hx722_2
                   replace hx722_3 := cm_ HB.out hx722_3
                   replace hx722_4 := cm_ HB.out hx722_4
                   replace hx722_5 := cm_ HB.out hx722_5
                   replace hx722_6 := cm_ HB.out hx722_6
                   replace hx722_7 := cm_ HB.out hx722_7
                   replace hx722_8 := cm_ HB.out hx722_8
                   replace p722 := eq_true p722
                   replace q722 := eq_true q722
                   have p723 : 0 ≤ (x5_1 : Int) := of_decide_eq_true as_
                   have q723 : x5_1 < (l1.length : Int) := of_decide_eq_true as_
                   obtain ⟨ad723, e723, hx723_0⟩ := Kd.at_int HR1.out x5_1 p723 q723
                   obtain rfl : ad721 = ad723 := (by injection e723)
                   replace hx723_0 := cm_ HB.out hx723_0
                   replace p723 := eq_true p723
                   replace q723 := eq_true q723
                   have p724 : 0 ≤ ((rd l1 x5_1) : Int) := of_decide_eq_true as_
                   have q724 : (rd l1 x5_1) < (l0_2.length : Int) := of_decide_eq_true as_
                   obtain ⟨ad724, e724, hx724_0, hx724_1, hx724_2, hx724_3, hx724_4, hx724_5, hx724_6, hx724_7, hx724_8⟩ := at_T68 HR0_2.out (rd l1 x5_1) p724 q724
                   obtain rfl : ad722 = ad724 := (by injection e724)
                   replace hx724_0 := cm_ HB.out hx724_0
                   replace hx724_1 := cm_ HB.out hx724_1
                   replace hx724_2 := cm_ HB.out hx724_2
                   replace hx724_3 := cm_ HB.out hx724_3
                   replace hx724_4 := cm_ HB.out hx724_4
                   replace hx724_5 := cm_ HB.out hx724_5
                   replace hx724_6 := cm_ HB.out hx724_6
                   replace hx724_7 := cm_ HB.out hx724_7
                   replace hx724_8 := cm_ HB.out hx724_8
                   replace p724 := eq_true p724
                   replace q724 := eq_true q724
                   have p725 : 0 ≤ ((ji11) : Int) := of_decide_eq_true as_
                   have q725 : (ji11) < (l1.length : Int) := of_decide_eq_true as_
                   obtain ⟨ad725, e725, hx725_0⟩ := Kd.at_int HR1.out (ji11) p725 q725
                   obtain rfl : ad721 = ad725 := (by injection e725)
                   replace hx725_0 := cm_ HB.out hx725_0
                   replace p725 := eq_true p725
                   replace q725 := eq_true q725
                   have p726 : 0 ≤ (x5_1 : Int) := of_decide_eq_true as_
                   have q726 : x5_1 < (l1.length : Int) := of_decide_eq_true as_
                   obtain ⟨ad726, e726, hx726_0⟩ := Kd.at_int HR1.out x5_1 p726 q726
                   obtain rfl : ad721 = ad726 := (by injection e726)
                   replace hx726_0 := cm_ HB.out hx726_0
                   replace p726 := eq_true p726
                   replace q726 := eq_true q726
                   go_wp2
                   repeat (go_quiet (fail); try go_wp2)
                   go_ret
                   exact ⟨by first | rfl | (simp [errW_none, errW_some] <;> rfl) | (simp only [← hji11]; first | rfl | (simp [errW_none, errW_some] <;> rfl)) | (simp [*, errW_none, errW_some] <;> rfl), bh_⟩
                  ·rw [if_neg c23] at H
                   have c23b0 : decide ((rd l1 x5_1) ≤ (rd l1 (ji11))) = false := decide_eq_false c23
                   clear c23
                   have H' := Aside0.mk H
                   clear H
                   obtain ⟨hcz25_0, hcz25_1, hcz25_2⟩ := cz3_ BK718.out
                   obtain ⟨hfz25_0, hfz25_1, hfz25_2⟩ := fz3_ BK718.out
                   have p721 : 0 ≤ ((ji11) : Int) := of_decide_eq_true as_
                   have q721 : (ji11) < (l1.length : Int) := of_decide_eq_true as_
                   obtain ⟨ad721, e721, hx721_0⟩ := Kd.at_int HR1.out (ji11) p721 q721
                   cases e721
                   replace hx721_0 := cm_ HB.out hx721_0
                   replace p721 := eq_true p721
                   replace q721 := eq_true q721
                   have p722 : 0 ≤ ((rd l1 (ji11)) : Int) := of_decide_eq_true as_
                   have q722 : (rd l1 (ji11)) < (l0_2.length : Int) := of_decide_eq_true as_
                   obtain ⟨ad722, e722, hx722_0, hx722_1, hx722_2, hx722_3, hx722_4, hx722_5, hx722_6, hx722_7, hx722_8⟩ := at_T68 HR0_2.out (rd l1 (ji11)) p722 q722
                   cases e722
                   replace hx722_0 := cm_ HB.out hx722_0
                   replace hx722_1 := cm_ HB.out hx722_1
                   replace hx722_2 := cm_ HB.out hx722_2
                   replace hx722_3 := cm_ HB.out hx722_3
                   replace hx722_4 := cm_ HB.out hx722_4
                   replace hx722_5 := cm_ HB.out hx722_5
                   replace hx722_6 := cm_ HB.out hx722_6
                   replace hx722_7 := cm_ HB.out hx722_7
                   replace hx722_8 := cm_ HB.out hx722_8
                   replace p722 := eq_true p722
                   replace q722 := eq_true q722
                   have p723 : 0 ≤ (x5_1 : Int) := of_decide_eq_true as_
                   have q723 : x5_1 < (l1.length : Int) := of_decide_eq_true as_
                   obtain ⟨ad723, e723, hx723_0⟩ := Kd.at_int HR1.out x5_1 p723 q723
                   obtain rfl : ad721 = ad723 := (by injection e723)
                   replace hx723_0 := cm_ HB.out hx723_0
                   replace p723 := eq_true p723
                   replace q723 := eq_true q723
                   have p724 : 0 ≤ ((rd l1 x5_1) : Int) := of_decide_eq_true as_
                   have q724 : (rd l1 x5_1) < (l0_2.length : Int) := of_decide_eq_true as_
                   obtain ⟨ad724, e724, hx724_0, hx724_1, hx724_2, hx724_3, hx724_4, hx724_5, hx724_6, hx724_7, hx724_8⟩ := at_T68 HR0_2.out (rd l1 x5_1) p724 q724
                   obtain rfl : ad722 = ad724 := (by injection e724)
                   replace hx724_0 := cm_ HB.out hx724_0
                   replace hx724_1 := cm_ HB.out hx724_1
                   replace hx724_2 := cm_ HB.out hx724_2
                   replace hx724_3 := cm_ HB.out hx724_3
                   replace hx724_4 := cm_ HB.out hx724_4
                   replace hx724_5 := cm_ HB.out hx724_5
                   replace hx724_6 := cm_ HB.out hx724_6
                   replace hx724_7 := cm_ HB.out hx724_7
                   replace hx724_8 := cm_ HB.out hx724_8
                   replace p724 := eq_true p724
                   replace q724 := eq_true q724
                   have p725 : 0 ≤ ((ji11) : Int) := of_decide_eq_true as_
                   have q725 : (ji11) < (l1.length : Int) := of_decide_eq_true as_
                   obtain ⟨ad725, e725, hx725_0⟩ := Kd.at_int HR1.out (ji11) p725 q725
                   obtain rfl : ad721 = ad725 := (by injection e725)
                   replace hx725_0 := cm_ HB.out hx725_0
                   replace p725 := eq_true p725
                   replace q725 := eq_true q725
                   have p726 : 0 ≤ (x5_1 : Int) := of_decide_eq_true as_
                   have q726 : x5_1 < (l1.length : Int) := of_decide_eq_true as_
                   obtain ⟨ad726, e726, hx726_0⟩ := Kd.at_int HR1.out x5_1 p726 q726
                   obtain rfl : ad721 = ad726 := (by injection e726)
                   replace hx726_0 := cm_ HB.out hx726_0
                   replace p726 := eq_true p726
                   replace q726 := eq_true q726
                   go_wp2
                   repeat (go_quiet (fail); try go_wp2)
                   go_roundg kj4
                   case measure => have := HK1.out; have := HJ4.out; omega
                   case rel => exact ⟨(wrap64 (x5_1 + 1)), rs_, H', ⟨by have := HK1.out; have := HJ4.out; omega⟩, ⟨bk_ BK718.out⟩, ⟨bh_⟩⟩
                 ·rw [if_neg c22] at H
                  have c22b0 : (((rd_T68 l0_2 (rd l1 (ji11))).f1) == ((rd_T68 l0_2 (rd l1 x5_1)).f1)) = false := beq_eq_false_iff_ne.mpr c22
                  have c22b1 : (((rd_T68 l0_2 (rd l1 (ji11))).f1) != ((rd_T68 l0_2 (rd l1 x5_1)).f1)) = true := bne_iff_ne.mpr c22
                  have H' := Aside0.mk H
                  clear H
                  obtain ⟨hcz26_0, hcz26_1, hcz26_2⟩ := cz3_ BK718.out
                  obtain ⟨hfz26_0, hfz26_1, hfz26_2⟩ := fz3_ BK718.out
                  have p721 : 0 ≤ ((ji11) : Int) := of_decide_eq_true as_
                  have q721 : (ji11) < (l1.length : Int) := of_decide_eq_true as_
                  obtain ⟨ad721, e721, hx721_0⟩ := Kd.at_int HR1.out (ji11) p721 q721
                  cases e721
                  replace hx721_0 := cm_ HB.out hx721_0
                  replace p721 := eq_true p721
                  replace q721 := eq_true q721
                  have p722 : 0 ≤ ((rd l1 (ji11)) : Int) := of_decide_eq_true as_
                  have q722 : (rd l1 (ji11)) < (l0_2.length : Int) := of_decide_eq_true as_
                  obtain ⟨ad722, e722, hx722_0, hx722_1, hx722_2, hx722_3, hx722_4, hx722_5, hx722_6, hx722_7, hx722_8⟩ := at_T68 HR0_2.out (rd l1 (ji11)) p722 q722
                  cases e722
                  replace hx722_0 := cm_ HB.out hx722_0
                  replace hx722_1 := cm_ HB.out hx722_1
                  replace hx722_2 := cm_ HB.out hx722_2
                  replace hx722_3 := cm_ HB.out hx722_3
                  replace hx722_4 := cm_ HB.out hx722_4
                  replace hx722_5 := cm_ HB.out hx722_5
                  replace hx722_6 := cm_ HB.out hx722_6
                  replace hx722_7 := cm_ HB.out hx722_7
                  replace hx722_8 := cm_ HB.out hx722_8
                  replace p722 := eq_true p722
                  replace q722 := eq_true q722
                  have p723 : 0 ≤ (x5_1 : Int) := of_decide_eq_true as_
                  have q723 : x5_1 < (l1.length : Int) := of_decide_eq_true as_
                  obtain ⟨ad723, e723, hx723_0⟩ := Kd.at_int HR1.out x5_1 p723 q723
                  obtain rfl : ad721 = ad723 := (by injection e723)
                  replace hx723_0 := cm_ HB.out hx723_0
                  replace p723 := eq_true p723
                  replace q723 := eq_true q723
                  have p724 : 0 ≤ ((rd l1 x5_1) : Int) := of_decide_eq_true as_
                  have q724 : (rd l1 x5_1) < (l0_2.length : Int) := of_decide_eq_true as_
                  obtain ⟨ad724, e724, hx724_0, hx724_1, hx724_2, hx724_3, hx724_4, hx724_5, hx724_6, hx724_7, hx724_8⟩ := at_T68 HR0_2.out (rd l1 x5_1) p724 q724
                  obtain rfl : ad722 = ad724 := (by injection e724)
                  replace hx724_0 := cm_ HB.out hx724_0
                  replace hx724_1 := cm_ HB.out hx724_1
                  replace hx724_2 := cm_ HB.out hx724_2
                  replace hx724_3 := cm_ HB.out hx724_3
                  replace hx724_4 := cm_ HB.out hx724_4
                  replace hx724_5 := cm_ HB.out hx724_5
                  replace hx724_6 := cm_ HB.out hx724_6
                  replace hx724_7 := cm_ HB.out hx724_7
                  replace hx724_8 := cm_ HB.out hx724_8
                  replace p724 := eq_true p724
                  replace q724 := eq_true q724
                  go_wp2
                  repeat (go_quiet (fail); try go_wp2)
                  go_roundg kj4
                  case measure => have := HK1.out; have := HJ4.out; omega
                  case rel => exact ⟨(wrap64 (x5_1 + 1)), rs_, H', ⟨by have := HK1.out; have := HJ4.out; omega⟩, ⟨bk_ BK718.out⟩, ⟨bh_⟩⟩
               ·rw [if_neg c19] at H
                exact absurd H (by simp)
              ·rw [if_neg c18] at H
               exact absurd H (by simp)
             ·rw [if_neg c17] at H
              exact absurd H (by simp)
            ·rw [if_neg c16] at H
             exact absurd H (by simp)
           ·rw [if_neg c15] at H
            exact absurd H (by simp)
          ·rw [if_neg c14] at H
           exact absurd H (by simp)
         ·rw [if_neg c13] at H
          exact absurd H (by simp)
        ·rw [if_neg c12] at H
         exact absurd H (by simp)
   ·rw [if_neg c4] at H
    have c4b0 : decide (x5_1 < (l1.length : Int)) = false := decide_eq_false c4
    clear c4
    obtain rfl := Option.some.inj H
    go_wp2
    repeat (go_quiet (fail); try go_wp2)
    go_ret
    exact rt_
end Go.Proofs.Ytopfjjdkffdjpaa.Q
end
