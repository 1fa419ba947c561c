/- What is proved: what the statement OccurrenceSplitsSaid needs, part 5 of 7; the last part proves the statement. No condition. -/
import Derived.Test.YtopfjjdkffdjpaaZOSs3
set_option linter.unusedVariables false
set_option linter.unusedSimpArgs false
section
namespace Go.Proofs.Ytopfjjdkffdjpaa.Q
open Go.RowKit Go.Proofs.YtopfjjdkffdjpaaW.PrintWords Go.Proofs.YtopfjjdkffdjpaaW.PrintLast Go.Proofs.YtopfjjdkffdjpaaW.PrintMore
attribute [local go_sem] max2_int min2_int max_two min_two max_three min_three max_four min_four
def computusref09_NewMoon.f (k : Nat) (a0 : Int) (a1_0 : Int) (a1_1 : Int) (a1_2 : Int) : Option (Bool) := (computusref07_Label.f a0 a1_0).bind fun t360 => ((computusref08_Bears.f k a1_1 a1_2 t360).bind fun t361 => (some t361))
theorem computusref09_NewMoon.mono : ∀ a0 a1 a2 a3 k, LeO (computusref09_NewMoon.f k a0 a1 a2 a3) (computusref09_NewMoon.f (k + 1) a0 a1 a2 a3) := by
 intro a0 a1 a2 a3 k
 unfold computusref09_NewMoon.f
 repeat' first | (with_reducible first | exact computusref08_Bears.mono _ _ _ _ | exact LeO.refl _ | exact LeO.none _ | refine LeO.ite ?_ ?_ | refine LeO.bind ?_ (fun _ => ?_)) | exact LeO.none _ | refine LeO.ite ?_ ?_ | refine LeO.bind ?_ (fun _ => ?_)
def computusref09_NewMoon.T1 : Bool × List (List Nat × List Nat) := (true, [([], []), ([0], [0]), ([], []), ([2], [2]), ([], []), ([], []), ([5], [5]), ([4, 6], [4, 6]), ([1, 3, 7, 7], [1, 3, 7]), ([8, 8, 0, 1, 2, 3, 4, 5, 6, 7, 8], [8])])
def computusref09_NewMoon.B1 : List Nat := [0, 1, 0, 4, 0, 0, 32, 112, 255, 511]
theorem computusref09_NewMoon.tab1 : rtab .any (opsOf Try.f79 1) = computusref09_NewMoon.T1 := by kernel_rfl
theorem computusref09_NewMoon.bits1 : waitsOk computusref09_NewMoon.T1.2 computusref09_NewMoon.B1 = true := by kernel_rfl
set_option maxHeartbeats 8000000 in
set_option maxRecDepth 100000 in
theorem computusref09_NewMoon.calls (k : Nat) (a0 : Int) (a1_0 : Int) (a1_1 : Int) (a1_2 : Int) (r : Bool) (w : World) (h : computusref09_NewMoon.f k a0 a1_0 a1_1 a1_2 = some r) :
  Calls Try.prog 79 #[.int .i64 a0, .agg #[.int .i64 a1_0, .int .i64 a1_1, .int .i64 a1_2]] w fun e w' => e = .returned (.bool r) ∧ Below w.heap.size w w' := by
 have hu98 := Try.underlying98
 have HB := Aside0.mk (Below.refl w.heap.size w)
 have H := h
 clear h
 unfold computusref09_NewMoon.f at H
 obtain ⟨t360, A3, H⟩ := bs_ H
 obtain ⟨t361, A4, H⟩ := bs_ H
 obtain rfl := Option.some.inj H
 go_enter Try.func79, Try.ntmps79
 try go_wp2_with (first | ((with_reducible refine gate_dst (N := 3) rfl ?_); refine bx_ (w := w) (N := 3) (cs := #[.int .i64 a1_0, .int .i64 a1_1, .int .i64 a1_2]) (t := 98) ?_; intro gb359 w5 BK359 n0_ GW359 GE359; clear HB; have HB := n0_; clear n0_))
 have n0_ := Aside0.mk (blk_drew BK359.out)
 have n1_ := Aside0.mk (below_drew1 HB.out)
 clear BK359
 clear HB
 have BK359 := n0_
 have HB := n1_
 clear n0_ n1_
 refine start_ (n := 10) (S := fun w' => w'.cell? ⟨gb359, 0, none⟩ = some (.int .i64 a1_0) ∧ w'.cell? ⟨gb359, 1, none⟩ = some (.int .i64 a1_1) ∧ w'.cell? ⟨gb359, 2, none⟩ = some (.int .i64 a1_2)) (ds := []) #[false, false, false, false, false, false, false, false, false, false] (by kernel_rfl) rfl rfl ⟨(blk_cell BK359.out 0).trans rfl, (blk_cell BK359.out 1).trans rfl, (blk_cell BK359.out 2).trans rfl⟩ (fun hHeld => ?_); refine with_tabW computusref09_NewMoon.tab1 computusref09_NewMoon.bits1 (fun HT_ HW_ => ?_)
 generalize w5.drew = w6 at BK359 HB hHeld ⊢
 refine pure_ (i := 0) (N := some 5) (v := ?_) (a' := ?_) (bf_ 10 1) rfl rfl (any_of HT_.out (by kernel_rfl)) (fun _ _ _ h => h) (Or.inl ⟨by rfl, ?_⟩) ?_ ?_
 rotate_left
 ·intro w'
  go_simp
  with_reducible rfl
 rotate_left
 ·simp only [Act.put, sA_, sZ_, sS_, i64_w, i32_w]
  rfl
 refine pure_ (i := 2) (N := some 7) (v := ?_) (a' := ?_) (bf_ 10 5) rfl rfl (any_of HT_.out (by kernel_rfl)) (fun _ _ _ h => h) (Or.inl ⟨by rfl, ?_⟩) ?_ ?_
 rotate_left
 ·intro w'
  go_simp
  with_reducible rfl
 rotate_left
 ·simp only [Act.put, sA_, sZ_, sS_, i64_w, i32_w]
  rfl
 refine pure_ (i := 4) (N := some 9) (v := ?_) (a' := ?_) (bf_ 10 21) rfl rfl (any_of HT_.out (by kernel_rfl)) (fun _ _ _ h => h) (Or.inl ⟨by rfl, ?_⟩) ?_ ?_
 rotate_left
 ·intro w'
  go_simp
  with_reducible rfl
 rotate_left
 ·simp only [Act.put, sA_, sZ_, sS_, i64_w, i32_w]
  rfl
 refine pure_ (i := 5) (N := some 10) (v := ?_) (a' := ?_) (bf_ 10 53) rfl rfl (any_of HT_.out (by kernel_rfl)) (fun _ _ _ h => h) (Or.inl ⟨by rfl, ?_⟩) ?_ ?_
 rotate_left
 ·intro w'
  go_simp
  with_reducible rfl
 rotate_left
 ·simp only [Act.put, sA_, sZ_, sS_, i64_w, i32_w]
  rfl
 refine take_ (i := 1) (N := some 6) (v := ?_) (a' := ?_) (bf_ 10 55) rfl rfl (take_ofW HT_.out HW_.out (by kernel_rfl)) (fun _ _ _ h => h) (Or.inl ⟨by rfl, ?_⟩) hHeld ?_ ?_
 rotate_left
 ·rintro w' ⟨s0, s1, s2⟩
  go_simp
  with_reducible rfl
 rotate_left
 ·simp only [Act.put, sA_, sZ_, sS_, i64_w, i32_w]
  rfl
 refine take_ (i := 3) (N := some 8) (v := ?_) (a' := ?_) (bf_ 10 63) rfl rfl (take_ofW HT_.out HW_.out (by kernel_rfl)) (fun _ _ _ h => h) (Or.inl ⟨by rfl, ?_⟩) hHeld ?_ ?_
 rotate_left
 ·rintro w' ⟨s0, s1, s2⟩
  go_simp
  with_reducible rfl
 rotate_left
 ·simp only [Act.put, sA_, sZ_, sS_, i64_w, i32_w]
  rfl
 refine take_ (i := 6) (N := some 11) (v := ?_) (a' := ?_) (bf_ 10 127) rfl rfl (take_ofW HT_.out HW_.out (by kernel_rfl)) (fun _ _ _ h => h) (Or.inl ⟨by rfl, ?_⟩) hHeld ?_ ?_
 rotate_left
 ·rintro w' ⟨s0, s1, s2⟩
  go_simp
  with_reducible rfl
 rotate_left
 ·simp only [Act.put, sA_, sZ_, sS_, i64_w, i32_w]
  rfl
 refine one_ (i := 7) (N := some 12) (bf_ 10 255) rfl rfl (one_of HT_.out (by kernel_rfl)) (by decide) (fun K hK => ?_)
 refine goes_ Try.func87 (by kernel_rfl) rfl #[.int .i64 a0, .int .i64 a1_0] (by rfl) rfl rfl (by (try simp only [List.map_toArray, List.map_cons, List.map_nil]); first | done | rfl | (simp only [List.length_drop, List.length_take]; rfl)) ?_
 with_reducible refine (computusref07_Label.calls a0 a1_0 t360 _ A3.out).mono ?_
 rintro e w' ⟨rfl, ⟨nd, rfl⟩⟩
 refine ⟨_, rfl, ?_⟩
 refine hK.out _ _ (by first | exact ⟨(blk_cell BK359.out 0).trans rfl, (blk_cell BK359.out 1).trans rfl, (blk_cell BK359.out 2).trans rfl⟩ | exact hHeld) (fun hHeld => ?_)
 clear hK K
 refine norm_ (a' := ?_) ?_ ?_
 rotate_left
 ·show Act.put _ (some 12) _ = _
  simp only [Act.put, sA_, sZ_, sS_, i64_w, i32_w]
  rfl
 refine one_ (i := 8) (N := some 13) (bf_ 10 511) rfl rfl (one_of HT_.out (by kernel_rfl)) (by decide) (fun K hK => ?_)
 refine goes_ Try.func86 (by kernel_rfl) rfl #[.int .i64 a1_1, .int .i64 a1_2, .int .i64 t360] (by rfl) rfl rfl (by (try simp only [List.map_toArray, List.map_cons, List.map_nil]); first | done | rfl | (simp only [List.length_drop, List.length_take]; rfl)) ?_
 with_reducible refine (computusref08_Bears.calls k a1_1 a1_2 t360 t361 _ A4.out).mono ?_
 rintro e w7 ⟨rfl, hb⟩
 refine ⟨_, rfl, ?_⟩
 have n0_ := Aside0.mk (blk_below (g := gb359) (o := .cells #[.int .i64 a1_0, .int .i64 a1_1, .int .i64 a1_2] 98 (0, 0)) (bk_ BK359.out) hb)
 have n1_ := bt_ hb
 clear BK359
 clear HB
 have BK359 := n0_
 have HB := n1_
 clear n0_ n1_
 (try clear hb)
 (try clear hb2)
 (try clear hk)
 (try clear hi)
 refine hK.out _ _ (by first | exact ⟨(blk_cell BK359.out 0).trans rfl, (blk_cell BK359.out 1).trans rfl, (blk_cell BK359.out 2).trans rfl⟩ | exact hHeld) (fun hHeld => ?_)
 clear hK K
 refine norm_ (a' := ?_) ?_ ?_
 rotate_left
 ·show Act.put _ (some 13) _ = _
  simp only [Act.put, sA_, sZ_, sS_, i64_w, i32_w]
  rfl
 refine pure_ (i := 9) (N := some 4) (v := ?_) (a' := ?_) (bf_ 10 1023) rfl rfl (any_of HT_.out (by kernel_rfl)) (fun _ _ _ h => h) (Or.inl ⟨by rfl, ?_⟩) ?_ ?_
 rotate_left
 ·intro w'
  go_simp
  with_reducible rfl
 rotate_left
 ·simp only [Act.put, sA_, sZ_, sS_, i64_w, i32_w]
  rfl
 refine done_ (done_of HT_.out (by kernel_rfl)) ?_
 try go_wp2
 go_ret
 exact rt_
def computusref09_FullMoon.l0 : Nat → Int → Int → Int → Option (Int × Int × Int)
 | 0, _, _, _ => none
 | k + 1, x0, x6, x8 => if x8 < 40 then ((computusref05_FromDay.f k x0 (wrap64 (x6 - 13))).bind fun bt371 => ((computusref09_NewMoon.f k x0 bt371.1 bt371.2.1 bt371.2.2.1).bind fun t376 => (if t376 = true then ((computusref05_FromDay.f k x0 x6).bind fun bt377 => (some (bt377.1, bt377.2.1, bt377.2.2.1))) else (computusref09_FullMoon.l0 k x0 (wrap64 (x6 + 1)) (wrap64 (x8 + 1)))))) else ((computusref05_FromDay.f k x0 x6).bind fun bt366 => (some (bt366.1, bt366.2.1, bt366.2.2.1)))
def computusref09_FullMoon.f (k : Nat) (a0 : Int) (a1 : Int) : Option (Int × Int × Int) := (computusref05_ToDay.f k a0 a1 3 21).bind fun bt364 => (computusref09_FullMoon.l0 k a0 bt364.1 0)
theorem computusref09_FullMoon.mono_l : ∀ k, (∀ y0 y1 y2, LeO (computusref09_FullMoon.l0 k y0 y1 y2) (computusref09_FullMoon.l0 (k + 1) y0 y1 y2))
 | 0 => fun _ _ _ r h => by simp [computusref09_FullMoon.l0] at h
 | k + 1 => by
  have ih0 := computusref09_FullMoon.mono_l k
  ·intro y0 y1 y2
   unfold computusref09_FullMoon.l0
   repeat' first | (with_reducible first | exact ih0 _ _ _ | exact computusref05_FromDay.mono _ _ _ | exact computusref05_ToDay.mono _ _ _ _ _ | exact computusref09_NewMoon.mono _ _ _ _ _ | exact LeO.refl _ | exact LeO.none _ | refine LeO.ite ?_ ?_ | refine LeO.bind ?_ (fun _ => ?_)) | exact LeO.none _ | refine LeO.ite ?_ ?_ | refine LeO.bind ?_ (fun _ => ?_)
theorem computusref09_FullMoon.mono : ∀ a0 a1 k, LeO (computusref09_FullMoon.f k a0 a1) (computusref09_FullMoon.f (k + 1) a0 a1) := by
 intro a0 a1 k
 have ih0 := computusref09_FullMoon.mono_l k
 unfold computusref09_FullMoon.f
 repeat' first | (with_reducible first | exact ih0 _ _ _ | exact computusref05_FromDay.mono _ _ _ | exact computusref05_ToDay.mono _ _ _ _ _ | exact computusref09_NewMoon.mono _ _ _ _ _ | exact LeO.refl _ | exact LeO.none _ | refine LeO.ite ?_ ?_ | refine LeO.bind ?_ (fun _ => ?_)) | exact LeO.none _ | refine LeO.ite ?_ ?_ | refine LeO.bind ?_ (fun _ => ?_)
set_option maxHeartbeats 8000000 in
set_option maxRecDepth 100000 in
theorem computusref09_FullMoon.calls (k : Nat) (a0 : Int) (a1 : Int) (r1 : Int) (r2 : Int) (r3 : Int) (w : World) (h : computusref09_FullMoon.f k a0 a1 = some (r1, r2, r3)) :
  Calls Try.prog 68 #[.int .i64 a0, .int .i64 a1] w fun e w' => e = .returned (.agg #[.int .i64 r1, .int .i64 r2, .int .i64 r3]) ∧ Below w.heap.size w w' := by
 have hu98 := Try.underlying98
 have HB := Aside0.mk (Below.refl w.heap.size w)
 have H := h
 clear h
 unfold computusref09_FullMoon.f at H
 obtain ⟨⟨t364, t365⟩, A3, H⟩ := bs_ H
 dsimp only at H
 have H' := Aside0.mk H
 clear H
 go_enter Try.func68, Try.ntmps68
 go_wp2_with (first | ((with_reducible refine gate_dst (N := 4) rfl ?_); refine bx_ (w := w) (N := 4) (cs := #[.int .i64 0, .int .i64 0, .int .i64 0]) (t := 98) ?_; intro gb362 w4 BK362 n0_ GW362 GE362; clear HB; have HB := n0_; clear n0_) | ((with_reducible refine gate_dst (N := 5) rfl ?_); refine box_event ?hg (N := 5) ?hd (cs := #[.int .i64 0, .int .i64 0, .int .i64 0]) (t := 98) ?hr ?_; (case hd => rfl); (case hg => rfl); (case hr => first | (go_simp; done) | (go_simp; rfl)); intro gb363 hg w5 hbox hb; have n0_ := Aside0.mk (blk_below (g := gb362) (o := .cells #[.int .i64 0, .int .i64 0, .int .i64 0] 98 (0, 0)) (bk_ BK362.out) hb); have n1_ := bt_ hb; have n2_ := Aside0.mk (hbox); have n3_ := Aside0.mk ((by rw [hg]; exact bz_ : w.heap.size ≤ gb363)); have n4_ := Aside0.mk ((by rw [hg]; exact bz_ : w.heap.size ≤ gb363)); have n5_ := Aside0.mk ((by rw [hg]; exact Nat.ne_of_lt (blk_lt (g := gb362) (o := .cells #[.int .i64 0, .int .i64 0, .int .i64 0] 98 (0, 0)) (bk_ BK362.out)) : gb362 ≠ gb363)); have n6_ := Aside0.mk ((by rw [hg]; exact Nat.ne_of_gt (blk_lt (g := gb362) (o := .cells #[.int .i64 0, .int .i64 0, .int .i64 0] 98 (0, 0)) (bk_ BK362.out)) : gb363 ≠ gb362)); clear BK362; clear HB; have BK362 := n0_; have HB := n1_; have BK363 := n2_; have GW363 := n3_; have GE363 := n4_; have NB362_363 := n5_; have NB363_362 := n6_; clear n0_ n1_ n2_ n3_ n4_ n5_ n6_; clear hb hbox hg; have hnb6 := NB363_362.out; have hnc6 := NB362_363.out; obtain ⟨hcz7_0, hcz7_1, hcz7_2⟩ := cz3_ BK363.out; obtain ⟨hfz7_0, hfz7_1, hfz7_2⟩ := fz3_ BK363.out) | ((with_reducible refine gate_callee (f := 67) rfl ?_); refine gl_ (some 18) Try.func67 #[.int .i64 a0, .agg #[.int .i64 a1, .int .i64 3, .int .i64 21]] ?_; (with_reducible refine (computusref05_ToDay.calls k a0 a1 3 21 t364 t365 _ A3.out).mono ?_); rintro e w8 ⟨rfl, hb⟩; refine ⟨_, rfl, ?_⟩; have n0_ := Aside0.mk (blk_below (g := gb362) (o := .cells #[.int .i64 0, .int .i64 0, .int .i64 0] 98 (0, 0)) (by refine bp_ ?_; refine blk_far ?_ NB362_363.out _; refine bp_ ?_; refine blk_far ?_ NB362_363.out _; refine bp_ ?_; refine blk_far ?_ NB362_363.out _; exact bk_ BK362.out) hb); have n1_ := Aside0.mk (blk_below (g := gb363) (o := .cells #[.int .i64 a1, .int .i64 3, .int .i64 21] 98 (0, 0)) (by refine bp_ ?_; refine blk_put (cs := #[.int .i64 a1, .int .i64 3, .int .i64 0]) ?_ 2 _ rfl; refine bp_ ?_; refine blk_put (cs := #[.int .i64 a1, .int .i64 0, .int .i64 0]) ?_ 1 _ rfl; refine bp_ ?_; refine blk_put (cs := #[.int .i64 0, .int .i64 0, .int .i64 0]) ?_ 0 _ rfl; exact bk_ BK363.out) hb); have n2_ := bt_ hb; clear BK362; clear BK363; clear HB; have BK362 := n0_; have BK363 := n1_; have HB := n2_; clear n0_ n1_ n2_; (try clear hb); (try clear hb2); (try clear hk); (try clear hi)))
 go_loopg [6, 8] k (fun kq v6 v8 w' => ∃ (x6_1 : Int) (x8_1 : Int), v6 = .int .i64 x6_1 ∧ v8 = .int .i64 x8_1 ∧ Aside0 (computusref09_FullMoon.l0 kq a0 x6_1 x8_1 = some (r1, r2, r3)) ∧ Aside0 (kq ≤ k) ∧ Aside0 (w'.heap[gb362]? = some (.cells #[.int .i64 0, .int .i64 0, .int .i64 0] 98 (0, 0))) ∧ Aside0 (w'.heap[gb363]? = some (.cells #[.int .i64 a1, .int .i64 3, .int .i64 21] 98 (0, 0))) ∧ Aside0 (Below w.heap.size w w'))
 case atStart => exact ⟨(t364), (0), rs_, rs_, H', ⟨Nat.le_refl _⟩, ⟨bk_ BK362.out⟩, ⟨bk_ BK363.out⟩, ⟨bh_⟩⟩
 case round =>
  clear H'
  try clear p2
  try clear c6
  try clear hcz7_0
  try clear hcz7_1
  try clear hcz7_2
  try clear hfz7_0
  try clear hfz7_1
  try clear hfz7_2
  obtain ⟨x6_1, x8_1, rfl, rfl, HA, HK1, BK362, BK363, HB⟩ := hrel
  cases gk with
  | zero => exact absurd HA.out (by simp [computusref09_FullMoon.l0])
  | succ k1 =>
   have H := HA.out
   clear HA
   simp only [computusref09_FullMoon.l0] at H
   by_cases c9 : x8_1 < 40
   rotate_left
   ·rw [if_neg c9] at H
    have c9b0 : decide (x8_1 < 40) = false := decide_eq_false c9
    clear c9
    obtain ⟨⟨t366, t367, t368, t369⟩, A34, H⟩ := bs_ H
    dsimp only at H
    simp only [Option.some.injEq, Prod.mk.injEq] at H
    obtain ⟨rfl, rfl, rfl⟩ := H
    go_wp2_with (first | ((with_reducible refine gate_callee (f := 78) rfl ?_); refine gl_ (some 40) Try.func78 #[.int .i64 a0, .int .i64 x6_1] ?_; (with_reducible refine (computusref05_FromDay.calls k1 a0 x6_1 t366 t367 t368 t369 _ A34.out).mono ?_); rintro e w35 ⟨rfl, hb⟩; refine ⟨_, rfl, ?_⟩; have n0_ := Aside0.mk (blk_below (g := gb362) (o := .cells #[.int .i64 0, .int .i64 0, .int .i64 0] 98 (0, 0)) (bk_ BK362.out) hb); have n1_ := Aside0.mk (blk_below (g := gb363) (o := .cells #[.int .i64 a1, .int .i64 3, .int .i64 21] 98 (0, 0)) (bk_ BK363.out) hb); have n2_ := bt_ hb; clear BK362; clear BK363; clear HB; have BK362 := n0_; have BK363 := n1_; have HB := n2_; clear n0_ n1_ n2_; (try clear hb); (try clear hb2); (try clear hk); (try clear hi)) | ((with_reducible refine gate_dst (N := 11) rfl ?_); refine box_event ?hg (N := 11) ?hd (cs := #[.int .i64 0, .int .i64 0, .int .i64 0]) (t := 98) ?hr ?_; (case hd => rfl); (case hg => rfl); (case hr => first | (go_simp; done) | (go_simp; rfl)); intro gb370 hg w36 hbox hb; have n0_ := Aside0.mk (blk_below (g := gb362) (o := .cells #[.int .i64 0, .int .i64 0, .int .i64 0] 98 (0, 0)) (bk_ BK362.out) hb); have n1_ := Aside0.mk (blk_below (g := gb363) (o := .cells #[.int .i64 a1, .int .i64 3, .int .i64 21] 98 (0, 0)) (bk_ BK363.out) hb); have n2_ := bt_ hb; have n3_ := Aside0.mk (hbox); have n4_ := Aside0.mk ((by rw [hg]; exact bz_ : w.heap.size ≤ gb370)); have n5_ := Aside0.mk ((by rw [hg]; exact bz_ : w.heap.size ≤ gb370)); have n6_ := Aside0.mk ((by rw [hg]; exact Nat.ne_of_lt (blk_lt (g := gb362) (o := .cells #[.int .i64 0, .int .i64 0, .int .i64 0] 98 (0, 0)) (bk_ BK362.out)) : gb362 ≠ gb370)); have n7_ := Aside0.mk ((by rw [hg]; exact Nat.ne_of_gt (blk_lt (g := gb362) (o := .cells #[.int .i64 0, .int .i64 0, .int .i64 0] 98 (0, 0)) (bk_ BK362.out)) : gb370 ≠ gb362)); have n8_ := Aside0.mk ((by rw [hg]; exact Nat.ne_of_lt (blk_lt (g := gb363) (o := .cells #[.int .i64 a1, .int .i64 3, .int .i64 21] 98 (0, 0)) (bk_ BK363.out)) : gb363 ≠ gb370)); have n9_ := Aside0.mk ((by rw [hg]; exact Nat.ne_of_gt (blk_lt (g := gb363) (o := .cells #[.int .i64 a1, .int .i64 3, .int .i64 21] 98 (0, 0)) (bk_ BK363.out)) : gb370 ≠ gb363)); clear BK362; clear BK363; clear HB; have BK362 := n0_; have BK363 := n1_; have HB := n2_; have BK370 := n3_; have GW370 := n4_; have GE370 := n5_; have NB362_370 := n6_; have NB370_362 := n7_; have NB363_370 := n8_; have NB370_363 := n9_; clear n0_ n1_ n2_ n3_ n4_ n5_ n6_ n7_ n8_ n9_; clear hb hbox hg; have hnb37 := NB370_362.out; have hnc37 := NB362_370.out; have hnb38 := NB370_363.out; have hnc38 := NB363_370.out; obtain ⟨hcz39_0, hcz39_1, hcz39_2⟩ := cz3_ BK370.out; obtain ⟨hfz39_0, hfz39_1, hfz39_2⟩ := fz3_ BK370.out; have hnb40 := NB362_363.out; have hnc40 := NB363_362.out; obtain ⟨hcz41_0, hcz41_1, hcz41_2⟩ := cz3_ BK362.out; obtain ⟨hfz41_0, hfz41_1, hfz41_2⟩ := fz3_ BK362.out))
    refine bodyPost_ret (results_cell_row rfl _ _ gb362 98 #[.int .i64 t366, .int .i64 t367, .int .i64 t368] (0, 0) _ rfl (by refine bp_ ?_; refine blk_put (cs := #[.int .i64 t366, .int .i64 t367, .int .i64 0]) ?_ 2 _ rfl; refine bp_ ?_; refine blk_put (cs := #[.int .i64 t366, .int .i64 0, .int .i64 0]) ?_ 1 _ rfl; refine bp_ ?_; refine blk_put (cs := #[.int .i64 0, .int .i64 0, .int .i64 0]) ?_ 0 _ rfl; refine bp_ ?_; refine blk_far ?_ NB362_370.out _; refine bp_ ?_; refine blk_far ?_ NB362_370.out _; refine bp_ ?_; refine blk_far ?_ NB362_370.out _; exact bk_ BK362.out) Try.underlying98 rfl (by kernel_rfl)) rfl ?_
    exact rt_
   rw [if_pos c9] at H
   have c9b0 : decide (x8_1 < 40) = true := decide_eq_true c9
   clear c9
   obtain ⟨⟨t371, t372, t373, t374⟩, A10, H⟩ := bs_ H
   dsimp only at H
   obtain ⟨t376, A11, H⟩ := bs_ H
   by_cases c12 : t376 = true
   rotate_left
   ·replace c12 := Bool.eq_false_iff.mpr c12
    subst c12
    replace H := if_ H
    have H' := Aside0.mk H
    clear H
    go_wp2_with (first | ((with_reducible refine gate_callee (f := 78) rfl ?_); refine gl_ (some 29) Try.func78 #[.int .i64 a0, .int .i64 (wrap64 (x6_1 - 13))] ?_; (with_reducible refine (computusref05_FromDay.calls k1 a0 (wrap64 (x6_1 - 13)) t371 t372 t373 t374 _ A10.out).mono ?_); rintro e w28 ⟨rfl, hb⟩; refine ⟨_, rfl, ?_⟩; have n0_ := Aside0.mk (blk_below (g := gb362) (o := .cells #[.int .i64 0, .int .i64 0, .int .i64 0] 98 (0, 0)) (bk_ BK362.out) hb); have n1_ := Aside0.mk (blk_below (g := gb363) (o := .cells #[.int .i64 a1, .int .i64 3, .int .i64 21] 98 (0, 0)) (bk_ BK363.out) hb); have n2_ := bt_ hb; clear BK362; clear BK363; clear HB; have BK362 := n0_; have BK363 := n1_; have HB := n2_; clear n0_ n1_ n2_; (try clear hb); (try clear hb2); (try clear hk); (try clear hi)) | ((with_reducible refine gate_dst (N := 9) rfl ?_); refine box_event ?hg (N := 9) ?hd (cs := #[.int .i64 0, .int .i64 0, .int .i64 0]) (t := 98) ?hr ?_; (case hd => rfl); (case hg => rfl); (case hr => first | (go_simp; done) | (go_simp; rfl)); intro gb375 hg w29 hbox hb; have n0_ := Aside0.mk (blk_below (g := gb362) (o := .cells #[.int .i64 0, .int .i64 0, .int .i64 0] 98 (0, 0)) (bk_ BK362.out) hb); have n1_ := Aside0.mk (blk_below (g := gb363) (o := .cells #[.int .i64 a1, .int .i64 3, .int .i64 21] 98 (0, 0)) (bk_ BK363.out) hb); have n2_ := bt_ hb; have n3_ := Aside0.mk (hbox); have n4_ := Aside0.mk ((by rw [hg]; exact bz_ : w.heap.size ≤ gb375)); have n5_ := Aside0.mk ((by rw [hg]; exact bz_ : w.heap.size ≤ gb375)); have n6_ := Aside0.mk ((by rw [hg]; exact Nat.ne_of_lt (blk_lt (g := gb362) (o := .cells #[.int .i64 0, .int .i64 0, .int .i64 0] 98 (0, 0)) (bk_ BK362.out)) : gb362 ≠ gb375)); have n7_ := Aside0.mk ((by rw [hg]; exact Nat.ne_of_gt (blk_lt (g := gb362) (o := .cells #[.int .i64 0, .int .i64 0, .int .i64 0] 98 (0, 0)) (bk_ BK362.out)) : gb375 ≠ gb362)); have n8_ := Aside0.mk ((by rw [hg]; exact Nat.ne_of_lt (blk_lt (g := gb363) (o := .cells #[.int .i64 a1, .int .i64 3, .int .i64 21] 98 (0, 0)) (bk_ BK363.out)) : gb363 ≠ gb375)); have n9_ := Aside0.mk ((by rw [hg]; exact Nat.ne_of_gt (blk_lt (g := gb363) (o := .cells #[.int .i64 a1, .int .i64 3, .int .i64 21] 98 (0, 0)) (bk_ BK363.out)) : gb375 ≠ gb363)); clear BK362; clear BK363; clear HB; have BK362 := n0_; have BK363 := n1_; have HB := n2_; have BK375 := n3_; have GW375 := n4_; have GE375 := n5_; have NB362_375 := n6_; have NB375_362 := n7_; have NB363_375 := n8_; have NB375_363 := n9_; clear n0_ n1_ n2_ n3_ n4_ n5_ n6_ n7_ n8_ n9_; clear hb hbox hg; have hnb30 := NB375_362.out; have hnc30 := NB362_375.out; have hnb31 := NB375_363.out; have hnc31 := NB363_375.out; obtain ⟨hcz32_0, hcz32_1, hcz32_2⟩ := cz3_ BK375.out; obtain ⟨hfz32_0, hfz32_1, hfz32_2⟩ := fz3_ BK375.out) | ((with_reducible refine gate_callee (f := 79) rfl ?_); refine gl_ (some 34) Try.func79 #[.int .i64 a0, .agg #[.int .i64 t371, .int .i64 t372, .int .i64 t373]] ?_; (with_reducible refine (computusref09_NewMoon.calls k1 a0 t371 t372 t373 false _ A11.out).mono ?_); rintro e w33 ⟨rfl, hb⟩; refine ⟨_, rfl, ?_⟩; have n0_ := Aside0.mk (blk_below (g := gb362) (o := .cells #[.int .i64 0, .int .i64 0, .int .i64 0] 98 (0, 0)) (by refine bp_ ?_; refine blk_far ?_ NB362_375.out _; refine bp_ ?_; refine blk_far ?_ NB362_375.out _; refine bp_ ?_; refine blk_far ?_ NB362_375.out _; exact bk_ BK362.out) hb); have n1_ := Aside0.mk (blk_below (g := gb363) (o := .cells #[.int .i64 a1, .int .i64 3, .int .i64 21] 98 (0, 0)) (by refine bp_ ?_; refine blk_far ?_ NB363_375.out _; refine bp_ ?_; refine blk_far ?_ NB363_375.out _; refine bp_ ?_; refine blk_far ?_ NB363_375.out _; exact bk_ BK363.out) hb); have n2_ := Aside0.mk (blk_below (g := gb375) (o := .cells #[.int .i64 t371, .int .i64 t372, .int .i64 t373] 98 (0, 0)) (by refine bp_ ?_; refine blk_put (cs := #[.int .i64 t371, .int .i64 t372, .int .i64 0]) ?_ 2 _ rfl; refine bp_ ?_; refine blk_put (cs := #[.int .i64 t371, .int .i64 0, .int .i64 0]) ?_ 1 _ rfl; refine bp_ ?_; refine blk_put (cs := #[.int .i64 0, .int .i64 0, .int .i64 0]) ?_ 0 _ rfl; exact bk_ BK375.out) hb); have n3_ := bt_ hb; clear BK362; clear BK363; clear BK375; clear HB; have BK362 := n0_; have BK363 := n1_; have BK375 := n2_; have HB := n3_; clear n0_ n1_ n2_ n3_; (try clear hb); (try clear hb2); (try clear hk); (try clear hi)))
    go_roundg k1
    case measure => have := HK1.out; omega
    case rel => exact ⟨(wrap64 (x6_1 + 1)), (wrap64 (x8_1 + 1)), rs_, rs_, H', ⟨by have := HK1.out; omega⟩, ⟨bk_ BK362.out⟩, ⟨bk_ BK363.out⟩, ⟨bh_⟩⟩
   subst c12
   replace H := it_ H
   obtain ⟨⟨t377, t378, t379, t380⟩, A13, H⟩ := bs_ H
   dsimp only at H
   simp only [Option.some.injEq, Prod.mk.injEq] at H
   obtain ⟨rfl, rfl, rfl⟩ := H
   go_wp2_with (first | ((with_reducible refine gate_callee (f := 78) rfl ?_); refine gl_ (some 29) Try.func78 #[.int .i64 a0, .int .i64 (wrap64 (x6_1 - 13))] ?_; (with_reducible refine (computusref05_FromDay.calls k1 a0 (wrap64 (x6_1 - 13)) t371 t372 t373 t374 _ A10.out).mono ?_); rintro e w14 ⟨rfl, hb⟩; refine ⟨_, rfl, ?_⟩; have n0_ := Aside0.mk (blk_below (g := gb362) (o := .cells #[.int .i64 0, .int .i64 0, .int .i64 0] 98 (0, 0)) (bk_ BK362.out) hb); have n1_ := Aside0.mk (blk_below (g := gb363) (o := .cells #[.int .i64 a1, .int .i64 3, .int .i64 21] 98 (0, 0)) (bk_ BK363.out) hb); have n2_ := bt_ hb; clear BK362; clear BK363; clear HB; have BK362 := n0_; have BK363 := n1_; have HB := n2_; clear n0_ n1_ n2_; (try clear hb); (try clear hb2); (try clear hk); (try clear hi)) | ((with_reducible refine gate_dst (N := 9) rfl ?_); refine box_event ?hg (N := 9) ?hd (cs := #[.int .i64 0, .int .i64 0, .int .i64 0]) (t := 98) ?hr ?_; (case hd => rfl); (case hg => rfl); (case hr => first | (go_simp; done) | (go_simp; rfl)); intro gb375 hg w15 hbox hb; have n0_ := Aside0.mk (blk_below (g := gb362) (o := .cells #[.int .i64 0, .int .i64 0, .int .i64 0] 98 (0, 0)) (bk_ BK362.out) hb); have n1_ := Aside0.mk (blk_below (g := gb363) (o := .cells #[.int .i64 a1, .int .i64 3, .int .i64 21] 98 (0, 0)) (bk_ BK363.out) hb); have n2_ := bt_ hb; have n3_ := Aside0.mk (hbox); have n4_ := Aside0.mk ((by rw [hg]; exact bz_ : w.heap.size ≤ gb375)); have n5_ := Aside0.mk ((by rw [hg]; exact bz_ : w.heap.size ≤ gb375)); have n6_ := Aside0.mk ((by rw [hg]; exact Nat.ne_of_lt (blk_lt (g := gb362) (o := .cells #[.int .i64 0, .int .i64 0, .int .i64 0] 98 (0, 0)) (bk_ BK362.out)) : gb362 ≠ gb375)); have n7_ := Aside0.mk ((by rw [hg]; exact Nat.ne_of_gt (blk_lt (g := gb362) (o := .cells #[.int .i64 0, .int .i64 0, .int .i64 0] 98 (0, 0)) (bk_ BK362.out)) : gb375 ≠ gb362)); have n8_ := Aside0.mk ((by rw [hg]; exact Nat.ne_of_lt (blk_lt (g := gb363) (o := .cells #[.int .i64 a1, .int .i64 3, .int .i64 21] 98 (0, 0)) (bk_ BK363.out)) : gb363 ≠ gb375)); have n9_ := Aside0.mk ((by rw [hg]; exact Nat.ne_of_gt (blk_lt (g := gb363) (o := .cells #[.int .i64 a1, .int .i64 3, .int .i64 21] 98 (0, 0)) (bk_ BK363.out)) : gb375 ≠ gb363)); clear BK362; clear BK363; clear HB; have BK362 := n0_; have BK363 := n1_; have HB := n2_; have BK375 := n3_; have GW375 := n4_; have GE375 := n5_; have NB362_375 := n6_; have NB375_362 := n7_; have NB363_375 := n8_; have NB375_363 := n9_; clear n0_ n1_ n2_ n3_ n4_ n5_ n6_ n7_ n8_ n9_; clear hb hbox hg; have hnb16 := NB375_362.out; have hnc16 := NB362_375.out; have hnb17 := NB375_363.out; have hnc17 := NB363_375.out; obtain ⟨hcz18_0, hcz18_1, hcz18_2⟩ := cz3_ BK375.out; obtain ⟨hfz18_0, hfz18_1, hfz18_2⟩ := fz3_ BK375.out) | ((with_reducible refine gate_callee (f := 79) rfl ?_); refine gl_ (some 34) Try.func79 #[.int .i64 a0, .agg #[.int .i64 t371, .int .i64 t372, .int .i64 t373]] ?_; (with_reducible refine (computusref09_NewMoon.calls k1 a0 t371 t372 t373 true _ A11.out).mono ?_); rintro e w19 ⟨rfl, hb⟩; refine ⟨_, rfl, ?_⟩; have n0_ := Aside0.mk (blk_below (g := gb362) (o := .cells #[.int .i64 0, .int .i64 0, .int .i64 0] 98 (0, 0)) (by refine bp_ ?_; refine blk_far ?_ NB362_375.out _; refine bp_ ?_; refine blk_far ?_ NB362_375.out _; refine bp_ ?_; refine blk_far ?_ NB362_375.out _; exact bk_ BK362.out) hb); have n1_ := Aside0.mk (blk_below (g := gb363) (o := .cells #[.int .i64 a1, .int .i64 3, .int .i64 21] 98 (0, 0)) (by refine bp_ ?_; refine blk_far ?_ NB363_375.out _; refine bp_ ?_; refine blk_far ?_ NB363_375.out _; refine bp_ ?_; refine blk_far ?_ NB363_375.out _; exact bk_ BK363.out) hb); have n2_ := Aside0.mk (blk_below (g := gb375) (o := .cells #[.int .i64 t371, .int .i64 t372, .int .i64 t373] 98 (0, 0)) (by refine bp_ ?_; refine blk_put (cs := #[.int .i64 t371, .int .i64 t372, .int .i64 0]) ?_ 2 _ rfl; refine bp_ ?_; refine blk_put (cs := #[.int .i64 t371, .int .i64 0, .int .i64 0]) ?_ 1 _ rfl; refine bp_ ?_; refine blk_put (cs := #[.int .i64 0, .int .i64 0, .int .i64 0]) ?_ 0 _ rfl; exact bk_ BK375.out) hb); have n3_ := bt_ hb; clear BK362; clear BK363; clear BK375; clear HB; have BK362 := n0_; have BK363 := n1_; have BK375 := n2_; have HB := n3_; clear n0_ n1_ n2_ n3_; (try clear hb); (try clear hb2); (try clear hk); (try clear hi)) | ((with_reducible refine gate_callee (f := 78) rfl ?_); refine gl_ (some 40) Try.func78 #[.int .i64 a0, .int .i64 x6_1] ?_; (with_reducible refine (computusref05_FromDay.calls k1 a0 x6_1 t377 t378 t379 t380 _ A13.out).mono ?_); rintro e w20 ⟨rfl, hb⟩; refine ⟨_, rfl, ?_⟩; have n0_ := Aside0.mk (blk_below (g := gb362) (o := .cells #[.int .i64 0, .int .i64 0, .int .i64 0] 98 (0, 0)) (bk_ BK362.out) hb); have n1_ := Aside0.mk (blk_below (g := gb363) (o := .cells #[.int .i64 a1, .int .i64 3, .int .i64 21] 98 (0, 0)) (bk_ BK363.out) hb); have n2_ := Aside0.mk (blk_below (g := gb375) (o := .cells #[.int .i64 t371, .int .i64 t372, .int .i64 t373] 98 (0, 0)) (bk_ BK375.out) hb); have n3_ := bt_ hb; clear BK362; clear BK363; clear BK375; clear HB; have BK362 := n0_; have BK363 := n1_; have BK375 := n2_; have HB := n3_; clear n0_ n1_ n2_ n3_; (try clear hb); (try clear hb2); (try clear hk); (try clear hi)) | ((with_reducible refine gate_dst (N := 11) rfl ?_); refine box_event ?hg (N := 11) ?hd (cs := #[.int .i64 0, .int .i64 0, .int .i64 0]) (t := 98) ?hr ?_; (case hd => rfl); (case hg => rfl); (case hr => first | (go_simp; done) | (go_simp; rfl)); intro gb381 hg w21 hbox hb; have n0_ := Aside0.mk (blk_below (g := gb362) (o := .cells #[.int .i64 0, .int .i64 0, .int .i64 0] 98 (0, 0)) (bk_ BK362.out) hb); have n1_ := Aside0.mk (blk_below (g := gb363) (o := .cells #[.int .i64 a1, .int .i64 3, .int .i64 21] 98 (0, 0)) (bk_ BK363.out) hb); have n2_ := Aside0.mk (blk_below (g := gb375) (o := .cells #[.int .i64 t371, .int .i64 t372, .int .i64 t373] 98 (0, 0)) (bk_ BK375.out) hb); have n3_ := bt_ hb; have n4_ := Aside0.mk (hbox); have n5_ := Aside0.mk ((by rw [hg]; exact bz_ : w.heap.size ≤ gb381)); have n6_ := Aside0.mk ((by rw [hg]; exact bz_ : w.heap.size ≤ gb381)); have n7_ := Aside0.mk ((by rw [hg]; exact Nat.ne_of_lt (blk_lt (g := gb362) (o := .cells #[.int .i64 0, .int .i64 0, .int .i64 0] 98 (0, 0)) (bk_ BK362.out)) : gb362 ≠ gb381)); have n8_ := Aside0.mk ((by rw [hg]; exact Nat.ne_of_gt (blk_lt (g := gb362) (o := .cells #[.int .i64 0, .int .i64 0, .int .i64 0] 98 (0, 0)) (bk_ BK362.out)) : gb381 ≠ gb362)); have n9_ := Aside0.mk ((by rw [hg]; exact Nat.ne_of_lt (blk_lt (g := gb363) (o := .cells #[.int .i64 a1, .int .i64 3, .int .i64 21] 98 (0, 0)) (bk_ BK363.out)) : gb363 ≠ gb381)); have n10_ := Aside0.mk ((by rw [hg]; exact Nat.ne_of_gt (blk_lt (g := gb363) (o := .cells #[.int .i64 a1, .int .i64 3, .int .i64 21] 98 (0, 0)) (bk_ BK363.out)) : gb381 ≠ gb363)); have n11_ := Aside0.mk ((by rw [hg]; exact Nat.ne_of_lt (blk_lt (g := gb375) (o := .cells #[.int .i64 t371, .int .i64 t372, .int .i64 t373] 98 (0, 0)) (bk_ BK375.out)) : gb375 ≠ gb381)); have n12_ := Aside0.mk ((by rw [hg]; exact Nat.ne_of_gt (blk_lt (g := gb375) (o := .cells #[.int .i64 t371, .int .i64 t372, .int .i64 t373] 98 (0, 0)) (bk_ BK375.out)) : gb381 ≠ gb375)); clear BK362; clear BK363; clear BK375; clear HB; have BK362 := n0_; have BK363 := n1_; have BK375 := n2_; have HB := n3_; have BK381 := n4_; have GW381 := n5_; have GE381 := n6_; have NB362_381 := n7_; have NB381_362 := n8_; have NB363_381 := n9_; have NB381_363 := n10_; have NB375_381 := n11_; have NB381_375 := n12_; clear n0_ n1_ n2_ n3_ n4_ n5_ n6_ n7_ n8_ n9_ n10_ n11_ n12_; clear hb hbox hg; have hnb22 := NB381_362.out; have hnc22 := NB362_381.out; have hnb23 := NB381_363.out; have hnc23 := NB363_381.out; have hnb24 := NB381_375.out; have hnc24 := NB375_381.out; obtain ⟨hcz25_0, hcz25_1, hcz25_2⟩ := cz3_ BK381.out; obtain ⟨hfz25_0, hfz25_1, hfz25_2⟩ := fz3_ BK381.out; have hnb26 := NB362_363.out; have hnc26 := NB363_362.out; obtain ⟨hcz27_0, hcz27_1, hcz27_2⟩ := cz3_ BK362.out; obtain ⟨hfz27_0, hfz27_1, hfz27_2⟩ := fz3_ BK362.out))
   refine bodyPost_ret (results_cell_row rfl _ _ gb362 98 #[.int .i64 t377, .int .i64 t378, .int .i64 t379] (0, 0) _ rfl (by refine bp_ ?_; refine blk_put (cs := #[.int .i64 t377, .int .i64 t378, .int .i64 0]) ?_ 2 _ rfl; refine bp_ ?_; refine blk_put (cs := #[.int .i64 t377, .int .i64 0, .int .i64 0]) ?_ 1 _ rfl; refine bp_ ?_; refine blk_put (cs := #[.int .i64 0, .int .i64 0, .int .i64 0]) ?_ 0 _ rfl; refine bp_ ?_; refine blk_far ?_ NB362_381.out _; refine bp_ ?_; refine blk_far ?_ NB362_381.out _; refine bp_ ?_; refine blk_far ?_ NB362_381.out _; exact bk_ BK362.out) Try.underlying98 rfl (by kernel_rfl)) rfl ?_
   exact rt_
def computusref10_Day.l0 : Nat → Int → Option (Int)
 | 0, _ => none
 | k + 1, x5 => (computusref04_Of.f x5).bind fun t387 => (if t387 = 0 then (some x5) else (computusref10_Day.l0 k (wrap64 (x5 + 1))))
def computusref10_Day.f (k : Nat) (a0 : Int) (a1 : Int) : Option (Int) := (computusref09_FullMoon.f k a0 a1).bind fun bt382 => ((computusref05_ToDay.f k a0 bt382.1 bt382.2.1 bt382.2.2).bind fun bt385 => (computusref10_Day.l0 k (wrap64 (bt385.1 + 1))))
theorem computusref10_Day.mono_l : ∀ k, (∀ y0, LeO (computusref10_Day.l0 k y0) (computusref10_Day.l0 (k + 1) y0))
 | 0 => fun _ r h => by simp [computusref10_Day.l0] at h
 | k + 1 => by
  have ih0 := computusref10_Day.mono_l k
  ·intro y0
   unfold computusref10_Day.l0
   repeat' first | (with_reducible first | exact ih0 _ | exact computusref05_ToDay.mono _ _ _ _ _ | exact computusref09_FullMoon.mono _ _ _ | exact LeO.refl _ | exact LeO.none _ | refine LeO.ite ?_ ?_ | refine LeO.bind ?_ (fun _ => ?_)) | exact LeO.none _ | refine LeO.ite ?_ ?_ | refine LeO.bind ?_ (fun _ => ?_)
theorem computusref10_Day.mono : ∀ a0 a1 k, LeO (computusref10_Day.f k a0 a1) (computusref10_Day.f (k + 1) a0 a1) := by
 intro a0 a1 k
 have ih0 := computusref10_Day.mono_l k
 unfold computusref10_Day.f
 repeat' first | (with_reducible first | exact ih0 _ | exact computusref05_ToDay.mono _ _ _ _ _ | exact computusref09_FullMoon.mono _ _ _ | exact LeO.refl _ | exact LeO.none _ | refine LeO.ite ?_ ?_ | refine LeO.bind ?_ (fun _ => ?_)) | exact LeO.none _ | refine LeO.ite ?_ ?_ | refine LeO.bind ?_ (fun _ => ?_)
set_option maxHeartbeats 8000000 in
set_option maxRecDepth 100000 in
theorem computusref10_Day.calls (k : Nat) (a0 : Int) (a1 : Int) (r : Int) (w : World) (h : computusref10_Day.f k a0 a1 = some r) :
  Calls Try.prog 59 #[.int .i64 a0, .int .i64 a1] w fun e w' => e = .returned (.int .i64 r) ∧ Below w.heap.size w w' := by
 have HB := Aside0.mk (Below.refl w.heap.size w)
 have H := h
 clear h
 unfold computusref10_Day.f at H
 obtain ⟨⟨t382, t383, t384⟩, A3, H⟩ := bs_ H
 dsimp only at H
 obtain ⟨⟨t385, t386⟩, A4, H⟩ := bs_ H
 dsimp only at H
 have H' := Aside0.mk H
 clear H
 go_enter Try.func59, Try.ntmps59
 go_wp2_with (first | ((with_reducible refine gate_callee (f := 68) rfl ?_); refine gl_ (some 11) Try.func68 #[.int .i64 a0, .int .i64 a1] ?_; (with_reducible refine (computusref09_FullMoon.calls k a0 a1 t382 t383 t384 _ A3.out).mono ?_); rintro e w5 ⟨rfl, hb⟩; refine ⟨_, rfl, ?_⟩; have n0_ := bt_ hb; clear HB; have HB := n0_; clear n0_; (try clear hb); (try clear hb2); (try clear hk); (try clear hi)) | ((with_reducible refine gate_callee (f := 67) rfl ?_); refine gl_ (some 12) Try.func67 #[.int .i64 a0, .agg #[.int .i64 t382, .int .i64 t383, .int .i64 t384]] ?_; (with_reducible refine (computusref05_ToDay.calls k a0 t382 t383 t384 t385 t386 _ A4.out).mono ?_); rintro e w6 ⟨rfl, hb⟩; refine ⟨_, rfl, ?_⟩; have n0_ := bt_ hb; clear HB; have HB := n0_; clear n0_; (try clear hb); (try clear hb2); (try clear hk); (try clear hi)))
 go_loopg [5] k (fun kq v5 w' => ∃ (x5_1 : Int), v5 = .int .i64 x5_1 ∧ Aside0 (computusref10_Day.l0 kq x5_1 = some r) ∧ Aside0 (kq ≤ k) ∧ Aside0 (Below w.heap.size w w'))
 case atStart => exact ⟨(wrap64 (t385 + 1)), rs_, H', ⟨Nat.le_refl _⟩, ⟨bh_⟩⟩
 case round =>
  clear H'
  try clear p2
  try clear c5
  try clear c6
  try clear p6
  obtain ⟨x5_1, rfl, HA, HK1, HB⟩ := hrel
  cases gk with
  | zero => exact absurd HA.out (by simp [computusref10_Day.l0])
  | succ k1 =>
   have H := HA.out
   clear HA
   simp only [computusref10_Day.l0] at H
   obtain ⟨t387, A7, H⟩ := bs_ H
   by_cases c8 : t387 = 0
   ·rw [if_pos c8] at H
    have c8b0 : (t387 == 0) = true := beq_iff_eq.mpr c8
    have c8b1 : (t387 != 0) = false := bne_eq_false_iff_eq.mpr c8
    clear c8
    obtain rfl := Option.some.inj H
    go_wp2_with (first | ((with_reducible refine gate_callee (f := 47) rfl ?_); refine gl_ (some 18) Try.func47 #[.int .i64 x5_1] ?_; (with_reducible refine (computusref04_Of.calls x5_1 t387 _ A7.out).mono ?_); rintro e w' ⟨rfl, ⟨nd, rfl⟩⟩; refine ⟨_, rfl, ?_⟩))
    go_ret
    exact rt_
   rw [if_neg c8] at H
   have c8b0 : (t387 == 0) = false := beq_eq_false_iff_ne.mpr c8
   have c8b1 : (t387 != 0) = true := bne_iff_ne.mpr c8
   have H' := Aside0.mk H
   clear H
   go_wp2_with (first | ((with_reducible refine gate_callee (f := 47) rfl ?_); refine gl_ (some 18) Try.func47 #[.int .i64 x5_1] ?_; (with_reducible refine (computusref04_Of.calls x5_1 t387 _ A7.out).mono ?_); rintro e w' ⟨rfl, ⟨nd, rfl⟩⟩; refine ⟨_, rfl, ?_⟩))
   go_roundg k1
   case measure => have := HK1.out; omega
   case rel => exact ⟨(wrap64 (x5_1 + 1)), rs_, H', ⟨by have := HK1.out; omega⟩, ⟨bh_⟩⟩
def computusref04_fails.j0 : Nat → Int → Bool → Option (Int)
 | 0, _, _ => none
 | k + 1, x0, x10 => if x10 = true then (some 3) else (if x0 < (-1099511627776) then (some 1) else (if x0 > 1099511627776 then (some 1) else (some 0)))
def computusref04_fails.f (k : Nat) (a0 : Int) (a1 : Int) : Option (Int) := if a1 < 0 then (computusref04_fails.j0 k a0 true) else (computusref04_fails.j0 k a0 (decide (a1 > 6)))
theorem computusref04_fails.mono_l : ∀ k, (∀ y0 y1, LeO (computusref04_fails.j0 k y0 y1) (computusref04_fails.j0 (k + 1) y0 y1))
 | 0 => fun _ _ r h => by simp [computusref04_fails.j0] at h
 | k + 1 => by
  have ih0 := computusref04_fails.mono_l k
  ·intro y0 y1
   unfold computusref04_fails.j0
   repeat' first | (with_reducible first | exact ih0 _ _ | exact LeO.refl _ | exact LeO.none _ | refine LeO.ite ?_ ?_ | refine LeO.bind ?_ (fun _ => ?_)) | exact LeO.none _ | refine LeO.ite ?_ ?_ | refine LeO.bind ?_ (fun _ => ?_)
theorem computusref04_fails.mono : ∀ a0 a1 k, LeO (computusref04_fails.f k a0 a1) (computusref04_fails.f (k + 1) a0 a1) := by
 intro a0 a1 k
 have ih0 := computusref04_fails.mono_l k
 unfold computusref04_fails.f
 repeat' first | (with_reducible first | exact ih0 _ _ | exact LeO.refl _ | exact LeO.none _ | refine LeO.ite ?_ ?_ | refine LeO.bind ?_ (fun _ => ?_)) | exact LeO.none _ | refine LeO.ite ?_ ?_ | refine LeO.bind ?_ (fun _ => ?_)
set_option maxHeartbeats 8000000 in
set_option maxRecDepth 100000 in
theorem computusref04_fails.calls (k : Nat) (a0 : Int) (a1 : Int) (r : Int) (w : World) (h : computusref04_fails.f k a0 a1 = some r) :
  Calls Try.prog 80 #[.int .i64 a0, .int .i64 a1] w fun e w' => e = .returned (.int .i64 r) ∧ Drawn0 w w' := by
 have H := h
 clear h
 unfold computusref04_fails.f at H
 have HC3 := Aside0.mk H
 clear H
 go_enter Try.func80, Try.ntmps80
 go_upto_region 1 with (fail)
 go_cut [10] (fun v10 wc => ∃ (kq : Nat) (x10_2 : Bool), v10 = .bool x10_2 ∧ Aside0 (computusref04_fails.j0 kq a0 x10_2 = some r) ∧ Aside0 (kq ≤ k) ∧ Drawn0 w wc)
 case first =>
  have H := HC3.out
  clear HC3
  by_cases c4 : a1 < 0
  ·rw [if_pos c4] at H
   have c4b0 : decide (a1 < 0) = true := decide_eq_true c4
   clear c4
   (first | rw [c4b0] | (simp only [i64_w, i32_w]; rw [c4b0]) | skip)
   have H' := Aside0.mk H
   clear H
   go_wp2
   go_meet
   case rel => exact ⟨_, (true), rs_, H', ⟨by first | omega | exact Nat.le_refl _⟩, by repeat (first | exact Drawn0.refl _ | apply Drawn0.step)⟩
  rw [if_neg c4] at H
  have c4b0 : decide (a1 < 0) = false := decide_eq_false c4
  clear c4
  (first | rw [c4b0] | (simp only [i64_w, i32_w]; rw [c4b0]) | skip)
  have H' := Aside0.mk H
  clear H
  go_wp2
  go_meet
  case rel => exact ⟨_, (decide (a1 > 6)), rs_, H', ⟨by first | omega | exact Nat.le_refl _⟩, by repeat (first | exact Drawn0.refl _ | apply Drawn0.step)⟩
 case rest =>
  clear HC3
  try clear p2
  try clear c4
  try clear c4b0
  obtain ⟨kq, x10_2, rfl, HA, HJ2, ⟨mc2, rfl⟩⟩ := hcut
  cases kq with
  | zero => exact absurd HA.out (by simp [computusref04_fails.j0])
  | succ kj2 =>
   have H := HA.out
   clear HA
   simp only [computusref04_fails.j0] at H
   by_cases c5 : x10_2 = true
   ·subst c5
    replace H := it_ H
    obtain rfl := Option.some.inj H
    go_wp2
    go_ret
    exact ⟨by first | rfl | (simp; done) | (simp [*]; done), by repeat (first | exact Drawn0.refl _ | apply Drawn0.step)⟩
   replace c5 := Bool.eq_false_iff.mpr c5
   subst c5
   replace H := if_ H
   by_cases c6 : a0 < (-1099511627776)
   ·rw [if_pos c6] at H
    have c6b0 : decide (a0 < (-1099511627776)) = true := decide_eq_true c6
    clear c6
    obtain rfl := Option.some.inj H
    go_wp2
    go_ret
    exact ⟨by first | rfl | (simp; done) | (simp [*]; done), by repeat (first | exact Drawn0.refl _ | apply Drawn0.step)⟩
   rw [if_neg c6] at H
   have c6b0 : decide (a0 < (-1099511627776)) = false := decide_eq_false c6
   clear c6
   by_cases c7 : a0 > 1099511627776
   ·rw [if_pos c7] at H
    have c7b0 : decide (1099511627776 < a0) = true := decide_eq_true c7
    clear c7
    obtain rfl := Option.some.inj H
    go_wp2
    go_ret
    exact ⟨by first | rfl | (simp; done) | (simp [*]; done), by repeat (first | exact Drawn0.refl _ | apply Drawn0.step)⟩
   rw [if_neg c7] at H
   have c7b0 : decide (1099511627776 < a0) = false := decide_eq_false c7
   clear c7
   obtain rfl := Option.some.inj H
   go_wp2
   go_ret
   exact ⟨by first | rfl | (simp; done) | (simp [*]; done), by repeat (first | exact Drawn0.refl _ | apply Drawn0.step)⟩
def computusref04_OnOrAfter.l0 : Nat → Int → Int → Option (Int × Int)
 | 0, _, _ => none
 | k + 1, x0, x1 => (computusref04_Of.f x0).bind fun t389 => (if t389 = x1 then (some (x0, 0)) else (computusref04_OnOrAfter.l0 k (wrap64 (x0 + 1)) x1))
def computusref04_OnOrAfter.f (k : Nat) (a0 : Int) (a1 : Int) : Option (Int × Int) := (computusref04_fails.f k a0 a1).bind fun t388 => (if t388 = 0 then (computusref04_OnOrAfter.l0 k a0 a1) else (some (0, t388)))
theorem computusref04_OnOrAfter.mono_l : ∀ k, (∀ y0 y1, LeO (computusref04_OnOrAfter.l0 k y0 y1) (computusref04_OnOrAfter.l0 (k + 1) y0 y1))
 | 0 => fun _ _ r h => by simp [computusref04_OnOrAfter.l0] at h
 | k + 1 => by
  have ih0 := computusref04_OnOrAfter.mono_l k
  ·intro y0 y1
   unfold computusref04_OnOrAfter.l0
   repeat' first | (with_reducible first | exact ih0 _ _ | exact computusref04_fails.mono _ _ _ | exact LeO.refl _ | exact LeO.none _ | refine LeO.ite ?_ ?_ | refine LeO.bind ?_ (fun _ => ?_)) | exact LeO.none _ | refine LeO.ite ?_ ?_ | refine LeO.bind ?_ (fun _ => ?_)
theorem computusref04_OnOrAfter.mono : ∀ a0 a1 k, LeO (computusref04_OnOrAfter.f k a0 a1) (computusref04_OnOrAfter.f (k + 1) a0 a1) := by
 intro a0 a1 k
 have ih0 := computusref04_OnOrAfter.mono_l k
 unfold computusref04_OnOrAfter.f
 repeat' first | (with_reducible first | exact ih0 _ _ | exact computusref04_fails.mono _ _ _ | exact LeO.refl _ | exact LeO.none _ | refine LeO.ite ?_ ?_ | refine LeO.bind ?_ (fun _ => ?_)) | exact LeO.none _ | refine LeO.ite ?_ ?_ | refine LeO.bind ?_ (fun _ => ?_)
set_option maxHeartbeats 8000000 in
set_option maxRecDepth 100000 in
theorem computusref04_OnOrAfter.calls (k : Nat) (a0 : Int) (a1 : Int) (r1 : Int) (r2 : Int) (w : World) (h : computusref04_OnOrAfter.f k a0 a1 = some (r1, r2)) :
  Calls Try.prog 73 #[.int .i64 a0, .int .i64 a1] w fun e w' => e = .returned (.tuple #[.int .i64 r1, .int .i64 r2]) ∧ Drawn0 w w' := by
 have H := h
 clear h
 unfold computusref04_OnOrAfter.f at H
 obtain ⟨t388, A3, H⟩ := bs_ H
 by_cases c4 : t388 = 0
 rotate_left
 ·rw [if_neg c4] at H
  have c4b0 : (t388 == 0) = false := beq_eq_false_iff_ne.mpr c4
  have c4b1 : (t388 != 0) = true := bne_iff_ne.mpr c4
  simp only [Option.some.injEq, Prod.mk.injEq] at H
  obtain ⟨rfl, rfl⟩ := H
  go_enter Try.func73, Try.ntmps73
  go_wp2_with (first | ((with_reducible refine gate_callee (f := 80) rfl ?_); refine gl_ (some 9) Try.func80 #[.int .i64 a0, .int .i64 a1] ?_; (with_reducible refine (computusref04_fails.calls k a0 a1 t388 _ A3.out).mono ?_); rintro e w' ⟨rfl, ⟨nd, rfl⟩⟩; refine ⟨_, rfl, ?_⟩))
  go_ret2
  exact ⟨by first | rfl | (simp; done) | (simp [*]; done), by repeat (first | exact Drawn0.refl _ | apply Drawn0.step)⟩
 rw [if_pos c4] at H
 have c4b0 : (t388 == 0) = true := beq_iff_eq.mpr c4
 have c4b1 : (t388 != 0) = false := bne_eq_false_iff_eq.mpr c4
 clear c4
 have H' := Aside0.mk H
 clear H
 go_enter Try.func73, Try.ntmps73
 go_wp2_with (first | ((with_reducible refine gate_callee (f := 80) rfl ?_); refine gl_ (some 9) Try.func80 #[.int .i64 a0, .int .i64 a1] ?_; (with_reducible refine (computusref04_fails.calls k a0 a1 t388 _ A3.out).mono ?_); rintro e w' ⟨rfl, ⟨nd, rfl⟩⟩; refine ⟨_, rfl, ?_⟩))
 go_loopg [0] k (fun kq v0 w' => ∃ (x0_1 : Int), v0 = .int .i64 x0_1 ∧ Aside0 (computusref04_OnOrAfter.l0 kq x0_1 a1 = some (r1, r2)) ∧ Aside0 (kq ≤ k) ∧ Drawn0 w w')
 case atStart => exact ⟨(a0), rs_, H', ⟨Nat.le_refl _⟩, by repeat (first | exact Drawn0.refl _ | apply Drawn0.step)⟩
 case round =>
  clear H'
  try clear p2
  try clear c4
  try clear c4b0
  try clear c4b1
  obtain ⟨x0_1, rfl, HA, HK1, ⟨m1, rfl⟩⟩ := hrel
  cases gk with
  | zero => exact absurd HA.out (by simp [computusref04_OnOrAfter.l0])
  | succ k1 =>
   have H := HA.out
   clear HA
   simp only [computusref04_OnOrAfter.l0] at H
   obtain ⟨t389, A5, H⟩ := bs_ H
   by_cases c6 : t389 = a1
   ·rw [if_pos c6] at H
    have c6b0 : (t389 == a1) = true := beq_iff_eq.mpr c6
    have c6b1 : (t389 != a1) = false := bne_eq_false_iff_eq.mpr c6
    clear c6
    simp only [Option.some.injEq, Prod.mk.injEq] at H
    obtain ⟨rfl, rfl⟩ := H
    go_wp2_with (first | ((with_reducible refine gate_callee (f := 47) rfl ?_); refine gl_ (some 14) Try.func47 #[.int .i64 x0_1] ?_; (with_reducible refine (computusref04_Of.calls x0_1 t389 _ A5.out).mono ?_); rintro e w' ⟨rfl, ⟨nd, rfl⟩⟩; refine ⟨_, rfl, ?_⟩))
    go_ret2
    exact ⟨by first | rfl | (simp; done) | (simp [*]; done), by repeat (first | exact Drawn0.refl _ | apply Drawn0.step)⟩
   rw [if_neg c6] at H
   have c6b0 : (t389 == a1) = false := beq_eq_false_iff_ne.mpr c6
   have c6b1 : (t389 != a1) = true := bne_iff_ne.mpr c6
   have H' := Aside0.mk H
   clear H
   go_wp2_with (first | ((with_reducible refine gate_callee (f := 47) rfl ?_); refine gl_ (some 14) Try.func47 #[.int .i64 x0_1] ?_; (with_reducible refine (computusref04_Of.calls x0_1 t389 _ A5.out).mono ?_); rintro e w' ⟨rfl, ⟨nd, rfl⟩⟩; refine ⟨_, rfl, ?_⟩))
   go_roundg k1
   case measure => have := HK1.out; omega
   case rel => exact ⟨(wrap64 (x0_1 + 1)), rs_, H', ⟨by have := HK1.out; omega⟩, by repeat (first | exact Drawn0.refl _ | apply Drawn0.step)⟩
def computusref04_OnOrBefore.l0 : Nat → Int → Int → Option (Int × Int)
 | 0, _, _ => none
 | k + 1, x0, x1 => (computusref04_Of.f x0).bind fun t391 => (if t391 = x1 then (some (x0, 0)) else (computusref04_OnOrBefore.l0 k (wrap64 (x0 - 1)) x1))
def computusref04_OnOrBefore.f (k : Nat) (a0 : Int) (a1 : Int) : Option (Int × Int) := (computusref04_fails.f k a0 a1).bind fun t390 => (if t390 = 0 then (computusref04_OnOrBefore.l0 k a0 a1) else (some (0, t390)))
theorem computusref04_OnOrBefore.mono_l : ∀ k, (∀ y0 y1, LeO (computusref04_OnOrBefore.l0 k y0 y1) (computusref04_OnOrBefore.l0 (k + 1) y0 y1))
 | 0 => fun _ _ r h => by simp [computusref04_OnOrBefore.l0] at h
 | k + 1 => by
  have ih0 := computusref04_OnOrBefore.mono_l k
  ·intro y0 y1
   unfold computusref04_OnOrBefore.l0
   repeat' first | (with_reducible first | exact ih0 _ _ | exact computusref04_fails.mono _ _ _ | exact LeO.refl _ | exact LeO.none _ | refine LeO.ite ?_ ?_ | refine LeO.bind ?_ (fun _ => ?_)) | exact LeO.none _ | refine LeO.ite ?_ ?_ | refine LeO.bind ?_ (fun _ => ?_)
theorem computusref04_OnOrBefore.mono : ∀ a0 a1 k, LeO (computusref04_OnOrBefore.f k a0 a1) (computusref04_OnOrBefore.f (k + 1) a0 a1) := by
 intro a0 a1 k
 have ih0 := computusref04_OnOrBefore.mono_l k
 unfold computusref04_OnOrBefore.f
 repeat' first | (with_reducible first | exact ih0 _ _ | exact computusref04_fails.mono _ _ _ | exact LeO.refl _ | exact LeO.none _ | refine LeO.ite ?_ ?_ | refine LeO.bind ?_ (fun _ => ?_)) | exact LeO.none _ | refine LeO.ite ?_ ?_ | refine LeO.bind ?_ (fun _ => ?_)
set_option maxHeartbeats 8000000 in
set_option maxRecDepth 100000 in
theorem computusref04_OnOrBefore.calls (k : Nat) (a0 : Int) (a1 : Int) (r1 : Int) (r2 : Int) (w : World) (h : computusref04_OnOrBefore.f k a0 a1 = some (r1, r2)) :
  Calls Try.prog 74 #[.int .i64 a0, .int .i64 a1] w fun e w' => e = .returned (.tuple #[.int .i64 r1, .int .i64 r2]) ∧ Drawn0 w w' := by
 have H := h
 clear h
 unfold computusref04_OnOrBefore.f at H
 obtain ⟨t390, A3, H⟩ := bs_ H
 by_cases c4 : t390 = 0
 rotate_left
 ·rw [if_neg c4] at H
  have c4b0 : (t390 == 0) = false := beq_eq_false_iff_ne.mpr c4
  have c4b1 : (t390 != 0) = true := bne_iff_ne.mpr c4
  simp only [Option.some.injEq, Prod.mk.injEq] at H
  obtain ⟨rfl, rfl⟩ := H
  go_enter Try.func74, Try.ntmps74
  go_wp2_with (first | ((with_reducible refine gate_callee (f := 80) rfl ?_); refine gl_ (some 9) Try.func80 #[.int .i64 a0, .int .i64 a1] ?_; (with_reducible refine (computusref04_fails.calls k a0 a1 t390 _ A3.out).mono ?_); rintro e w' ⟨rfl, ⟨nd, rfl⟩⟩; refine ⟨_, rfl, ?_⟩))
  go_ret2
  exact ⟨by first | rfl | (simp; done) | (simp [*]; done), by repeat (first | exact Drawn0.refl _ | apply Drawn0.step)⟩
 rw [if_pos c4] at H
 have c4b0 : (t390 == 0) = true := beq_iff_eq.mpr c4
 have c4b1 : (t390 != 0) = false := bne_eq_false_iff_eq.mpr c4
 clear c4
 have H' := Aside0.mk H
 clear H
 go_enter Try.func74, Try.ntmps74
 go_wp2_with (first | ((with_reducible refine gate_callee (f := 80) rfl ?_); refine gl_ (some 9) Try.func80 #[.int .i64 a0, .int .i64 a1] ?_; (with_reducible refine (computusref04_fails.calls k a0 a1 t390 _ A3.out).mono ?_); rintro e w' ⟨rfl, ⟨nd, rfl⟩⟩; refine ⟨_, rfl, ?_⟩))
 go_loopg [0] k (fun kq v0 w' => ∃ (x0_1 : Int), v0 = .int .i64 x0_1 ∧ Aside0 (computusref04_OnOrBefore.l0 kq x0_1 a1 = some (r1, r2)) ∧ Aside0 (kq ≤ k) ∧ Drawn0 w w')
 case atStart => exact ⟨(a0), rs_, H', ⟨Nat.le_refl _⟩, by repeat (first | exact Drawn0.refl _ | apply Drawn0.step)⟩
 case round =>
  clear H'
  try clear p2
  try clear c4
  try clear c4b0
  try clear c4b1
  obtain ⟨x0_1, rfl, HA, HK1, ⟨m1, rfl⟩⟩ := hrel
  cases gk with
  | zero => exact absurd HA.out (by simp [computusref04_OnOrBefore.l0])
  | succ k1 =>
   have H := HA.out
   clear HA
   simp only [computusref04_OnOrBefore.l0] at H
   obtain ⟨t391, A5, H⟩ := bs_ H
   by_cases c6 : t391 = a1
   ·rw [if_pos c6] at H
    have c6b0 : (t391 == a1) = true := beq_iff_eq.mpr c6
    have c6b1 : (t391 != a1) = false := bne_eq_false_iff_eq.mpr c6
    clear c6
    simp only [Option.some.injEq, Prod.mk.injEq] at H
    obtain ⟨rfl, rfl⟩ := H
    go_wp2_with (first | ((with_reducible refine gate_callee (f := 47) rfl ?_); refine gl_ (some 14) Try.func47 #[.int .i64 x0_1] ?_; (with_reducible refine (computusref04_Of.calls x0_1 t391 _ A5.out).mono ?_); rintro e w' ⟨rfl, ⟨nd, rfl⟩⟩; refine ⟨_, rfl, ?_⟩))
    go_ret2
    exact ⟨by first | rfl | (simp; done) | (simp [*]; done), by repeat (first | exact Drawn0.refl _ | apply Drawn0.step)⟩
   rw [if_neg c6] at H
   have c6b0 : (t391 == a1) = false := beq_eq_false_iff_ne.mpr c6
   have c6b1 : (t391 != a1) = true := bne_iff_ne.mpr c6
   have H' := Aside0.mk H
   clear H
   go_wp2_with (first | ((with_reducible refine gate_callee (f := 47) rfl ?_); refine gl_ (some 14) Try.func47 #[.int .i64 x0_1] ?_; (with_reducible refine (computusref04_Of.calls x0_1 t391 _ A5.out).mono ?_); rintro e w' ⟨rfl, ⟨nd, rfl⟩⟩; refine ⟨_, rfl, ?_⟩))
   go_roundg k1
   case measure => have := HK1.out; omega
   case rel => exact ⟨(wrap64 (x0_1 - 1)), rs_, H', ⟨by have := HK1.out; omega⟩, by repeat (first | exact Drawn0.refl _ | apply Drawn0.step)⟩
mutual
def computusref04_Nth.j0 : Nat → Int → Int → Int → Bool → Option (Int × Int)
 | 0, _, _, _, _ => none
 | k + 1, x0, x1, x2, x31 => if x31 = true then (some (0, 3)) else (if x2 > 0 then ((computusref04_OnOrAfter.f k x0 x1).bind fun bt392 => (computusref04_Nth.l0 k x2 bt392.1 bt392.2 1)) else ((computusref04_OnOrBefore.f k x0 x1).bind fun bt394 => (computusref04_Nth.l1 k x2 bt394.1 bt394.2 (-1))))
def computusref04_Nth.l0 : Nat → Int → Int → Int → Int → Option (Int × Int)
 | 0, _, _, _, _ => none
 | k + 1, x2, x8, x9, x10 => if x10 < x2 then (if x9 = 0 then (computusref04_Nth.l0 k x2 (wrap64 (x8 + 7)) x9 (wrap64 (x10 + 1))) else (some (x8, x9))) else (some (x8, x9))
def computusref04_Nth.l1 : Nat → Int → Int → Int → Int → Option (Int × Int)
 | 0, _, _, _, _ => none
 | k + 1, x2, x11, x12, x13 => if x13 > x2 then (if x12 = 0 then (computusref04_Nth.l1 k x2 (wrap64 (x11 - 7)) x12 (wrap64 (x13 - 1))) else (some (x11, x12))) else (some (x11, x12))
end
def computusref04_Nth.f (k : Nat) (a0 : Int) (a1 : Int) (a2 : Int) : Option (Int × Int) := if a1 < 0 then (computusref04_Nth.j0 k a0 a1 a2 true) else (if a1 > 6 then (computusref04_Nth.j0 k a0 a1 a2 true) else (if a2 = 0 then (computusref04_Nth.j0 k a0 a1 a2 true) else (if a2 < (-1000) then (computusref04_Nth.j0 k a0 a1 a2 true) else (computusref04_Nth.j0 k a0 a1 a2 (decide (a2 > 1000))))))
theorem computusref04_Nth.mono_l : ∀ k, (∀ y0 y1 y2 y3, LeO (computusref04_Nth.j0 k y0 y1 y2 y3) (computusref04_Nth.j0 (k + 1) y0 y1 y2 y3)) ∧ (∀ y0 y1 y2 y3, LeO (computusref04_Nth.l0 k y0 y1 y2 y3) (computusref04_Nth.l0 (k + 1) y0 y1 y2 y3)) ∧ (∀ y0 y1 y2 y3, LeO (computusref04_Nth.l1 k y0 y1 y2 y3) (computusref04_Nth.l1 (k + 1) y0 y1 y2 y3))
 | 0 => ⟨fun _ _ _ _ r h => by simp [computusref04_Nth.j0] at h, fun _ _ _ _ r h => by simp [computusref04_Nth.l0] at h, fun _ _ _ _ r h => by simp [computusref04_Nth.l1] at h⟩
 | k + 1 => by
  obtain ⟨ih0, ih1, ih2⟩ := computusref04_Nth.mono_l k
  refine ⟨?_, ?_, ?_⟩
  ·intro y0 y1 y2 y3
   unfold computusref04_Nth.j0
   repeat' first | (with_reducible first | exact ih0 _ _ _ _ | exact ih1 _ _ _ _ | exact ih2 _ _ _ _ | exact computusref04_OnOrAfter.mono _ _ _ | exact computusref04_OnOrBefore.mono _ _ _ | exact LeO.refl _ | exact LeO.none _ | refine LeO.ite ?_ ?_ | refine LeO.bind ?_ (fun _ => ?_)) | exact LeO.none _ | refine LeO.ite ?_ ?_ | refine LeO.bind ?_ (fun _ => ?_)
  ·intro y0 y1 y2 y3
   unfold computusref04_Nth.l0
   repeat' first | (with_reducible first | exact ih0 _ _ _ _ | exact ih1 _ _ _ _ | exact ih2 _ _ _ _ | exact computusref04_OnOrAfter.mono _ _ _ | exact computusref04_OnOrBefore.mono _ _ _ | exact LeO.refl _ | exact LeO.none _ | refine LeO.ite ?_ ?_ | refine LeO.bind ?_ (fun _ => ?_)) | exact LeO.none _ | refine LeO.ite ?_ ?_ | refine LeO.bind ?_ (fun _ => ?_)
  ·intro y0 y1 y2 y3
   unfold computusref04_Nth.l1
   repeat' first | (with_reducible first | exact ih0 _ _ _ _ | exact ih1 _ _ _ _ | exact ih2 _ _ _ _ | exact computusref04_OnOrAfter.mono _ _ _ | exact computusref04_OnOrBefore.mono _ _ _ | exact LeO.refl _ | exact LeO.none _ | refine LeO.ite ?_ ?_ | refine LeO.bind ?_ (fun _ => ?_)) | exact LeO.none _ | refine LeO.ite ?_ ?_ | refine LeO.bind ?_ (fun _ => ?_)
theorem computusref04_Nth.mono : ∀ a0 a1 a2 k, LeO (computusref04_Nth.f k a0 a1 a2) (computusref04_Nth.f (k + 1) a0 a1 a2) := by
 intro a0 a1 a2 k
 obtain ⟨ih0, ih1, ih2⟩ := computusref04_Nth.mono_l k
 unfold computusref04_Nth.f
 repeat' first | (with_reducible first | exact ih0 _ _ _ _ | exact ih1 _ _ _ _ | exact ih2 _ _ _ _ | exact computusref04_OnOrAfter.mono _ _ _ | exact computusref04_OnOrBefore.mono _ _ _ | exact LeO.refl _ | exact LeO.none _ | refine LeO.ite ?_ ?_ | refine LeO.bind ?_ (fun _ => ?_)) | exact LeO.none _ | refine LeO.ite ?_ ?_ | refine LeO.bind ?_ (fun _ => ?_)
set_option maxHeartbeats 8000000 in
set_option maxRecDepth 100000 in
theorem computusref04_Nth.calls (k : Nat) (a0 : Int) (a1 : Int) (a2 : Int) (r1 : Int) (r2 : Int) (w : World) (h : computusref04_Nth.f k a0 a1 a2 = some (r1, r2)) :
  Calls Try.prog 61 #[.int .i64 a0, .int .i64 a1, .int .i64 a2] w fun e w' => e = .returned (.tuple #[.int .i64 r1, .int .i64 r2]) ∧ Drawn0 w w' := by
 have H := h
 clear h
 unfold computusref04_Nth.f at H
 have HC4 := Aside0.mk H
 clear H
 go_enter Try.func61, Try.ntmps61
 go_upto_region 1 with (fail)
 go_cut [31] (fun v31 wc => ∃ (kq : Nat) (x31_3 : Bool), v31 = .bool x31_3 ∧ Aside0 (computusref04_Nth.j0 kq a0 a1 a2 x31_3 = some (r1, r2)) ∧ Aside0 (kq ≤ k) ∧ Drawn0 w wc)
 case first =>
  have H := HC4.out
  clear HC4
  by_cases c5 : a1 < 0
  ·rw [if_pos c5] at H
   have c5b0 : decide (a1 < 0) = true := decide_eq_true c5
   clear c5
   (first | rw [c5b0] | (simp only [i64_w, i32_w]; rw [c5b0]) | skip)
   have H' := Aside0.mk H
   clear H
   go_wp2
   go_meet
   case rel => exact ⟨_, (true), rs_, H', ⟨by first | omega | exact Nat.le_refl _⟩, by repeat (first | exact Drawn0.refl _ | apply Drawn0.step)⟩
  rw [if_neg c5] at H
  have c5b0 : decide (a1 < 0) = false := decide_eq_false c5
  clear c5
  (first | rw [c5b0] | (simp only [i64_w, i32_w]; rw [c5b0]) | skip)
  by_cases c6 : a1 > 6
  ·rw [if_pos c6] at H
   have c6b0 : decide (6 < a1) = true := decide_eq_true c6
   clear c6
   have H' := Aside0.mk H
   clear H
   go_wp2
   go_meet
   case rel => exact ⟨_, (true), rs_, H', ⟨by first | omega | exact Nat.le_refl _⟩, by repeat (first | exact Drawn0.refl _ | apply Drawn0.step)⟩
  rw [if_neg c6] at H
  have c6b0 : decide (6 < a1) = false := decide_eq_false c6
  clear c6
  by_cases c7 : a2 = 0
  ·rw [if_pos c7] at H
   have c7b0 : (a2 == 0) = true := beq_iff_eq.mpr c7
   have c7b1 : (a2 != 0) = false := bne_eq_false_iff_eq.mpr c7
   clear c7
   have H' := Aside0.mk H
   clear H
   go_wp2
   go_meet
   case rel => exact ⟨_, (true), rs_, H', ⟨by first | omega | exact Nat.le_refl _⟩, by repeat (first | exact Drawn0.refl _ | apply Drawn0.step)⟩
  rw [if_neg c7] at H
  have c7b0 : (a2 == 0) = false := beq_eq_false_iff_ne.mpr c7
  have c7b1 : (a2 != 0) = true := bne_iff_ne.mpr c7
  by_cases c8 : a2 < (-1000)
  ·rw [if_pos c8] at H
   have c8b0 : decide (a2 < (-1000)) = true := decide_eq_true c8
   clear c8
   have H' := Aside0.mk H
   clear H
   go_wp2
   go_meet
   case rel => exact ⟨_, (true), rs_, H', ⟨by first | omega | exact Nat.le_refl _⟩, by repeat (first | exact Drawn0.refl _ | apply Drawn0.step)⟩
  rw [if_neg c8] at H
  have c8b0 : decide (a2 < (-1000)) = false := decide_eq_false c8
  clear c8
  have H' := Aside0.mk H
  clear H
  go_wp2
  go_meet
  case rel => exact ⟨_, (decide (a2 > 1000)), rs_, H', ⟨by first | omega | exact Nat.le_refl _⟩, by repeat (first | exact Drawn0.refl _ | apply Drawn0.step)⟩
 case rest =>
  clear HC4
  try clear p2
  try clear c5
  try clear c5b0
  try clear c6
  try clear c6b0
  try clear c7
  try clear c7b0
  try clear c7b1
  try clear c8
  try clear c8b0
  obtain ⟨kq, x31_3, rfl, HA, HJ3, ⟨mc3, rfl⟩⟩ := hcut
  cases kq with
  | zero => exact absurd HA.out (by simp [computusref04_Nth.j0])
  | succ kj3 =>
   have H := HA.out
   clear HA
   simp only [computusref04_Nth.j0] at H
   by_cases c9 : x31_3 = true
   ·subst c9
    replace H := it_ H
    simp only [Option.some.injEq, Prod.mk.injEq] at H
    obtain ⟨rfl, rfl⟩ := H
    go_wp2
    go_ret2
    exact ⟨by first | rfl | (simp; done) | (simp [*]; done), by repeat (first | exact Drawn0.refl _ | apply Drawn0.step)⟩
   replace c9 := Bool.eq_false_iff.mpr c9
   subst c9
   replace H := if_ H
   by_cases c10 : a2 > 0
   ·rw [if_pos c10] at H
    have c10b0 : decide (0 < a2) = true := decide_eq_true c10
    clear c10
    obtain ⟨⟨t392, t393⟩, A11, H⟩ := bs_ H
    dsimp only at H
    have H' := Aside0.mk H
    clear H
    go_wp2_with (first | ((with_reducible refine gate_callee (f := 73) rfl ?_); refine gl_ (some 37) Try.func73 #[.int .i64 a0, .int .i64 a1] ?_; (with_reducible refine (computusref04_OnOrAfter.calls kj3 a0 a1 t392 t393 _ A11.out).mono ?_); rintro e w' ⟨rfl, ⟨nd, rfl⟩⟩; refine ⟨_, rfl, ?_⟩))
    go_loopg [8, 10] kj3 (fun kq v8 v10 w' => ∃ (x8_2 : Int) (x10_2 : Int), v8 = .int .i64 x8_2 ∧ v10 = .int .i64 x10_2 ∧ Aside0 (computusref04_Nth.l0 kq a2 x8_2 t393 x10_2 = some (r1, r2)) ∧ Aside0 (kq ≤ kj3) ∧ Drawn0 w w')
    case atStart => exact ⟨(t392), (1), rs_, rs_, H', ⟨Nat.le_refl _⟩, by repeat (first | exact Drawn0.refl _ | apply Drawn0.step)⟩
    case round =>
     clear H'
     try clear c1
     try clear p2
     try clear c3
     try clear c5
     try clear c5b0
     try clear c6
     try clear c6b0
     try clear c7
     try clear c7b0
     try clear c7b1
     try clear c8
     try clear c8b0
     try clear c9
     try clear c10
     try clear c10b0
     try clear p2
     obtain ⟨x8_2, x10_2, rfl, rfl, HA, HK2, ⟨m2, rfl⟩⟩ := hrel
     cases gk with
     | zero => exact absurd HA.out (by simp [computusref04_Nth.l0])
     | succ k2 =>
      have H := HA.out
      clear HA
      simp only [computusref04_Nth.l0] at H
      by_cases c12 : x10_2 < a2
      rotate_left
      ·rw [if_neg c12] at H
       have c12b0 : decide (x10_2 < a2) = false := decide_eq_false c12
       clear c12
       simp only [Option.some.injEq, Prod.mk.injEq] at H
       obtain ⟨rfl, rfl⟩ := H
       go_wp2
       go_ret2
       exact ⟨by first | rfl | (simp; done) | (simp [*]; done), by repeat (first | exact Drawn0.refl _ | apply Drawn0.step)⟩
      rw [if_pos c12] at H
      have c12b0 : decide (x10_2 < a2) = true := decide_eq_true c12
      clear c12
      by_cases c13 : t393 = 0
      rotate_left
      ·rw [if_neg c13] at H
       have c13b0 : (t393 == 0) = false := beq_eq_false_iff_ne.mpr c13
       have c13b1 : (t393 != 0) = true := bne_iff_ne.mpr c13
       simp only [Option.some.injEq, Prod.mk.injEq] at H
       obtain ⟨rfl, rfl⟩ := H
       go_wp2
       go_ret2
       exact ⟨by first | rfl | (simp; done) | (simp [*]; done), by repeat (first | exact Drawn0.refl _ | apply Drawn0.step)⟩
      rw [if_pos c13] at H
      have c13b0 : (t393 == 0) = true := beq_iff_eq.mpr c13
      have c13b1 : (t393 != 0) = false := bne_eq_false_iff_eq.mpr c13
      clear c13
      have H' := Aside0.mk H
      clear H
      go_wp2
      go_roundg k2
      case measure => have := HJ3.out; have := HK2.out; omega
      case rel => exact ⟨(wrap64 (x8_2 + 7)), (wrap64 (x10_2 + 1)), rs_, rs_, H', ⟨by have := HJ3.out; have := HK2.out; omega⟩, by repeat (first | exact Drawn0.refl _ | apply Drawn0.step)⟩
   rw [if_neg c10] at H
   have c10b0 : decide (0 < a2) = false := decide_eq_false c10
   clear c10
   obtain ⟨⟨t394, t395⟩, A14, H⟩ := bs_ H
   dsimp only at H
   have H' := Aside0.mk H
   clear H
   go_wp2_with (first | ((with_reducible refine gate_callee (f := 74) rfl ?_); refine gl_ (some 56) Try.func74 #[.int .i64 a0, .int .i64 a1] ?_; (with_reducible refine (computusref04_OnOrBefore.calls kj3 a0 a1 t394 t395 _ A14.out).mono ?_); rintro e w' ⟨rfl, ⟨nd, rfl⟩⟩; refine ⟨_, rfl, ?_⟩))
   go_loopg [11, 13] kj3 (fun kq v11 v13 w' => ∃ (x11_2 : Int) (x13_2 : Int), v11 = .int .i64 x11_2 ∧ v13 = .int .i64 x13_2 ∧ Aside0 (computusref04_Nth.l1 kq a2 x11_2 t395 x13_2 = some (r1, r2)) ∧ Aside0 (kq ≤ kj3) ∧ Drawn0 w w')
   case atStart => exact ⟨(t394), ((-1)), rs_, rs_, H', ⟨Nat.le_refl _⟩, by repeat (first | exact Drawn0.refl _ | apply Drawn0.step)⟩
   case round =>
    clear H'
    try clear c1
    try clear p2
    try clear c3
    try clear c5
    try clear c5b0
    try clear c6
    try clear c6b0
    try clear p6
    try clear c7
    try clear c7b0
    try clear c7b1
    try clear c8
    try clear c8b0
    try clear c9
    try clear c10
    try clear c10b0
    try clear c12
    try clear c12b0
    try clear c13
    try clear c13b0
    try clear c13b1
    try clear p2
    obtain ⟨x11_2, x13_2, rfl, rfl, HA, HK2, ⟨m2, rfl⟩⟩ := hrel
    cases gk with
    | zero => exact absurd HA.out (by simp [computusref04_Nth.l1])
    | succ k2 =>
     have H := HA.out
     clear HA
     simp only [computusref04_Nth.l1] at H
     by_cases c15 : x13_2 > a2
     rotate_left
     ·rw [if_neg c15] at H
      have c15b0 : decide (a2 < x13_2) = false := decide_eq_false c15
      clear c15
      simp only [Option.some.injEq, Prod.mk.injEq] at H
      obtain ⟨rfl, rfl⟩ := H
      go_wp2
      go_ret2
      exact ⟨by first | rfl | (simp; done) | (simp [*]; done), by repeat (first | exact Drawn0.refl _ | apply Drawn0.step)⟩
     rw [if_pos c15] at H
     have c15b0 : decide (a2 < x13_2) = true := decide_eq_true c15
     clear c15
     by_cases c16 : t395 = 0
     rotate_left
     ·rw [if_neg c16] at H
      have c16b0 : (t395 == 0) = false := beq_eq_false_iff_ne.mpr c16
      have c16b1 : (t395 != 0) = true := bne_iff_ne.mpr c16
      simp only [Option.some.injEq, Prod.mk.injEq] at H
      obtain ⟨rfl, rfl⟩ := H
      go_wp2
      go_ret2
      exact ⟨by first | rfl | (simp; done) | (simp [*]; done), by repeat (first | exact Drawn0.refl _ | apply Drawn0.step)⟩
     rw [if_pos c16] at H
     have c16b0 : (t395 == 0) = true := beq_iff_eq.mpr c16
     have c16b1 : (t395 != 0) = false := bne_eq_false_iff_eq.mpr c16
     clear c16
     have H' := Aside0.mk H
     clear H
     go_wp2
     go_roundg k2
     case measure => have := HJ3.out; have := HK2.out; omega
     case rel => exact ⟨(wrap64 (x11_2 - 7)), (wrap64 (x13_2 - 1)), rs_, rs_, H', ⟨by have := HJ3.out; have := HK2.out; omega⟩, by repeat (first | exact Drawn0.refl _ | apply Drawn0.step)⟩
def computusref16_Day.f (k : Nat) (a0_0 : Int) (a0_1 : Int) (a0_2 : Int) (a0_3 : Int) (a0_4 : Int) (a0_5 : Int) (a1 : Int) : Option (Int) := if a0_0 = 2 then ((computusref10_Day.f k 2 a1).bind fun t397 => (some (wrap64 (t397 + a0_3)))) else ((computusref03_ToDay.f k a1 a0_1 a0_2).bind fun bt398 => (if a0_0 = 3 then ((computusref04_Nth.f k bt398.1 a0_4 a0_5).bind fun bt400 => (some bt400.1)) else (some bt398.1)))
theorem computusref16_Day.mono : ∀ a0 a1 a2 a3 a4 a5 a6 k, LeO (computusref16_Day.f k a0 a1 a2 a3 a4 a5 a6) (computusref16_Day.f (k + 1) a0 a1 a2 a3 a4 a5 a6) := by
 intro a0 a1 a2 a3 a4 a5 a6 k
 unfold computusref16_Day.f
 repeat' first | (with_reducible first | exact computusref03_ToDay.mono _ _ _ _ | exact computusref04_Nth.mono _ _ _ _ | exact computusref10_Day.mono _ _ _ | exact LeO.refl _ | exact LeO.none _ | refine LeO.ite ?_ ?_ | refine LeO.bind ?_ (fun _ => ?_)) | exact LeO.none _ | refine LeO.ite ?_ ?_ | refine LeO.bind ?_ (fun _ => ?_)
set_option maxHeartbeats 8000000 in
set_option maxRecDepth 100000 in
theorem computusref16_Day.calls (k : Nat) (a0_0 : Int) (a0_1 : Int) (a0_2 : Int) (a0_3 : Int) (a0_4 : Int) (a0_5 : Int) (a1 : Int) (r : Int) (w : World) (h : computusref16_Day.f k a0_0 a0_1 a0_2 a0_3 a0_4 a0_5 a1 = some r) :
  Calls Try.prog 48 #[.agg #[.int .i64 a0_0, .int .i64 a0_1, .int .i64 a0_2, .int .i64 a0_3, .int .i64 a0_4, .int .i64 a0_5], .int .i64 a1] w fun e w' => e = .returned (.int .i64 r) ∧ Below w.heap.size w w' := by
 have hu64 := Try.underlying64
 have hu98 := Try.underlying98
 have HB := Aside0.mk (Below.refl w.heap.size w)
 have H := h
 clear h
 unfold computusref16_Day.f at H
 by_cases c3 : a0_0 = 2
 rotate_left
 ·rw [if_neg c3] at H
  have c3b0 : (a0_0 == 2) = false := beq_eq_false_iff_ne.mpr c3
  have c3b1 : (a0_0 != 2) = true := bne_iff_ne.mpr c3
  obtain ⟨⟨t398, t399⟩, A9, H⟩ := bs_ H
  dsimp only at H
  by_cases c10 : a0_0 = 3
  rotate_left
  ·rw [if_neg c10] at H
   have c10b0 : (a0_0 == 3) = false := beq_eq_false_iff_ne.mpr c10
   have c10b1 : (a0_0 != 3) = true := bne_iff_ne.mpr c10
   obtain rfl := Option.some.inj H
   go_enter Try.func48, Try.ntmps48
   go_wp2_with (first | ((with_reducible refine gate_dst (N := 2) rfl ?_); refine bx_ (w := w) (N := 2) (cs := #[.int .i64 a0_0, .int .i64 a0_1, .int .i64 a0_2, .int .i64 a0_3, .int .i64 a0_4, .int .i64 a0_5]) (t := 64) ?_; intro gb396 w16 BK396 n0_ GW396 GE396; clear HB; have HB := n0_; clear n0_; obtain ⟨hcz17_0, hcz17_1, hcz17_2, hcz17_3, hcz17_4, hcz17_5⟩ := cz6_ BK396.out; obtain ⟨hfz17_0, hfz17_1, hfz17_2, hfz17_3, hfz17_4, hfz17_5⟩ := fz6_ BK396.out) | ((with_reducible refine gate_callee (f := 60) rfl ?_); refine gl_ (some 24) Try.func60 #[.agg #[.int .i64 a1, .int .i64 a0_1, .int .i64 a0_2]] ?_; (with_reducible refine (computusref03_ToDay.calls k a1 a0_1 a0_2 t398 t399 _ A9.out).mono ?_); rintro e w18 ⟨rfl, hb⟩; refine ⟨_, rfl, ?_⟩; have n0_ := Aside0.mk (blk_below (g := gb396) (o := .cells #[.int .i64 a0_0, .int .i64 a0_1, .int .i64 a0_2, .int .i64 a0_3, .int .i64 a0_4, .int .i64 a0_5] 64 (0, 0)) (bk_ BK396.out) hb); have n1_ := bt_ hb; clear BK396; clear HB; have BK396 := n0_; have HB := n1_; clear n0_ n1_; (try clear hb); (try clear hb2); (try clear hk); (try clear hi); obtain ⟨hcz19_0, hcz19_1, hcz19_2, hcz19_3, hcz19_4, hcz19_5⟩ := cz6_ BK396.out; obtain ⟨hfz19_0, hfz19_1, hfz19_2, hfz19_3, hfz19_4, hfz19_5⟩ := fz6_ BK396.out))
   go_ret
   exact rt_
  rw [if_pos c10] at H
  have c10b0 : (a0_0 == 3) = true := beq_iff_eq.mpr c10
  have c10b1 : (a0_0 != 3) = false := bne_eq_false_iff_eq.mpr c10
  clear c10
  obtain ⟨⟨t400, t401⟩, A11, H⟩ := bs_ H
  dsimp only at H
  obtain rfl := Option.some.inj H
  go_enter Try.func48, Try.ntmps48
  go_wp2_with (first | ((with_reducible refine gate_dst (N := 2) rfl ?_); refine bx_ (w := w) (N := 2) (cs := #[.int .i64 a0_0, .int .i64 a0_1, .int .i64 a0_2, .int .i64 a0_3, .int .i64 a0_4, .int .i64 a0_5]) (t := 64) ?_; intro gb396 w12 BK396 n0_ GW396 GE396; clear HB; have HB := n0_; clear n0_; obtain ⟨hcz13_0, hcz13_1, hcz13_2, hcz13_3, hcz13_4, hcz13_5⟩ := cz6_ BK396.out; obtain ⟨hfz13_0, hfz13_1, hfz13_2, hfz13_3, hfz13_4, hfz13_5⟩ := fz6_ BK396.out) | ((with_reducible refine gate_callee (f := 60) rfl ?_); refine gl_ (some 24) Try.func60 #[.agg #[.int .i64 a1, .int .i64 a0_1, .int .i64 a0_2]] ?_; (with_reducible refine (computusref03_ToDay.calls k a1 a0_1 a0_2 t398 t399 _ A9.out).mono ?_); rintro e w14 ⟨rfl, hb⟩; refine ⟨_, rfl, ?_⟩; have n0_ := Aside0.mk (blk_below (g := gb396) (o := .cells #[.int .i64 a0_0, .int .i64 a0_1, .int .i64 a0_2, .int .i64 a0_3, .int .i64 a0_4, .int .i64 a0_5] 64 (0, 0)) (bk_ BK396.out) hb); have n1_ := bt_ hb; clear BK396; clear HB; have BK396 := n0_; have HB := n1_; clear n0_ n1_; (try clear hb); (try clear hb2); (try clear hk); (try clear hi); obtain ⟨hcz15_0, hcz15_1, hcz15_2, hcz15_3, hcz15_4, hcz15_5⟩ := cz6_ BK396.out; obtain ⟨hfz15_0, hfz15_1, hfz15_2, hfz15_3, hfz15_4, hfz15_5⟩ := fz6_ BK396.out) | ((with_reducible refine gate_callee (f := 61) rfl ?_); refine gl_ (some 36) Try.func61 #[.int .i64 t398, .int .i64 a0_4, .int .i64 a0_5] ?_; (with_reducible refine (computusref04_Nth.calls k t398 a0_4 a0_5 t400 t401 _ A11.out).mono ?_); rintro e w' ⟨rfl, ⟨nd, rfl⟩⟩; refine ⟨_, rfl, ?_⟩))
  go_ret
  exact rt_
 rw [if_pos c3] at H
 have c3b0 : (a0_0 == 2) = true := beq_iff_eq.mpr c3
 have c3b1 : (a0_0 != 2) = false := bne_eq_false_iff_eq.mpr c3
 clear c3
 obtain ⟨t397, A4, H⟩ := bs_ H
 obtain rfl := Option.some.inj H
 go_enter Try.func48, Try.ntmps48
 try go_wp2_with (first | ((with_reducible refine gate_dst (N := 2) rfl ?_); refine bx_ (w := w) (N := 2) (cs := #[.int .i64 a0_0, .int .i64 a0_1, .int .i64 a0_2, .int .i64 a0_3, .int .i64 a0_4, .int .i64 a0_5]) (t := 64) ?_; intro gb396 w5 BK396 n0_ GW396 GE396; clear HB; have HB := n0_; clear n0_; obtain ⟨hcz6_0, hcz6_1, hcz6_2, hcz6_3, hcz6_4, hcz6_5⟩ := cz6_ BK396.out; obtain ⟨hfz6_0, hfz6_1, hfz6_2, hfz6_3, hfz6_4, hfz6_5⟩ := fz6_ BK396.out))
 have n0_ := Aside0.mk (blk_drew BK396.out)
 have n1_ := Aside0.mk (below_drew1 HB.out)
 clear BK396
 clear HB
 have BK396 := n0_
 have HB := n1_
 clear n0_ n1_
 refine start_ (n := 6) (S := fun w' => w'.cell? ⟨gb396, 0, none⟩ = some (.int .i64 a0_0) ∧ w'.cell? ⟨gb396, 1, none⟩ = some (.int .i64 a0_1) ∧ w'.cell? ⟨gb396, 2, none⟩ = some (.int .i64 a0_2) ∧ w'.cell? ⟨gb396, 3, none⟩ = some (.int .i64 a0_3) ∧ w'.cell? ⟨gb396, 4, none⟩ = some (.int .i64 a0_4) ∧ w'.cell? ⟨gb396, 5, none⟩ = some (.int .i64 a0_5)) (ds := []) #[false, false, false, false, false, false] (by kernel_rfl) rfl rfl ⟨(blk_cell BK396.out 0).trans rfl, (blk_cell BK396.out 1).trans rfl, (blk_cell BK396.out 2).trans rfl, (blk_cell BK396.out 3).trans rfl, (blk_cell BK396.out 4).trans rfl, (blk_cell BK396.out 5).trans rfl⟩ (fun hHeld => ?_)
 generalize w5.drew = w7 at BK396 HB hHeld ⊢
 refine pure_ (i := 0) (N := some 12) (v := ?_) (a' := ?_) (bf_ 6 1) rfl rfl (by kernel_rfl) (fun _ _ _ h => h) (Or.inl ⟨by rfl, ?_⟩) ?_ ?_
 rotate_left
 ·intro w'
  go_simp
  with_reducible rfl
 rotate_left
 ·simp only [Act.put, sA_, sZ_, sS_, i64_w, i32_w]
  rfl
 refine pure_ (i := 2) (N := some 14) (v := ?_) (a' := ?_) (bf_ 6 5) rfl rfl (by kernel_rfl) (fun _ _ _ h => h) (Or.inl ⟨by rfl, ?_⟩) ?_ ?_
 rotate_left
 ·intro w'
  go_simp
  with_reducible rfl
 rotate_left
 ·simp only [Act.put, sA_, sZ_, sS_, i64_w, i32_w]
  rfl
 refine take_ (i := 3) (N := some 15) (v := ?_) (a' := ?_) (bf_ 6 13) rfl rfl (by kernel_rfl) (fun _ _ _ h => h) (Or.inl ⟨by rfl, ?_⟩) hHeld ?_ ?_
 rotate_left
 ·rintro w' ⟨s0, s1, s2, s3, s4, s5⟩
  go_simp
  with_reducible rfl
 rotate_left
 ·simp only [Act.put, sA_, sZ_, sS_, i64_w, i32_w]
  rfl
 refine one_ (i := 1) (N := some 13) (bf_ 6 15) rfl rfl (by kernel_rfl) (by decide) (fun K hK => ?_)
 refine goes_ Try.func59 (by kernel_rfl) rfl #[.int .i64 2, .int .i64 a1] (by rfl) rfl rfl (by (try simp only [List.map_toArray, List.map_cons, List.map_nil]); first | done | rfl | (simp only [List.length_drop, List.length_take]; rfl)) ?_
 with_reducible refine (computusref10_Day.calls k 2 a1 t397 _ A4.out).mono ?_
 rintro e w8 ⟨rfl, hb⟩
 refine ⟨_, rfl, ?_⟩
 have n0_ := Aside0.mk (blk_below (g := gb396) (o := .cells #[.int .i64 a0_0, .int .i64 a0_1, .int .i64 a0_2, .int .i64 a0_3, .int .i64 a0_4, .int .i64 a0_5] 64 (0, 0)) (bk_ BK396.out) hb)
 have n1_ := bt_ hb
 clear BK396
 clear HB
 have BK396 := n0_
 have HB := n1_
 clear n0_ n1_
 (try clear hb)
 (try clear hb2)
 (try clear hk)
 (try clear hi)
 refine hK.out _ _ (by first | exact ⟨(blk_cell BK396.out 0).trans rfl, (blk_cell BK396.out 1).trans rfl, (blk_cell BK396.out 2).trans rfl, (blk_cell BK396.out 3).trans rfl, (blk_cell BK396.out 4).trans rfl, (blk_cell BK396.out 5).trans rfl⟩ | exact hHeld) (fun hHeld => ?_)
 clear hK K
 refine norm_ (a' := ?_) ?_ ?_
 rotate_left
 ·show Act.put _ (some 13) _ = _
  simp only [Act.put, sA_, sZ_, sS_, i64_w, i32_w]
  rfl
 refine pure_ (i := 4) (N := some 16) (v := ?_) (a' := ?_) (bf_ 6 31) rfl rfl (by kernel_rfl) (fun _ _ _ h => h) (Or.inl ⟨by rfl, ?_⟩) ?_ ?_
 rotate_left
 ·intro w'
  go_simp
  with_reducible rfl
 rotate_left
 ·simp only [Act.put, sA_, sZ_, sS_, i64_w, i32_w]
  rfl
 refine pure_ (i := 5) (N := some 4) (v := ?_) (a' := ?_) (bf_ 6 63) rfl rfl (by kernel_rfl) (fun _ _ _ h => h) (Or.inl ⟨by rfl, ?_⟩) ?_ ?_
 rotate_left
 ·intro w'
  go_simp
  with_reducible rfl
 rotate_left
 ·simp only [Act.put, sA_, sZ_, sS_, i64_w, i32_w]
  rfl
 refine done_ (by kernel_rfl) ?_
 try go_wp2
 go_ret
 exact rt_
def computusref18_Starts.l0 : Nat → Int → List Int → Int → Int → List (S66) → List (S68) → Option (List Int)
 | 0, _, _, _, _, _, _ => none
 | k + 1, x1, x5, x6, x403000, x403001, x403002 => if x6 < (x403001.length : Int) then (if 0 ≤ x6 then ((computusref16_Day.f k ((rd_T66 x403001 x6).f3.f0) ((rd_T66 x403001 x6).f3.f1) ((rd_T66 x403001 x6).f3.f2) ((rd_T66 x403001 x6).f3.f3) ((rd_T66 x403001 x6).f3.f4) ((rd_T66 x403001 x6).f3.f5) x1).bind fun t404 => (if x5.length < 17592186044416 then (computusref18_Starts.l0 k x1 (x5 ++ [t404]) (wrap64 (x6 + 1)) x403000 x403001 x403002) else (none))) else (none)) else (some x5)
def computusref18_Starts.f (k : Nat) (a0_0 : Int) (l0_1 : List (S66)) (l0_2 : List (S68)) (a1 : Int) : Option (List Int) := computusref18_Starts.l0 k a1 ([] : List Int) 0 a0_0 l0_1 l0_2
theorem computusref18_Starts.mono_l : ∀ k, (∀ y0 y1 y2 y3 y4 y5, LeO (computusref18_Starts.l0 k y0 y1 y2 y3 y4 y5) (computusref18_Starts.l0 (k + 1) y0 y1 y2 y3 y4 y5))
 | 0 => fun _ _ _ _ _ _ r h => by simp [computusref18_Starts.l0] at h
 | k + 1 => by
  have ih0 := computusref18_Starts.mono_l k
  ·intro y0 y1 y2 y3 y4 y5
   unfold computusref18_Starts.l0
   repeat' first | (with_reducible first | exact ih0 _ _ _ _ _ _ | exact computusref16_Day.mono _ _ _ _ _ _ _ _ | exact LeO.refl _ | exact LeO.none _ | refine LeO.ite ?_ ?_ | refine LeO.bind ?_ (fun _ => ?_)) | exact LeO.none _ | refine LeO.ite ?_ ?_ | refine LeO.bind ?_ (fun _ => ?_)
theorem computusref18_Starts.mono : ∀ a0 a1 a2 a3 k, LeO (computusref18_Starts.f k a0 a1 a2 a3) (computusref18_Starts.f (k + 1) a0 a1 a2 a3) := by
 intro a0 a1 a2 a3 k
 have ih0 := computusref18_Starts.mono_l k
 unfold computusref18_Starts.f
 repeat' first | (with_reducible first | exact ih0 _ _ _ _ _ _ | exact computusref16_Day.mono _ _ _ _ _ _ _ _ | exact LeO.refl _ | exact LeO.none _ | refine LeO.ite ?_ ?_ | refine LeO.bind ?_ (fun _ => ?_)) | exact LeO.none _ | refine LeO.ite ?_ ?_ | refine LeO.bind ?_ (fun _ => ?_)
set_option maxHeartbeats 8000000 in
set_option maxRecDepth 100000 in
theorem computusref18_Starts.calls (k : Nat) (a0_0 : Int) (A0_1 : Option Addr) (c0_1 : Nat) (l0_1 : List (S66)) (A0_2 : Option Addr) (c0_2 : Nat) (l0_2 : List (S68)) (a1 : Int) (r : List Int) (w : World) (hr0_1 : Kd.C k66 w A0_1 l0_1.length l0_1) (hc0_1 : l0_1.length ≤ c0_1) (hr0_2 : Kd.C k68 w A0_2 l0_2.length l0_2) (hc0_2 : l0_2.length ≤ c0_2) (h : computusref18_Starts.f k a0_0 l0_1 l0_2 a1 = some r) :
  Calls Try.prog 36 #[.agg #[.int .i64 a0_0, .slice A0_1 l0_1.length c0_1, .slice A0_2 l0_2.length c0_2], .int .i64 a1] w fun e w' => ∃ v0_ : Value, e = .returned (v0_) ∧ Kd.R (Kd.int .i64) 3 w' w.heap.size (fun _ => True) v0_ r ∧ Below w.heap.size w w' := by
 have hu36 := Try.underlying36
 have hu64 := Try.underlying64
 have HR0_1 := Aside0.mk hr0_1
 have HC0_1 := Aside0.mk hc0_1
 clear hr0_1 hc0_1
 have HR0_2 := Aside0.mk hr0_2
 have HC0_2 := Aside0.mk hc0_2
 clear hr0_2 hc0_2
 have HB := Aside0.mk (Below.refl w.heap.size w)
 have H := h
 clear h
 unfold computusref18_Starts.f at H
 have H' := Aside0.mk H
 clear H
 go_enter Try.func36, Try.ntmps36
 go_wp2_with (first | ((with_reducible refine gate_dst (N := 2) rfl ?_); refine bx_ (w := w) (N := 2) (cs := #[.int .i64 a0_0, .slice A0_1 l0_1.length c0_1, .slice A0_2 l0_2.length c0_2]) (t := 36) ?_; intro gb402 w3 BK402 n0_ GW402 GE402; clear HB; have HB := n0_; clear n0_))
 go_loopg [5, 6] k (fun kq v5 v6 w' => ∃ (x5_1 : List Int) (x6_1 : Int), v6 = .int .i64 x6_1 ∧ Aside0 (computusref18_Starts.l0 kq a1 x5_1 x6_1 a0_0 l0_1 l0_2 = some r) ∧ Aside0 (kq ≤ k) ∧ Aside0 (Kd.R (Kd.int .i64) 3 w' w.heap.size (fun _ => True) v5 x5_1) ∧ Aside0 (w'.heap[gb402]? = some (.cells #[.int .i64 a0_0, (.slice A0_1 l0_1.length c0_1), (.slice A0_2 l0_2.length c0_2)] 36 (0, 0))) ∧ Aside0 (Below w.heap.size w w'))
 case atStart => exact ⟨(([] : List Int)), (0), rs_, H', ⟨Nat.le_refl _⟩, ⟨nl_⟩, ⟨bk_ BK402.out⟩, ⟨bh_⟩⟩
 case round =>
  clear H'
  try clear p2
  try clear c3
  obtain ⟨x5_1, x6_1, rfl, HA, HK1, HO_5, BK402, HB⟩ := hrel
  cases gk with
  | zero => exact absurd HA.out (by simp [computusref18_Starts.l0])
  | succ k1 =>
   have H := HA.out
   clear HA
   simp only [computusref18_Starts.l0] at H
   by_cases c4 : x6_1 < (l0_1.length : Int)
   rotate_left
   ·rw [if_neg c4] at H
    have c4b0 : decide (x6_1 < (l0_1.length : Int)) = false := decide_eq_false c4
    clear c4
    obtain rfl := Option.some.inj H
    obtain ⟨hcz11_0, hcz11_1, hcz11_2⟩ := cz3_ BK402.out
    obtain ⟨hfz11_0, hfz11_1, hfz11_2⟩ := fz3_ BK402.out
    go_wp2
    go_ret
    exact ⟨_, by first | rfl | (simp [errW_none, errW_some] <;> rfl) | (simp [*, errW_none, errW_some] <;> rfl), rk_ HO_5.out, bh_⟩
   rw [if_pos c4] at H
   have c4b0 : decide (x6_1 < (l0_1.length : Int)) = true := decide_eq_true c4
   clear c4
   by_cases c5 : 0 ≤ x6_1
   rotate_left
   ·rw [if_neg c5] at H
    exact absurd H (by simp)
   rw [if_pos c5] at H
   have c5b0 : decide (0 ≤ x6_1) = true := decide_eq_true c5
   clear c5
   obtain ⟨t404, A6, H⟩ := bs_ H
   by_cases c7 : x5_1.length < 17592186044416
   rotate_left
   ·rw [if_neg c7] at H
    exact absurd H (by simp)
   rw [if_pos c7] at H
   have LMc7 := Aside0.mk c7
   clear c7
   obtain ⟨y405, hy405⟩ : ∃ y_ : List Int, y_ = (x5_1 ++ [t404]) := ⟨_, rfl⟩
   replace H : (computusref18_Starts.l0 k1 a1 y405 (wrap64 (x6_1 + 1)) a0_0 l0_1 l0_2) = some r := by first | (rw [hy405]; with_reducible exact H) | (have H2_ := (Option.bind_some _ _).symm.trans H; rw [hy405]; with_reducible exact H2_) | (have H2_ := (Option.bind_some _ _).symm.trans H; with_reducible exact H2_) | with_reducible exact H | (rw [hy405]; exact H) | exact H
   have Ny405 := Aside0.mk hy405
   clear hy405
   have H' := Aside0.mk H
   clear H
   obtain ⟨hcz8_0, hcz8_1, hcz8_2⟩ := cz3_ BK402.out
   obtain ⟨hfz8_0, hfz8_1, hfz8_2⟩ := fz3_ BK402.out
   have p403 : 0 ≤ (x6_1 : Int) := of_decide_eq_true as_
   have q403 : x6_1 < (l0_1.length : Int) := of_decide_eq_true as_
   obtain ⟨ad403, e403, hx403_0, hx403_1, hx403_2, hx403_3, hx403_4, hx403_5, hx403_6, hx403_7, hx403_8⟩ := at_T66 HR0_1.out x6_1 p403 q403
   cases e403
   replace hx403_0 := cm_ HB.out hx403_0
   replace hx403_1 := cm_ HB.out hx403_1
   replace hx403_2 := cm_ HB.out hx403_2
   replace hx403_3 := cm_ HB.out hx403_3
   replace hx403_4 := cm_ HB.out hx403_4
   replace hx403_5 := cm_ HB.out hx403_5
   replace hx403_6 := cm_ HB.out hx403_6
   replace hx403_7 := cm_ HB.out hx403_7
   replace hx403_8 := cm_ HB.out hx403_8
   replace p403 := eq_true p403
   replace q403 := eq_true q403
   go_wp2_with (first | ((with_reducible refine gate_callee (f := 48) rfl ?_); refine gl_ (some 22) Try.func48 #[.agg #[.int .i64 ((rd_T66 l0_1 x6_1).f3.f0), .int .i64 ((rd_T66 l0_1 x6_1).f3.f1), .int .i64 ((rd_T66 l0_1 x6_1).f3.f2), .int .i64 ((rd_T66 l0_1 x6_1).f3.f3), .int .i64 ((rd_T66 l0_1 x6_1).f3.f4), .int .i64 ((rd_T66 l0_1 x6_1).f3.f5)], .int .i64 a1] ?_; (with_reducible refine (computusref16_Day.calls k1 ((rd_T66 l0_1 x6_1).f3.f0) ((rd_T66 l0_1 x6_1).f3.f1) ((rd_T66 l0_1 x6_1).f3.f2) ((rd_T66 l0_1 x6_1).f3.f3) ((rd_T66 l0_1 x6_1).f3.f4) ((rd_T66 l0_1 x6_1).f3.f5) a1 t404 _ A6.out).mono ?_); rintro e w9 ⟨rfl, hb⟩; refine ⟨_, rfl, ?_⟩; have n0_ := Aside0.mk (Kd.R_below (rk_ HO_5.out) hb); have n1_ := Aside0.mk (blk_below (g := gb402) (o := .cells #[.int .i64 a0_0, .slice (some ad403) l0_1.length c0_1, .slice A0_2 l0_2.length c0_2] 36 (0, 0)) (bk_ BK402.out) hb); have n2_ := bt_ hb; clear HO_5; clear BK402; clear HB; have HO_5 := n0_; have BK402 := n1_; have HB := n2_; clear n0_ n1_ n2_; (try clear hb); (try clear hb2); (try clear hk); (try clear hi)) | ((with_reducible refine gate_builtin (b := .append) (xs := #[.tmp 14, .tmp 23]) rfl ?_); at_builtin; refine Kd.R_append (Kd.int .i64) (w0 := w) w.heap.size rfl (.tmp 14) (.tmp 23) 40 3 (.int .i64 0) 8 rfl Try.underlying40 info3 rfl (by decide) (by omega) u5 x5_1 t404 [.int .i64 t404] (fun _ => True) (fun _ => False) rfl rfl ?aP (fun _ hk => hk.elim) ?aF ?aO ?aB ?aS ?aL ?_; (case aP => exact rfl); (case aB => exact bh_); (case aF => exact (fun _ _ => trivial)); (case aO => exact (rk_ HO_5.out)); (case aS => exact bz_); (case aL => have := LMc7.out; omega); intro v406 w10 ho hb hg hat; rw [← Ny405.out] at ho; have n0_ := Aside0.mk (blk_grown (g := gb402) (o := .cells #[.int .i64 a0_0, .slice (some ad403) l0_1.length c0_1, .slice A0_2 l0_2.length c0_2] 36 (0, 0)) (bk_ BK402.out) hg (Kd.R_ne HO_5.out BK402.out (by decide))); have n1_ := Aside0.mk (hb); have n2_ := Aside0.mk (ho); clear BK402; clear HB; clear HO_5; have BK402 := n0_; have HB := n1_; have HO407 := n2_; clear n0_ n1_ n2_; clear ho hb hg hat))
   go_roundg k1
   case measure => have := HK1.out; omega
   case rel => exact ⟨(y405), (wrap64 (x6_1 + 1)), rs_, H', ⟨by have := HK1.out; omega⟩, ⟨rk_ HO407.out⟩, ⟨bk_ BK402.out⟩, ⟨bh_⟩⟩
def computusref19_Days.l0 : Nat → Int → List Int → Int → Int → List (S66) → List (S68) → Option (List Int)
 | 0, _, _, _, _, _, _ => none
 | k + 1, x1, x5, x6, x409000, x409001, x409002 => if x6 < (x409002.length : Int) then (if 0 ≤ x6 then ((computusref16_Day.f k ((rd_T68 x409002 x6).f3.f0) ((rd_T68 x409002 x6).f3.f1) ((rd_T68 x409002 x6).f3.f2) ((rd_T68 x409002 x6).f3.f3) ((rd_T68 x409002 x6).f3.f4) ((rd_T68 x409002 x6).f3.f5) x1).bind fun t410 => (if x5.length < 17592186044416 then (computusref19_Days.l0 k x1 (x5 ++ [t410]) (wrap64 (x6 + 1)) x409000 x409001 x409002) else (none))) else (none)) else (some x5)
def computusref19_Days.f (k : Nat) (a0_0 : Int) (l0_1 : List (S66)) (l0_2 : List (S68)) (a1 : Int) : Option (List Int) := computusref19_Days.l0 k a1 ([] : List Int) 0 a0_0 l0_1 l0_2
theorem computusref19_Days.mono_l : ∀ k, (∀ y0 y1 y2 y3 y4 y5, LeO (computusref19_Days.l0 k y0 y1 y2 y3 y4 y5) (computusref19_Days.l0 (k + 1) y0 y1 y2 y3 y4 y5))
 | 0 => fun _ _ _ _ _ _ r h => by simp [computusref19_Days.l0] at h
 | k + 1 => by
  have ih0 := computusref19_Days.mono_l k
  ·intro y0 y1 y2 y3 y4 y5
   unfold computusref19_Days.l0
   repeat' first | (with_reducible first | exact ih0 _ _ _ _ _ _ | exact computusref16_Day.mono _ _ _ _ _ _ _ _ | exact LeO.refl _ | exact LeO.none _ | refine LeO.ite ?_ ?_ | refine LeO.bind ?_ (fun _ => ?_)) | exact LeO.none _ | refine LeO.ite ?_ ?_ | refine LeO.bind ?_ (fun _ => ?_)
theorem computusref19_Days.mono : ∀ a0 a1 a2 a3 k, LeO (computusref19_Days.f k a0 a1 a2 a3) (computusref19_Days.f (k + 1) a0 a1 a2 a3) := by
 intro a0 a1 a2 a3 k
 have ih0 := computusref19_Days.mono_l k
 unfold computusref19_Days.f
 repeat' first | (with_reducible first | exact ih0 _ _ _ _ _ _ | exact computusref16_Day.mono _ _ _ _ _ _ _ _ | exact LeO.refl _ | exact LeO.none _ | refine LeO.ite ?_ ?_ | refine LeO.bind ?_ (fun _ => ?_)) | exact LeO.none _ | refine LeO.ite ?_ ?_ | refine LeO.bind ?_ (fun _ => ?_)
set_option maxHeartbeats 8000000 in
set_option maxRecDepth 100000 in
theorem computusref19_Days.calls (k : Nat) (a0_0 : Int) (A0_1 : Option Addr) (c0_1 : Nat) (l0_1 : List (S66)) (A0_2 : Option Addr) (c0_2 : Nat) (l0_2 : List (S68)) (a1 : Int) (r : List Int) (w : World) (hr0_1 : Kd.C k66 w A0_1 l0_1.length l0_1) (hc0_1 : l0_1.length ≤ c0_1) (hr0_2 : Kd.C k68 w A0_2 l0_2.length l0_2) (hc0_2 : l0_2.length ≤ c0_2) (h : computusref19_Days.f k a0_0 l0_1 l0_2 a1 = some r) :
  Calls Try.prog 37 #[.agg #[.int .i64 a0_0, .slice A0_1 l0_1.length c0_1, .slice A0_2 l0_2.length c0_2], .int .i64 a1] w fun e w' => ∃ v0_ : Value, e = .returned (v0_) ∧ Kd.R (Kd.int .i64) 3 w' w.heap.size (fun _ => True) v0_ r ∧ Below w.heap.size w w' := by
 have hu36 := Try.underlying36
 have hu64 := Try.underlying64
 have HR0_1 := Aside0.mk hr0_1
 have HC0_1 := Aside0.mk hc0_1
 clear hr0_1 hc0_1
 have HR0_2 := Aside0.mk hr0_2
 have HC0_2 := Aside0.mk hc0_2
 clear hr0_2 hc0_2
 have HB := Aside0.mk (Below.refl w.heap.size w)
 have H := h
 clear h
 unfold computusref19_Days.f at H
 have H' := Aside0.mk H
 clear H
 go_enter Try.func37, Try.ntmps37
 go_wp2_with (first | ((with_reducible refine gate_dst (N := 2) rfl ?_); refine bx_ (w := w) (N := 2) (cs := #[.int .i64 a0_0, .slice A0_1 l0_1.length c0_1, .slice A0_2 l0_2.length c0_2]) (t := 36) ?_; intro gb408 w3 BK408 n0_ GW408 GE408; clear HB; have HB := n0_; clear n0_))
 go_loopg [5, 6] k (fun kq v5 v6 w' => ∃ (x5_1 : List Int) (x6_1 : Int), v6 = .int .i64 x6_1 ∧ Aside0 (computusref19_Days.l0 kq a1 x5_1 x6_1 a0_0 l0_1 l0_2 = some r) ∧ Aside0 (kq ≤ k) ∧ Aside0 (Kd.R (Kd.int .i64) 3 w' w.heap.size (fun _ => True) v5 x5_1) ∧ Aside0 (w'.heap[gb408]? = some (.cells #[.int .i64 a0_0, (.slice A0_1 l0_1.length c0_1), (.slice A0_2 l0_2.length c0_2)] 36 (0, 0))) ∧ Aside0 (Below w.heap.size w w'))
 case atStart => exact ⟨(([] : List Int)), (0), rs_, H', ⟨Nat.le_refl _⟩, ⟨nl_⟩, ⟨bk_ BK408.out⟩, ⟨bh_⟩⟩
 case round =>
  clear H'
  try clear p2
  try clear c3
  obtain ⟨x5_1, x6_1, rfl, HA, HK1, HO_5, BK408, HB⟩ := hrel
  cases gk with
  | zero => exact absurd HA.out (by simp [computusref19_Days.l0])
  | succ k1 =>
   have H := HA.out
   clear HA
   simp only [computusref19_Days.l0] at H
   by_cases c4 : x6_1 < (l0_2.length : Int)
   rotate_left
   ·rw [if_neg c4] at H
    have c4b0 : decide (x6_1 < (l0_2.length : Int)) = false := decide_eq_false c4
    clear c4
    obtain rfl := Option.some.inj H
    obtain ⟨hcz11_0, hcz11_1, hcz11_2⟩ := cz3_ BK408.out
    obtain ⟨hfz11_0, hfz11_1, hfz11_2⟩ := fz3_ BK408.out
    go_wp2
    go_ret
    exact ⟨_, by first | rfl | (simp [errW_none, errW_some] <;> rfl) | (simp [*, errW_none, errW_some] <;> rfl), rk_ HO_5.out, bh_⟩
   rw [if_pos c4] at H
   have c4b0 : decide (x6_1 < (l0_2.length : Int)) = true := decide_eq_true c4
   clear c4
   by_cases c5 : 0 ≤ x6_1
   rotate_left
   ·rw [if_neg c5] at H
    exact absurd H (by simp)
   rw [if_pos c5] at H
   have c5b0 : decide (0 ≤ x6_1) = true := decide_eq_true c5
   clear c5
   obtain ⟨t410, A6, H⟩ := bs_ H
   by_cases c7 : x5_1.length < 17592186044416
   rotate_left
   ·rw [if_neg c7] at H
    exact absurd H (by simp)
   rw [if_pos c7] at H
   have LMc7 := Aside0.mk c7
   clear c7
   obtain ⟨y411, hy411⟩ : ∃ y_ : List Int, y_ = (x5_1 ++ [t410]) := ⟨_, rfl⟩
   replace H : (computusref19_Days.l0 k1 a1 y411 (wrap64 (x6_1 + 1)) a0_0 l0_1 l0_2) = some r := by first | (rw [hy411]; with_reducible exact H) | (have H2_ := (Option.bind_some _ _).symm.trans H; rw [hy411]; with_reducible exact H2_) | (have H2_ := (Option.bind_some _ _).symm.trans H; with_reducible exact H2_) | with_reducible exact H | (rw [hy411]; exact H) | exact H
   have Ny411 := Aside0.mk hy411
   clear hy411
   have H' := Aside0.mk H
   clear H
   obtain ⟨hcz8_0, hcz8_1, hcz8_2⟩ := cz3_ BK408.out
   obtain ⟨hfz8_0, hfz8_1, hfz8_2⟩ := fz3_ BK408.out
   have p409 : 0 ≤ (x6_1 : Int) := of_decide_eq_true as_
   have q409 : x6_1 < (l0_2.length : Int) := of_decide_eq_true as_
   obtain ⟨ad409, e409, hx409_0, hx409_1, hx409_2, hx409_3, hx409_4, hx409_5, hx409_6, hx409_7, hx409_8⟩ := at_T68 HR0_2.out x6_1 p409 q409
   cases e409
   replace hx409_0 := cm_ HB.out hx409_0
   replace hx409_1 := cm_ HB.out hx409_1
   replace hx409_2 := cm_ HB.out hx409_2
   replace hx409_3 := cm_ HB.out hx409_3
   replace hx409_4 := cm_ HB.out hx409_4
   replace hx409_5 := cm_ HB.out hx409_5
   replace hx409_6 := cm_ HB.out hx409_6
   replace hx409_7 := cm_ HB.out hx409_7
   replace hx409_8 := cm_ HB.out hx409_8
   replace p409 := eq_true p409
   replace q409 := eq_true q409
   go_wp2_with (first | ((with_reducible refine gate_callee (f := 48) rfl ?_); refine gl_ (some 22) Try.func48 #[.agg #[.int .i64 ((rd_T68 l0_2 x6_1).f3.f0), .int .i64 ((rd_T68 l0_2 x6_1).f3.f1), .int .i64 ((rd_T68 l0_2 x6_1).f3.f2), .int .i64 ((rd_T68 l0_2 x6_1).f3.f3), .int .i64 ((rd_T68 l0_2 x6_1).f3.f4), .int .i64 ((rd_T68 l0_2 x6_1).f3.f5)], .int .i64 a1] ?_; (with_reducible refine (computusref16_Day.calls k1 ((rd_T68 l0_2 x6_1).f3.f0) ((rd_T68 l0_2 x6_1).f3.f1) ((rd_T68 l0_2 x6_1).f3.f2) ((rd_T68 l0_2 x6_1).f3.f3) ((rd_T68 l0_2 x6_1).f3.f4) ((rd_T68 l0_2 x6_1).f3.f5) a1 t410 _ A6.out).mono ?_); rintro e w9 ⟨rfl, hb⟩; refine ⟨_, rfl, ?_⟩; have n0_ := Aside0.mk (Kd.R_below (rk_ HO_5.out) hb); have n1_ := Aside0.mk (blk_below (g := gb408) (o := .cells #[.int .i64 a0_0, .slice A0_1 l0_1.length c0_1, .slice (some ad409) l0_2.length c0_2] 36 (0, 0)) (bk_ BK408.out) hb); have n2_ := bt_ hb; clear HO_5; clear BK408; clear HB; have HO_5 := n0_; have BK408 := n1_; have HB := n2_; clear n0_ n1_ n2_; (try clear hb); (try clear hb2); (try clear hk); (try clear hi)) | ((with_reducible refine gate_builtin (b := .append) (xs := #[.tmp 14, .tmp 23]) rfl ?_); at_builtin; refine Kd.R_append (Kd.int .i64) (w0 := w) w.heap.size rfl (.tmp 14) (.tmp 23) 40 3 (.int .i64 0) 8 rfl Try.underlying40 info3 rfl (by decide) (by omega) u5 x5_1 t410 [.int .i64 t410] (fun _ => True) (fun _ => False) rfl rfl ?aP (fun _ hk => hk.elim) ?aF ?aO ?aB ?aS ?aL ?_; (case aP => exact rfl); (case aB => exact bh_); (case aF => exact (fun _ _ => trivial)); (case aO => exact (rk_ HO_5.out)); (case aS => exact bz_); (case aL => have := LMc7.out; omega); intro v412 w10 ho hb hg hat; rw [← Ny411.out] at ho; have n0_ := Aside0.mk (blk_grown (g := gb408) (o := .cells #[.int .i64 a0_0, .slice A0_1 l0_1.length c0_1, .slice (some ad409) l0_2.length c0_2] 36 (0, 0)) (bk_ BK408.out) hg (Kd.R_ne HO_5.out BK408.out (by decide))); have n1_ := Aside0.mk (hb); have n2_ := Aside0.mk (ho); clear BK408; clear HB; clear HO_5; have BK408 := n0_; have HB := n1_; have HO413 := n2_; clear n0_ n1_ n2_; clear ho hb hg hat))
   go_roundg k1
   case measure => have := HK1.out; omega
   case rel => exact ⟨(y411), (wrap64 (x6_1 + 1)), rs_, H', ⟨by have := HK1.out; omega⟩, ⟨rk_ HO413.out⟩, ⟨bk_ BK408.out⟩, ⟨bh_⟩⟩
def computusref19_Of.f (k : Nat) (a0_0 : Int) (l0_1 : List (S66)) (l0_2 : List (S68)) (a1 : Int) (a2 : Int) : Option ((List (S44))) := (computusref18_Starts.f k a0_0 l0_1 l0_2 a1).bind fun t415 => ((computusref19_Days.f k a0_0 l0_1 l0_2 a1).bind fun t418 => ((computusref19_In.f k a0_0 l0_1 l0_2 t415 t418 a2).bind fun t421 => (some t421)))
theorem computusref19_Of.mono : ∀ a0 a1 a2 a3 a4 k, LeO (computusref19_Of.f k a0 a1 a2 a3 a4) (computusref19_Of.f (k + 1) a0 a1 a2 a3 a4) := by
 intro a0 a1 a2 a3 a4 k
 unfold computusref19_Of.f
 repeat' first | (with_reducible first | exact computusref18_Starts.mono _ _ _ _ _ | exact computusref19_Days.mono _ _ _ _ _ | exact computusref19_In.mono _ _ _ _ _ _ _ | exact LeO.refl _ | exact LeO.none _ | refine LeO.ite ?_ ?_ | refine LeO.bind ?_ (fun _ => ?_)) | exact LeO.none _ | refine LeO.ite ?_ ?_ | refine LeO.bind ?_ (fun _ => ?_)
def computusref19_Of.T1 : Bool × List (List Nat × List Nat) := (true, [([], []), ([], []), ([], []), ([1, 2], [1, 2]), ([], []), ([], []), ([4, 5, 3], [4, 5]), ([], []), ([0, 3, 6, 7, 6], [0, 3, 6, 7]), ([8, 8, 0, 1, 2, 3, 4, 5, 6, 7, 8], [8])])
def computusref19_Of.B1 : List Nat := [0, 0, 0, 6, 0, 0, 62, 0, 255, 511]
theorem computusref19_Of.tab1 : rtab .any (opsOf Try.f16 1) = computusref19_Of.T1 := by kernel_rfl
theorem computusref19_Of.bits1 : waitsOk computusref19_Of.T1.2 computusref19_Of.B1 = true := by kernel_rfl
set_option maxHeartbeats 8000000 in
set_option maxRecDepth 100000 in
theorem computusref19_Of.calls (k : Nat) (a0_0 : Int) (A0_1 : Option Addr) (c0_1 : Nat) (l0_1 : List (S66)) (A0_2 : Option Addr) (c0_2 : Nat) (l0_2 : List (S68)) (a1 : Int) (a2 : Int) (r : List (S44)) (w : World) (hr0_1 : Kd.C k66 w A0_1 l0_1.length l0_1) (hc0_1 : l0_1.length ≤ c0_1) (hr0_2 : Kd.C k68 w A0_2 l0_2.length l0_2) (hc0_2 : l0_2.length ≤ c0_2) (h : computusref19_Of.f k a0_0 l0_1 l0_2 a1 a2 = some r) :
  Calls Try.prog 16 #[.agg #[.int .i64 a0_0, .slice A0_1 l0_1.length c0_1, .slice A0_2 l0_2.length c0_2], .int .i64 a1, .int .i64 a2] w fun e w' => ∃ v0_ : Value, e = .returned (v0_) ∧ Kd.R k44 44 w' w.heap.size (fun _ => True) v0_ r ∧ Below w.heap.size w w' := by
 have hu36 := Try.underlying36
 have HR0_1 := Aside0.mk hr0_1
 have HC0_1 := Aside0.mk hc0_1
 clear hr0_1 hc0_1
 have HR0_2 := Aside0.mk hr0_2
 have HC0_2 := Aside0.mk hc0_2
 clear hr0_2 hc0_2
 have HB := Aside0.mk (Below.refl w.heap.size w)
 have H := h
 clear h
 unfold computusref19_Of.f at H
 obtain ⟨t415, A4, H⟩ := bs_ H
 obtain ⟨t418, A5, H⟩ := bs_ H
 obtain ⟨t421, A6, H⟩ := bs_ H
 obtain rfl := Option.some.inj H
 go_enter Try.func16, Try.ntmps16
 try go_wp2_with (first | ((with_reducible refine gate_dst (N := 3) rfl ?_); refine bx_ (w := w) (N := 3) (cs := #[.int .i64 a0_0, .slice A0_1 l0_1.length c0_1, .slice A0_2 l0_2.length c0_2]) (t := 36) ?_; intro gb414 w7 BK414 n0_ GW414 GE414; clear HB; have HB := n0_; clear n0_))
 have n0_ := Aside0.mk (blk_drew BK414.out)
 have n1_ := Aside0.mk (below_drew1 HB.out)
 clear BK414
 clear HB
 have BK414 := n0_
 have HB := n1_
 clear n0_ n1_
 refine start_ (n := 10) (S := fun w' => w'.cell? ⟨gb414, 0, none⟩ = some (.int .i64 a0_0) ∧ w'.cell? ⟨gb414, 1, none⟩ = some (.slice A0_1 l0_1.length c0_1) ∧ w'.cell? ⟨gb414, 2, none⟩ = some (.slice A0_2 l0_2.length c0_2)) (ds := []) #[false, false, false, false, false, false, false, false, false, false] (by kernel_rfl) rfl rfl ⟨(blk_cell BK414.out 0).trans rfl, (blk_cell BK414.out 1).trans rfl, (blk_cell BK414.out 2).trans rfl⟩ (fun hHeld => ?_); refine with_tabW computusref19_Of.tab1 computusref19_Of.bits1 (fun HT_ HW_ => ?_)
 generalize w7.drew = w8 at BK414 HB hHeld ⊢
 refine pure_ (i := 2) (N := some 9) (v := ?_) (a' := ?_) (bf_ 10 4) rfl rfl (any_of HT_.out (by kernel_rfl)) (fun _ _ _ h => h) (Or.inl ⟨by rfl, ?_⟩) ?_ ?_
 rotate_left
 ·intro w'
  go_simp
  with_reducible rfl
 rotate_left
 ·simp only [Act.put, sA_, sZ_, sS_, i64_w, i32_w]
  rfl
 refine pure_ (i := 5) (N := some 12) (v := ?_) (a' := ?_) (bf_ 10 36) rfl rfl (any_of HT_.out (by kernel_rfl)) (fun _ _ _ h => h) (Or.inl ⟨by rfl, ?_⟩) ?_ ?_
 rotate_left
 ·intro w'
  go_simp
  with_reducible rfl
 rotate_left
 ·simp only [Act.put, sA_, sZ_, sS_, i64_w, i32_w]
  rfl
 refine pure_ (i := 7) (N := some 14) (v := ?_) (a' := ?_) (bf_ 10 164) rfl rfl (any_of HT_.out (by kernel_rfl)) (fun _ _ _ h => h) (Or.inl ⟨by rfl, ?_⟩) ?_ ?_
 rotate_left
 ·intro w'
  go_simp
  with_reducible rfl
 rotate_left
 ·simp only [Act.put, sA_, sZ_, sS_, i64_w, i32_w]
  rfl
 refine take_ (i := 0) (N := some 7) (v := ?_) (a' := ?_) (bf_ 10 165) rfl rfl (take_ofW HT_.out HW_.out (by kernel_rfl)) (fun _ _ _ h => h) (Or.inl ⟨by rfl, ?_⟩) hHeld ?_ ?_
 rotate_left
 ·rintro w' ⟨s0, s1, s2⟩
  go_simp
  with_reducible rfl
 rotate_left
 ·simp only [Act.put, sA_, sZ_, sS_, i64_w, i32_w]
  rfl
 refine take_ (i := 1) (N := some 8) (v := ?_) (a' := ?_) (bf_ 10 167) rfl rfl (take_ofW HT_.out HW_.out (by kernel_rfl)) (fun _ _ _ h => h) (Or.inl ⟨by rfl, ?_⟩) hHeld ?_ ?_
 rotate_left
 ·rintro w' ⟨s0, s1, s2⟩
  go_simp
  with_reducible rfl
 rotate_left
 ·simp only [Act.put, sA_, sZ_, sS_, i64_w, i32_w]
  rfl
 refine take_ (i := 4) (N := some 11) (v := ?_) (a' := ?_) (bf_ 10 183) rfl rfl (take_ofW HT_.out HW_.out (by kernel_rfl)) (fun _ _ _ h => h) (Or.inl ⟨by rfl, ?_⟩) hHeld ?_ ?_
 rotate_left
 ·rintro w' ⟨s0, s1, s2⟩
  go_simp
  with_reducible rfl
 rotate_left
 ·simp only [Act.put, sA_, sZ_, sS_, i64_w, i32_w]
  rfl
 refine one_ (i := 3) (N := some 10) (bf_ 10 191) rfl rfl (one_of HT_.out (by kernel_rfl)) (by decide) (fun K hK => ?_)
 refine goes_ Try.func36 (by kernel_rfl) rfl #[.agg #[.int .i64 a0_0, .slice A0_1 l0_1.length c0_1, .slice A0_2 l0_2.length c0_2], .int .i64 a1] (by rfl) rfl rfl (by (try simp only [List.map_toArray, List.map_cons, List.map_nil]); first | done | rfl | (simp only [List.length_drop, List.length_take]; rfl)) ?_
 with_reducible refine (computusref18_Starts.calls k a0_0 _ _ l0_1 _ _ l0_2 a1 t415 _ ?side1 ?side2 ?side3 ?side4 A4.out).mono ?_
 (case side1 => repeat (first | exact (Kd.C_below HR0_1.out HB.out) | (with_reducible refine Kd.C_alloc ?_ _) | (with_reducible refine Kd.C_drewN ?_ _) | (with_reducible refine Kd.C_drew ?_)))
 (case side2 => exact HC0_1.out)
 (case side3 => repeat (first | exact (Kd.C_below HR0_2.out HB.out) | (with_reducible refine Kd.C_alloc ?_ _) | (with_reducible refine Kd.C_drewN ?_ _) | (with_reducible refine Kd.C_drew ?_)))
 (case side4 => exact HC0_2.out)
 rintro e w9 ⟨v416, rfl, ho0, hb⟩
 refine ⟨_, rfl, ?_⟩
 have n0_ := Aside0.mk (Kd.R_lower ho0 bz_)
 have n1_ := Aside0.mk (blk_below (g := gb414) (o := .cells #[.int .i64 a0_0, .slice A0_1 l0_1.length c0_1, .slice A0_2 l0_2.length c0_2] 36 (0, 0)) (bk_ BK414.out) hb)
 have n2_ := bt_ hb
 clear BK414
 clear HB
 have HO417 := n0_
 have BK414 := n1_
 have HB := n2_
 clear n0_ n1_ n2_
 (try clear hb)
 (try clear hb2)
 (try clear hk)
 (try clear hi)
 (try clear ho0)
 refine hK.out _ _ (by first | exact ⟨(blk_cell BK414.out 0).trans rfl, (blk_cell BK414.out 1).trans rfl, (blk_cell BK414.out 2).trans rfl⟩ | exact hHeld) (fun hHeld => ?_)
 clear hK K
 refine norm_ (a' := ?_) ?_ ?_
 rotate_left
 ·show Act.put _ (some 10) _ = _
  simp only [Act.put, sA_, sZ_, sS_, i64_w, i32_w]
  rfl
 refine one_ (i := 6) (N := some 13) (bf_ 10 255) rfl rfl (one_of HT_.out (by kernel_rfl)) (by decide) (fun K hK => ?_)
 refine goes_ Try.func37 (by kernel_rfl) rfl #[.agg #[.int .i64 a0_0, .slice A0_1 l0_1.length c0_1, .slice A0_2 l0_2.length c0_2], .int .i64 a1] (by rfl) rfl rfl (by (try simp only [List.map_toArray, List.map_cons, List.map_nil]); first | done | rfl | (simp only [List.length_drop, List.length_take]; rfl)) ?_
 with_reducible refine (computusref19_Days.calls k a0_0 _ _ l0_1 _ _ l0_2 a1 t418 _ ?side1 ?side2 ?side3 ?side4 A5.out).mono ?_
 (case side1 => repeat (first | exact (Kd.C_below HR0_1.out HB.out) | (with_reducible refine Kd.C_alloc ?_ _) | (with_reducible refine Kd.C_drewN ?_ _) | (with_reducible refine Kd.C_drew ?_)))
 (case side2 => exact HC0_1.out)
 (case side3 => repeat (first | exact (Kd.C_below HR0_2.out HB.out) | (with_reducible refine Kd.C_alloc ?_ _) | (with_reducible refine Kd.C_drewN ?_ _) | (with_reducible refine Kd.C_drew ?_)))
 (case side4 => exact HC0_2.out)
 rintro e w10 ⟨v419, rfl, ho0, hb⟩
 refine ⟨_, rfl, ?_⟩
 have n0_ := Aside0.mk (Kd.R_elder' (rk_ HO417.out) (Kd.R_base ho0) hb)
 have n1_ := Aside0.mk (Kd.R_lower (Kd.R_new' ho0 (Kd.R_lt (rk_ HO417.out))) bz_)
 have n2_ := Aside0.mk (blk_below (g := gb414) (o := .cells #[.int .i64 a0_0, .slice A0_1 l0_1.length c0_1, .slice A0_2 l0_2.length c0_2] 36 (0, 0)) (bk_ BK414.out) hb)
 have n3_ := bt_ hb
 clear HO417
 clear BK414
 clear HB
 have HO417 := n0_
 have HO420 := n1_
 have BK414 := n2_
 have HB := n3_
 clear n0_ n1_ n2_ n3_
 (try clear hb)
 (try clear hb2)
 (try clear hk)
 (try clear hi)
 (try clear ho0)
 obtain ⟨Ao11, co11, eo11⟩ := Kd.R_slice HO417.out
 (first | subst eo11 | (injection eo11 with f1_ f2_ f3_; have f4_ := f1_.symm; have f5_ := f3_.symm; clear f1_ f2_ f3_; subst f4_; subst f5_))
 obtain ⟨Ao12, co12, eo12⟩ := Kd.R_slice HO420.out
 (first | subst eo12 | (injection eo12 with f1_ f2_ f3_; have f4_ := f1_.symm; have f5_ := f3_.symm; clear f1_ f2_ f3_; subst f4_; subst f5_))
 refine hK.out _ _ (by first | exact ⟨(blk_cell BK414.out 0).trans rfl, (blk_cell BK414.out 1).trans rfl, (blk_cell BK414.out 2).trans rfl⟩ | exact hHeld) (fun hHeld => ?_)
 clear hK K
 refine norm_ (a' := ?_) ?_ ?_
 rotate_left
 ·show Act.put _ (some 13) _ = _
  simp only [Act.put, sA_, sZ_, sS_, i64_w, i32_w]
  rfl
 refine one_ (i := 8) (N := some 15) (bf_ 10 511) rfl rfl (one_of HT_.out (by kernel_rfl)) (by decide) (fun K hK => ?_)
 refine goes_ Try.func35 (by kernel_rfl) rfl #[.agg #[.int .i64 a0_0, .slice A0_1 l0_1.length c0_1, .slice A0_2 l0_2.length c0_2], .slice Ao11 t415.length co11, .slice Ao12 t418.length co12, .int .i64 a2] (by rfl) rfl rfl (by (try simp only [List.map_toArray, List.map_cons, List.map_nil]); first | done | rfl | (simp only [List.length_drop, List.length_take]; rfl)) ?_
 with_reducible refine (computusref19_In.calls k a0_0 _ _ l0_1 _ _ l0_2 _ _ t415 _ _ t418 a2 t421 _ ?side1 ?side2 ?side3 ?side4 ?side5 ?side6 ?side7 ?side8 A6.out).mono ?_
 (case side1 => repeat (first | exact (Kd.C_below HR0_1.out HB.out) | (with_reducible refine Kd.C_alloc ?_ _) | (with_reducible refine Kd.C_drewN ?_ _) | (with_reducible refine Kd.C_drew ?_)))
 (case side2 => exact HC0_1.out)
 (case side3 => repeat (first | exact (Kd.C_below HR0_2.out HB.out) | (with_reducible refine Kd.C_alloc ?_ _) | (with_reducible refine Kd.C_drewN ?_ _) | (with_reducible refine Kd.C_drew ?_)))
 (case side4 => exact HC0_2.out)
 (case side5 => repeat (first | exact (Kd.R_reads' HO417.out).2.2 | (with_reducible refine Kd.C_alloc ?_ _) | (with_reducible refine Kd.C_drewN ?_ _) | (with_reducible refine Kd.C_drew ?_)))
 (case side6 => exact (Kd.R_reads' HO417.out).2.1)
 (case side7 => repeat (first | exact (Kd.R_reads' HO420.out).2.2 | (with_reducible refine Kd.C_alloc ?_ _) | (with_reducible refine Kd.C_drewN ?_ _) | (with_reducible refine Kd.C_drew ?_)))
 (case side8 => exact (Kd.R_reads' HO420.out).2.1)
 rintro e w13 ⟨v422, rfl, ho0, hb⟩
 refine ⟨_, rfl, ?_⟩
 have n0_ := Aside0.mk (Kd.R_below (rk_ HO417.out) hb)
 have n1_ := Aside0.mk (Kd.R_below (rk_ HO420.out) hb)
 have n2_ := Aside0.mk (Kd.R_lower ho0 bz_)
 have n3_ := Aside0.mk (blk_below (g := gb414) (o := .cells #[.int .i64 a0_0, .slice A0_1 l0_1.length c0_1, .slice A0_2 l0_2.length c0_2] 36 (0, 0)) (bk_ BK414.out) hb)
 have n4_ := bt_ hb
 clear HO417
 clear HO420
 clear BK414
 clear HB
 have HO417 := n0_
 have HO420 := n1_
 have HO423 := n2_
 have BK414 := n3_
 have HB := n4_
 clear n0_ n1_ n2_ n3_ n4_
 (try clear hb)
 (try clear hb2)
 (try clear hk)
 (try clear hi)
 (try clear ho0)
 refine hK.out _ _ (by first | exact ⟨(blk_cell BK414.out 0).trans rfl, (blk_cell BK414.out 1).trans rfl, (blk_cell BK414.out 2).trans rfl⟩ | exact hHeld) (fun hHeld => ?_)
 clear hK K
 refine norm_ (a' := ?_) ?_ ?_
 rotate_left
 ·show Act.put _ (some 15) _ = _
  simp only [Act.put, sA_, sZ_, sS_, i64_w, i32_w]
  rfl
 refine pure_ (i := 9) (N := some 6) (v := ?_) (a' := ?_) (bf_ 10 1023) rfl rfl (any_of HT_.out (by kernel_rfl)) (fun _ _ _ h => h) (Or.inl ⟨by rfl, ?_⟩) ?_ ?_
 rotate_left
 ·intro w'
  go_simp
  with_reducible rfl
 rotate_left
 ·simp only [Act.put, sA_, sZ_, sS_, i64_w, i32_w]
  rfl
 refine done_ (done_of HT_.out (by kernel_rfl)) ?_
 try go_wp2
 go_ret
 exact ⟨_, by first | rfl | (simp [errW_none, errW_some] <;> rfl) | (simp [*, errW_none, errW_some] <;> rfl), rk_ HO423.out, bh_⟩
def computuslaw21_forward.l0 : Nat → List (S44) → List (S28) → Int → Option ((List (S28)))
 | 0, _, _, _ => none
 | k + 1, x0, x3, x4 => if x4 < (x0.length : Int) then (if 0 ≤ x4 then (if x3.length < 3518437208883 then (computuslaw21_forward.l0 k x0 (x3 ++ [(⟨(rd_T44 x0 x4).f0, (rd_T44 x0 x4).f1, (rd_T44 x0 x4).f2, (rd_T44 x0 x4).f3⟩ : S28)]) (wrap64 (x4 + 1))) else (none)) else (none)) else (some x3)
def computuslaw21_forward.f (k : Nat) (l0 : List (S44)) : Option ((List (S28))) := computuslaw21_forward.l0 k l0 ([] : List (S28)) 0
theorem computuslaw21_forward.mono_l : ∀ k, (∀ y0 y1 y2, LeO (computuslaw21_forward.l0 k y0 y1 y2) (computuslaw21_forward.l0 (k + 1) y0 y1 y2))
 | 0 => fun _ _ _ r h => by simp [computuslaw21_forward.l0] at h
 | k + 1 => by
  have ih0 := computuslaw21_forward.mono_l k
  ·intro y0 y1 y2
   unfold computuslaw21_forward.l0
   repeat' first | (with_reducible first | exact ih0 _ _ _ | exact LeO.refl _ | exact LeO.none _ | refine LeO.ite ?_ ?_ | refine LeO.bind ?_ (fun _ => ?_)) | exact LeO.none _ | refine LeO.ite ?_ ?_ | refine LeO.bind ?_ (fun _ => ?_)
theorem computuslaw21_forward.mono : ∀ a0 k, LeO (computuslaw21_forward.f k a0) (computuslaw21_forward.f (k + 1) a0) := by
 intro a0 k
 have ih0 := computuslaw21_forward.mono_l k
 unfold computuslaw21_forward.f
 repeat' first | (with_reducible first | exact ih0 _ _ _ | exact LeO.refl _ | exact LeO.none _ | refine LeO.ite ?_ ?_ | refine LeO.bind ?_ (fun _ => ?_)) | exact LeO.none _ | refine LeO.ite ?_ ?_ | refine LeO.bind ?_ (fun _ => ?_)
def computuslaw21_forward.T5 : Bool × List (List Nat × List Nat) := (true, [([], []), ([], []), ([], []), ([1, 2], [1, 2]), ([3], [3]), ([4], [4]), ([], []), ([], []), ([6, 7], [6, 7]), ([8], [8]), ([9], [9]), ([], []), ([], []), ([11, 12], [11, 12]), ([13], [13]), ([14], [14]), ([], []), ([], []), ([16, 17], [16, 17]), ([18], [18]), ([19], [19]), ([5, 10, 15, 20], [5, 10, 15, 20]), ([21], [21]), ([0, 22], [0, 22]), ([23, 23, 0, 1, 2, 3, 4, 5, 6, 7, 8, 9, 10, 11, 12, 13, 14, 15, 16, 17, 18, 19, 20, 21, 22, 23], [0, 23])])
def computuslaw21_forward.B5 : List Nat := [0, 0, 0, 6, 14, 30, 0, 0, 192, 448, 960, 0, 0, 6144, 14336, 30720, 0, 0, 196608, 458752, 983040, 2097150, 4194302, 8388607, 16777215]
theorem computuslaw21_forward.tab5 : rtab .any (opsOf Try.f18 5) = computuslaw21_forward.T5 := by kernel_rfl
theorem computuslaw21_forward.bits5 : waitsOk computuslaw21_forward.T5.2 computuslaw21_forward.B5 = true := by kernel_rfl
set_option maxHeartbeats 8000000 in
set_option maxRecDepth 100000 in
theorem computuslaw21_forward.calls (k : Nat) (A0 : Option Addr) (c0 : Nat) (l0 : List (S44)) (r : List (S28)) (w : World) (hr0 : Kd.C k44 w A0 l0.length l0) (hc0 : l0.length ≤ c0) (h : computuslaw21_forward.f k l0 = some r) :
  Calls Try.prog 18 #[.slice A0 l0.length c0] w fun e w' => ∃ v0_ : Value, e = .returned (v0_) ∧ Kd.R k28 28 w' w.heap.size (fun _ => True) v0_ r ∧ Below w.heap.size w w' := by
 have hu28 := Try.underlying28
 have HR0 := Aside0.mk hr0
 have HC0 := Aside0.mk hc0
 clear hr0 hc0
 have HB := Aside0.mk (Below.refl w.heap.size w)
 have H := h
 clear h
 unfold computuslaw21_forward.f at H
 have H' := Aside0.mk H
 clear H
 go_enter Try.func18, Try.ntmps18
 go_wp2
 go_loopg [3, 4] k (fun kq v3 v4 w' => ∃ (x3_1 : List (S28)) (x4_1 : Int), v4 = .int .i64 x4_1 ∧ Aside0 (computuslaw21_forward.l0 kq l0 x3_1 x4_1 = some r) ∧ Aside0 (kq ≤ k) ∧ Aside0 (Kd.R k28 28 w' w.heap.size (fun _ => True) v3 x3_1) ∧ Aside0 (Below w.heap.size w w'))
 case atStart => exact ⟨(([] : List (S28))), (0), rs_, H', ⟨Nat.le_refl _⟩, ⟨nl_⟩, ⟨bh_⟩⟩
 case round =>
  clear H'
  try clear c1
  obtain ⟨x3_1, x4_1, rfl, HA, HK1, HO_3, HB⟩ := hrel
  cases gk with
  | zero => exact absurd HA.out (by simp [computuslaw21_forward.l0])
  | succ k1 =>
   have H := HA.out
   clear HA
   simp only [computuslaw21_forward.l0] at H
   by_cases c2 : x4_1 < (l0.length : Int)
   rotate_left
   ·rw [if_neg c2] at H
    have c2b0 : decide (x4_1 < (l0.length : Int)) = false := decide_eq_false c2
    clear c2
    obtain rfl := Option.some.inj H
    go_wp2
    go_ret
    exact ⟨_, by first | rfl | (simp [errW_none, errW_some] <;> rfl) | (simp [*, errW_none, errW_some] <;> rfl), rk_ HO_3.out, bh_⟩
   rw [if_pos c2] at H
   have c2b0 : decide (x4_1 < (l0.length : Int)) = true := decide_eq_true c2
   clear c2
   by_cases c3 : 0 ≤ x4_1
   rotate_left
   ·rw [if_neg c3] at H
    exact absurd H (by simp)
   rw [if_pos c3] at H
   have c3b0 : decide (0 ≤ x4_1) = true := decide_eq_true c3
   clear c3
   by_cases c4 : x3_1.length < 3518437208883
   rotate_left
   ·rw [if_neg c4] at H
    exact absurd H (by simp)
   rw [if_pos c4] at H
   have LMc4 := Aside0.mk c4
   clear c4
   obtain ⟨y428, hy428⟩ : ∃ y_ : List (S28), y_ = (x3_1 ++ [(⟨(rd_T44 l0 x4_1).f0, (rd_T44 l0 x4_1).f1, (rd_T44 l0 x4_1).f2, (rd_T44 l0 x4_1).f3⟩ : S28)]) := ⟨_, rfl⟩
   replace H : (computuslaw21_forward.l0 k1 l0 y428 (wrap64 (x4_1 + 1))) = some r := by first | (rw [hy428]; with_reducible exact H) | (have H2_ := (Option.bind_some _ _).symm.trans H; rw [hy428]; with_reducible exact H2_) | (have H2_ := (Option.bind_some _ _).symm.trans H; with_reducible exact H2_) | with_reducible exact H | (rw [hy428]; exact H) | exact H
   have Ny428 := Aside0.mk hy428
   clear hy428
   have H' := Aside0.mk H
   clear H
   try go_wp2
   have n0_ := Aside0.mk (Kd.R_drew HO_3.out)
   have n1_ := Aside0.mk (below_drew1 HB.out)
   clear HO_3
   clear HB
   have HO_3 := n0_
   have HB := n1_
   clear n0_ n1_
   have p424 : 0 ≤ (x4_1 : Int) := of_decide_eq_true as_
   have q424 : x4_1 < (l0.length : Int) := of_decide_eq_true as_
   obtain ⟨ad424, e424, hx424_0, hx424_1, hx424_2, hx424_3⟩ := at_T44 HR0.out x4_1 p424 q424
   have hw424_3 := hx424_3
   have hw424_2 := hx424_2
   have hw424_1 := hx424_1
   have hw424_0 := hx424_0
   cases e424
   replace hx424_0 := cm_ HB.out hx424_0
   replace hx424_1 := cm_ HB.out hx424_1
   replace hx424_2 := cm_ HB.out hx424_2
   replace hx424_3 := cm_ HB.out hx424_3
   replace p424 := eq_true p424
   replace q424 := eq_true q424
   have p425 : 0 ≤ (x4_1 : Int) := of_decide_eq_true as_
   have q425 : x4_1 < (l0.length : Int) := of_decide_eq_true as_
   obtain ⟨ad425, e425, hx425_0, hx425_1, hx425_2, hx425_3⟩ := at_T44 HR0.out x4_1 p425 q425
   have hw425_3 := hx425_3
   have hw425_2 := hx425_2
   have hw425_1 := hx425_1
   have hw425_0 := hx425_0
   obtain rfl : ad424 = ad425 := (by injection e425)
   replace hx425_0 := cm_ HB.out hx425_0
   replace hx425_1 := cm_ HB.out hx425_1
   replace hx425_2 := cm_ HB.out hx425_2
   replace hx425_3 := cm_ HB.out hx425_3
   replace p425 := eq_true p425
   replace q425 := eq_true q425
   have p426 : 0 ≤ (x4_1 : Int) := of_decide_eq_true as_
   have q426 : x4_1 < (l0.length : Int) := of_decide_eq_true as_
   obtain ⟨ad426, e426, hx426_0, hx426_1, hx426_2, hx426_3⟩ := at_T44 HR0.out x4_1 p426 q426
   have hw426_3 := hx426_3
   have hw426_2 := hx426_2
   have hw426_1 := hx426_1
   have hw426_0 := hx426_0
   obtain rfl : ad424 = ad426 := (by injection e426)
   replace hx426_0 := cm_ HB.out hx426_0
   replace hx426_1 := cm_ HB.out hx426_1
   replace hx426_2 := cm_ HB.out hx426_2
   replace hx426_3 := cm_ HB.out hx426_3
   replace p426 := eq_true p426
   replace q426 := eq_true q426
   have p427 : 0 ≤ (x4_1 : Int) := of_decide_eq_true as_
   have q427 : x4_1 < (l0.length : Int) := of_decide_eq_true as_
   obtain ⟨ad427, e427, hx427_0, hx427_1, hx427_2, hx427_3⟩ := at_T44 HR0.out x4_1 p427 q427
   have hw427_3 := hx427_3
   have hw427_2 := hx427_2
   have hw427_1 := hx427_1
   have hw427_0 := hx427_0
   obtain rfl : ad424 = ad427 := (by injection e427)
   replace hx427_0 := cm_ HB.out hx427_0
   replace hx427_1 := cm_ HB.out hx427_1
   replace hx427_2 := cm_ HB.out hx427_2
   replace hx427_3 := cm_ HB.out hx427_3
   replace p427 := eq_true p427
   replace q427 := eq_true q427
   refine start_ (n := 25) (S := fun w' => w'.cell? (ad424.add ((x4_1).toNat * 4)) = some (.int .i64 ((rd_T44 l0 x4_1).f0)) ∧ w'.cell? ⟨(ad424.add ((x4_1).toNat * 4)).block, (ad424.add ((x4_1).toNat * 4)).off + 1, none⟩ = some (.int .i64 ((rd_T44 l0 x4_1).f1)) ∧ w'.cell? ⟨(ad424.add ((x4_1).toNat * 4)).block, (ad424.add ((x4_1).toNat * 4)).off + 2, none⟩ = some (.int .i64 ((rd_T44 l0 x4_1).f2)) ∧ w'.cell? ⟨(ad424.add ((x4_1).toNat * 4)).block, (ad424.add ((x4_1).toNat * 4)).off + 3, none⟩ = some (.string ((rd_T44 l0 x4_1).f3)) ∧ w'.cell? (ad424.add ((x4_1).toNat * 4)) = some (.int .i64 ((rd_T44 l0 x4_1).f0)) ∧ w'.cell? ⟨(ad424.add ((x4_1).toNat * 4)).block, (ad424.add ((x4_1).toNat * 4)).off + 1, none⟩ = some (.int .i64 ((rd_T44 l0 x4_1).f1)) ∧ w'.cell? ⟨(ad424.add ((x4_1).toNat * 4)).block, (ad424.add ((x4_1).toNat * 4)).off + 2, none⟩ = some (.int .i64 ((rd_T44 l0 x4_1).f2)) ∧ w'.cell? ⟨(ad424.add ((x4_1).toNat * 4)).block, (ad424.add ((x4_1).toNat * 4)).off + 3, none⟩ = some (.string ((rd_T44 l0 x4_1).f3)) ∧ w'.cell? (ad424.add ((x4_1).toNat * 4)) = some (.int .i64 ((rd_T44 l0 x4_1).f0)) ∧ w'.cell? ⟨(ad424.add ((x4_1).toNat * 4)).block, (ad424.add ((x4_1).toNat * 4)).off + 1, none⟩ = some (.int .i64 ((rd_T44 l0 x4_1).f1)) ∧ w'.cell? ⟨(ad424.add ((x4_1).toNat * 4)).block, (ad424.add ((x4_1).toNat * 4)).off + 2, none⟩ = some (.int .i64 ((rd_T44 l0 x4_1).f2)) ∧ w'.cell? ⟨(ad424.add ((x4_1).toNat * 4)).block, (ad424.add ((x4_1).toNat * 4)).off + 3, none⟩ = some (.string ((rd_T44 l0 x4_1).f3)) ∧ w'.cell? (ad424.add ((x4_1).toNat * 4)) = some (.int .i64 ((rd_T44 l0 x4_1).f0)) ∧ w'.cell? ⟨(ad424.add ((x4_1).toNat * 4)).block, (ad424.add ((x4_1).toNat * 4)).off + 1, none⟩ = some (.int .i64 ((rd_T44 l0 x4_1).f1)) ∧ w'.cell? ⟨(ad424.add ((x4_1).toNat * 4)).block, (ad424.add ((x4_1).toNat * 4)).off + 2, none⟩ = some (.int .i64 ((rd_T44 l0 x4_1).f2)) ∧ w'.cell? ⟨(ad424.add ((x4_1).toNat * 4)).block, (ad424.add ((x4_1).toNat * 4)).off + 3, none⟩ = some (.string ((rd_T44 l0 x4_1).f3))) (ds := []) #[false, false, false, false, false, false, false, false, false, false, false, false, false, false, false, false, false, false, false, false, false, false, false, false, false] (by kernel_rfl) rfl rfl ⟨((HB.out.cell (World.block_lt_of_cell? w _ hw424_0)).trans hw424_0), ((HB.out.cell (World.block_lt_of_cell? w _ hw424_1)).trans hw424_1), ((HB.out.cell (World.block_lt_of_cell? w _ hw424_2)).trans hw424_2), ((HB.out.cell (World.block_lt_of_cell? w _ hw424_3)).trans hw424_3), ((HB.out.cell (World.block_lt_of_cell? w _ hw425_0)).trans hw425_0), ((HB.out.cell (World.block_lt_of_cell? w _ hw425_1)).trans hw425_1), ((HB.out.cell (World.block_lt_of_cell? w _ hw425_2)).trans hw425_2), ((HB.out.cell (World.block_lt_of_cell? w _ hw425_3)).trans hw425_3), ((HB.out.cell (World.block_lt_of_cell? w _ hw426_0)).trans hw426_0), ((HB.out.cell (World.block_lt_of_cell? w _ hw426_1)).trans hw426_1), ((HB.out.cell (World.block_lt_of_cell? w _ hw426_2)).trans hw426_2), ((HB.out.cell (World.block_lt_of_cell? w _ hw426_3)).trans hw426_3), ((HB.out.cell (World.block_lt_of_cell? w _ hw427_0)).trans hw427_0), ((HB.out.cell (World.block_lt_of_cell? w _ hw427_1)).trans hw427_1), ((HB.out.cell (World.block_lt_of_cell? w _ hw427_2)).trans hw427_2), ((HB.out.cell (World.block_lt_of_cell? w _ hw427_3)).trans hw427_3)⟩ (fun hHeld => ?_); refine with_tabW computuslaw21_forward.tab5 computuslaw21_forward.bits5 (fun HT_ HW_ => ?_)
   generalize wr.drew = w5 at HO_3 HB hx424_0 hx424_1 hx424_2 hx424_3 hx425_0 hx425_1 hx425_2 hx425_3 hx426_0 hx426_1 hx426_2 hx426_3 hx427_0 hx427_1 hx427_2 hx427_3 hHeld ⊢
   refine pure_ (i := 0) (N := some 11) (v := ?_) (a' := ?_) (bf_ 25 1) rfl rfl (any_of HT_.out (by kernel_rfl)) (fun _ _ _ h => h) (Or.inl ⟨by rfl, ?_⟩) ?_ ?_
   rotate_left
   ·intro w'
    go_simp
    with_reducible rfl
   rotate_left
   ·simp only [Act.put, sA_, sZ_, sS_, i64_w, i32_w]
    rfl
   refine pure_ (i := 1) (N := some 12) (v := ?_) (a' := ?_) (bf_ 25 3) rfl rfl (any_of HT_.out (by kernel_rfl)) (fun _ _ _ h => h) (Or.inl ⟨by rfl, ?_⟩) ?_ ?_
   rotate_left
   ·intro w'
    go_simp
    with_reducible rfl
   rotate_left
   ·simp only [Act.put, sA_, sZ_, sS_, i64_w, i32_w]
    rfl
   refine pure_ (i := 2) (N := some 13) (v := ?_) (a' := ?_) (bf_ 25 7) rfl rfl (any_of HT_.out (by kernel_rfl)) (fun _ _ _ h => h) (Or.inl ⟨by rfl, ?_⟩) ?_ ?_
   rotate_left
   ·intro w'
    go_simp
    with_reducible rfl
   rotate_left
   ·simp only [Act.put, sA_, sZ_, sS_, i64_w, i32_w]
    rfl
   refine pure_ (i := 3) (N := some 14) (v := ?_) (a' := ?_) (bf_ 25 15) rfl rfl (any_of HT_.out (by kernel_rfl)) (fun _ _ _ h => h) (Or.inl ⟨by rfl, ?_⟩) ?_ ?_
   rotate_left
   ·intro w'
    go_simp
    with_reducible rfl
   rotate_left
   ·simp only [Act.put, sA_, sZ_, sS_, i64_w, i32_w]
    rfl
   refine pure_ (i := 4) (N := some 15) (v := ?_) (a' := ?_) (bf_ 25 31) rfl rfl (any_of HT_.out (by kernel_rfl)) (fun _ _ _ h => h) (Or.inl ⟨by rfl, ?_⟩) ?_ ?_
   rotate_left
   ·intro w'
    go_simp
    with_reducible rfl
   rotate_left
   ·simp only [Act.put, sA_, sZ_, sS_, i64_w, i32_w]
    rfl
   refine pure_ (i := 6) (N := some 17) (v := ?_) (a' := ?_) (bf_ 25 95) rfl rfl (any_of HT_.out (by kernel_rfl)) (fun _ _ _ h => h) (Or.inl ⟨by rfl, ?_⟩) ?_ ?_
   rotate_left
   ·intro w'
    go_simp
    with_reducible rfl
   rotate_left
   ·simp only [Act.put, sA_, sZ_, sS_, i64_w, i32_w]
    rfl
   refine pure_ (i := 7) (N := some 18) (v := ?_) (a' := ?_) (bf_ 25 223) rfl rfl (any_of HT_.out (by kernel_rfl)) (fun _ _ _ h => h) (Or.inl ⟨by rfl, ?_⟩) ?_ ?_
   rotate_left
   ·intro w'
    go_simp
    with_reducible rfl
   rotate_left
   ·simp only [Act.put, sA_, sZ_, sS_, i64_w, i32_w]
    rfl
   refine pure_ (i := 8) (N := some 19) (v := ?_) (a' := ?_) (bf_ 25 479) rfl rfl (any_of HT_.out (by kernel_rfl)) (fun _ _ _ h => h) (Or.inl ⟨by rfl, ?_⟩) ?_ ?_
   rotate_left
   ·intro w'
    go_simp
    with_reducible rfl
   rotate_left
   ·simp only [Act.put, sA_, sZ_, sS_, i64_w, i32_w]
    rfl
   refine pure_ (i := 9) (N := some 20) (v := ?_) (a' := ?_) (bf_ 25 991) rfl rfl (any_of HT_.out (by kernel_rfl)) (fun _ _ _ h => h) (Or.inl ⟨by rfl, ?_⟩) ?_ ?_
   rotate_left
   ·intro w'
    go_simp
    with_reducible rfl
   rotate_left
   ·simp only [Act.put, sA_, sZ_, sS_, i64_w, i32_w]
    rfl
   refine pure_ (i := 11) (N := some 22) (v := ?_) (a' := ?_) (bf_ 25 3039) rfl rfl (any_of HT_.out (by kernel_rfl)) (fun _ _ _ h => h) (Or.inl ⟨by rfl, ?_⟩) ?_ ?_
   rotate_left
   ·intro w'
    go_simp
    with_reducible rfl
   rotate_left
   ·simp only [Act.put, sA_, sZ_, sS_, i64_w, i32_w]
    rfl
   refine pure_ (i := 12) (N := some 23) (v := ?_) (a' := ?_) (bf_ 25 7135) rfl rfl (any_of HT_.out (by kernel_rfl)) (fun _ _ _ h => h) (Or.inl ⟨by rfl, ?_⟩) ?_ ?_
   rotate_left
   ·intro w'
    go_simp
    with_reducible rfl
   rotate_left
   ·simp only [Act.put, sA_, sZ_, sS_, i64_w, i32_w]
    rfl
   refine pure_ (i := 13) (N := some 24) (v := ?_) (a' := ?_) (bf_ 25 15327) rfl rfl (any_of HT_.out (by kernel_rfl)) (fun _ _ _ h => h) (Or.inl ⟨by rfl, ?_⟩) ?_ ?_
   rotate_left
   ·intro w'
    go_simp
    with_reducible rfl
   rotate_left
   ·simp only [Act.put, sA_, sZ_, sS_, i64_w, i32_w]
    rfl
   refine pure_ (i := 14) (N := some 25) (v := ?_) (a' := ?_) (bf_ 25 31711) rfl rfl (any_of HT_.out (by kernel_rfl)) (fun _ _ _ h => h) (Or.inl ⟨by rfl, ?_⟩) ?_ ?_
   rotate_left
   ·intro w'
    go_simp
    with_reducible rfl
   rotate_left
   ·simp only [Act.put, sA_, sZ_, sS_, i64_w, i32_w]
    rfl
   refine pure_ (i := 16) (N := some 27) (v := ?_) (a' := ?_) (bf_ 25 97247) rfl rfl (any_of HT_.out (by kernel_rfl)) (fun _ _ _ h => h) (Or.inl ⟨by rfl, ?_⟩) ?_ ?_
   rotate_left
   ·intro w'
    go_simp
    with_reducible rfl
   rotate_left
   ·simp only [Act.put, sA_, sZ_, sS_, i64_w, i32_w]
    rfl
   refine pure_ (i := 17) (N := some 28) (v := ?_) (a' := ?_) (bf_ 25 228319) rfl rfl (any_of HT_.out (by kernel_rfl)) (fun _ _ _ h => h) (Or.inl ⟨by rfl, ?_⟩) ?_ ?_
   rotate_left
   ·intro w'
    go_simp
    with_reducible rfl
   rotate_left
   ·simp only [Act.put, sA_, sZ_, sS_, i64_w, i32_w]
    rfl
   refine pure_ (i := 18) (N := some 29) (v := ?_) (a' := ?_) (bf_ 25 490463) rfl rfl (any_of HT_.out (by kernel_rfl)) (fun _ _ _ h => h) (Or.inl ⟨by rfl, ?_⟩) ?_ ?_
   rotate_left
   ·intro w'
    go_simp
    with_reducible rfl
   rotate_left
   ·simp only [Act.put, sA_, sZ_, sS_, i64_w, i32_w]
    rfl
   refine pure_ (i := 19) (N := some 30) (v := ?_) (a' := ?_) (bf_ 25 1014751) rfl rfl (any_of HT_.out (by kernel_rfl)) (fun _ _ _ h => h) (Or.inl ⟨by rfl, ?_⟩) ?_ ?_
   rotate_left
   ·intro w'
    go_simp
    with_reducible rfl
   rotate_left
   ·simp only [Act.put, sA_, sZ_, sS_, i64_w, i32_w]
    rfl
   refine take_ (i := 5) (N := some 16) (v := ?_) (a' := ?_) (bf_ 25 1014783) rfl rfl (take_ofW HT_.out HW_.out (by kernel_rfl)) (fun _ _ _ h => h) (Or.inl ⟨by rfl, ?_⟩) hHeld ?_ ?_
   rotate_left
   ·rintro w' ⟨s0, s1, s2, s3, s4, s5, s6, s7, s8, s9, s10, s11, s12, s13, s14, s15⟩
    go_simp
    with_reducible rfl
   rotate_left
   ·simp only [Act.put, sA_, sZ_, sS_, i64_w, i32_w]
    rfl
   refine take_ (i := 10) (N := some 21) (v := ?_) (a' := ?_) (bf_ 25 1015807) rfl rfl (take_ofW HT_.out HW_.out (by kernel_rfl)) (fun _ _ _ h => h) (Or.inl ⟨by rfl, ?_⟩) hHeld ?_ ?_
   rotate_left
   ·rintro w' ⟨s0, s1, s2, s3, s4, s5, s6, s7, s8, s9, s10, s11, s12, s13, s14, s15⟩
    go_simp
    with_reducible rfl
   rotate_left
   ·simp only [Act.put, sA_, sZ_, sS_, i64_w, i32_w]
    rfl
   refine take_ (i := 15) (N := some 26) (v := ?_) (a' := ?_) (bf_ 25 1048575) rfl rfl (take_ofW HT_.out HW_.out (by kernel_rfl)) (fun _ _ _ h => h) (Or.inl ⟨by rfl, ?_⟩) hHeld ?_ ?_
   rotate_left
   ·rintro w' ⟨s0, s1, s2, s3, s4, s5, s6, s7, s8, s9, s10, s11, s12, s13, s14, s15⟩
    go_simp
    with_reducible rfl
   rotate_left
   ·simp only [Act.put, sA_, sZ_, sS_, i64_w, i32_w]
    rfl
   refine take_ (i := 20) (N := some 31) (v := ?_) (a' := ?_) (bf_ 25 2097151) rfl rfl (take_ofW HT_.out HW_.out (by kernel_rfl)) (fun _ _ _ h => h) (Or.inl ⟨by rfl, ?_⟩) hHeld ?_ ?_
   rotate_left
   ·rintro w' ⟨s0, s1, s2, s3, s4, s5, s6, s7, s8, s9, s10, s11, s12, s13, s14, s15⟩
    go_simp
    with_reducible rfl
   rotate_left
   ·simp only [Act.put, sA_, sZ_, sS_, i64_w, i32_w]
    rfl
   refine pure_ (i := 21) (N := some 32) (v := ?_) (a' := ?_) (bf_ 25 4194303) rfl rfl (any_of HT_.out (by kernel_rfl)) (fun _ _ _ h => h) (Or.inl ⟨by rfl, ?_⟩) ?_ ?_
   rotate_left
   ·intro w'
    go_simp
    with_reducible rfl
   rotate_left
   ·simp only [Act.put, sA_, sZ_, sS_, i64_w, i32_w]
    rfl
   refine one_ (i := 22) (N := some 33) (bf_ 25 8388607) rfl rfl (one_of HT_.out (by kernel_rfl)) (by decide) (fun K hK => ?_)
   refine value_ (w1 := ?_) (v := ?_) (by rfl) rfl ?_ ?_
   rotate_left 2
   ·go_simp
    constructor
    ·rfl
    ·rfl
   refine hK.out _ _ ⟨(World.cell?_alloc_lt _ _ _ (World.block_lt_of_cell? _ _ (((HB.out.cell (World.block_lt_of_cell? w _ hw424_0)).trans hw424_0)))).trans (((HB.out.cell (World.block_lt_of_cell? w _ hw424_0)).trans hw424_0)), (World.cell?_alloc_lt _ _ _ (World.block_lt_of_cell? _ _ (((HB.out.cell (World.block_lt_of_cell? w _ hw424_1)).trans hw424_1)))).trans (((HB.out.cell (World.block_lt_of_cell? w _ hw424_1)).trans hw424_1)), (World.cell?_alloc_lt _ _ _ (World.block_lt_of_cell? _ _ (((HB.out.cell (World.block_lt_of_cell? w _ hw424_2)).trans hw424_2)))).trans (((HB.out.cell (World.block_lt_of_cell? w _ hw424_2)).trans hw424_2)), (World.cell?_alloc_lt _ _ _ (World.block_lt_of_cell? _ _ (((HB.out.cell (World.block_lt_of_cell? w _ hw424_3)).trans hw424_3)))).trans (((HB.out.cell (World.block_lt_of_cell? w _ hw424_3)).trans hw424_3)), (World.cell?_alloc_lt _ _ _ (World.block_lt_of_cell? _ _ (((HB.out.cell (World.block_lt_of_cell? w _ hw425_0)).trans hw425_0)))).trans (((HB.out.cell (World.block_lt_of_cell? w _ hw425_0)).trans hw425_0)), (World.cell?_alloc_lt _ _ _ (World.block_lt_of_cell? _ _ (((HB.out.cell (World.block_lt_of_cell? w _ hw425_1)).trans hw425_1)))).trans (((HB.out.cell (World.block_lt_of_cell? w _ hw425_1)).trans hw425_1)), (World.cell?_alloc_lt _ _ _ (World.block_lt_of_cell? _ _ (((HB.out.cell (World.block_lt_of_cell? w _ hw425_2)).trans hw425_2)))).trans (((HB.out.cell (World.block_lt_of_cell? w _ hw425_2)).trans hw425_2)), (World.cell?_alloc_lt _ _ _ (World.block_lt_of_cell? _ _ (((HB.out.cell (World.block_lt_of_cell? w _ hw425_3)).trans hw425_3)))).trans (((HB.out.cell (World.block_lt_of_cell? w _ hw425_3)).trans hw425_3)), (World.cell?_alloc_lt _ _ _ (World.block_lt_of_cell? _ _ (((HB.out.cell (World.block_lt_of_cell? w _ hw426_0)).trans hw426_0)))).trans (((HB.out.cell (World.block_lt_of_cell? w _ hw426_0)).trans hw426_0)), (World.cell?_alloc_lt _ _ _ (World.block_lt_of_cell? _ _ (((HB.out.cell (World.block_lt_of_cell? w _ hw426_1)).trans hw426_1)))).trans (((HB.out.cell (World.block_lt_of_cell? w _ hw426_1)).trans hw426_1)), (World.cell?_alloc_lt _ _ _ (World.block_lt_of_cell? _ _ (((HB.out.cell (World.block_lt_of_cell? w _ hw426_2)).trans hw426_2)))).trans (((HB.out.cell (World.block_lt_of_cell? w _ hw426_2)).trans hw426_2)), (World.cell?_alloc_lt _ _ _ (World.block_lt_of_cell? _ _ (((HB.out.cell (World.block_lt_of_cell? w _ hw426_3)).trans hw426_3)))).trans (((HB.out.cell (World.block_lt_of_cell? w _ hw426_3)).trans hw426_3)), (World.cell?_alloc_lt _ _ _ (World.block_lt_of_cell? _ _ (((HB.out.cell (World.block_lt_of_cell? w _ hw427_0)).trans hw427_0)))).trans (((HB.out.cell (World.block_lt_of_cell? w _ hw427_0)).trans hw427_0)), (World.cell?_alloc_lt _ _ _ (World.block_lt_of_cell? _ _ (((HB.out.cell (World.block_lt_of_cell? w _ hw427_1)).trans hw427_1)))).trans (((HB.out.cell (World.block_lt_of_cell? w _ hw427_1)).trans hw427_1)), (World.cell?_alloc_lt _ _ _ (World.block_lt_of_cell? _ _ (((HB.out.cell (World.block_lt_of_cell? w _ hw427_2)).trans hw427_2)))).trans (((HB.out.cell (World.block_lt_of_cell? w _ hw427_2)).trans hw427_2)), (World.cell?_alloc_lt _ _ _ (World.block_lt_of_cell? _ _ (((HB.out.cell (World.block_lt_of_cell? w _ hw427_3)).trans hw427_3)))).trans (((HB.out.cell (World.block_lt_of_cell? w _ hw427_3)).trans hw427_3))⟩ (fun hHeld => ?_)
   clear hK K
   refine norm_ (a' := ?_) ?_ ?_
   rotate_left
   ·show Act.put _ (some 33) _ = _
    simp only [Act.put, sA_, sZ_, sS_, i64_w, i32_w]
    rfl
   refine one_ (i := 23) (N := some 34) (bf_ 25 16777215) rfl rfl (one_of HT_.out (by kernel_rfl)) (by decide) (fun K hK => ?_)
   refine Kd.R_append_step k28 (w0 := w) w.heap.size (by rfl) (.tmp 11) (.tmp 33) 24 28 (.agg #[(.int .i64 0), (.int .i64 0), (.int .i64 0), (.string ⟨#[]⟩)]) 40 rfl Try.underlying24 info28 rfl (by decide) (by omega) u3 x3_1 (⟨(rd_T44 l0 x4_1).f0, (rd_T44 l0 x4_1).f1, (rd_T44 l0 x4_1).f2, (rd_T44 l0 x4_1).f3⟩ : S28) [.int .i64 ((rd_T44 l0 x4_1).f0), .int .i64 ((rd_T44 l0 x4_1).f1), .int .i64 ((rd_T44 l0 x4_1).f2), .string ((rd_T44 l0 x4_1).f3)] (fun _ => True) (fun _ => False) rfl rfl ?aP (fun _ hk => hk.elim) ?aF ?aO ?aB ?aS ?aL ?_
   (case aP => exact k28_mkM _ _ _ (⟨(rd_T44 l0 x4_1).f0, (rd_T44 l0 x4_1).f1, (rd_T44 l0 x4_1).f2, (rd_T44 l0 x4_1).f3⟩ : S28))
   (case aB => exact bh_)
   (case aF => exact (fun _ _ => trivial))
   (case aO => exact (rk_ HO_3.out))
   (case aS => exact bz_)
   (case aL => have := LMc4.out; omega)
   intro v429 w6 ho hb hg hat
   rw [← Ny428.out] at ho
   have n0_ := Aside0.mk (hb)
   have n1_ := Aside0.mk (ho)
   clear HB
   clear HO_3
   have HB := n0_
   have HO430 := n1_
   clear n0_ n1_
   clear ho hb hg hat
   refine hK.out _ _ ⟨((HB.out.cell (World.block_lt_of_cell? w _ hw424_0)).trans hw424_0), ((HB.out.cell (World.block_lt_of_cell? w _ hw424_1)).trans hw424_1), ((HB.out.cell (World.block_lt_of_cell? w _ hw424_2)).trans hw424_2), ((HB.out.cell (World.block_lt_of_cell? w _ hw424_3)).trans hw424_3), ((HB.out.cell (World.block_lt_of_cell? w _ hw425_0)).trans hw425_0), ((HB.out.cell (World.block_lt_of_cell? w _ hw425_1)).trans hw425_1), ((HB.out.cell (World.block_lt_of_cell? w _ hw425_2)).trans hw425_2), ((HB.out.cell (World.block_lt_of_cell? w _ hw425_3)).trans hw425_3), ((HB.out.cell (World.block_lt_of_cell? w _ hw426_0)).trans hw426_0), ((HB.out.cell (World.block_lt_of_cell? w _ hw426_1)).trans hw426_1), ((HB.out.cell (World.block_lt_of_cell? w _ hw426_2)).trans hw426_2), ((HB.out.cell (World.block_lt_of_cell? w _ hw426_3)).trans hw426_3), ((HB.out.cell (World.block_lt_of_cell? w _ hw427_0)).trans hw427_0), ((HB.out.cell (World.block_lt_of_cell? w _ hw427_1)).trans hw427_1), ((HB.out.cell (World.block_lt_of_cell? w _ hw427_2)).trans hw427_2), ((HB.out.cell (World.block_lt_of_cell? w _ hw427_3)).trans hw427_3)⟩ (fun hHeld => ?_)
   clear hK K
   refine norm_ (a' := ?_) ?_ ?_
   rotate_left
   ·show Act.put _ (some 34) _ = _
    simp only [Act.put, sA_, sZ_, sS_, i64_w, i32_w]
    rfl
   refine pure_ (i := 24) (N := some 3) (v := ?_) (a' := ?_) (bf_ 25 33554431) rfl rfl (any_of HT_.out (by kernel_rfl)) (fun _ _ _ h => h) (Or.inl ⟨by rfl, ?_⟩) ?_ ?_
   rotate_left
   ·intro w'
    go_simp
    with_reducible rfl
   rotate_left
   ·simp only [Act.put, sA_, sZ_, sS_, i64_w, i32_w]
    rfl
   refine done_ (done_of HT_.out (by kernel_rfl)) ?_
   try go_wp2
   go_roundg k1
   case measure => have := HK1.out; omega
   case rel => exact ⟨(y428), (wrap64 (x4_1 + 1)), rs_, H', ⟨by have := HK1.out; omega⟩, ⟨rk_ HO430.out⟩, ⟨bh_⟩⟩
def computusref20_Precedes.f (a0_0 : Int) (a0_1 : Int) (a0_2 : Int) (a0_3 : ByteArray) (a1_0 : Int) (a1_1 : Int) (a1_2 : Int) (a1_3 : ByteArray) : Option (Bool) := if a0_2 < a1_2 then (some true) else (if a0_2 = a1_2 then (if a0_0 < a1_0 then (some true) else (if a0_0 = a1_0 then (some (decide (a0_1 < a1_1))) else (some false))) else (some false))
set_option maxHeartbeats 8000000 in
set_option maxRecDepth 100000 in
theorem computusref20_Precedes.calls (a0_0 : Int) (a0_1 : Int) (a0_2 : Int) (a0_3 : ByteArray) (a1_0 : Int) (a1_1 : Int) (a1_2 : Int) (a1_3 : ByteArray) (r : Bool) (w : World) (h : computusref20_Precedes.f a0_0 a0_1 a0_2 a0_3 a1_0 a1_1 a1_2 a1_3 = some r) :
  Calls Try.prog 24 #[.agg #[.int .i64 a0_0, .int .i64 a0_1, .int .i64 a0_2, .string a0_3], .agg #[.int .i64 a1_0, .int .i64 a1_1, .int .i64 a1_2, .string a1_3]] w fun e w' => e = .returned (.bool r) ∧ Below w.heap.size w w' := by
 have hu44 := Try.underlying44
 have HB := Aside0.mk (Below.refl w.heap.size w)
 have H := h
 clear h
 unfold computusref20_Precedes.f at H
 by_cases c3 : a0_2 < a1_2
 ·rw [if_pos c3] at H
  have c3b0 : decide (a0_2 < a1_2) = true := decide_eq_true c3
  clear c3
  obtain rfl := Option.some.inj H
  go_enter Try.func24, Try.ntmps24
  go_wp2_with (first | ((with_reducible refine gate_dst (N := 2) rfl ?_); refine bx_ (w := w) (N := 2) (cs := #[.int .i64 a0_0, .int .i64 a0_1, .int .i64 a0_2, .string a0_3]) (t := 44) ?_; intro gb431 w4 BK431 n0_ GW431 GE431; clear HB; have HB := n0_; clear n0_) | ((with_reducible refine gate_dst (N := 3) rfl ?_); refine box_event ?hg (N := 3) ?hd (cs := #[.int .i64 a1_0, .int .i64 a1_1, .int .i64 a1_2, .string a1_3]) (t := 44) ?hr ?_; (case hd => rfl); (case hg => rfl); (case hr => first | (go_simp; done) | (go_simp; rfl)); intro gb432 hg w5 hbox hb; have n0_ := Aside0.mk (blk_below (g := gb431) (o := .cells #[.int .i64 a0_0, .int .i64 a0_1, .int .i64 a0_2, .string a0_3] 44 (0, 0)) (bk_ BK431.out) hb); have n1_ := bt_ hb; have n2_ := Aside0.mk (hbox); have n3_ := Aside0.mk ((by rw [hg]; exact bz_ : w.heap.size ≤ gb432)); have n4_ := Aside0.mk ((by rw [hg]; exact bz_ : w.heap.size ≤ gb432)); have n5_ := Aside0.mk ((by rw [hg]; exact Nat.ne_of_lt (blk_lt (g := gb431) (o := .cells #[.int .i64 a0_0, .int .i64 a0_1, .int .i64 a0_2, .string a0_3] 44 (0, 0)) (bk_ BK431.out)) : gb431 ≠ gb432)); have n6_ := Aside0.mk ((by rw [hg]; exact Nat.ne_of_gt (blk_lt (g := gb431) (o := .cells #[.int .i64 a0_0, .int .i64 a0_1, .int .i64 a0_2, .string a0_3] 44 (0, 0)) (bk_ BK431.out)) : gb432 ≠ gb431)); clear BK431; clear HB; have BK431 := n0_; have HB := n1_; have BK432 := n2_; have GW432 := n3_; have GE432 := n4_; have NB431_432 := n5_; have NB432_431 := n6_; clear n0_ n1_ n2_ n3_ n4_ n5_ n6_; clear hb hbox hg; have hnb6 := NB431_432.out; have hnc6 := NB432_431.out; obtain ⟨hcz7_0, hcz7_1, hcz7_2, hcz7_3⟩ := cz4_ BK431.out; obtain ⟨hfz7_0, hfz7_1, hfz7_2, hfz7_3⟩ := fz4_ BK431.out; obtain ⟨hcz8_0, hcz8_1, hcz8_2, hcz8_3⟩ := cz4_ BK432.out; obtain ⟨hfz8_0, hfz8_1, hfz8_2, hfz8_3⟩ := fz4_ BK432.out))
  go_ret
  exact rt_
 rw [if_neg c3] at H
 have c3b0 : decide (a0_2 < a1_2) = false := decide_eq_false c3
 clear c3
 by_cases c9 : a0_2 = a1_2
 rotate_left
 ·rw [if_neg c9] at H
  have c9b0 : (a0_2 == a1_2) = false := beq_eq_false_iff_ne.mpr c9
  have c9b1 : (a0_2 != a1_2) = true := bne_iff_ne.mpr c9
  obtain rfl := Option.some.inj H
  go_enter Try.func24, Try.ntmps24
  go_wp2_with (first | ((with_reducible refine gate_dst (N := 2) rfl ?_); refine bx_ (w := w) (N := 2) (cs := #[.int .i64 a0_0, .int .i64 a0_1, .int .i64 a0_2, .string a0_3]) (t := 44) ?_; intro gb431 w27 BK431 n0_ GW431 GE431; clear HB; have HB := n0_; clear n0_) | ((with_reducible refine gate_dst (N := 3) rfl ?_); refine box_event ?hg (N := 3) ?hd (cs := #[.int .i64 a1_0, .int .i64 a1_1, .int .i64 a1_2, .string a1_3]) (t := 44) ?hr ?_; (case hd => rfl); (case hg => rfl); (case hr => first | (go_simp; done) | (go_simp; rfl)); intro gb432 hg w28 hbox hb; have n0_ := Aside0.mk (blk_below (g := gb431) (o := .cells #[.int .i64 a0_0, .int .i64 a0_1, .int .i64 a0_2, .string a0_3] 44 (0, 0)) (bk_ BK431.out) hb); have n1_ := bt_ hb; have n2_ := Aside0.mk (hbox); have n3_ := Aside0.mk ((by rw [hg]; exact bz_ : w.heap.size ≤ gb432)); have n4_ := Aside0.mk ((by rw [hg]; exact bz_ : w.heap.size ≤ gb432)); have n5_ := Aside0.mk ((by rw [hg]; exact Nat.ne_of_lt (blk_lt (g := gb431) (o := .cells #[.int .i64 a0_0, .int .i64 a0_1, .int .i64 a0_2, .string a0_3] 44 (0, 0)) (bk_ BK431.out)) : gb431 ≠ gb432)); have n6_ := Aside0.mk ((by rw [hg]; exact Nat.ne_of_gt (blk_lt (g := gb431) (o := .cells #[.int .i64 a0_0, .int .i64 a0_1, .int .i64 a0_2, .string a0_3] 44 (0, 0)) (bk_ BK431.out)) : gb432 ≠ gb431)); clear BK431; clear HB; have BK431 := n0_; have HB := n1_; have BK432 := n2_; have GW432 := n3_; have GE432 := n4_; have NB431_432 := n5_; have NB432_431 := n6_; clear n0_ n1_ n2_ n3_ n4_ n5_ n6_; clear hb hbox hg; have hnb29 := NB431_432.out; have hnc29 := NB432_431.out; obtain ⟨hcz30_0, hcz30_1, hcz30_2, hcz30_3⟩ := cz4_ BK431.out; obtain ⟨hfz30_0, hfz30_1, hfz30_2, hfz30_3⟩ := fz4_ BK431.out; obtain ⟨hcz31_0, hcz31_1, hcz31_2, hcz31_3⟩ := cz4_ BK432.out; obtain ⟨hfz31_0, hfz31_1, hfz31_2, hfz31_3⟩ := fz4_ BK432.out))
  go_ret
  exact rt_
 rw [if_pos c9] at H
 have c9b0 : (a0_2 == a1_2) = true := beq_iff_eq.mpr c9
 have c9b1 : (a0_2 != a1_2) = false := bne_eq_false_iff_eq.mpr c9
 clear c9
 by_cases c10 : a0_0 < a1_0
 ·rw [if_pos c10] at H
  have c10b0 : decide (a0_0 < a1_0) = true := decide_eq_true c10
  clear c10
  obtain rfl := Option.some.inj H
  go_enter Try.func24, Try.ntmps24
  go_wp2_with (first | ((with_reducible refine gate_dst (N := 2) rfl ?_); refine bx_ (w := w) (N := 2) (cs := #[.int .i64 a0_0, .int .i64 a0_1, .int .i64 a0_2, .string a0_3]) (t := 44) ?_; intro gb431 w11 BK431 n0_ GW431 GE431; clear HB; have HB := n0_; clear n0_) | ((with_reducible refine gate_dst (N := 3) rfl ?_); refine box_event ?hg (N := 3) ?hd (cs := #[.int .i64 a1_0, .int .i64 a1_1, .int .i64 a1_2, .string a1_3]) (t := 44) ?hr ?_; (case hd => rfl); (case hg => rfl); (case hr => first | (go_simp; done) | (go_simp; rfl)); intro gb432 hg w12 hbox hb; have n0_ := Aside0.mk (blk_below (g := gb431) (o := .cells #[.int .i64 a0_0, .int .i64 a0_1, .int .i64 a0_2, .string a0_3] 44 (0, 0)) (bk_ BK431.out) hb); have n1_ := bt_ hb; have n2_ := Aside0.mk (hbox); have n3_ := Aside0.mk ((by rw [hg]; exact bz_ : w.heap.size ≤ gb432)); have n4_ := Aside0.mk ((by rw [hg]; exact bz_ : w.heap.size ≤ gb432)); have n5_ := Aside0.mk ((by rw [hg]; exact Nat.ne_of_lt (blk_lt (g := gb431) (o := .cells #[.int .i64 a0_0, .int .i64 a0_1, .int .i64 a0_2, .string a0_3] 44 (0, 0)) (bk_ BK431.out)) : gb431 ≠ gb432)); have n6_ := Aside0.mk ((by rw [hg]; exact Nat.ne_of_gt (blk_lt (g := gb431) (o := .cells #[.int .i64 a0_0, .int .i64 a0_1, .int .i64 a0_2, .string a0_3] 44 (0, 0)) (bk_ BK431.out)) : gb432 ≠ gb431)); clear BK431; clear HB; have BK431 := n0_; have HB := n1_; have BK432 := n2_; have GW432 := n3_; have GE432 := n4_; have NB431_432 := n5_; have NB432_431 := n6_; clear n0_ n1_ n2_ n3_ n4_ n5_ n6_; clear hb hbox hg; have hnb13 := NB431_432.out; have hnc13 := NB432_431.out; obtain ⟨hcz14_0, hcz14_1, hcz14_2, hcz14_3⟩ := cz4_ BK431.out; obtain ⟨hfz14_0, hfz14_1, hfz14_2, hfz14_3⟩ := fz4_ BK431.out; obtain ⟨hcz15_0, hcz15_1, hcz15_2, hcz15_3⟩ := cz4_ BK432.out; obtain ⟨hfz15_0, hfz15_1, hfz15_2, hfz15_3⟩ := fz4_ BK432.out))
  go_ret
  exact rt_
 rw [if_neg c10] at H
 have c10b0 : decide (a0_0 < a1_0) = false := decide_eq_false c10
 clear c10
 by_cases c16 : a0_0 = a1_0
 rotate_left
 ·rw [if_neg c16] at H
  have c16b0 : (a0_0 == a1_0) = false := beq_eq_false_iff_ne.mpr c16
  have c16b1 : (a0_0 != a1_0) = true := bne_iff_ne.mpr c16
  obtain rfl := Option.some.inj H
  go_enter Try.func24, Try.ntmps24
  go_wp2_with (first | ((with_reducible refine gate_dst (N := 2) rfl ?_); refine bx_ (w := w) (N := 2) (cs := #[.int .i64 a0_0, .int .i64 a0_1, .int .i64 a0_2, .string a0_3]) (t := 44) ?_; intro gb431 w22 BK431 n0_ GW431 GE431; clear HB; have HB := n0_; clear n0_) | ((with_reducible refine gate_dst (N := 3) rfl ?_); refine box_event ?hg (N := 3) ?hd (cs := #[.int .i64 a1_0, .int .i64 a1_1, .int .i64 a1_2, .string a1_3]) (t := 44) ?hr ?_; (case hd => rfl); (case hg => rfl); (case hr => first | (go_simp; done) | (go_simp; rfl)); intro gb432 hg w23 hbox hb; have n0_ := Aside0.mk (blk_below (g := gb431) (o := .cells #[.int .i64 a0_0, .int .i64 a0_1, .int .i64 a0_2, .string a0_3] 44 (0, 0)) (bk_ BK431.out) hb); have n1_ := bt_ hb; have n2_ := Aside0.mk (hbox); have n3_ := Aside0.mk ((by rw [hg]; exact bz_ : w.heap.size ≤ gb432)); have n4_ := Aside0.mk ((by rw [hg]; exact bz_ : w.heap.size ≤ gb432)); have n5_ := Aside0.mk ((by rw [hg]; exact Nat.ne_of_lt (blk_lt (g := gb431) (o := .cells #[.int .i64 a0_0, .int .i64 a0_1, .int .i64 a0_2, .string a0_3] 44 (0, 0)) (bk_ BK431.out)) : gb431 ≠ gb432)); have n6_ := Aside0.mk ((by rw [hg]; exact Nat.ne_of_gt (blk_lt (g := gb431) (o := .cells #[.int .i64 a0_0, .int .i64 a0_1, .int .i64 a0_2, .string a0_3] 44 (0, 0)) (bk_ BK431.out)) : gb432 ≠ gb431)); clear BK431; clear HB; have BK431 := n0_; have HB := n1_; have BK432 := n2_; have GW432 := n3_; have GE432 := n4_; have NB431_432 := n5_; have NB432_431 := n6_; clear n0_ n1_ n2_ n3_ n4_ n5_ n6_; clear hb hbox hg; have hnb24 := NB431_432.out; have hnc24 := NB432_431.out; obtain ⟨hcz25_0, hcz25_1, hcz25_2, hcz25_3⟩ := cz4_ BK431.out; obtain ⟨hfz25_0, hfz25_1, hfz25_2, hfz25_3⟩ := fz4_ BK431.out; obtain ⟨hcz26_0, hcz26_1, hcz26_2, hcz26_3⟩ := cz4_ BK432.out; obtain ⟨hfz26_0, hfz26_1, hfz26_2, hfz26_3⟩ := fz4_ BK432.out))
  go_ret
  exact rt_
 rw [if_pos c16] at H
 have c16b0 : (a0_0 == a1_0) = true := beq_iff_eq.mpr c16
 have c16b1 : (a0_0 != a1_0) = false := bne_eq_false_iff_eq.mpr c16
 clear c16
 obtain rfl := Option.some.inj H
 go_enter Try.func24, Try.ntmps24
 go_wp2_with (first | ((with_reducible refine gate_dst (N := 2) rfl ?_); refine bx_ (w := w) (N := 2) (cs := #[.int .i64 a0_0, .int .i64 a0_1, .int .i64 a0_2, .string a0_3]) (t := 44) ?_; intro gb431 w17 BK431 n0_ GW431 GE431; clear HB; have HB := n0_; clear n0_) | ((with_reducible refine gate_dst (N := 3) rfl ?_); refine box_event ?hg (N := 3) ?hd (cs := #[.int .i64 a1_0, .int .i64 a1_1, .int .i64 a1_2, .string a1_3]) (t := 44) ?hr ?_; (case hd => rfl); (case hg => rfl); (case hr => first | (go_simp; done) | (go_simp; rfl)); intro gb432 hg w18 hbox hb; have n0_ := Aside0.mk (blk_below (g := gb431) (o := .cells #[.int .i64 a0_0, .int .i64 a0_1, .int .i64 a0_2, .string a0_3] 44 (0, 0)) (bk_ BK431.out) hb); have n1_ := bt_ hb; have n2_ := Aside0.mk (hbox); have n3_ := Aside0.mk ((by rw [hg]; exact bz_ : w.heap.size ≤ gb432)); have n4_ := Aside0.mk ((by rw [hg]; exact bz_ : w.heap.size ≤ gb432)); have n5_ := Aside0.mk ((by rw [hg]; exact Nat.ne_of_lt (blk_lt (g := gb431) (o := .cells #[.int .i64 a0_0, .int .i64 a0_1, .int .i64 a0_2, .string a0_3] 44 (0, 0)) (bk_ BK431.out)) : gb431 ≠ gb432)); have n6_ := Aside0.mk ((by rw [hg]; exact Nat.ne_of_gt (blk_lt (g := gb431) (o := .cells #[.int .i64 a0_0, .int .i64 a0_1, .int .i64 a0_2, .string a0_3] 44 (0, 0)) (bk_ BK431.out)) : gb432 ≠ gb431)); clear BK431; clear HB; have BK431 := n0_; have HB := n1_; have BK432 := n2_; have GW432 := n3_; have GE432 := n4_; have NB431_432 := n5_; have NB432_431 := n6_; clear n0_ n1_ n2_ n3_ n4_ n5_ n6_; clear hb hbox hg; have hnb19 := NB431_432.out; have hnc19 := NB432_431.out; obtain ⟨hcz20_0, hcz20_1, hcz20_2, hcz20_3⟩ := cz4_ BK431.out; obtain ⟨hfz20_0, hfz20_1, hfz20_2, hfz20_3⟩ := fz4_ BK431.out; obtain ⟨hcz21_0, hcz21_1, hcz21_2, hcz21_3⟩ := cz4_ BK432.out; obtain ⟨hfz21_0, hfz21_1, hfz21_2, hfz21_3⟩ := fz4_ BK432.out))
 go_ret
 exact rt_
def computuslaw21_count.l0 : Nat → List Int → Int → Int → Int → Option (Int)
 | 0, _, _, _, _ => none
 | k + 1, x0, x1, x5, x6 => if x6 < (x0.length : Int) then (if 0 ≤ x6 then (if (rd x0 x6) = x1 then (computuslaw21_count.l0 k x0 x1 (wrap64 (x5 + 1)) (wrap64 (x6 + 1))) else (computuslaw21_count.l0 k x0 x1 x5 (wrap64 (x6 + 1)))) else (none)) else (some x5)
def computuslaw21_count.f (k : Nat) (l0 : List Int) (a1 : Int) : Option (Int) := computuslaw21_count.l0 k l0 a1 0 0
theorem computuslaw21_count.mono_l : ∀ k, (∀ y0 y1 y2 y3, LeO (computuslaw21_count.l0 k y0 y1 y2 y3) (computuslaw21_count.l0 (k + 1) y0 y1 y2 y3))
 | 0 => fun _ _ _ _ r h => by simp [computuslaw21_count.l0] at h
 | k + 1 => by
  have ih0 := computuslaw21_count.mono_l k
  ·intro y0 y1 y2 y3
   unfold computuslaw21_count.l0
   repeat' first | (with_reducible first | exact ih0 _ _ _ _ | exact LeO.refl _ | exact LeO.none _ | refine LeO.ite ?_ ?_ | refine LeO.bind ?_ (fun _ => ?_)) | exact LeO.none _ | refine LeO.ite ?_ ?_ | refine LeO.bind ?_ (fun _ => ?_)
theorem computuslaw21_count.mono : ∀ a0 a1 k, LeO (computuslaw21_count.f k a0 a1) (computuslaw21_count.f (k + 1) a0 a1) := by
 intro a0 a1 k
 have ih0 := computuslaw21_count.mono_l k
 unfold computuslaw21_count.f
 repeat' first | (with_reducible first | exact ih0 _ _ _ _ | exact LeO.refl _ | exact LeO.none _ | refine LeO.ite ?_ ?_ | refine LeO.bind ?_ (fun _ => ?_)) | exact LeO.none _ | refine LeO.ite ?_ ?_ | refine LeO.bind ?_ (fun _ => ?_)
set_option maxHeartbeats 8000000 in
set_option maxRecDepth 100000 in
theorem computuslaw21_count.calls (k : Nat) (A0 : Option Addr) (c0 : Nat) (l0 : List Int) (a1 : Int) (r : Int) (w : World) (hr0 : Kd.C (Kd.int .i64) w A0 l0.length l0) (hc0 : l0.length ≤ c0) (h : computuslaw21_count.f k l0 a1 = some r) :
  Calls Try.prog 42 #[.slice A0 l0.length c0, .int .i64 a1] w fun e w' => e = .returned (.int .i64 r) ∧ Drawn0 w w' := by
 have HR0 := Aside0.mk hr0
 have HC0 := Aside0.mk hc0
 clear hr0 hc0
 have H := h
 clear h
 unfold computuslaw21_count.f at H
 have H' := Aside0.mk H
 clear H
 go_enter Try.func42, Try.ntmps42
 go_wp2
 go_loopg [5, 6] k (fun kq v5 v6 w' => ∃ (x5_1 : Int) (x6_1 : Int), v5 = .int .i64 x5_1 ∧ v6 = .int .i64 x6_1 ∧ Aside0 (computuslaw21_count.l0 kq l0 a1 x5_1 x6_1 = some r) ∧ Aside0 (kq ≤ k) ∧ Drawn0 w w')
 case atStart => exact ⟨(0), (0), rs_, rs_, H', ⟨Nat.le_refl _⟩, by repeat (first | exact Drawn0.refl _ | apply Drawn0.step)⟩
 case round =>
  clear H'
  try clear p2
  obtain ⟨x5_1, x6_1, rfl, rfl, HA, HK1, ⟨m1, rfl⟩⟩ := hrel
  cases gk with
  | zero => exact absurd HA.out (by simp [computuslaw21_count.l0])
  | succ k1 =>
   have H := HA.out
   clear HA
   simp only [computuslaw21_count.l0] at H
   by_cases c3 : x6_1 < (l0.length : Int)
   rotate_left
   ·rw [if_neg c3] at H
    have c3b0 : decide (x6_1 < (l0.length : Int)) = false := decide_eq_false c3
    clear c3
    obtain rfl := Option.some.inj H
    go_wp2
    go_ret
    exact ⟨by first | rfl | (simp; done) | (simp [*]; done), by repeat (first | exact Drawn0.refl _ | apply Drawn0.step)⟩
   rw [if_pos c3] at H
   have c3b0 : decide (x6_1 < (l0.length : Int)) = true := decide_eq_true c3
   clear c3
   by_cases c4 : 0 ≤ x6_1
   rotate_left
   ·rw [if_neg c4] at H
    exact absurd H (by simp)
   rw [if_pos c4] at H
   have c4b0 : decide (0 ≤ x6_1) = true := decide_eq_true c4
   clear c4
   by_cases c5 : (rd l0 x6_1) = a1
   rotate_left
   ·rw [if_neg c5] at H
    have c5b0 : ((rd l0 x6_1) == a1) = false := beq_eq_false_iff_ne.mpr c5
    have c5b1 : ((rd l0 x6_1) != a1) = true := bne_iff_ne.mpr c5
    have H' := Aside0.mk H
    clear H
    have p587 : 0 ≤ (x6_1 : Int) := of_decide_eq_true as_
    have q587 : x6_1 < (l0.length : Int) := of_decide_eq_true as_
    obtain ⟨ad587, e587, hx587_0⟩ := Kd.at_int HR0.out x6_1 p587 q587
    cases e587
    replace p587 := eq_true p587
    replace q587 := eq_true q587
    go_wp2
    go_roundg k1
    case measure => have := HK1.out; omega
    case rel => exact ⟨(x5_1), (wrap64 (x6_1 + 1)), rs_, rs_, H', ⟨by have := HK1.out; omega⟩, by repeat (first | exact Drawn0.refl _ | apply Drawn0.step)⟩
   rw [if_pos c5] at H
   have c5b0 : ((rd l0 x6_1) == a1) = true := beq_iff_eq.mpr c5
   have c5b1 : ((rd l0 x6_1) != a1) = false := bne_eq_false_iff_eq.mpr c5
   clear c5
   have H' := Aside0.mk H
   clear H
   have p587 : 0 ≤ (x6_1 : Int) := of_decide_eq_true as_
   have q587 : x6_1 < (l0.length : Int) := of_decide_eq_true as_
   obtain ⟨ad587, e587, hx587_0⟩ := Kd.at_int HR0.out x6_1 p587 q587
   cases e587
   replace p587 := eq_true p587
   replace q587 := eq_true q587
   go_wp2
   go_roundg k1
   case measure => have := HK1.out; omega
   case rel => exact ⟨(wrap64 (x5_1 + 1)), (wrap64 (x6_1 + 1)), rs_, rs_, H', ⟨by have := HK1.out; omega⟩, by repeat (first | exact Drawn0.refl _ | apply Drawn0.step)⟩
def computuslaw21_times.f (k : Nat) (a0_0 : Int) (a0_1 : Int) (a0_2 : Int) (a0_3 : ByteArray) (l0_4 : List Int) (l0_5 : List Int) (l0_6 : List Int) (a1 : Int) : Option (Int) := (computuslaw21_count.f k l0_4 a1).bind fun t589 => ((computuslaw21_count.f k l0_5 a1).bind fun t590 => ((computuslaw21_count.f k l0_6 a1).bind fun t591 => (some (wrap64 ((wrap64 (t589 + t590)) + t591)))))
theorem computuslaw21_times.mono : ∀ a0 a1 a2 a3 a4 a5 a6 a7 k, LeO (computuslaw21_times.f k a0 a1 a2 a3 a4 a5 a6 a7) (computuslaw21_times.f (k + 1) a0 a1 a2 a3 a4 a5 a6 a7) := by
 intro a0 a1 a2 a3 a4 a5 a6 a7 k
 unfold computuslaw21_times.f
 repeat' first | (with_reducible first | exact computuslaw21_count.mono _ _ _ | exact LeO.refl _ | exact LeO.none _ | refine LeO.ite ?_ ?_ | refine LeO.bind ?_ (fun _ => ?_)) | exact LeO.none _ | refine LeO.ite ?_ ?_ | refine LeO.bind ?_ (fun _ => ?_)
set_option maxHeartbeats 8000000 in
set_option maxRecDepth 100000 in
theorem computuslaw21_times.calls (k : Nat) (a0_0 : Int) (a0_1 : Int) (a0_2 : Int) (a0_3 : ByteArray) (A0_4 : Option Addr) (c0_4 : Nat) (l0_4 : List Int) (A0_5 : Option Addr) (c0_5 : Nat) (l0_5 : List Int) (A0_6 : Option Addr) (c0_6 : Nat) (l0_6 : List Int) (a1 : Int) (r : Int) (w : World) (hr0_4 : Kd.C (Kd.int .i64) w A0_4 l0_4.length l0_4) (hc0_4 : l0_4.length ≤ c0_4) (hr0_5 : Kd.C (Kd.int .i64) w A0_5 l0_5.length l0_5) (hc0_5 : l0_5.length ≤ c0_5) (hr0_6 : Kd.C (Kd.int .i64) w A0_6 l0_6.length l0_6) (hc0_6 : l0_6.length ≤ c0_6) (h : computuslaw21_times.f k a0_0 a0_1 a0_2 a0_3 l0_4 l0_5 l0_6 a1 = some r) :
  Calls Try.prog 25 #[.agg #[.int .i64 a0_0, .int .i64 a0_1, .int .i64 a0_2, .string a0_3, .slice A0_4 l0_4.length c0_4, .slice A0_5 l0_5.length c0_5, .slice A0_6 l0_6.length c0_6], .int .i64 a1] w fun e w' => e = .returned (.int .i64 r) ∧ Below w.heap.size w w' := by
 have hu42 := Try.underlying42
 have HR0_4 := Aside0.mk hr0_4
 have HC0_4 := Aside0.mk hc0_4
 clear hr0_4 hc0_4
 have HR0_5 := Aside0.mk hr0_5
 have HC0_5 := Aside0.mk hc0_5
 clear hr0_5 hc0_5
 have HR0_6 := Aside0.mk hr0_6
 have HC0_6 := Aside0.mk hc0_6
 clear hr0_6 hc0_6
 have HB := Aside0.mk (Below.refl w.heap.size w)
 have H := h
 clear h
 unfold computuslaw21_times.f at H
 obtain ⟨t589, A3, H⟩ := bs_ H
 obtain ⟨t590, A4, H⟩ := bs_ H
 obtain ⟨t591, A5, H⟩ := bs_ H
 obtain rfl := Option.some.inj H
 go_enter Try.func25, Try.ntmps25
 go_wp2_with (first | ((with_reducible refine gate_dst (N := 2) rfl ?_); refine bx_ (w := w) (N := 2) (cs := #[.int .i64 a0_0, .int .i64 a0_1, .int .i64 a0_2, .string a0_3, .slice A0_4 l0_4.length c0_4, .slice A0_5 l0_5.length c0_5, .slice A0_6 l0_6.length c0_6]) (t := 42) ?_; intro gb588 w6 BK588 n0_ GW588 GE588; clear HB; have HB := n0_; clear n0_; obtain ⟨hcz7_0, hcz7_1, hcz7_2, hcz7_3, hcz7_4, hcz7_5, hcz7_6⟩ := cz7_ BK588.out; obtain ⟨hfz7_0, hfz7_1, hfz7_2, hfz7_3, hfz7_4, hfz7_5, hfz7_6⟩ := fz7_ BK588.out) | (go_at_call 42; (with_reducible refine (computuslaw21_count.calls k _ _ l0_4 a1 t589 _ ?side1 ?side2 A3.out).mono ?_); (case side1 => repeat (first | exact (Kd.C_below HR0_4.out HB.out) | (with_reducible refine Kd.C_alloc ?_ _) | (with_reducible refine Kd.C_drewN ?_ _) | (with_reducible refine Kd.C_drew ?_))); (case side2 => exact HC0_4.out); rintro e w' ⟨rfl, ⟨nd, rfl⟩⟩; (try first | exact ⟨rfl, _, World.drewN_drewN _ _ _⟩ | exact ⟨rfl, _, Eq.trans (World.drewN_drewN _ _ _) (congrArg (World.drewN _) (Nat.add_assoc _ _ _))⟩)) | (go_at_call 42; (with_reducible refine (computuslaw21_count.calls k _ _ l0_5 a1 t590 _ ?side1 ?side2 A4.out).mono ?_); (case side1 => repeat (first | exact (Kd.C_below HR0_5.out bh_) | (with_reducible refine Kd.C_alloc ?_ _) | (with_reducible refine Kd.C_drewN ?_ _) | (with_reducible refine Kd.C_drew ?_))); (case side2 => exact HC0_5.out); rintro e w' ⟨rfl, ⟨nd, rfl⟩⟩; (try first | exact ⟨rfl, _, World.drewN_drewN _ _ _⟩ | exact ⟨rfl, _, Eq.trans (World.drewN_drewN _ _ _) (congrArg (World.drewN _) (Nat.add_assoc _ _ _))⟩)) | (go_at_call 42; (with_reducible refine (computuslaw21_count.calls k _ _ l0_6 a1 t591 _ ?side1 ?side2 A5.out).mono ?_); (case side1 => repeat (first | exact (Kd.C_below HR0_6.out bh_) | (with_reducible refine Kd.C_alloc ?_ _) | (with_reducible refine Kd.C_drewN ?_ _) | (with_reducible refine Kd.C_drew ?_))); (case side2 => exact HC0_6.out); rintro e w' ⟨rfl, ⟨nd, rfl⟩⟩; (try first | exact ⟨rfl, _, World.drewN_drewN _ _ _⟩ | exact ⟨rfl, _, Eq.trans (World.drewN_drewN _ _ _) (congrArg (World.drewN _) (Nat.add_assoc _ _ _))⟩)))
 repeat (go_quiet (first | ((with_reducible refine gate_dst (N := 2) rfl ?_); refine bx_ (w := w) (N := 2) (cs := #[.int .i64 a0_0, .int .i64 a0_1, .int .i64 a0_2, .string a0_3, .slice A0_4 l0_4.length c0_4, .slice A0_5 l0_5.length c0_5, .slice A0_6 l0_6.length c0_6]) (t := 42) ?_; intro gb588 w6 BK588 n0_ GW588 GE588; clear HB; have HB := n0_; clear n0_; obtain ⟨hcz7_0, hcz7_1, hcz7_2, hcz7_3, hcz7_4, hcz7_5, hcz7_6⟩ := cz7_ BK588.out; obtain ⟨hfz7_0, hfz7_1, hfz7_2, hfz7_3, hfz7_4, hfz7_5, hfz7_6⟩ := fz7_ BK588.out) | (go_at_call 42; (with_reducible refine (computuslaw21_count.calls k _ _ l0_4 a1 t589 _ ?side1 ?side2 A3.out).mono ?_); (case side1 => repeat (first | exact (Kd.C_below HR0_4.out HB.out) | (with_reducible refine Kd.C_alloc ?_ _) | (with_reducible refine Kd.C_drewN ?_ _) | (with_reducible refine Kd.C_drew ?_))); (case side2 => exact HC0_4.out); rintro e w' ⟨rfl, ⟨nd, rfl⟩⟩; (try first | exact ⟨rfl, _, World.drewN_drewN _ _ _⟩ | exact ⟨rfl, _, Eq.trans (World.drewN_drewN _ _ _) (congrArg (World.drewN _) (Nat.add_assoc _ _ _))⟩)) | (go_at_call 42; (with_reducible refine (computuslaw21_count.calls k _ _ l0_5 a1 t590 _ ?side1 ?side2 A4.out).mono ?_); (case side1 => repeat (first | exact (Kd.C_below HR0_5.out bh_) | (with_reducible refine Kd.C_alloc ?_ _) | (with_reducible refine Kd.C_drewN ?_ _) | (with_reducible refine Kd.C_drew ?_))); (case side2 => exact HC0_5.out); rintro e w' ⟨rfl, ⟨nd, rfl⟩⟩; (try first | exact ⟨rfl, _, World.drewN_drewN _ _ _⟩ | exact ⟨rfl, _, Eq.trans (World.drewN_drewN _ _ _) (congrArg (World.drewN _) (Nat.add_assoc _ _ _))⟩)) | (go_at_call 42; (with_reducible refine (computuslaw21_count.calls k _ _ l0_6 a1 t591 _ ?side1 ?side2 A5.out).mono ?_); (case side1 => repeat (first | exact (Kd.C_below HR0_6.out bh_) | (with_reducible refine Kd.C_alloc ?_ _) | (with_reducible refine Kd.C_drewN ?_ _) | (with_reducible refine Kd.C_drew ?_))); (case side2 => exact HC0_6.out); rintro e w' ⟨rfl, ⟨nd, rfl⟩⟩; (try first | exact ⟨rfl, _, World.drewN_drewN _ _ _⟩ | exact ⟨rfl, _, Eq.trans (World.drewN_drewN _ _ _) (congrArg (World.drewN _) (Nat.add_assoc _ _ _))⟩))); try go_wp2_with (first | ((with_reducible refine gate_dst (N := 2) rfl ?_); refine bx_ (w := w) (N := 2) (cs := #[.int .i64 a0_0, .int .i64 a0_1, .int .i64 a0_2, .string a0_3, .slice A0_4 l0_4.length c0_4, .slice A0_5 l0_5.length c0_5, .slice A0_6 l0_6.length c0_6]) (t := 42) ?_; intro gb588 w6 BK588 n0_ GW588 GE588; clear HB; have HB := n0_; clear n0_; obtain ⟨hcz7_0, hcz7_1, hcz7_2, hcz7_3, hcz7_4, hcz7_5, hcz7_6⟩ := cz7_ BK588.out; obtain ⟨hfz7_0, hfz7_1, hfz7_2, hfz7_3, hfz7_4, hfz7_5, hfz7_6⟩ := fz7_ BK588.out) | (go_at_call 42; (with_reducible refine (computuslaw21_count.calls k _ _ l0_4 a1 t589 _ ?side1 ?side2 A3.out).mono ?_); (case side1 => repeat (first | exact (Kd.C_below HR0_4.out HB.out) | (with_reducible refine Kd.C_alloc ?_ _) | (with_reducible refine Kd.C_drewN ?_ _) | (with_reducible refine Kd.C_drew ?_))); (case side2 => exact HC0_4.out); rintro e w' ⟨rfl, ⟨nd, rfl⟩⟩; (try first | exact ⟨rfl, _, World.drewN_drewN _ _ _⟩ | exact ⟨rfl, _, Eq.trans (World.drewN_drewN _ _ _) (congrArg (World.drewN _) (Nat.add_assoc _ _ _))⟩)) | (go_at_call 42; (with_reducible refine (computuslaw21_count.calls k _ _ l0_5 a1 t590 _ ?side1 ?side2 A4.out).mono ?_); (case side1 => repeat (first | exact (Kd.C_below HR0_5.out bh_) | (with_reducible refine Kd.C_alloc ?_ _) | (with_reducible refine Kd.C_drewN ?_ _) | (with_reducible refine Kd.C_drew ?_))); (case side2 => exact HC0_5.out); rintro e w' ⟨rfl, ⟨nd, rfl⟩⟩; (try first | exact ⟨rfl, _, World.drewN_drewN _ _ _⟩ | exact ⟨rfl, _, Eq.trans (World.drewN_drewN _ _ _) (congrArg (World.drewN _) (Nat.add_assoc _ _ _))⟩)) | (go_at_call 42; (with_reducible refine (computuslaw21_count.calls k _ _ l0_6 a1 t591 _ ?side1 ?side2 A5.out).mono ?_); (case side1 => repeat (first | exact (Kd.C_below HR0_6.out bh_) | (with_reducible refine Kd.C_alloc ?_ _) | (with_reducible refine Kd.C_drewN ?_ _) | (with_reducible refine Kd.C_drew ?_))); (case side2 => exact HC0_6.out); rintro e w' ⟨rfl, ⟨nd, rfl⟩⟩; (try first | exact ⟨rfl, _, World.drewN_drewN _ _ _⟩ | exact ⟨rfl, _, Eq.trans (World.drewN_drewN _ _ _) (congrArg (World.drewN _) (Nat.add_assoc _ _ _))⟩))))
 go_ret
 exact rt_
def computuslaw21_listed.f (k : Nat) (a0_0 : Int) (l0_1 : List (S66)) (l0_2 : List (S68)) (a1_0 : Int) (a1_1 : Int) (a1_2 : Int) (a1_3 : ByteArray) (l1_4 : List Int) (l1_5 : List Int) (l1_6 : List Int) (a2 : Int) : Option (Bool) := if 0 ≤ a2 then (if a2 < (l0_2.length : Int) then (if ((rd_T68 l0_2 a2).f2) = 1 then ((computuslaw21_count.f k l1_6 a2).bind fun t595 => (some (t595 == 1))) else (if ((rd_T68 l0_2 a2).f2) = 2 then ((computuslaw21_count.f k l1_4 a2).bind fun t596 => (some (t596 == 1))) else ((computuslaw21_count.f k l1_5 a2).bind fun t597 => (some (t597 == 1))))) else (none)) else (none)
theorem computuslaw21_listed.mono : ∀ a0 a1 a2 a3 a4 a5 a6 a7 a8 a9 a10 k, LeO (computuslaw21_listed.f k a0 a1 a2 a3 a4 a5 a6 a7 a8 a9 a10) (computuslaw21_listed.f (k + 1) a0 a1 a2 a3 a4 a5 a6 a7 a8 a9 a10) := by
 intro a0 a1 a2 a3 a4 a5 a6 a7 a8 a9 a10 k
 unfold computuslaw21_listed.f
 repeat' first | (with_reducible first | exact computuslaw21_count.mono _ _ _ | exact LeO.refl _ | exact LeO.none _ | refine LeO.ite ?_ ?_ | refine LeO.bind ?_ (fun _ => ?_)) | exact LeO.none _ | refine LeO.ite ?_ ?_ | refine LeO.bind ?_ (fun _ => ?_)
set_option maxHeartbeats 8000000 in
set_option maxRecDepth 100000 in
theorem computuslaw21_listed.calls (k : Nat) (a0_0 : Int) (A0_1 : Option Addr) (c0_1 : Nat) (l0_1 : List (S66)) (A0_2 : Option Addr) (c0_2 : Nat) (l0_2 : List (S68)) (a1_0 : Int) (a1_1 : Int) (a1_2 : Int) (a1_3 : ByteArray) (A1_4 : Option Addr) (c1_4 : Nat) (l1_4 : List Int) (A1_5 : Option Addr) (c1_5 : Nat) (l1_5 : List Int) (A1_6 : Option Addr) (c1_6 : Nat) (l1_6 : List Int) (a2 : Int) (r : Bool) (w : World) (hr0_1 : Kd.C k66 w A0_1 l0_1.length l0_1) (hc0_1 : l0_1.length ≤ c0_1) (hr0_2 : Kd.C k68 w A0_2 l0_2.length l0_2) (hc0_2 : l0_2.length ≤ c0_2) (hr1_4 : Kd.C (Kd.int .i64) w A1_4 l1_4.length l1_4) (hc1_4 : l1_4.length ≤ c1_4) (hr1_5 : Kd.C (Kd.int .i64) w A1_5 l1_5.length l1_5) (hc1_5 : l1_5.length ≤ c1_5) (hr1_6 : Kd.C (Kd.int .i64) w A1_6 l1_6.length l1_6) (hc1_6 : l1_6.length ≤ c1_6) (h : computuslaw21_listed.f k a0_0 l0_1 l0_2 a1_0 a1_1 a1_2 a1_3 l1_4 l1_5 l1_6 a2 = some r) :
  Calls Try.prog 26 #[.agg #[.int .i64 a0_0, .slice A0_1 l0_1.length c0_1, .slice A0_2 l0_2.length c0_2], .agg #[.int .i64 a1_0, .int .i64 a1_1, .int .i64 a1_2, .string a1_3, .slice A1_4 l1_4.length c1_4, .slice A1_5 l1_5.length c1_5, .slice A1_6 l1_6.length c1_6], .int .i64 a2] w fun e w' => e = .returned (.bool r) ∧ Below w.heap.size w w' := by
 have hu36 := Try.underlying36
 have hu42 := Try.underlying42
 have HR0_1 := Aside0.mk hr0_1
 have HC0_1 := Aside0.mk hc0_1
 clear hr0_1 hc0_1
 have HR0_2 := Aside0.mk hr0_2
 have HC0_2 := Aside0.mk hc0_2
 clear hr0_2 hc0_2
 have HR1_4 := Aside0.mk hr1_4
 have HC1_4 := Aside0.mk hc1_4
 clear hr1_4 hc1_4
 have HR1_5 := Aside0.mk hr1_5
 have HC1_5 := Aside0.mk hc1_5
 clear hr1_5 hc1_5
 have HR1_6 := Aside0.mk hr1_6
 have HC1_6 := Aside0.mk hc1_6
 clear hr1_6 hc1_6
 have HB := Aside0.mk (Below.refl w.heap.size w)
 have H := h
 clear h
 unfold computuslaw21_listed.f at H
 by_cases c4 : 0 ≤ a2
 rotate_left
 ·rw [if_neg c4] at H
  exact absurd H (by simp)
 rw [if_pos c4] at H
 have c4b0 : decide (0 ≤ a2) = true := decide_eq_true c4
 clear c4
 by_cases c5 : a2 < (l0_2.length : Int)
 rotate_left
 ·rw [if_neg c5] at H
  exact absurd H (by simp)
 rw [if_pos c5] at H
 have c5b0 : decide (a2 < (l0_2.length : Int)) = true := decide_eq_true c5
 clear c5
 by_cases c6 : ((rd_T68 l0_2 a2).f2) = 1
 ·rw [if_pos c6] at H
  have c6b0 : (((rd_T68 l0_2 a2).f2) == 1) = true := beq_iff_eq.mpr c6
  have c6b1 : (((rd_T68 l0_2 a2).f2) != 1) = false := bne_eq_false_iff_eq.mpr c6
  clear c6
  obtain ⟨t595, A7, H⟩ := bs_ H
  obtain rfl := Option.some.inj H
  go_enter Try.func26, Try.ntmps26
  go_wp2_with (first | ((with_reducible refine gate_dst (N := 3) rfl ?_); refine bx_ (w := w) (N := 3) (cs := #[.int .i64 a0_0, .slice A0_1 l0_1.length c0_1, .slice A0_2 l0_2.length c0_2]) (t := 36) ?_; intro gb592 w8 BK592 n0_ GW592 GE592; clear HB; have HB := n0_; clear n0_) | ((with_reducible refine gate_dst (N := 4) rfl ?_); refine box_event ?hg (N := 4) ?hd (cs := #[.int .i64 a1_0, .int .i64 a1_1, .int .i64 a1_2, .string a1_3, .slice A1_4 l1_4.length c1_4, .slice A1_5 l1_5.length c1_5, .slice A1_6 l1_6.length c1_6]) (t := 42) ?hr ?_; (case hd => rfl); (case hg => rfl); (case hr => first | (go_simp; done) | (go_simp; rfl)); intro gb593 hg w9 hbox hb; have n0_ := Aside0.mk (blk_below (g := gb592) (o := .cells #[.int .i64 a0_0, .slice A0_1 l0_1.length c0_1, .slice A0_2 l0_2.length c0_2] 36 (0, 0)) (bk_ BK592.out) hb); have n1_ := bt_ hb; have n2_ := Aside0.mk (hbox); have n3_ := Aside0.mk ((by rw [hg]; exact bz_ : w.heap.size ≤ gb593)); have n4_ := Aside0.mk ((by rw [hg]; exact bz_ : w.heap.size ≤ gb593)); have n5_ := Aside0.mk ((by rw [hg]; exact Nat.ne_of_lt (blk_lt (g := gb592) (o := .cells #[.int .i64 a0_0, .slice A0_1 l0_1.length c0_1, .slice A0_2 l0_2.length c0_2] 36 (0, 0)) (bk_ BK592.out)) : gb592 ≠ gb593)); have n6_ := Aside0.mk ((by rw [hg]; exact Nat.ne_of_gt (blk_lt (g := gb592) (o := .cells #[.int .i64 a0_0, .slice A0_1 l0_1.length c0_1, .slice A0_2 l0_2.length c0_2] 36 (0, 0)) (bk_ BK592.out)) : gb593 ≠ gb592)); clear BK592; clear HB; have BK592 := n0_; have HB := n1_; have BK593 := n2_; have GW593 := n3_; have GE593 := n4_; have NB592_593 := n5_; have NB593_592 := n6_; clear n0_ n1_ n2_ n3_ n4_ n5_ n6_; clear hb hbox hg; have hnb10 := NB592_593.out; have hnc10 := NB593_592.out; obtain ⟨hcz11_0, hcz11_1, hcz11_2⟩ := cz3_ BK592.out; obtain ⟨hfz11_0, hfz11_1, hfz11_2⟩ := fz3_ BK592.out; have p594 : 0 ≤ (a2 : Int) := of_decide_eq_true as_; have q594 : a2 < (l0_2.length : Int) := of_decide_eq_true as_; obtain ⟨ad594, e594, hx594_0, hx594_1, hx594_2, hx594_3, hx594_4, hx594_5, hx594_6, hx594_7, hx594_8⟩ := at_T68 HR0_2.out a2 p594 q594; cases e594; replace hx594_0 := cm_ HB.out hx594_0; replace hx594_1 := cm_ HB.out hx594_1; replace hx594_2 := cm_ HB.out hx594_2; replace hx594_3 := cm_ HB.out hx594_3; replace hx594_4 := cm_ HB.out hx594_4; replace hx594_5 := cm_ HB.out hx594_5; replace hx594_6 := cm_ HB.out hx594_6; replace hx594_7 := cm_ HB.out hx594_7; replace hx594_8 := cm_ HB.out hx594_8; replace p594 := eq_true p594; replace q594 := eq_true q594; obtain ⟨hcz12_0, hcz12_1, hcz12_2, hcz12_3, hcz12_4, hcz12_5, hcz12_6⟩ := cz7_ BK593.out; obtain ⟨hfz12_0, hfz12_1, hfz12_2, hfz12_3, hfz12_4, hfz12_5, hfz12_6⟩ := fz7_ BK593.out) | ((with_reducible refine gate_callee (f := 42) rfl ?_); refine gl_ (some 18) Try.func42 #[.slice A1_6 l1_6.length c1_6, .int .i64 a2] ?_; (with_reducible refine (computuslaw21_count.calls k _ _ l1_6 a2 t595 _ ?side1 ?side2 A7.out).mono ?_); (case side1 => repeat (first | exact (Kd.C_below HR1_6.out HB.out) | (with_reducible refine Kd.C_alloc ?_ _) | (with_reducible refine Kd.C_drewN ?_ _) | (with_reducible refine Kd.C_drew ?_))); (case side2 => exact HC1_6.out); rintro e w' ⟨rfl, ⟨nd, rfl⟩⟩; refine ⟨_, rfl, ?_⟩))
  go_ret
  exact rt_
 rw [if_neg c6] at H
 have c6b0 : (((rd_T68 l0_2 a2).f2) == 1) = false := beq_eq_false_iff_ne.mpr c6
 have c6b1 : (((rd_T68 l0_2 a2).f2) != 1) = true := bne_iff_ne.mpr c6
 by_cases c13 : ((rd_T68 l0_2 a2).f2) = 2
 rotate_left
 ·rw [if_neg c13] at H
  have c13b0 : (((rd_T68 l0_2 a2).f2) == 2) = false := beq_eq_false_iff_ne.mpr c13
  have c13b1 : (((rd_T68 l0_2 a2).f2) != 2) = true := bne_iff_ne.mpr c13
  obtain ⟨t597, A20, H⟩ := bs_ H
  obtain rfl := Option.some.inj H
  go_enter Try.func26, Try.ntmps26
  go_wp2_with (first | ((with_reducible refine gate_dst (N := 3) rfl ?_); refine bx_ (w := w) (N := 3) (cs := #[.int .i64 a0_0, .slice A0_1 l0_1.length c0_1, .slice A0_2 l0_2.length c0_2]) (t := 36) ?_; intro gb592 w21 BK592 n0_ GW592 GE592; clear HB; have HB := n0_; clear n0_) | ((with_reducible refine gate_dst (N := 4) rfl ?_); refine box_event ?hg (N := 4) ?hd (cs := #[.int .i64 a1_0, .int .i64 a1_1, .int .i64 a1_2, .string a1_3, .slice A1_4 l1_4.length c1_4, .slice A1_5 l1_5.length c1_5, .slice A1_6 l1_6.length c1_6]) (t := 42) ?hr ?_; (case hd => rfl); (case hg => rfl); (case hr => first | (go_simp; done) | (go_simp; rfl)); intro gb593 hg w22 hbox hb; have n0_ := Aside0.mk (blk_below (g := gb592) (o := .cells #[.int .i64 a0_0, .slice A0_1 l0_1.length c0_1, .slice A0_2 l0_2.length c0_2] 36 (0, 0)) (bk_ BK592.out) hb); have n1_ := bt_ hb; have n2_ := Aside0.mk (hbox); have n3_ := Aside0.mk ((by rw [hg]; exact bz_ : w.heap.size ≤ gb593)); have n4_ := Aside0.mk ((by rw [hg]; exact bz_ : w.heap.size ≤ gb593)); have n5_ := Aside0.mk ((by rw [hg]; exact Nat.ne_of_lt (blk_lt (g := gb592) (o := .cells #[.int .i64 a0_0, .slice A0_1 l0_1.length c0_1, .slice A0_2 l0_2.length c0_2] 36 (0, 0)) (bk_ BK592.out)) : gb592 ≠ gb593)); have n6_ := Aside0.mk ((by rw [hg]; exact Nat.ne_of_gt (blk_lt (g := gb592) (o := .cells #[.int .i64 a0_0, .slice A0_1 l0_1.length c0_1, .slice A0_2 l0_2.length c0_2] 36 (0, 0)) (bk_ BK592.out)) : gb593 ≠ gb592)); clear BK592; clear HB; have BK592 := n0_; have HB := n1_; have BK593 := n2_; have GW593 := n3_; have GE593 := n4_; have NB592_593 := n5_; have NB593_592 := n6_; clear n0_ n1_ n2_ n3_ n4_ n5_ n6_; clear hb hbox hg; have hnb23 := NB592_593.out; have hnc23 := NB593_592.out; obtain ⟨hcz24_0, hcz24_1, hcz24_2⟩ := cz3_ BK592.out; obtain ⟨hfz24_0, hfz24_1, hfz24_2⟩ := fz3_ BK592.out; have p594 : 0 ≤ (a2 : Int) := of_decide_eq_true as_; have q594 : a2 < (l0_2.length : Int) := of_decide_eq_true as_; obtain ⟨ad594, e594, hx594_0, hx594_1, hx594_2, hx594_3, hx594_4, hx594_5, hx594_6, hx594_7, hx594_8⟩ := at_T68 HR0_2.out a2 p594 q594; cases e594; replace hx594_0 := cm_ HB.out hx594_0; replace hx594_1 := cm_ HB.out hx594_1; replace hx594_2 := cm_ HB.out hx594_2; replace hx594_3 := cm_ HB.out hx594_3; replace hx594_4 := cm_ HB.out hx594_4; replace hx594_5 := cm_ HB.out hx594_5; replace hx594_6 := cm_ HB.out hx594_6; replace hx594_7 := cm_ HB.out hx594_7; replace hx594_8 := cm_ HB.out hx594_8; replace p594 := eq_true p594; replace q594 := eq_true q594; obtain ⟨hcz25_0, hcz25_1, hcz25_2, hcz25_3, hcz25_4, hcz25_5, hcz25_6⟩ := cz7_ BK593.out; obtain ⟨hfz25_0, hfz25_1, hfz25_2, hfz25_3, hfz25_4, hfz25_5, hfz25_6⟩ := fz7_ BK593.out) | ((with_reducible refine gate_callee (f := 42) rfl ?_); refine gl_ (some 30) Try.func42 #[.slice A1_5 l1_5.length c1_5, .int .i64 a2] ?_; (with_reducible refine (computuslaw21_count.calls k _ _ l1_5 a2 t597 _ ?side1 ?side2 A20.out).mono ?_); (case side1 => repeat (first | exact (Kd.C_below HR1_5.out HB.out) | (with_reducible refine Kd.C_alloc ?_ _) | (with_reducible refine Kd.C_drewN ?_ _) | (with_reducible refine Kd.C_drew ?_))); (case side2 => exact HC1_5.out); rintro e w' ⟨rfl, ⟨nd, rfl⟩⟩; refine ⟨_, rfl, ?_⟩))
  go_ret
  exact rt_
 rw [if_pos c13] at H
 have c13b0 : (((rd_T68 l0_2 a2).f2) == 2) = true := beq_iff_eq.mpr c13
 have c13b1 : (((rd_T68 l0_2 a2).f2) != 2) = false := bne_eq_false_iff_eq.mpr c13
 clear c13
 obtain ⟨t596, A14, H⟩ := bs_ H
 obtain rfl := Option.some.inj H
 go_enter Try.func26, Try.ntmps26
 go_wp2_with (first | ((with_reducible refine gate_dst (N := 3) rfl ?_); refine bx_ (w := w) (N := 3) (cs := #[.int .i64 a0_0, .slice A0_1 l0_1.length c0_1, .slice A0_2 l0_2.length c0_2]) (t := 36) ?_; intro gb592 w15 BK592 n0_ GW592 GE592; clear HB; have HB := n0_; clear n0_) | ((with_reducible refine gate_dst (N := 4) rfl ?_); refine box_event ?hg (N := 4) ?hd (cs := #[.int .i64 a1_0, .int .i64 a1_1, .int .i64 a1_2, .string a1_3, .slice A1_4 l1_4.length c1_4, .slice A1_5 l1_5.length c1_5, .slice A1_6 l1_6.length c1_6]) (t := 42) ?hr ?_; (case hd => rfl); (case hg => rfl); (case hr => first | (go_simp; done) | (go_simp; rfl)); intro gb593 hg w16 hbox hb; have n0_ := Aside0.mk (blk_below (g := gb592) (o := .cells #[.int .i64 a0_0, .slice A0_1 l0_1.length c0_1, .slice A0_2 l0_2.length c0_2] 36 (0, 0)) (bk_ BK592.out) hb); have n1_ := bt_ hb; have n2_ := Aside0.mk (hbox); have n3_ := Aside0.mk ((by rw [hg]; exact bz_ : w.heap.size ≤ gb593)); have n4_ := Aside0.mk ((by rw [hg]; exact bz_ : w.heap.size ≤ gb593)); have n5_ := Aside0.mk ((by rw [hg]; exact Nat.ne_of_lt (blk_lt (g := gb592) (o := .cells #[.int .i64 a0_0, .slice A0_1 l0_1.length c0_1, .slice A0_2 l0_2.length c0_2] 36 (0, 0)) (bk_ BK592.out)) : gb592 ≠ gb593)); have n6_ := Aside0.mk ((by rw [hg]; exact Nat.ne_of_gt (blk_lt (g := gb592) (o := .cells #[.int .i64 a0_0, .slice A0_1 l0_1.length c0_1, .slice A0_2 l0_2.length c0_2] 36 (0, 0)) (bk_ BK592.out)) : gb593 ≠ gb592)); clear BK592; clear HB; have BK592 := n0_; have HB := n1_; have BK593 := n2_; have GW593 := n3_; have GE593 := n4_; have NB592_593 := n5_; have NB593_592 := n6_; clear n0_ n1_ n2_ n3_ n4_ n5_ n6_; clear hb hbox hg; have hnb17 := NB592_593.out; have hnc17 := NB593_592.out; obtain ⟨hcz18_0, hcz18_1, hcz18_2⟩ := cz3_ BK592.out; obtain ⟨hfz18_0, hfz18_1, hfz18_2⟩ := fz3_ BK592.out; have p594 : 0 ≤ (a2 : Int) := of_decide_eq_true as_; have q594 : a2 < (l0_2.length : Int) := of_decide_eq_true as_; obtain ⟨ad594, e594, hx594_0, hx594_1, hx594_2, hx594_3, hx594_4, hx594_5, hx594_6, hx594_7, hx594_8⟩ := at_T68 HR0_2.out a2 p594 q594; cases e594; replace hx594_0 := cm_ HB.out hx594_0; replace hx594_1 := cm_ HB.out hx594_1; replace hx594_2 := cm_ HB.out hx594_2; replace hx594_3 := cm_ HB.out hx594_3; replace hx594_4 := cm_ HB.out hx594_4; replace hx594_5 := cm_ HB.out hx594_5; replace hx594_6 := cm_ HB.out hx594_6; replace hx594_7 := cm_ HB.out hx594_7; replace hx594_8 := cm_ HB.out hx594_8; replace p594 := eq_true p594; replace q594 := eq_true q594; obtain ⟨hcz19_0, hcz19_1, hcz19_2, hcz19_3, hcz19_4, hcz19_5, hcz19_6⟩ := cz7_ BK593.out; obtain ⟨hfz19_0, hfz19_1, hfz19_2, hfz19_3, hfz19_4, hfz19_5, hfz19_6⟩ := fz7_ BK593.out) | ((with_reducible refine gate_callee (f := 42) rfl ?_); refine gl_ (some 25) Try.func42 #[.slice A1_4 l1_4.length c1_4, .int .i64 a2] ?_; (with_reducible refine (computuslaw21_count.calls k _ _ l1_4 a2 t596 _ ?side1 ?side2 A14.out).mono ?_); (case side1 => repeat (first | exact (Kd.C_below HR1_4.out HB.out) | (with_reducible refine Kd.C_alloc ?_ _) | (with_reducible refine Kd.C_drewN ?_ _) | (with_reducible refine Kd.C_drew ?_))); (case side2 => exact HC1_4.out); rintro e w' ⟨rfl, ⟨nd, rfl⟩⟩; refine ⟨_, rfl, ?_⟩))
 go_ret
 exact rt_
end Go.Proofs.Ytopfjjdkffdjpaa.Q
end
