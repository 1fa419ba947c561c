/- What is proved: what the statement OccurrenceDisplacesSaid needs, part 4 of 6; the last part proves the statement. No condition. -/
import Derived.Test.YtopfjjdkffdjpaaZODs2
set_option maxHeartbeats 8000000
set_option maxRecDepth 100000
set_option linter.unusedVariables false
set_option linter.unusedSimpArgs false
section
namespace Go.Proofs.Ytopfjjdkffdjpaa.Q
open Go.RowKit Go.Proofs.YtopfjjdkffdjpaaW.PrintWords Go.Proofs.YtopfjjdkffdjpaaW.PrintLast Go.Proofs.YtopfjjdkffdjpaaW.PrintMore
attribute [local go_sem] max2_int min2_int max_two min_two max_three min_three max_four min_four
def computusref09_FullMoon.l0 : Nat → Int → Int → Int → Option (Int × Int × Int)
 | 0, _, _, _ => none
 | k + 1, x0, x6, x8 => if x8 < 40 then ((computusref05_FromDay.f k x0 (wrap64 (x6 - 13))).bind fun bt371 => ((computusref09_NewMoon.f k x0 bt371.1 bt371.2.1 bt371.2.2.1).bind fun t376 => (if t376 = true then ((computusref05_FromDay.f k x0 x6).bind fun bt377 => (some (bt377.1, bt377.2.1, bt377.2.2.1))) else (computusref09_FullMoon.l0 k x0 (wrap64 (x6 + 1)) (wrap64 (x8 + 1)))))) else ((computusref05_FromDay.f k x0 x6).bind fun bt366 => (some (bt366.1, bt366.2.1, bt366.2.2.1)))
def computusref09_FullMoon.f (k : Nat) (a0 : Int) (a1 : Int) : Option (Int × Int × Int) := (computusref05_ToDay.f k a0 a1 3 21).bind fun bt364 => (computusref09_FullMoon.l0 k a0 bt364.1 0)
theorem computusref09_FullMoon.calls (k : Nat) (a0 : Int) (a1 : Int) (r1 : Int) (r2 : Int) (r3 : Int) (w : World) (h : computusref09_FullMoon.f k a0 a1 = some (r1, r2, r3)) :
  Calls Try.prog 68 #[.int .i64 a0, .int .i64 a1] w fun e w' => e = .returned (.agg #[.int .i64 r1, .int .i64 r2, .int .i64 r3]) ∧ Below w.heap.size w w' := by
 have hu98 := Try.underlying98
 have HB := am_ (Below.refl w.heap.size w)
 have H := h
 clear h
 unfold computusref09_FullMoon.f at H
 obtain ⟨⟨t364, t365⟩, A3, H⟩ := bs_ H
 dsimp only at H
 have H' := am_ H
 clear H
 go_enter Try.func68, Try.ntmps68
 go_wp2_with (first | ((with_reducible refine gate_dst (N := 4) rfl ?_); refine bx_ (w := w) (N := 4) (cs := #[.int .i64 0, .int .i64 0, .int .i64 0]) (t := 98) ?_; intro gb362 w4 BK362 n0_ GW362 GE362; clear HB; have HB := n0_; clear n0_) | ((with_reducible refine gate_dst (N := 5) rfl ?_); refine be_ (N := 5) (cs := #[.int .i64 0, .int .i64 0, .int .i64 0]) (t := 98) ?_; intro gb363 hg w5 hbox hb; have BK363 := am_ (hbox); have GW363 := gw_ (w := w) hg; have GE363 := gw_ (w := w) hg; replace HB := bt_ hb; have NB362_363 := ne_ hg BK362; have NB363_362 := nf_ hg BK362; replace BK362 := bw_ BK362 hb; clear hb hbox hg; have hnb6 := NB363_362.out; have hnc6 := NB362_363.out; obtain ⟨hcz7_0, hcz7_1, hcz7_2⟩ := cz3_ BK363.out; obtain ⟨hfz7_0, hfz7_1, hfz7_2⟩ := fz3_ BK363.out) | ((with_reducible refine gate_callee (f := 67) rfl ?_); refine gl_ (some 18) Try.func67 #[.int .i64 a0, .agg #[.int .i64 a1, .int .i64 3, .int .i64 21]] ?_; (with_reducible refine (computusref05_ToDay.calls k a0 a1 3 21 t364 t365 _ A3.out).mono ?_); rintro e w8 ⟨rfl, hb⟩; refine ⟨_, rfl, ?_⟩; replace BK362 := am_ (blk_below (g := gb362) (o := .cells #[.int .i64 0, .int .i64 0, .int .i64 0] 98 (0, 0)) (by refine bp_ ?_; refine blk_far ?_ NB362_363.out _; refine bp_ ?_; refine blk_far ?_ NB362_363.out _; refine bp_ ?_; refine blk_far ?_ NB362_363.out _; exact bk_ BK362.out) hb); replace BK363 := am_ (blk_below (g := gb363) (o := .cells #[.int .i64 a1, .int .i64 3, .int .i64 21] 98 (0, 0)) (by refine bp_ ?_; refine blk_put (cs := #[.int .i64 a1, .int .i64 3, .int .i64 0]) ?_ 2 _ rfl; refine bp_ ?_; refine blk_put (cs := #[.int .i64 a1, .int .i64 0, .int .i64 0]) ?_ 1 _ rfl; refine bp_ ?_; refine blk_put (cs := #[.int .i64 0, .int .i64 0, .int .i64 0]) ?_ 0 _ rfl; exact bk_ BK363.out) hb); replace HB := bt_ hb; (try clear hb); (try clear hi)))
 go_loopg [6, 8] k (fun kq v6 v8 w' => ∃ (x6_1 : Int) (x8_1 : Int), v6 = .int .i64 x6_1 ∧ v8 = .int .i64 x8_1 ∧ Aside0 (computusref09_FullMoon.l0 kq a0 x6_1 x8_1 = some (r1, r2, r3)) ∧ Aside0 (kq ≤ k) ∧ Aside0 (w'.heap[gb362]? = some (.cells #[.int .i64 0, .int .i64 0, .int .i64 0] 98 (0, 0))) ∧ Aside0 (w'.heap[gb363]? = some (.cells #[.int .i64 a1, .int .i64 3, .int .i64 21] 98 (0, 0))) ∧ Aside0 (Below w.heap.size w w'))
 case atStart => exact ⟨(t364), (0), rs_, rs_, H', ⟨Nat.le_refl _⟩, ⟨bk_ BK362.out⟩, ⟨bk_ BK363.out⟩, ⟨bh_⟩⟩
 case round =>
  clear H'
  obtain ⟨x6_1, x8_1, rfl, rfl, HA, HK1, BK362, BK363, HB⟩ := hrel
  cases gk with
  | zero => exact absurd HA.out (by simp [computusref09_FullMoon.l0])
  | succ k1 =>
   have H := HA.out
   clear HA
   simp only [computusref09_FullMoon.l0] at H
   by_cases c9 : x8_1 < 40
   rotate_left
   ·rw [if_neg c9] at H
    have c9b0 : decide (x8_1 < 40) = false := decide_eq_false c9
    clear c9
    obtain ⟨⟨t366, t367, t368, t369⟩, A34, H⟩ := bs_ H
    dsimp only at H
    simp only [Option.some.injEq, Prod.mk.injEq] at H
    obtain ⟨rfl, rfl, rfl⟩ := H
    go_wp2_with (first | ((with_reducible refine gate_callee (f := 78) rfl ?_); refine gl_ (some 40) Try.func78 #[.int .i64 a0, .int .i64 x6_1] ?_; (with_reducible refine (computusref05_FromDay.calls k1 a0 x6_1 t366 t367 t368 t369 _ A34.out).mono ?_); rintro e w35 ⟨rfl, hb⟩; refine ⟨_, rfl, ?_⟩; replace BK362 := bw_ BK362 hb; replace BK363 := bw_ BK363 hb; replace HB := bt_ hb; (try clear hb); (try clear hi)) | ((with_reducible refine gate_dst (N := 11) rfl ?_); refine be_ (N := 11) (cs := #[.int .i64 0, .int .i64 0, .int .i64 0]) (t := 98) ?_; intro gb370 hg w36 hbox hb; have BK370 := am_ (hbox); have GW370 := gw_ (w := w) hg; have GE370 := gw_ (w := w) hg; replace HB := bt_ hb; have NB362_370 := ne_ hg BK362; have NB370_362 := nf_ hg BK362; replace BK362 := bw_ BK362 hb; have NB363_370 := ne_ hg BK363; have NB370_363 := nf_ hg BK363; replace BK363 := bw_ BK363 hb; clear hb hbox hg; have hnb37 := NB370_362.out; have hnc37 := NB362_370.out; have hnb38 := NB370_363.out; have hnc38 := NB363_370.out; obtain ⟨hcz39_0, hcz39_1, hcz39_2⟩ := cz3_ BK370.out; obtain ⟨hfz39_0, hfz39_1, hfz39_2⟩ := fz3_ BK370.out; have hnb40 := NB362_363.out; have hnc40 := NB363_362.out; obtain ⟨hcz41_0, hcz41_1, hcz41_2⟩ := cz3_ BK362.out; obtain ⟨hfz41_0, hfz41_1, hfz41_2⟩ := fz3_ BK362.out))
    refine bodyPost_ret (results_cell_row rfl _ _ gb362 98 #[.int .i64 t366, .int .i64 t367, .int .i64 t368] (0, 0) _ rfl (by refine bp_ ?_; refine blk_put (cs := #[.int .i64 t366, .int .i64 t367, .int .i64 0]) ?_ 2 _ rfl; refine bp_ ?_; refine blk_put (cs := #[.int .i64 t366, .int .i64 0, .int .i64 0]) ?_ 1 _ rfl; refine bp_ ?_; refine blk_put (cs := #[.int .i64 0, .int .i64 0, .int .i64 0]) ?_ 0 _ rfl; refine bp_ ?_; refine blk_far ?_ NB362_370.out _; refine bp_ ?_; refine blk_far ?_ NB362_370.out _; refine bp_ ?_; refine blk_far ?_ NB362_370.out _; exact bk_ BK362.out) Try.underlying98 rfl (by kernel_rfl)) rfl ?_
    exact rt_
   rw [if_pos c9] at H
   have c9b0 : decide (x8_1 < 40) = true := decide_eq_true c9
   clear c9
   obtain ⟨⟨t371, t372, t373, t374⟩, A10, H⟩ := bs_ H
   dsimp only at H
   obtain ⟨t376, A11, H⟩ := bs_ H
   by_cases c12 : t376 = true
   rotate_left
   ·replace c12 := Bool.eq_false_iff.mpr c12
    subst c12
    replace H := if_ H
    have H' := am_ H
    clear H
    go_wp2_with (first | ((with_reducible refine gate_callee (f := 78) rfl ?_); refine gl_ (some 29) Try.func78 #[.int .i64 a0, .int .i64 (wrap64 (x6_1 - 13))] ?_; (with_reducible refine (computusref05_FromDay.calls k1 a0 (wrap64 (x6_1 - 13)) t371 t372 t373 t374 _ A10.out).mono ?_); rintro e w28 ⟨rfl, hb⟩; refine ⟨_, rfl, ?_⟩; replace BK362 := bw_ BK362 hb; replace BK363 := bw_ BK363 hb; replace HB := bt_ hb; (try clear hb); (try clear hi)) | ((with_reducible refine gate_dst (N := 9) rfl ?_); refine be_ (N := 9) (cs := #[.int .i64 0, .int .i64 0, .int .i64 0]) (t := 98) ?_; intro gb375 hg w29 hbox hb; have BK375 := am_ (hbox); have GW375 := gw_ (w := w) hg; have GE375 := gw_ (w := w) hg; replace HB := bt_ hb; have NB362_375 := ne_ hg BK362; have NB375_362 := nf_ hg BK362; replace BK362 := bw_ BK362 hb; have NB363_375 := ne_ hg BK363; have NB375_363 := nf_ hg BK363; replace BK363 := bw_ BK363 hb; clear hb hbox hg; have hnb30 := NB375_362.out; have hnc30 := NB362_375.out; have hnb31 := NB375_363.out; have hnc31 := NB363_375.out; obtain ⟨hcz32_0, hcz32_1, hcz32_2⟩ := cz3_ BK375.out; obtain ⟨hfz32_0, hfz32_1, hfz32_2⟩ := fz3_ BK375.out) | ((with_reducible refine gate_callee (f := 79) rfl ?_); refine gl_ (some 34) Try.func79 #[.int .i64 a0, .agg #[.int .i64 t371, .int .i64 t372, .int .i64 t373]] ?_; (with_reducible refine (computusref09_NewMoon.calls k1 a0 t371 t372 t373 false _ A11.out).mono ?_); rintro e w33 ⟨rfl, hb⟩; refine ⟨_, rfl, ?_⟩; replace BK362 := am_ (blk_below (g := gb362) (o := .cells #[.int .i64 0, .int .i64 0, .int .i64 0] 98 (0, 0)) (by refine bp_ ?_; refine blk_far ?_ NB362_375.out _; refine bp_ ?_; refine blk_far ?_ NB362_375.out _; refine bp_ ?_; refine blk_far ?_ NB362_375.out _; exact bk_ BK362.out) hb); replace BK363 := am_ (blk_below (g := gb363) (o := .cells #[.int .i64 a1, .int .i64 3, .int .i64 21] 98 (0, 0)) (by refine bp_ ?_; refine blk_far ?_ NB363_375.out _; refine bp_ ?_; refine blk_far ?_ NB363_375.out _; refine bp_ ?_; refine blk_far ?_ NB363_375.out _; exact bk_ BK363.out) hb); replace BK375 := am_ (blk_below (g := gb375) (o := .cells #[.int .i64 t371, .int .i64 t372, .int .i64 t373] 98 (0, 0)) (by refine bp_ ?_; refine blk_put (cs := #[.int .i64 t371, .int .i64 t372, .int .i64 0]) ?_ 2 _ rfl; refine bp_ ?_; refine blk_put (cs := #[.int .i64 t371, .int .i64 0, .int .i64 0]) ?_ 1 _ rfl; refine bp_ ?_; refine blk_put (cs := #[.int .i64 0, .int .i64 0, .int .i64 0]) ?_ 0 _ rfl; exact bk_ BK375.out) hb); replace HB := bt_ hb; (try clear hb); (try clear hi)))
    go_roundg k1
    case measure => have := HK1.out; omega
    case rel => exact ⟨(wrap64 (x6_1 + 1)), (wrap64 (x8_1 + 1)), rs_, rs_, H', ⟨by have := HK1.out; omega⟩, ⟨bk_ BK362.out⟩, ⟨bk_ BK363.out⟩, ⟨bh_⟩⟩
   subst c12
   replace H := it_ H
   obtain ⟨⟨t377, t378, t379, t380⟩, A13, H⟩ := bs_ H
   dsimp only at H
   simp only [Option.some.injEq, Prod.mk.injEq] at H
   obtain ⟨rfl, rfl, rfl⟩ := H
   go_wp2_with (first | ((with_reducible refine gate_callee (f := 78) rfl ?_); refine gl_ (some 29) Try.func78 #[.int .i64 a0, .int .i64 (wrap64 (x6_1 - 13))] ?_; (with_reducible refine (computusref05_FromDay.calls k1 a0 (wrap64 (x6_1 - 13)) t371 t372 t373 t374 _ A10.out).mono ?_); rintro e w14 ⟨rfl, hb⟩; refine ⟨_, rfl, ?_⟩; replace BK362 := bw_ BK362 hb; replace BK363 := bw_ BK363 hb; replace HB := bt_ hb; (try clear hb); (try clear hi)) | ((with_reducible refine gate_dst (N := 9) rfl ?_); refine be_ (N := 9) (cs := #[.int .i64 0, .int .i64 0, .int .i64 0]) (t := 98) ?_; intro gb375 hg w15 hbox hb; have BK375 := am_ (hbox); have GW375 := gw_ (w := w) hg; have GE375 := gw_ (w := w) hg; replace HB := bt_ hb; have NB362_375 := ne_ hg BK362; have NB375_362 := nf_ hg BK362; replace BK362 := bw_ BK362 hb; have NB363_375 := ne_ hg BK363; have NB375_363 := nf_ hg BK363; replace BK363 := bw_ BK363 hb; clear hb hbox hg; have hnb16 := NB375_362.out; have hnc16 := NB362_375.out; have hnb17 := NB375_363.out; have hnc17 := NB363_375.out; obtain ⟨hcz18_0, hcz18_1, hcz18_2⟩ := cz3_ BK375.out; obtain ⟨hfz18_0, hfz18_1, hfz18_2⟩ := fz3_ BK375.out) | ((with_reducible refine gate_callee (f := 79) rfl ?_); refine gl_ (some 34) Try.func79 #[.int .i64 a0, .agg #[.int .i64 t371, .int .i64 t372, .int .i64 t373]] ?_; (with_reducible refine (computusref09_NewMoon.calls k1 a0 t371 t372 t373 true _ A11.out).mono ?_); rintro e w19 ⟨rfl, hb⟩; refine ⟨_, rfl, ?_⟩; replace BK362 := am_ (blk_below (g := gb362) (o := .cells #[.int .i64 0, .int .i64 0, .int .i64 0] 98 (0, 0)) (by refine bp_ ?_; refine blk_far ?_ NB362_375.out _; refine bp_ ?_; refine blk_far ?_ NB362_375.out _; refine bp_ ?_; refine blk_far ?_ NB362_375.out _; exact bk_ BK362.out) hb); replace BK363 := am_ (blk_below (g := gb363) (o := .cells #[.int .i64 a1, .int .i64 3, .int .i64 21] 98 (0, 0)) (by refine bp_ ?_; refine blk_far ?_ NB363_375.out _; refine bp_ ?_; refine blk_far ?_ NB363_375.out _; refine bp_ ?_; refine blk_far ?_ NB363_375.out _; exact bk_ BK363.out) hb); replace BK375 := am_ (blk_below (g := gb375) (o := .cells #[.int .i64 t371, .int .i64 t372, .int .i64 t373] 98 (0, 0)) (by refine bp_ ?_; refine blk_put (cs := #[.int .i64 t371, .int .i64 t372, .int .i64 0]) ?_ 2 _ rfl; refine bp_ ?_; refine blk_put (cs := #[.int .i64 t371, .int .i64 0, .int .i64 0]) ?_ 1 _ rfl; refine bp_ ?_; refine blk_put (cs := #[.int .i64 0, .int .i64 0, .int .i64 0]) ?_ 0 _ rfl; exact bk_ BK375.out) hb); replace HB := bt_ hb; (try clear hb); (try clear hi)) | ((with_reducible refine gate_callee (f := 78) rfl ?_); refine gl_ (some 40) Try.func78 #[.int .i64 a0, .int .i64 x6_1] ?_; (with_reducible refine (computusref05_FromDay.calls k1 a0 x6_1 t377 t378 t379 t380 _ A13.out).mono ?_); rintro e w20 ⟨rfl, hb⟩; refine ⟨_, rfl, ?_⟩; replace BK362 := bw_ BK362 hb; replace BK363 := bw_ BK363 hb; replace BK375 := bw_ BK375 hb; replace HB := bt_ hb; (try clear hb); (try clear hi)) | ((with_reducible refine gate_dst (N := 11) rfl ?_); refine be_ (N := 11) (cs := #[.int .i64 0, .int .i64 0, .int .i64 0]) (t := 98) ?_; intro gb381 hg w21 hbox hb; have BK381 := am_ (hbox); have GW381 := gw_ (w := w) hg; have GE381 := gw_ (w := w) hg; replace HB := bt_ hb; have NB362_381 := ne_ hg BK362; have NB381_362 := nf_ hg BK362; replace BK362 := bw_ BK362 hb; have NB363_381 := ne_ hg BK363; have NB381_363 := nf_ hg BK363; replace BK363 := bw_ BK363 hb; have NB375_381 := ne_ hg BK375; have NB381_375 := nf_ hg BK375; replace BK375 := bw_ BK375 hb; clear hb hbox hg; have hnb22 := NB381_362.out; have hnc22 := NB362_381.out; have hnb23 := NB381_363.out; have hnc23 := NB363_381.out; have hnb24 := NB381_375.out; have hnc24 := NB375_381.out; obtain ⟨hcz25_0, hcz25_1, hcz25_2⟩ := cz3_ BK381.out; obtain ⟨hfz25_0, hfz25_1, hfz25_2⟩ := fz3_ BK381.out; have hnb26 := NB362_363.out; have hnc26 := NB363_362.out; obtain ⟨hcz27_0, hcz27_1, hcz27_2⟩ := cz3_ BK362.out; obtain ⟨hfz27_0, hfz27_1, hfz27_2⟩ := fz3_ BK362.out))
   refine bodyPost_ret (results_cell_row rfl _ _ gb362 98 #[.int .i64 t377, .int .i64 t378, .int .i64 t379] (0, 0) _ rfl (by refine bp_ ?_; refine blk_put (cs := #[.int .i64 t377, .int .i64 t378, .int .i64 0]) ?_ 2 _ rfl; refine bp_ ?_; refine blk_put (cs := #[.int .i64 t377, .int .i64 0, .int .i64 0]) ?_ 1 _ rfl; refine bp_ ?_; refine blk_put (cs := #[.int .i64 0, .int .i64 0, .int .i64 0]) ?_ 0 _ rfl; refine bp_ ?_; refine blk_far ?_ NB362_381.out _; refine bp_ ?_; refine blk_far ?_ NB362_381.out _; refine bp_ ?_; refine blk_far ?_ NB362_381.out _; exact bk_ BK362.out) Try.underlying98 rfl (by kernel_rfl)) rfl ?_
   exact rt_
def computusref10_Day.l0 : Nat → Int → Option (Int)
 | 0, _ => none
 | k + 1, x5 => (computusref04_Of.f x5).bind fun t387 => (if t387 = 0 then (some x5) else (computusref10_Day.l0 k (wrap64 (x5 + 1))))
def computusref10_Day.f (k : Nat) (a0 : Int) (a1 : Int) : Option (Int) := (computusref09_FullMoon.f k a0 a1).bind fun bt382 => ((computusref05_ToDay.f k a0 bt382.1 bt382.2.1 bt382.2.2).bind fun bt385 => (computusref10_Day.l0 k (wrap64 (bt385.1 + 1))))
theorem computusref10_Day.calls (k : Nat) (a0 : Int) (a1 : Int) (r : Int) (w : World) (h : computusref10_Day.f k a0 a1 = some r) :
  Calls Try.prog 59 #[.int .i64 a0, .int .i64 a1] w fun e w' => e = .returned (.int .i64 r) ∧ Below w.heap.size w w' := by
 have HB := am_ (Below.refl w.heap.size w)
 have H := h
 clear h
 unfold computusref10_Day.f at H
 obtain ⟨⟨t382, t383, t384⟩, A3, H⟩ := bs_ H
 dsimp only at H
 obtain ⟨⟨t385, t386⟩, A4, H⟩ := bs_ H
 dsimp only at H
 have H' := am_ H
 clear H
 go_enter Try.func59, Try.ntmps59
 go_wp2_with (first | ((with_reducible refine gate_callee (f := 68) rfl ?_); refine gl_ (some 11) Try.func68 #[.int .i64 a0, .int .i64 a1] ?_; (with_reducible refine (computusref09_FullMoon.calls k a0 a1 t382 t383 t384 _ A3.out).mono ?_); rintro e w5 ⟨rfl, hb⟩; refine ⟨_, rfl, ?_⟩; replace HB := bt_ hb; (try clear hb); (try clear hi)) | ((with_reducible refine gate_callee (f := 67) rfl ?_); refine gl_ (some 12) Try.func67 #[.int .i64 a0, .agg #[.int .i64 t382, .int .i64 t383, .int .i64 t384]] ?_; (with_reducible refine (computusref05_ToDay.calls k a0 t382 t383 t384 t385 t386 _ A4.out).mono ?_); rintro e w6 ⟨rfl, hb⟩; refine ⟨_, rfl, ?_⟩; replace HB := bt_ hb; (try clear hb); (try clear hi)))
 go_loopg [5] k (fun kq v5 w' => ∃ (x5_1 : Int), v5 = .int .i64 x5_1 ∧ Aside0 (computusref10_Day.l0 kq x5_1 = some r) ∧ Aside0 (kq ≤ k) ∧ Aside0 (Below w.heap.size w w'))
 case atStart => exact ⟨(wrap64 (t385 + 1)), rs_, H', ⟨Nat.le_refl _⟩, ⟨bh_⟩⟩
 case round =>
  clear H'
  obtain ⟨x5_1, rfl, HA, HK1, HB⟩ := hrel
  cases gk with
  | zero => exact absurd HA.out (by simp [computusref10_Day.l0])
  | succ k1 =>
   have H := HA.out
   clear HA
   simp only [computusref10_Day.l0] at H
   obtain ⟨t387, A7, H⟩ := bs_ H
   by_cases c8 : t387 = 0
   ·rw [if_pos c8] at H
    have c8b0 : (t387 == 0) = true := beq_iff_eq.mpr c8
    have c8b1 : (t387 != 0) = false := bne_eq_false_iff_eq.mpr c8
    clear c8
    obtain rfl := Option.some.inj H
    go_wp2_with (first | ((with_reducible refine gate_callee (f := 47) rfl ?_); refine gl_ (some 18) Try.func47 #[.int .i64 x5_1] ?_; (with_reducible refine (computusref04_Of.calls x5_1 t387 _ A7.out).mono ?_); rintro e w' ⟨rfl, ⟨nd, rfl⟩⟩; refine ⟨_, rfl, ?_⟩))
    go_ret
    exact rt_
   rw [if_neg c8] at H
   have c8b0 : (t387 == 0) = false := beq_eq_false_iff_ne.mpr c8
   have c8b1 : (t387 != 0) = true := bne_iff_ne.mpr c8
   have H' := am_ H
   clear H
   go_wp2_with (first | ((with_reducible refine gate_callee (f := 47) rfl ?_); refine gl_ (some 18) Try.func47 #[.int .i64 x5_1] ?_; (with_reducible refine (computusref04_Of.calls x5_1 t387 _ A7.out).mono ?_); rintro e w' ⟨rfl, ⟨nd, rfl⟩⟩; refine ⟨_, rfl, ?_⟩))
   go_roundg k1
   case measure => have := HK1.out; omega
   case rel => exact ⟨(wrap64 (x5_1 + 1)), rs_, H', ⟨by have := HK1.out; omega⟩, ⟨bh_⟩⟩
def computusref04_fails.j0 : Nat → Int → Bool → Option (Int)
 | 0, _, _ => none
 | k + 1, x0, x10 => if x10 = true then (some 3) else (if x0 < (-1099511627776) then (some 1) else (if x0 > 1099511627776 then (some 1) else (some 0)))
def computusref04_fails.f (k : Nat) (a0 : Int) (a1 : Int) : Option (Int) := if a1 < 0 then (computusref04_fails.j0 k a0 true) else (computusref04_fails.j0 k a0 (decide (a1 > 6)))
theorem computusref04_fails.calls (k : Nat) (a0 : Int) (a1 : Int) (r : Int) (w : World) (h : computusref04_fails.f k a0 a1 = some r) :
  Calls Try.prog 80 #[.int .i64 a0, .int .i64 a1] w fun e w' => e = .returned (.int .i64 r) ∧ Drawn0 w w' := by
 have H := h
 clear h
 unfold computusref04_fails.f at H
 have HC3 := am_ H
 clear H
 go_enter Try.func80, Try.ntmps80
 go_upto_region 1 with (fail)
 go_cut [10] (fun v10 wc => ∃ (kq : Nat) (x10_2 : Bool), v10 = .bool x10_2 ∧ Aside0 (computusref04_fails.j0 kq a0 x10_2 = some r) ∧ Aside0 (kq ≤ k) ∧ Drawn0 w wc)
 case first =>
  have H := HC3.out
  clear HC3
  by_cases c4 : a1 < 0
  ·rw [if_pos c4] at H
   have c4b0 : decide (a1 < 0) = true := decide_eq_true c4
   clear c4
   (first | rw [c4b0] | (simp only [i64_w, i32_w]; rw [c4b0]) | skip)
   have H' := am_ H
   clear H
   go_wp2
   go_meet
   case rel => exact ⟨_, (true), rs_, H', ⟨by first | omega | exact Nat.le_refl _⟩, by repeat (first | exact Drawn0.refl _ | apply Drawn0.step)⟩
  rw [if_neg c4] at H
  have c4b0 : decide (a1 < 0) = false := decide_eq_false c4
  clear c4
  (first | rw [c4b0] | (simp only [i64_w, i32_w]; rw [c4b0]) | skip)
  have H' := am_ H
  clear H
  go_wp2
  go_meet
  case rel => exact ⟨_, (decide (a1 > 6)), rs_, H', ⟨by first | omega | exact Nat.le_refl _⟩, by repeat (first | exact Drawn0.refl _ | apply Drawn0.step)⟩
 case rest =>
  clear HC3
  obtain ⟨kq, x10_2, rfl, HA, HJ2, ⟨mc2, rfl⟩⟩ := hcut
  cases kq with
  | zero => exact absurd HA.out (by simp [computusref04_fails.j0])
  | succ kj2 =>
   have H := HA.out
   clear HA
   simp only [computusref04_fails.j0] at H
   by_cases c5 : x10_2 = true
   ·subst c5
    replace H := it_ H
    obtain rfl := Option.some.inj H
    go_wp2
    go_ret
    exact ⟨by first | rfl | (simp; done) | (simp [*]; done), by repeat (first | exact Drawn0.refl _ | apply Drawn0.step)⟩
   replace c5 := Bool.eq_false_iff.mpr c5
   subst c5
   replace H := if_ H
   by_cases c6 : a0 < (-1099511627776)
   ·rw [if_pos c6] at H
    have c6b0 : decide (a0 < (-1099511627776)) = true := decide_eq_true c6
    clear c6
    obtain rfl := Option.some.inj H
    go_wp2
    go_ret
    exact ⟨by first | rfl | (simp; done) | (simp [*]; done), by repeat (first | exact Drawn0.refl _ | apply Drawn0.step)⟩
   rw [if_neg c6] at H
   have c6b0 : decide (a0 < (-1099511627776)) = false := decide_eq_false c6
   clear c6
   by_cases c7 : a0 > 1099511627776
   ·rw [if_pos c7] at H
    have c7b0 : decide (1099511627776 < a0) = true := decide_eq_true c7
    clear c7
    obtain rfl := Option.some.inj H
    go_wp2
    go_ret
    exact ⟨by first | rfl | (simp; done) | (simp [*]; done), by repeat (first | exact Drawn0.refl _ | apply Drawn0.step)⟩
   rw [if_neg c7] at H
   have c7b0 : decide (1099511627776 < a0) = false := decide_eq_false c7
   clear c7
   obtain rfl := Option.some.inj H
   go_wp2
   go_ret
   exact ⟨by first | rfl | (simp; done) | (simp [*]; done), by repeat (first | exact Drawn0.refl _ | apply Drawn0.step)⟩
def computusref04_OnOrAfter.l0 : Nat → Int → Int → Option (Int × Int)
 | 0, _, _ => none
 | k + 1, x0, x1 => (computusref04_Of.f x0).bind fun t389 => (if t389 = x1 then (some (x0, 0)) else (computusref04_OnOrAfter.l0 k (wrap64 (x0 + 1)) x1))
def computusref04_OnOrAfter.f (k : Nat) (a0 : Int) (a1 : Int) : Option (Int × Int) := (computusref04_fails.f k a0 a1).bind fun t388 => (if t388 = 0 then (computusref04_OnOrAfter.l0 k a0 a1) else (some (0, t388)))
theorem computusref04_OnOrAfter.calls (k : Nat) (a0 : Int) (a1 : Int) (r1 : Int) (r2 : Int) (w : World) (h : computusref04_OnOrAfter.f k a0 a1 = some (r1, r2)) :
  Calls Try.prog 73 #[.int .i64 a0, .int .i64 a1] w fun e w' => e = .returned (.tuple #[.int .i64 r1, .int .i64 r2]) ∧ Drawn0 w w' := by
 have H := h
 clear h
 unfold computusref04_OnOrAfter.f at H
 obtain ⟨t388, A3, H⟩ := bs_ H
 by_cases c4 : t388 = 0
 rotate_left
 ·rw [if_neg c4] at H
  have c4b0 : (t388 == 0) = false := beq_eq_false_iff_ne.mpr c4
  have c4b1 : (t388 != 0) = true := bne_iff_ne.mpr c4
  simp only [Option.some.injEq, Prod.mk.injEq] at H
  obtain ⟨rfl, rfl⟩ := H
  go_enter Try.func73, Try.ntmps73
  go_wp2_with (first | ((with_reducible refine gate_callee (f := 80) rfl ?_); refine gl_ (some 9) Try.func80 #[.int .i64 a0, .int .i64 a1] ?_; (with_reducible refine (computusref04_fails.calls k a0 a1 t388 _ A3.out).mono ?_); rintro e w' ⟨rfl, ⟨nd, rfl⟩⟩; refine ⟨_, rfl, ?_⟩))
  go_ret2
  exact ⟨by first | rfl | (simp; done) | (simp [*]; done), by repeat (first | exact Drawn0.refl _ | apply Drawn0.step)⟩
 rw [if_pos c4] at H
 have c4b0 : (t388 == 0) = true := beq_iff_eq.mpr c4
 have c4b1 : (t388 != 0) = false := bne_eq_false_iff_eq.mpr c4
 clear c4
 have H' := am_ H
 clear H
 go_enter Try.func73, Try.ntmps73
 go_wp2_with (first | ((with_reducible refine gate_callee (f := 80) rfl ?_); refine gl_ (some 9) Try.func80 #[.int .i64 a0, .int .i64 a1] ?_; (with_reducible refine (computusref04_fails.calls k a0 a1 t388 _ A3.out).mono ?_); rintro e w' ⟨rfl, ⟨nd, rfl⟩⟩; refine ⟨_, rfl, ?_⟩))
 go_loopg [0] k (fun kq v0 w' => ∃ (x0_1 : Int), v0 = .int .i64 x0_1 ∧ Aside0 (computusref04_OnOrAfter.l0 kq x0_1 a1 = some (r1, r2)) ∧ Aside0 (kq ≤ k) ∧ Drawn0 w w')
 case atStart => exact ⟨(a0), rs_, H', ⟨Nat.le_refl _⟩, by repeat (first | exact Drawn0.refl _ | apply Drawn0.step)⟩
 case round =>
  clear H'
  obtain ⟨x0_1, rfl, HA, HK1, ⟨m1, rfl⟩⟩ := hrel
  cases gk with
  | zero => exact absurd HA.out (by simp [computusref04_OnOrAfter.l0])
  | succ k1 =>
   have H := HA.out
   clear HA
   simp only [computusref04_OnOrAfter.l0] at H
   obtain ⟨t389, A5, H⟩ := bs_ H
   by_cases c6 : t389 = a1
   ·rw [if_pos c6] at H
    have c6b0 : (t389 == a1) = true := beq_iff_eq.mpr c6
    have c6b1 : (t389 != a1) = false := bne_eq_false_iff_eq.mpr c6
    clear c6
    simp only [Option.some.injEq, Prod.mk.injEq] at H
    obtain ⟨rfl, rfl⟩ := H
    go_wp2_with (first | ((with_reducible refine gate_callee (f := 47) rfl ?_); refine gl_ (some 14) Try.func47 #[.int .i64 x0_1] ?_; (with_reducible refine (computusref04_Of.calls x0_1 t389 _ A5.out).mono ?_); rintro e w' ⟨rfl, ⟨nd, rfl⟩⟩; refine ⟨_, rfl, ?_⟩))
    go_ret2
    exact ⟨by first | rfl | (simp; done) | (simp [*]; done), by repeat (first | exact Drawn0.refl _ | apply Drawn0.step)⟩
   rw [if_neg c6] at H
   have c6b0 : (t389 == a1) = false := beq_eq_false_iff_ne.mpr c6
   have c6b1 : (t389 != a1) = true := bne_iff_ne.mpr c6
   have H' := am_ H
   clear H
   go_wp2_with (first | ((with_reducible refine gate_callee (f := 47) rfl ?_); refine gl_ (some 14) Try.func47 #[.int .i64 x0_1] ?_; (with_reducible refine (computusref04_Of.calls x0_1 t389 _ A5.out).mono ?_); rintro e w' ⟨rfl, ⟨nd, rfl⟩⟩; refine ⟨_, rfl, ?_⟩))
   go_roundg k1
   case measure => have := HK1.out; omega
   case rel => exact ⟨(wrap64 (x0_1 + 1)), rs_, H', ⟨by have := HK1.out; omega⟩, by repeat (first | exact Drawn0.refl _ | apply Drawn0.step)⟩
def computusref04_OnOrBefore.l0 : Nat → Int → Int → Option (Int × Int)
 | 0, _, _ => none
 | k + 1, x0, x1 => (computusref04_Of.f x0).bind fun t391 => (if t391 = x1 then (some (x0, 0)) else (computusref04_OnOrBefore.l0 k (wrap64 (x0 - 1)) x1))
def computusref04_OnOrBefore.f (k : Nat) (a0 : Int) (a1 : Int) : Option (Int × Int) := (computusref04_fails.f k a0 a1).bind fun t390 => (if t390 = 0 then (computusref04_OnOrBefore.l0 k a0 a1) else (some (0, t390)))
theorem computusref04_OnOrBefore.calls (k : Nat) (a0 : Int) (a1 : Int) (r1 : Int) (r2 : Int) (w : World) (h : computusref04_OnOrBefore.f k a0 a1 = some (r1, r2)) :
  Calls Try.prog 74 #[.int .i64 a0, .int .i64 a1] w fun e w' => e = .returned (.tuple #[.int .i64 r1, .int .i64 r2]) ∧ Drawn0 w w' := by
 have H := h
 clear h
 unfold computusref04_OnOrBefore.f at H
 obtain ⟨t390, A3, H⟩ := bs_ H
 by_cases c4 : t390 = 0
 rotate_left
 ·rw [if_neg c4] at H
  have c4b0 : (t390 == 0) = false := beq_eq_false_iff_ne.mpr c4
  have c4b1 : (t390 != 0) = true := bne_iff_ne.mpr c4
  simp only [Option.some.injEq, Prod.mk.injEq] at H
  obtain ⟨rfl, rfl⟩ := H
  go_enter Try.func74, Try.ntmps74
  go_wp2_with (first | ((with_reducible refine gate_callee (f := 80) rfl ?_); refine gl_ (some 9) Try.func80 #[.int .i64 a0, .int .i64 a1] ?_; (with_reducible refine (computusref04_fails.calls k a0 a1 t390 _ A3.out).mono ?_); rintro e w' ⟨rfl, ⟨nd, rfl⟩⟩; refine ⟨_, rfl, ?_⟩))
  go_ret2
  exact ⟨by first | rfl | (simp; done) | (simp [*]; done), by repeat (first | exact Drawn0.refl _ | apply Drawn0.step)⟩
 rw [if_pos c4] at H
 have c4b0 : (t390 == 0) = true := beq_iff_eq.mpr c4
 have c4b1 : (t390 != 0) = false := bne_eq_false_iff_eq.mpr c4
 clear c4
 have H' := am_ H
 clear H
 go_enter Try.func74, Try.ntmps74
 go_wp2_with (first | ((with_reducible refine gate_callee (f := 80) rfl ?_); refine gl_ (some 9) Try.func80 #[.int .i64 a0, .int .i64 a1] ?_; (with_reducible refine (computusref04_fails.calls k a0 a1 t390 _ A3.out).mono ?_); rintro e w' ⟨rfl, ⟨nd, rfl⟩⟩; refine ⟨_, rfl, ?_⟩))
 go_loopg [0] k (fun kq v0 w' => ∃ (x0_1 : Int), v0 = .int .i64 x0_1 ∧ Aside0 (computusref04_OnOrBefore.l0 kq x0_1 a1 = some (r1, r2)) ∧ Aside0 (kq ≤ k) ∧ Drawn0 w w')
 case atStart => exact ⟨(a0), rs_, H', ⟨Nat.le_refl _⟩, by repeat (first | exact Drawn0.refl _ | apply Drawn0.step)⟩
 case round =>
  clear H'
  obtain ⟨x0_1, rfl, HA, HK1, ⟨m1, rfl⟩⟩ := hrel
  cases gk with
  | zero => exact absurd HA.out (by simp [computusref04_OnOrBefore.l0])
  | succ k1 =>
   have H := HA.out
   clear HA
   simp only [computusref04_OnOrBefore.l0] at H
   obtain ⟨t391, A5, H⟩ := bs_ H
   by_cases c6 : t391 = a1
   ·rw [if_pos c6] at H
    have c6b0 : (t391 == a1) = true := beq_iff_eq.mpr c6
    have c6b1 : (t391 != a1) = false := bne_eq_false_iff_eq.mpr c6
    clear c6
    simp only [Option.some.injEq, Prod.mk.injEq] at H
    obtain ⟨rfl, rfl⟩ := H
    go_wp2_with (first | ((with_reducible refine gate_callee (f := 47) rfl ?_); refine gl_ (some 14) Try.func47 #[.int .i64 x0_1] ?_; (with_reducible refine (computusref04_Of.calls x0_1 t391 _ A5.out).mono ?_); rintro e w' ⟨rfl, ⟨nd, rfl⟩⟩; refine ⟨_, rfl, ?_⟩))
    go_ret2
    exact ⟨by first | rfl | (simp; done) | (simp [*]; done), by repeat (first | exact Drawn0.refl _ | apply Drawn0.step)⟩
   rw [if_neg c6] at H
   have c6b0 : (t391 == a1) = false := beq_eq_false_iff_ne.mpr c6
   have c6b1 : (t391 != a1) = true := bne_iff_ne.mpr c6
   have H' := am_ H
   clear H
   go_wp2_with (first | ((with_reducible refine gate_callee (f := 47) rfl ?_); refine gl_ (some 14) Try.func47 #[.int .i64 x0_1] ?_; (with_reducible refine (computusref04_Of.calls x0_1 t391 _ A5.out).mono ?_); rintro e w' ⟨rfl, ⟨nd, rfl⟩⟩; refine ⟨_, rfl, ?_⟩))
   go_roundg k1
   case measure => have := HK1.out; omega
   case rel => exact ⟨(wrap64 (x0_1 - 1)), rs_, H', ⟨by have := HK1.out; omega⟩, by repeat (first | exact Drawn0.refl _ | apply Drawn0.step)⟩
mutual
def computusref04_Nth.j0 : Nat → Int → Int → Int → Bool → Option (Int × Int)
 | 0, _, _, _, _ => none
 | k + 1, x0, x1, x2, x31 => if x31 = true then (some (0, 3)) else (if x2 > 0 then ((computusref04_OnOrAfter.f k x0 x1).bind fun bt392 => (computusref04_Nth.l0 k x2 bt392.1 bt392.2 1)) else ((computusref04_OnOrBefore.f k x0 x1).bind fun bt394 => (computusref04_Nth.l1 k x2 bt394.1 bt394.2 (-1))))
def computusref04_Nth.l0 : Nat → Int → Int → Int → Int → Option (Int × Int)
 | 0, _, _, _, _ => none
 | k + 1, x2, x8, x9, x10 => if x10 < x2 then (if x9 = 0 then (computusref04_Nth.l0 k x2 (wrap64 (x8 + 7)) x9 (wrap64 (x10 + 1))) else (some (x8, x9))) else (some (x8, x9))
def computusref04_Nth.l1 : Nat → Int → Int → Int → Int → Option (Int × Int)
 | 0, _, _, _, _ => none
 | k + 1, x2, x11, x12, x13 => if x13 > x2 then (if x12 = 0 then (computusref04_Nth.l1 k x2 (wrap64 (x11 - 7)) x12 (wrap64 (x13 - 1))) else (some (x11, x12))) else (some (x11, x12))
end
def computusref04_Nth.f (k : Nat) (a0 : Int) (a1 : Int) (a2 : Int) : Option (Int × Int) := if a1 < 0 then (computusref04_Nth.j0 k a0 a1 a2 true) else (if a1 > 6 then (computusref04_Nth.j0 k a0 a1 a2 true) else (if a2 = 0 then (computusref04_Nth.j0 k a0 a1 a2 true) else (if a2 < (-1000) then (computusref04_Nth.j0 k a0 a1 a2 true) else (computusref04_Nth.j0 k a0 a1 a2 (decide (a2 > 1000))))))
theorem computusref04_Nth.calls (k : Nat) (a0 : Int) (a1 : Int) (a2 : Int) (r1 : Int) (r2 : Int) (w : World) (h : computusref04_Nth.f k a0 a1 a2 = some (r1, r2)) :
  Calls Try.prog 61 #[.int .i64 a0, .int .i64 a1, .int .i64 a2] w fun e w' => e = .returned (.tuple #[.int .i64 r1, .int .i64 r2]) ∧ Drawn0 w w' := by
 have H := h
 clear h
 unfold computusref04_Nth.f at H
 have HC4 := am_ H
 clear H
 go_enter Try.func61, Try.ntmps61
 go_upto_region 1 with (fail)
 go_cut [31] (fun v31 wc => ∃ (kq : Nat) (x31_3 : Bool), v31 = .bool x31_3 ∧ Aside0 (computusref04_Nth.j0 kq a0 a1 a2 x31_3 = some (r1, r2)) ∧ Aside0 (kq ≤ k) ∧ Drawn0 w wc)
 case first =>
  have H := HC4.out
  clear HC4
  by_cases c5 : a1 < 0
  ·rw [if_pos c5] at H
   have c5b0 : decide (a1 < 0) = true := decide_eq_true c5
   clear c5
   (first | rw [c5b0] | (simp only [i64_w, i32_w]; rw [c5b0]) | skip)
   have H' := am_ H
   clear H
   go_wp2
   go_meet
   case rel => exact ⟨_, (true), rs_, H', ⟨by first | omega | exact Nat.le_refl _⟩, by repeat (first | exact Drawn0.refl _ | apply Drawn0.step)⟩
  rw [if_neg c5] at H
  have c5b0 : decide (a1 < 0) = false := decide_eq_false c5
  clear c5
  (first | rw [c5b0] | (simp only [i64_w, i32_w]; rw [c5b0]) | skip)
  by_cases c6 : a1 > 6
  ·rw [if_pos c6] at H
   have c6b0 : decide (6 < a1) = true := decide_eq_true c6
   clear c6
   have H' := am_ H
   clear H
   go_wp2
   go_meet
   case rel => exact ⟨_, (true), rs_, H', ⟨by first | omega | exact Nat.le_refl _⟩, by repeat (first | exact Drawn0.refl _ | apply Drawn0.step)⟩
  rw [if_neg c6] at H
  have c6b0 : decide (6 < a1) = false := decide_eq_false c6
  clear c6
  by_cases c7 : a2 = 0
  ·rw [if_pos c7] at H
   have c7b0 : (a2 == 0) = true := beq_iff_eq.mpr c7
   have c7b1 : (a2 != 0) = false := bne_eq_false_iff_eq.mpr c7
   clear c7
   have H' := am_ H
   clear H
   go_wp2
   go_meet
   case rel => exact ⟨_, (true), rs_, H', ⟨by first | omega | exact Nat.le_refl _⟩, by repeat (first | exact Drawn0.refl _ | apply Drawn0.step)⟩
  rw [if_neg c7] at H
  have c7b0 : (a2 == 0) = false := beq_eq_false_iff_ne.mpr c7
  have c7b1 : (a2 != 0) = true := bne_iff_ne.mpr c7
  by_cases c8 : a2 < (-1000)
  ·rw [if_pos c8] at H
   have c8b0 : decide (a2 < (-1000)) = true := decide_eq_true c8
   clear c8
   have H' := am_ H
   clear H
   go_wp2
   go_meet
   case rel => exact ⟨_, (true), rs_, H', ⟨by first | omega | exact Nat.le_refl _⟩, by repeat (first | exact Drawn0.refl _ | apply Drawn0.step)⟩
  rw [if_neg c8] at H
  have c8b0 : decide (a2 < (-1000)) = false := decide_eq_false c8
  clear c8
  have H' := am_ H
  clear H
  go_wp2
  go_meet
  case rel => exact ⟨_, (decide (a2 > 1000)), rs_, H', ⟨by first | omega | exact Nat.le_refl _⟩, by repeat (first | exact Drawn0.refl _ | apply Drawn0.step)⟩
 case rest =>
  clear HC4
  obtain ⟨kq, x31_3, rfl, HA, HJ3, ⟨mc3, rfl⟩⟩ := hcut
  cases kq with
  | zero => exact absurd HA.out (by simp [computusref04_Nth.j0])
  | succ kj3 =>
   have H := HA.out
   clear HA
   simp only [computusref04_Nth.j0] at H
   by_cases c9 : x31_3 = true
   ·subst c9
    replace H := it_ H
    simp only [Option.some.injEq, Prod.mk.injEq] at H
    obtain ⟨rfl, rfl⟩ := H
    go_wp2
    go_ret2
    exact ⟨by first | rfl | (simp; done) | (simp [*]; done), by repeat (first | exact Drawn0.refl _ | apply Drawn0.step)⟩
   replace c9 := Bool.eq_false_iff.mpr c9
   subst c9
   replace H := if_ H
   by_cases c10 : a2 > 0
   ·rw [if_pos c10] at H
    have c10b0 : decide (0 < a2) = true := decide_eq_true c10
    clear c10
    obtain ⟨⟨t392, t393⟩, A11, H⟩ := bs_ H
    dsimp only at H
    have H' := am_ H
    clear H
    go_wp2_with (first | ((with_reducible refine gate_callee (f := 73) rfl ?_); refine gl_ (some 37) Try.func73 #[.int .i64 a0, .int .i64 a1] ?_; (with_reducible refine (computusref04_OnOrAfter.calls kj3 a0 a1 t392 t393 _ A11.out).mono ?_); rintro e w' ⟨rfl, ⟨nd, rfl⟩⟩; refine ⟨_, rfl, ?_⟩))
    go_loopg [8, 10] kj3 (fun kq v8 v10 w' => ∃ (x8_2 : Int) (x10_2 : Int), v8 = .int .i64 x8_2 ∧ v10 = .int .i64 x10_2 ∧ Aside0 (computusref04_Nth.l0 kq a2 x8_2 t393 x10_2 = some (r1, r2)) ∧ Aside0 (kq ≤ kj3) ∧ Drawn0 w w')
    case atStart => exact ⟨(t392), (1), rs_, rs_, H', ⟨Nat.le_refl _⟩, by repeat (first | exact Drawn0.refl _ | apply Drawn0.step)⟩
    case round =>
     clear H'
     obtain ⟨x8_2, x10_2, rfl, rfl, HA, HK2, ⟨m2, rfl⟩⟩ := hrel
     cases gk with
     | zero => exact absurd HA.out (by simp [computusref04_Nth.l0])
     | succ k2 =>
      have H := HA.out
      clear HA
      simp only [computusref04_Nth.l0] at H
      by_cases c12 : x10_2 < a2
      rotate_left
      ·rw [if_neg c12] at H
       have c12b0 : decide (x10_2 < a2) = false := decide_eq_false c12
       clear c12
       simp only [Option.some.injEq, Prod.mk.injEq] at H
       obtain ⟨rfl, rfl⟩ := H
       go_wp2
       go_ret2
       exact ⟨by first | rfl | (simp; done) | (simp [*]; done), by repeat (first | exact Drawn0.refl _ | apply Drawn0.step)⟩
      rw [if_pos c12] at H
      have c12b0 : decide (x10_2 < a2) = true := decide_eq_true c12
      clear c12
      by_cases c13 : t393 = 0
      rotate_left
      ·rw [if_neg c13] at H
       have c13b0 : (t393 == 0) = false := beq_eq_false_iff_ne.mpr c13
       have c13b1 : (t393 != 0) = true := bne_iff_ne.mpr c13
       simp only [Option.some.injEq, Prod.mk.injEq] at H
       obtain ⟨rfl, rfl⟩ := H
       go_wp2
       go_ret2
       exact ⟨by first | rfl | (simp; done) | (simp [*]; done), by repeat (first | exact Drawn0.refl _ | apply Drawn0.step)⟩
      rw [if_pos c13] at H
      have c13b0 : (t393 == 0) = true := beq_iff_eq.mpr c13
      have c13b1 : (t393 != 0) = false := bne_eq_false_iff_eq.mpr c13
      clear c13
      have H' := am_ H
      clear H
      go_wp2
      go_roundg k2
      case measure => have := HJ3.out; have := HK2.out; omega
      case rel => exact ⟨(wrap64 (x8_2 + 7)), (wrap64 (x10_2 + 1)), rs_, rs_, H', ⟨by have := HJ3.out; have := HK2.out; omega⟩, by repeat (first | exact Drawn0.refl _ | apply Drawn0.step)⟩
   rw [if_neg c10] at H
   have c10b0 : decide (0 < a2) = false := decide_eq_false c10
   clear c10
   obtain ⟨⟨t394, t395⟩, A14, H⟩ := bs_ H
   dsimp only at H
   have H' := am_ H
   clear H
   go_wp2_with (first | ((with_reducible refine gate_callee (f := 74) rfl ?_); refine gl_ (some 56) Try.func74 #[.int .i64 a0, .int .i64 a1] ?_; (with_reducible refine (computusref04_OnOrBefore.calls kj3 a0 a1 t394 t395 _ A14.out).mono ?_); rintro e w' ⟨rfl, ⟨nd, rfl⟩⟩; refine ⟨_, rfl, ?_⟩))
   go_loopg [11, 13] kj3 (fun kq v11 v13 w' => ∃ (x11_2 : Int) (x13_2 : Int), v11 = .int .i64 x11_2 ∧ v13 = .int .i64 x13_2 ∧ Aside0 (computusref04_Nth.l1 kq a2 x11_2 t395 x13_2 = some (r1, r2)) ∧ Aside0 (kq ≤ kj3) ∧ Drawn0 w w')
   case atStart => exact ⟨(t394), ((-1)), rs_, rs_, H', ⟨Nat.le_refl _⟩, by repeat (first | exact Drawn0.refl _ | apply Drawn0.step)⟩
   case round =>
    clear H'
    obtain ⟨x11_2, x13_2, rfl, rfl, HA, HK2, ⟨m2, rfl⟩⟩ := hrel
    cases gk with
    | zero => exact absurd HA.out (by simp [computusref04_Nth.l1])
    | succ k2 =>
     have H := HA.out
     clear HA
     simp only [computusref04_Nth.l1] at H
     by_cases c15 : x13_2 > a2
     rotate_left
     ·rw [if_neg c15] at H
      have c15b0 : decide (a2 < x13_2) = false := decide_eq_false c15
      clear c15
      simp only [Option.some.injEq, Prod.mk.injEq] at H
      obtain ⟨rfl, rfl⟩ := H
      go_wp2
      go_ret2
      exact ⟨by first | rfl | (simp; done) | (simp [*]; done), by repeat (first | exact Drawn0.refl _ | apply Drawn0.step)⟩
     rw [if_pos c15] at H
     have c15b0 : decide (a2 < x13_2) = true := decide_eq_true c15
     clear c15
     by_cases c16 : t395 = 0
     rotate_left
     ·rw [if_neg c16] at H
      have c16b0 : (t395 == 0) = false := beq_eq_false_iff_ne.mpr c16
      have c16b1 : (t395 != 0) = true := bne_iff_ne.mpr c16
      simp only [Option.some.injEq, Prod.mk.injEq] at H
      obtain ⟨rfl, rfl⟩ := H
      go_wp2
      go_ret2
      exact ⟨by first | rfl | (simp; done) | (simp [*]; done), by repeat (first | exact Drawn0.refl _ | apply Drawn0.step)⟩
     rw [if_pos c16] at H
     have c16b0 : (t395 == 0) = true := beq_iff_eq.mpr c16
     have c16b1 : (t395 != 0) = false := bne_eq_false_iff_eq.mpr c16
     clear c16
     have H' := am_ H
     clear H
     go_wp2
     go_roundg k2
     case measure => have := HJ3.out; have := HK2.out; omega
     case rel => exact ⟨(wrap64 (x11_2 - 7)), (wrap64 (x13_2 - 1)), rs_, rs_, H', ⟨by have := HJ3.out; have := HK2.out; omega⟩, by repeat (first | exact Drawn0.refl _ | apply Drawn0.step)⟩
def computusref16_Day.f (k : Nat) (a0_0 : Int) (a0_1 : Int) (a0_2 : Int) (a0_3 : Int) (a0_4 : Int) (a0_5 : Int) (a1 : Int) : Option (Int) := if a0_0 = 2 then ((computusref10_Day.f k 2 a1).bind fun t397 => (some (wrap64 (t397 + a0_3)))) else ((computusref03_ToDay.f k a1 a0_1 a0_2).bind fun bt398 => (if a0_0 = 3 then ((computusref04_Nth.f k bt398.1 a0_4 a0_5).bind fun bt400 => (some bt400.1)) else (some bt398.1)))
theorem computusref16_Day.calls (k : Nat) (a0_0 : Int) (a0_1 : Int) (a0_2 : Int) (a0_3 : Int) (a0_4 : Int) (a0_5 : Int) (a1 : Int) (r : Int) (w : World) (h : computusref16_Day.f k a0_0 a0_1 a0_2 a0_3 a0_4 a0_5 a1 = some r) :
  Calls Try.prog 48 #[.agg #[.int .i64 a0_0, .int .i64 a0_1, .int .i64 a0_2, .int .i64 a0_3, .int .i64 a0_4, .int .i64 a0_5], .int .i64 a1] w fun e w' => e = .returned (.int .i64 r) ∧ Below w.heap.size w w' := by
 have hu64 := Try.underlying64
 have hu98 := Try.underlying98
 have HB := am_ (Below.refl w.heap.size w)
 have H := h
 clear h
 unfold computusref16_Day.f at H
 by_cases c3 : a0_0 = 2
 rotate_left
 ·rw [if_neg c3] at H
  have c3b0 : (a0_0 == 2) = false := beq_eq_false_iff_ne.mpr c3
  have c3b1 : (a0_0 != 2) = true := bne_iff_ne.mpr c3
  obtain ⟨⟨t398, t399⟩, A9, H⟩ := bs_ H
  dsimp only at H
  by_cases c10 : a0_0 = 3
  rotate_left
  ·rw [if_neg c10] at H
   have c10b0 : (a0_0 == 3) = false := beq_eq_false_iff_ne.mpr c10
   have c10b1 : (a0_0 != 3) = true := bne_iff_ne.mpr c10
   obtain rfl := Option.some.inj H
   go_enter Try.func48, Try.ntmps48
   go_wp2_with (first | ((with_reducible refine gate_dst (N := 2) rfl ?_); refine bx_ (w := w) (N := 2) (cs := #[.int .i64 a0_0, .int .i64 a0_1, .int .i64 a0_2, .int .i64 a0_3, .int .i64 a0_4, .int .i64 a0_5]) (t := 64) ?_; intro gb396 w16 BK396 n0_ GW396 GE396; clear HB; have HB := n0_; clear n0_; obtain ⟨hcz17_0, hcz17_1, hcz17_2, hcz17_3, hcz17_4, hcz17_5⟩ := cz6_ BK396.out; obtain ⟨hfz17_0, hfz17_1, hfz17_2, hfz17_3, hfz17_4, hfz17_5⟩ := fz6_ BK396.out) | ((with_reducible refine gate_callee (f := 60) rfl ?_); refine gl_ (some 24) Try.func60 #[.agg #[.int .i64 a1, .int .i64 a0_1, .int .i64 a0_2]] ?_; (with_reducible refine (computusref03_ToDay.calls k a1 a0_1 a0_2 t398 t399 _ A9.out).mono ?_); rintro e w18 ⟨rfl, hb⟩; refine ⟨_, rfl, ?_⟩; replace BK396 := bw_ BK396 hb; replace HB := bt_ hb; (try clear hb); obtain ⟨hcz19_0, hcz19_1, hcz19_2, hcz19_3, hcz19_4, hcz19_5⟩ := cz6_ BK396.out; obtain ⟨hfz19_0, hfz19_1, hfz19_2, hfz19_3, hfz19_4, hfz19_5⟩ := fz6_ BK396.out))
   go_ret
   exact rt_
  rw [if_pos c10] at H
  have c10b0 : (a0_0 == 3) = true := beq_iff_eq.mpr c10
  have c10b1 : (a0_0 != 3) = false := bne_eq_false_iff_eq.mpr c10
  clear c10
  obtain ⟨⟨t400, t401⟩, A11, H⟩ := bs_ H
  dsimp only at H
  obtain rfl := Option.some.inj H
  go_enter Try.func48, Try.ntmps48
  go_wp2_with (first | ((with_reducible refine gate_dst (N := 2) rfl ?_); refine bx_ (w := w) (N := 2) (cs := #[.int .i64 a0_0, .int .i64 a0_1, .int .i64 a0_2, .int .i64 a0_3, .int .i64 a0_4, .int .i64 a0_5]) (t := 64) ?_; intro gb396 w12 BK396 n0_ GW396 GE396; clear HB; have HB := n0_; clear n0_; obtain ⟨hcz13_0, hcz13_1, hcz13_2, hcz13_3, hcz13_4, hcz13_5⟩ := cz6_ BK396.out; obtain ⟨hfz13_0, hfz13_1, hfz13_2, hfz13_3, hfz13_4, hfz13_5⟩ := fz6_ BK396.out) | ((with_reducible refine gate_callee (f := 60) rfl ?_); refine gl_ (some 24) Try.func60 #[.agg #[.int .i64 a1, .int .i64 a0_1, .int .i64 a0_2]] ?_; (with_reducible refine (computusref03_ToDay.calls k a1 a0_1 a0_2 t398 t399 _ A9.out).mono ?_); rintro e w14 ⟨rfl, hb⟩; refine ⟨_, rfl, ?_⟩; replace BK396 := bw_ BK396 hb; replace HB := bt_ hb; (try clear hb); obtain ⟨hcz15_0, hcz15_1, hcz15_2, hcz15_3, hcz15_4, hcz15_5⟩ := cz6_ BK396.out; obtain ⟨hfz15_0, hfz15_1, hfz15_2, hfz15_3, hfz15_4, hfz15_5⟩ := fz6_ BK396.out) | ((with_reducible refine gate_callee (f := 61) rfl ?_); refine gl_ (some 36) Try.func61 #[.int .i64 t398, .int .i64 a0_4, .int .i64 a0_5] ?_; (with_reducible refine (computusref04_Nth.calls k t398 a0_4 a0_5 t400 t401 _ A11.out).mono ?_); rintro e w' ⟨rfl, ⟨nd, rfl⟩⟩; refine ⟨_, rfl, ?_⟩))
  go_ret
  exact rt_
 rw [if_pos c3] at H
 have c3b0 : (a0_0 == 2) = true := beq_iff_eq.mpr c3
 have c3b1 : (a0_0 != 2) = false := bne_eq_false_iff_eq.mpr c3
 clear c3
 obtain ⟨t397, A4, H⟩ := bs_ H
 obtain rfl := Option.some.inj H
 go_enter Try.func48, Try.ntmps48
 try go_wp2_with (first | ((with_reducible refine gate_dst (N := 2) rfl ?_); refine bx_ (w := w) (N := 2) (cs := #[.int .i64 a0_0, .int .i64 a0_1, .int .i64 a0_2, .int .i64 a0_3, .int .i64 a0_4, .int .i64 a0_5]) (t := 64) ?_; intro gb396 w5 BK396 n0_ GW396 GE396; clear HB; have HB := n0_; clear n0_; obtain ⟨hcz6_0, hcz6_1, hcz6_2, hcz6_3, hcz6_4, hcz6_5⟩ := cz6_ BK396.out; obtain ⟨hfz6_0, hfz6_1, hfz6_2, hfz6_3, hfz6_4, hfz6_5⟩ := fz6_ BK396.out))
 replace BK396 := am_ (blk_drew BK396.out)
 replace HB := am_ (below_drew1 HB.out)
 refine start_ (n := 6) (S := fun w' => w'.cell? ⟨gb396, 0, none⟩ = some (.int .i64 a0_0) ∧ w'.cell? ⟨gb396, 1, none⟩ = some (.int .i64 a0_1) ∧ w'.cell? ⟨gb396, 2, none⟩ = some (.int .i64 a0_2) ∧ w'.cell? ⟨gb396, 3, none⟩ = some (.int .i64 a0_3) ∧ w'.cell? ⟨gb396, 4, none⟩ = some (.int .i64 a0_4) ∧ w'.cell? ⟨gb396, 5, none⟩ = some (.int .i64 a0_5)) (ds := []) (bf_ 6 0) (by kernel_rfl) rfl rfl (cz6_ BK396.out) (fun hHeld => ?_)
 generalize w5.drew = w7 at BK396 HB hHeld ⊢
 refine pure_ (i := 0) (N := some 12) (v := ?_) (a' := ?_) (bf_ 6 1) rfl rfl (by kernel_rfl) (fun _ _ _ h => h) (Or.inl ⟨by rfl, ?_⟩) ?_ ?_
 rotate_left
 ·intro w'
  go_simp
  with_reducible rfl
 rotate_left
 ·simp only [Act.put, sA_, sZ_, sS_, i64_w, i32_w]
  rfl
 refine pure_ (i := 2) (N := some 14) (v := ?_) (a' := ?_) (bf_ 6 5) rfl rfl (by kernel_rfl) (fun _ _ _ h => h) (Or.inl ⟨by rfl, ?_⟩) ?_ ?_
 rotate_left
 ·intro w'
  go_simp
  with_reducible rfl
 rotate_left
 ·simp only [Act.put, sA_, sZ_, sS_, i64_w, i32_w]
  rfl
 refine take_ (i := 3) (N := some 15) (v := ?_) (a' := ?_) (bf_ 6 13) rfl rfl (by kernel_rfl) (fun _ _ _ h => h) (Or.inl ⟨by rfl, ?_⟩) hHeld ?_ ?_
 rotate_left
 ·rintro w' ⟨s0, s1, s2, s3, s4, s5⟩
  go_simp
  with_reducible rfl
 rotate_left
 ·simp only [Act.put, sA_, sZ_, sS_, i64_w, i32_w]
  rfl
 refine one_ (i := 1) (N := some 13) (bf_ 6 15) rfl rfl (by kernel_rfl) (by decide) (fun K hK => ?_)
 refine gs_ Try.func59 #[.int .i64 2, .int .i64 a1] ?_
 with_reducible refine (computusref10_Day.calls k 2 a1 t397 _ A4.out).mono ?_
 rintro e w8 ⟨rfl, hb⟩
 refine ⟨_, rfl, ?_⟩
 replace BK396 := bw_ BK396 hb
 replace HB := bt_ hb
 (try clear hb)
 (try clear hb2)
 (try clear hk)
 (try clear hi)
 refine hK.out _ _ (by first | exact (cz6_ BK396.out) | exact hHeld) (fun hHeld => ?_)
 clear hK K
 refine norm_ (a' := ?_) ?_ ?_
 rotate_left
 ·show Act.put _ (some 13) _ = _
  simp only [Act.put, sA_, sZ_, sS_, i64_w, i32_w]
  rfl
 refine pure_ (i := 4) (N := some 16) (v := ?_) (a' := ?_) (bf_ 6 31) rfl rfl (by kernel_rfl) (fun _ _ _ h => h) (Or.inl ⟨by rfl, ?_⟩) ?_ ?_
 rotate_left
 ·intro w'
  go_simp
  with_reducible rfl
 rotate_left
 ·simp only [Act.put, sA_, sZ_, sS_, i64_w, i32_w]
  rfl
 refine pure_ (i := 5) (N := some 4) (v := ?_) (a' := ?_) (bf_ 6 63) rfl rfl (by kernel_rfl) (fun _ _ _ h => h) (Or.inl ⟨by rfl, ?_⟩) ?_ ?_
 rotate_left
 ·intro w'
  go_simp
  with_reducible rfl
 rotate_left
 ·simp only [Act.put, sA_, sZ_, sS_, i64_w, i32_w]
  rfl
 refine done_ (by kernel_rfl) ?_
 try go_wp2
 go_ret
 exact rt_
def computusref18_Starts.l0 : Nat → Int → List Int → Int → Int → List (S66) → List (S68) → Option (List Int)
 | 0, _, _, _, _, _, _ => none
 | k + 1, x1, x5, x6, x403000, x403001, x403002 => if x6 < (x403001.length : Int) then (if 0 ≤ x6 then ((computusref16_Day.f k ((rd_T66 x403001 x6).f3.f0) ((rd_T66 x403001 x6).f3.f1) ((rd_T66 x403001 x6).f3.f2) ((rd_T66 x403001 x6).f3.f3) ((rd_T66 x403001 x6).f3.f4) ((rd_T66 x403001 x6).f3.f5) x1).bind fun t404 => (if x5.length < 17592186044416 then (computusref18_Starts.l0 k x1 (x5 ++ [t404]) (wrap64 (x6 + 1)) x403000 x403001 x403002) else (none))) else (none)) else (some x5)
def computusref18_Starts.f (k : Nat) (a0_0 : Int) (l0_1 : List (S66)) (l0_2 : List (S68)) (a1 : Int) : Option (List Int) := computusref18_Starts.l0 k a1 ([] : List Int) 0 a0_0 l0_1 l0_2
theorem computusref18_Starts.calls (k : Nat) (a0_0 : Int) (A0_1 : Option Addr) (c0_1 : Nat) (l0_1 : List (S66)) (A0_2 : Option Addr) (c0_2 : Nat) (l0_2 : List (S68)) (a1 : Int) (r : List Int) (w : World) (hr0_1 : Kd.C k66 w A0_1 l0_1.length l0_1) (hc0_1 : l0_1.length ≤ c0_1) (hr0_2 : Kd.C k68 w A0_2 l0_2.length l0_2) (hc0_2 : l0_2.length ≤ c0_2) (h : computusref18_Starts.f k a0_0 l0_1 l0_2 a1 = some r) :
  Calls Try.prog 36 #[.agg #[.int .i64 a0_0, .slice A0_1 l0_1.length c0_1, .slice A0_2 l0_2.length c0_2], .int .i64 a1] w fun e w' => ∃ v0_ : Value, e = .returned (v0_) ∧ Kd.R (Kd.int .i64) 3 w' w.heap.size (fun _ => True) v0_ r ∧ Below w.heap.size w w' := by
 have hu36 := Try.underlying36
 have hu64 := Try.underlying64
 have HR0_1 := am_ hr0_1
 have HC0_1 := am_ hc0_1
 clear hr0_1 hc0_1
 have HR0_2 := am_ hr0_2
 have HC0_2 := am_ hc0_2
 clear hr0_2 hc0_2
 have HB := am_ (Below.refl w.heap.size w)
 have H := h
 clear h
 unfold computusref18_Starts.f at H
 have H' := am_ H
 clear H
 go_enter Try.func36, Try.ntmps36
 go_wp2_with (first | ((with_reducible refine gate_dst (N := 2) rfl ?_); refine bx_ (w := w) (N := 2) (cs := #[.int .i64 a0_0, .slice A0_1 l0_1.length c0_1, .slice A0_2 l0_2.length c0_2]) (t := 36) ?_; intro gb402 w3 BK402 n0_ GW402 GE402; clear HB; have HB := n0_; clear n0_))
 go_loopg [5, 6] k (fun kq v5 v6 w' => ∃ (x5_1 : List Int) (x6_1 : Int), v6 = .int .i64 x6_1 ∧ Aside0 (computusref18_Starts.l0 kq a1 x5_1 x6_1 a0_0 l0_1 l0_2 = some r) ∧ Aside0 (kq ≤ k) ∧ Aside0 (Kd.R (Kd.int .i64) 3 w' w.heap.size (fun _ => True) v5 x5_1) ∧ Aside0 (w'.heap[gb402]? = some (.cells #[.int .i64 a0_0, (.slice A0_1 l0_1.length c0_1), (.slice A0_2 l0_2.length c0_2)] 36 (0, 0))) ∧ Aside0 (Below w.heap.size w w'))
 case atStart => exact ⟨(([] : List Int)), (0), rs_, H', ⟨Nat.le_refl _⟩, ⟨nl_⟩, ⟨bk_ BK402.out⟩, ⟨bh_⟩⟩
 case round =>
  clear H'
  obtain ⟨x5_1, x6_1, rfl, HA, HK1, HO_5, BK402, HB⟩ := hrel
  cases gk with
  | zero => exact absurd HA.out (by simp [computusref18_Starts.l0])
  | succ k1 =>
   have H := HA.out
   clear HA
   simp only [computusref18_Starts.l0] at H
   by_cases c4 : x6_1 < (l0_1.length : Int)
   rotate_left
   ·rw [if_neg c4] at H
    have c4b0 : decide (x6_1 < (l0_1.length : Int)) = false := decide_eq_false c4
    clear c4
    obtain rfl := Option.some.inj H
    obtain ⟨hcz11_0, hcz11_1, hcz11_2⟩ := cz3_ BK402.out
    obtain ⟨hfz11_0, hfz11_1, hfz11_2⟩ := fz3_ BK402.out
    go_wp2
    go_ret
    exact ⟨_, by first | rfl | (simp [errW_none, errW_some] <;> rfl) | (simp [*, errW_none, errW_some] <;> rfl), rk_ HO_5.out, bh_⟩
   rw [if_pos c4] at H
   have c4b0 : decide (x6_1 < (l0_1.length : Int)) = true := decide_eq_true c4
   clear c4
   by_cases c5 : 0 ≤ x6_1
   rotate_left
   ·rw [if_neg c5] at H
    exact absurd H (by simp)
   rw [if_pos c5] at H
   have c5b0 : decide (0 ≤ x6_1) = true := decide_eq_true c5
   clear c5
   obtain ⟨t404, A6, H⟩ := bs_ H
   by_cases c7 : x5_1.length < 17592186044416
   rotate_left
   ·rw [if_neg c7] at H
    exact absurd H (by simp)
   rw [if_pos c7] at H
   have LMc7 := am_ c7
   clear c7
   obtain ⟨y405, hy405⟩ : ∃ y_ : List Int, y_ = (x5_1 ++ [t404]) := ⟨_, rfl⟩
   replace H : (computusref18_Starts.l0 k1 a1 y405 (wrap64 (x6_1 + 1)) a0_0 l0_1 l0_2) = some r := by first | (rw [hy405]; with_reducible exact H) | (have H2_ := (Option.bind_some _ _).symm.trans H; rw [hy405]; with_reducible exact H2_) | (have H2_ := (Option.bind_some _ _).symm.trans H; with_reducible exact H2_) | with_reducible exact H | (rw [hy405]; exact H) | exact H
   have Ny405 := am_ hy405
   clear hy405
   have H' := am_ H
   clear H
   obtain ⟨hcz8_0, hcz8_1, hcz8_2⟩ := cz3_ BK402.out
   obtain ⟨hfz8_0, hfz8_1, hfz8_2⟩ := fz3_ BK402.out
   have p403 : 0 ≤ (x6_1 : Int) := of_decide_eq_true as_
   have q403 : x6_1 < (l0_1.length : Int) := of_decide_eq_true as_
   obtain ⟨ad403, e403, hx403_0, hx403_1, hx403_2, hx403_3, hx403_4, hx403_5, hx403_6, hx403_7, hx403_8⟩ := at_T66 HR0_1.out x6_1 p403 q403
   cases e403
   replace hx403_0 := cm_ HB.out hx403_0
   replace hx403_1 := cm_ HB.out hx403_1
   replace hx403_2 := cm_ HB.out hx403_2
   replace hx403_3 := cm_ HB.out hx403_3
   replace hx403_4 := cm_ HB.out hx403_4
   replace hx403_5 := cm_ HB.out hx403_5
   replace hx403_6 := cm_ HB.out hx403_6
   replace hx403_7 := cm_ HB.out hx403_7
   replace hx403_8 := cm_ HB.out hx403_8
   replace p403 := eq_true p403
   replace q403 := eq_true q403
   go_wp2_with (first | ((with_reducible refine gate_callee (f := 48) rfl ?_); refine gl_ (some 22) Try.func48 #[.agg #[.int .i64 ((rd_T66 l0_1 x6_1).f3.f0), .int .i64 ((rd_T66 l0_1 x6_1).f3.f1), .int .i64 ((rd_T66 l0_1 x6_1).f3.f2), .int .i64 ((rd_T66 l0_1 x6_1).f3.f3), .int .i64 ((rd_T66 l0_1 x6_1).f3.f4), .int .i64 ((rd_T66 l0_1 x6_1).f3.f5)], .int .i64 a1] ?_; (with_reducible refine (computusref16_Day.calls k1 ((rd_T66 l0_1 x6_1).f3.f0) ((rd_T66 l0_1 x6_1).f3.f1) ((rd_T66 l0_1 x6_1).f3.f2) ((rd_T66 l0_1 x6_1).f3.f3) ((rd_T66 l0_1 x6_1).f3.f4) ((rd_T66 l0_1 x6_1).f3.f5) a1 t404 _ A6.out).mono ?_); rintro e w9 ⟨rfl, hb⟩; refine ⟨_, rfl, ?_⟩; replace HO_5 := am_ (Kd.R_below (rk_ HO_5.out) hb); replace BK402 := bw_ BK402 hb; replace HB := bt_ hb; (try clear hb); (try clear hi)) | ((with_reducible refine gate_builtin (b := .append) (xs := #[.tmp 14, .tmp 23]) rfl ?_); at_builtin; refine Kd.R_append (Kd.int .i64) (w0 := w) w.heap.size rfl (.tmp 14) (.tmp 23) 40 3 (.int .i64 0) 8 rfl Try.underlying40 info3 rfl (by decide) (by omega) u5 x5_1 t404 [.int .i64 t404] (fun _ => True) (fun _ => False) rfl rfl ?aP (fun _ hk => hk.elim) ?aF ?aO ?aB ?aS ?aL ?_; (case aP => exact rfl); (case aB => exact bh_); (case aF => exact (fun _ _ => trivial)); (case aO => exact (rk_ HO_5.out)); (case aS => exact bz_); (case aL => have := LMc7.out; omega); intro v406 w10 ho hb hg hat; rw [← Ny405.out] at ho; have n0_ := am_ (blk_grown (bk_ BK402.out) hg (Kd.R_ne HO_5.out BK402.out (by decide))); have n1_ := am_ (hb); have n2_ := am_ (ho); clear BK402; clear HB; clear HO_5; have BK402 := n0_; have HB := n1_; have HO407 := n2_; clear n0_ n1_ n2_; clear ho hb hg hat))
   go_roundg k1
   case measure => have := HK1.out; omega
   case rel => exact ⟨(y405), (wrap64 (x6_1 + 1)), rs_, H', ⟨by have := HK1.out; omega⟩, ⟨rk_ HO407.out⟩, ⟨bk_ BK402.out⟩, ⟨bh_⟩⟩
def computusref19_Days.l0 : Nat → Int → List Int → Int → Int → List (S66) → List (S68) → Option (List Int)
 | 0, _, _, _, _, _, _ => none
 | k + 1, x1, x5, x6, x409000, x409001, x409002 => if x6 < (x409002.length : Int) then (if 0 ≤ x6 then ((computusref16_Day.f k ((rd_T68 x409002 x6).f3.f0) ((rd_T68 x409002 x6).f3.f1) ((rd_T68 x409002 x6).f3.f2) ((rd_T68 x409002 x6).f3.f3) ((rd_T68 x409002 x6).f3.f4) ((rd_T68 x409002 x6).f3.f5) x1).bind fun t410 => (if x5.length < 17592186044416 then (computusref19_Days.l0 k x1 (x5 ++ [t410]) (wrap64 (x6 + 1)) x409000 x409001 x409002) else (none))) else (none)) else (some x5)
def computusref19_Days.f (k : Nat) (a0_0 : Int) (l0_1 : List (S66)) (l0_2 : List (S68)) (a1 : Int) : Option (List Int) := computusref19_Days.l0 k a1 ([] : List Int) 0 a0_0 l0_1 l0_2
theorem computusref19_Days.calls (k : Nat) (a0_0 : Int) (A0_1 : Option Addr) (c0_1 : Nat) (l0_1 : List (S66)) (A0_2 : Option Addr) (c0_2 : Nat) (l0_2 : List (S68)) (a1 : Int) (r : List Int) (w : World) (hr0_1 : Kd.C k66 w A0_1 l0_1.length l0_1) (hc0_1 : l0_1.length ≤ c0_1) (hr0_2 : Kd.C k68 w A0_2 l0_2.length l0_2) (hc0_2 : l0_2.length ≤ c0_2) (h : computusref19_Days.f k a0_0 l0_1 l0_2 a1 = some r) :
  Calls Try.prog 37 #[.agg #[.int .i64 a0_0, .slice A0_1 l0_1.length c0_1, .slice A0_2 l0_2.length c0_2], .int .i64 a1] w fun e w' => ∃ v0_ : Value, e = .returned (v0_) ∧ Kd.R (Kd.int .i64) 3 w' w.heap.size (fun _ => True) v0_ r ∧ Below w.heap.size w w' := by
 have hu36 := Try.underlying36
 have hu64 := Try.underlying64
 have HR0_1 := am_ hr0_1
 have HC0_1 := am_ hc0_1
 clear hr0_1 hc0_1
 have HR0_2 := am_ hr0_2
 have HC0_2 := am_ hc0_2
 clear hr0_2 hc0_2
 have HB := am_ (Below.refl w.heap.size w)
 have H := h
 clear h
 unfold computusref19_Days.f at H
 have H' := am_ H
 clear H
 go_enter Try.func37, Try.ntmps37
 go_wp2_with (first | ((with_reducible refine gate_dst (N := 2) rfl ?_); refine bx_ (w := w) (N := 2) (cs := #[.int .i64 a0_0, .slice A0_1 l0_1.length c0_1, .slice A0_2 l0_2.length c0_2]) (t := 36) ?_; intro gb408 w3 BK408 n0_ GW408 GE408; clear HB; have HB := n0_; clear n0_))
 go_loopg [5, 6] k (fun kq v5 v6 w' => ∃ (x5_1 : List Int) (x6_1 : Int), v6 = .int .i64 x6_1 ∧ Aside0 (computusref19_Days.l0 kq a1 x5_1 x6_1 a0_0 l0_1 l0_2 = some r) ∧ Aside0 (kq ≤ k) ∧ Aside0 (Kd.R (Kd.int .i64) 3 w' w.heap.size (fun _ => True) v5 x5_1) ∧ Aside0 (w'.heap[gb408]? = some (.cells #[.int .i64 a0_0, (.slice A0_1 l0_1.length c0_1), (.slice A0_2 l0_2.length c0_2)] 36 (0, 0))) ∧ Aside0 (Below w.heap.size w w'))
 case atStart => exact ⟨(([] : List Int)), (0), rs_, H', ⟨Nat.le_refl _⟩, ⟨nl_⟩, ⟨bk_ BK408.out⟩, ⟨bh_⟩⟩
 case round =>
  clear H'
  obtain ⟨x5_1, x6_1, rfl, HA, HK1, HO_5, BK408, HB⟩ := hrel
  cases gk with
  | zero => exact absurd HA.out (by simp [computusref19_Days.l0])
  | succ k1 =>
   have H := HA.out
   clear HA
   simp only [computusref19_Days.l0] at H
   by_cases c4 : x6_1 < (l0_2.length : Int)
   rotate_left
   ·rw [if_neg c4] at H
    have c4b0 : decide (x6_1 < (l0_2.length : Int)) = false := decide_eq_false c4
    clear c4
    obtain rfl := Option.some.inj H
    obtain ⟨hcz11_0, hcz11_1, hcz11_2⟩ := cz3_ BK408.out
    obtain ⟨hfz11_0, hfz11_1, hfz11_2⟩ := fz3_ BK408.out
    go_wp2
    go_ret
    exact ⟨_, by first | rfl | (simp [errW_none, errW_some] <;> rfl) | (simp [*, errW_none, errW_some] <;> rfl), rk_ HO_5.out, bh_⟩
   rw [if_pos c4] at H
   have c4b0 : decide (x6_1 < (l0_2.length : Int)) = true := decide_eq_true c4
   clear c4
   by_cases c5 : 0 ≤ x6_1
   rotate_left
   ·rw [if_neg c5] at H
    exact absurd H (by simp)
   rw [if_pos c5] at H
   have c5b0 : decide (0 ≤ x6_1) = true := decide_eq_true c5
   clear c5
   obtain ⟨t410, A6, H⟩ := bs_ H
   by_cases c7 : x5_1.length < 17592186044416
   rotate_left
   ·rw [if_neg c7] at H
    exact absurd H (by simp)
   rw [if_pos c7] at H
   have LMc7 := am_ c7
   clear c7
   obtain ⟨y411, hy411⟩ : ∃ y_ : List Int, y_ = (x5_1 ++ [t410]) := ⟨_, rfl⟩
   replace H : (computusref19_Days.l0 k1 a1 y411 (wrap64 (x6_1 + 1)) a0_0 l0_1 l0_2) = some r := by first | (rw [hy411]; with_reducible exact H) | (have H2_ := (Option.bind_some _ _).symm.trans H; rw [hy411]; with_reducible exact H2_) | (have H2_ := (Option.bind_some _ _).symm.trans H; with_reducible exact H2_) | with_reducible exact H | (rw [hy411]; exact H) | exact H
   have Ny411 := am_ hy411
   clear hy411
   have H' := am_ H
   clear H
   obtain ⟨hcz8_0, hcz8_1, hcz8_2⟩ := cz3_ BK408.out
   obtain ⟨hfz8_0, hfz8_1, hfz8_2⟩ := fz3_ BK408.out
   have p409 : 0 ≤ (x6_1 : Int) := of_decide_eq_true as_
   have q409 : x6_1 < (l0_2.length : Int) := of_decide_eq_true as_
   obtain ⟨ad409, e409, hx409_0, hx409_1, hx409_2, hx409_3, hx409_4, hx409_5, hx409_6, hx409_7, hx409_8⟩ := at_T68 HR0_2.out x6_1 p409 q409
   cases e409
   replace hx409_0 := cm_ HB.out hx409_0
   replace hx409_1 := cm_ HB.out hx409_1
   replace hx409_2 := cm_ HB.out hx409_2
   replace hx409_3 := cm_ HB.out hx409_3
   replace hx409_4 := cm_ HB.out hx409_4
   replace hx409_5 := cm_ HB.out hx409_5
   replace hx409_6 := cm_ HB.out hx409_6
   replace hx409_7 := cm_ HB.out hx409_7
   replace hx409_8 := cm_ HB.out hx409_8
   replace p409 := eq_true p409
   replace q409 := eq_true q409
   go_wp2_with (first | ((with_reducible refine gate_callee (f := 48) rfl ?_); refine gl_ (some 22) Try.func48 #[.agg #[.int .i64 ((rd_T68 l0_2 x6_1).f3.f0), .int .i64 ((rd_T68 l0_2 x6_1).f3.f1), .int .i64 ((rd_T68 l0_2 x6_1).f3.f2), .int .i64 ((rd_T68 l0_2 x6_1).f3.f3), .int .i64 ((rd_T68 l0_2 x6_1).f3.f4), .int .i64 ((rd_T68 l0_2 x6_1).f3.f5)], .int .i64 a1] ?_; (with_reducible refine (computusref16_Day.calls k1 ((rd_T68 l0_2 x6_1).f3.f0) ((rd_T68 l0_2 x6_1).f3.f1) ((rd_T68 l0_2 x6_1).f3.f2) ((rd_T68 l0_2 x6_1).f3.f3) ((rd_T68 l0_2 x6_1).f3.f4) ((rd_T68 l0_2 x6_1).f3.f5) a1 t410 _ A6.out).mono ?_); rintro e w9 ⟨rfl, hb⟩; refine ⟨_, rfl, ?_⟩; replace HO_5 := am_ (Kd.R_below (rk_ HO_5.out) hb); replace BK408 := bw_ BK408 hb; replace HB := bt_ hb; (try clear hb); (try clear hi)) | ((with_reducible refine gate_builtin (b := .append) (xs := #[.tmp 14, .tmp 23]) rfl ?_); at_builtin; refine Kd.R_append (Kd.int .i64) (w0 := w) w.heap.size rfl (.tmp 14) (.tmp 23) 40 3 (.int .i64 0) 8 rfl Try.underlying40 info3 rfl (by decide) (by omega) u5 x5_1 t410 [.int .i64 t410] (fun _ => True) (fun _ => False) rfl rfl ?aP (fun _ hk => hk.elim) ?aF ?aO ?aB ?aS ?aL ?_; (case aP => exact rfl); (case aB => exact bh_); (case aF => exact (fun _ _ => trivial)); (case aO => exact (rk_ HO_5.out)); (case aS => exact bz_); (case aL => have := LMc7.out; omega); intro v412 w10 ho hb hg hat; rw [← Ny411.out] at ho; have n0_ := am_ (blk_grown (bk_ BK408.out) hg (Kd.R_ne HO_5.out BK408.out (by decide))); have n1_ := am_ (hb); have n2_ := am_ (ho); clear BK408; clear HB; clear HO_5; have BK408 := n0_; have HB := n1_; have HO413 := n2_; clear n0_ n1_ n2_; clear ho hb hg hat))
   go_roundg k1
   case measure => have := HK1.out; omega
   case rel => exact ⟨(y411), (wrap64 (x6_1 + 1)), rs_, H', ⟨by have := HK1.out; omega⟩, ⟨rk_ HO413.out⟩, ⟨bk_ BK408.out⟩, ⟨bh_⟩⟩
def computusref19_Of.f (k : Nat) (a0_0 : Int) (l0_1 : List (S66)) (l0_2 : List (S68)) (a1 : Int) (a2 : Int) : Option ((List (S44))) := (computusref18_Starts.f k a0_0 l0_1 l0_2 a1).bind fun t415 => ((computusref19_Days.f k a0_0 l0_1 l0_2 a1).bind fun t418 => ((computusref19_In.f k a0_0 l0_1 l0_2 t415 t418 a2).bind fun t421 => (some t421)))
def computusref19_Of.T1 : Bool × List (List Nat × List Nat) := (true, [([], []), ([], []), ([], []), ([1, 2], [1, 2]), ([], []), ([], []), ([4, 5, 3], [4, 5]), ([], []), ([0, 3, 6, 7, 6], [0, 3, 6, 7]), ([8, 8, 0, 1, 2, 3, 4, 5, 6, 7, 8], [8])])
def computusref19_Of.B1 : List Nat := [0, 0, 0, 6, 0, 0, 62, 0, 255, 511]
theorem computusref19_Of.tab1 : rtab .any (opsOf Try.f16 1) = computusref19_Of.T1 := by kernel_rfl
theorem computusref19_Of.bits1 : waitsOk computusref19_Of.T1.2 computusref19_Of.B1 = true := by kernel_rfl
theorem computusref19_Of.calls (k : Nat) (a0_0 : Int) (A0_1 : Option Addr) (c0_1 : Nat) (l0_1 : List (S66)) (A0_2 : Option Addr) (c0_2 : Nat) (l0_2 : List (S68)) (a1 : Int) (a2 : Int) (r : List (S44)) (w : World) (hr0_1 : Kd.C k66 w A0_1 l0_1.length l0_1) (hc0_1 : l0_1.length ≤ c0_1) (hr0_2 : Kd.C k68 w A0_2 l0_2.length l0_2) (hc0_2 : l0_2.length ≤ c0_2) (h : computusref19_Of.f k a0_0 l0_1 l0_2 a1 a2 = some r) :
  Calls Try.prog 16 #[.agg #[.int .i64 a0_0, .slice A0_1 l0_1.length c0_1, .slice A0_2 l0_2.length c0_2], .int .i64 a1, .int .i64 a2] w fun e w' => ∃ v0_ : Value, e = .returned (v0_) ∧ Kd.R k44 44 w' w.heap.size (fun _ => True) v0_ r ∧ Below w.heap.size w w' := by
 have hu36 := Try.underlying36
 have HR0_1 := am_ hr0_1
 have HC0_1 := am_ hc0_1
 clear hr0_1 hc0_1
 have HR0_2 := am_ hr0_2
 have HC0_2 := am_ hc0_2
 clear hr0_2 hc0_2
 have HB := am_ (Below.refl w.heap.size w)
 have H := h
 clear h
 unfold computusref19_Of.f at H
 obtain ⟨t415, A4, H⟩ := bs_ H
 obtain ⟨t418, A5, H⟩ := bs_ H
 obtain ⟨t421, A6, H⟩ := bs_ H
 obtain rfl := Option.some.inj H
 go_enter Try.func16, Try.ntmps16
 try go_wp2_with (first | ((with_reducible refine gate_dst (N := 3) rfl ?_); refine bx_ (w := w) (N := 3) (cs := #[.int .i64 a0_0, .slice A0_1 l0_1.length c0_1, .slice A0_2 l0_2.length c0_2]) (t := 36) ?_; intro gb414 w7 BK414 n0_ GW414 GE414; clear HB; have HB := n0_; clear n0_))
 replace BK414 := am_ (blk_drew BK414.out)
 replace HB := am_ (below_drew1 HB.out)
 refine start_ (n := 10) (S := fun w' => w'.cell? ⟨gb414, 0, none⟩ = some (.int .i64 a0_0) ∧ w'.cell? ⟨gb414, 1, none⟩ = some (.slice A0_1 l0_1.length c0_1) ∧ w'.cell? ⟨gb414, 2, none⟩ = some (.slice A0_2 l0_2.length c0_2)) (ds := []) (bf_ 10 0) (by kernel_rfl) rfl rfl (cz3_ BK414.out) (fun hHeld => ?_); refine with_tabW computusref19_Of.tab1 computusref19_Of.bits1 (fun HT_ HW_ => ?_)
 generalize w7.drew = w8 at BK414 HB hHeld ⊢
 refine pu_ 2 (some 9) (bf_ 10 4) HT_.out ?_
 refine pu_ 5 (some 12) (bf_ 10 36) HT_.out ?_
 refine pu_ 7 (some 14) (bf_ 10 164) HT_.out ?_
 refine ta_ 0 (some 7) (bf_ 10 165) HT_.out HW_.out hHeld ?_
 refine ta_ 1 (some 8) (bf_ 10 167) HT_.out HW_.out hHeld ?_
 refine ta_ 4 (some 11) (bf_ 10 183) HT_.out HW_.out hHeld ?_
 refine one_ (i := 3) (N := some 10) (bf_ 10 191) rfl rfl (one_of HT_.out (by kernel_rfl)) (by decide) (fun K hK => ?_)
 refine gs_ Try.func36 #[.agg #[.int .i64 a0_0, .slice A0_1 l0_1.length c0_1, .slice A0_2 l0_2.length c0_2], .int .i64 a1] ?_
 with_reducible refine (computusref18_Starts.calls k a0_0 _ _ l0_1 _ _ l0_2 a1 t415 _ ?side1 ?side2 ?side3 ?side4 A4.out).mono ?_
 (case side1 => exact ck_ (Kd.C_below HR0_1.out HB.out))
 (case side2 => exact HC0_1.out)
 (case side3 => exact ck_ (Kd.C_below HR0_2.out HB.out))
 (case side4 => exact HC0_2.out)
 rintro e w9 ⟨v416, rfl, ho0, hb⟩
 refine ⟨_, rfl, ?_⟩
 have HO417 := am_ (Kd.R_lower ho0 bz_)
 replace BK414 := bw_ BK414 hb
 replace HB := bt_ hb
 (try clear hb)
 (try clear hb2)
 (try clear hk)
 (try clear hi)
 (try clear ho0)
 refine hK.out _ _ (by first | exact (cz3_ BK414.out) | exact hHeld) (fun hHeld => ?_)
 clear hK K
 refine norm_ (a' := ?_) ?_ ?_
 rotate_left
 ·show Act.put _ (some 10) _ = _
  simp only [Act.put, sA_, sZ_, sS_, i64_w, i32_w]
  rfl
 refine one_ (i := 6) (N := some 13) (bf_ 10 255) rfl rfl (one_of HT_.out (by kernel_rfl)) (by decide) (fun K hK => ?_)
 refine gs_ Try.func37 #[.agg #[.int .i64 a0_0, .slice A0_1 l0_1.length c0_1, .slice A0_2 l0_2.length c0_2], .int .i64 a1] ?_
 with_reducible refine (computusref19_Days.calls k a0_0 _ _ l0_1 _ _ l0_2 a1 t418 _ ?side1 ?side2 ?side3 ?side4 A5.out).mono ?_
 (case side1 => exact ck_ (Kd.C_below HR0_1.out HB.out))
 (case side2 => exact HC0_1.out)
 (case side3 => exact ck_ (Kd.C_below HR0_2.out HB.out))
 (case side4 => exact HC0_2.out)
 rintro e w10 ⟨v419, rfl, ho0, hb⟩
 refine ⟨_, rfl, ?_⟩
 have HO420 := am_ (Kd.R_lower (Kd.R_new' ho0 (Kd.R_lt (rk_ HO417.out))) bz_)
 replace HO417 := am_ (Kd.R_elder' (rk_ HO417.out) (Kd.R_base ho0) hb)
 replace BK414 := bw_ BK414 hb
 replace HB := bt_ hb
 (try clear hb)
 (try clear hb2)
 (try clear hk)
 (try clear hi)
 (try clear ho0)
 obtain ⟨Ao11, co11, eo11⟩ := Kd.R_slice HO417.out
 (first | subst eo11 | (injection eo11 with f1_ f2_ f3_; have f4_ := f1_.symm; have f5_ := f3_.symm; clear f1_ f2_ f3_; subst f4_; subst f5_))
 obtain ⟨Ao12, co12, eo12⟩ := Kd.R_slice HO420.out
 (first | subst eo12 | (injection eo12 with f1_ f2_ f3_; have f4_ := f1_.symm; have f5_ := f3_.symm; clear f1_ f2_ f3_; subst f4_; subst f5_))
 refine hK.out _ _ (by first | exact (cz3_ BK414.out) | exact hHeld) (fun hHeld => ?_)
 clear hK K
 refine norm_ (a' := ?_) ?_ ?_
 rotate_left
 ·show Act.put _ (some 13) _ = _
  simp only [Act.put, sA_, sZ_, sS_, i64_w, i32_w]
  rfl
 refine one_ (i := 8) (N := some 15) (bf_ 10 511) rfl rfl (one_of HT_.out (by kernel_rfl)) (by decide) (fun K hK => ?_)
 refine gs_ Try.func35 #[.agg #[.int .i64 a0_0, .slice A0_1 l0_1.length c0_1, .slice A0_2 l0_2.length c0_2], .slice Ao11 t415.length co11, .slice Ao12 t418.length co12, .int .i64 a2] ?_
 with_reducible refine (computusref19_In.calls k a0_0 _ _ l0_1 _ _ l0_2 _ _ t415 _ _ t418 a2 t421 _ ?side1 ?side2 ?side3 ?side4 ?side5 ?side6 ?side7 ?side8 A6.out).mono ?_
 (case side1 => exact ck_ (Kd.C_below HR0_1.out HB.out))
 (case side2 => exact HC0_1.out)
 (case side3 => exact ck_ (Kd.C_below HR0_2.out HB.out))
 (case side4 => exact HC0_2.out)
 (case side5 => exact ck_ (Kd.R_reads' HO417.out).2.2)
 (case side6 => exact (Kd.R_reads' HO417.out).2.1)
 (case side7 => exact ck_ (Kd.R_reads' HO420.out).2.2)
 (case side8 => exact (Kd.R_reads' HO420.out).2.1)
 rintro e w13 ⟨v422, rfl, ho0, hb⟩
 refine ⟨_, rfl, ?_⟩
 replace HO417 := rw_ HO417 hb
 replace HO420 := rw_ HO420 hb
 have HO423 := am_ (Kd.R_lower ho0 bz_)
 replace BK414 := bw_ BK414 hb
 replace HB := bt_ hb
 (try clear hb)
 (try clear hb2)
 (try clear hk)
 (try clear hi)
 (try clear ho0)
 refine hK.out _ _ (by first | exact (cz3_ BK414.out) | exact hHeld) (fun hHeld => ?_)
 clear hK K
 refine norm_ (a' := ?_) ?_ ?_
 rotate_left
 ·show Act.put _ (some 15) _ = _
  simp only [Act.put, sA_, sZ_, sS_, i64_w, i32_w]
  rfl
 refine pu_ 9 (some 6) (bf_ 10 1023) HT_.out ?_
 refine done_ (done_of HT_.out (by kernel_rfl)) ?_
 try go_wp2
 go_ret
 exact ⟨_, by first | rfl | (simp [errW_none, errW_some] <;> rfl) | (simp [*, errW_none, errW_some] <;> rfl), rk_ HO423.out, bh_⟩
def computuslaw21_forward.l0 : Nat → List (S44) → List (S28) → Int → Option ((List (S28)))
 | 0, _, _, _ => none
 | k + 1, x0, x3, x4 => if x4 < (x0.length : Int) then (if 0 ≤ x4 then (if x3.length < 3518437208883 then (computuslaw21_forward.l0 k x0 (x3 ++ [(⟨(rd_T44 x0 x4).f0, (rd_T44 x0 x4).f1, (rd_T44 x0 x4).f2, (rd_T44 x0 x4).f3⟩ : S28)]) (wrap64 (x4 + 1))) else (none)) else (none)) else (some x3)
def computuslaw21_forward.f (k : Nat) (l0 : List (S44)) : Option ((List (S28))) := computuslaw21_forward.l0 k l0 ([] : List (S28)) 0
def computuslaw21_forward.T5 : Bool × List (List Nat × List Nat) := (true, [([], []), ([], []), ([], []), ([1, 2], [1, 2]), ([3], [3]), ([4], [4]), ([], []), ([], []), ([6, 7], [6, 7]), ([8], [8]), ([9], [9]), ([], []), ([], []), ([11, 12], [11, 12]), ([13], [13]), ([14], [14]), ([], []), ([], []), ([16, 17], [16, 17]), ([18], [18]), ([19], [19]), ([5, 10, 15, 20], [5, 10, 15, 20]), ([21], [21]), ([0, 22], [0, 22]), ([23, 23, 0, 1, 2, 3, 4, 5, 6, 7, 8, 9, 10, 11, 12, 13, 14, 15, 16, 17, 18, 19, 20, 21, 22, 23], [0, 23])])
def computuslaw21_forward.B5 : List Nat := [0, 0, 0, 6, 14, 30, 0, 0, 192, 448, 960, 0, 0, 6144, 14336, 30720, 0, 0, 196608, 458752, 983040, 2097150, 4194302, 8388607, 16777215]
theorem computuslaw21_forward.tab5 : rtab .any (opsOf Try.f18 5) = computuslaw21_forward.T5 := by kernel_rfl
theorem computuslaw21_forward.bits5 : waitsOk computuslaw21_forward.T5.2 computuslaw21_forward.B5 = true := by kernel_rfl
theorem computuslaw21_forward.calls (k : Nat) (A0 : Option Addr) (c0 : Nat) (l0 : List (S44)) (r : List (S28)) (w : World) (hr0 : Kd.C k44 w A0 l0.length l0) (hc0 : l0.length ≤ c0) (h : computuslaw21_forward.f k l0 = some r) :
  Calls Try.prog 18 #[.slice A0 l0.length c0] w fun e w' => ∃ v0_ : Value, e = .returned (v0_) ∧ Kd.R k28 28 w' w.heap.size (fun _ => True) v0_ r ∧ Below w.heap.size w w' := by
 have hu28 := Try.underlying28
 have HR0 := am_ hr0
 have HC0 := am_ hc0
 clear hr0 hc0
 have HB := am_ (Below.refl w.heap.size w)
 have H := h
 clear h
 unfold computuslaw21_forward.f at H
 have H' := am_ H
 clear H
 go_enter Try.func18, Try.ntmps18
 go_wp2
 go_loopg [3, 4] k (fun kq v3 v4 w' => ∃ (x3_1 : List (S28)) (x4_1 : Int), v4 = .int .i64 x4_1 ∧ Aside0 (computuslaw21_forward.l0 kq l0 x3_1 x4_1 = some r) ∧ Aside0 (kq ≤ k) ∧ Aside0 (Kd.R k28 28 w' w.heap.size (fun _ => True) v3 x3_1) ∧ Aside0 (Below w.heap.size w w'))
 case atStart => exact ⟨(([] : List (S28))), (0), rs_, H', ⟨Nat.le_refl _⟩, ⟨nl_⟩, ⟨bh_⟩⟩
 case round =>
  clear H'
  obtain ⟨x3_1, x4_1, rfl, HA, HK1, HO_3, HB⟩ := hrel
  cases gk with
  | zero => exact absurd HA.out (by simp [computuslaw21_forward.l0])
  | succ k1 =>
   have H := HA.out
   clear HA
   simp only [computuslaw21_forward.l0] at H
   by_cases c2 : x4_1 < (l0.length : Int)
   rotate_left
   ·rw [if_neg c2] at H
    have c2b0 : decide (x4_1 < (l0.length : Int)) = false := decide_eq_false c2
    clear c2
    obtain rfl := Option.some.inj H
    go_wp2
    go_ret
    exact ⟨_, by first | rfl | (simp [errW_none, errW_some] <;> rfl) | (simp [*, errW_none, errW_some] <;> rfl), rk_ HO_3.out, bh_⟩
   rw [if_pos c2] at H
   have c2b0 : decide (x4_1 < (l0.length : Int)) = true := decide_eq_true c2
   clear c2
   by_cases c3 : 0 ≤ x4_1
   rotate_left
   ·rw [if_neg c3] at H
    exact absurd H (by simp)
   rw [if_pos c3] at H
   have c3b0 : decide (0 ≤ x4_1) = true := decide_eq_true c3
   clear c3
   by_cases c4 : x3_1.length < 3518437208883
   rotate_left
   ·rw [if_neg c4] at H
    exact absurd H (by simp)
   rw [if_pos c4] at H
   have LMc4 := am_ c4
   clear c4
   obtain ⟨y428, hy428⟩ : ∃ y_ : List (S28), y_ = (x3_1 ++ [(⟨(rd_T44 l0 x4_1).f0, (rd_T44 l0 x4_1).f1, (rd_T44 l0 x4_1).f2, (rd_T44 l0 x4_1).f3⟩ : S28)]) := ⟨_, rfl⟩
   replace H : (computuslaw21_forward.l0 k1 l0 y428 (wrap64 (x4_1 + 1))) = some r := by first | (rw [hy428]; with_reducible exact H) | (have H2_ := (Option.bind_some _ _).symm.trans H; rw [hy428]; with_reducible exact H2_) | (have H2_ := (Option.bind_some _ _).symm.trans H; with_reducible exact H2_) | with_reducible exact H | (rw [hy428]; exact H) | exact H
   have Ny428 := am_ hy428
   clear hy428
   have H' := am_ H
   clear H
   try go_wp2
   replace HO_3 := am_ (Kd.R_drew HO_3.out)
   replace HB := am_ (below_drew1 HB.out)
   have p424 : 0 ≤ (x4_1 : Int) := of_decide_eq_true as_
   have q424 : x4_1 < (l0.length : Int) := of_decide_eq_true as_
   obtain ⟨ad424, e424, hx424_0, hx424_1, hx424_2, hx424_3⟩ := at_T44 HR0.out x4_1 p424 q424
   have hw424_3 := hx424_3
   have hw424_2 := hx424_2
   have hw424_1 := hx424_1
   have hw424_0 := hx424_0
   cases e424
   replace hx424_0 := cm_ HB.out hx424_0
   replace hx424_1 := cm_ HB.out hx424_1
   replace hx424_2 := cm_ HB.out hx424_2
   replace hx424_3 := cm_ HB.out hx424_3
   replace p424 := eq_true p424
   replace q424 := eq_true q424
   have p425 : 0 ≤ (x4_1 : Int) := of_decide_eq_true as_
   have q425 : x4_1 < (l0.length : Int) := of_decide_eq_true as_
   obtain ⟨ad425, e425, hx425_0, hx425_1, hx425_2, hx425_3⟩ := at_T44 HR0.out x4_1 p425 q425
   have hw425_3 := hx425_3
   have hw425_2 := hx425_2
   have hw425_1 := hx425_1
   have hw425_0 := hx425_0
   obtain rfl : ad424 = ad425 := (by injection e425)
   replace hx425_0 := cm_ HB.out hx425_0
   replace hx425_1 := cm_ HB.out hx425_1
   replace hx425_2 := cm_ HB.out hx425_2
   replace hx425_3 := cm_ HB.out hx425_3
   replace p425 := eq_true p425
   replace q425 := eq_true q425
   have p426 : 0 ≤ (x4_1 : Int) := of_decide_eq_true as_
   have q426 : x4_1 < (l0.length : Int) := of_decide_eq_true as_
   obtain ⟨ad426, e426, hx426_0, hx426_1, hx426_2, hx426_3⟩ := at_T44 HR0.out x4_1 p426 q426
   have hw426_3 := hx426_3
   have hw426_2 := hx426_2
   have hw426_1 := hx426_1
   have hw426_0 := hx426_0
   obtain rfl : ad424 = ad426 := (by injection e426)
   replace hx426_0 := cm_ HB.out hx426_0
   replace hx426_1 := cm_ HB.out hx426_1
   replace hx426_2 := cm_ HB.out hx426_2
   replace hx426_3 := cm_ HB.out hx426_3
   replace p426 := eq_true p426
   replace q426 := eq_true q426
   have p427 : 0 ≤ (x4_1 : Int) := of_decide_eq_true as_
   have q427 : x4_1 < (l0.length : Int) := of_decide_eq_true as_
   obtain ⟨ad427, e427, hx427_0, hx427_1, hx427_2, hx427_3⟩ := at_T44 HR0.out x4_1 p427 q427
   have hw427_3 := hx427_3
   have hw427_2 := hx427_2
   have hw427_1 := hx427_1
   have hw427_0 := hx427_0
   obtain rfl : ad424 = ad427 := (by injection e427)
   replace hx427_0 := cm_ HB.out hx427_0
   replace hx427_1 := cm_ HB.out hx427_1
   replace hx427_2 := cm_ HB.out hx427_2
   replace hx427_3 := cm_ HB.out hx427_3
   replace p427 := eq_true p427
   replace q427 := eq_true q427
   refine start_ (n := 25) (S := fun w' => w'.cell? (ad424.add ((x4_1).toNat * 4)) = some (.int .i64 ((rd_T44 l0 x4_1).f0)) ∧ w'.cell? ⟨(ad424.add ((x4_1).toNat * 4)).block, (ad424.add ((x4_1).toNat * 4)).off + 1, none⟩ = some (.int .i64 ((rd_T44 l0 x4_1).f1)) ∧ w'.cell? ⟨(ad424.add ((x4_1).toNat * 4)).block, (ad424.add ((x4_1).toNat * 4)).off + 2, none⟩ = some (.int .i64 ((rd_T44 l0 x4_1).f2)) ∧ w'.cell? ⟨(ad424.add ((x4_1).toNat * 4)).block, (ad424.add ((x4_1).toNat * 4)).off + 3, none⟩ = some (.string ((rd_T44 l0 x4_1).f3)) ∧ w'.cell? (ad424.add ((x4_1).toNat * 4)) = some (.int .i64 ((rd_T44 l0 x4_1).f0)) ∧ w'.cell? ⟨(ad424.add ((x4_1).toNat * 4)).block, (ad424.add ((x4_1).toNat * 4)).off + 1, none⟩ = some (.int .i64 ((rd_T44 l0 x4_1).f1)) ∧ w'.cell? ⟨(ad424.add ((x4_1).toNat * 4)).block, (ad424.add ((x4_1).toNat * 4)).off + 2, none⟩ = some (.int .i64 ((rd_T44 l0 x4_1).f2)) ∧ w'.cell? ⟨(ad424.add ((x4_1).toNat * 4)).block, (ad424.add ((x4_1).toNat * 4)).off + 3, none⟩ = some (.string ((rd_T44 l0 x4_1).f3)) ∧ w'.cell? (ad424.add ((x4_1).toNat * 4)) = some (.int .i64 ((rd_T44 l0 x4_1).f0)) ∧ w'.cell? ⟨(ad424.add ((x4_1).toNat * 4)).block, (ad424.add ((x4_1).toNat * 4)).off + 1, none⟩ = some (.int .i64 ((rd_T44 l0 x4_1).f1)) ∧ w'.cell? ⟨(ad424.add ((x4_1).toNat * 4)).block, (ad424.add ((x4_1).toNat * 4)).off + 2, none⟩ = some (.int .i64 ((rd_T44 l0 x4_1).f2)) ∧ w'.cell? ⟨(ad424.add ((x4_1).toNat * 4)).block, (ad424.add ((x4_1).toNat * 4)).off + 3, none⟩ = some (.string ((rd_T44 l0 x4_1).f3)) ∧ w'.cell? (ad424.add ((x4_1).toNat * 4)) = some (.int .i64 ((rd_T44 l0 x4_1).f0)) ∧ w'.cell? ⟨(ad424.add ((x4_1).toNat * 4)).block, (ad424.add ((x4_1).toNat * 4)).off + 1, none⟩ = some (.int .i64 ((rd_T44 l0 x4_1).f1)) ∧ w'.cell? ⟨(ad424.add ((x4_1).toNat * 4)).block, (ad424.add ((x4_1).toNat * 4)).off + 2, none⟩ = some (.int .i64 ((rd_T44 l0 x4_1).f2)) ∧ w'.cell? ⟨(ad424.add ((x4_1).toNat * 4)).block, (ad424.add ((x4_1).toNat * 4)).off + 3, none⟩ = some (.string ((rd_T44 l0 x4_1).f3))) (ds := []) (bf_ 25 0) (by kernel_rfl) rfl rfl ⟨((HB.out.cell (World.block_lt_of_cell? w _ hw424_0)).trans hw424_0), ((HB.out.cell (World.block_lt_of_cell? w _ hw424_1)).trans hw424_1), ((HB.out.cell (World.block_lt_of_cell? w _ hw424_2)).trans hw424_2), ((HB.out.cell (World.block_lt_of_cell? w _ hw424_3)).trans hw424_3), ((HB.out.cell (World.block_lt_of_cell? w _ hw425_0)).trans hw425_0), ((HB.out.cell (World.block_lt_of_cell? w _ hw425_1)).trans hw425_1), ((HB.out.cell (World.block_lt_of_cell? w _ hw425_2)).trans hw425_2), ((HB.out.cell (World.block_lt_of_cell? w _ hw425_3)).trans hw425_3), ((HB.out.cell (World.block_lt_of_cell? w _ hw426_0)).trans hw426_0), ((HB.out.cell (World.block_lt_of_cell? w _ hw426_1)).trans hw426_1), ((HB.out.cell (World.block_lt_of_cell? w _ hw426_2)).trans hw426_2), ((HB.out.cell (World.block_lt_of_cell? w _ hw426_3)).trans hw426_3), ((HB.out.cell (World.block_lt_of_cell? w _ hw427_0)).trans hw427_0), ((HB.out.cell (World.block_lt_of_cell? w _ hw427_1)).trans hw427_1), ((HB.out.cell (World.block_lt_of_cell? w _ hw427_2)).trans hw427_2), ((HB.out.cell (World.block_lt_of_cell? w _ hw427_3)).trans hw427_3)⟩ (fun hHeld => ?_); refine with_tabW computuslaw21_forward.tab5 computuslaw21_forward.bits5 (fun HT_ HW_ => ?_)
   generalize wr.drew = w5 at HO_3 HB hx424_0 hx424_1 hx424_2 hx424_3 hx425_0 hx425_1 hx425_2 hx425_3 hx426_0 hx426_1 hx426_2 hx426_3 hx427_0 hx427_1 hx427_2 hx427_3 hHeld ⊢
   refine pu_ 0 (some 11) (bf_ 25 1) HT_.out ?_
   refine pu_ 1 (some 12) (bf_ 25 3) HT_.out ?_
   refine pu_ 2 (some 13) (bf_ 25 7) HT_.out ?_
   refine pu_ 3 (some 14) (bf_ 25 15) HT_.out ?_
   refine pu_ 4 (some 15) (bf_ 25 31) HT_.out ?_
   refine pu_ 6 (some 17) (bf_ 25 95) HT_.out ?_
   refine pu_ 7 (some 18) (bf_ 25 223) HT_.out ?_
   refine pu_ 8 (some 19) (bf_ 25 479) HT_.out ?_
   refine pu_ 9 (some 20) (bf_ 25 991) HT_.out ?_
   refine pu_ 11 (some 22) (bf_ 25 3039) HT_.out ?_
   refine pu_ 12 (some 23) (bf_ 25 7135) HT_.out ?_
   refine pu_ 13 (some 24) (bf_ 25 15327) HT_.out ?_
   refine pu_ 14 (some 25) (bf_ 25 31711) HT_.out ?_
   refine pu_ 16 (some 27) (bf_ 25 97247) HT_.out ?_
   refine pu_ 17 (some 28) (bf_ 25 228319) HT_.out ?_
   refine pu_ 18 (some 29) (bf_ 25 490463) HT_.out ?_
   refine pu_ 19 (some 30) (bf_ 25 1014751) HT_.out ?_
   refine ta_ 5 (some 16) (bf_ 25 1014783) HT_.out HW_.out hHeld ?_
   refine ta_ 10 (some 21) (bf_ 25 1015807) HT_.out HW_.out hHeld ?_
   refine ta_ 15 (some 26) (bf_ 25 1048575) HT_.out HW_.out hHeld ?_
   refine ta_ 20 (some 31) (bf_ 25 2097151) HT_.out HW_.out hHeld ?_
   refine pu_ 21 (some 32) (bf_ 25 4194303) HT_.out ?_
   refine one_ (i := 22) (N := some 33) (bf_ 25 8388607) rfl rfl (one_of HT_.out (by kernel_rfl)) (by decide) (fun K hK => ?_)
   refine value_ (w1 := ?_) (v := ?_) (by rfl) rfl ?_ ?_
   rotate_left 2
   ·go_simp
    constructor
    ·rfl
    ·rfl
   refine hK.out _ _ ⟨(World.cell?_alloc_lt _ _ _ (World.block_lt_of_cell? _ _ (((HB.out.cell (World.block_lt_of_cell? w _ hw424_0)).trans hw424_0)))).trans (((HB.out.cell (World.block_lt_of_cell? w _ hw424_0)).trans hw424_0)), (World.cell?_alloc_lt _ _ _ (World.block_lt_of_cell? _ _ (((HB.out.cell (World.block_lt_of_cell? w _ hw424_1)).trans hw424_1)))).trans (((HB.out.cell (World.block_lt_of_cell? w _ hw424_1)).trans hw424_1)), (World.cell?_alloc_lt _ _ _ (World.block_lt_of_cell? _ _ (((HB.out.cell (World.block_lt_of_cell? w _ hw424_2)).trans hw424_2)))).trans (((HB.out.cell (World.block_lt_of_cell? w _ hw424_2)).trans hw424_2)), (World.cell?_alloc_lt _ _ _ (World.block_lt_of_cell? _ _ (((HB.out.cell (World.block_lt_of_cell? w _ hw424_3)).trans hw424_3)))).trans (((HB.out.cell (World.block_lt_of_cell? w _ hw424_3)).trans hw424_3)), (World.cell?_alloc_lt _ _ _ (World.block_lt_of_cell? _ _ (((HB.out.cell (World.block_lt_of_cell? w _ hw425_0)).trans hw425_0)))).trans (((HB.out.cell (World.block_lt_of_cell? w _ hw425_0)).trans hw425_0)), (World.cell?_alloc_lt _ _ _ (World.block_lt_of_cell? _ _ (((HB.out.cell (World.block_lt_of_cell? w _ hw425_1)).trans hw425_1)))).trans (((HB.out.cell (World.block_lt_of_cell? w _ hw425_1)).trans hw425_1)), (World.cell?_alloc_lt _ _ _ (World.block_lt_of_cell? _ _ (((HB.out.cell (World.block_lt_of_cell? w _ hw425_2)).trans hw425_2)))).trans (((HB.out.cell (World.block_lt_of_cell? w _ hw425_2)).trans hw425_2)), (World.cell?_alloc_lt _ _ _ (World.block_lt_of_cell? _ _ (((HB.out.cell (World.block_lt_of_cell? w _ hw425_3)).trans hw425_3)))).trans (((HB.out.cell (World.block_lt_of_cell? w _ hw425_3)).trans hw425_3)), (World.cell?_alloc_lt _ _ _ (World.block_lt_of_cell? _ _ (((HB.out.cell (World.block_lt_of_cell? w _ hw426_0)).trans hw426_0)))).trans (((HB.out.cell (World.block_lt_of_cell? w _ hw426_0)).trans hw426_0)), (World.cell?_alloc_lt _ _ _ (World.block_lt_of_cell? _ _ (((HB.out.cell (World.block_lt_of_cell? w _ hw426_1)).trans hw426_1)))).trans (((HB.out.cell (World.block_lt_of_cell? w _ hw426_1)).trans hw426_1)), (World.cell?_alloc_lt _ _ _ (World.block_lt_of_cell? _ _ (((HB.out.cell (World.block_lt_of_cell? w _ hw426_2)).trans hw426_2)))).trans (((HB.out.cell (World.block_lt_of_cell? w _ hw426_2)).trans hw426_2)), (World.cell?_alloc_lt _ _ _ (World.block_lt_of_cell? _ _ (((HB.out.cell (World.block_lt_of_cell? w _ hw426_3)).trans hw426_3)))).trans (((HB.out.cell (World.block_lt_of_cell? w _ hw426_3)).trans hw426_3)), (World.cell?_alloc_lt _ _ _ (World.block_lt_of_cell? _ _ (((HB.out.cell (World.block_lt_of_cell? w _ hw427_0)).trans hw427_0)))).trans (((HB.out.cell (World.block_lt_of_cell? w _ hw427_0)).trans hw427_0)), (World.cell?_alloc_lt _ _ _ (World.block_lt_of_cell? _ _ (((HB.out.cell (World.block_lt_of_cell? w _ hw427_1)).trans hw427_1)))).trans (((HB.out.cell (World.block_lt_of_cell? w _ hw427_1)).trans hw427_1)), (World.cell?_alloc_lt _ _ _ (World.block_lt_of_cell? _ _ (((HB.out.cell (World.block_lt_of_cell? w _ hw427_2)).trans hw427_2)))).trans (((HB.out.cell (World.block_lt_of_cell? w _ hw427_2)).trans hw427_2)), (World.cell?_alloc_lt _ _ _ (World.block_lt_of_cell? _ _ (((HB.out.cell (World.block_lt_of_cell? w _ hw427_3)).trans hw427_3)))).trans (((HB.out.cell (World.block_lt_of_cell? w _ hw427_3)).trans hw427_3))⟩ (fun hHeld => ?_)
   clear hK K
   refine norm_ (a' := ?_) ?_ ?_
   rotate_left
   ·show Act.put _ (some 33) _ = _
    simp only [Act.put, sA_, sZ_, sS_, i64_w, i32_w]
    rfl
   refine one_ (i := 23) (N := some 34) (bf_ 25 16777215) rfl rfl (one_of HT_.out (by kernel_rfl)) (by decide) (fun K hK => ?_)
   refine Kd.R_append_step k28 (w0 := w) w.heap.size (by rfl) (.tmp 11) (.tmp 33) 24 28 (.agg #[(.int .i64 0), (.int .i64 0), (.int .i64 0), (.string ⟨#[]⟩)]) 40 rfl Try.underlying24 info28 rfl (by decide) (by omega) u3 x3_1 (⟨(rd_T44 l0 x4_1).f0, (rd_T44 l0 x4_1).f1, (rd_T44 l0 x4_1).f2, (rd_T44 l0 x4_1).f3⟩ : S28) [.int .i64 ((rd_T44 l0 x4_1).f0), .int .i64 ((rd_T44 l0 x4_1).f1), .int .i64 ((rd_T44 l0 x4_1).f2), .string ((rd_T44 l0 x4_1).f3)] (fun _ => True) (fun _ => False) rfl rfl ?aP (fun _ hk => hk.elim) ?aF ?aO ?aB ?aS ?aL ?_
   (case aP => exact k28_mkM _ _ _ (⟨(rd_T44 l0 x4_1).f0, (rd_T44 l0 x4_1).f1, (rd_T44 l0 x4_1).f2, (rd_T44 l0 x4_1).f3⟩ : S28))
   (case aB => exact bh_)
   (case aF => exact (fun _ _ => trivial))
   (case aO => exact (rk_ HO_3.out))
   (case aS => exact bz_)
   (case aL => have := LMc4.out; omega)
   intro v429 w6 ho hb hg hat
   rw [← Ny428.out] at ho
   have n0_ := am_ (hb)
   have n1_ := am_ (ho)
   clear HB
   clear HO_3
   have HB := n0_
   have HO430 := n1_
   clear n0_ n1_
   clear ho hb hg hat
   refine hK.out _ _ ⟨((HB.out.cell (World.block_lt_of_cell? w _ hw424_0)).trans hw424_0), ((HB.out.cell (World.block_lt_of_cell? w _ hw424_1)).trans hw424_1), ((HB.out.cell (World.block_lt_of_cell? w _ hw424_2)).trans hw424_2), ((HB.out.cell (World.block_lt_of_cell? w _ hw424_3)).trans hw424_3), ((HB.out.cell (World.block_lt_of_cell? w _ hw425_0)).trans hw425_0), ((HB.out.cell (World.block_lt_of_cell? w _ hw425_1)).trans hw425_1), ((HB.out.cell (World.block_lt_of_cell? w _ hw425_2)).trans hw425_2), ((HB.out.cell (World.block_lt_of_cell? w _ hw425_3)).trans hw425_3), ((HB.out.cell (World.block_lt_of_cell? w _ hw426_0)).trans hw426_0), ((HB.out.cell (World.block_lt_of_cell? w _ hw426_1)).trans hw426_1), ((HB.out.cell (World.block_lt_of_cell? w _ hw426_2)).trans hw426_2), ((HB.out.cell (World.block_lt_of_cell? w _ hw426_3)).trans hw426_3), ((HB.out.cell (World.block_lt_of_cell? w _ hw427_0)).trans hw427_0), ((HB.out.cell (World.block_lt_of_cell? w _ hw427_1)).trans hw427_1), ((HB.out.cell (World.block_lt_of_cell? w _ hw427_2)).trans hw427_2), ((HB.out.cell (World.block_lt_of_cell? w _ hw427_3)).trans hw427_3)⟩ (fun hHeld => ?_)
   clear hK K
   refine norm_ (a' := ?_) ?_ ?_
   rotate_left
   ·show Act.put _ (some 34) _ = _
    simp only [Act.put, sA_, sZ_, sS_, i64_w, i32_w]
    rfl
   refine pu_ 24 (some 3) (bf_ 25 33554431) HT_.out ?_
   refine done_ (done_of HT_.out (by kernel_rfl)) ?_
   try go_wp2
   go_roundg k1
   case measure => have := HK1.out; omega
   case rel => exact ⟨(y428), (wrap64 (x4_1 + 1)), rs_, H', ⟨by have := HK1.out; omega⟩, ⟨rk_ HO430.out⟩, ⟨bh_⟩⟩
end Go.Proofs.Ytopfjjdkffdjpaa.Q
end
section
namespace Go.Proofs.Ytopfjjdkffdjpaa.Q
open Go.RowKit Go.Proofs.YtopfjjdkffdjpaaW.PrintWords Go.Proofs.YtopfjjdkffdjpaaW.PrintLast Go.Proofs.YtopfjjdkffdjpaaW.PrintMore
theorem put_size (a : Act) (i : Nat) (v : Value) : (a.put (some i) v).tmps.size = a.tmps.size := by simp [Act.put]
theorem put_get (a : Act) {i : Nat} (v : Value) (h : i < a.tmps.size) : (a.put (some i) v).eval (.tmp i) = v := by simp [Act.put, Act.eval, h]
theorem put_ne (a : Act) {i j : Nat} (v : Value) (h : i ≠ j) : (a.put (some i) v).eval (.tmp j) = a.eval (.tmp j) := by
 simp only [Act.put, Act.eval]
 simp [Array.getElem?_setIfInBounds_ne h]
theorem put_comm (a : Act) {i j : Nat} (v u : Value) (h : i ≠ j) : (a.put (some i) v).put (some j) u = (a.put (some j) u).put (some i) v := by
 simp only [Act.put]
 rw [Array.setIfInBounds_comm _ _ h]
def NoKey (j : Nat) : List (Tmp × Value) → Prop
 | [] => True
 | (i, _) :: r => @Ne Nat i j ∧ NoKey j r
theorem putAll_ne {j : Nat} : ∀ (L : List (Tmp × Value)) (a : Act), NoKey j L → (putAll a L).eval (.tmp j) = a.eval (.tmp j)
 | [], a, _ => rfl
 | (i, v) :: r, a, h => by rw [putAll, putAll_ne r _ h.2, put_ne _ _ h.1]
theorem putAll_get {j : Nat} {v : Value} {L2 : List (Tmp × Value)} : ∀ (L1 : List (Tmp × Value)) (a : Act), j < a.tmps.size → NoKey j L2 → (putAll a (L1 ++ (j, v) :: L2)).eval (.tmp j) = v
 | [], a, h, h2 => by rw [List.nil_append, putAll, putAll_ne _ _ h2, put_get _ _ h]
 | (i, u) :: r, a, h, h2 => by rw [List.cons_append, putAll, putAll_get r _ (by rw [put_size]; exact h) h2]
theorem putAll_ins {j : Nat} {v : Value} : ∀ (L2 : List (Tmp × Value)) (a : Act), NoKey j L2 → (putAll a L2).put (some j) v = putAll (a.put (some j) v) L2
 | [], a, _ => rfl
 | (i, u) :: r, a, h => by rw [putAll, putAll, putAll_ins r _ h.2, put_comm _ _ _ h.1]
theorem putAll_at {j : Nat} {v : Value} {d : Option Tmp} (L1 L2 : List (Tmp × Value)) (a : Act) (hd : d = some j) (h : NoKey j L2) : (putAll a (L1 ++ L2)).put d v = putAll a (L1 ++ (j, v) :: L2) := by
 subst hd
 induction L1 generalizing a with
 | nil => exact putAll_ins L2 a h
 | cons p r ih => exact ih _
def zeroS : Obj := .cells #[.int .i64 0, .int .i64 0, .int .i64 0, .string (⟨#[]⟩ : ByteArray), .slice none 0 0, .slice none 0 0, .slice none 0 0] 46 (0, 0)
structure D3 (W0 W : World) (G : Option Nat) (v1 : Value) (l1 : List Int) (v2 : Value) (l2 : List Int) (v3 : Value) (l3 : List Int) : Prop where
 B : Below W0.heap.size W0 W
 r1 : Kd.R (Kd.int .i64) 3 W W0.heap.size (fun k => some k ≠ v2.ownBlock ∧ some k ≠ v3.ownBlock ∧ some k ≠ G) v1 l1
 r2 : Kd.R (Kd.int .i64) 3 W W0.heap.size (fun k => some k ≠ v1.ownBlock ∧ some k ≠ v3.ownBlock ∧ some k ≠ G) v2 l2
 r3 : Kd.R (Kd.int .i64) 3 W W0.heap.size (fun k => some k ≠ v1.ownBlock ∧ some k ≠ v2.ownBlock ∧ some k ≠ G) v3 l3
 g : ∀ g, G = some g → W.heap[g]? = some zeroS ∧ W0.heap.size ≤ g
section
variable {W0 W W1 : World} {G : Option Nat} {v1 v2 v3 u : Value} {l1 l2 l3 m : List Int}
theorem D3.swap2 (h : D3 W0 W G v1 l1 v2 l2 v3 l3) : D3 W0 W G v2 l2 v1 l1 v3 l3 := ⟨h.B, h.r2, h.r1, Kd.R_mono h.r3 (fun k hk => ⟨hk.2.1, hk.1, hk.2.2⟩), h.g⟩
theorem D3.swap3 (h : D3 W0 W G v1 l1 v2 l2 v3 l3) : D3 W0 W G v3 l3 v2 l2 v1 l1 := ⟨h.B, Kd.R_mono h.r3 (fun k hk => ⟨hk.2.1, hk.1, hk.2.2⟩), Kd.R_mono h.r2 (fun k hk => ⟨hk.2.1, hk.1, hk.2.2⟩), Kd.R_mono h.r1 (fun k hk => ⟨hk.2.1, hk.1, hk.2.2⟩), h.g⟩
theorem D3.fresh (h : D3 W0 W G v1 l1 v2 l2 v3 l3) (k : Nat) (hk : W.heap.size ≤ k) : some k ≠ v2.ownBlock ∧ some k ≠ v3.ownBlock ∧ some k ≠ G := by
 refine ⟨fun e => ?_, fun e => ?_, fun e => ?_⟩
 ·have := ((Kd.R_bound h.r2).1 k e.symm).2.2.1; omega
 ·have := ((Kd.R_bound h.r3).1 k e.symm).2.2.1; omega
 ·have := blk_lt (h.g k e.symm).1; omega
theorem D3.change (h : D3 W0 W G v1 l1 v2 l2 v3 l3) (hr : Kd.R (Kd.int .i64) 3 W1 W0.heap.size (fun k => some k ≠ v2.ownBlock ∧ some k ≠ v3.ownBlock ∧ some k ≠ G) u m) (hb : Below W0.heap.size W0 W1) (hg : W.grownBy W1 v1.ownBlock) (hat : u.ownBlock = v1.ownBlock ∨ ∃ b, u.ownBlock = some b ∧ W.heap.size ≤ b) : D3 W0 W1 G u m v2 l2 v3 l3 := by
 refine ⟨hb, hr, ?_, ?_, fun g e => ⟨?_, (h.g g e).2⟩⟩
 ·exact Kd.R_mono (Kd.R_after (ok := fun k => some k ≠ v3.ownBlock ∧ some k ≠ G) (Kd.R_mono h.r2 (fun k hk => ⟨⟨hk.2.1, hk.2.2⟩, hk.1⟩)) hg hat) (fun k hk => ⟨hk.2, hk.1.1, hk.1.2⟩)
 ·exact Kd.R_mono (Kd.R_after (ok := fun k => some k ≠ v2.ownBlock ∧ some k ≠ G) (Kd.R_mono h.r3 (fun k hk => ⟨⟨hk.2.1, hk.2.2⟩, hk.1⟩)) hg hat) (fun k hk => ⟨hk.2, hk.1.1, hk.1.2⟩)
 ·exact (hg.block g (blk_lt (h.g g e).1) (fun e2 => (h.r1.1 g e2.symm).2.2 e.symm)).trans (h.g g e).1
theorem D3.alloc (h : D3 W0 W none v1 l1 v2 l2 v3 l3) : D3 W0 (W.alloc zeroS) (some W.heap.size) v1 l1 v2 l2 v3 l3 := by
 have go : ∀ {ok : Nat → Prop} {v : Value} {l : List Int}, Kd.R (Kd.int .i64) 3 W W0.heap.size ok v l → Kd.R (Kd.int .i64) 3 (W.alloc zeroS) W0.heap.size (fun k => ok k ∧ some k ≠ some W.heap.size) v l := fun hr =>
  Kd.R_mono (Kd.R_grown (Kd.R_bound hr) (World.grownBy_alloc W zeroS none) (fun k _ => by simp)) (fun k hk => ⟨hk.1, fun e => by injection e with e; have := hk.2.2.1; omega⟩)
 refine ⟨h.B.alloc h.B.size _, Kd.R_mono (go h.r1) (fun k hk => ⟨hk.1.1, hk.1.2.1, hk.2⟩), Kd.R_mono (go h.r2) (fun k hk => ⟨hk.1.1, hk.1.2.1, hk.2⟩), Kd.R_mono (go h.r3) (fun k hk => ⟨hk.1.1, hk.1.2.1, hk.2⟩), fun g e => ?_⟩
 injection e with e
 subst e
 exact ⟨blk_new W _, h.B.size⟩
theorem D3.start (W0 : World) : D3 W0 W0 none (.slice none 0 0) [] (.slice none 0 0) [] (.slice none 0 0) [] := ⟨Below.refl _ _, Kd.R_nil _ _ _ _ _, Kd.R_nil _ _ _ _ _, Kd.R_nil _ _ _ _ _, fun g e => by cases e⟩
end
theorem R_slice {e base : Nat} {W : World} {ok : Nat → Prop} {v : Value} {l : List Int} (h : Kd.R (Kd.int .i64) e W base ok v l) : ∃ A n c, v = .slice A n c := by
 obtain ⟨_, inner, ho, _⟩ := h
 rcases ho.2 with ⟨rfl, _⟩ | ⟨g, cap, cur, rfl, _⟩
 ·exact ⟨_, _, _, rfl⟩
 ·exact ⟨_, _, _, rfl⟩
def lit3T : Bool × List (List Nat × List Nat) := (true, [([], []), ([], []), ([1], [1]), ([0, 2], [0, 2]), ([], []), ([], []), ([5], [5]), ([4, 6, 3], [4, 6]), ([], []), ([], []), ([9], [9]), ([8, 10, 7], [8, 10]), ([3, 7, 11], [3, 7, 11]), ([], []), ([13, 12, 11, 0, 1, 2, 3, 4, 5, 6, 7, 8, 9, 10, 11, 12, 13], [12, 13])])
def lit3V (x y z : Value) : Value := .agg #[.int .i64 0, .int .i64 0, .int .i64 0, .string (⟨#[]⟩ : ByteArray), x, y, z]
structure Lit3 (ops : Array Oper) (S : World → Prop) (a : Act) (W0 : World) (b N : Nat) (o0 o3 o4 o7 o8 o11 o12 o13 : Oper) (A1 A2 A3 : Option Addr) (n1 c1 n2 c2 n3 c3 : Nat) (L1 L2 L3 : List Int) : Prop where
 T : rtab .any ops = lit3T
 a0 : ops[0]? = some o0
 a3 : ops[3]? = some o3
 a4 : ops[4]? = some o4
 a7 : ops[7]? = some o7
 a8 : ops[8]? = some o8
 a11 : ops[11]? = some o11
 a12 : ops[12]? = some o12
 a13 : ops[13]? = some o13
 d0 : o0.dst = some b
 g0 : o0.guard = none
 d3 : o3.dst = some (b + 3)
 g3 : o3.guard = none
 d4 : o4.dst = some (b + 4)
 g4 : o4.guard = none
 d7 : o7.dst = some (b + 7)
 g7 : o7.guard = none
 d8 : o8.dst = some (b + 8)
 g8 : o8.guard = none
 d11 : o11.dst = some (b + 11)
 g11 : o11.guard = none
 d12 : o12.dst = some (b + 12)
 g12 : o12.guard = none
 d13 : o13.dst = some N
 g13 : o13.guard = none
 r0 : ∀ (ev : Operand → Value) (W : World), (execOp ev o0).run Try.prog W = .ok (.value (.slice (some ⟨W.heap.size, 0, none⟩) 0 0)) (W.alloc (.cells #[] 3))
 r4 : ∀ (ev : Operand → Value) (W : World), (execOp ev o4).run Try.prog W = .ok (.value (.slice (some ⟨W.heap.size, 0, none⟩) 0 0)) (W.alloc (.cells #[] 3))
 r8 : ∀ (ev : Operand → Value) (W : World), (execOp ev o8).run Try.prog W = .ok (.value (.slice (some ⟨W.heap.size, 0, none⟩) 0 0)) (W.alloc (.cells #[] 3))
 p3 : o3.op = .call { callee := .builtin .append, args := #[.tmp b, .tmp (b + 2)], argTypes := #[40, 40] }
 p7 : o7.op = .call { callee := .builtin .append, args := #[.tmp (b + 4), .tmp (b + 6)], argTypes := #[40, 40] }
 p11 : o11.op = .call { callee := .builtin .append, args := #[.tmp (b + 8), .tmp (b + 10)], argTypes := #[40, 40] }
 r12 : ∀ (ev : Operand → Value) (W : World) (B1 : Option Addr) (i1 j1 : Nat) (B2 : Option Addr) (i2 j2 : Nat) (B3 : Option Addr) (i3 j3 : Nat), ev (.tmp (b + 3)) = .slice B1 i1 j1 → ev (.tmp (b + 7)) = .slice B2 i2 j2 → ev (.tmp (b + 11)) = .slice B3 i3 j3 → (execOp ev o12).run Try.prog W = .ok (.value (lit3V (.slice B1 i1 j1) (.slice B2 i2 j2) (.slice B3 i3 j3))) W
 r13 : ∀ (ev : Operand → Value) (W : World), (execOp ev o13).run Try.prog W = .ok (.value (.pointer (some ⟨W.heap.size, 0, none⟩))) (W.alloc zeroS)
 sz : b + 12 < a.tmps.size
 lt : N < b
 e1 : a.eval (.tmp (b + 2)) = .slice A1 n1 c1
 e2 : a.eval (.tmp (b + 6)) = .slice A2 n2 c2
 e3 : a.eval (.tmp (b + 10)) = .slice A3 n3 c3
 C1 : Kd.C (Kd.int .i64) W0 A1 n1 L1
 C2 : Kd.C (Kd.int .i64) W0 A2 n2 L2
 C3 : Kd.C (Kd.int .i64) W0 A3 n3 L3
 m1 : n1 ≤ 17592186044416
 m2 : n2 ≤ 17592186044416
 m3 : n3 ≤ 17592186044416
 hS : ∀ W, Below W0.heap.size W0 W → S W
theorem lit_wanted {o : Oper} (h : o.guard = none) (y : Nat → Option Bool) : Region.wanted o y = true := by unfold Region.wanted; rw [h]
theorem pa_ {j b N : Nat} {v : Value} {d : Option Tmp} (L1 L2 : List (Tmp × Value)) (a : Act) (hd : d = some j) (hl : N < b) (h : NoKey j L2 := by first | exact trivial | (simp only [NoKey, and_true]; omega)) : (putAll a (L1 ++ L2)).put d v = putAll a (L1 ++ (j, v) :: L2) := putAll_at L1 L2 a hd h
theorem pg_ {j b N : Nat} {v : Value} {L2 : List (Tmp × Value)} (L1 : List (Tmp × Value)) (a : Act) (hz : b + 12 < a.tmps.size) (hl : N < b) (hj : j < a.tmps.size := by omega) (h : NoKey j L2 := by first | exact trivial | (simp only [NoKey, and_true]; omega)) : (putAll a (L1 ++ (j, v) :: L2)).eval (.tmp j) = v := putAll_get L1 a hj h
theorem pn_ {j b N : Nat} {x : Value} (L : List (Tmp × Value)) (a : Act) (hl : N < b) (he : a.eval (.tmp j) = x) (h : NoKey j L := by first | exact trivial | (simp only [NoKey, and_true]; omega)) : (putAll a L).eval (.tmp j) = x := (putAll_ne L a h).trans he
section
variable {ops : Array Oper} {Q : Exit → Act → World → Prop} {Kc : Act → World → Prop} {a : Act} {W0 W : World} {G : Option Nat} {v1 v2 v3 : Value} {l1 l2 l3 : List Int} {o : Oper} {b : Tmp}
theorem lit_build (hg : o.guard = none) (hd : o.dst = some b) (hr : ∀ (ev : Operand → Value) (W : World), (execOp ev o).run Try.prog W = .ok (.value (.slice (some ⟨W.heap.size, 0, none⟩) 0 0)) (W.alloc (.cells #[] 3))) (H : D3 W0 W G (.slice none 0 0) l1 v2 l2 v3 l3)
  (h : ∀ u W1, D3 W0 W1 G u [] v2 l2 v3 l3 → Kc (a.put o.dst u) W1) : if Region.wanted o (yielded ops a.tmps) = true then Oper.wp Try.prog o a W Kc Q else Kc (a.put o.dst undef) W := by
 refine Kd.R_lit_step (Kd.int .i64) (w0 := W0) W0.heap.size 3 (lit_wanted hg _) (N := b) hd (xs := ([] : List Int)) (inner := []) (ok := fun k => some k ≠ v2.ownBlock ∧ some k ≠ v3.ownBlock ∧ some k ≠ G) (okp := fun _ => False) (hr _ _) (Reps.none _ _) (fun _ h => h.elim) (H.fresh _ (Nat.le_refl _)) H.B H.B.size (by simp) ?_
 intro u W1 h1 hb h2 hat
 exact h u W1 (H.change h1 hb h2 (.inr hat))
theorem lit_app {s x : Operand} {A : Option Addr} {n c : Nat} {Lx : List Int} (hg : o.guard = none) (ho : o.op = .call { callee := .builtin .append, args := #[s, x], argTypes := #[40, 40] }) (H : D3 W0 W G v1 [] v2 l2 v3 l3) (hC : Kd.C (Kd.int .i64) W0 A n Lx) (hm : n ≤ 17592186044416) (hs : a.eval s = v1) (hx : a.eval x = .slice A n c)
  (h : ∀ u W1, D3 W0 W1 G u Lx v2 l2 v3 l3 → Kc (a.put o.dst u) W1) : if Region.wanted o (yielded ops a.tmps) = true then Oper.wp Try.prog o a W Kc Q else Kc (a.put o.dst undef) W := by
 refine Kd.R_append_rows_step (Kd.int .i64) (w0 := W0) W0.heap.size (lit_wanted hg _) s x 40 3 (.int .i64 0) 8 ho Try.underlying40 info3 rfl (by decide) (by omega) v1 ([] : List Int) Lx A n c (fun k => some k ≠ v2.ownBlock ∧ some k ≠ v3.ownBlock ∧ some k ≠ G) (fun _ => False) hs hx H.r1 (Kd.C_below hC H.B) (fun _ _ h => h) (fun _ h => h.elim) H.fresh H.B H.B.size (by simp; omega) ?_
 intro u W1 h1 hb h2 hat
 rw [List.nil_append] at h1
 exact h u W1 (H.change h1 hb h2 hat)
end
section
variable {ops : Array Oper} {S : World → Prop} {a : Act} {W0 : World} {b N : Nat} {o0 o3 o4 o7 o8 o11 o12 o13 : Oper} {A1 A2 A3 : Option Addr} {n1 c1 n2 c2 n3 c3 : Nat} {L1 L2 L3 : List Int} {Q : Exit → Act → World → Prop}
def Lit3J (ops : Array Oper) (S : World → Prop) (a : Act) (W0 : World) (b N : Nat) (L1 L2 L3 : List Int) (Q : Exit → Act → World → Prop) : Prop :=
 (∀ c (a : Act) (d : Tmp) v w, Q (.panic c) (a.put (some d) v) w → Q (.panic c) a w) ∧ ∀ (x1 y1 x2 y2 x3 y3 : Value) (g : Nat) (W : World), D3 W0 W (some g) y1 L1 y2 L2 y3 L3 → wpAnyLast Try.prog .any ops Q S [] 1 #[true, true, true, true, true, true, true, true, true, true, true, true, true, true, false] (putAll a [(b, x1), (b + 3, y1), (b + 4, x2), (b + 7, y2), (b + 8, x3), (b + 11, y3), (N, .pointer (some ⟨g, 0, none⟩)), (b + 12, lit3V y1 y2 y3)]) W
variable (L : Lit3 ops S a W0 b N o0 o3 o4 o7 o8 o11 o12 o13 A1 A2 A3 n1 c1 n2 c2 n3 c3 L1 L2 L3) (HJ : Lit3J ops S a W0 b N L1 L2 L3 Q)
include L HJ
theorem lit3_11131 (x1 y1 x2 y2 x3 y3 : Value) (g : Nat) (W : World) (H : D3 W0 W (some g) y1 L1 y2 L2 y3 L3) : wpAnyLast Try.prog .any ops Q S [] 2 (bf_ 15 12287) (putAll a [(b, x1), ((b + 3), y1), ((b + 4), x2), ((b + 7), y2), ((b + 8), x3), ((b + 11), y3), (N, .pointer (some ⟨g, 0, none⟩))]) W := by
 have hl := L.lt
 have hz := L.sz
 obtain ⟨B1, i1, j1, rfl⟩ := R_slice H.r1
 obtain ⟨B2, i2, j2, rfl⟩ := R_slice H.r2
 obtain ⟨B3, i3, j3, rfl⟩ := R_slice H.r3
 refine pure_ (i := 12) (N := some (b + 12)) (v := lit3V (.slice B1 i1 j1) (.slice B2 i2 j2) (.slice B3 i3 j3)) (bf_ 15 16383) L.a12 L.d12 (any_of L.T (by kernel_rfl)) (fun c a w h => HJ.1 c a (b + 12) _ w (by rw [L.d12] at h; exact h)) (Or.inl ⟨lit_wanted L.g12 _, fun w => ?_⟩) (pa_ [(b, x1), ((b + 3), (.slice B1 i1 j1)), ((b + 4), x2), ((b + 7), (.slice B2 i2 j2)), ((b + 8), x3), ((b + 11), (.slice B3 i3 j3)), (N, .pointer (some ⟨g, 0, none⟩))] [] a rfl L.lt) ?_
 ·exact L.r12 _ w _ _ _ _ _ _ _ _ _ (pg_ (b := b) (N := N) [(b, x1)] a L.sz L.lt) (pg_ (b := b) (N := N) [(b, x1), ((b + 3), (.slice B1 i1 j1)), ((b + 4), x2)] a L.sz L.lt) (pg_ (b := b) (N := N) [(b, x1), ((b + 3), (.slice B1 i1 j1)), ((b + 4), x2), ((b + 7), (.slice B2 i2 j2)), ((b + 8), x3)] a L.sz L.lt)
 ·exact HJ.2 _ _ _ _ _ _ _ _ H
theorem lit3_11121 (x1 y1 x2 y2 x3 : Value) (g : Nat) (W : World) (H : D3 W0 W (some g) y1 L1 y2 L2 x3 []) : wpAnyLast Try.prog .any ops Q S [] 3 (bf_ 15 10239) (putAll a [(b, x1), ((b + 3), y1), ((b + 4), x2), ((b + 7), y2), ((b + 8), x3), (N, .pointer (some ⟨g, 0, none⟩))]) W := by
 have hl := L.lt
 have hz := L.sz
 refine one_ (i := 11) (N := o11.dst) (bf_ 15 12287) L.a11 rfl (one_of L.T (by kernel_rfl)) (by decide) (fun K hK => ?_)
 ·exact lit_app L.g11 L.p11 H.swap3 L.C3 L.m3 (pg_ (b := b) (N := N) [(b, x1), ((b + 3), y1), ((b + 4), x2), ((b + 7), y2)] a L.sz L.lt) (pn_ [(b, x1), ((b + 3), y1), ((b + 4), x2), ((b + 7), y2), ((b + 8), x3), (N, .pointer (some ⟨g, 0, none⟩))] a L.lt L.e3) (fun u W1 h => hK.out _ _ (L.hS _ h.B) (fun _ => norm_ (pa_ [(b, x1), ((b + 3), y1), ((b + 4), x2), ((b + 7), y2), ((b + 8), x3)] [(N, .pointer (some ⟨g, 0, none⟩))] a L.d11 L.lt) (lit3_11131 L HJ _ _ _ _ _ _ _ _ (h.swap3))))
theorem lit3_11130 (x1 y1 x2 y2 x3 y3 : Value) (W : World) (H : D3 W0 W none y1 L1 y2 L2 y3 L3) : wpAnyLast Try.prog .any ops Q S [] 3 (bf_ 15 4095) (putAll a [(b, x1), ((b + 3), y1), ((b + 4), x2), ((b + 7), y2), ((b + 8), x3), ((b + 11), y3)]) W := by
 have hl := L.lt
 have hz := L.sz
 obtain ⟨B1, i1, j1, rfl⟩ := R_slice H.r1
 obtain ⟨B2, i2, j2, rfl⟩ := R_slice H.r2
 obtain ⟨B3, i3, j3, rfl⟩ := R_slice H.r3
 refine pure_ (i := 12) (N := some (b + 12)) (v := lit3V (.slice B1 i1 j1) (.slice B2 i2 j2) (.slice B3 i3 j3)) (bf_ 15 8191) L.a12 L.d12 (any_of L.T (by kernel_rfl)) (fun c a w h => HJ.1 c a (b + 12) _ w (by rw [L.d12] at h; exact h)) (Or.inl ⟨lit_wanted L.g12 _, fun w => ?_⟩) (pa_ [(b, x1), ((b + 3), (.slice B1 i1 j1)), ((b + 4), x2), ((b + 7), (.slice B2 i2 j2)), ((b + 8), x3), ((b + 11), (.slice B3 i3 j3))] [] a rfl L.lt) ?_
 ·exact L.r12 _ w _ _ _ _ _ _ _ _ _ (pg_ (b := b) (N := N) [(b, x1)] a L.sz L.lt) (pg_ (b := b) (N := N) [(b, x1), ((b + 3), (.slice B1 i1 j1)), ((b + 4), x2)] a L.sz L.lt) (pg_ (b := b) (N := N) [(b, x1), ((b + 3), (.slice B1 i1 j1)), ((b + 4), x2), ((b + 7), (.slice B2 i2 j2)), ((b + 8), x3)] a L.sz L.lt)
 ·refine one_ (i := 13) (N := o13.dst) (bf_ 15 16383) L.a13 rfl (one_of L.T (by kernel_rfl)) (by decide) (fun K hK => ?_)
  exact event_step (lit_wanted L.g13 _) (L.r13 _ _) (hK.out _ _ (L.hS _ H.alloc.B) (fun _ => norm_ (pa_ [(b, x1), ((b + 3), (.slice B1 i1 j1)), ((b + 4), x2), ((b + 7), (.slice B2 i2 j2)), ((b + 8), x3), ((b + 11), (.slice B3 i3 j3))] [((b + 12), lit3V (.slice B1 i1 j1) (.slice B2 i2 j2) (.slice B3 i3 j3))] a L.d13 L.lt) (HJ.2 _ _ _ _ _ _ _ _ (H.alloc))))
theorem lit3_11021 (x1 y1 x2 y2 : Value) (g : Nat) (W : World) (H : D3 W0 W (some g) y1 L1 y2 L2 (.slice none 0 0) []) : wpAnyLast Try.prog .any ops Q S [] 4 (bf_ 15 9983) (putAll a [(b, x1), ((b + 3), y1), ((b + 4), x2), ((b + 7), y2), (N, .pointer (some ⟨g, 0, none⟩))]) W := by
 have hl := L.lt
 have hz := L.sz
 refine one_ (i := 8) (N := o8.dst) (bf_ 15 10239) L.a8 rfl (one_of L.T (by kernel_rfl)) (by decide) (fun K hK => ?_)
 ·exact lit_build L.g8 L.d8 L.r8 H.swap3 (fun u W1 h => hK.out _ _ (L.hS _ h.B) (fun _ => norm_ (pa_ [(b, x1), ((b + 3), y1), ((b + 4), x2), ((b + 7), y2)] [(N, .pointer (some ⟨g, 0, none⟩))] a L.d8 L.lt) (lit3_11121 L HJ _ _ _ _ _ _ _ (h.swap3))))
theorem lit3_11111 (x1 y1 x2 x3 : Value) (g : Nat) (W : World) (H : D3 W0 W (some g) y1 L1 x2 [] x3 []) : wpAnyLast Try.prog .any ops Q S [] 4 (bf_ 15 10111) (putAll a [(b, x1), ((b + 3), y1), ((b + 4), x2), ((b + 8), x3), (N, .pointer (some ⟨g, 0, none⟩))]) W := by
 have hl := L.lt
 have hz := L.sz
 refine one_ (i := 7) (N := o7.dst) (bf_ 15 10239) L.a7 rfl (one_of L.T (by kernel_rfl)) (by decide) (fun K hK => ?_)
 ·exact lit_app L.g7 L.p7 H.swap2 L.C2 L.m2 (pg_ (b := b) (N := N) [(b, x1), ((b + 3), y1)] a L.sz L.lt) (pn_ [(b, x1), ((b + 3), y1), ((b + 4), x2), ((b + 8), x3), (N, .pointer (some ⟨g, 0, none⟩))] a L.lt L.e2) (fun u W1 h => hK.out _ _ (L.hS _ h.B) (fun _ => norm_ (pa_ [(b, x1), ((b + 3), y1), ((b + 4), x2)] [((b + 8), x3), (N, .pointer (some ⟨g, 0, none⟩))] a L.d7 L.lt) (lit3_11121 L HJ _ _ _ _ _ _ _ (h.swap2))))
theorem lit3_11120 (x1 y1 x2 y2 x3 : Value) (W : World) (H : D3 W0 W none y1 L1 y2 L2 x3 []) : wpAnyLast Try.prog .any ops Q S [] 4 (bf_ 15 2047) (putAll a [(b, x1), ((b + 3), y1), ((b + 4), x2), ((b + 7), y2), ((b + 8), x3)]) W := by
 have hl := L.lt
 have hz := L.sz
 refine two_ (i := 11) (j := 13) (Ni := o11.dst) (Nj := o13.dst) (bf_ 15 4095) (bf_ 15 10239) L.a11 L.a13 rfl rfl (two_of L.T (by kernel_rfl)) (by decide) (by decide) (fun K hK => ?_) (fun K hK => ?_)
 ·exact lit_app L.g11 L.p11 H.swap3 L.C3 L.m3 (pg_ (b := b) (N := N) [(b, x1), ((b + 3), y1), ((b + 4), x2), ((b + 7), y2)] a L.sz L.lt) (pn_ [(b, x1), ((b + 3), y1), ((b + 4), x2), ((b + 7), y2), ((b + 8), x3)] a L.lt L.e3) (fun u W1 h => hK.out _ _ (L.hS _ h.B) (fun _ => norm_ (pa_ [(b, x1), ((b + 3), y1), ((b + 4), x2), ((b + 7), y2), ((b + 8), x3)] [] a L.d11 L.lt) (lit3_11130 L HJ _ _ _ _ _ _ _ (h.swap3))))
 ·exact event_step (lit_wanted L.g13 _) (L.r13 _ _) (hK.out _ _ (L.hS _ H.alloc.B) (fun _ => norm_ (pa_ [(b, x1), ((b + 3), y1), ((b + 4), x2), ((b + 7), y2), ((b + 8), x3)] [] a L.d13 L.lt) (lit3_11121 L HJ _ _ _ _ _ _ _ (H.alloc))))
theorem lit3_10111 (x1 y1 x3 : Value) (g : Nat) (W : World) (H : D3 W0 W (some g) y1 L1 (.slice none 0 0) [] x3 []) : wpAnyLast Try.prog .any ops Q S [] 5 (bf_ 15 10095) (putAll a [(b, x1), ((b + 3), y1), ((b + 8), x3), (N, .pointer (some ⟨g, 0, none⟩))]) W := by
 have hl := L.lt
 have hz := L.sz
 refine one_ (i := 4) (N := o4.dst) (bf_ 15 10111) L.a4 rfl (one_of L.T (by kernel_rfl)) (by decide) (fun K hK => ?_)
 ·exact lit_build L.g4 L.d4 L.r4 H.swap2 (fun u W1 h => hK.out _ _ (L.hS _ h.B) (fun _ => norm_ (pa_ [(b, x1), ((b + 3), y1)] [((b + 8), x3), (N, .pointer (some ⟨g, 0, none⟩))] a L.d4 L.lt) (lit3_11111 L HJ _ _ _ _ _ _ (h.swap2))))
theorem lit3_11011 (x1 y1 x2 : Value) (g : Nat) (W : World) (H : D3 W0 W (some g) y1 L1 x2 [] (.slice none 0 0) []) : wpAnyLast Try.prog .any ops Q S [] 5 (bf_ 15 9855) (putAll a [(b, x1), ((b + 3), y1), ((b + 4), x2), (N, .pointer (some ⟨g, 0, none⟩))]) W := by
 have hl := L.lt
 have hz := L.sz
 refine two_ (i := 7) (j := 8) (Ni := o7.dst) (Nj := o8.dst) (bf_ 15 9983) (bf_ 15 10111) L.a7 L.a8 rfl rfl (two_of L.T (by kernel_rfl)) (by decide) (by decide) (fun K hK => ?_) (fun K hK => ?_)
 ·exact lit_app L.g7 L.p7 H.swap2 L.C2 L.m2 (pg_ (b := b) (N := N) [(b, x1), ((b + 3), y1)] a L.sz L.lt) (pn_ [(b, x1), ((b + 3), y1), ((b + 4), x2), (N, .pointer (some ⟨g, 0, none⟩))] a L.lt L.e2) (fun u W1 h => hK.out _ _ (L.hS _ h.B) (fun _ => norm_ (pa_ [(b, x1), ((b + 3), y1), ((b + 4), x2)] [(N, .pointer (some ⟨g, 0, none⟩))] a L.d7 L.lt) (lit3_11021 L HJ _ _ _ _ _ _ (h.swap2))))
 ·exact lit_build L.g8 L.d8 L.r8 H.swap3 (fun u W1 h => hK.out _ _ (L.hS _ h.B) (fun _ => norm_ (pa_ [(b, x1), ((b + 3), y1), ((b + 4), x2)] [(N, .pointer (some ⟨g, 0, none⟩))] a L.d8 L.lt) (lit3_11111 L HJ _ _ _ _ _ _ (h.swap3))))
theorem lit3_11020 (x1 y1 x2 y2 : Value) (W : World) (H : D3 W0 W none y1 L1 y2 L2 (.slice none 0 0) []) : wpAnyLast Try.prog .any ops Q S [] 5 (bf_ 15 1791) (putAll a [(b, x1), ((b + 3), y1), ((b + 4), x2), ((b + 7), y2)]) W := by
 have hl := L.lt
 have hz := L.sz
 refine two_ (i := 8) (j := 13) (Ni := o8.dst) (Nj := o13.dst) (bf_ 15 2047) (bf_ 15 9983) L.a8 L.a13 rfl rfl (two_of L.T (by kernel_rfl)) (by decide) (by decide) (fun K hK => ?_) (fun K hK => ?_)
 ·exact lit_build L.g8 L.d8 L.r8 H.swap3 (fun u W1 h => hK.out _ _ (L.hS _ h.B) (fun _ => norm_ (pa_ [(b, x1), ((b + 3), y1), ((b + 4), x2), ((b + 7), y2)] [] a L.d8 L.lt) (lit3_11120 L HJ _ _ _ _ _ _ (h.swap3))))
 ·exact event_step (lit_wanted L.g13 _) (L.r13 _ _) (hK.out _ _ (L.hS _ H.alloc.B) (fun _ => norm_ (pa_ [(b, x1), ((b + 3), y1), ((b + 4), x2), ((b + 7), y2)] [] a L.d13 L.lt) (lit3_11021 L HJ _ _ _ _ _ _ (H.alloc))))
theorem lit3_11101 (x1 x2 x3 : Value) (g : Nat) (W : World) (H : D3 W0 W (some g) x1 [] x2 [] x3 []) : wpAnyLast Try.prog .any ops Q S [] 5 (bf_ 15 10103) (putAll a [(b, x1), ((b + 4), x2), ((b + 8), x3), (N, .pointer (some ⟨g, 0, none⟩))]) W := by
 have hl := L.lt
 have hz := L.sz
 refine one_ (i := 3) (N := o3.dst) (bf_ 15 10111) L.a3 rfl (one_of L.T (by kernel_rfl)) (by decide) (fun K hK => ?_)
 ·exact lit_app L.g3 L.p3 H L.C1 L.m1 (pg_ (b := b) (N := N) [] a L.sz L.lt) (pn_ [(b, x1), ((b + 4), x2), ((b + 8), x3), (N, .pointer (some ⟨g, 0, none⟩))] a L.lt L.e1) (fun u W1 h => hK.out _ _ (L.hS _ h.B) (fun _ => norm_ (pa_ [(b, x1)] [((b + 4), x2), ((b + 8), x3), (N, .pointer (some ⟨g, 0, none⟩))] a L.d3 L.lt) (lit3_11111 L HJ _ _ _ _ _ _ (h))))
theorem lit3_11110 (x1 y1 x2 x3 : Value) (W : World) (H : D3 W0 W none y1 L1 x2 [] x3 []) : wpAnyLast Try.prog .any ops Q S [] 5 (bf_ 15 1919) (putAll a [(b, x1), ((b + 3), y1), ((b + 4), x2), ((b + 8), x3)]) W := by
 have hl := L.lt
 have hz := L.sz
 refine two_ (i := 7) (j := 13) (Ni := o7.dst) (Nj := o13.dst) (bf_ 15 2047) (bf_ 15 10111) L.a7 L.a13 rfl rfl (two_of L.T (by kernel_rfl)) (by decide) (by decide) (fun K hK => ?_) (fun K hK => ?_)
 ·exact lit_app L.g7 L.p7 H.swap2 L.C2 L.m2 (pg_ (b := b) (N := N) [(b, x1), ((b + 3), y1)] a L.sz L.lt) (pn_ [(b, x1), ((b + 3), y1), ((b + 4), x2), ((b + 8), x3)] a L.lt L.e2) (fun u W1 h => hK.out _ _ (L.hS _ h.B) (fun _ => norm_ (pa_ [(b, x1), ((b + 3), y1), ((b + 4), x2)] [((b + 8), x3)] a L.d7 L.lt) (lit3_11120 L HJ _ _ _ _ _ _ (h.swap2))))
 ·exact event_step (lit_wanted L.g13 _) (L.r13 _ _) (hK.out _ _ (L.hS _ H.alloc.B) (fun _ => norm_ (pa_ [(b, x1), ((b + 3), y1), ((b + 4), x2), ((b + 8), x3)] [] a L.d13 L.lt) (lit3_11111 L HJ _ _ _ _ _ _ (H.alloc))))
theorem lit3_01101 (x2 x3 : Value) (g : Nat) (W : World) (H : D3 W0 W (some g) (.slice none 0 0) [] x2 [] x3 []) : wpAnyLast Try.prog .any ops Q S [] 6 (bf_ 15 10102) (putAll a [((b + 4), x2), ((b + 8), x3), (N, .pointer (some ⟨g, 0, none⟩))]) W := by
 have hl := L.lt
 have hz := L.sz
 refine one_ (i := 0) (N := o0.dst) (bf_ 15 10103) L.a0 rfl (one_of L.T (by kernel_rfl)) (by decide) (fun K hK => ?_)
 ·exact lit_build L.g0 L.d0 L.r0 H (fun u W1 h => hK.out _ _ (L.hS _ h.B) (fun _ => norm_ (pa_ [] [((b + 4), x2), ((b + 8), x3), (N, .pointer (some ⟨g, 0, none⟩))] a L.d0 L.lt) (lit3_11101 L HJ _ _ _ _ _ (h))))
theorem lit3_10011 (x1 y1 : Value) (g : Nat) (W : World) (H : D3 W0 W (some g) y1 L1 (.slice none 0 0) [] (.slice none 0 0) []) : wpAnyLast Try.prog .any ops Q S [] 6 (bf_ 15 9839) (putAll a [(b, x1), ((b + 3), y1), (N, .pointer (some ⟨g, 0, none⟩))]) W := by
 have hl := L.lt
 have hz := L.sz
 refine two_ (i := 4) (j := 8) (Ni := o4.dst) (Nj := o8.dst) (bf_ 15 9855) (bf_ 15 10095) L.a4 L.a8 rfl rfl (two_of L.T (by kernel_rfl)) (by decide) (by decide) (fun K hK => ?_) (fun K hK => ?_)
 ·exact lit_build L.g4 L.d4 L.r4 H.swap2 (fun u W1 h => hK.out _ _ (L.hS _ h.B) (fun _ => norm_ (pa_ [(b, x1), ((b + 3), y1)] [(N, .pointer (some ⟨g, 0, none⟩))] a L.d4 L.lt) (lit3_11011 L HJ _ _ _ _ _ (h.swap2))))
 ·exact lit_build L.g8 L.d8 L.r8 H.swap3 (fun u W1 h => hK.out _ _ (L.hS _ h.B) (fun _ => norm_ (pa_ [(b, x1), ((b + 3), y1)] [(N, .pointer (some ⟨g, 0, none⟩))] a L.d8 L.lt) (lit3_10111 L HJ _ _ _ _ _ (h.swap3))))
theorem lit3_10101 (x1 x3 : Value) (g : Nat) (W : World) (H : D3 W0 W (some g) x1 [] (.slice none 0 0) [] x3 []) : wpAnyLast Try.prog .any ops Q S [] 6 (bf_ 15 10087) (putAll a [(b, x1), ((b + 8), x3), (N, .pointer (some ⟨g, 0, none⟩))]) W := by
 have hl := L.lt
 have hz := L.sz
 refine two_ (i := 3) (j := 4) (Ni := o3.dst) (Nj := o4.dst) (bf_ 15 10095) (bf_ 15 10103) L.a3 L.a4 rfl rfl (two_of L.T (by kernel_rfl)) (by decide) (by decide) (fun K hK => ?_) (fun K hK => ?_)
 ·exact lit_app L.g3 L.p3 H L.C1 L.m1 (pg_ (b := b) (N := N) [] a L.sz L.lt) (pn_ [(b, x1), ((b + 8), x3), (N, .pointer (some ⟨g, 0, none⟩))] a L.lt L.e1) (fun u W1 h => hK.out _ _ (L.hS _ h.B) (fun _ => norm_ (pa_ [(b, x1)] [((b + 8), x3), (N, .pointer (some ⟨g, 0, none⟩))] a L.d3 L.lt) (lit3_10111 L HJ _ _ _ _ _ (h))))
 ·exact lit_build L.g4 L.d4 L.r4 H.swap2 (fun u W1 h => hK.out _ _ (L.hS _ h.B) (fun _ => norm_ (pa_ [(b, x1)] [((b + 8), x3), (N, .pointer (some ⟨g, 0, none⟩))] a L.d4 L.lt) (lit3_11101 L HJ _ _ _ _ _ (h.swap2))))
theorem lit3_10110 (x1 y1 x3 : Value) (W : World) (H : D3 W0 W none y1 L1 (.slice none 0 0) [] x3 []) : wpAnyLast Try.prog .any ops Q S [] 6 (bf_ 15 1903) (putAll a [(b, x1), ((b + 3), y1), ((b + 8), x3)]) W := by
 have hl := L.lt
 have hz := L.sz
 refine two_ (i := 4) (j := 13) (Ni := o4.dst) (Nj := o13.dst) (bf_ 15 1919) (bf_ 15 10095) L.a4 L.a13 rfl rfl (two_of L.T (by kernel_rfl)) (by decide) (by decide) (fun K hK => ?_) (fun K hK => ?_)
 ·exact lit_build L.g4 L.d4 L.r4 H.swap2 (fun u W1 h => hK.out _ _ (L.hS _ h.B) (fun _ => norm_ (pa_ [(b, x1), ((b + 3), y1)] [((b + 8), x3)] a L.d4 L.lt) (lit3_11110 L HJ _ _ _ _ _ (h.swap2))))
 ·exact event_step (lit_wanted L.g13 _) (L.r13 _ _) (hK.out _ _ (L.hS _ H.alloc.B) (fun _ => norm_ (pa_ [(b, x1), ((b + 3), y1), ((b + 8), x3)] [] a L.d13 L.lt) (lit3_10111 L HJ _ _ _ _ _ (H.alloc))))
theorem lit3_11001 (x1 x2 : Value) (g : Nat) (W : World) (H : D3 W0 W (some g) x1 [] x2 [] (.slice none 0 0) []) : wpAnyLast Try.prog .any ops Q S [] 6 (bf_ 15 9847) (putAll a [(b, x1), ((b + 4), x2), (N, .pointer (some ⟨g, 0, none⟩))]) W := by
 have hl := L.lt
 have hz := L.sz
 refine two_ (i := 3) (j := 8) (Ni := o3.dst) (Nj := o8.dst) (bf_ 15 9855) (bf_ 15 10103) L.a3 L.a8 rfl rfl (two_of L.T (by kernel_rfl)) (by decide) (by decide) (fun K hK => ?_) (fun K hK => ?_)
 ·exact lit_app L.g3 L.p3 H L.C1 L.m1 (pg_ (b := b) (N := N) [] a L.sz L.lt) (pn_ [(b, x1), ((b + 4), x2), (N, .pointer (some ⟨g, 0, none⟩))] a L.lt L.e1) (fun u W1 h => hK.out _ _ (L.hS _ h.B) (fun _ => norm_ (pa_ [(b, x1)] [((b + 4), x2), (N, .pointer (some ⟨g, 0, none⟩))] a L.d3 L.lt) (lit3_11011 L HJ _ _ _ _ _ (h))))
 ·exact lit_build L.g8 L.d8 L.r8 H.swap3 (fun u W1 h => hK.out _ _ (L.hS _ h.B) (fun _ => norm_ (pa_ [(b, x1), ((b + 4), x2)] [(N, .pointer (some ⟨g, 0, none⟩))] a L.d8 L.lt) (lit3_11101 L HJ _ _ _ _ _ (h.swap3))))
theorem lit3_11010 (x1 y1 x2 : Value) (W : World) (H : D3 W0 W none y1 L1 x2 [] (.slice none 0 0) []) : wpAnyLast Try.prog .any ops Q S [] 6 (bf_ 15 1663) (putAll a [(b, x1), ((b + 3), y1), ((b + 4), x2)]) W := by
 have hl := L.lt
 have hz := L.sz
 refine three_ (i := 7) (j := 8) (k := 13) (Ni := o7.dst) (Nj := o8.dst) (Nk := o13.dst) (bf_ 15 1791) (bf_ 15 1919) (bf_ 15 9855) L.a7 L.a8 L.a13 rfl rfl rfl (three_of L.T (by kernel_rfl)) (by decide) (by decide) (by decide) (fun K hK => ?_) (fun K hK => ?_) (fun K hK => ?_)
 ·exact lit_app L.g7 L.p7 H.swap2 L.C2 L.m2 (pg_ (b := b) (N := N) [(b, x1), ((b + 3), y1)] a L.sz L.lt) (pn_ [(b, x1), ((b + 3), y1), ((b + 4), x2)] a L.lt L.e2) (fun u W1 h => hK.out _ _ (L.hS _ h.B) (fun _ => norm_ (pa_ [(b, x1), ((b + 3), y1), ((b + 4), x2)] [] a L.d7 L.lt) (lit3_11020 L HJ _ _ _ _ _ (h.swap2))))
 ·exact lit_build L.g8 L.d8 L.r8 H.swap3 (fun u W1 h => hK.out _ _ (L.hS _ h.B) (fun _ => norm_ (pa_ [(b, x1), ((b + 3), y1), ((b + 4), x2)] [] a L.d8 L.lt) (lit3_11110 L HJ _ _ _ _ _ (h.swap3))))
 ·exact event_step (lit_wanted L.g13 _) (L.r13 _ _) (hK.out _ _ (L.hS _ H.alloc.B) (fun _ => norm_ (pa_ [(b, x1), ((b + 3), y1), ((b + 4), x2)] [] a L.d13 L.lt) (lit3_11011 L HJ _ _ _ _ _ (H.alloc))))
theorem lit3_11100 (x1 x2 x3 : Value) (W : World) (H : D3 W0 W none x1 [] x2 [] x3 []) : wpAnyLast Try.prog .any ops Q S [] 6 (bf_ 15 1911) (putAll a [(b, x1), ((b + 4), x2), ((b + 8), x3)]) W := by
 have hl := L.lt
 have hz := L.sz
 refine two_ (i := 3) (j := 13) (Ni := o3.dst) (Nj := o13.dst) (bf_ 15 1919) (bf_ 15 10103) L.a3 L.a13 rfl rfl (two_of L.T (by kernel_rfl)) (by decide) (by decide) (fun K hK => ?_) (fun K hK => ?_)
 ·exact lit_app L.g3 L.p3 H L.C1 L.m1 (pg_ (b := b) (N := N) [] a L.sz L.lt) (pn_ [(b, x1), ((b + 4), x2), ((b + 8), x3)] a L.lt L.e1) (fun u W1 h => hK.out _ _ (L.hS _ h.B) (fun _ => norm_ (pa_ [(b, x1)] [((b + 4), x2), ((b + 8), x3)] a L.d3 L.lt) (lit3_11110 L HJ _ _ _ _ _ (h))))
 ·exact event_step (lit_wanted L.g13 _) (L.r13 _ _) (hK.out _ _ (L.hS _ H.alloc.B) (fun _ => norm_ (pa_ [(b, x1), ((b + 4), x2), ((b + 8), x3)] [] a L.d13 L.lt) (lit3_11101 L HJ _ _ _ _ _ (H.alloc))))
theorem lit3_00101 (x3 : Value) (g : Nat) (W : World) (H : D3 W0 W (some g) (.slice none 0 0) [] (.slice none 0 0) [] x3 []) : wpAnyLast Try.prog .any ops Q S [] 7 (bf_ 15 10086) (putAll a [((b + 8), x3), (N, .pointer (some ⟨g, 0, none⟩))]) W := by
 have hl := L.lt
 have hz := L.sz
 refine two_ (i := 0) (j := 4) (Ni := o0.dst) (Nj := o4.dst) (bf_ 15 10087) (bf_ 15 10102) L.a0 L.a4 rfl rfl (two_of L.T (by kernel_rfl)) (by decide) (by decide) (fun K hK => ?_) (fun K hK => ?_)
 ·exact lit_build L.g0 L.d0 L.r0 H (fun u W1 h => hK.out _ _ (L.hS _ h.B) (fun _ => norm_ (pa_ [] [((b + 8), x3), (N, .pointer (some ⟨g, 0, none⟩))] a L.d0 L.lt) (lit3_10101 L HJ _ _ _ _ (h))))
 ·exact lit_build L.g4 L.d4 L.r4 H.swap2 (fun u W1 h => hK.out _ _ (L.hS _ h.B) (fun _ => norm_ (pa_ [] [((b + 8), x3), (N, .pointer (some ⟨g, 0, none⟩))] a L.d4 L.lt) (lit3_01101 L HJ _ _ _ _ (h.swap2))))
theorem lit3_01001 (x2 : Value) (g : Nat) (W : World) (H : D3 W0 W (some g) (.slice none 0 0) [] x2 [] (.slice none 0 0) []) : wpAnyLast Try.prog .any ops Q S [] 7 (bf_ 15 9846) (putAll a [((b + 4), x2), (N, .pointer (some ⟨g, 0, none⟩))]) W := by
 have hl := L.lt
 have hz := L.sz
 refine two_ (i := 0) (j := 8) (Ni := o0.dst) (Nj := o8.dst) (bf_ 15 9847) (bf_ 15 10102) L.a0 L.a8 rfl rfl (two_of L.T (by kernel_rfl)) (by decide) (by decide) (fun K hK => ?_) (fun K hK => ?_)
 ·exact lit_build L.g0 L.d0 L.r0 H (fun u W1 h => hK.out _ _ (L.hS _ h.B) (fun _ => norm_ (pa_ [] [((b + 4), x2), (N, .pointer (some ⟨g, 0, none⟩))] a L.d0 L.lt) (lit3_11001 L HJ _ _ _ _ (h))))
 ·exact lit_build L.g8 L.d8 L.r8 H.swap3 (fun u W1 h => hK.out _ _ (L.hS _ h.B) (fun _ => norm_ (pa_ [((b + 4), x2)] [(N, .pointer (some ⟨g, 0, none⟩))] a L.d8 L.lt) (lit3_01101 L HJ _ _ _ _ (h.swap3))))
theorem lit3_01100 (x2 x3 : Value) (W : World) (H : D3 W0 W none (.slice none 0 0) [] x2 [] x3 []) : wpAnyLast Try.prog .any ops Q S [] 7 (bf_ 15 1910) (putAll a [((b + 4), x2), ((b + 8), x3)]) W := by
 have hl := L.lt
 have hz := L.sz
 refine two_ (i := 0) (j := 13) (Ni := o0.dst) (Nj := o13.dst) (bf_ 15 1911) (bf_ 15 10102) L.a0 L.a13 rfl rfl (two_of L.T (by kernel_rfl)) (by decide) (by decide) (fun K hK => ?_) (fun K hK => ?_)
 ·exact lit_build L.g0 L.d0 L.r0 H (fun u W1 h => hK.out _ _ (L.hS _ h.B) (fun _ => norm_ (pa_ [] [((b + 4), x2), ((b + 8), x3)] a L.d0 L.lt) (lit3_11100 L HJ _ _ _ _ (h))))
 ·exact event_step (lit_wanted L.g13 _) (L.r13 _ _) (hK.out _ _ (L.hS _ H.alloc.B) (fun _ => norm_ (pa_ [((b + 4), x2), ((b + 8), x3)] [] a L.d13 L.lt) (lit3_01101 L HJ _ _ _ _ (H.alloc))))
theorem lit3_10001 (x1 : Value) (g : Nat) (W : World) (H : D3 W0 W (some g) x1 [] (.slice none 0 0) [] (.slice none 0 0) []) : wpAnyLast Try.prog .any ops Q S [] 7 (bf_ 15 9831) (putAll a [(b, x1), (N, .pointer (some ⟨g, 0, none⟩))]) W := by
 have hl := L.lt
 have hz := L.sz
 refine three_ (i := 3) (j := 4) (k := 8) (Ni := o3.dst) (Nj := o4.dst) (Nk := o8.dst) (bf_ 15 9839) (bf_ 15 9847) (bf_ 15 10087) L.a3 L.a4 L.a8 rfl rfl rfl (three_of L.T (by kernel_rfl)) (by decide) (by decide) (by decide) (fun K hK => ?_) (fun K hK => ?_) (fun K hK => ?_)
 ·exact lit_app L.g3 L.p3 H L.C1 L.m1 (pg_ (b := b) (N := N) [] a L.sz L.lt) (pn_ [(b, x1), (N, .pointer (some ⟨g, 0, none⟩))] a L.lt L.e1) (fun u W1 h => hK.out _ _ (L.hS _ h.B) (fun _ => norm_ (pa_ [(b, x1)] [(N, .pointer (some ⟨g, 0, none⟩))] a L.d3 L.lt) (lit3_10011 L HJ _ _ _ _ (h))))
 ·exact lit_build L.g4 L.d4 L.r4 H.swap2 (fun u W1 h => hK.out _ _ (L.hS _ h.B) (fun _ => norm_ (pa_ [(b, x1)] [(N, .pointer (some ⟨g, 0, none⟩))] a L.d4 L.lt) (lit3_11001 L HJ _ _ _ _ (h.swap2))))
 ·exact lit_build L.g8 L.d8 L.r8 H.swap3 (fun u W1 h => hK.out _ _ (L.hS _ h.B) (fun _ => norm_ (pa_ [(b, x1)] [(N, .pointer (some ⟨g, 0, none⟩))] a L.d8 L.lt) (lit3_10101 L HJ _ _ _ _ (h.swap3))))
theorem lit3_10010 (x1 y1 : Value) (W : World) (H : D3 W0 W none y1 L1 (.slice none 0 0) [] (.slice none 0 0) []) : wpAnyLast Try.prog .any ops Q S [] 7 (bf_ 15 1647) (putAll a [(b, x1), ((b + 3), y1)]) W := by
 have hl := L.lt
 have hz := L.sz
 refine three_ (i := 4) (j := 8) (k := 13) (Ni := o4.dst) (Nj := o8.dst) (Nk := o13.dst) (bf_ 15 1663) (bf_ 15 1903) (bf_ 15 9839) L.a4 L.a8 L.a13 rfl rfl rfl (three_of L.T (by kernel_rfl)) (by decide) (by decide) (by decide) (fun K hK => ?_) (fun K hK => ?_) (fun K hK => ?_)
 ·exact lit_build L.g4 L.d4 L.r4 H.swap2 (fun u W1 h => hK.out _ _ (L.hS _ h.B) (fun _ => norm_ (pa_ [(b, x1), ((b + 3), y1)] [] a L.d4 L.lt) (lit3_11010 L HJ _ _ _ _ (h.swap2))))
 ·exact lit_build L.g8 L.d8 L.r8 H.swap3 (fun u W1 h => hK.out _ _ (L.hS _ h.B) (fun _ => norm_ (pa_ [(b, x1), ((b + 3), y1)] [] a L.d8 L.lt) (lit3_10110 L HJ _ _ _ _ (h.swap3))))
 ·exact event_step (lit_wanted L.g13 _) (L.r13 _ _) (hK.out _ _ (L.hS _ H.alloc.B) (fun _ => norm_ (pa_ [(b, x1), ((b + 3), y1)] [] a L.d13 L.lt) (lit3_10011 L HJ _ _ _ _ (H.alloc))))
theorem lit3_10100 (x1 x3 : Value) (W : World) (H : D3 W0 W none x1 [] (.slice none 0 0) [] x3 []) : wpAnyLast Try.prog .any ops Q S [] 7 (bf_ 15 1895) (putAll a [(b, x1), ((b + 8), x3)]) W := by
 have hl := L.lt
 have hz := L.sz
 refine three_ (i := 3) (j := 4) (k := 13) (Ni := o3.dst) (Nj := o4.dst) (Nk := o13.dst) (bf_ 15 1903) (bf_ 15 1911) (bf_ 15 10087) L.a3 L.a4 L.a13 rfl rfl rfl (three_of L.T (by kernel_rfl)) (by decide) (by decide) (by decide) (fun K hK => ?_) (fun K hK => ?_) (fun K hK => ?_)
 ·exact lit_app L.g3 L.p3 H L.C1 L.m1 (pg_ (b := b) (N := N) [] a L.sz L.lt) (pn_ [(b, x1), ((b + 8), x3)] a L.lt L.e1) (fun u W1 h => hK.out _ _ (L.hS _ h.B) (fun _ => norm_ (pa_ [(b, x1)] [((b + 8), x3)] a L.d3 L.lt) (lit3_10110 L HJ _ _ _ _ (h))))
 ·exact lit_build L.g4 L.d4 L.r4 H.swap2 (fun u W1 h => hK.out _ _ (L.hS _ h.B) (fun _ => norm_ (pa_ [(b, x1)] [((b + 8), x3)] a L.d4 L.lt) (lit3_11100 L HJ _ _ _ _ (h.swap2))))
 ·exact event_step (lit_wanted L.g13 _) (L.r13 _ _) (hK.out _ _ (L.hS _ H.alloc.B) (fun _ => norm_ (pa_ [(b, x1), ((b + 8), x3)] [] a L.d13 L.lt) (lit3_10101 L HJ _ _ _ _ (H.alloc))))
theorem lit3_11000 (x1 x2 : Value) (W : World) (H : D3 W0 W none x1 [] x2 [] (.slice none 0 0) []) : wpAnyLast Try.prog .any ops Q S [] 7 (bf_ 15 1655) (putAll a [(b, x1), ((b + 4), x2)]) W := by
 have hl := L.lt
 have hz := L.sz
 refine three_ (i := 3) (j := 8) (k := 13) (Ni := o3.dst) (Nj := o8.dst) (Nk := o13.dst) (bf_ 15 1663) (bf_ 15 1911) (bf_ 15 9847) L.a3 L.a8 L.a13 rfl rfl rfl (three_of L.T (by kernel_rfl)) (by decide) (by decide) (by decide) (fun K hK => ?_) (fun K hK => ?_) (fun K hK => ?_)
 ·exact lit_app L.g3 L.p3 H L.C1 L.m1 (pg_ (b := b) (N := N) [] a L.sz L.lt) (pn_ [(b, x1), ((b + 4), x2)] a L.lt L.e1) (fun u W1 h => hK.out _ _ (L.hS _ h.B) (fun _ => norm_ (pa_ [(b, x1)] [((b + 4), x2)] a L.d3 L.lt) (lit3_11010 L HJ _ _ _ _ (h))))
 ·exact lit_build L.g8 L.d8 L.r8 H.swap3 (fun u W1 h => hK.out _ _ (L.hS _ h.B) (fun _ => norm_ (pa_ [(b, x1), ((b + 4), x2)] [] a L.d8 L.lt) (lit3_11100 L HJ _ _ _ _ (h.swap3))))
 ·exact event_step (lit_wanted L.g13 _) (L.r13 _ _) (hK.out _ _ (L.hS _ H.alloc.B) (fun _ => norm_ (pa_ [(b, x1), ((b + 4), x2)] [] a L.d13 L.lt) (lit3_11001 L HJ _ _ _ _ (H.alloc))))
theorem lit3_00001 (g : Nat) (W : World) (H : D3 W0 W (some g) (.slice none 0 0) [] (.slice none 0 0) [] (.slice none 0 0) []) : wpAnyLast Try.prog .any ops Q S [] 8 (bf_ 15 9830) (putAll a [(N, .pointer (some ⟨g, 0, none⟩))]) W := by
 have hl := L.lt
 have hz := L.sz
 refine three_ (i := 0) (j := 4) (k := 8) (Ni := o0.dst) (Nj := o4.dst) (Nk := o8.dst) (bf_ 15 9831) (bf_ 15 9846) (bf_ 15 10086) L.a0 L.a4 L.a8 rfl rfl rfl (three_of L.T (by kernel_rfl)) (by decide) (by decide) (by decide) (fun K hK => ?_) (fun K hK => ?_) (fun K hK => ?_)
 ·exact lit_build L.g0 L.d0 L.r0 H (fun u W1 h => hK.out _ _ (L.hS _ h.B) (fun _ => norm_ (pa_ [] [(N, .pointer (some ⟨g, 0, none⟩))] a L.d0 L.lt) (lit3_10001 L HJ _ _ _ (h))))
 ·exact lit_build L.g4 L.d4 L.r4 H.swap2 (fun u W1 h => hK.out _ _ (L.hS _ h.B) (fun _ => norm_ (pa_ [] [(N, .pointer (some ⟨g, 0, none⟩))] a L.d4 L.lt) (lit3_01001 L HJ _ _ _ (h.swap2))))
 ·exact lit_build L.g8 L.d8 L.r8 H.swap3 (fun u W1 h => hK.out _ _ (L.hS _ h.B) (fun _ => norm_ (pa_ [] [(N, .pointer (some ⟨g, 0, none⟩))] a L.d8 L.lt) (lit3_00101 L HJ _ _ _ (h.swap3))))
theorem lit3_00100 (x3 : Value) (W : World) (H : D3 W0 W none (.slice none 0 0) [] (.slice none 0 0) [] x3 []) : wpAnyLast Try.prog .any ops Q S [] 8 (bf_ 15 1894) (putAll a [((b + 8), x3)]) W := by
 have hl := L.lt
 have hz := L.sz
 refine three_ (i := 0) (j := 4) (k := 13) (Ni := o0.dst) (Nj := o4.dst) (Nk := o13.dst) (bf_ 15 1895) (bf_ 15 1910) (bf_ 15 10086) L.a0 L.a4 L.a13 rfl rfl rfl (three_of L.T (by kernel_rfl)) (by decide) (by decide) (by decide) (fun K hK => ?_) (fun K hK => ?_) (fun K hK => ?_)
 ·exact lit_build L.g0 L.d0 L.r0 H (fun u W1 h => hK.out _ _ (L.hS _ h.B) (fun _ => norm_ (pa_ [] [((b + 8), x3)] a L.d0 L.lt) (lit3_10100 L HJ _ _ _ (h))))
 ·exact lit_build L.g4 L.d4 L.r4 H.swap2 (fun u W1 h => hK.out _ _ (L.hS _ h.B) (fun _ => norm_ (pa_ [] [((b + 8), x3)] a L.d4 L.lt) (lit3_01100 L HJ _ _ _ (h.swap2))))
 ·exact event_step (lit_wanted L.g13 _) (L.r13 _ _) (hK.out _ _ (L.hS _ H.alloc.B) (fun _ => norm_ (pa_ [((b + 8), x3)] [] a L.d13 L.lt) (lit3_00101 L HJ _ _ _ (H.alloc))))
theorem lit3_01000 (x2 : Value) (W : World) (H : D3 W0 W none (.slice none 0 0) [] x2 [] (.slice none 0 0) []) : wpAnyLast Try.prog .any ops Q S [] 8 (bf_ 15 1654) (putAll a [((b + 4), x2)]) W := by
 have hl := L.lt
 have hz := L.sz
 refine three_ (i := 0) (j := 8) (k := 13) (Ni := o0.dst) (Nj := o8.dst) (Nk := o13.dst) (bf_ 15 1655) (bf_ 15 1910) (bf_ 15 9846) L.a0 L.a8 L.a13 rfl rfl rfl (three_of L.T (by kernel_rfl)) (by decide) (by decide) (by decide) (fun K hK => ?_) (fun K hK => ?_) (fun K hK => ?_)
 ·exact lit_build L.g0 L.d0 L.r0 H (fun u W1 h => hK.out _ _ (L.hS _ h.B) (fun _ => norm_ (pa_ [] [((b + 4), x2)] a L.d0 L.lt) (lit3_11000 L HJ _ _ _ (h))))
 ·exact lit_build L.g8 L.d8 L.r8 H.swap3 (fun u W1 h => hK.out _ _ (L.hS _ h.B) (fun _ => norm_ (pa_ [((b + 4), x2)] [] a L.d8 L.lt) (lit3_01100 L HJ _ _ _ (h.swap3))))
 ·exact event_step (lit_wanted L.g13 _) (L.r13 _ _) (hK.out _ _ (L.hS _ H.alloc.B) (fun _ => norm_ (pa_ [((b + 4), x2)] [] a L.d13 L.lt) (lit3_01001 L HJ _ _ _ (H.alloc))))
theorem lit3_10000 (x1 : Value) (W : World) (H : D3 W0 W none x1 [] (.slice none 0 0) [] (.slice none 0 0) []) : wpAnyLast Try.prog .any ops Q S [] 8 (bf_ 15 1639) (putAll a [(b, x1)]) W := by
 have hl := L.lt
 have hz := L.sz
 refine four_ (i := 3) (j := 4) (k := 8) (m := 13) (Ni := o3.dst) (Nj := o4.dst) (Nk := o8.dst) (Nm := o13.dst) (bf_ 15 1647) (bf_ 15 1655) (bf_ 15 1895) (bf_ 15 9831) L.a3 L.a4 L.a8 L.a13 rfl rfl rfl rfl (four_of L.T (by kernel_rfl)) (by decide) (by decide) (by decide) (by decide) (fun K hK => ?_) (fun K hK => ?_) (fun K hK => ?_) (fun K hK => ?_)
 ·exact lit_app L.g3 L.p3 H L.C1 L.m1 (pg_ (b := b) (N := N) [] a L.sz L.lt) (pn_ [(b, x1)] a L.lt L.e1) (fun u W1 h => hK.out _ _ (L.hS _ h.B) (fun _ => norm_ (pa_ [(b, x1)] [] a L.d3 L.lt) (lit3_10010 L HJ _ _ _ (h))))
 ·exact lit_build L.g4 L.d4 L.r4 H.swap2 (fun u W1 h => hK.out _ _ (L.hS _ h.B) (fun _ => norm_ (pa_ [(b, x1)] [] a L.d4 L.lt) (lit3_11000 L HJ _ _ _ (h.swap2))))
 ·exact lit_build L.g8 L.d8 L.r8 H.swap3 (fun u W1 h => hK.out _ _ (L.hS _ h.B) (fun _ => norm_ (pa_ [(b, x1)] [] a L.d8 L.lt) (lit3_10100 L HJ _ _ _ (h.swap3))))
 ·exact event_step (lit_wanted L.g13 _) (L.r13 _ _) (hK.out _ _ (L.hS _ H.alloc.B) (fun _ => norm_ (pa_ [(b, x1)] [] a L.d13 L.lt) (lit3_10001 L HJ _ _ _ (H.alloc))))
theorem lit3_00000 (W : World) (H : D3 W0 W none (.slice none 0 0) [] (.slice none 0 0) [] (.slice none 0 0) []) : wpAnyLast Try.prog .any ops Q S [] 9 (bf_ 15 1638) (putAll a []) W := by
 have hl := L.lt
 have hz := L.sz
 refine four_ (i := 0) (j := 4) (k := 8) (m := 13) (Ni := o0.dst) (Nj := o4.dst) (Nk := o8.dst) (Nm := o13.dst) (bf_ 15 1639) (bf_ 15 1654) (bf_ 15 1894) (bf_ 15 9830) L.a0 L.a4 L.a8 L.a13 rfl rfl rfl rfl (four_of L.T (by kernel_rfl)) (by decide) (by decide) (by decide) (by decide) (fun K hK => ?_) (fun K hK => ?_) (fun K hK => ?_) (fun K hK => ?_)
 ·exact lit_build L.g0 L.d0 L.r0 H (fun u W1 h => hK.out _ _ (L.hS _ h.B) (fun _ => norm_ (pa_ [] [] a L.d0 L.lt) (lit3_10000 L HJ _ _ (h))))
 ·exact lit_build L.g4 L.d4 L.r4 H.swap2 (fun u W1 h => hK.out _ _ (L.hS _ h.B) (fun _ => norm_ (pa_ [] [] a L.d4 L.lt) (lit3_01000 L HJ _ _ (h.swap2))))
 ·exact lit_build L.g8 L.d8 L.r8 H.swap3 (fun u W1 h => hK.out _ _ (L.hS _ h.B) (fun _ => norm_ (pa_ [] [] a L.d8 L.lt) (lit3_00100 L HJ _ _ (h.swap3))))
 ·exact event_step (lit_wanted L.g13 _) (L.r13 _ _) (hK.out _ _ (L.hS _ H.alloc.B) (fun _ => norm_ (pa_ [] [] a L.d13 L.lt) (lit3_00001 L HJ  _ _ (H.alloc))))
theorem lit3_.start : wpAnyLast Try.prog .any ops Q S [] 9 #[false, true, true, false, false, true, true, false, false, true, true, false, false, false, false] a W0 := lit3_00000 L HJ W0 (D3.start W0)
omit L HJ in
theorem D3.new1 {W0 W : World} {G : Option Nat} {v1 v2 v3 : Value} {l1 l2 l3 : List Int} (h : D3 W0 W G v1 l1 v2 l2 v3 l3) (k : Nat) (hk : k < W0.heap.size) : some k ≠ v1.ownBlock := fun e => by have := ((Kd.R_bound h.r1).1 k e.symm).2.1; omega
omit L HJ in
theorem D3.new2 {W0 W : World} {G : Option Nat} {v1 v2 v3 : Value} {l1 l2 l3 : List Int} (h : D3 W0 W G v1 l1 v2 l2 v3 l3) (k : Nat) (hk : k < W0.heap.size) : some k ≠ v2.ownBlock := h.swap2.new1 k hk
omit L HJ in
theorem D3.new3 {W0 W : World} {G : Option Nat} {v1 v2 v3 : Value} {l1 l2 l3 : List Int} (h : D3 W0 W G v1 l1 v2 l2 v3 l3) (k : Nat) (hk : k < W0.heap.size) : some k ≠ v3.ownBlock := h.swap3.new1 k hk
end
end Go.Proofs.Ytopfjjdkffdjpaa.Q
end
