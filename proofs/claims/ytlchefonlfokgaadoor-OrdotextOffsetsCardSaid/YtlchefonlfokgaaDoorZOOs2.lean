/- What is proved: what the statement OrdotextOffsetsSaid needs, part 3 of 12; the last part proves the statement. No condition. -/
import Derived.Test.YtlchefonlfokgaaDoorZOOs1
set_option maxHeartbeats 8000000
set_option maxRecDepth 100000
set_option linter.unusedVariables false
set_option linter.unusedSimpArgs false
section
namespace Go.Proofs.YtlchefonlfokgaaDoor.Q
open Go.RowKit Go.Proofs.YtlchefonlfokgaaDoorW.PrintWords Go.Proofs.YtlchefonlfokgaaDoorW.PrintLast Go.Proofs.YtlchefonlfokgaaDoorW.PrintMore
attribute [local go_sem] max2_int min2_int max_two min_two max_three min_three max_four min_four
section
attribute [local go_sem high] eqA37
mutual
def computusref27_Printable.l0 : Nat → Int → Int → List (S40) → Option (Bool)
 | 0, _, _, _ => none
 | k + 1, x3, x369000, x369001 => if x3 < (x369001.length : Int) then (if 0 ≤ x3 then (if ((rd_T40 x369001 x3).f0.f0) = x369000 then ((computusref26_In.f ((rd_T40 x369001 x3).f0.f1)).bind fun t372 => (if t372 = true then ((computusref26_In.f ((rd_T40 x369001 x3).f0.f2)).bind fun t373 => (if t373 = true then ((computusref26_In.f ((rd_T40 x369001 x3).f3)).bind fun t374 => (if t374 = true then ((computusref26_In.f ((rd_T40 x369001 x3).f6)).bind fun t375 => (if t375 = true then (if ((rd_T40 x369001 x3).f1) < 0 then (computusref27_Printable.j1 k x3 true x369000 x369001 ((rd_T40 x369001 x3).f0.f0) ((rd_T40 x369001 x3).f0.f1) ((rd_T40 x369001 x3).f0.f2) ((rd_T40 x369001 x3).f1) ((rd_T40 x369001 x3).f2) ((rd_T40 x369001 x3).f3) ((rd_T40 x369001 x3).f4) ((rd_T40 x369001 x3).f5) ((rd_T40 x369001 x3).f6) ((rd_T40 x369001 x3).f7.f0) ((rd_T40 x369001 x3).f7.f1) ((rd_T40 x369001 x3).f7.f2) ((rd_T40 x369001 x3).f8) ((rd_T40 x369001 x3).f9)) else (if ((rd_T40 x369001 x3).f1) > 6 then (computusref27_Printable.j1 k x3 true x369000 x369001 ((rd_T40 x369001 x3).f0.f0) ((rd_T40 x369001 x3).f0.f1) ((rd_T40 x369001 x3).f0.f2) ((rd_T40 x369001 x3).f1) ((rd_T40 x369001 x3).f2) ((rd_T40 x369001 x3).f3) ((rd_T40 x369001 x3).f4) ((rd_T40 x369001 x3).f5) ((rd_T40 x369001 x3).f6) ((rd_T40 x369001 x3).f7.f0) ((rd_T40 x369001 x3).f7.f1) ((rd_T40 x369001 x3).f7.f2) ((rd_T40 x369001 x3).f8) ((rd_T40 x369001 x3).f9)) else (if ((rd_T40 x369001 x3).f4) < 1 then (computusref27_Printable.j1 k x3 true x369000 x369001 ((rd_T40 x369001 x3).f0.f0) ((rd_T40 x369001 x3).f0.f1) ((rd_T40 x369001 x3).f0.f2) ((rd_T40 x369001 x3).f1) ((rd_T40 x369001 x3).f2) ((rd_T40 x369001 x3).f3) ((rd_T40 x369001 x3).f4) ((rd_T40 x369001 x3).f5) ((rd_T40 x369001 x3).f6) ((rd_T40 x369001 x3).f7.f0) ((rd_T40 x369001 x3).f7.f1) ((rd_T40 x369001 x3).f7.f2) ((rd_T40 x369001 x3).f8) ((rd_T40 x369001 x3).f9)) else (computusref27_Printable.j1 k x3 (decide (((rd_T40 x369001 x3).f4) > 3)) x369000 x369001 ((rd_T40 x369001 x3).f0.f0) ((rd_T40 x369001 x3).f0.f1) ((rd_T40 x369001 x3).f0.f2) ((rd_T40 x369001 x3).f1) ((rd_T40 x369001 x3).f2) ((rd_T40 x369001 x3).f3) ((rd_T40 x369001 x3).f4) ((rd_T40 x369001 x3).f5) ((rd_T40 x369001 x3).f6) ((rd_T40 x369001 x3).f7.f0) ((rd_T40 x369001 x3).f7.f1) ((rd_T40 x369001 x3).f7.f2) ((rd_T40 x369001 x3).f8) ((rd_T40 x369001 x3).f9))))) else (computusref27_Printable.j1 k x3 true x369000 x369001 ((rd_T40 x369001 x3).f0.f0) ((rd_T40 x369001 x3).f0.f1) ((rd_T40 x369001 x3).f0.f2) ((rd_T40 x369001 x3).f1) ((rd_T40 x369001 x3).f2) ((rd_T40 x369001 x3).f3) ((rd_T40 x369001 x3).f4) ((rd_T40 x369001 x3).f5) ((rd_T40 x369001 x3).f6) ((rd_T40 x369001 x3).f7.f0) ((rd_T40 x369001 x3).f7.f1) ((rd_T40 x369001 x3).f7.f2) ((rd_T40 x369001 x3).f8) ((rd_T40 x369001 x3).f9)))) else (computusref27_Printable.j1 k x3 true x369000 x369001 ((rd_T40 x369001 x3).f0.f0) ((rd_T40 x369001 x3).f0.f1) ((rd_T40 x369001 x3).f0.f2) ((rd_T40 x369001 x3).f1) ((rd_T40 x369001 x3).f2) ((rd_T40 x369001 x3).f3) ((rd_T40 x369001 x3).f4) ((rd_T40 x369001 x3).f5) ((rd_T40 x369001 x3).f6) ((rd_T40 x369001 x3).f7.f0) ((rd_T40 x369001 x3).f7.f1) ((rd_T40 x369001 x3).f7.f2) ((rd_T40 x369001 x3).f8) ((rd_T40 x369001 x3).f9)))) else (computusref27_Printable.j1 k x3 true x369000 x369001 ((rd_T40 x369001 x3).f0.f0) ((rd_T40 x369001 x3).f0.f1) ((rd_T40 x369001 x3).f0.f2) ((rd_T40 x369001 x3).f1) ((rd_T40 x369001 x3).f2) ((rd_T40 x369001 x3).f3) ((rd_T40 x369001 x3).f4) ((rd_T40 x369001 x3).f5) ((rd_T40 x369001 x3).f6) ((rd_T40 x369001 x3).f7.f0) ((rd_T40 x369001 x3).f7.f1) ((rd_T40 x369001 x3).f7.f2) ((rd_T40 x369001 x3).f8) ((rd_T40 x369001 x3).f9)))) else (computusref27_Printable.j1 k x3 true x369000 x369001 ((rd_T40 x369001 x3).f0.f0) ((rd_T40 x369001 x3).f0.f1) ((rd_T40 x369001 x3).f0.f2) ((rd_T40 x369001 x3).f1) ((rd_T40 x369001 x3).f2) ((rd_T40 x369001 x3).f3) ((rd_T40 x369001 x3).f4) ((rd_T40 x369001 x3).f5) ((rd_T40 x369001 x3).f6) ((rd_T40 x369001 x3).f7.f0) ((rd_T40 x369001 x3).f7.f1) ((rd_T40 x369001 x3).f7.f2) ((rd_T40 x369001 x3).f8) ((rd_T40 x369001 x3).f9)))) else (computusref27_Printable.j1 k x3 true x369000 x369001 ((rd_T40 x369001 x3).f0.f0) ((rd_T40 x369001 x3).f0.f1) ((rd_T40 x369001 x3).f0.f2) ((rd_T40 x369001 x3).f1) ((rd_T40 x369001 x3).f2) ((rd_T40 x369001 x3).f3) ((rd_T40 x369001 x3).f4) ((rd_T40 x369001 x3).f5) ((rd_T40 x369001 x3).f6) ((rd_T40 x369001 x3).f7.f0) ((rd_T40 x369001 x3).f7.f1) ((rd_T40 x369001 x3).f7.f2) ((rd_T40 x369001 x3).f8) ((rd_T40 x369001 x3).f9))) else (none)) else (some true)
def computusref27_Printable.j1 : Nat → Int → Bool → Int → List (S40) → Int → Int → Int → Int → ByteArray → Int → Int → ByteArray → Int → Int → Int → Int → List ByteArray → List ByteArray → Option (Bool)
 | 0, _, _, _, _, _, _, _, _, _, _, _, _, _, _, _, _, _, _ => none
 | k + 1, x3, x72, x369000, x369001, x372000, x372001, x372002, x372003, x372004, x372005, x372006, x372007, x372008, x372009, x372010, x372011, x372012, x372013 => if x72 = true then (some false) else (if x372006 = 3 then (if x372009 = x369000 then ((computusref26_In.f x372010).bind fun t376 => (if t376 = true then ((computusref26_In.f x372011).bind fun t377 => (computusref27_Printable.j2 k x3 (!t377) x369000 x369001 x372000 x372001 x372002 x372003 x372004 x372005 x372006 x372007 x372008 x372009 x372010 x372011 x372012 x372013)) else (computusref27_Printable.j2 k x3 true x369000 x369001 x372000 x372001 x372002 x372003 x372004 x372005 x372006 x372007 x372008 x372009 x372010 x372011 x372012 x372013))) else (computusref27_Printable.j2 k x3 true x369000 x369001 x372000 x372001 x372002 x372003 x372004 x372005 x372006 x372007 x372008 x372009 x372010 x372011 x372012 x372013)) else (if (!(x372009 == 0) || (!(x372010 == 0) || (!(x372011 == 0)))) = true then (computusref27_Printable.j2 k x3 true x369000 x369001 x372000 x372001 x372002 x372003 x372004 x372005 x372006 x372007 x372008 x372009 x372010 x372011 x372012 x372013) else (computusref27_Printable.j2 k x3 false x369000 x369001 x372000 x372001 x372002 x372003 x372004 x372005 x372006 x372007 x372008 x372009 x372010 x372011 x372012 x372013)))
def computusref27_Printable.j2 : Nat → Int → Bool → Int → List (S40) → Int → Int → Int → Int → ByteArray → Int → Int → ByteArray → Int → Int → Int → Int → List ByteArray → List ByteArray → Option (Bool)
 | 0, _, _, _, _, _, _, _, _, _, _, _, _, _, _, _, _, _, _ => none
 | k + 1, x3, x108, x369000, x369001, x372000, x372001, x372002, x372003, x372004, x372005, x372006, x372007, x372008, x372009, x372010, x372011, x372012, x372013 => if x108 = true then (some false) else ((computusref17_Identifier.f k x372004).bind fun t378 => (if t378 = true then ((computusref17_Identifier.f k x372007).bind fun t379 => (if t379 = true then ((computusref27_identifiers.f k x372012).bind fun t380 => (if t380 = true then ((computusref27_identifiers.f k x372013).bind fun t381 => (if t381 = true then (computusref27_Printable.l0 k (wrap64 (x3 + 1)) x369000 x369001) else (some false))) else (some false))) else (some false))) else (some false)))
end
def computusref27_Printable.f (k : Nat) (a0_0 : Int) (l0_1 : List (S40)) : Option (Bool) := (computusref26_In.f a0_0).bind fun t369 => (if t369 = true then (computusref27_Printable.l0 k 0 a0_0 l0_1) else (some false))
theorem computusref27_Printable.calls (k : Nat) (a0_0 : Int) (A0_1 : Option Addr) (c0_1 : Nat) (l0_1 : List (S40)) (r : Bool) (w : World) (hr0_1 : Kd.C k40 w A0_1 l0_1.length l0_1) (hc0_1 : l0_1.length ≤ c0_1) (h : computusref27_Printable.f k a0_0 l0_1 = some r) :
  Calls Tryd.prog 13 #[.agg #[.int .i64 a0_0, .slice A0_1 l0_1.length c0_1]] w fun e w' => e = .returned (.bool r) ∧ Below w.heap.size w w' := by
 have hu25 := Tryd.underlying25
 have hu40 := Tryd.underlying40
 have hu37 := Tryd.underlying37
 have HR0_1 := am_ hr0_1
 have HC0_1 := am_ hc0_1
 clear hr0_1 hc0_1
 have HB := am_ (Below.refl w.heap.size w)
 have H := h
 clear h
 unfold computusref27_Printable.f at H
 obtain ⟨t369, A2, H⟩ := bs_ H
 by_cases c3 : t369 = true
 rotate_left
 ·replace c3 := Bool.eq_false_iff.mpr c3
  subst c3
  replace H := if_ H
  obtain rfl := Option.some.inj H
  go_enter Tryd.func13, Tryd.ntmps13
  go_wp2_with (first | ((with_reducible refine gate_dst (N := 1) rfl ?_); refine bx_ (w := w) (N := 1) (cs := #[.int .i64 a0_0, .slice A0_1 l0_1.length c0_1]) (t := 25) ?_; intro gb368 w93 BK368 n0_ GW368 GE368; clear HB; have HB := n0_; clear n0_; obtain ⟨hcz94_0, hcz94_1⟩ := cz2_ BK368.out; obtain ⟨hfz94_0, hfz94_1⟩ := fz2_ BK368.out) | ((with_reducible refine gate_callee (f := 30) rfl ?_); refine goesL_ (some 7) rfl rfl Tryd.func30 (by kernel_rfl) rfl #[.int .i64 a0_0] rfl (by (try simp only [List.map_toArray, List.map_cons, List.map_nil]); first | done | rfl | (simp only [List.length_drop, List.length_take]; rfl)) ?_; (with_reducible refine (computusref26_In.calls a0_0 false _ A2.out).mono ?_); rintro e w' ⟨rfl, ⟨nd, rfl⟩⟩; refine ⟨_, rfl, ?_⟩))
  go_ret
  exact rt_
 subst c3
 replace H := it_ H
 have H' := am_ H
 clear H
 go_enter Tryd.func13, Tryd.ntmps13
 go_wp2_with (first | ((with_reducible refine gate_dst (N := 1) rfl ?_); refine bx_ (w := w) (N := 1) (cs := #[.int .i64 a0_0, .slice A0_1 l0_1.length c0_1]) (t := 25) ?_; intro gb368 w4 BK368 n0_ GW368 GE368; clear HB; have HB := n0_; clear n0_; obtain ⟨hcz5_0, hcz5_1⟩ := cz2_ BK368.out; obtain ⟨hfz5_0, hfz5_1⟩ := fz2_ BK368.out) | ((with_reducible refine gate_callee (f := 30) rfl ?_); refine goesL_ (some 7) rfl rfl Tryd.func30 (by kernel_rfl) rfl #[.int .i64 a0_0] rfl (by (try simp only [List.map_toArray, List.map_cons, List.map_nil]); first | done | rfl | (simp only [List.length_drop, List.length_take]; rfl)) ?_; (with_reducible refine (computusref26_In.calls a0_0 true _ A2.out).mono ?_); rintro e w' ⟨rfl, ⟨nd, rfl⟩⟩; refine ⟨_, rfl, ?_⟩))
 go_loopg [3] k (fun kq v3 w' => ∃ (x3_1 : Int), v3 = .int .i64 x3_1 ∧ Aside0 (computusref27_Printable.l0 kq x3_1 a0_0 l0_1 = some r) ∧ Aside0 (kq ≤ k) ∧ Aside0 (w'.heap[gb368]? = some (.cells #[.int .i64 a0_0, (.slice A0_1 l0_1.length c0_1)] 25 (0, 0))) ∧ Aside0 (Below w.heap.size w w'))
 case atStart => exact ⟨(0), rs_, H', ⟨Nat.le_refl _⟩, ⟨bk_ BK368.out⟩, ⟨bh_⟩⟩
 case round =>
  clear H'
  obtain ⟨x3_1, rfl, HA, HK1, BK368, HB⟩ := hrel
  cases gk with
  | zero => exact absurd HA.out (by simp [computusref27_Printable.l0])
  | succ k1 =>
   have H := HA.out
   clear HA
   simp only [computusref27_Printable.l0] at H
   by_cases c6 : x3_1 < (l0_1.length : Int)
   rotate_left
   ·rw [if_neg c6] at H
    have c6b0 : decide (x3_1 < (l0_1.length : Int)) = false := decide_eq_false c6
    clear c6
    obtain rfl := Option.some.inj H
    obtain ⟨hcz92_0, hcz92_1⟩ := cz2_ BK368.out
    obtain ⟨hfz92_0, hfz92_1⟩ := fz2_ BK368.out
    go_wp2
    go_ret
    exact rt_
   rw [if_pos c6] at H
   have c6b0 : decide (x3_1 < (l0_1.length : Int)) = true := decide_eq_true c6
   clear c6
   by_cases c7 : 0 ≤ x3_1
   rotate_left
   ·rw [if_neg c7] at H
    exact absurd H (by simp)
   rw [if_pos c7] at H
   have c7b0 : decide (0 ≤ x3_1) = true := decide_eq_true c7
   clear c7
   have HC8 := am_ H
   clear H
   obtain ⟨hcz9_0, hcz9_1⟩ := cz2_ BK368.out
   obtain ⟨hfz9_0, hfz9_1⟩ := fz2_ BK368.out
   have p370 : 0 ≤ (x3_1 : Int) := of_decide_eq_true as_
   have q370 : x3_1 < (l0_1.length : Int) := of_decide_eq_true as_
   obtain ⟨ad370, A370_12, c370_12, A370_13, c370_13, e370, hx370_0, hx370_1, hx370_2, hx370_3, hx370_4, hx370_5, hx370_6, hx370_7, hx370_8, hx370_9, hx370_10, hx370_11, hx370_12, hx370_13, hl370_12, hi370_12, hl370_13, hi370_13⟩ := at_T40 HR0_1.out x3_1 p370 q370
   cases e370
   replace hx370_0 := cm_ HB.out hx370_0
   replace hx370_1 := cm_ HB.out hx370_1
   replace hx370_2 := cm_ HB.out hx370_2
   replace hx370_3 := cm_ HB.out hx370_3
   replace hx370_4 := cm_ HB.out hx370_4
   replace hx370_5 := cm_ HB.out hx370_5
   replace hx370_6 := cm_ HB.out hx370_6
   replace hx370_7 := cm_ HB.out hx370_7
   replace hx370_8 := cm_ HB.out hx370_8
   replace hx370_9 := cm_ HB.out hx370_9
   replace hx370_10 := cm_ HB.out hx370_10
   replace hx370_11 := cm_ HB.out hx370_11
   replace hx370_12 := cm_ HB.out hx370_12
   replace hx370_13 := cm_ HB.out hx370_13
   have HR370_12 := am_ hi370_12
   have HC370_12 := am_ hl370_12
   clear hi370_12 hl370_12
   have HR370_13 := am_ hi370_13
   have HC370_13 := am_ hl370_13
   clear hi370_13 hl370_13
   replace p370 := eq_true p370
   replace q370 := eq_true q370
   go_upto_region 7 with (first | ((with_reducible refine gate_dst (N := 4) rfl ?_); refine be_ (N := 4) (cs := #[.int .i64 0, .int .i64 0, .int .i64 0, .int .i64 0, .string (⟨#[]⟩ : ByteArray), .int .i64 0, .int .i64 0, .string (⟨#[]⟩ : ByteArray), .int .i64 0, .int .i64 0, .int .i64 0, .int .i64 0, .slice none 0 0, .slice none 0 0]) (t := 40) ?_; intro gb371 hg w10 hbox hb; have BK371 := am_ (hbox); have GW371 := gw_ (w := w) hg; have GE371 := gw_ (w := w) hg; replace HB := bt_ hb; have NB368_371 := ne_ hg BK368; have NB371_368 := nf_ hg BK368; replace BK368 := bw_ BK368 hb; clear hb hbox hg; have hnb11 := NB371_368.out; have hnc11 := NB368_371.out; have hcz12_0 : w10.cell? ⟨gb371, 0, none⟩ = some (.int .i64 0) := (blk_cell BK371.out 0).trans rfl; have hcz12_1 : w10.cell? ⟨gb371, 1, none⟩ = some (.int .i64 0) := (blk_cell BK371.out 1).trans rfl; have hcz12_2 : w10.cell? ⟨gb371, 2, none⟩ = some (.int .i64 0) := (blk_cell BK371.out 2).trans rfl; have hcz12_3 : w10.cell? ⟨gb371, 3, none⟩ = some (.int .i64 0) := (blk_cell BK371.out 3).trans rfl; have hcz12_4 : w10.cell? ⟨gb371, 4, none⟩ = some (.string (⟨#[]⟩ : ByteArray)) := (blk_cell BK371.out 4).trans rfl; have hcz12_5 : w10.cell? ⟨gb371, 5, none⟩ = some (.int .i64 0) := (blk_cell BK371.out 5).trans rfl; have hcz12_6 : w10.cell? ⟨gb371, 6, none⟩ = some (.int .i64 0) := (blk_cell BK371.out 6).trans rfl; have hcz12_7 : w10.cell? ⟨gb371, 7, none⟩ = some (.string (⟨#[]⟩ : ByteArray)) := (blk_cell BK371.out 7).trans rfl; have hcz12_8 : w10.cell? ⟨gb371, 8, none⟩ = some (.int .i64 0) := (blk_cell BK371.out 8).trans rfl; have hcz12_9 : w10.cell? ⟨gb371, 9, none⟩ = some (.int .i64 0) := (blk_cell BK371.out 9).trans rfl; have hcz12_10 : w10.cell? ⟨gb371, 10, none⟩ = some (.int .i64 0) := (blk_cell BK371.out 10).trans rfl; have hcz12_11 : w10.cell? ⟨gb371, 11, none⟩ = some (.int .i64 0) := (blk_cell BK371.out 11).trans rfl; have hcz12_12 : w10.cell? ⟨gb371, 12, none⟩ = some (.slice none 0 0) := (blk_cell BK371.out 12).trans rfl; have hcz12_13 : w10.cell? ⟨gb371, 13, none⟩ = some (.slice none 0 0) := (blk_cell BK371.out 13).trans rfl; have hfz12_0 := blk_frozen BK371.out 0; have hfz12_1 := blk_frozen BK371.out 1; have hfz12_2 := blk_frozen BK371.out 2; have hfz12_3 := blk_frozen BK371.out 3; have hfz12_4 := blk_frozen BK371.out 4; have hfz12_5 := blk_frozen BK371.out 5; have hfz12_6 := blk_frozen BK371.out 6; have hfz12_7 := blk_frozen BK371.out 7; have hfz12_8 := blk_frozen BK371.out 8; have hfz12_9 := blk_frozen BK371.out 9; have hfz12_10 := blk_frozen BK371.out 10; have hfz12_11 := blk_frozen BK371.out 11; have hfz12_12 := blk_frozen BK371.out 12; have hfz12_13 := blk_frozen BK371.out 13))
   (try simp only [Act.put, sA_, sZ_, sS_])
   go_cut [72] (fun v72 wc => ∃ (kq : Nat) (x72_7 : Bool), v72 = .bool x72_7 ∧ Aside0 (computusref27_Printable.j1 kq x3_1 x72_7 a0_0 l0_1 ((rd_T40 l0_1 x3_1).f0.f0) ((rd_T40 l0_1 x3_1).f0.f1) ((rd_T40 l0_1 x3_1).f0.f2) ((rd_T40 l0_1 x3_1).f1) ((rd_T40 l0_1 x3_1).f2) ((rd_T40 l0_1 x3_1).f3) ((rd_T40 l0_1 x3_1).f4) ((rd_T40 l0_1 x3_1).f5) ((rd_T40 l0_1 x3_1).f6) ((rd_T40 l0_1 x3_1).f7.f0) ((rd_T40 l0_1 x3_1).f7.f1) ((rd_T40 l0_1 x3_1).f7.f2) ((rd_T40 l0_1 x3_1).f8) ((rd_T40 l0_1 x3_1).f9) = some r) ∧ Aside0 (kq ≤ k1) ∧ Aside0 (wc.heap[gb368]? = some (.cells #[.int .i64 a0_0, (.slice (some ad370) l0_1.length c0_1)] 25 (0, 0))) ∧ Aside0 (wc.heap[gb371]? = some (.cells #[.int .i64 ((rd_T40 l0_1 x3_1).f0.f0), .int .i64 ((rd_T40 l0_1 x3_1).f0.f1), .int .i64 ((rd_T40 l0_1 x3_1).f0.f2), .int .i64 ((rd_T40 l0_1 x3_1).f1), .string ((rd_T40 l0_1 x3_1).f2), .int .i64 ((rd_T40 l0_1 x3_1).f3), .int .i64 ((rd_T40 l0_1 x3_1).f4), .string ((rd_T40 l0_1 x3_1).f5), .int .i64 ((rd_T40 l0_1 x3_1).f6), .int .i64 ((rd_T40 l0_1 x3_1).f7.f0), .int .i64 ((rd_T40 l0_1 x3_1).f7.f1), .int .i64 ((rd_T40 l0_1 x3_1).f7.f2), (.slice A370_12 ((rd_T40 l0_1 x3_1).f8).length c370_12), (.slice A370_13 ((rd_T40 l0_1 x3_1).f9).length c370_13)] 40 (0, 0))) ∧ Aside0 (Below w.heap.size w wc))
   case first =>
    have H := HC8.out
    clear HC8
    by_cases c13 : ((rd_T40 l0_1 x3_1).f0.f0) = a0_0
    rotate_left
    ·rw [if_neg c13] at H
     have c13b0 : (((rd_T40 l0_1 x3_1).f0.f0) == a0_0) = false := beq_eq_false_iff_ne.mpr c13
     have c13b1 : (((rd_T40 l0_1 x3_1).f0.f0) != a0_0) = true := bne_iff_ne.mpr c13
     (first | rw [c13b0] | (simp only [i64_w, i32_w]; rw [c13b0]) | skip)
     have H' := am_ H
     clear H
     have hnb49 := NB371_368.out
     have hnc49 := NB368_371.out
     have hcz50_0 : w10.cell? ⟨gb371, 0, none⟩ = some (.int .i64 0) := (blk_cell BK371.out 0).trans rfl
     have hcz50_1 : w10.cell? ⟨gb371, 1, none⟩ = some (.int .i64 0) := (blk_cell BK371.out 1).trans rfl
     have hcz50_2 : w10.cell? ⟨gb371, 2, none⟩ = some (.int .i64 0) := (blk_cell BK371.out 2).trans rfl
     have hcz50_3 : w10.cell? ⟨gb371, 3, none⟩ = some (.int .i64 0) := (blk_cell BK371.out 3).trans rfl
     have hcz50_4 : w10.cell? ⟨gb371, 4, none⟩ = some (.string (⟨#[]⟩ : ByteArray)) := (blk_cell BK371.out 4).trans rfl
     have hcz50_5 : w10.cell? ⟨gb371, 5, none⟩ = some (.int .i64 0) := (blk_cell BK371.out 5).trans rfl
     have hcz50_6 : w10.cell? ⟨gb371, 6, none⟩ = some (.int .i64 0) := (blk_cell BK371.out 6).trans rfl
     have hcz50_7 : w10.cell? ⟨gb371, 7, none⟩ = some (.string (⟨#[]⟩ : ByteArray)) := (blk_cell BK371.out 7).trans rfl
     have hcz50_8 : w10.cell? ⟨gb371, 8, none⟩ = some (.int .i64 0) := (blk_cell BK371.out 8).trans rfl
     have hcz50_9 : w10.cell? ⟨gb371, 9, none⟩ = some (.int .i64 0) := (blk_cell BK371.out 9).trans rfl
     have hcz50_10 : w10.cell? ⟨gb371, 10, none⟩ = some (.int .i64 0) := (blk_cell BK371.out 10).trans rfl
     have hcz50_11 : w10.cell? ⟨gb371, 11, none⟩ = some (.int .i64 0) := (blk_cell BK371.out 11).trans rfl
     have hcz50_12 : w10.cell? ⟨gb371, 12, none⟩ = some (.slice none 0 0) := (blk_cell BK371.out 12).trans rfl
     have hcz50_13 : w10.cell? ⟨gb371, 13, none⟩ = some (.slice none 0 0) := (blk_cell BK371.out 13).trans rfl
     have hfz50_0 := blk_frozen BK371.out 0
     have hfz50_1 := blk_frozen BK371.out 1
     have hfz50_2 := blk_frozen BK371.out 2
     have hfz50_3 := blk_frozen BK371.out 3
     have hfz50_4 := blk_frozen BK371.out 4
     have hfz50_5 := blk_frozen BK371.out 5
     have hfz50_6 := blk_frozen BK371.out 6
     have hfz50_7 := blk_frozen BK371.out 7
     have hfz50_8 := blk_frozen BK371.out 8
     have hfz50_9 := blk_frozen BK371.out 9
     have hfz50_10 := blk_frozen BK371.out 10
     have hfz50_11 := blk_frozen BK371.out 11
     have hfz50_12 := blk_frozen BK371.out 12
     have hfz50_13 := blk_frozen BK371.out 13
     obtain ⟨hcz51_0, hcz51_1⟩ := cz2_ BK368.out
     obtain ⟨hfz51_0, hfz51_1⟩ := fz2_ BK368.out
     go_wp2
     go_meet
     case rel => exact ⟨_, (true), rs_, H', ⟨by have := HK1.out; first | omega | exact Nat.le_refl _⟩, ⟨bf1_ NB368_371 BK368⟩, ⟨by refine bp_ ?_; refine blk_put (cs := #[.int .i64 ((rd_T40 l0_1 x3_1).f0.f0), .int .i64 ((rd_T40 l0_1 x3_1).f0.f1), .int .i64 ((rd_T40 l0_1 x3_1).f0.f2), .int .i64 ((rd_T40 l0_1 x3_1).f1), .string ((rd_T40 l0_1 x3_1).f2), .int .i64 ((rd_T40 l0_1 x3_1).f3), .int .i64 ((rd_T40 l0_1 x3_1).f4), .string ((rd_T40 l0_1 x3_1).f5), .int .i64 ((rd_T40 l0_1 x3_1).f6), .int .i64 ((rd_T40 l0_1 x3_1).f7.f0), .int .i64 ((rd_T40 l0_1 x3_1).f7.f1), .int .i64 ((rd_T40 l0_1 x3_1).f7.f2), .slice A370_12 ((rd_T40 l0_1 x3_1).f8).length c370_12, .slice none 0 0]) ?_ 13 _ rfl; refine bp_ ?_; refine blk_put (cs := #[.int .i64 ((rd_T40 l0_1 x3_1).f0.f0), .int .i64 ((rd_T40 l0_1 x3_1).f0.f1), .int .i64 ((rd_T40 l0_1 x3_1).f0.f2), .int .i64 ((rd_T40 l0_1 x3_1).f1), .string ((rd_T40 l0_1 x3_1).f2), .int .i64 ((rd_T40 l0_1 x3_1).f3), .int .i64 ((rd_T40 l0_1 x3_1).f4), .string ((rd_T40 l0_1 x3_1).f5), .int .i64 ((rd_T40 l0_1 x3_1).f6), .int .i64 ((rd_T40 l0_1 x3_1).f7.f0), .int .i64 ((rd_T40 l0_1 x3_1).f7.f1), .int .i64 ((rd_T40 l0_1 x3_1).f7.f2), .slice none 0 0, .slice none 0 0]) ?_ 12 _ rfl; refine bp_ ?_; refine blk_put (cs := #[.int .i64 ((rd_T40 l0_1 x3_1).f0.f0), .int .i64 ((rd_T40 l0_1 x3_1).f0.f1), .int .i64 ((rd_T40 l0_1 x3_1).f0.f2), .int .i64 ((rd_T40 l0_1 x3_1).f1), .string ((rd_T40 l0_1 x3_1).f2), .int .i64 ((rd_T40 l0_1 x3_1).f3), .int .i64 ((rd_T40 l0_1 x3_1).f4), .string ((rd_T40 l0_1 x3_1).f5), .int .i64 ((rd_T40 l0_1 x3_1).f6), .int .i64 ((rd_T40 l0_1 x3_1).f7.f0), .int .i64 ((rd_T40 l0_1 x3_1).f7.f1), .int .i64 0, .slice none 0 0, .slice none 0 0]) ?_ 11 _ rfl; refine bp_ ?_; refine blk_put (cs := #[.int .i64 ((rd_T40 l0_1 x3_1).f0.f0), .int .i64 ((rd_T40 l0_1 x3_1).f0.f1), .int .i64 ((rd_T40 l0_1 x3_1).f0.f2), .int .i64 ((rd_T40 l0_1 x3_1).f1), .string ((rd_T40 l0_1 x3_1).f2), .int .i64 ((rd_T40 l0_1 x3_1).f3), .int .i64 ((rd_T40 l0_1 x3_1).f4), .string ((rd_T40 l0_1 x3_1).f5), .int .i64 ((rd_T40 l0_1 x3_1).f6), .int .i64 ((rd_T40 l0_1 x3_1).f7.f0), .int .i64 0, .int .i64 0, .slice none 0 0, .slice none 0 0]) ?_ 10 _ rfl; refine bp_ ?_; refine blk_put (cs := #[.int .i64 ((rd_T40 l0_1 x3_1).f0.f0), .int .i64 ((rd_T40 l0_1 x3_1).f0.f1), .int .i64 ((rd_T40 l0_1 x3_1).f0.f2), .int .i64 ((rd_T40 l0_1 x3_1).f1), .string ((rd_T40 l0_1 x3_1).f2), .int .i64 ((rd_T40 l0_1 x3_1).f3), .int .i64 ((rd_T40 l0_1 x3_1).f4), .string ((rd_T40 l0_1 x3_1).f5), .int .i64 ((rd_T40 l0_1 x3_1).f6), .int .i64 0, .int .i64 0, .int .i64 0, .slice none 0 0, .slice none 0 0]) ?_ 9 _ rfl; refine bp_ ?_; refine blk_put (cs := #[.int .i64 ((rd_T40 l0_1 x3_1).f0.f0), .int .i64 ((rd_T40 l0_1 x3_1).f0.f1), .int .i64 ((rd_T40 l0_1 x3_1).f0.f2), .int .i64 ((rd_T40 l0_1 x3_1).f1), .string ((rd_T40 l0_1 x3_1).f2), .int .i64 ((rd_T40 l0_1 x3_1).f3), .int .i64 ((rd_T40 l0_1 x3_1).f4), .string ((rd_T40 l0_1 x3_1).f5), .int .i64 0, .int .i64 0, .int .i64 0, .int .i64 0, .slice none 0 0, .slice none 0 0]) ?_ 8 _ rfl; refine bp_ ?_; refine blk_put (cs := #[.int .i64 ((rd_T40 l0_1 x3_1).f0.f0), .int .i64 ((rd_T40 l0_1 x3_1).f0.f1), .int .i64 ((rd_T40 l0_1 x3_1).f0.f2), .int .i64 ((rd_T40 l0_1 x3_1).f1), .string ((rd_T40 l0_1 x3_1).f2), .int .i64 ((rd_T40 l0_1 x3_1).f3), .int .i64 ((rd_T40 l0_1 x3_1).f4), .string (⟨#[]⟩ : ByteArray), .int .i64 0, .int .i64 0, .int .i64 0, .int .i64 0, .slice none 0 0, .slice none 0 0]) ?_ 7 _ rfl; refine bp_ ?_; refine blk_put (cs := #[.int .i64 ((rd_T40 l0_1 x3_1).f0.f0), .int .i64 ((rd_T40 l0_1 x3_1).f0.f1), .int .i64 ((rd_T40 l0_1 x3_1).f0.f2), .int .i64 ((rd_T40 l0_1 x3_1).f1), .string ((rd_T40 l0_1 x3_1).f2), .int .i64 ((rd_T40 l0_1 x3_1).f3), .int .i64 0, .string (⟨#[]⟩ : ByteArray), .int .i64 0, .int .i64 0, .int .i64 0, .int .i64 0, .slice none 0 0, .slice none 0 0]) ?_ 6 _ rfl; refine bp_ ?_; refine blk_put (cs := #[.int .i64 ((rd_T40 l0_1 x3_1).f0.f0), .int .i64 ((rd_T40 l0_1 x3_1).f0.f1), .int .i64 ((rd_T40 l0_1 x3_1).f0.f2), .int .i64 ((rd_T40 l0_1 x3_1).f1), .string ((rd_T40 l0_1 x3_1).f2), .int .i64 0, .int .i64 0, .string (⟨#[]⟩ : ByteArray), .int .i64 0, .int .i64 0, .int .i64 0, .int .i64 0, .slice none 0 0, .slice none 0 0]) ?_ 5 _ rfl; refine bp_ ?_; refine blk_put (cs := #[.int .i64 ((rd_T40 l0_1 x3_1).f0.f0), .int .i64 ((rd_T40 l0_1 x3_1).f0.f1), .int .i64 ((rd_T40 l0_1 x3_1).f0.f2), .int .i64 ((rd_T40 l0_1 x3_1).f1), .string (⟨#[]⟩ : ByteArray), .int .i64 0, .int .i64 0, .string (⟨#[]⟩ : ByteArray), .int .i64 0, .int .i64 0, .int .i64 0, .int .i64 0, .slice none 0 0, .slice none 0 0]) ?_ 4 _ rfl; refine bp_ ?_; refine blk_put (cs := #[.int .i64 ((rd_T40 l0_1 x3_1).f0.f0), .int .i64 ((rd_T40 l0_1 x3_1).f0.f1), .int .i64 ((rd_T40 l0_1 x3_1).f0.f2), .int .i64 0, .string (⟨#[]⟩ : ByteArray), .int .i64 0, .int .i64 0, .string (⟨#[]⟩ : ByteArray), .int .i64 0, .int .i64 0, .int .i64 0, .int .i64 0, .slice none 0 0, .slice none 0 0]) ?_ 3 _ rfl; refine bp_ ?_; refine blk_put (cs := #[.int .i64 ((rd_T40 l0_1 x3_1).f0.f0), .int .i64 ((rd_T40 l0_1 x3_1).f0.f1), .int .i64 0, .int .i64 0, .string (⟨#[]⟩ : ByteArray), .int .i64 0, .int .i64 0, .string (⟨#[]⟩ : ByteArray), .int .i64 0, .int .i64 0, .int .i64 0, .int .i64 0, .slice none 0 0, .slice none 0 0]) ?_ 2 _ rfl; refine bp_ ?_; refine blk_put (cs := #[.int .i64 ((rd_T40 l0_1 x3_1).f0.f0), .int .i64 0, .int .i64 0, .int .i64 0, .string (⟨#[]⟩ : ByteArray), .int .i64 0, .int .i64 0, .string (⟨#[]⟩ : ByteArray), .int .i64 0, .int .i64 0, .int .i64 0, .int .i64 0, .slice none 0 0, .slice none 0 0]) ?_ 1 _ rfl; refine bp_ ?_; refine blk_put (cs := #[.int .i64 0, .int .i64 0, .int .i64 0, .int .i64 0, .string (⟨#[]⟩ : ByteArray), .int .i64 0, .int .i64 0, .string (⟨#[]⟩ : ByteArray), .int .i64 0, .int .i64 0, .int .i64 0, .int .i64 0, .slice none 0 0, .slice none 0 0]) ?_ 0 _ rfl; exact bk_ BK371.out⟩, ⟨bh_⟩⟩
    rw [if_pos c13] at H
    have c13b0 : (((rd_T40 l0_1 x3_1).f0.f0) == a0_0) = true := beq_iff_eq.mpr c13
    have c13b1 : (((rd_T40 l0_1 x3_1).f0.f0) != a0_0) = false := bne_eq_false_iff_eq.mpr c13
    clear c13
    (first | rw [c13b0] | (simp only [i64_w, i32_w]; rw [c13b0]) | skip)
    obtain ⟨t372, A14, H⟩ := bs_ H
    by_cases c15 : t372 = true
    rotate_left
    ·replace c15 := Bool.eq_false_iff.mpr c15
     subst c15
     replace H := if_ H
     have H' := am_ H
     clear H
     have hnb46 := NB371_368.out
     have hnc46 := NB368_371.out
     have hcz47_0 : w10.cell? ⟨gb371, 0, none⟩ = some (.int .i64 0) := (blk_cell BK371.out 0).trans rfl
     have hcz47_1 : w10.cell? ⟨gb371, 1, none⟩ = some (.int .i64 0) := (blk_cell BK371.out 1).trans rfl
     have hcz47_2 : w10.cell? ⟨gb371, 2, none⟩ = some (.int .i64 0) := (blk_cell BK371.out 2).trans rfl
     have hcz47_3 : w10.cell? ⟨gb371, 3, none⟩ = some (.int .i64 0) := (blk_cell BK371.out 3).trans rfl
     have hcz47_4 : w10.cell? ⟨gb371, 4, none⟩ = some (.string (⟨#[]⟩ : ByteArray)) := (blk_cell BK371.out 4).trans rfl
     have hcz47_5 : w10.cell? ⟨gb371, 5, none⟩ = some (.int .i64 0) := (blk_cell BK371.out 5).trans rfl
     have hcz47_6 : w10.cell? ⟨gb371, 6, none⟩ = some (.int .i64 0) := (blk_cell BK371.out 6).trans rfl
     have hcz47_7 : w10.cell? ⟨gb371, 7, none⟩ = some (.string (⟨#[]⟩ : ByteArray)) := (blk_cell BK371.out 7).trans rfl
     have hcz47_8 : w10.cell? ⟨gb371, 8, none⟩ = some (.int .i64 0) := (blk_cell BK371.out 8).trans rfl
     have hcz47_9 : w10.cell? ⟨gb371, 9, none⟩ = some (.int .i64 0) := (blk_cell BK371.out 9).trans rfl
     have hcz47_10 : w10.cell? ⟨gb371, 10, none⟩ = some (.int .i64 0) := (blk_cell BK371.out 10).trans rfl
     have hcz47_11 : w10.cell? ⟨gb371, 11, none⟩ = some (.int .i64 0) := (blk_cell BK371.out 11).trans rfl
     have hcz47_12 : w10.cell? ⟨gb371, 12, none⟩ = some (.slice none 0 0) := (blk_cell BK371.out 12).trans rfl
     have hcz47_13 : w10.cell? ⟨gb371, 13, none⟩ = some (.slice none 0 0) := (blk_cell BK371.out 13).trans rfl
     have hfz47_0 := blk_frozen BK371.out 0
     have hfz47_1 := blk_frozen BK371.out 1
     have hfz47_2 := blk_frozen BK371.out 2
     have hfz47_3 := blk_frozen BK371.out 3
     have hfz47_4 := blk_frozen BK371.out 4
     have hfz47_5 := blk_frozen BK371.out 5
     have hfz47_6 := blk_frozen BK371.out 6
     have hfz47_7 := blk_frozen BK371.out 7
     have hfz47_8 := blk_frozen BK371.out 8
     have hfz47_9 := blk_frozen BK371.out 9
     have hfz47_10 := blk_frozen BK371.out 10
     have hfz47_11 := blk_frozen BK371.out 11
     have hfz47_12 := blk_frozen BK371.out 12
     have hfz47_13 := blk_frozen BK371.out 13
     obtain ⟨hcz48_0, hcz48_1⟩ := cz2_ BK368.out
     obtain ⟨hfz48_0, hfz48_1⟩ := fz2_ BK368.out
     go_wp2_with (first | (go_at_call 30; (with_reducible refine (computusref26_In.calls ((rd_T40 l0_1 x3_1).f0.f1) false _ A14.out).mono ?_); rintro e w' ⟨rfl, ⟨nd, rfl⟩⟩))
     go_meet
     case rel => exact ⟨_, (true), rs_, H', ⟨by have := HK1.out; first | omega | exact Nat.le_refl _⟩, ⟨bf1_ NB368_371 BK368⟩, ⟨by refine bp_ ?_; refine blk_put (cs := #[.int .i64 ((rd_T40 l0_1 x3_1).f0.f0), .int .i64 ((rd_T40 l0_1 x3_1).f0.f1), .int .i64 ((rd_T40 l0_1 x3_1).f0.f2), .int .i64 ((rd_T40 l0_1 x3_1).f1), .string ((rd_T40 l0_1 x3_1).f2), .int .i64 ((rd_T40 l0_1 x3_1).f3), .int .i64 ((rd_T40 l0_1 x3_1).f4), .string ((rd_T40 l0_1 x3_1).f5), .int .i64 ((rd_T40 l0_1 x3_1).f6), .int .i64 ((rd_T40 l0_1 x3_1).f7.f0), .int .i64 ((rd_T40 l0_1 x3_1).f7.f1), .int .i64 ((rd_T40 l0_1 x3_1).f7.f2), .slice A370_12 ((rd_T40 l0_1 x3_1).f8).length c370_12, .slice none 0 0]) ?_ 13 _ rfl; refine bp_ ?_; refine blk_put (cs := #[.int .i64 ((rd_T40 l0_1 x3_1).f0.f0), .int .i64 ((rd_T40 l0_1 x3_1).f0.f1), .int .i64 ((rd_T40 l0_1 x3_1).f0.f2), .int .i64 ((rd_T40 l0_1 x3_1).f1), .string ((rd_T40 l0_1 x3_1).f2), .int .i64 ((rd_T40 l0_1 x3_1).f3), .int .i64 ((rd_T40 l0_1 x3_1).f4), .string ((rd_T40 l0_1 x3_1).f5), .int .i64 ((rd_T40 l0_1 x3_1).f6), .int .i64 ((rd_T40 l0_1 x3_1).f7.f0), .int .i64 ((rd_T40 l0_1 x3_1).f7.f1), .int .i64 ((rd_T40 l0_1 x3_1).f7.f2), .slice none 0 0, .slice none 0 0]) ?_ 12 _ rfl; refine bp_ ?_; refine blk_put (cs := #[.int .i64 ((rd_T40 l0_1 x3_1).f0.f0), .int .i64 ((rd_T40 l0_1 x3_1).f0.f1), .int .i64 ((rd_T40 l0_1 x3_1).f0.f2), .int .i64 ((rd_T40 l0_1 x3_1).f1), .string ((rd_T40 l0_1 x3_1).f2), .int .i64 ((rd_T40 l0_1 x3_1).f3), .int .i64 ((rd_T40 l0_1 x3_1).f4), .string ((rd_T40 l0_1 x3_1).f5), .int .i64 ((rd_T40 l0_1 x3_1).f6), .int .i64 ((rd_T40 l0_1 x3_1).f7.f0), .int .i64 ((rd_T40 l0_1 x3_1).f7.f1), .int .i64 0, .slice none 0 0, .slice none 0 0]) ?_ 11 _ rfl; refine bp_ ?_; refine blk_put (cs := #[.int .i64 ((rd_T40 l0_1 x3_1).f0.f0), .int .i64 ((rd_T40 l0_1 x3_1).f0.f1), .int .i64 ((rd_T40 l0_1 x3_1).f0.f2), .int .i64 ((rd_T40 l0_1 x3_1).f1), .string ((rd_T40 l0_1 x3_1).f2), .int .i64 ((rd_T40 l0_1 x3_1).f3), .int .i64 ((rd_T40 l0_1 x3_1).f4), .string ((rd_T40 l0_1 x3_1).f5), .int .i64 ((rd_T40 l0_1 x3_1).f6), .int .i64 ((rd_T40 l0_1 x3_1).f7.f0), .int .i64 0, .int .i64 0, .slice none 0 0, .slice none 0 0]) ?_ 10 _ rfl; refine bp_ ?_; refine blk_put (cs := #[.int .i64 ((rd_T40 l0_1 x3_1).f0.f0), .int .i64 ((rd_T40 l0_1 x3_1).f0.f1), .int .i64 ((rd_T40 l0_1 x3_1).f0.f2), .int .i64 ((rd_T40 l0_1 x3_1).f1), .string ((rd_T40 l0_1 x3_1).f2), .int .i64 ((rd_T40 l0_1 x3_1).f3), .int .i64 ((rd_T40 l0_1 x3_1).f4), .string ((rd_T40 l0_1 x3_1).f5), .int .i64 ((rd_T40 l0_1 x3_1).f6), .int .i64 0, .int .i64 0, .int .i64 0, .slice none 0 0, .slice none 0 0]) ?_ 9 _ rfl; refine bp_ ?_; refine blk_put (cs := #[.int .i64 ((rd_T40 l0_1 x3_1).f0.f0), .int .i64 ((rd_T40 l0_1 x3_1).f0.f1), .int .i64 ((rd_T40 l0_1 x3_1).f0.f2), .int .i64 ((rd_T40 l0_1 x3_1).f1), .string ((rd_T40 l0_1 x3_1).f2), .int .i64 ((rd_T40 l0_1 x3_1).f3), .int .i64 ((rd_T40 l0_1 x3_1).f4), .string ((rd_T40 l0_1 x3_1).f5), .int .i64 0, .int .i64 0, .int .i64 0, .int .i64 0, .slice none 0 0, .slice none 0 0]) ?_ 8 _ rfl; refine bp_ ?_; refine blk_put (cs := #[.int .i64 ((rd_T40 l0_1 x3_1).f0.f0), .int .i64 ((rd_T40 l0_1 x3_1).f0.f1), .int .i64 ((rd_T40 l0_1 x3_1).f0.f2), .int .i64 ((rd_T40 l0_1 x3_1).f1), .string ((rd_T40 l0_1 x3_1).f2), .int .i64 ((rd_T40 l0_1 x3_1).f3), .int .i64 ((rd_T40 l0_1 x3_1).f4), .string (⟨#[]⟩ : ByteArray), .int .i64 0, .int .i64 0, .int .i64 0, .int .i64 0, .slice none 0 0, .slice none 0 0]) ?_ 7 _ rfl; refine bp_ ?_; refine blk_put (cs := #[.int .i64 ((rd_T40 l0_1 x3_1).f0.f0), .int .i64 ((rd_T40 l0_1 x3_1).f0.f1), .int .i64 ((rd_T40 l0_1 x3_1).f0.f2), .int .i64 ((rd_T40 l0_1 x3_1).f1), .string ((rd_T40 l0_1 x3_1).f2), .int .i64 ((rd_T40 l0_1 x3_1).f3), .int .i64 0, .string (⟨#[]⟩ : ByteArray), .int .i64 0, .int .i64 0, .int .i64 0, .int .i64 0, .slice none 0 0, .slice none 0 0]) ?_ 6 _ rfl; refine bp_ ?_; refine blk_put (cs := #[.int .i64 ((rd_T40 l0_1 x3_1).f0.f0), .int .i64 ((rd_T40 l0_1 x3_1).f0.f1), .int .i64 ((rd_T40 l0_1 x3_1).f0.f2), .int .i64 ((rd_T40 l0_1 x3_1).f1), .string ((rd_T40 l0_1 x3_1).f2), .int .i64 0, .int .i64 0, .string (⟨#[]⟩ : ByteArray), .int .i64 0, .int .i64 0, .int .i64 0, .int .i64 0, .slice none 0 0, .slice none 0 0]) ?_ 5 _ rfl; refine bp_ ?_; refine blk_put (cs := #[.int .i64 ((rd_T40 l0_1 x3_1).f0.f0), .int .i64 ((rd_T40 l0_1 x3_1).f0.f1), .int .i64 ((rd_T40 l0_1 x3_1).f0.f2), .int .i64 ((rd_T40 l0_1 x3_1).f1), .string (⟨#[]⟩ : ByteArray), .int .i64 0, .int .i64 0, .string (⟨#[]⟩ : ByteArray), .int .i64 0, .int .i64 0, .int .i64 0, .int .i64 0, .slice none 0 0, .slice none 0 0]) ?_ 4 _ rfl; refine bp_ ?_; refine blk_put (cs := #[.int .i64 ((rd_T40 l0_1 x3_1).f0.f0), .int .i64 ((rd_T40 l0_1 x3_1).f0.f1), .int .i64 ((rd_T40 l0_1 x3_1).f0.f2), .int .i64 0, .string (⟨#[]⟩ : ByteArray), .int .i64 0, .int .i64 0, .string (⟨#[]⟩ : ByteArray), .int .i64 0, .int .i64 0, .int .i64 0, .int .i64 0, .slice none 0 0, .slice none 0 0]) ?_ 3 _ rfl; refine bp_ ?_; refine blk_put (cs := #[.int .i64 ((rd_T40 l0_1 x3_1).f0.f0), .int .i64 ((rd_T40 l0_1 x3_1).f0.f1), .int .i64 0, .int .i64 0, .string (⟨#[]⟩ : ByteArray), .int .i64 0, .int .i64 0, .string (⟨#[]⟩ : ByteArray), .int .i64 0, .int .i64 0, .int .i64 0, .int .i64 0, .slice none 0 0, .slice none 0 0]) ?_ 2 _ rfl; refine bp_ ?_; refine blk_put (cs := #[.int .i64 ((rd_T40 l0_1 x3_1).f0.f0), .int .i64 0, .int .i64 0, .int .i64 0, .string (⟨#[]⟩ : ByteArray), .int .i64 0, .int .i64 0, .string (⟨#[]⟩ : ByteArray), .int .i64 0, .int .i64 0, .int .i64 0, .int .i64 0, .slice none 0 0, .slice none 0 0]) ?_ 1 _ rfl; refine bp_ ?_; refine blk_put (cs := #[.int .i64 0, .int .i64 0, .int .i64 0, .int .i64 0, .string (⟨#[]⟩ : ByteArray), .int .i64 0, .int .i64 0, .string (⟨#[]⟩ : ByteArray), .int .i64 0, .int .i64 0, .int .i64 0, .int .i64 0, .slice none 0 0, .slice none 0 0]) ?_ 0 _ rfl; exact bk_ BK371.out⟩, ⟨bh_⟩⟩
    subst c15
    replace H := it_ H
    obtain ⟨t373, A16, H⟩ := bs_ H
    by_cases c17 : t373 = true
    rotate_left
    ·replace c17 := Bool.eq_false_iff.mpr c17
     subst c17
     replace H := if_ H
     have H' := am_ H
     clear H
     have hnb43 := NB371_368.out
     have hnc43 := NB368_371.out
     have hcz44_0 : w10.cell? ⟨gb371, 0, none⟩ = some (.int .i64 0) := (blk_cell BK371.out 0).trans rfl
     have hcz44_1 : w10.cell? ⟨gb371, 1, none⟩ = some (.int .i64 0) := (blk_cell BK371.out 1).trans rfl
     have hcz44_2 : w10.cell? ⟨gb371, 2, none⟩ = some (.int .i64 0) := (blk_cell BK371.out 2).trans rfl
     have hcz44_3 : w10.cell? ⟨gb371, 3, none⟩ = some (.int .i64 0) := (blk_cell BK371.out 3).trans rfl
     have hcz44_4 : w10.cell? ⟨gb371, 4, none⟩ = some (.string (⟨#[]⟩ : ByteArray)) := (blk_cell BK371.out 4).trans rfl
     have hcz44_5 : w10.cell? ⟨gb371, 5, none⟩ = some (.int .i64 0) := (blk_cell BK371.out 5).trans rfl
     have hcz44_6 : w10.cell? ⟨gb371, 6, none⟩ = some (.int .i64 0) := (blk_cell BK371.out 6).trans rfl
     have hcz44_7 : w10.cell? ⟨gb371, 7, none⟩ = some (.string (⟨#[]⟩ : ByteArray)) := (blk_cell BK371.out 7).trans rfl
     have hcz44_8 : w10.cell? ⟨gb371, 8, none⟩ = some (.int .i64 0) := (blk_cell BK371.out 8).trans rfl
     have hcz44_9 : w10.cell? ⟨gb371, 9, none⟩ = some (.int .i64 0) := (blk_cell BK371.out 9).trans rfl
     have hcz44_10 : w10.cell? ⟨gb371, 10, none⟩ = some (.int .i64 0) := (blk_cell BK371.out 10).trans rfl
     have hcz44_11 : w10.cell? ⟨gb371, 11, none⟩ = some (.int .i64 0) := (blk_cell BK371.out 11).trans rfl
     have hcz44_12 : w10.cell? ⟨gb371, 12, none⟩ = some (.slice none 0 0) := (blk_cell BK371.out 12).trans rfl
     have hcz44_13 : w10.cell? ⟨gb371, 13, none⟩ = some (.slice none 0 0) := (blk_cell BK371.out 13).trans rfl
     have hfz44_0 := blk_frozen BK371.out 0
     have hfz44_1 := blk_frozen BK371.out 1
     have hfz44_2 := blk_frozen BK371.out 2
     have hfz44_3 := blk_frozen BK371.out 3
     have hfz44_4 := blk_frozen BK371.out 4
     have hfz44_5 := blk_frozen BK371.out 5
     have hfz44_6 := blk_frozen BK371.out 6
     have hfz44_7 := blk_frozen BK371.out 7
     have hfz44_8 := blk_frozen BK371.out 8
     have hfz44_9 := blk_frozen BK371.out 9
     have hfz44_10 := blk_frozen BK371.out 10
     have hfz44_11 := blk_frozen BK371.out 11
     have hfz44_12 := blk_frozen BK371.out 12
     have hfz44_13 := blk_frozen BK371.out 13
     obtain ⟨hcz45_0, hcz45_1⟩ := cz2_ BK368.out
     obtain ⟨hfz45_0, hfz45_1⟩ := fz2_ BK368.out
     go_wp2_with (first | (go_at_call 30; (with_reducible refine (computusref26_In.calls ((rd_T40 l0_1 x3_1).f0.f1) true _ A14.out).mono ?_); rintro e w' ⟨rfl, ⟨nd, rfl⟩⟩) | (go_at_call 30; (with_reducible refine (computusref26_In.calls ((rd_T40 l0_1 x3_1).f0.f2) false _ A16.out).mono ?_); rintro e w' ⟨rfl, ⟨nd, rfl⟩⟩))
     go_meet
     case rel => exact ⟨_, (true), rs_, H', ⟨by have := HK1.out; first | omega | exact Nat.le_refl _⟩, ⟨bf1_ NB368_371 BK368⟩, ⟨by refine bp_ ?_; refine blk_put (cs := #[.int .i64 ((rd_T40 l0_1 x3_1).f0.f0), .int .i64 ((rd_T40 l0_1 x3_1).f0.f1), .int .i64 ((rd_T40 l0_1 x3_1).f0.f2), .int .i64 ((rd_T40 l0_1 x3_1).f1), .string ((rd_T40 l0_1 x3_1).f2), .int .i64 ((rd_T40 l0_1 x3_1).f3), .int .i64 ((rd_T40 l0_1 x3_1).f4), .string ((rd_T40 l0_1 x3_1).f5), .int .i64 ((rd_T40 l0_1 x3_1).f6), .int .i64 ((rd_T40 l0_1 x3_1).f7.f0), .int .i64 ((rd_T40 l0_1 x3_1).f7.f1), .int .i64 ((rd_T40 l0_1 x3_1).f7.f2), .slice A370_12 ((rd_T40 l0_1 x3_1).f8).length c370_12, .slice none 0 0]) ?_ 13 _ rfl; refine bp_ ?_; refine blk_put (cs := #[.int .i64 ((rd_T40 l0_1 x3_1).f0.f0), .int .i64 ((rd_T40 l0_1 x3_1).f0.f1), .int .i64 ((rd_T40 l0_1 x3_1).f0.f2), .int .i64 ((rd_T40 l0_1 x3_1).f1), .string ((rd_T40 l0_1 x3_1).f2), .int .i64 ((rd_T40 l0_1 x3_1).f3), .int .i64 ((rd_T40 l0_1 x3_1).f4), .string ((rd_T40 l0_1 x3_1).f5), .int .i64 ((rd_T40 l0_1 x3_1).f6), .int .i64 ((rd_T40 l0_1 x3_1).f7.f0), .int .i64 ((rd_T40 l0_1 x3_1).f7.f1), .int .i64 ((rd_T40 l0_1 x3_1).f7.f2), .slice none 0 0, .slice none 0 0]) ?_ 12 _ rfl; refine bp_ ?_; refine blk_put (cs := #[.int .i64 ((rd_T40 l0_1 x3_1).f0.f0), .int .i64 ((rd_T40 l0_1 x3_1).f0.f1), .int .i64 ((rd_T40 l0_1 x3_1).f0.f2), .int .i64 ((rd_T40 l0_1 x3_1).f1), .string ((rd_T40 l0_1 x3_1).f2), .int .i64 ((rd_T40 l0_1 x3_1).f3), .int .i64 ((rd_T40 l0_1 x3_1).f4), .string ((rd_T40 l0_1 x3_1).f5), .int .i64 ((rd_T40 l0_1 x3_1).f6), .int .i64 ((rd_T40 l0_1 x3_1).f7.f0), .int .i64 ((rd_T40 l0_1 x3_1).f7.f1), .int .i64 0, .slice none 0 0, .slice none 0 0]) ?_ 11 _ rfl; refine bp_ ?_; refine blk_put (cs := #[.int .i64 ((rd_T40 l0_1 x3_1).f0.f0), .int .i64 ((rd_T40 l0_1 x3_1).f0.f1), .int .i64 ((rd_T40 l0_1 x3_1).f0.f2), .int .i64 ((rd_T40 l0_1 x3_1).f1), .string ((rd_T40 l0_1 x3_1).f2), .int .i64 ((rd_T40 l0_1 x3_1).f3), .int .i64 ((rd_T40 l0_1 x3_1).f4), .string ((rd_T40 l0_1 x3_1).f5), .int .i64 ((rd_T40 l0_1 x3_1).f6), .int .i64 ((rd_T40 l0_1 x3_1).f7.f0), .int .i64 0, .int .i64 0, .slice none 0 0, .slice none 0 0]) ?_ 10 _ rfl; refine bp_ ?_; refine blk_put (cs := #[.int .i64 ((rd_T40 l0_1 x3_1).f0.f0), .int .i64 ((rd_T40 l0_1 x3_1).f0.f1), .int .i64 ((rd_T40 l0_1 x3_1).f0.f2), .int .i64 ((rd_T40 l0_1 x3_1).f1), .string ((rd_T40 l0_1 x3_1).f2), .int .i64 ((rd_T40 l0_1 x3_1).f3), .int .i64 ((rd_T40 l0_1 x3_1).f4), .string ((rd_T40 l0_1 x3_1).f5), .int .i64 ((rd_T40 l0_1 x3_1).f6), .int .i64 0, .int .i64 0, .int .i64 0, .slice none 0 0, .slice none 0 0]) ?_ 9 _ rfl; refine bp_ ?_; refine blk_put (cs := #[.int .i64 ((rd_T40 l0_1 x3_1).f0.f0), .int .i64 ((rd_T40 l0_1 x3_1).f0.f1), .int .i64 ((rd_T40 l0_1 x3_1).f0.f2), .int .i64 ((rd_T40 l0_1 x3_1).f1), .string ((rd_T40 l0_1 x3_1).f2), .int .i64 ((rd_T40 l0_1 x3_1).f3), .int .i64 ((rd_T40 l0_1 x3_1).f4), .string ((rd_T40 l0_1 x3_1).f5), .int .i64 0, .int .i64 0, .int .i64 0, .int .i64 0, .slice none 0 0, .slice none 0 0]) ?_ 8 _ rfl; refine bp_ ?_; refine blk_put (cs := #[.int .i64 ((rd_T40 l0_1 x3_1).f0.f0), .int .i64 ((rd_T40 l0_1 x3_1).f0.f1), .int .i64 ((rd_T40 l0_1 x3_1).f0.f2), .int .i64 ((rd_T40 l0_1 x3_1).f1), .string ((rd_T40 l0_1 x3_1).f2), .int .i64 ((rd_T40 l0_1 x3_1).f3), .int .i64 ((rd_T40 l0_1 x3_1).f4), .string (⟨#[]⟩ : ByteArray), .int .i64 0, .int .i64 0, .int .i64 0, .int .i64 0, .slice none 0 0, .slice none 0 0]) ?_ 7 _ rfl; refine bp_ ?_; refine blk_put (cs := #[.int .i64 ((rd_T40 l0_1 x3_1).f0.f0), .int .i64 ((rd_T40 l0_1 x3_1).f0.f1), .int .i64 ((rd_T40 l0_1 x3_1).f0.f2), .int .i64 ((rd_T40 l0_1 x3_1).f1), .string ((rd_T40 l0_1 x3_1).f2), .int .i64 ((rd_T40 l0_1 x3_1).f3), .int .i64 0, .string (⟨#[]⟩ : ByteArray), .int .i64 0, .int .i64 0, .int .i64 0, .int .i64 0, .slice none 0 0, .slice none 0 0]) ?_ 6 _ rfl; refine bp_ ?_; refine blk_put (cs := #[.int .i64 ((rd_T40 l0_1 x3_1).f0.f0), .int .i64 ((rd_T40 l0_1 x3_1).f0.f1), .int .i64 ((rd_T40 l0_1 x3_1).f0.f2), .int .i64 ((rd_T40 l0_1 x3_1).f1), .string ((rd_T40 l0_1 x3_1).f2), .int .i64 0, .int .i64 0, .string (⟨#[]⟩ : ByteArray), .int .i64 0, .int .i64 0, .int .i64 0, .int .i64 0, .slice none 0 0, .slice none 0 0]) ?_ 5 _ rfl; refine bp_ ?_; refine blk_put (cs := #[.int .i64 ((rd_T40 l0_1 x3_1).f0.f0), .int .i64 ((rd_T40 l0_1 x3_1).f0.f1), .int .i64 ((rd_T40 l0_1 x3_1).f0.f2), .int .i64 ((rd_T40 l0_1 x3_1).f1), .string (⟨#[]⟩ : ByteArray), .int .i64 0, .int .i64 0, .string (⟨#[]⟩ : ByteArray), .int .i64 0, .int .i64 0, .int .i64 0, .int .i64 0, .slice none 0 0, .slice none 0 0]) ?_ 4 _ rfl; refine bp_ ?_; refine blk_put (cs := #[.int .i64 ((rd_T40 l0_1 x3_1).f0.f0), .int .i64 ((rd_T40 l0_1 x3_1).f0.f1), .int .i64 ((rd_T40 l0_1 x3_1).f0.f2), .int .i64 0, .string (⟨#[]⟩ : ByteArray), .int .i64 0, .int .i64 0, .string (⟨#[]⟩ : ByteArray), .int .i64 0, .int .i64 0, .int .i64 0, .int .i64 0, .slice none 0 0, .slice none 0 0]) ?_ 3 _ rfl; refine bp_ ?_; refine blk_put (cs := #[.int .i64 ((rd_T40 l0_1 x3_1).f0.f0), .int .i64 ((rd_T40 l0_1 x3_1).f0.f1), .int .i64 0, .int .i64 0, .string (⟨#[]⟩ : ByteArray), .int .i64 0, .int .i64 0, .string (⟨#[]⟩ : ByteArray), .int .i64 0, .int .i64 0, .int .i64 0, .int .i64 0, .slice none 0 0, .slice none 0 0]) ?_ 2 _ rfl; refine bp_ ?_; refine blk_put (cs := #[.int .i64 ((rd_T40 l0_1 x3_1).f0.f0), .int .i64 0, .int .i64 0, .int .i64 0, .string (⟨#[]⟩ : ByteArray), .int .i64 0, .int .i64 0, .string (⟨#[]⟩ : ByteArray), .int .i64 0, .int .i64 0, .int .i64 0, .int .i64 0, .slice none 0 0, .slice none 0 0]) ?_ 1 _ rfl; refine bp_ ?_; refine blk_put (cs := #[.int .i64 0, .int .i64 0, .int .i64 0, .int .i64 0, .string (⟨#[]⟩ : ByteArray), .int .i64 0, .int .i64 0, .string (⟨#[]⟩ : ByteArray), .int .i64 0, .int .i64 0, .int .i64 0, .int .i64 0, .slice none 0 0, .slice none 0 0]) ?_ 0 _ rfl; exact bk_ BK371.out⟩, ⟨bh_⟩⟩
    subst c17
    replace H := it_ H
    obtain ⟨t374, A18, H⟩ := bs_ H
    by_cases c19 : t374 = true
    rotate_left
    ·replace c19 := Bool.eq_false_iff.mpr c19
     subst c19
     replace H := if_ H
     have H' := am_ H
     clear H
     have hnb40 := NB371_368.out
     have hnc40 := NB368_371.out
     have hcz41_0 : w10.cell? ⟨gb371, 0, none⟩ = some (.int .i64 0) := (blk_cell BK371.out 0).trans rfl
     have hcz41_1 : w10.cell? ⟨gb371, 1, none⟩ = some (.int .i64 0) := (blk_cell BK371.out 1).trans rfl
     have hcz41_2 : w10.cell? ⟨gb371, 2, none⟩ = some (.int .i64 0) := (blk_cell BK371.out 2).trans rfl
     have hcz41_3 : w10.cell? ⟨gb371, 3, none⟩ = some (.int .i64 0) := (blk_cell BK371.out 3).trans rfl
     have hcz41_4 : w10.cell? ⟨gb371, 4, none⟩ = some (.string (⟨#[]⟩ : ByteArray)) := (blk_cell BK371.out 4).trans rfl
     have hcz41_5 : w10.cell? ⟨gb371, 5, none⟩ = some (.int .i64 0) := (blk_cell BK371.out 5).trans rfl
     have hcz41_6 : w10.cell? ⟨gb371, 6, none⟩ = some (.int .i64 0) := (blk_cell BK371.out 6).trans rfl
     have hcz41_7 : w10.cell? ⟨gb371, 7, none⟩ = some (.string (⟨#[]⟩ : ByteArray)) := (blk_cell BK371.out 7).trans rfl
     have hcz41_8 : w10.cell? ⟨gb371, 8, none⟩ = some (.int .i64 0) := (blk_cell BK371.out 8).trans rfl
     have hcz41_9 : w10.cell? ⟨gb371, 9, none⟩ = some (.int .i64 0) := (blk_cell BK371.out 9).trans rfl
     have hcz41_10 : w10.cell? ⟨gb371, 10, none⟩ = some (.int .i64 0) := (blk_cell BK371.out 10).trans rfl
     have hcz41_11 : w10.cell? ⟨gb371, 11, none⟩ = some (.int .i64 0) := (blk_cell BK371.out 11).trans rfl
     have hcz41_12 : w10.cell? ⟨gb371, 12, none⟩ = some (.slice none 0 0) := (blk_cell BK371.out 12).trans rfl
     have hcz41_13 : w10.cell? ⟨gb371, 13, none⟩ = some (.slice none 0 0) := (blk_cell BK371.out 13).trans rfl
     have hfz41_0 := blk_frozen BK371.out 0
     have hfz41_1 := blk_frozen BK371.out 1
     have hfz41_2 := blk_frozen BK371.out 2
     have hfz41_3 := blk_frozen BK371.out 3
     have hfz41_4 := blk_frozen BK371.out 4
     have hfz41_5 := blk_frozen BK371.out 5
     have hfz41_6 := blk_frozen BK371.out 6
     have hfz41_7 := blk_frozen BK371.out 7
     have hfz41_8 := blk_frozen BK371.out 8
     have hfz41_9 := blk_frozen BK371.out 9
     have hfz41_10 := blk_frozen BK371.out 10
     have hfz41_11 := blk_frozen BK371.out 11
     have hfz41_12 := blk_frozen BK371.out 12
     have hfz41_13 := blk_frozen BK371.out 13
     obtain ⟨hcz42_0, hcz42_1⟩ := cz2_ BK368.out
     obtain ⟨hfz42_0, hfz42_1⟩ := fz2_ BK368.out
     go_wp2_with (first | (go_at_call 30; (with_reducible refine (computusref26_In.calls ((rd_T40 l0_1 x3_1).f0.f1) true _ A14.out).mono ?_); rintro e w' ⟨rfl, ⟨nd, rfl⟩⟩) | (go_at_call 30; (with_reducible refine (computusref26_In.calls ((rd_T40 l0_1 x3_1).f0.f2) true _ A16.out).mono ?_); rintro e w' ⟨rfl, ⟨nd, rfl⟩⟩) | (go_at_call 30; (with_reducible refine (computusref26_In.calls ((rd_T40 l0_1 x3_1).f3) false _ A18.out).mono ?_); rintro e w' ⟨rfl, ⟨nd, rfl⟩⟩))
     go_meet
     case rel => exact ⟨_, (true), rs_, H', ⟨by have := HK1.out; first | omega | exact Nat.le_refl _⟩, ⟨bf1_ NB368_371 BK368⟩, ⟨by refine bp_ ?_; refine blk_put (cs := #[.int .i64 ((rd_T40 l0_1 x3_1).f0.f0), .int .i64 ((rd_T40 l0_1 x3_1).f0.f1), .int .i64 ((rd_T40 l0_1 x3_1).f0.f2), .int .i64 ((rd_T40 l0_1 x3_1).f1), .string ((rd_T40 l0_1 x3_1).f2), .int .i64 ((rd_T40 l0_1 x3_1).f3), .int .i64 ((rd_T40 l0_1 x3_1).f4), .string ((rd_T40 l0_1 x3_1).f5), .int .i64 ((rd_T40 l0_1 x3_1).f6), .int .i64 ((rd_T40 l0_1 x3_1).f7.f0), .int .i64 ((rd_T40 l0_1 x3_1).f7.f1), .int .i64 ((rd_T40 l0_1 x3_1).f7.f2), .slice A370_12 ((rd_T40 l0_1 x3_1).f8).length c370_12, .slice none 0 0]) ?_ 13 _ rfl; refine bp_ ?_; refine blk_put (cs := #[.int .i64 ((rd_T40 l0_1 x3_1).f0.f0), .int .i64 ((rd_T40 l0_1 x3_1).f0.f1), .int .i64 ((rd_T40 l0_1 x3_1).f0.f2), .int .i64 ((rd_T40 l0_1 x3_1).f1), .string ((rd_T40 l0_1 x3_1).f2), .int .i64 ((rd_T40 l0_1 x3_1).f3), .int .i64 ((rd_T40 l0_1 x3_1).f4), .string ((rd_T40 l0_1 x3_1).f5), .int .i64 ((rd_T40 l0_1 x3_1).f6), .int .i64 ((rd_T40 l0_1 x3_1).f7.f0), .int .i64 ((rd_T40 l0_1 x3_1).f7.f1), .int .i64 ((rd_T40 l0_1 x3_1).f7.f2), .slice none 0 0, .slice none 0 0]) ?_ 12 _ rfl; refine bp_ ?_; refine blk_put (cs := #[.int .i64 ((rd_T40 l0_1 x3_1).f0.f0), .int .i64 ((rd_T40 l0_1 x3_1).f0.f1), .int .i64 ((rd_T40 l0_1 x3_1).f0.f2), .int .i64 ((rd_T40 l0_1 x3_1).f1), .string ((rd_T40 l0_1 x3_1).f2), .int .i64 ((rd_T40 l0_1 x3_1).f3), .int .i64 ((rd_T40 l0_1 x3_1).f4), .string ((rd_T40 l0_1 x3_1).f5), .int .i64 ((rd_T40 l0_1 x3_1).f6), .int .i64 ((rd_T40 l0_1 x3_1).f7.f0), .int .i64 ((rd_T40 l0_1 x3_1).f7.f1), .int .i64 0, .slice none 0 0, .slice none 0 0]) ?_ 11 _ rfl; refine bp_ ?_; refine blk_put (cs := #[.int .i64 ((rd_T40 l0_1 x3_1).f0.f0), .int .i64 ((rd_T40 l0_1 x3_1).f0.f1), .int .i64 ((rd_T40 l0_1 x3_1).f0.f2), .int .i64 ((rd_T40 l0_1 x3_1).f1), .string ((rd_T40 l0_1 x3_1).f2), .int .i64 ((rd_T40 l0_1 x3_1).f3), .int .i64 ((rd_T40 l0_1 x3_1).f4), .string ((rd_T40 l0_1 x3_1).f5), .int .i64 ((rd_T40 l0_1 x3_1).f6), .int .i64 ((rd_T40 l0_1 x3_1).f7.f0), .int .i64 0, .int .i64 0, .slice none 0 0, .slice none 0 0]) ?_ 10 _ rfl; refine bp_ ?_; refine blk_put (cs := #[.int .i64 ((rd_T40 l0_1 x3_1).f0.f0), .int .i64 ((rd_T40 l0_1 x3_1).f0.f1), .int .i64 ((rd_T40 l0_1 x3_1).f0.f2), .int .i64 ((rd_T40 l0_1 x3_1).f1), .string ((rd_T40 l0_1 x3_1).f2), .int .i64 ((rd_T40 l0_1 x3_1).f3), .int .i64 ((rd_T40 l0_1 x3_1).f4), .string ((rd_T40 l0_1 x3_1).f5), .int .i64 ((rd_T40 l0_1 x3_1).f6), .int .i64 0, .int .i64 0, .int .i64 0, .slice none 0 0, .slice none 0 0]) ?_ 9 _ rfl; refine bp_ ?_; refine blk_put (cs := #[.int .i64 ((rd_T40 l0_1 x3_1).f0.f0), .int .i64 ((rd_T40 l0_1 x3_1).f0.f1), .int .i64 ((rd_T40 l0_1 x3_1).f0.f2), .int .i64 ((rd_T40 l0_1 x3_1).f1), .string ((rd_T40 l0_1 x3_1).f2), .int .i64 ((rd_T40 l0_1 x3_1).f3), .int .i64 ((rd_T40 l0_1 x3_1).f4), .string ((rd_T40 l0_1 x3_1).f5), .int .i64 0, .int .i64 0, .int .i64 0, .int .i64 0, .slice none 0 0, .slice none 0 0]) ?_ 8 _ rfl; refine bp_ ?_; refine blk_put (cs := #[.int .i64 ((rd_T40 l0_1 x3_1).f0.f0), .int .i64 ((rd_T40 l0_1 x3_1).f0.f1), .int .i64 ((rd_T40 l0_1 x3_1).f0.f2), .int .i64 ((rd_T40 l0_1 x3_1).f1), .string ((rd_T40 l0_1 x3_1).f2), .int .i64 ((rd_T40 l0_1 x3_1).f3), .int .i64 ((rd_T40 l0_1 x3_1).f4), .string (⟨#[]⟩ : ByteArray), .int .i64 0, .int .i64 0, .int .i64 0, .int .i64 0, .slice none 0 0, .slice none 0 0]) ?_ 7 _ rfl; refine bp_ ?_; refine blk_put (cs := #[.int .i64 ((rd_T40 l0_1 x3_1).f0.f0), .int .i64 ((rd_T40 l0_1 x3_1).f0.f1), .int .i64 ((rd_T40 l0_1 x3_1).f0.f2), .int .i64 ((rd_T40 l0_1 x3_1).f1), .string ((rd_T40 l0_1 x3_1).f2), .int .i64 ((rd_T40 l0_1 x3_1).f3), .int .i64 0, .string (⟨#[]⟩ : ByteArray), .int .i64 0, .int .i64 0, .int .i64 0, .int .i64 0, .slice none 0 0, .slice none 0 0]) ?_ 6 _ rfl; refine bp_ ?_; refine blk_put (cs := #[.int .i64 ((rd_T40 l0_1 x3_1).f0.f0), .int .i64 ((rd_T40 l0_1 x3_1).f0.f1), .int .i64 ((rd_T40 l0_1 x3_1).f0.f2), .int .i64 ((rd_T40 l0_1 x3_1).f1), .string ((rd_T40 l0_1 x3_1).f2), .int .i64 0, .int .i64 0, .string (⟨#[]⟩ : ByteArray), .int .i64 0, .int .i64 0, .int .i64 0, .int .i64 0, .slice none 0 0, .slice none 0 0]) ?_ 5 _ rfl; refine bp_ ?_; refine blk_put (cs := #[.int .i64 ((rd_T40 l0_1 x3_1).f0.f0), .int .i64 ((rd_T40 l0_1 x3_1).f0.f1), .int .i64 ((rd_T40 l0_1 x3_1).f0.f2), .int .i64 ((rd_T40 l0_1 x3_1).f1), .string (⟨#[]⟩ : ByteArray), .int .i64 0, .int .i64 0, .string (⟨#[]⟩ : ByteArray), .int .i64 0, .int .i64 0, .int .i64 0, .int .i64 0, .slice none 0 0, .slice none 0 0]) ?_ 4 _ rfl; refine bp_ ?_; refine blk_put (cs := #[.int .i64 ((rd_T40 l0_1 x3_1).f0.f0), .int .i64 ((rd_T40 l0_1 x3_1).f0.f1), .int .i64 ((rd_T40 l0_1 x3_1).f0.f2), .int .i64 0, .string (⟨#[]⟩ : ByteArray), .int .i64 0, .int .i64 0, .string (⟨#[]⟩ : ByteArray), .int .i64 0, .int .i64 0, .int .i64 0, .int .i64 0, .slice none 0 0, .slice none 0 0]) ?_ 3 _ rfl; refine bp_ ?_; refine blk_put (cs := #[.int .i64 ((rd_T40 l0_1 x3_1).f0.f0), .int .i64 ((rd_T40 l0_1 x3_1).f0.f1), .int .i64 0, .int .i64 0, .string (⟨#[]⟩ : ByteArray), .int .i64 0, .int .i64 0, .string (⟨#[]⟩ : ByteArray), .int .i64 0, .int .i64 0, .int .i64 0, .int .i64 0, .slice none 0 0, .slice none 0 0]) ?_ 2 _ rfl; refine bp_ ?_; refine blk_put (cs := #[.int .i64 ((rd_T40 l0_1 x3_1).f0.f0), .int .i64 0, .int .i64 0, .int .i64 0, .string (⟨#[]⟩ : ByteArray), .int .i64 0, .int .i64 0, .string (⟨#[]⟩ : ByteArray), .int .i64 0, .int .i64 0, .int .i64 0, .int .i64 0, .slice none 0 0, .slice none 0 0]) ?_ 1 _ rfl; refine bp_ ?_; refine blk_put (cs := #[.int .i64 0, .int .i64 0, .int .i64 0, .int .i64 0, .string (⟨#[]⟩ : ByteArray), .int .i64 0, .int .i64 0, .string (⟨#[]⟩ : ByteArray), .int .i64 0, .int .i64 0, .int .i64 0, .int .i64 0, .slice none 0 0, .slice none 0 0]) ?_ 0 _ rfl; exact bk_ BK371.out⟩, ⟨bh_⟩⟩
    subst c19
    replace H := it_ H
    obtain ⟨t375, A20, H⟩ := bs_ H
    by_cases c21 : t375 = true
    rotate_left
    ·replace c21 := Bool.eq_false_iff.mpr c21
     subst c21
     replace H := if_ H
     have H' := am_ H
     clear H
     have hnb37 := NB371_368.out
     have hnc37 := NB368_371.out
     have hcz38_0 : w10.cell? ⟨gb371, 0, none⟩ = some (.int .i64 0) := (blk_cell BK371.out 0).trans rfl
     have hcz38_1 : w10.cell? ⟨gb371, 1, none⟩ = some (.int .i64 0) := (blk_cell BK371.out 1).trans rfl
     have hcz38_2 : w10.cell? ⟨gb371, 2, none⟩ = some (.int .i64 0) := (blk_cell BK371.out 2).trans rfl
     have hcz38_3 : w10.cell? ⟨gb371, 3, none⟩ = some (.int .i64 0) := (blk_cell BK371.out 3).trans rfl
     have hcz38_4 : w10.cell? ⟨gb371, 4, none⟩ = some (.string (⟨#[]⟩ : ByteArray)) := (blk_cell BK371.out 4).trans rfl
     have hcz38_5 : w10.cell? ⟨gb371, 5, none⟩ = some (.int .i64 0) := (blk_cell BK371.out 5).trans rfl
     have hcz38_6 : w10.cell? ⟨gb371, 6, none⟩ = some (.int .i64 0) := (blk_cell BK371.out 6).trans rfl
     have hcz38_7 : w10.cell? ⟨gb371, 7, none⟩ = some (.string (⟨#[]⟩ : ByteArray)) := (blk_cell BK371.out 7).trans rfl
     have hcz38_8 : w10.cell? ⟨gb371, 8, none⟩ = some (.int .i64 0) := (blk_cell BK371.out 8).trans rfl
     have hcz38_9 : w10.cell? ⟨gb371, 9, none⟩ = some (.int .i64 0) := (blk_cell BK371.out 9).trans rfl
     have hcz38_10 : w10.cell? ⟨gb371, 10, none⟩ = some (.int .i64 0) := (blk_cell BK371.out 10).trans rfl
     have hcz38_11 : w10.cell? ⟨gb371, 11, none⟩ = some (.int .i64 0) := (blk_cell BK371.out 11).trans rfl
     have hcz38_12 : w10.cell? ⟨gb371, 12, none⟩ = some (.slice none 0 0) := (blk_cell BK371.out 12).trans rfl
     have hcz38_13 : w10.cell? ⟨gb371, 13, none⟩ = some (.slice none 0 0) := (blk_cell BK371.out 13).trans rfl
     have hfz38_0 := blk_frozen BK371.out 0
     have hfz38_1 := blk_frozen BK371.out 1
     have hfz38_2 := blk_frozen BK371.out 2
     have hfz38_3 := blk_frozen BK371.out 3
     have hfz38_4 := blk_frozen BK371.out 4
     have hfz38_5 := blk_frozen BK371.out 5
     have hfz38_6 := blk_frozen BK371.out 6
     have hfz38_7 := blk_frozen BK371.out 7
     have hfz38_8 := blk_frozen BK371.out 8
     have hfz38_9 := blk_frozen BK371.out 9
     have hfz38_10 := blk_frozen BK371.out 10
     have hfz38_11 := blk_frozen BK371.out 11
     have hfz38_12 := blk_frozen BK371.out 12
     have hfz38_13 := blk_frozen BK371.out 13
     obtain ⟨hcz39_0, hcz39_1⟩ := cz2_ BK368.out
     obtain ⟨hfz39_0, hfz39_1⟩ := fz2_ BK368.out
     go_wp2_with (first | (go_at_call 30; (with_reducible refine (computusref26_In.calls ((rd_T40 l0_1 x3_1).f0.f1) true _ A14.out).mono ?_); rintro e w' ⟨rfl, ⟨nd, rfl⟩⟩) | (go_at_call 30; (with_reducible refine (computusref26_In.calls ((rd_T40 l0_1 x3_1).f0.f2) true _ A16.out).mono ?_); rintro e w' ⟨rfl, ⟨nd, rfl⟩⟩) | (go_at_call 30; (with_reducible refine (computusref26_In.calls ((rd_T40 l0_1 x3_1).f3) true _ A18.out).mono ?_); rintro e w' ⟨rfl, ⟨nd, rfl⟩⟩) | (go_at_call 30; (with_reducible refine (computusref26_In.calls ((rd_T40 l0_1 x3_1).f6) false _ A20.out).mono ?_); rintro e w' ⟨rfl, ⟨nd, rfl⟩⟩))
     go_meet
     case rel => exact ⟨_, (true), rs_, H', ⟨by have := HK1.out; first | omega | exact Nat.le_refl _⟩, ⟨bf1_ NB368_371 BK368⟩, ⟨by refine bp_ ?_; refine blk_put (cs := #[.int .i64 ((rd_T40 l0_1 x3_1).f0.f0), .int .i64 ((rd_T40 l0_1 x3_1).f0.f1), .int .i64 ((rd_T40 l0_1 x3_1).f0.f2), .int .i64 ((rd_T40 l0_1 x3_1).f1), .string ((rd_T40 l0_1 x3_1).f2), .int .i64 ((rd_T40 l0_1 x3_1).f3), .int .i64 ((rd_T40 l0_1 x3_1).f4), .string ((rd_T40 l0_1 x3_1).f5), .int .i64 ((rd_T40 l0_1 x3_1).f6), .int .i64 ((rd_T40 l0_1 x3_1).f7.f0), .int .i64 ((rd_T40 l0_1 x3_1).f7.f1), .int .i64 ((rd_T40 l0_1 x3_1).f7.f2), .slice A370_12 ((rd_T40 l0_1 x3_1).f8).length c370_12, .slice none 0 0]) ?_ 13 _ rfl; refine bp_ ?_; refine blk_put (cs := #[.int .i64 ((rd_T40 l0_1 x3_1).f0.f0), .int .i64 ((rd_T40 l0_1 x3_1).f0.f1), .int .i64 ((rd_T40 l0_1 x3_1).f0.f2), .int .i64 ((rd_T40 l0_1 x3_1).f1), .string ((rd_T40 l0_1 x3_1).f2), .int .i64 ((rd_T40 l0_1 x3_1).f3), .int .i64 ((rd_T40 l0_1 x3_1).f4), .string ((rd_T40 l0_1 x3_1).f5), .int .i64 ((rd_T40 l0_1 x3_1).f6), .int .i64 ((rd_T40 l0_1 x3_1).f7.f0), .int .i64 ((rd_T40 l0_1 x3_1).f7.f1), .int .i64 ((rd_T40 l0_1 x3_1).f7.f2), .slice none 0 0, .slice none 0 0]) ?_ 12 _ rfl; refine bp_ ?_; refine blk_put (cs := #[.int .i64 ((rd_T40 l0_1 x3_1).f0.f0), .int .i64 ((rd_T40 l0_1 x3_1).f0.f1), .int .i64 ((rd_T40 l0_1 x3_1).f0.f2), .int .i64 ((rd_T40 l0_1 x3_1).f1), .string ((rd_T40 l0_1 x3_1).f2), .int .i64 ((rd_T40 l0_1 x3_1).f3), .int .i64 ((rd_T40 l0_1 x3_1).f4), .string ((rd_T40 l0_1 x3_1).f5), .int .i64 ((rd_T40 l0_1 x3_1).f6), .int .i64 ((rd_T40 l0_1 x3_1).f7.f0), .int .i64 ((rd_T40 l0_1 x3_1).f7.f1), .int .i64 0, .slice none 0 0, .slice none 0 0]) ?_ 11 _ rfl; refine bp_ ?_; refine blk_put (cs := #[.int .i64 ((rd_T40 l0_1 x3_1).f0.f0), .int .i64 ((rd_T40 l0_1 x3_1).f0.f1), .int .i64 ((rd_T40 l0_1 x3_1).f0.f2), .int .i64 ((rd_T40 l0_1 x3_1).f1), .string ((rd_T40 l0_1 x3_1).f2), .int .i64 ((rd_T40 l0_1 x3_1).f3), .int .i64 ((rd_T40 l0_1 x3_1).f4), .string ((rd_T40 l0_1 x3_1).f5), .int .i64 ((rd_T40 l0_1 x3_1).f6), .int .i64 ((rd_T40 l0_1 x3_1).f7.f0), .int .i64 0, .int .i64 0, .slice none 0 0, .slice none 0 0]) ?_ 10 _ rfl; refine bp_ ?_; refine blk_put (cs := #[.int .i64 ((rd_T40 l0_1 x3_1).f0.f0), .int .i64 ((rd_T40 l0_1 x3_1).f0.f1), .int .i64 ((rd_T40 l0_1 x3_1).f0.f2), .int .i64 ((rd_T40 l0_1 x3_1).f1), .string ((rd_T40 l0_1 x3_1).f2), .int .i64 ((rd_T40 l0_1 x3_1).f3), .int .i64 ((rd_T40 l0_1 x3_1).f4), .string ((rd_T40 l0_1 x3_1).f5), .int .i64 ((rd_T40 l0_1 x3_1).f6), .int .i64 0, .int .i64 0, .int .i64 0, .slice none 0 0, .slice none 0 0]) ?_ 9 _ rfl; refine bp_ ?_; refine blk_put (cs := #[.int .i64 ((rd_T40 l0_1 x3_1).f0.f0), .int .i64 ((rd_T40 l0_1 x3_1).f0.f1), .int .i64 ((rd_T40 l0_1 x3_1).f0.f2), .int .i64 ((rd_T40 l0_1 x3_1).f1), .string ((rd_T40 l0_1 x3_1).f2), .int .i64 ((rd_T40 l0_1 x3_1).f3), .int .i64 ((rd_T40 l0_1 x3_1).f4), .string ((rd_T40 l0_1 x3_1).f5), .int .i64 0, .int .i64 0, .int .i64 0, .int .i64 0, .slice none 0 0, .slice none 0 0]) ?_ 8 _ rfl; refine bp_ ?_; refine blk_put (cs := #[.int .i64 ((rd_T40 l0_1 x3_1).f0.f0), .int .i64 ((rd_T40 l0_1 x3_1).f0.f1), .int .i64 ((rd_T40 l0_1 x3_1).f0.f2), .int .i64 ((rd_T40 l0_1 x3_1).f1), .string ((rd_T40 l0_1 x3_1).f2), .int .i64 ((rd_T40 l0_1 x3_1).f3), .int .i64 ((rd_T40 l0_1 x3_1).f4), .string (⟨#[]⟩ : ByteArray), .int .i64 0, .int .i64 0, .int .i64 0, .int .i64 0, .slice none 0 0, .slice none 0 0]) ?_ 7 _ rfl; refine bp_ ?_; refine blk_put (cs := #[.int .i64 ((rd_T40 l0_1 x3_1).f0.f0), .int .i64 ((rd_T40 l0_1 x3_1).f0.f1), .int .i64 ((rd_T40 l0_1 x3_1).f0.f2), .int .i64 ((rd_T40 l0_1 x3_1).f1), .string ((rd_T40 l0_1 x3_1).f2), .int .i64 ((rd_T40 l0_1 x3_1).f3), .int .i64 0, .string (⟨#[]⟩ : ByteArray), .int .i64 0, .int .i64 0, .int .i64 0, .int .i64 0, .slice none 0 0, .slice none 0 0]) ?_ 6 _ rfl; refine bp_ ?_; refine blk_put (cs := #[.int .i64 ((rd_T40 l0_1 x3_1).f0.f0), .int .i64 ((rd_T40 l0_1 x3_1).f0.f1), .int .i64 ((rd_T40 l0_1 x3_1).f0.f2), .int .i64 ((rd_T40 l0_1 x3_1).f1), .string ((rd_T40 l0_1 x3_1).f2), .int .i64 0, .int .i64 0, .string (⟨#[]⟩ : ByteArray), .int .i64 0, .int .i64 0, .int .i64 0, .int .i64 0, .slice none 0 0, .slice none 0 0]) ?_ 5 _ rfl; refine bp_ ?_; refine blk_put (cs := #[.int .i64 ((rd_T40 l0_1 x3_1).f0.f0), .int .i64 ((rd_T40 l0_1 x3_1).f0.f1), .int .i64 ((rd_T40 l0_1 x3_1).f0.f2), .int .i64 ((rd_T40 l0_1 x3_1).f1), .string (⟨#[]⟩ : ByteArray), .int .i64 0, .int .i64 0, .string (⟨#[]⟩ : ByteArray), .int .i64 0, .int .i64 0, .int .i64 0, .int .i64 0, .slice none 0 0, .slice none 0 0]) ?_ 4 _ rfl; refine bp_ ?_; refine blk_put (cs := #[.int .i64 ((rd_T40 l0_1 x3_1).f0.f0), .int .i64 ((rd_T40 l0_1 x3_1).f0.f1), .int .i64 ((rd_T40 l0_1 x3_1).f0.f2), .int .i64 0, .string (⟨#[]⟩ : ByteArray), .int .i64 0, .int .i64 0, .string (⟨#[]⟩ : ByteArray), .int .i64 0, .int .i64 0, .int .i64 0, .int .i64 0, .slice none 0 0, .slice none 0 0]) ?_ 3 _ rfl; refine bp_ ?_; refine blk_put (cs := #[.int .i64 ((rd_T40 l0_1 x3_1).f0.f0), .int .i64 ((rd_T40 l0_1 x3_1).f0.f1), .int .i64 0, .int .i64 0, .string (⟨#[]⟩ : ByteArray), .int .i64 0, .int .i64 0, .string (⟨#[]⟩ : ByteArray), .int .i64 0, .int .i64 0, .int .i64 0, .int .i64 0, .slice none 0 0, .slice none 0 0]) ?_ 2 _ rfl; refine bp_ ?_; refine blk_put (cs := #[.int .i64 ((rd_T40 l0_1 x3_1).f0.f0), .int .i64 0, .int .i64 0, .int .i64 0, .string (⟨#[]⟩ : ByteArray), .int .i64 0, .int .i64 0, .string (⟨#[]⟩ : ByteArray), .int .i64 0, .int .i64 0, .int .i64 0, .int .i64 0, .slice none 0 0, .slice none 0 0]) ?_ 1 _ rfl; refine bp_ ?_; refine blk_put (cs := #[.int .i64 0, .int .i64 0, .int .i64 0, .int .i64 0, .string (⟨#[]⟩ : ByteArray), .int .i64 0, .int .i64 0, .string (⟨#[]⟩ : ByteArray), .int .i64 0, .int .i64 0, .int .i64 0, .int .i64 0, .slice none 0 0, .slice none 0 0]) ?_ 0 _ rfl; exact bk_ BK371.out⟩, ⟨bh_⟩⟩
    subst c21
    replace H := it_ H
    by_cases c22 : ((rd_T40 l0_1 x3_1).f1) < 0
    ·rw [if_pos c22] at H
     have c22b0 : decide (((rd_T40 l0_1 x3_1).f1) < 0) = true := decide_eq_true c22
     clear c22
     have H' := am_ H
     clear H
     have hnb23 := NB371_368.out
     have hnc23 := NB368_371.out
     have hcz24_0 : w10.cell? ⟨gb371, 0, none⟩ = some (.int .i64 0) := (blk_cell BK371.out 0).trans rfl
     have hcz24_1 : w10.cell? ⟨gb371, 1, none⟩ = some (.int .i64 0) := (blk_cell BK371.out 1).trans rfl
     have hcz24_2 : w10.cell? ⟨gb371, 2, none⟩ = some (.int .i64 0) := (blk_cell BK371.out 2).trans rfl
     have hcz24_3 : w10.cell? ⟨gb371, 3, none⟩ = some (.int .i64 0) := (blk_cell BK371.out 3).trans rfl
     have hcz24_4 : w10.cell? ⟨gb371, 4, none⟩ = some (.string (⟨#[]⟩ : ByteArray)) := (blk_cell BK371.out 4).trans rfl
     have hcz24_5 : w10.cell? ⟨gb371, 5, none⟩ = some (.int .i64 0) := (blk_cell BK371.out 5).trans rfl
     have hcz24_6 : w10.cell? ⟨gb371, 6, none⟩ = some (.int .i64 0) := (blk_cell BK371.out 6).trans rfl
     have hcz24_7 : w10.cell? ⟨gb371, 7, none⟩ = some (.string (⟨#[]⟩ : ByteArray)) := (blk_cell BK371.out 7).trans rfl
     have hcz24_8 : w10.cell? ⟨gb371, 8, none⟩ = some (.int .i64 0) := (blk_cell BK371.out 8).trans rfl
     have hcz24_9 : w10.cell? ⟨gb371, 9, none⟩ = some (.int .i64 0) := (blk_cell BK371.out 9).trans rfl
     have hcz24_10 : w10.cell? ⟨gb371, 10, none⟩ = some (.int .i64 0) := (blk_cell BK371.out 10).trans rfl
     have hcz24_11 : w10.cell? ⟨gb371, 11, none⟩ = some (.int .i64 0) := (blk_cell BK371.out 11).trans rfl
     have hcz24_12 : w10.cell? ⟨gb371, 12, none⟩ = some (.slice none 0 0) := (blk_cell BK371.out 12).trans rfl
     have hcz24_13 : w10.cell? ⟨gb371, 13, none⟩ = some (.slice none 0 0) := (blk_cell BK371.out 13).trans rfl
     have hfz24_0 := blk_frozen BK371.out 0
     have hfz24_1 := blk_frozen BK371.out 1
     have hfz24_2 := blk_frozen BK371.out 2
     have hfz24_3 := blk_frozen BK371.out 3
     have hfz24_4 := blk_frozen BK371.out 4
     have hfz24_5 := blk_frozen BK371.out 5
     have hfz24_6 := blk_frozen BK371.out 6
     have hfz24_7 := blk_frozen BK371.out 7
     have hfz24_8 := blk_frozen BK371.out 8
     have hfz24_9 := blk_frozen BK371.out 9
     have hfz24_10 := blk_frozen BK371.out 10
     have hfz24_11 := blk_frozen BK371.out 11
     have hfz24_12 := blk_frozen BK371.out 12
     have hfz24_13 := blk_frozen BK371.out 13
     obtain ⟨hcz25_0, hcz25_1⟩ := cz2_ BK368.out
     obtain ⟨hfz25_0, hfz25_1⟩ := fz2_ BK368.out
     go_wp2_with (first | (go_at_call 30; (with_reducible refine (computusref26_In.calls ((rd_T40 l0_1 x3_1).f0.f1) true _ A14.out).mono ?_); rintro e w' ⟨rfl, ⟨nd, rfl⟩⟩) | (go_at_call 30; (with_reducible refine (computusref26_In.calls ((rd_T40 l0_1 x3_1).f0.f2) true _ A16.out).mono ?_); rintro e w' ⟨rfl, ⟨nd, rfl⟩⟩) | (go_at_call 30; (with_reducible refine (computusref26_In.calls ((rd_T40 l0_1 x3_1).f3) true _ A18.out).mono ?_); rintro e w' ⟨rfl, ⟨nd, rfl⟩⟩) | (go_at_call 30; (with_reducible refine (computusref26_In.calls ((rd_T40 l0_1 x3_1).f6) true _ A20.out).mono ?_); rintro e w' ⟨rfl, ⟨nd, rfl⟩⟩))
     go_meet
     case rel => exact ⟨_, (true), rs_, H', ⟨by have := HK1.out; first | omega | exact Nat.le_refl _⟩, ⟨bf1_ NB368_371 BK368⟩, ⟨by refine bp_ ?_; refine blk_put (cs := #[.int .i64 ((rd_T40 l0_1 x3_1).f0.f0), .int .i64 ((rd_T40 l0_1 x3_1).f0.f1), .int .i64 ((rd_T40 l0_1 x3_1).f0.f2), .int .i64 ((rd_T40 l0_1 x3_1).f1), .string ((rd_T40 l0_1 x3_1).f2), .int .i64 ((rd_T40 l0_1 x3_1).f3), .int .i64 ((rd_T40 l0_1 x3_1).f4), .string ((rd_T40 l0_1 x3_1).f5), .int .i64 ((rd_T40 l0_1 x3_1).f6), .int .i64 ((rd_T40 l0_1 x3_1).f7.f0), .int .i64 ((rd_T40 l0_1 x3_1).f7.f1), .int .i64 ((rd_T40 l0_1 x3_1).f7.f2), .slice A370_12 ((rd_T40 l0_1 x3_1).f8).length c370_12, .slice none 0 0]) ?_ 13 _ rfl; refine bp_ ?_; refine blk_put (cs := #[.int .i64 ((rd_T40 l0_1 x3_1).f0.f0), .int .i64 ((rd_T40 l0_1 x3_1).f0.f1), .int .i64 ((rd_T40 l0_1 x3_1).f0.f2), .int .i64 ((rd_T40 l0_1 x3_1).f1), .string ((rd_T40 l0_1 x3_1).f2), .int .i64 ((rd_T40 l0_1 x3_1).f3), .int .i64 ((rd_T40 l0_1 x3_1).f4), .string ((rd_T40 l0_1 x3_1).f5), .int .i64 ((rd_T40 l0_1 x3_1).f6), .int .i64 ((rd_T40 l0_1 x3_1).f7.f0), .int .i64 ((rd_T40 l0_1 x3_1).f7.f1), .int .i64 ((rd_T40 l0_1 x3_1).f7.f2), .slice none 0 0, .slice none 0 0]) ?_ 12 _ rfl; refine bp_ ?_; refine blk_put (cs := #[.int .i64 ((rd_T40 l0_1 x3_1).f0.f0), .int .i64 ((rd_T40 l0_1 x3_1).f0.f1), .int .i64 ((rd_T40 l0_1 x3_1).f0.f2), .int .i64 ((rd_T40 l0_1 x3_1).f1), .string ((rd_T40 l0_1 x3_1).f2), .int .i64 ((rd_T40 l0_1 x3_1).f3), .int .i64 ((rd_T40 l0_1 x3_1).f4), .string ((rd_T40 l0_1 x3_1).f5), .int .i64 ((rd_T40 l0_1 x3_1).f6), .int .i64 ((rd_T40 l0_1 x3_1).f7.f0), .int .i64 ((rd_T40 l0_1 x3_1).f7.f1), .int .i64 0, .slice none 0 0, .slice none 0 0]) ?_ 11 _ rfl; refine bp_ ?_; refine blk_put (cs := #[.int .i64 ((rd_T40 l0_1 x3_1).f0.f0), .int .i64 ((rd_T40 l0_1 x3_1).f0.f1), .int .i64 ((rd_T40 l0_1 x3_1).f0.f2), .int .i64 ((rd_T40 l0_1 x3_1).f1), .string ((rd_T40 l0_1 x3_1).f2), .int .i64 ((rd_T40 l0_1 x3_1).f3), .int .i64 ((rd_T40 l0_1 x3_1).f4), .string ((rd_T40 l0_1 x3_1).f5), .int .i64 ((rd_T40 l0_1 x3_1).f6), .int .i64 ((rd_T40 l0_1 x3_1).f7.f0), .int .i64 0, .int .i64 0, .slice none 0 0, .slice none 0 0]) ?_ 10 _ rfl; refine bp_ ?_; refine blk_put (cs := #[.int .i64 ((rd_T40 l0_1 x3_1).f0.f0), .int .i64 ((rd_T40 l0_1 x3_1).f0.f1), .int .i64 ((rd_T40 l0_1 x3_1).f0.f2), .int .i64 ((rd_T40 l0_1 x3_1).f1), .string ((rd_T40 l0_1 x3_1).f2), .int .i64 ((rd_T40 l0_1 x3_1).f3), .int .i64 ((rd_T40 l0_1 x3_1).f4), .string ((rd_T40 l0_1 x3_1).f5), .int .i64 ((rd_T40 l0_1 x3_1).f6), .int .i64 0, .int .i64 0, .int .i64 0, .slice none 0 0, .slice none 0 0]) ?_ 9 _ rfl; refine bp_ ?_; refine blk_put (cs := #[.int .i64 ((rd_T40 l0_1 x3_1).f0.f0), .int .i64 ((rd_T40 l0_1 x3_1).f0.f1), .int .i64 ((rd_T40 l0_1 x3_1).f0.f2), .int .i64 ((rd_T40 l0_1 x3_1).f1), .string ((rd_T40 l0_1 x3_1).f2), .int .i64 ((rd_T40 l0_1 x3_1).f3), .int .i64 ((rd_T40 l0_1 x3_1).f4), .string ((rd_T40 l0_1 x3_1).f5), .int .i64 0, .int .i64 0, .int .i64 0, .int .i64 0, .slice none 0 0, .slice none 0 0]) ?_ 8 _ rfl; refine bp_ ?_; refine blk_put (cs := #[.int .i64 ((rd_T40 l0_1 x3_1).f0.f0), .int .i64 ((rd_T40 l0_1 x3_1).f0.f1), .int .i64 ((rd_T40 l0_1 x3_1).f0.f2), .int .i64 ((rd_T40 l0_1 x3_1).f1), .string ((rd_T40 l0_1 x3_1).f2), .int .i64 ((rd_T40 l0_1 x3_1).f3), .int .i64 ((rd_T40 l0_1 x3_1).f4), .string (⟨#[]⟩ : ByteArray), .int .i64 0, .int .i64 0, .int .i64 0, .int .i64 0, .slice none 0 0, .slice none 0 0]) ?_ 7 _ rfl; refine bp_ ?_; refine blk_put (cs := #[.int .i64 ((rd_T40 l0_1 x3_1).f0.f0), .int .i64 ((rd_T40 l0_1 x3_1).f0.f1), .int .i64 ((rd_T40 l0_1 x3_1).f0.f2), .int .i64 ((rd_T40 l0_1 x3_1).f1), .string ((rd_T40 l0_1 x3_1).f2), .int .i64 ((rd_T40 l0_1 x3_1).f3), .int .i64 0, .string (⟨#[]⟩ : ByteArray), .int .i64 0, .int .i64 0, .int .i64 0, .int .i64 0, .slice none 0 0, .slice none 0 0]) ?_ 6 _ rfl; refine bp_ ?_; refine blk_put (cs := #[.int .i64 ((rd_T40 l0_1 x3_1).f0.f0), .int .i64 ((rd_T40 l0_1 x3_1).f0.f1), .int .i64 ((rd_T40 l0_1 x3_1).f0.f2), .int .i64 ((rd_T40 l0_1 x3_1).f1), .string ((rd_T40 l0_1 x3_1).f2), .int .i64 0, .int .i64 0, .string (⟨#[]⟩ : ByteArray), .int .i64 0, .int .i64 0, .int .i64 0, .int .i64 0, .slice none 0 0, .slice none 0 0]) ?_ 5 _ rfl; refine bp_ ?_; refine blk_put (cs := #[.int .i64 ((rd_T40 l0_1 x3_1).f0.f0), .int .i64 ((rd_T40 l0_1 x3_1).f0.f1), .int .i64 ((rd_T40 l0_1 x3_1).f0.f2), .int .i64 ((rd_T40 l0_1 x3_1).f1), .string (⟨#[]⟩ : ByteArray), .int .i64 0, .int .i64 0, .string (⟨#[]⟩ : ByteArray), .int .i64 0, .int .i64 0, .int .i64 0, .int .i64 0, .slice none 0 0, .slice none 0 0]) ?_ 4 _ rfl; refine bp_ ?_; refine blk_put (cs := #[.int .i64 ((rd_T40 l0_1 x3_1).f0.f0), .int .i64 ((rd_T40 l0_1 x3_1).f0.f1), .int .i64 ((rd_T40 l0_1 x3_1).f0.f2), .int .i64 0, .string (⟨#[]⟩ : ByteArray), .int .i64 0, .int .i64 0, .string (⟨#[]⟩ : ByteArray), .int .i64 0, .int .i64 0, .int .i64 0, .int .i64 0, .slice none 0 0, .slice none 0 0]) ?_ 3 _ rfl; refine bp_ ?_; refine blk_put (cs := #[.int .i64 ((rd_T40 l0_1 x3_1).f0.f0), .int .i64 ((rd_T40 l0_1 x3_1).f0.f1), .int .i64 0, .int .i64 0, .string (⟨#[]⟩ : ByteArray), .int .i64 0, .int .i64 0, .string (⟨#[]⟩ : ByteArray), .int .i64 0, .int .i64 0, .int .i64 0, .int .i64 0, .slice none 0 0, .slice none 0 0]) ?_ 2 _ rfl; refine bp_ ?_; refine blk_put (cs := #[.int .i64 ((rd_T40 l0_1 x3_1).f0.f0), .int .i64 0, .int .i64 0, .int .i64 0, .string (⟨#[]⟩ : ByteArray), .int .i64 0, .int .i64 0, .string (⟨#[]⟩ : ByteArray), .int .i64 0, .int .i64 0, .int .i64 0, .int .i64 0, .slice none 0 0, .slice none 0 0]) ?_ 1 _ rfl; refine bp_ ?_; refine blk_put (cs := #[.int .i64 0, .int .i64 0, .int .i64 0, .int .i64 0, .string (⟨#[]⟩ : ByteArray), .int .i64 0, .int .i64 0, .string (⟨#[]⟩ : ByteArray), .int .i64 0, .int .i64 0, .int .i64 0, .int .i64 0, .slice none 0 0, .slice none 0 0]) ?_ 0 _ rfl; exact bk_ BK371.out⟩, ⟨bh_⟩⟩
    rw [if_neg c22] at H
    have c22b0 : decide (((rd_T40 l0_1 x3_1).f1) < 0) = false := decide_eq_false c22
    clear c22
    by_cases c26 : ((rd_T40 l0_1 x3_1).f1) > 6
    ·rw [if_pos c26] at H
     have c26b0 : decide (6 < ((rd_T40 l0_1 x3_1).f1)) = true := decide_eq_true c26
     clear c26
     have H' := am_ H
     clear H
     have hnb27 := NB371_368.out
     have hnc27 := NB368_371.out
     have hcz28_0 : w10.cell? ⟨gb371, 0, none⟩ = some (.int .i64 0) := (blk_cell BK371.out 0).trans rfl
     have hcz28_1 : w10.cell? ⟨gb371, 1, none⟩ = some (.int .i64 0) := (blk_cell BK371.out 1).trans rfl
     have hcz28_2 : w10.cell? ⟨gb371, 2, none⟩ = some (.int .i64 0) := (blk_cell BK371.out 2).trans rfl
     have hcz28_3 : w10.cell? ⟨gb371, 3, none⟩ = some (.int .i64 0) := (blk_cell BK371.out 3).trans rfl
     have hcz28_4 : w10.cell? ⟨gb371, 4, none⟩ = some (.string (⟨#[]⟩ : ByteArray)) := (blk_cell BK371.out 4).trans rfl
     have hcz28_5 : w10.cell? ⟨gb371, 5, none⟩ = some (.int .i64 0) := (blk_cell BK371.out 5).trans rfl
     have hcz28_6 : w10.cell? ⟨gb371, 6, none⟩ = some (.int .i64 0) := (blk_cell BK371.out 6).trans rfl
     have hcz28_7 : w10.cell? ⟨gb371, 7, none⟩ = some (.string (⟨#[]⟩ : ByteArray)) := (blk_cell BK371.out 7).trans rfl
     have hcz28_8 : w10.cell? ⟨gb371, 8, none⟩ = some (.int .i64 0) := (blk_cell BK371.out 8).trans rfl
     have hcz28_9 : w10.cell? ⟨gb371, 9, none⟩ = some (.int .i64 0) := (blk_cell BK371.out 9).trans rfl
     have hcz28_10 : w10.cell? ⟨gb371, 10, none⟩ = some (.int .i64 0) := (blk_cell BK371.out 10).trans rfl
     have hcz28_11 : w10.cell? ⟨gb371, 11, none⟩ = some (.int .i64 0) := (blk_cell BK371.out 11).trans rfl
     have hcz28_12 : w10.cell? ⟨gb371, 12, none⟩ = some (.slice none 0 0) := (blk_cell BK371.out 12).trans rfl
     have hcz28_13 : w10.cell? ⟨gb371, 13, none⟩ = some (.slice none 0 0) := (blk_cell BK371.out 13).trans rfl
     have hfz28_0 := blk_frozen BK371.out 0
     have hfz28_1 := blk_frozen BK371.out 1
     have hfz28_2 := blk_frozen BK371.out 2
     have hfz28_3 := blk_frozen BK371.out 3
     have hfz28_4 := blk_frozen BK371.out 4
     have hfz28_5 := blk_frozen BK371.out 5
     have hfz28_6 := blk_frozen BK371.out 6
     have hfz28_7 := blk_frozen BK371.out 7
     have hfz28_8 := blk_frozen BK371.out 8
     have hfz28_9 := blk_frozen BK371.out 9
     have hfz28_10 := blk_frozen BK371.out 10
     have hfz28_11 := blk_frozen BK371.out 11
     have hfz28_12 := blk_frozen BK371.out 12
     have hfz28_13 := blk_frozen BK371.out 13
     obtain ⟨hcz29_0, hcz29_1⟩ := cz2_ BK368.out
     obtain ⟨hfz29_0, hfz29_1⟩ := fz2_ BK368.out
     go_wp2_with (first | (go_at_call 30; (with_reducible refine (computusref26_In.calls ((rd_T40 l0_1 x3_1).f0.f1) true _ A14.out).mono ?_); rintro e w' ⟨rfl, ⟨nd, rfl⟩⟩) | (go_at_call 30; (with_reducible refine (computusref26_In.calls ((rd_T40 l0_1 x3_1).f0.f2) true _ A16.out).mono ?_); rintro e w' ⟨rfl, ⟨nd, rfl⟩⟩) | (go_at_call 30; (with_reducible refine (computusref26_In.calls ((rd_T40 l0_1 x3_1).f3) true _ A18.out).mono ?_); rintro e w' ⟨rfl, ⟨nd, rfl⟩⟩) | (go_at_call 30; (with_reducible refine (computusref26_In.calls ((rd_T40 l0_1 x3_1).f6) true _ A20.out).mono ?_); rintro e w' ⟨rfl, ⟨nd, rfl⟩⟩))
     go_meet
     case rel => exact ⟨_, (true), rs_, H', ⟨by have := HK1.out; first | omega | exact Nat.le_refl _⟩, ⟨bf1_ NB368_371 BK368⟩, ⟨by refine bp_ ?_; refine blk_put (cs := #[.int .i64 ((rd_T40 l0_1 x3_1).f0.f0), .int .i64 ((rd_T40 l0_1 x3_1).f0.f1), .int .i64 ((rd_T40 l0_1 x3_1).f0.f2), .int .i64 ((rd_T40 l0_1 x3_1).f1), .string ((rd_T40 l0_1 x3_1).f2), .int .i64 ((rd_T40 l0_1 x3_1).f3), .int .i64 ((rd_T40 l0_1 x3_1).f4), .string ((rd_T40 l0_1 x3_1).f5), .int .i64 ((rd_T40 l0_1 x3_1).f6), .int .i64 ((rd_T40 l0_1 x3_1).f7.f0), .int .i64 ((rd_T40 l0_1 x3_1).f7.f1), .int .i64 ((rd_T40 l0_1 x3_1).f7.f2), .slice A370_12 ((rd_T40 l0_1 x3_1).f8).length c370_12, .slice none 0 0]) ?_ 13 _ rfl; refine bp_ ?_; refine blk_put (cs := #[.int .i64 ((rd_T40 l0_1 x3_1).f0.f0), .int .i64 ((rd_T40 l0_1 x3_1).f0.f1), .int .i64 ((rd_T40 l0_1 x3_1).f0.f2), .int .i64 ((rd_T40 l0_1 x3_1).f1), .string ((rd_T40 l0_1 x3_1).f2), .int .i64 ((rd_T40 l0_1 x3_1).f3), .int .i64 ((rd_T40 l0_1 x3_1).f4), .string ((rd_T40 l0_1 x3_1).f5), .int .i64 ((rd_T40 l0_1 x3_1).f6), .int .i64 ((rd_T40 l0_1 x3_1).f7.f0), .int .i64 ((rd_T40 l0_1 x3_1).f7.f1), .int .i64 ((rd_T40 l0_1 x3_1).f7.f2), .slice none 0 0, .slice none 0 0]) ?_ 12 _ rfl; refine bp_ ?_; refine blk_put (cs := #[.int .i64 ((rd_T40 l0_1 x3_1).f0.f0), .int .i64 ((rd_T40 l0_1 x3_1).f0.f1), .int .i64 ((rd_T40 l0_1 x3_1).f0.f2), .int .i64 ((rd_T40 l0_1 x3_1).f1), .string ((rd_T40 l0_1 x3_1).f2), .int .i64 ((rd_T40 l0_1 x3_1).f3), .int .i64 ((rd_T40 l0_1 x3_1).f4), .string ((rd_T40 l0_1 x3_1).f5), .int .i64 ((rd_T40 l0_1 x3_1).f6), .int .i64 ((rd_T40 l0_1 x3_1).f7.f0), .int .i64 ((rd_T40 l0_1 x3_1).f7.f1), .int .i64 0, .slice none 0 0, .slice none 0 0]) ?_ 11 _ rfl; refine bp_ ?_; refine blk_put (cs := #[.int .i64 ((rd_T40 l0_1 x3_1).f0.f0), .int .i64 ((rd_T40 l0_1 x3_1).f0.f1), .int .i64 ((rd_T40 l0_1 x3_1).f0.f2), .int .i64 ((rd_T40 l0_1 x3_1).f1), .string ((rd_T40 l0_1 x3_1).f2), .int .i64 ((rd_T40 l0_1 x3_1).f3), .int .i64 ((rd_T40 l0_1 x3_1).f4), .string ((rd_T40 l0_1 x3_1).f5), .int .i64 ((rd_T40 l0_1 x3_1).f6), .int .i64 ((rd_T40 l0_1 x3_1).f7.f0), .int .i64 0, .int .i64 0, .slice none 0 0, .slice none 0 0]) ?_ 10 _ rfl; refine bp_ ?_; refine blk_put (cs := #[.int .i64 ((rd_T40 l0_1 x3_1).f0.f0), .int .i64 ((rd_T40 l0_1 x3_1).f0.f1), .int .i64 ((rd_T40 l0_1 x3_1).f0.f2), .int .i64 ((rd_T40 l0_1 x3_1).f1), .string ((rd_T40 l0_1 x3_1).f2), .int .i64 ((rd_T40 l0_1 x3_1).f3), .int .i64 ((rd_T40 l0_1 x3_1).f4), .string ((rd_T40 l0_1 x3_1).f5), .int .i64 ((rd_T40 l0_1 x3_1).f6), .int .i64 0, .int .i64 0, .int .i64 0, .slice none 0 0, .slice none 0 0]) ?_ 9 _ rfl; refine bp_ ?_; refine blk_put (cs := #[.int .i64 ((rd_T40 l0_1 x3_1).f0.f0), .int .i64 ((rd_T40 l0_1 x3_1).f0.f1), .int .i64 ((rd_T40 l0_1 x3_1).f0.f2), .int .i64 ((rd_T40 l0_1 x3_1).f1), .string ((rd_T40 l0_1 x3_1).f2), .int .i64 ((rd_T40 l0_1 x3_1).f3), .int .i64 ((rd_T40 l0_1 x3_1).f4), .string ((rd_T40 l0_1 x3_1).f5), .int .i64 0, .int .i64 0, .int .i64 0, .int .i64 0, .slice none 0 0, .slice none 0 0]) ?_ 8 _ rfl; refine bp_ ?_; refine blk_put (cs := #[.int .i64 ((rd_T40 l0_1 x3_1).f0.f0), .int .i64 ((rd_T40 l0_1 x3_1).f0.f1), .int .i64 ((rd_T40 l0_1 x3_1).f0.f2), .int .i64 ((rd_T40 l0_1 x3_1).f1), .string ((rd_T40 l0_1 x3_1).f2), .int .i64 ((rd_T40 l0_1 x3_1).f3), .int .i64 ((rd_T40 l0_1 x3_1).f4), .string (⟨#[]⟩ : ByteArray), .int .i64 0, .int .i64 0, .int .i64 0, .int .i64 0, .slice none 0 0, .slice none 0 0]) ?_ 7 _ rfl; refine bp_ ?_; refine blk_put (cs := #[.int .i64 ((rd_T40 l0_1 x3_1).f0.f0), .int .i64 ((rd_T40 l0_1 x3_1).f0.f1), .int .i64 ((rd_T40 l0_1 x3_1).f0.f2), .int .i64 ((rd_T40 l0_1 x3_1).f1), .string ((rd_T40 l0_1 x3_1).f2), .int .i64 ((rd_T40 l0_1 x3_1).f3), .int .i64 0, .string (⟨#[]⟩ : ByteArray), .int .i64 0, .int .i64 0, .int .i64 0, .int .i64 0, .slice none 0 0, .slice none 0 0]) ?_ 6 _ rfl; refine bp_ ?_; refine blk_put (cs := #[.int .i64 ((rd_T40 l0_1 x3_1).f0.f0), .int .i64 ((rd_T40 l0_1 x3_1).f0.f1), .int .i64 ((rd_T40 l0_1 x3_1).f0.f2), .int .i64 ((rd_T40 l0_1 x3_1).f1), .string ((rd_T40 l0_1 x3_1).f2), .int .i64 0, .int .i64 0, .string (⟨#[]⟩ : ByteArray), .int .i64 0, .int .i64 0, .int .i64 0, .int .i64 0, .slice none 0 0, .slice none 0 0]) ?_ 5 _ rfl; refine bp_ ?_; refine blk_put (cs := #[.int .i64 ((rd_T40 l0_1 x3_1).f0.f0), .int .i64 ((rd_T40 l0_1 x3_1).f0.f1), .int .i64 ((rd_T40 l0_1 x3_1).f0.f2), .int .i64 ((rd_T40 l0_1 x3_1).f1), .string (⟨#[]⟩ : ByteArray), .int .i64 0, .int .i64 0, .string (⟨#[]⟩ : ByteArray), .int .i64 0, .int .i64 0, .int .i64 0, .int .i64 0, .slice none 0 0, .slice none 0 0]) ?_ 4 _ rfl; refine bp_ ?_; refine blk_put (cs := #[.int .i64 ((rd_T40 l0_1 x3_1).f0.f0), .int .i64 ((rd_T40 l0_1 x3_1).f0.f1), .int .i64 ((rd_T40 l0_1 x3_1).f0.f2), .int .i64 0, .string (⟨#[]⟩ : ByteArray), .int .i64 0, .int .i64 0, .string (⟨#[]⟩ : ByteArray), .int .i64 0, .int .i64 0, .int .i64 0, .int .i64 0, .slice none 0 0, .slice none 0 0]) ?_ 3 _ rfl; refine bp_ ?_; refine blk_put (cs := #[.int .i64 ((rd_T40 l0_1 x3_1).f0.f0), .int .i64 ((rd_T40 l0_1 x3_1).f0.f1), .int .i64 0, .int .i64 0, .string (⟨#[]⟩ : ByteArray), .int .i64 0, .int .i64 0, .string (⟨#[]⟩ : ByteArray), .int .i64 0, .int .i64 0, .int .i64 0, .int .i64 0, .slice none 0 0, .slice none 0 0]) ?_ 2 _ rfl; refine bp_ ?_; refine blk_put (cs := #[.int .i64 ((rd_T40 l0_1 x3_1).f0.f0), .int .i64 0, .int .i64 0, .int .i64 0, .string (⟨#[]⟩ : ByteArray), .int .i64 0, .int .i64 0, .string (⟨#[]⟩ : ByteArray), .int .i64 0, .int .i64 0, .int .i64 0, .int .i64 0, .slice none 0 0, .slice none 0 0]) ?_ 1 _ rfl; refine bp_ ?_; refine blk_put (cs := #[.int .i64 0, .int .i64 0, .int .i64 0, .int .i64 0, .string (⟨#[]⟩ : ByteArray), .int .i64 0, .int .i64 0, .string (⟨#[]⟩ : ByteArray), .int .i64 0, .int .i64 0, .int .i64 0, .int .i64 0, .slice none 0 0, .slice none 0 0]) ?_ 0 _ rfl; exact bk_ BK371.out⟩, ⟨bh_⟩⟩
    rw [if_neg c26] at H
    have c26b0 : decide (6 < ((rd_T40 l0_1 x3_1).f1)) = false := decide_eq_false c26
    clear c26
    by_cases c30 : ((rd_T40 l0_1 x3_1).f4) < 1
    ·rw [if_pos c30] at H
     have c30b0 : decide (((rd_T40 l0_1 x3_1).f4) < 1) = true := decide_eq_true c30
     clear c30
     have H' := am_ H
     clear H
     have hnb31 := NB371_368.out
     have hnc31 := NB368_371.out
     have hcz32_0 : w10.cell? ⟨gb371, 0, none⟩ = some (.int .i64 0) := (blk_cell BK371.out 0).trans rfl
     have hcz32_1 : w10.cell? ⟨gb371, 1, none⟩ = some (.int .i64 0) := (blk_cell BK371.out 1).trans rfl
     have hcz32_2 : w10.cell? ⟨gb371, 2, none⟩ = some (.int .i64 0) := (blk_cell BK371.out 2).trans rfl
     have hcz32_3 : w10.cell? ⟨gb371, 3, none⟩ = some (.int .i64 0) := (blk_cell BK371.out 3).trans rfl
     have hcz32_4 : w10.cell? ⟨gb371, 4, none⟩ = some (.string (⟨#[]⟩ : ByteArray)) := (blk_cell BK371.out 4).trans rfl
     have hcz32_5 : w10.cell? ⟨gb371, 5, none⟩ = some (.int .i64 0) := (blk_cell BK371.out 5).trans rfl
     have hcz32_6 : w10.cell? ⟨gb371, 6, none⟩ = some (.int .i64 0) := (blk_cell BK371.out 6).trans rfl
     have hcz32_7 : w10.cell? ⟨gb371, 7, none⟩ = some (.string (⟨#[]⟩ : ByteArray)) := (blk_cell BK371.out 7).trans rfl
     have hcz32_8 : w10.cell? ⟨gb371, 8, none⟩ = some (.int .i64 0) := (blk_cell BK371.out 8).trans rfl
     have hcz32_9 : w10.cell? ⟨gb371, 9, none⟩ = some (.int .i64 0) := (blk_cell BK371.out 9).trans rfl
     have hcz32_10 : w10.cell? ⟨gb371, 10, none⟩ = some (.int .i64 0) := (blk_cell BK371.out 10).trans rfl
     have hcz32_11 : w10.cell? ⟨gb371, 11, none⟩ = some (.int .i64 0) := (blk_cell BK371.out 11).trans rfl
     have hcz32_12 : w10.cell? ⟨gb371, 12, none⟩ = some (.slice none 0 0) := (blk_cell BK371.out 12).trans rfl
     have hcz32_13 : w10.cell? ⟨gb371, 13, none⟩ = some (.slice none 0 0) := (blk_cell BK371.out 13).trans rfl
     have hfz32_0 := blk_frozen BK371.out 0
     have hfz32_1 := blk_frozen BK371.out 1
     have hfz32_2 := blk_frozen BK371.out 2
     have hfz32_3 := blk_frozen BK371.out 3
     have hfz32_4 := blk_frozen BK371.out 4
     have hfz32_5 := blk_frozen BK371.out 5
     have hfz32_6 := blk_frozen BK371.out 6
     have hfz32_7 := blk_frozen BK371.out 7
     have hfz32_8 := blk_frozen BK371.out 8
     have hfz32_9 := blk_frozen BK371.out 9
     have hfz32_10 := blk_frozen BK371.out 10
     have hfz32_11 := blk_frozen BK371.out 11
     have hfz32_12 := blk_frozen BK371.out 12
     have hfz32_13 := blk_frozen BK371.out 13
     obtain ⟨hcz33_0, hcz33_1⟩ := cz2_ BK368.out
     obtain ⟨hfz33_0, hfz33_1⟩ := fz2_ BK368.out
     go_wp2_with (first | (go_at_call 30; (with_reducible refine (computusref26_In.calls ((rd_T40 l0_1 x3_1).f0.f1) true _ A14.out).mono ?_); rintro e w' ⟨rfl, ⟨nd, rfl⟩⟩) | (go_at_call 30; (with_reducible refine (computusref26_In.calls ((rd_T40 l0_1 x3_1).f0.f2) true _ A16.out).mono ?_); rintro e w' ⟨rfl, ⟨nd, rfl⟩⟩) | (go_at_call 30; (with_reducible refine (computusref26_In.calls ((rd_T40 l0_1 x3_1).f3) true _ A18.out).mono ?_); rintro e w' ⟨rfl, ⟨nd, rfl⟩⟩) | (go_at_call 30; (with_reducible refine (computusref26_In.calls ((rd_T40 l0_1 x3_1).f6) true _ A20.out).mono ?_); rintro e w' ⟨rfl, ⟨nd, rfl⟩⟩))
     go_meet
     case rel => exact ⟨_, (true), rs_, H', ⟨by have := HK1.out; first | omega | exact Nat.le_refl _⟩, ⟨bf1_ NB368_371 BK368⟩, ⟨by refine bp_ ?_; refine blk_put (cs := #[.int .i64 ((rd_T40 l0_1 x3_1).f0.f0), .int .i64 ((rd_T40 l0_1 x3_1).f0.f1), .int .i64 ((rd_T40 l0_1 x3_1).f0.f2), .int .i64 ((rd_T40 l0_1 x3_1).f1), .string ((rd_T40 l0_1 x3_1).f2), .int .i64 ((rd_T40 l0_1 x3_1).f3), .int .i64 ((rd_T40 l0_1 x3_1).f4), .string ((rd_T40 l0_1 x3_1).f5), .int .i64 ((rd_T40 l0_1 x3_1).f6), .int .i64 ((rd_T40 l0_1 x3_1).f7.f0), .int .i64 ((rd_T40 l0_1 x3_1).f7.f1), .int .i64 ((rd_T40 l0_1 x3_1).f7.f2), .slice A370_12 ((rd_T40 l0_1 x3_1).f8).length c370_12, .slice none 0 0]) ?_ 13 _ rfl; refine bp_ ?_; refine blk_put (cs := #[.int .i64 ((rd_T40 l0_1 x3_1).f0.f0), .int .i64 ((rd_T40 l0_1 x3_1).f0.f1), .int .i64 ((rd_T40 l0_1 x3_1).f0.f2), .int .i64 ((rd_T40 l0_1 x3_1).f1), .string ((rd_T40 l0_1 x3_1).f2), .int .i64 ((rd_T40 l0_1 x3_1).f3), .int .i64 ((rd_T40 l0_1 x3_1).f4), .string ((rd_T40 l0_1 x3_1).f5), .int .i64 ((rd_T40 l0_1 x3_1).f6), .int .i64 ((rd_T40 l0_1 x3_1).f7.f0), .int .i64 ((rd_T40 l0_1 x3_1).f7.f1), .int .i64 ((rd_T40 l0_1 x3_1).f7.f2), .slice none 0 0, .slice none 0 0]) ?_ 12 _ rfl; refine bp_ ?_; refine blk_put (cs := #[.int .i64 ((rd_T40 l0_1 x3_1).f0.f0), .int .i64 ((rd_T40 l0_1 x3_1).f0.f1), .int .i64 ((rd_T40 l0_1 x3_1).f0.f2), .int .i64 ((rd_T40 l0_1 x3_1).f1), .string ((rd_T40 l0_1 x3_1).f2), .int .i64 ((rd_T40 l0_1 x3_1).f3), .int .i64 ((rd_T40 l0_1 x3_1).f4), .string ((rd_T40 l0_1 x3_1).f5), .int .i64 ((rd_T40 l0_1 x3_1).f6), .int .i64 ((rd_T40 l0_1 x3_1).f7.f0), .int .i64 ((rd_T40 l0_1 x3_1).f7.f1), .int .i64 0, .slice none 0 0, .slice none 0 0]) ?_ 11 _ rfl; refine bp_ ?_; refine blk_put (cs := #[.int .i64 ((rd_T40 l0_1 x3_1).f0.f0), .int .i64 ((rd_T40 l0_1 x3_1).f0.f1), .int .i64 ((rd_T40 l0_1 x3_1).f0.f2), .int .i64 ((rd_T40 l0_1 x3_1).f1), .string ((rd_T40 l0_1 x3_1).f2), .int .i64 ((rd_T40 l0_1 x3_1).f3), .int .i64 ((rd_T40 l0_1 x3_1).f4), .string ((rd_T40 l0_1 x3_1).f5), .int .i64 ((rd_T40 l0_1 x3_1).f6), .int .i64 ((rd_T40 l0_1 x3_1).f7.f0), .int .i64 0, .int .i64 0, .slice none 0 0, .slice none 0 0]) ?_ 10 _ rfl; refine bp_ ?_; refine blk_put (cs := #[.int .i64 ((rd_T40 l0_1 x3_1).f0.f0), .int .i64 ((rd_T40 l0_1 x3_1).f0.f1), .int .i64 ((rd_T40 l0_1 x3_1).f0.f2), .int .i64 ((rd_T40 l0_1 x3_1).f1), .string ((rd_T40 l0_1 x3_1).f2), .int .i64 ((rd_T40 l0_1 x3_1).f3), .int .i64 ((rd_T40 l0_1 x3_1).f4), .string ((rd_T40 l0_1 x3_1).f5), .int .i64 ((rd_T40 l0_1 x3_1).f6), .int .i64 0, .int .i64 0, .int .i64 0, .slice none 0 0, .slice none 0 0]) ?_ 9 _ rfl; refine bp_ ?_; refine blk_put (cs := #[.int .i64 ((rd_T40 l0_1 x3_1).f0.f0), .int .i64 ((rd_T40 l0_1 x3_1).f0.f1), .int .i64 ((rd_T40 l0_1 x3_1).f0.f2), .int .i64 ((rd_T40 l0_1 x3_1).f1), .string ((rd_T40 l0_1 x3_1).f2), .int .i64 ((rd_T40 l0_1 x3_1).f3), .int .i64 ((rd_T40 l0_1 x3_1).f4), .string ((rd_T40 l0_1 x3_1).f5), .int .i64 0, .int .i64 0, .int .i64 0, .int .i64 0, .slice none 0 0, .slice none 0 0]) ?_ 8 _ rfl; refine bp_ ?_; refine blk_put (cs := #[.int .i64 ((rd_T40 l0_1 x3_1).f0.f0), .int .i64 ((rd_T40 l0_1 x3_1).f0.f1), .int .i64 ((rd_T40 l0_1 x3_1).f0.f2), .int .i64 ((rd_T40 l0_1 x3_1).f1), .string ((rd_T40 l0_1 x3_1).f2), .int .i64 ((rd_T40 l0_1 x3_1).f3), .int .i64 ((rd_T40 l0_1 x3_1).f4), .string (⟨#[]⟩ : ByteArray), .int .i64 0, .int .i64 0, .int .i64 0, .int .i64 0, .slice none 0 0, .slice none 0 0]) ?_ 7 _ rfl; refine bp_ ?_; refine blk_put (cs := #[.int .i64 ((rd_T40 l0_1 x3_1).f0.f0), .int .i64 ((rd_T40 l0_1 x3_1).f0.f1), .int .i64 ((rd_T40 l0_1 x3_1).f0.f2), .int .i64 ((rd_T40 l0_1 x3_1).f1), .string ((rd_T40 l0_1 x3_1).f2), .int .i64 ((rd_T40 l0_1 x3_1).f3), .int .i64 0, .string (⟨#[]⟩ : ByteArray), .int .i64 0, .int .i64 0, .int .i64 0, .int .i64 0, .slice none 0 0, .slice none 0 0]) ?_ 6 _ rfl; refine bp_ ?_; refine blk_put (cs := #[.int .i64 ((rd_T40 l0_1 x3_1).f0.f0), .int .i64 ((rd_T40 l0_1 x3_1).f0.f1), .int .i64 ((rd_T40 l0_1 x3_1).f0.f2), .int .i64 ((rd_T40 l0_1 x3_1).f1), .string ((rd_T40 l0_1 x3_1).f2), .int .i64 0, .int .i64 0, .string (⟨#[]⟩ : ByteArray), .int .i64 0, .int .i64 0, .int .i64 0, .int .i64 0, .slice none 0 0, .slice none 0 0]) ?_ 5 _ rfl; refine bp_ ?_; refine blk_put (cs := #[.int .i64 ((rd_T40 l0_1 x3_1).f0.f0), .int .i64 ((rd_T40 l0_1 x3_1).f0.f1), .int .i64 ((rd_T40 l0_1 x3_1).f0.f2), .int .i64 ((rd_T40 l0_1 x3_1).f1), .string (⟨#[]⟩ : ByteArray), .int .i64 0, .int .i64 0, .string (⟨#[]⟩ : ByteArray), .int .i64 0, .int .i64 0, .int .i64 0, .int .i64 0, .slice none 0 0, .slice none 0 0]) ?_ 4 _ rfl; refine bp_ ?_; refine blk_put (cs := #[.int .i64 ((rd_T40 l0_1 x3_1).f0.f0), .int .i64 ((rd_T40 l0_1 x3_1).f0.f1), .int .i64 ((rd_T40 l0_1 x3_1).f0.f2), .int .i64 0, .string (⟨#[]⟩ : ByteArray), .int .i64 0, .int .i64 0, .string (⟨#[]⟩ : ByteArray), .int .i64 0, .int .i64 0, .int .i64 0, .int .i64 0, .slice none 0 0, .slice none 0 0]) ?_ 3 _ rfl; refine bp_ ?_; refine blk_put (cs := #[.int .i64 ((rd_T40 l0_1 x3_1).f0.f0), .int .i64 ((rd_T40 l0_1 x3_1).f0.f1), .int .i64 0, .int .i64 0, .string (⟨#[]⟩ : ByteArray), .int .i64 0, .int .i64 0, .string (⟨#[]⟩ : ByteArray), .int .i64 0, .int .i64 0, .int .i64 0, .int .i64 0, .slice none 0 0, .slice none 0 0]) ?_ 2 _ rfl; refine bp_ ?_; refine blk_put (cs := #[.int .i64 ((rd_T40 l0_1 x3_1).f0.f0), .int .i64 0, .int .i64 0, .int .i64 0, .string (⟨#[]⟩ : ByteArray), .int .i64 0, .int .i64 0, .string (⟨#[]⟩ : ByteArray), .int .i64 0, .int .i64 0, .int .i64 0, .int .i64 0, .slice none 0 0, .slice none 0 0]) ?_ 1 _ rfl; refine bp_ ?_; refine blk_put (cs := #[.int .i64 0, .int .i64 0, .int .i64 0, .int .i64 0, .string (⟨#[]⟩ : ByteArray), .int .i64 0, .int .i64 0, .string (⟨#[]⟩ : ByteArray), .int .i64 0, .int .i64 0, .int .i64 0, .int .i64 0, .slice none 0 0, .slice none 0 0]) ?_ 0 _ rfl; exact bk_ BK371.out⟩, ⟨bh_⟩⟩
    rw [if_neg c30] at H
    have c30b0 : decide (((rd_T40 l0_1 x3_1).f4) < 1) = false := decide_eq_false c30
    clear c30
    have H' := am_ H
    clear H
    have hnb34 := NB371_368.out
    have hnc34 := NB368_371.out
    have hcz35_0 : w10.cell? ⟨gb371, 0, none⟩ = some (.int .i64 0) := (blk_cell BK371.out 0).trans rfl
    have hcz35_1 : w10.cell? ⟨gb371, 1, none⟩ = some (.int .i64 0) := (blk_cell BK371.out 1).trans rfl
    have hcz35_2 : w10.cell? ⟨gb371, 2, none⟩ = some (.int .i64 0) := (blk_cell BK371.out 2).trans rfl
    have hcz35_3 : w10.cell? ⟨gb371, 3, none⟩ = some (.int .i64 0) := (blk_cell BK371.out 3).trans rfl
    have hcz35_4 : w10.cell? ⟨gb371, 4, none⟩ = some (.string (⟨#[]⟩ : ByteArray)) := (blk_cell BK371.out 4).trans rfl
    have hcz35_5 : w10.cell? ⟨gb371, 5, none⟩ = some (.int .i64 0) := (blk_cell BK371.out 5).trans rfl
    have hcz35_6 : w10.cell? ⟨gb371, 6, none⟩ = some (.int .i64 0) := (blk_cell BK371.out 6).trans rfl
    have hcz35_7 : w10.cell? ⟨gb371, 7, none⟩ = some (.string (⟨#[]⟩ : ByteArray)) := (blk_cell BK371.out 7).trans rfl
    have hcz35_8 : w10.cell? ⟨gb371, 8, none⟩ = some (.int .i64 0) := (blk_cell BK371.out 8).trans rfl
    have hcz35_9 : w10.cell? ⟨gb371, 9, none⟩ = some (.int .i64 0) := (blk_cell BK371.out 9).trans rfl
    have hcz35_10 : w10.cell? ⟨gb371, 10, none⟩ = some (.int .i64 0) := (blk_cell BK371.out 10).trans rfl
    have hcz35_11 : w10.cell? ⟨gb371, 11, none⟩ = some (.int .i64 0) := (blk_cell BK371.out 11).trans rfl
    have hcz35_12 : w10.cell? ⟨gb371, 12, none⟩ = some (.slice none 0 0) := (blk_cell BK371.out 12).trans rfl
    have hcz35_13 : w10.cell? ⟨gb371, 13, none⟩ = some (.slice none 0 0) := (blk_cell BK371.out 13).trans rfl
    have hfz35_0 := blk_frozen BK371.out 0
    have hfz35_1 := blk_frozen BK371.out 1
    have hfz35_2 := blk_frozen BK371.out 2
    have hfz35_3 := blk_frozen BK371.out 3
    have hfz35_4 := blk_frozen BK371.out 4
    have hfz35_5 := blk_frozen BK371.out 5
    have hfz35_6 := blk_frozen BK371.out 6
    have hfz35_7 := blk_frozen BK371.out 7
    have hfz35_8 := blk_frozen BK371.out 8
    have hfz35_9 := blk_frozen BK371.out 9
    have hfz35_10 := blk_frozen BK371.out 10
    have hfz35_11 := blk_frozen BK371.out 11
    have hfz35_12 := blk_frozen BK371.out 12
    have hfz35_13 := blk_frozen BK371.out 13
    obtain ⟨hcz36_0, hcz36_1⟩ := cz2_ BK368.out
    obtain ⟨hfz36_0, hfz36_1⟩ := fz2_ BK368.out
    go_wp2_with (first | (go_at_call 30; (with_reducible refine (computusref26_In.calls ((rd_T40 l0_1 x3_1).f0.f1) true _ A14.out).mono ?_); rintro e w' ⟨rfl, ⟨nd, rfl⟩⟩) | (go_at_call 30; (with_reducible refine (computusref26_In.calls ((rd_T40 l0_1 x3_1).f0.f2) true _ A16.out).mono ?_); rintro e w' ⟨rfl, ⟨nd, rfl⟩⟩) | (go_at_call 30; (with_reducible refine (computusref26_In.calls ((rd_T40 l0_1 x3_1).f3) true _ A18.out).mono ?_); rintro e w' ⟨rfl, ⟨nd, rfl⟩⟩) | (go_at_call 30; (with_reducible refine (computusref26_In.calls ((rd_T40 l0_1 x3_1).f6) true _ A20.out).mono ?_); rintro e w' ⟨rfl, ⟨nd, rfl⟩⟩))
    go_meet
    case rel => exact ⟨_, (decide (((rd_T40 l0_1 x3_1).f4) > 3)), rs_, H', ⟨by have := HK1.out; first | omega | exact Nat.le_refl _⟩, ⟨bf1_ NB368_371 BK368⟩, ⟨by refine bp_ ?_; refine blk_put (cs := #[.int .i64 ((rd_T40 l0_1 x3_1).f0.f0), .int .i64 ((rd_T40 l0_1 x3_1).f0.f1), .int .i64 ((rd_T40 l0_1 x3_1).f0.f2), .int .i64 ((rd_T40 l0_1 x3_1).f1), .string ((rd_T40 l0_1 x3_1).f2), .int .i64 ((rd_T40 l0_1 x3_1).f3), .int .i64 ((rd_T40 l0_1 x3_1).f4), .string ((rd_T40 l0_1 x3_1).f5), .int .i64 ((rd_T40 l0_1 x3_1).f6), .int .i64 ((rd_T40 l0_1 x3_1).f7.f0), .int .i64 ((rd_T40 l0_1 x3_1).f7.f1), .int .i64 ((rd_T40 l0_1 x3_1).f7.f2), .slice A370_12 ((rd_T40 l0_1 x3_1).f8).length c370_12, .slice none 0 0]) ?_ 13 _ rfl; refine bp_ ?_; refine blk_put (cs := #[.int .i64 ((rd_T40 l0_1 x3_1).f0.f0), .int .i64 ((rd_T40 l0_1 x3_1).f0.f1), .int .i64 ((rd_T40 l0_1 x3_1).f0.f2), .int .i64 ((rd_T40 l0_1 x3_1).f1), .string ((rd_T40 l0_1 x3_1).f2), .int .i64 ((rd_T40 l0_1 x3_1).f3), .int .i64 ((rd_T40 l0_1 x3_1).f4), .string ((rd_T40 l0_1 x3_1).f5), .int .i64 ((rd_T40 l0_1 x3_1).f6), .int .i64 ((rd_T40 l0_1 x3_1).f7.f0), .int .i64 ((rd_T40 l0_1 x3_1).f7.f1), .int .i64 ((rd_T40 l0_1 x3_1).f7.f2), .slice none 0 0, .slice none 0 0]) ?_ 12 _ rfl; refine bp_ ?_; refine blk_put (cs := #[.int .i64 ((rd_T40 l0_1 x3_1).f0.f0), .int .i64 ((rd_T40 l0_1 x3_1).f0.f1), .int .i64 ((rd_T40 l0_1 x3_1).f0.f2), .int .i64 ((rd_T40 l0_1 x3_1).f1), .string ((rd_T40 l0_1 x3_1).f2), .int .i64 ((rd_T40 l0_1 x3_1).f3), .int .i64 ((rd_T40 l0_1 x3_1).f4), .string ((rd_T40 l0_1 x3_1).f5), .int .i64 ((rd_T40 l0_1 x3_1).f6), .int .i64 ((rd_T40 l0_1 x3_1).f7.f0), .int .i64 ((rd_T40 l0_1 x3_1).f7.f1), .int .i64 0, .slice none 0 0, .slice none 0 0]) ?_ 11 _ rfl; refine bp_ ?_; refine blk_put (cs := #[.int .i64 ((rd_T40 l0_1 x3_1).f0.f0), .int .i64 ((rd_T40 l0_1 x3_1).f0.f1), .int .i64 ((rd_T40 l0_1 x3_1).f0.f2), .int .i64 ((rd_T40 l0_1 x3_1).f1), .string ((rd_T40 l0_1 x3_1).f2), .int .i64 ((rd_T40 l0_1 x3_1).f3), .int .i64 ((rd_T40 l0_1 x3_1).f4), .string ((rd_T40 l0_1 x3_1).f5), .int .i64 ((rd_T40 l0_1 x3_1).f6), .int .i64 ((rd_T40 l0_1 x3_1).f7.f0), .int .i64 0, .int .i64 0, .slice none 0 0, .slice none 0 0]) ?_ 10 _ rfl; refine bp_ ?_; refine blk_put (cs := #[.int .i64 ((rd_T40 l0_1 x3_1).f0.f0), .int .i64 ((rd_T40 l0_1 x3_1).f0.f1), .int .i64 ((rd_T40 l0_1 x3_1).f0.f2), .int .i64 ((rd_T40 l0_1 x3_1).f1), .string ((rd_T40 l0_1 x3_1).f2), .int .i64 ((rd_T40 l0_1 x3_1).f3), .int .i64 ((rd_T40 l0_1 x3_1).f4), .string ((rd_T40 l0_1 x3_1).f5), .int .i64 ((rd_T40 l0_1 x3_1).f6), .int .i64 0, .int .i64 0, .int .i64 0, .slice none 0 0, .slice none 0 0]) ?_ 9 _ rfl; refine bp_ ?_; refine blk_put (cs := #[.int .i64 ((rd_T40 l0_1 x3_1).f0.f0), .int .i64 ((rd_T40 l0_1 x3_1).f0.f1), .int .i64 ((rd_T40 l0_1 x3_1).f0.f2), .int .i64 ((rd_T40 l0_1 x3_1).f1), .string ((rd_T40 l0_1 x3_1).f2), .int .i64 ((rd_T40 l0_1 x3_1).f3), .int .i64 ((rd_T40 l0_1 x3_1).f4), .string ((rd_T40 l0_1 x3_1).f5), .int .i64 0, .int .i64 0, .int .i64 0, .int .i64 0, .slice none 0 0, .slice none 0 0]) ?_ 8 _ rfl; refine bp_ ?_; refine blk_put (cs := #[.int .i64 ((rd_T40 l0_1 x3_1).f0.f0), .int .i64 ((rd_T40 l0_1 x3_1).f0.f1), .int .i64 ((rd_T40 l0_1 x3_1).f0.f2), .int .i64 ((rd_T40 l0_1 x3_1).f1), .string ((rd_T40 l0_1 x3_1).f2), .int .i64 ((rd_T40 l0_1 x3_1).f3), .int .i64 ((rd_T40 l0_1 x3_1).f4), .string (⟨#[]⟩ : ByteArray), .int .i64 0, .int .i64 0, .int .i64 0, .int .i64 0, .slice none 0 0, .slice none 0 0]) ?_ 7 _ rfl; refine bp_ ?_; refine blk_put (cs := #[.int .i64 ((rd_T40 l0_1 x3_1).f0.f0), .int .i64 ((rd_T40 l0_1 x3_1).f0.f1), .int .i64 ((rd_T40 l0_1 x3_1).f0.f2), .int .i64 ((rd_T40 l0_1 x3_1).f1), .string ((rd_T40 l0_1 x3_1).f2), .int .i64 ((rd_T40 l0_1 x3_1).f3), .int .i64 0, .string (⟨#[]⟩ : ByteArray), .int .i64 0, .int .i64 0, .int .i64 0, .int .i64 0, .slice none 0 0, .slice none 0 0]) ?_ 6 _ rfl; refine bp_ ?_; refine blk_put (cs := #[.int .i64 ((rd_T40 l0_1 x3_1).f0.f0), .int .i64 ((rd_T40 l0_1 x3_1).f0.f1), .int .i64 ((rd_T40 l0_1 x3_1).f0.f2), .int .i64 ((rd_T40 l0_1 x3_1).f1), .string ((rd_T40 l0_1 x3_1).f2), .int .i64 0, .int .i64 0, .string (⟨#[]⟩ : ByteArray), .int .i64 0, .int .i64 0, .int .i64 0, .int .i64 0, .slice none 0 0, .slice none 0 0]) ?_ 5 _ rfl; refine bp_ ?_; refine blk_put (cs := #[.int .i64 ((rd_T40 l0_1 x3_1).f0.f0), .int .i64 ((rd_T40 l0_1 x3_1).f0.f1), .int .i64 ((rd_T40 l0_1 x3_1).f0.f2), .int .i64 ((rd_T40 l0_1 x3_1).f1), .string (⟨#[]⟩ : ByteArray), .int .i64 0, .int .i64 0, .string (⟨#[]⟩ : ByteArray), .int .i64 0, .int .i64 0, .int .i64 0, .int .i64 0, .slice none 0 0, .slice none 0 0]) ?_ 4 _ rfl; refine bp_ ?_; refine blk_put (cs := #[.int .i64 ((rd_T40 l0_1 x3_1).f0.f0), .int .i64 ((rd_T40 l0_1 x3_1).f0.f1), .int .i64 ((rd_T40 l0_1 x3_1).f0.f2), .int .i64 0, .string (⟨#[]⟩ : ByteArray), .int .i64 0, .int .i64 0, .string (⟨#[]⟩ : ByteArray), .int .i64 0, .int .i64 0, .int .i64 0, .int .i64 0, .slice none 0 0, .slice none 0 0]) ?_ 3 _ rfl; refine bp_ ?_; refine blk_put (cs := #[.int .i64 ((rd_T40 l0_1 x3_1).f0.f0), .int .i64 ((rd_T40 l0_1 x3_1).f0.f1), .int .i64 0, .int .i64 0, .string (⟨#[]⟩ : ByteArray), .int .i64 0, .int .i64 0, .string (⟨#[]⟩ : ByteArray), .int .i64 0, .int .i64 0, .int .i64 0, .int .i64 0, .slice none 0 0, .slice none 0 0]) ?_ 2 _ rfl; refine bp_ ?_; refine blk_put (cs := #[.int .i64 ((rd_T40 l0_1 x3_1).f0.f0), .int .i64 0, .int .i64 0, .int .i64 0, .string (⟨#[]⟩ : ByteArray), .int .i64 0, .int .i64 0, .string (⟨#[]⟩ : ByteArray), .int .i64 0, .int .i64 0, .int .i64 0, .int .i64 0, .slice none 0 0, .slice none 0 0]) ?_ 1 _ rfl; refine bp_ ?_; refine blk_put (cs := #[.int .i64 0, .int .i64 0, .int .i64 0, .int .i64 0, .string (⟨#[]⟩ : ByteArray), .int .i64 0, .int .i64 0, .string (⟨#[]⟩ : ByteArray), .int .i64 0, .int .i64 0, .int .i64 0, .int .i64 0, .slice none 0 0, .slice none 0 0]) ?_ 0 _ rfl; exact bk_ BK371.out⟩, ⟨bh_⟩⟩
   case rest =>
    clear HC8
    obtain ⟨kq, x72_7, rfl, HA, HJ7, BK368, BK371, HB⟩ := hcut
    cases kq with
    | zero => exact absurd HA.out (by simp [computusref27_Printable.j1])
    | succ kj7 =>
     have H := HA.out
     clear HA
     simp only [computusref27_Printable.j1] at H
     by_cases c52 : x72_7 = true
     ·subst c52
      replace H := it_ H
      obtain rfl := Option.some.inj H
      go_wp2
      go_ret
      exact rt_
     replace c52 := Bool.eq_false_iff.mpr c52
     subst c52
     replace H := if_ H
     have HC53 := am_ H
     clear H
     go_upto_region 9 with (fail)
     go_cut [108] (fun v108 wc => ∃ (kq : Nat) (x108_52 : Bool), v108 = .bool x108_52 ∧ Aside0 (computusref27_Printable.j2 kq x3_1 x108_52 a0_0 l0_1 ((rd_T40 l0_1 x3_1).f0.f0) ((rd_T40 l0_1 x3_1).f0.f1) ((rd_T40 l0_1 x3_1).f0.f2) ((rd_T40 l0_1 x3_1).f1) ((rd_T40 l0_1 x3_1).f2) ((rd_T40 l0_1 x3_1).f3) ((rd_T40 l0_1 x3_1).f4) ((rd_T40 l0_1 x3_1).f5) ((rd_T40 l0_1 x3_1).f6) ((rd_T40 l0_1 x3_1).f7.f0) ((rd_T40 l0_1 x3_1).f7.f1) ((rd_T40 l0_1 x3_1).f7.f2) ((rd_T40 l0_1 x3_1).f8) ((rd_T40 l0_1 x3_1).f9) = some r) ∧ Aside0 (kq ≤ kj7) ∧ Aside0 (wc.heap[gb368]? = some (.cells #[.int .i64 a0_0, (.slice (some ad370) l0_1.length c0_1)] 25 (0, 0))) ∧ Aside0 (wc.heap[gb371]? = some (.cells #[.int .i64 ((rd_T40 l0_1 x3_1).f0.f0), .int .i64 ((rd_T40 l0_1 x3_1).f0.f1), .int .i64 ((rd_T40 l0_1 x3_1).f0.f2), .int .i64 ((rd_T40 l0_1 x3_1).f1), .string ((rd_T40 l0_1 x3_1).f2), .int .i64 ((rd_T40 l0_1 x3_1).f3), .int .i64 ((rd_T40 l0_1 x3_1).f4), .string ((rd_T40 l0_1 x3_1).f5), .int .i64 ((rd_T40 l0_1 x3_1).f6), .int .i64 ((rd_T40 l0_1 x3_1).f7.f0), .int .i64 ((rd_T40 l0_1 x3_1).f7.f1), .int .i64 ((rd_T40 l0_1 x3_1).f7.f2), (.slice A370_12 ((rd_T40 l0_1 x3_1).f8).length c370_12), (.slice A370_13 ((rd_T40 l0_1 x3_1).f9).length c370_13)] 40 (0, 0))) ∧ Aside0 (Below w.heap.size w wc))
     case first =>
      have H := HC53.out
      clear HC53
      by_cases c54 : ((rd_T40 l0_1 x3_1).f4) = 3
      rotate_left
      ·rw [if_neg c54] at H
       have c54b0 : (((rd_T40 l0_1 x3_1).f4) == 3) = false := beq_eq_false_iff_ne.mpr c54
       have c54b1 : (((rd_T40 l0_1 x3_1).f4) != 3) = true := bne_iff_ne.mpr c54
       (first | rw [c54b0] | (simp only [i64_w, i32_w]; rw [c54b0]) | skip)
       by_cases c68 : (!(((rd_T40 l0_1 x3_1).f7.f0) == 0) || (!(((rd_T40 l0_1 x3_1).f7.f1) == 0) || (!(((rd_T40 l0_1 x3_1).f7.f2) == 0)))) = true
       ·rw [if_pos c68] at H
        have c68b0 : (!(((rd_T40 l0_1 x3_1).f7.f0) == 0) || (!(((rd_T40 l0_1 x3_1).f7.f1) == 0) || (!(((rd_T40 l0_1 x3_1).f7.f2) == 0)))) = true := c68
        clear c68
        have H' := am_ H
        clear H
        have hnb69 := NB371_368.out
        have hnc69 := NB368_371.out
        have hcz70_0 : wc.cell? ⟨gb371, 0, none⟩ = some (.int .i64 ((rd_T40 l0_1 x3_1).f0.f0)) := (blk_cell BK371.out 0).trans rfl
        have hcz70_1 : wc.cell? ⟨gb371, 1, none⟩ = some (.int .i64 ((rd_T40 l0_1 x3_1).f0.f1)) := (blk_cell BK371.out 1).trans rfl
        have hcz70_2 : wc.cell? ⟨gb371, 2, none⟩ = some (.int .i64 ((rd_T40 l0_1 x3_1).f0.f2)) := (blk_cell BK371.out 2).trans rfl
        have hcz70_3 : wc.cell? ⟨gb371, 3, none⟩ = some (.int .i64 ((rd_T40 l0_1 x3_1).f1)) := (blk_cell BK371.out 3).trans rfl
        have hcz70_4 : wc.cell? ⟨gb371, 4, none⟩ = some (.string ((rd_T40 l0_1 x3_1).f2)) := (blk_cell BK371.out 4).trans rfl
        have hcz70_5 : wc.cell? ⟨gb371, 5, none⟩ = some (.int .i64 ((rd_T40 l0_1 x3_1).f3)) := (blk_cell BK371.out 5).trans rfl
        have hcz70_6 : wc.cell? ⟨gb371, 6, none⟩ = some (.int .i64 ((rd_T40 l0_1 x3_1).f4)) := (blk_cell BK371.out 6).trans rfl
        have hcz70_7 : wc.cell? ⟨gb371, 7, none⟩ = some (.string ((rd_T40 l0_1 x3_1).f5)) := (blk_cell BK371.out 7).trans rfl
        have hcz70_8 : wc.cell? ⟨gb371, 8, none⟩ = some (.int .i64 ((rd_T40 l0_1 x3_1).f6)) := (blk_cell BK371.out 8).trans rfl
        have hcz70_9 : wc.cell? ⟨gb371, 9, none⟩ = some (.int .i64 ((rd_T40 l0_1 x3_1).f7.f0)) := (blk_cell BK371.out 9).trans rfl
        have hcz70_10 : wc.cell? ⟨gb371, 10, none⟩ = some (.int .i64 ((rd_T40 l0_1 x3_1).f7.f1)) := (blk_cell BK371.out 10).trans rfl
        have hcz70_11 : wc.cell? ⟨gb371, 11, none⟩ = some (.int .i64 ((rd_T40 l0_1 x3_1).f7.f2)) := (blk_cell BK371.out 11).trans rfl
        have hcz70_12 : wc.cell? ⟨gb371, 12, none⟩ = some (.slice A370_12 ((rd_T40 l0_1 x3_1).f8).length c370_12) := (blk_cell BK371.out 12).trans rfl
        have hcz70_13 : wc.cell? ⟨gb371, 13, none⟩ = some (.slice A370_13 ((rd_T40 l0_1 x3_1).f9).length c370_13) := (blk_cell BK371.out 13).trans rfl
        have hfz70_0 := blk_frozen BK371.out 0
        have hfz70_1 := blk_frozen BK371.out 1
        have hfz70_2 := blk_frozen BK371.out 2
        have hfz70_3 := blk_frozen BK371.out 3
        have hfz70_4 := blk_frozen BK371.out 4
        have hfz70_5 := blk_frozen BK371.out 5
        have hfz70_6 := blk_frozen BK371.out 6
        have hfz70_7 := blk_frozen BK371.out 7
        have hfz70_8 := blk_frozen BK371.out 8
        have hfz70_9 := blk_frozen BK371.out 9
        have hfz70_10 := blk_frozen BK371.out 10
        have hfz70_11 := blk_frozen BK371.out 11
        have hfz70_12 := blk_frozen BK371.out 12
        have hfz70_13 := blk_frozen BK371.out 13
        go_wp2
        go_meet
        case rel => exact ⟨_, (true), rs_, H', ⟨by have := HK1.out; have := HJ7.out; first | omega | exact Nat.le_refl _⟩, ⟨bk_ BK368.out⟩, ⟨bk_ BK371.out⟩, ⟨bh_⟩⟩
       rw [if_neg c68] at H
       have c68b0 : (!(((rd_T40 l0_1 x3_1).f7.f0) == 0) || (!(((rd_T40 l0_1 x3_1).f7.f1) == 0) || (!(((rd_T40 l0_1 x3_1).f7.f2) == 0)))) = false := by simpa using c68
       clear c68
       have H' := am_ H
       clear H
       have hnb71 := NB371_368.out
       have hnc71 := NB368_371.out
       have hcz72_0 : wc.cell? ⟨gb371, 0, none⟩ = some (.int .i64 ((rd_T40 l0_1 x3_1).f0.f0)) := (blk_cell BK371.out 0).trans rfl
       have hcz72_1 : wc.cell? ⟨gb371, 1, none⟩ = some (.int .i64 ((rd_T40 l0_1 x3_1).f0.f1)) := (blk_cell BK371.out 1).trans rfl
       have hcz72_2 : wc.cell? ⟨gb371, 2, none⟩ = some (.int .i64 ((rd_T40 l0_1 x3_1).f0.f2)) := (blk_cell BK371.out 2).trans rfl
       have hcz72_3 : wc.cell? ⟨gb371, 3, none⟩ = some (.int .i64 ((rd_T40 l0_1 x3_1).f1)) := (blk_cell BK371.out 3).trans rfl
       have hcz72_4 : wc.cell? ⟨gb371, 4, none⟩ = some (.string ((rd_T40 l0_1 x3_1).f2)) := (blk_cell BK371.out 4).trans rfl
       have hcz72_5 : wc.cell? ⟨gb371, 5, none⟩ = some (.int .i64 ((rd_T40 l0_1 x3_1).f3)) := (blk_cell BK371.out 5).trans rfl
       have hcz72_6 : wc.cell? ⟨gb371, 6, none⟩ = some (.int .i64 ((rd_T40 l0_1 x3_1).f4)) := (blk_cell BK371.out 6).trans rfl
       have hcz72_7 : wc.cell? ⟨gb371, 7, none⟩ = some (.string ((rd_T40 l0_1 x3_1).f5)) := (blk_cell BK371.out 7).trans rfl
       have hcz72_8 : wc.cell? ⟨gb371, 8, none⟩ = some (.int .i64 ((rd_T40 l0_1 x3_1).f6)) := (blk_cell BK371.out 8).trans rfl
       have hcz72_9 : wc.cell? ⟨gb371, 9, none⟩ = some (.int .i64 ((rd_T40 l0_1 x3_1).f7.f0)) := (blk_cell BK371.out 9).trans rfl
       have hcz72_10 : wc.cell? ⟨gb371, 10, none⟩ = some (.int .i64 ((rd_T40 l0_1 x3_1).f7.f1)) := (blk_cell BK371.out 10).trans rfl
       have hcz72_11 : wc.cell? ⟨gb371, 11, none⟩ = some (.int .i64 ((rd_T40 l0_1 x3_1).f7.f2)) := (blk_cell BK371.out 11).trans rfl
       have hcz72_12 : wc.cell? ⟨gb371, 12, none⟩ = some (.slice A370_12 ((rd_T40 l0_1 x3_1).f8).length c370_12) := (blk_cell BK371.out 12).trans rfl
       have hcz72_13 : wc.cell? ⟨gb371, 13, none⟩ = some (.slice A370_13 ((rd_T40 l0_1 x3_1).f9).length c370_13) := (blk_cell BK371.out 13).trans rfl
       have hfz72_0 := blk_frozen BK371.out 0
       have hfz72_1 := blk_frozen BK371.out 1
       have hfz72_2 := blk_frozen BK371.out 2
       have hfz72_3 := blk_frozen BK371.out 3
       have hfz72_4 := blk_frozen BK371.out 4
       have hfz72_5 := blk_frozen BK371.out 5
       have hfz72_6 := blk_frozen BK371.out 6
       have hfz72_7 := blk_frozen BK371.out 7
       have hfz72_8 := blk_frozen BK371.out 8
       have hfz72_9 := blk_frozen BK371.out 9
       have hfz72_10 := blk_frozen BK371.out 10
       have hfz72_11 := blk_frozen BK371.out 11
       have hfz72_12 := blk_frozen BK371.out 12
       have hfz72_13 := blk_frozen BK371.out 13
       go_wp2
       go_meet
       case rel => exact ⟨_, (false), rs_, H', ⟨by have := HK1.out; have := HJ7.out; first | omega | exact Nat.le_refl _⟩, ⟨bk_ BK368.out⟩, ⟨bk_ BK371.out⟩, ⟨bh_⟩⟩
      rw [if_pos c54] at H
      have c54b0 : (((rd_T40 l0_1 x3_1).f4) == 3) = true := beq_iff_eq.mpr c54
      have c54b1 : (((rd_T40 l0_1 x3_1).f4) != 3) = false := bne_eq_false_iff_eq.mpr c54
      clear c54
      (first | rw [c54b0] | (simp only [i64_w, i32_w]; rw [c54b0]) | skip)
      by_cases c55 : ((rd_T40 l0_1 x3_1).f7.f0) = a0_0
      rotate_left
      ·rw [if_neg c55] at H
       have c55b0 : (((rd_T40 l0_1 x3_1).f7.f0) == a0_0) = false := beq_eq_false_iff_ne.mpr c55
       have c55b1 : (((rd_T40 l0_1 x3_1).f7.f0) != a0_0) = true := bne_iff_ne.mpr c55
       have H' := am_ H
       clear H
       have hnb65 := NB371_368.out
       have hnc65 := NB368_371.out
       have hcz66_0 : wc.cell? ⟨gb371, 0, none⟩ = some (.int .i64 ((rd_T40 l0_1 x3_1).f0.f0)) := (blk_cell BK371.out 0).trans rfl
       have hcz66_1 : wc.cell? ⟨gb371, 1, none⟩ = some (.int .i64 ((rd_T40 l0_1 x3_1).f0.f1)) := (blk_cell BK371.out 1).trans rfl
       have hcz66_2 : wc.cell? ⟨gb371, 2, none⟩ = some (.int .i64 ((rd_T40 l0_1 x3_1).f0.f2)) := (blk_cell BK371.out 2).trans rfl
       have hcz66_3 : wc.cell? ⟨gb371, 3, none⟩ = some (.int .i64 ((rd_T40 l0_1 x3_1).f1)) := (blk_cell BK371.out 3).trans rfl
       have hcz66_4 : wc.cell? ⟨gb371, 4, none⟩ = some (.string ((rd_T40 l0_1 x3_1).f2)) := (blk_cell BK371.out 4).trans rfl
       have hcz66_5 : wc.cell? ⟨gb371, 5, none⟩ = some (.int .i64 ((rd_T40 l0_1 x3_1).f3)) := (blk_cell BK371.out 5).trans rfl
       have hcz66_6 : wc.cell? ⟨gb371, 6, none⟩ = some (.int .i64 ((rd_T40 l0_1 x3_1).f4)) := (blk_cell BK371.out 6).trans rfl
       have hcz66_7 : wc.cell? ⟨gb371, 7, none⟩ = some (.string ((rd_T40 l0_1 x3_1).f5)) := (blk_cell BK371.out 7).trans rfl
       have hcz66_8 : wc.cell? ⟨gb371, 8, none⟩ = some (.int .i64 ((rd_T40 l0_1 x3_1).f6)) := (blk_cell BK371.out 8).trans rfl
       have hcz66_9 : wc.cell? ⟨gb371, 9, none⟩ = some (.int .i64 ((rd_T40 l0_1 x3_1).f7.f0)) := (blk_cell BK371.out 9).trans rfl
       have hcz66_10 : wc.cell? ⟨gb371, 10, none⟩ = some (.int .i64 ((rd_T40 l0_1 x3_1).f7.f1)) := (blk_cell BK371.out 10).trans rfl
       have hcz66_11 : wc.cell? ⟨gb371, 11, none⟩ = some (.int .i64 ((rd_T40 l0_1 x3_1).f7.f2)) := (blk_cell BK371.out 11).trans rfl
       have hcz66_12 : wc.cell? ⟨gb371, 12, none⟩ = some (.slice A370_12 ((rd_T40 l0_1 x3_1).f8).length c370_12) := (blk_cell BK371.out 12).trans rfl
       have hcz66_13 : wc.cell? ⟨gb371, 13, none⟩ = some (.slice A370_13 ((rd_T40 l0_1 x3_1).f9).length c370_13) := (blk_cell BK371.out 13).trans rfl
       have hfz66_0 := blk_frozen BK371.out 0
       have hfz66_1 := blk_frozen BK371.out 1
       have hfz66_2 := blk_frozen BK371.out 2
       have hfz66_3 := blk_frozen BK371.out 3
       have hfz66_4 := blk_frozen BK371.out 4
       have hfz66_5 := blk_frozen BK371.out 5
       have hfz66_6 := blk_frozen BK371.out 6
       have hfz66_7 := blk_frozen BK371.out 7
       have hfz66_8 := blk_frozen BK371.out 8
       have hfz66_9 := blk_frozen BK371.out 9
       have hfz66_10 := blk_frozen BK371.out 10
       have hfz66_11 := blk_frozen BK371.out 11
       have hfz66_12 := blk_frozen BK371.out 12
       have hfz66_13 := blk_frozen BK371.out 13
       obtain ⟨hcz67_0, hcz67_1⟩ := cz2_ BK368.out
       obtain ⟨hfz67_0, hfz67_1⟩ := fz2_ BK368.out
       go_wp2
       go_meet
       case rel => exact ⟨_, (true), rs_, H', ⟨by have := HK1.out; have := HJ7.out; first | omega | exact Nat.le_refl _⟩, ⟨bk_ BK368.out⟩, ⟨bk_ BK371.out⟩, ⟨bh_⟩⟩
      rw [if_pos c55] at H
      have c55b0 : (((rd_T40 l0_1 x3_1).f7.f0) == a0_0) = true := beq_iff_eq.mpr c55
      have c55b1 : (((rd_T40 l0_1 x3_1).f7.f0) != a0_0) = false := bne_eq_false_iff_eq.mpr c55
      clear c55
      obtain ⟨t376, A56, H⟩ := bs_ H
      by_cases c57 : t376 = true
      rotate_left
      ·replace c57 := Bool.eq_false_iff.mpr c57
       subst c57
       replace H := if_ H
       have H' := am_ H
       clear H
       have hnb62 := NB371_368.out
       have hnc62 := NB368_371.out
       have hcz63_0 : wc.cell? ⟨gb371, 0, none⟩ = some (.int .i64 ((rd_T40 l0_1 x3_1).f0.f0)) := (blk_cell BK371.out 0).trans rfl
       have hcz63_1 : wc.cell? ⟨gb371, 1, none⟩ = some (.int .i64 ((rd_T40 l0_1 x3_1).f0.f1)) := (blk_cell BK371.out 1).trans rfl
       have hcz63_2 : wc.cell? ⟨gb371, 2, none⟩ = some (.int .i64 ((rd_T40 l0_1 x3_1).f0.f2)) := (blk_cell BK371.out 2).trans rfl
       have hcz63_3 : wc.cell? ⟨gb371, 3, none⟩ = some (.int .i64 ((rd_T40 l0_1 x3_1).f1)) := (blk_cell BK371.out 3).trans rfl
       have hcz63_4 : wc.cell? ⟨gb371, 4, none⟩ = some (.string ((rd_T40 l0_1 x3_1).f2)) := (blk_cell BK371.out 4).trans rfl
       have hcz63_5 : wc.cell? ⟨gb371, 5, none⟩ = some (.int .i64 ((rd_T40 l0_1 x3_1).f3)) := (blk_cell BK371.out 5).trans rfl
       have hcz63_6 : wc.cell? ⟨gb371, 6, none⟩ = some (.int .i64 ((rd_T40 l0_1 x3_1).f4)) := (blk_cell BK371.out 6).trans rfl
       have hcz63_7 : wc.cell? ⟨gb371, 7, none⟩ = some (.string ((rd_T40 l0_1 x3_1).f5)) := (blk_cell BK371.out 7).trans rfl
       have hcz63_8 : wc.cell? ⟨gb371, 8, none⟩ = some (.int .i64 ((rd_T40 l0_1 x3_1).f6)) := (blk_cell BK371.out 8).trans rfl
       have hcz63_9 : wc.cell? ⟨gb371, 9, none⟩ = some (.int .i64 ((rd_T40 l0_1 x3_1).f7.f0)) := (blk_cell BK371.out 9).trans rfl
       have hcz63_10 : wc.cell? ⟨gb371, 10, none⟩ = some (.int .i64 ((rd_T40 l0_1 x3_1).f7.f1)) := (blk_cell BK371.out 10).trans rfl
       have hcz63_11 : wc.cell? ⟨gb371, 11, none⟩ = some (.int .i64 ((rd_T40 l0_1 x3_1).f7.f2)) := (blk_cell BK371.out 11).trans rfl
       have hcz63_12 : wc.cell? ⟨gb371, 12, none⟩ = some (.slice A370_12 ((rd_T40 l0_1 x3_1).f8).length c370_12) := (blk_cell BK371.out 12).trans rfl
       have hcz63_13 : wc.cell? ⟨gb371, 13, none⟩ = some (.slice A370_13 ((rd_T40 l0_1 x3_1).f9).length c370_13) := (blk_cell BK371.out 13).trans rfl
       have hfz63_0 := blk_frozen BK371.out 0
       have hfz63_1 := blk_frozen BK371.out 1
       have hfz63_2 := blk_frozen BK371.out 2
       have hfz63_3 := blk_frozen BK371.out 3
       have hfz63_4 := blk_frozen BK371.out 4
       have hfz63_5 := blk_frozen BK371.out 5
       have hfz63_6 := blk_frozen BK371.out 6
       have hfz63_7 := blk_frozen BK371.out 7
       have hfz63_8 := blk_frozen BK371.out 8
       have hfz63_9 := blk_frozen BK371.out 9
       have hfz63_10 := blk_frozen BK371.out 10
       have hfz63_11 := blk_frozen BK371.out 11
       have hfz63_12 := blk_frozen BK371.out 12
       have hfz63_13 := blk_frozen BK371.out 13
       obtain ⟨hcz64_0, hcz64_1⟩ := cz2_ BK368.out
       obtain ⟨hfz64_0, hfz64_1⟩ := fz2_ BK368.out
       go_wp2_with (first | (go_at_call 30; (with_reducible refine (computusref26_In.calls ((rd_T40 l0_1 x3_1).f7.f1) false _ A56.out).mono ?_); rintro e w' ⟨rfl, ⟨nd, rfl⟩⟩))
       go_meet
       case rel => exact ⟨_, (true), rs_, H', ⟨by have := HK1.out; have := HJ7.out; first | omega | exact Nat.le_refl _⟩, ⟨bk_ BK368.out⟩, ⟨bk_ BK371.out⟩, ⟨bh_⟩⟩
      subst c57
      replace H := it_ H
      obtain ⟨t377, A58, H⟩ := bs_ H
      have H' := am_ H
      clear H
      have hnb59 := NB371_368.out
      have hnc59 := NB368_371.out
      have hcz60_0 : wc.cell? ⟨gb371, 0, none⟩ = some (.int .i64 ((rd_T40 l0_1 x3_1).f0.f0)) := (blk_cell BK371.out 0).trans rfl
      have hcz60_1 : wc.cell? ⟨gb371, 1, none⟩ = some (.int .i64 ((rd_T40 l0_1 x3_1).f0.f1)) := (blk_cell BK371.out 1).trans rfl
      have hcz60_2 : wc.cell? ⟨gb371, 2, none⟩ = some (.int .i64 ((rd_T40 l0_1 x3_1).f0.f2)) := (blk_cell BK371.out 2).trans rfl
      have hcz60_3 : wc.cell? ⟨gb371, 3, none⟩ = some (.int .i64 ((rd_T40 l0_1 x3_1).f1)) := (blk_cell BK371.out 3).trans rfl
      have hcz60_4 : wc.cell? ⟨gb371, 4, none⟩ = some (.string ((rd_T40 l0_1 x3_1).f2)) := (blk_cell BK371.out 4).trans rfl
      have hcz60_5 : wc.cell? ⟨gb371, 5, none⟩ = some (.int .i64 ((rd_T40 l0_1 x3_1).f3)) := (blk_cell BK371.out 5).trans rfl
      have hcz60_6 : wc.cell? ⟨gb371, 6, none⟩ = some (.int .i64 ((rd_T40 l0_1 x3_1).f4)) := (blk_cell BK371.out 6).trans rfl
      have hcz60_7 : wc.cell? ⟨gb371, 7, none⟩ = some (.string ((rd_T40 l0_1 x3_1).f5)) := (blk_cell BK371.out 7).trans rfl
      have hcz60_8 : wc.cell? ⟨gb371, 8, none⟩ = some (.int .i64 ((rd_T40 l0_1 x3_1).f6)) := (blk_cell BK371.out 8).trans rfl
      have hcz60_9 : wc.cell? ⟨gb371, 9, none⟩ = some (.int .i64 ((rd_T40 l0_1 x3_1).f7.f0)) := (blk_cell BK371.out 9).trans rfl
      have hcz60_10 : wc.cell? ⟨gb371, 10, none⟩ = some (.int .i64 ((rd_T40 l0_1 x3_1).f7.f1)) := (blk_cell BK371.out 10).trans rfl
      have hcz60_11 : wc.cell? ⟨gb371, 11, none⟩ = some (.int .i64 ((rd_T40 l0_1 x3_1).f7.f2)) := (blk_cell BK371.out 11).trans rfl
      have hcz60_12 : wc.cell? ⟨gb371, 12, none⟩ = some (.slice A370_12 ((rd_T40 l0_1 x3_1).f8).length c370_12) := (blk_cell BK371.out 12).trans rfl
      have hcz60_13 : wc.cell? ⟨gb371, 13, none⟩ = some (.slice A370_13 ((rd_T40 l0_1 x3_1).f9).length c370_13) := (blk_cell BK371.out 13).trans rfl
      have hfz60_0 := blk_frozen BK371.out 0
      have hfz60_1 := blk_frozen BK371.out 1
      have hfz60_2 := blk_frozen BK371.out 2
      have hfz60_3 := blk_frozen BK371.out 3
      have hfz60_4 := blk_frozen BK371.out 4
      have hfz60_5 := blk_frozen BK371.out 5
      have hfz60_6 := blk_frozen BK371.out 6
      have hfz60_7 := blk_frozen BK371.out 7
      have hfz60_8 := blk_frozen BK371.out 8
      have hfz60_9 := blk_frozen BK371.out 9
      have hfz60_10 := blk_frozen BK371.out 10
      have hfz60_11 := blk_frozen BK371.out 11
      have hfz60_12 := blk_frozen BK371.out 12
      have hfz60_13 := blk_frozen BK371.out 13
      obtain ⟨hcz61_0, hcz61_1⟩ := cz2_ BK368.out
      obtain ⟨hfz61_0, hfz61_1⟩ := fz2_ BK368.out
      go_wp2_with (first | (go_at_call 30; (with_reducible refine (computusref26_In.calls ((rd_T40 l0_1 x3_1).f7.f1) true _ A56.out).mono ?_); rintro e w' ⟨rfl, ⟨nd, rfl⟩⟩) | (go_at_call 30; (with_reducible refine (computusref26_In.calls ((rd_T40 l0_1 x3_1).f7.f2) t377 _ A58.out).mono ?_); rintro e w' ⟨rfl, ⟨nd, rfl⟩⟩))
      go_meet
      case rel => exact ⟨_, (!t377), rs_, H', ⟨by have := HK1.out; have := HJ7.out; first | omega | exact Nat.le_refl _⟩, ⟨bk_ BK368.out⟩, ⟨bk_ BK371.out⟩, ⟨bh_⟩⟩
     case rest =>
      clear HC53
      obtain ⟨kq, x108_52, rfl, HA, HJ52, BK368, BK371, HB⟩ := hcut
      cases kq with
      | zero => exact absurd HA.out (by simp [computusref27_Printable.j2])
      | succ kj52 =>
       have H := HA.out
       clear HA
       simp only [computusref27_Printable.j2] at H
       by_cases c73 : x108_52 = true
       ·subst c73
        replace H := it_ H
        obtain rfl := Option.some.inj H
        go_wp2
        go_ret
        exact rt_
       replace c73 := Bool.eq_false_iff.mpr c73
       subst c73
       replace H := if_ H
       obtain ⟨t378, A74, H⟩ := bs_ H
       by_cases c75 : t378 = true
       rotate_left
       ·replace c75 := Bool.eq_false_iff.mpr c75
        subst c75
        replace H := if_ H
        obtain rfl := Option.some.inj H
        have hnb90 := NB371_368.out
        have hnc90 := NB368_371.out
        have hcz91_0 : wc.cell? ⟨gb371, 0, none⟩ = some (.int .i64 ((rd_T40 l0_1 x3_1).f0.f0)) := (blk_cell BK371.out 0).trans rfl
        have hcz91_1 : wc.cell? ⟨gb371, 1, none⟩ = some (.int .i64 ((rd_T40 l0_1 x3_1).f0.f1)) := (blk_cell BK371.out 1).trans rfl
        have hcz91_2 : wc.cell? ⟨gb371, 2, none⟩ = some (.int .i64 ((rd_T40 l0_1 x3_1).f0.f2)) := (blk_cell BK371.out 2).trans rfl
        have hcz91_3 : wc.cell? ⟨gb371, 3, none⟩ = some (.int .i64 ((rd_T40 l0_1 x3_1).f1)) := (blk_cell BK371.out 3).trans rfl
        have hcz91_4 : wc.cell? ⟨gb371, 4, none⟩ = some (.string ((rd_T40 l0_1 x3_1).f2)) := (blk_cell BK371.out 4).trans rfl
        have hcz91_5 : wc.cell? ⟨gb371, 5, none⟩ = some (.int .i64 ((rd_T40 l0_1 x3_1).f3)) := (blk_cell BK371.out 5).trans rfl
        have hcz91_6 : wc.cell? ⟨gb371, 6, none⟩ = some (.int .i64 ((rd_T40 l0_1 x3_1).f4)) := (blk_cell BK371.out 6).trans rfl
        have hcz91_7 : wc.cell? ⟨gb371, 7, none⟩ = some (.string ((rd_T40 l0_1 x3_1).f5)) := (blk_cell BK371.out 7).trans rfl
        have hcz91_8 : wc.cell? ⟨gb371, 8, none⟩ = some (.int .i64 ((rd_T40 l0_1 x3_1).f6)) := (blk_cell BK371.out 8).trans rfl
        have hcz91_9 : wc.cell? ⟨gb371, 9, none⟩ = some (.int .i64 ((rd_T40 l0_1 x3_1).f7.f0)) := (blk_cell BK371.out 9).trans rfl
        have hcz91_10 : wc.cell? ⟨gb371, 10, none⟩ = some (.int .i64 ((rd_T40 l0_1 x3_1).f7.f1)) := (blk_cell BK371.out 10).trans rfl
        have hcz91_11 : wc.cell? ⟨gb371, 11, none⟩ = some (.int .i64 ((rd_T40 l0_1 x3_1).f7.f2)) := (blk_cell BK371.out 11).trans rfl
        have hcz91_12 : wc.cell? ⟨gb371, 12, none⟩ = some (.slice A370_12 ((rd_T40 l0_1 x3_1).f8).length c370_12) := (blk_cell BK371.out 12).trans rfl
        have hcz91_13 : wc.cell? ⟨gb371, 13, none⟩ = some (.slice A370_13 ((rd_T40 l0_1 x3_1).f9).length c370_13) := (blk_cell BK371.out 13).trans rfl
        have hfz91_0 := blk_frozen BK371.out 0
        have hfz91_1 := blk_frozen BK371.out 1
        have hfz91_2 := blk_frozen BK371.out 2
        have hfz91_3 := blk_frozen BK371.out 3
        have hfz91_4 := blk_frozen BK371.out 4
        have hfz91_5 := blk_frozen BK371.out 5
        have hfz91_6 := blk_frozen BK371.out 6
        have hfz91_7 := blk_frozen BK371.out 7
        have hfz91_8 := blk_frozen BK371.out 8
        have hfz91_9 := blk_frozen BK371.out 9
        have hfz91_10 := blk_frozen BK371.out 10
        have hfz91_11 := blk_frozen BK371.out 11
        have hfz91_12 := blk_frozen BK371.out 12
        have hfz91_13 := blk_frozen BK371.out 13
        go_wp2_with (first | ((with_reducible refine gate_callee (f := 31) rfl ?_); refine goesL_ (some 111) rfl rfl Tryd.func31 (by kernel_rfl) rfl #[.string ((rd_T40 l0_1 x3_1).f2)] rfl (by (try simp only [List.map_toArray, List.map_cons, List.map_nil]); first | done | rfl | (simp only [List.length_drop, List.length_take]; rfl)) ?_; (with_reducible refine (computusref17_Identifier.calls kj52 ((rd_T40 l0_1 x3_1).f2) false _ A74.out).mono ?_); rintro e w' ⟨rfl, ⟨nd, rfl⟩⟩; refine ⟨_, rfl, ?_⟩))
        go_ret
        exact rt_
       subst c75
       replace H := it_ H
       obtain ⟨t379, A76, H⟩ := bs_ H
       by_cases c77 : t379 = true
       rotate_left
       ·replace c77 := Bool.eq_false_iff.mpr c77
        subst c77
        replace H := if_ H
        obtain rfl := Option.some.inj H
        have hnb88 := NB371_368.out
        have hnc88 := NB368_371.out
        have hcz89_0 : wc.cell? ⟨gb371, 0, none⟩ = some (.int .i64 ((rd_T40 l0_1 x3_1).f0.f0)) := (blk_cell BK371.out 0).trans rfl
        have hcz89_1 : wc.cell? ⟨gb371, 1, none⟩ = some (.int .i64 ((rd_T40 l0_1 x3_1).f0.f1)) := (blk_cell BK371.out 1).trans rfl
        have hcz89_2 : wc.cell? ⟨gb371, 2, none⟩ = some (.int .i64 ((rd_T40 l0_1 x3_1).f0.f2)) := (blk_cell BK371.out 2).trans rfl
        have hcz89_3 : wc.cell? ⟨gb371, 3, none⟩ = some (.int .i64 ((rd_T40 l0_1 x3_1).f1)) := (blk_cell BK371.out 3).trans rfl
        have hcz89_4 : wc.cell? ⟨gb371, 4, none⟩ = some (.string ((rd_T40 l0_1 x3_1).f2)) := (blk_cell BK371.out 4).trans rfl
        have hcz89_5 : wc.cell? ⟨gb371, 5, none⟩ = some (.int .i64 ((rd_T40 l0_1 x3_1).f3)) := (blk_cell BK371.out 5).trans rfl
        have hcz89_6 : wc.cell? ⟨gb371, 6, none⟩ = some (.int .i64 ((rd_T40 l0_1 x3_1).f4)) := (blk_cell BK371.out 6).trans rfl
        have hcz89_7 : wc.cell? ⟨gb371, 7, none⟩ = some (.string ((rd_T40 l0_1 x3_1).f5)) := (blk_cell BK371.out 7).trans rfl
        have hcz89_8 : wc.cell? ⟨gb371, 8, none⟩ = some (.int .i64 ((rd_T40 l0_1 x3_1).f6)) := (blk_cell BK371.out 8).trans rfl
        have hcz89_9 : wc.cell? ⟨gb371, 9, none⟩ = some (.int .i64 ((rd_T40 l0_1 x3_1).f7.f0)) := (blk_cell BK371.out 9).trans rfl
        have hcz89_10 : wc.cell? ⟨gb371, 10, none⟩ = some (.int .i64 ((rd_T40 l0_1 x3_1).f7.f1)) := (blk_cell BK371.out 10).trans rfl
        have hcz89_11 : wc.cell? ⟨gb371, 11, none⟩ = some (.int .i64 ((rd_T40 l0_1 x3_1).f7.f2)) := (blk_cell BK371.out 11).trans rfl
        have hcz89_12 : wc.cell? ⟨gb371, 12, none⟩ = some (.slice A370_12 ((rd_T40 l0_1 x3_1).f8).length c370_12) := (blk_cell BK371.out 12).trans rfl
        have hcz89_13 : wc.cell? ⟨gb371, 13, none⟩ = some (.slice A370_13 ((rd_T40 l0_1 x3_1).f9).length c370_13) := (blk_cell BK371.out 13).trans rfl
        have hfz89_0 := blk_frozen BK371.out 0
        have hfz89_1 := blk_frozen BK371.out 1
        have hfz89_2 := blk_frozen BK371.out 2
        have hfz89_3 := blk_frozen BK371.out 3
        have hfz89_4 := blk_frozen BK371.out 4
        have hfz89_5 := blk_frozen BK371.out 5
        have hfz89_6 := blk_frozen BK371.out 6
        have hfz89_7 := blk_frozen BK371.out 7
        have hfz89_8 := blk_frozen BK371.out 8
        have hfz89_9 := blk_frozen BK371.out 9
        have hfz89_10 := blk_frozen BK371.out 10
        have hfz89_11 := blk_frozen BK371.out 11
        have hfz89_12 := blk_frozen BK371.out 12
        have hfz89_13 := blk_frozen BK371.out 13
        go_wp2_with (first | ((with_reducible refine gate_callee (f := 31) rfl ?_); refine goesL_ (some 111) rfl rfl Tryd.func31 (by kernel_rfl) rfl #[.string ((rd_T40 l0_1 x3_1).f2)] rfl (by (try simp only [List.map_toArray, List.map_cons, List.map_nil]); first | done | rfl | (simp only [List.length_drop, List.length_take]; rfl)) ?_; (with_reducible refine (computusref17_Identifier.calls kj52 ((rd_T40 l0_1 x3_1).f2) true _ A74.out).mono ?_); rintro e w' ⟨rfl, ⟨nd, rfl⟩⟩; refine ⟨_, rfl, ?_⟩) | (go_at_call 31; (with_reducible refine (computusref17_Identifier.calls kj52 ((rd_T40 l0_1 x3_1).f5) false _ A76.out).mono ?_); rintro e w' ⟨rfl, ⟨nd, rfl⟩⟩))
        go_ret
        exact rt_
       subst c77
       replace H := it_ H
       obtain ⟨t380, A78, H⟩ := bs_ H
       by_cases c79 : t380 = true
       rotate_left
       ·replace c79 := Bool.eq_false_iff.mpr c79
        subst c79
        replace H := if_ H
        obtain rfl := Option.some.inj H
        have hnb86 := NB371_368.out
        have hnc86 := NB368_371.out
        have hcz87_0 : wc.cell? ⟨gb371, 0, none⟩ = some (.int .i64 ((rd_T40 l0_1 x3_1).f0.f0)) := (blk_cell BK371.out 0).trans rfl
        have hcz87_1 : wc.cell? ⟨gb371, 1, none⟩ = some (.int .i64 ((rd_T40 l0_1 x3_1).f0.f1)) := (blk_cell BK371.out 1).trans rfl
        have hcz87_2 : wc.cell? ⟨gb371, 2, none⟩ = some (.int .i64 ((rd_T40 l0_1 x3_1).f0.f2)) := (blk_cell BK371.out 2).trans rfl
        have hcz87_3 : wc.cell? ⟨gb371, 3, none⟩ = some (.int .i64 ((rd_T40 l0_1 x3_1).f1)) := (blk_cell BK371.out 3).trans rfl
        have hcz87_4 : wc.cell? ⟨gb371, 4, none⟩ = some (.string ((rd_T40 l0_1 x3_1).f2)) := (blk_cell BK371.out 4).trans rfl
        have hcz87_5 : wc.cell? ⟨gb371, 5, none⟩ = some (.int .i64 ((rd_T40 l0_1 x3_1).f3)) := (blk_cell BK371.out 5).trans rfl
        have hcz87_6 : wc.cell? ⟨gb371, 6, none⟩ = some (.int .i64 ((rd_T40 l0_1 x3_1).f4)) := (blk_cell BK371.out 6).trans rfl
        have hcz87_7 : wc.cell? ⟨gb371, 7, none⟩ = some (.string ((rd_T40 l0_1 x3_1).f5)) := (blk_cell BK371.out 7).trans rfl
        have hcz87_8 : wc.cell? ⟨gb371, 8, none⟩ = some (.int .i64 ((rd_T40 l0_1 x3_1).f6)) := (blk_cell BK371.out 8).trans rfl
        have hcz87_9 : wc.cell? ⟨gb371, 9, none⟩ = some (.int .i64 ((rd_T40 l0_1 x3_1).f7.f0)) := (blk_cell BK371.out 9).trans rfl
        have hcz87_10 : wc.cell? ⟨gb371, 10, none⟩ = some (.int .i64 ((rd_T40 l0_1 x3_1).f7.f1)) := (blk_cell BK371.out 10).trans rfl
        have hcz87_11 : wc.cell? ⟨gb371, 11, none⟩ = some (.int .i64 ((rd_T40 l0_1 x3_1).f7.f2)) := (blk_cell BK371.out 11).trans rfl
        have hcz87_12 : wc.cell? ⟨gb371, 12, none⟩ = some (.slice A370_12 ((rd_T40 l0_1 x3_1).f8).length c370_12) := (blk_cell BK371.out 12).trans rfl
        have hcz87_13 : wc.cell? ⟨gb371, 13, none⟩ = some (.slice A370_13 ((rd_T40 l0_1 x3_1).f9).length c370_13) := (blk_cell BK371.out 13).trans rfl
        have hfz87_0 := blk_frozen BK371.out 0
        have hfz87_1 := blk_frozen BK371.out 1
        have hfz87_2 := blk_frozen BK371.out 2
        have hfz87_3 := blk_frozen BK371.out 3
        have hfz87_4 := blk_frozen BK371.out 4
        have hfz87_5 := blk_frozen BK371.out 5
        have hfz87_6 := blk_frozen BK371.out 6
        have hfz87_7 := blk_frozen BK371.out 7
        have hfz87_8 := blk_frozen BK371.out 8
        have hfz87_9 := blk_frozen BK371.out 9
        have hfz87_10 := blk_frozen BK371.out 10
        have hfz87_11 := blk_frozen BK371.out 11
        have hfz87_12 := blk_frozen BK371.out 12
        have hfz87_13 := blk_frozen BK371.out 13
        go_wp2_with (first | ((with_reducible refine gate_callee (f := 31) rfl ?_); refine goesL_ (some 111) rfl rfl Tryd.func31 (by kernel_rfl) rfl #[.string ((rd_T40 l0_1 x3_1).f2)] rfl (by (try simp only [List.map_toArray, List.map_cons, List.map_nil]); first | done | rfl | (simp only [List.length_drop, List.length_take]; rfl)) ?_; (with_reducible refine (computusref17_Identifier.calls kj52 ((rd_T40 l0_1 x3_1).f2) true _ A74.out).mono ?_); rintro e w' ⟨rfl, ⟨nd, rfl⟩⟩; refine ⟨_, rfl, ?_⟩) | (go_at_call 31; (with_reducible refine (computusref17_Identifier.calls kj52 ((rd_T40 l0_1 x3_1).f5) true _ A76.out).mono ?_); rintro e w' ⟨rfl, ⟨nd, rfl⟩⟩) | (go_at_call 32; (with_reducible refine (computusref27_identifiers.calls kj52 _ _ ((rd_T40 l0_1 x3_1).f8) false _ ?side1 ?side2 A78.out).mono ?_); (case side1 => exact ck_ (Kd.C_below HR370_12.out bh_)); (case side2 => exact HC370_12.out); rintro e w' ⟨rfl, ⟨nd, rfl⟩⟩))
        go_ret
        exact rt_
       subst c79
       replace H := it_ H
       obtain ⟨t381, A80, H⟩ := bs_ H
       by_cases c81 : t381 = true
       rotate_left
       ·replace c81 := Bool.eq_false_iff.mpr c81
        subst c81
        replace H := if_ H
        obtain rfl := Option.some.inj H
        have hnb84 := NB371_368.out
        have hnc84 := NB368_371.out
        have hcz85_0 : wc.cell? ⟨gb371, 0, none⟩ = some (.int .i64 ((rd_T40 l0_1 x3_1).f0.f0)) := (blk_cell BK371.out 0).trans rfl
        have hcz85_1 : wc.cell? ⟨gb371, 1, none⟩ = some (.int .i64 ((rd_T40 l0_1 x3_1).f0.f1)) := (blk_cell BK371.out 1).trans rfl
        have hcz85_2 : wc.cell? ⟨gb371, 2, none⟩ = some (.int .i64 ((rd_T40 l0_1 x3_1).f0.f2)) := (blk_cell BK371.out 2).trans rfl
        have hcz85_3 : wc.cell? ⟨gb371, 3, none⟩ = some (.int .i64 ((rd_T40 l0_1 x3_1).f1)) := (blk_cell BK371.out 3).trans rfl
        have hcz85_4 : wc.cell? ⟨gb371, 4, none⟩ = some (.string ((rd_T40 l0_1 x3_1).f2)) := (blk_cell BK371.out 4).trans rfl
        have hcz85_5 : wc.cell? ⟨gb371, 5, none⟩ = some (.int .i64 ((rd_T40 l0_1 x3_1).f3)) := (blk_cell BK371.out 5).trans rfl
        have hcz85_6 : wc.cell? ⟨gb371, 6, none⟩ = some (.int .i64 ((rd_T40 l0_1 x3_1).f4)) := (blk_cell BK371.out 6).trans rfl
        have hcz85_7 : wc.cell? ⟨gb371, 7, none⟩ = some (.string ((rd_T40 l0_1 x3_1).f5)) := (blk_cell BK371.out 7).trans rfl
        have hcz85_8 : wc.cell? ⟨gb371, 8, none⟩ = some (.int .i64 ((rd_T40 l0_1 x3_1).f6)) := (blk_cell BK371.out 8).trans rfl
        have hcz85_9 : wc.cell? ⟨gb371, 9, none⟩ = some (.int .i64 ((rd_T40 l0_1 x3_1).f7.f0)) := (blk_cell BK371.out 9).trans rfl
        have hcz85_10 : wc.cell? ⟨gb371, 10, none⟩ = some (.int .i64 ((rd_T40 l0_1 x3_1).f7.f1)) := (blk_cell BK371.out 10).trans rfl
        have hcz85_11 : wc.cell? ⟨gb371, 11, none⟩ = some (.int .i64 ((rd_T40 l0_1 x3_1).f7.f2)) := (blk_cell BK371.out 11).trans rfl
        have hcz85_12 : wc.cell? ⟨gb371, 12, none⟩ = some (.slice A370_12 ((rd_T40 l0_1 x3_1).f8).length c370_12) := (blk_cell BK371.out 12).trans rfl
        have hcz85_13 : wc.cell? ⟨gb371, 13, none⟩ = some (.slice A370_13 ((rd_T40 l0_1 x3_1).f9).length c370_13) := (blk_cell BK371.out 13).trans rfl
        have hfz85_0 := blk_frozen BK371.out 0
        have hfz85_1 := blk_frozen BK371.out 1
        have hfz85_2 := blk_frozen BK371.out 2
        have hfz85_3 := blk_frozen BK371.out 3
        have hfz85_4 := blk_frozen BK371.out 4
        have hfz85_5 := blk_frozen BK371.out 5
        have hfz85_6 := blk_frozen BK371.out 6
        have hfz85_7 := blk_frozen BK371.out 7
        have hfz85_8 := blk_frozen BK371.out 8
        have hfz85_9 := blk_frozen BK371.out 9
        have hfz85_10 := blk_frozen BK371.out 10
        have hfz85_11 := blk_frozen BK371.out 11
        have hfz85_12 := blk_frozen BK371.out 12
        have hfz85_13 := blk_frozen BK371.out 13
        go_wp2_with (first | ((with_reducible refine gate_callee (f := 31) rfl ?_); refine goesL_ (some 111) rfl rfl Tryd.func31 (by kernel_rfl) rfl #[.string ((rd_T40 l0_1 x3_1).f2)] rfl (by (try simp only [List.map_toArray, List.map_cons, List.map_nil]); first | done | rfl | (simp only [List.length_drop, List.length_take]; rfl)) ?_; (with_reducible refine (computusref17_Identifier.calls kj52 ((rd_T40 l0_1 x3_1).f2) true _ A74.out).mono ?_); rintro e w' ⟨rfl, ⟨nd, rfl⟩⟩; refine ⟨_, rfl, ?_⟩) | (go_at_call 31; (with_reducible refine (computusref17_Identifier.calls kj52 ((rd_T40 l0_1 x3_1).f5) true _ A76.out).mono ?_); rintro e w' ⟨rfl, ⟨nd, rfl⟩⟩) | (go_at_call 32; (with_reducible refine (computusref27_identifiers.calls kj52 _ _ ((rd_T40 l0_1 x3_1).f8) true _ ?side1 ?side2 A78.out).mono ?_); (case side1 => exact ck_ (Kd.C_below HR370_12.out bh_)); (case side2 => exact HC370_12.out); rintro e w' ⟨rfl, ⟨nd, rfl⟩⟩) | (go_at_call 32; (with_reducible refine (computusref27_identifiers.calls kj52 _ _ ((rd_T40 l0_1 x3_1).f9) false _ ?side1 ?side2 A80.out).mono ?_); (case side1 => exact ck_ (Kd.C_below HR370_13.out bh_)); (case side2 => exact HC370_13.out); rintro e w' ⟨rfl, ⟨nd, rfl⟩⟩))
        go_ret
        exact rt_
       subst c81
       replace H := it_ H
       have H' := am_ H
       clear H
       have hnb82 := NB371_368.out
       have hnc82 := NB368_371.out
       have hcz83_0 : wc.cell? ⟨gb371, 0, none⟩ = some (.int .i64 ((rd_T40 l0_1 x3_1).f0.f0)) := (blk_cell BK371.out 0).trans rfl
       have hcz83_1 : wc.cell? ⟨gb371, 1, none⟩ = some (.int .i64 ((rd_T40 l0_1 x3_1).f0.f1)) := (blk_cell BK371.out 1).trans rfl
       have hcz83_2 : wc.cell? ⟨gb371, 2, none⟩ = some (.int .i64 ((rd_T40 l0_1 x3_1).f0.f2)) := (blk_cell BK371.out 2).trans rfl
       have hcz83_3 : wc.cell? ⟨gb371, 3, none⟩ = some (.int .i64 ((rd_T40 l0_1 x3_1).f1)) := (blk_cell BK371.out 3).trans rfl
       have hcz83_4 : wc.cell? ⟨gb371, 4, none⟩ = some (.string ((rd_T40 l0_1 x3_1).f2)) := (blk_cell BK371.out 4).trans rfl
       have hcz83_5 : wc.cell? ⟨gb371, 5, none⟩ = some (.int .i64 ((rd_T40 l0_1 x3_1).f3)) := (blk_cell BK371.out 5).trans rfl
       have hcz83_6 : wc.cell? ⟨gb371, 6, none⟩ = some (.int .i64 ((rd_T40 l0_1 x3_1).f4)) := (blk_cell BK371.out 6).trans rfl
       have hcz83_7 : wc.cell? ⟨gb371, 7, none⟩ = some (.string ((rd_T40 l0_1 x3_1).f5)) := (blk_cell BK371.out 7).trans rfl
       have hcz83_8 : wc.cell? ⟨gb371, 8, none⟩ = some (.int .i64 ((rd_T40 l0_1 x3_1).f6)) := (blk_cell BK371.out 8).trans rfl
       have hcz83_9 : wc.cell? ⟨gb371, 9, none⟩ = some (.int .i64 ((rd_T40 l0_1 x3_1).f7.f0)) := (blk_cell BK371.out 9).trans rfl
       have hcz83_10 : wc.cell? ⟨gb371, 10, none⟩ = some (.int .i64 ((rd_T40 l0_1 x3_1).f7.f1)) := (blk_cell BK371.out 10).trans rfl
       have hcz83_11 : wc.cell? ⟨gb371, 11, none⟩ = some (.int .i64 ((rd_T40 l0_1 x3_1).f7.f2)) := (blk_cell BK371.out 11).trans rfl
       have hcz83_12 : wc.cell? ⟨gb371, 12, none⟩ = some (.slice A370_12 ((rd_T40 l0_1 x3_1).f8).length c370_12) := (blk_cell BK371.out 12).trans rfl
       have hcz83_13 : wc.cell? ⟨gb371, 13, none⟩ = some (.slice A370_13 ((rd_T40 l0_1 x3_1).f9).length c370_13) := (blk_cell BK371.out 13).trans rfl
       have hfz83_0 := blk_frozen BK371.out 0
       have hfz83_1 := blk_frozen BK371.out 1
       have hfz83_2 := blk_frozen BK371.out 2
       have hfz83_3 := blk_frozen BK371.out 3
       have hfz83_4 := blk_frozen BK371.out 4
       have hfz83_5 := blk_frozen BK371.out 5
       have hfz83_6 := blk_frozen BK371.out 6
       have hfz83_7 := blk_frozen BK371.out 7
       have hfz83_8 := blk_frozen BK371.out 8
       have hfz83_9 := blk_frozen BK371.out 9
       have hfz83_10 := blk_frozen BK371.out 10
       have hfz83_11 := blk_frozen BK371.out 11
       have hfz83_12 := blk_frozen BK371.out 12
       have hfz83_13 := blk_frozen BK371.out 13
       go_wp2_with (first | ((with_reducible refine gate_callee (f := 31) rfl ?_); refine goesL_ (some 111) rfl rfl Tryd.func31 (by kernel_rfl) rfl #[.string ((rd_T40 l0_1 x3_1).f2)] rfl (by (try simp only [List.map_toArray, List.map_cons, List.map_nil]); first | done | rfl | (simp only [List.length_drop, List.length_take]; rfl)) ?_; (with_reducible refine (computusref17_Identifier.calls kj52 ((rd_T40 l0_1 x3_1).f2) true _ A74.out).mono ?_); rintro e w' ⟨rfl, ⟨nd, rfl⟩⟩; refine ⟨_, rfl, ?_⟩) | (go_at_call 31; (with_reducible refine (computusref17_Identifier.calls kj52 ((rd_T40 l0_1 x3_1).f5) true _ A76.out).mono ?_); rintro e w' ⟨rfl, ⟨nd, rfl⟩⟩) | (go_at_call 32; (with_reducible refine (computusref27_identifiers.calls kj52 _ _ ((rd_T40 l0_1 x3_1).f8) true _ ?side1 ?side2 A78.out).mono ?_); (case side1 => exact ck_ (Kd.C_below HR370_12.out bh_)); (case side2 => exact HC370_12.out); rintro e w' ⟨rfl, ⟨nd, rfl⟩⟩) | (go_at_call 32; (with_reducible refine (computusref27_identifiers.calls kj52 _ _ ((rd_T40 l0_1 x3_1).f9) true _ ?side1 ?side2 A80.out).mono ?_); (case side1 => exact ck_ (Kd.C_below HR370_13.out bh_)); (case side2 => exact HC370_13.out); rintro e w' ⟨rfl, ⟨nd, rfl⟩⟩))
       go_roundg kj52
       case measure => have := HK1.out; have := HJ7.out; have := HJ52.out; omega
       case rel => exact ⟨(wrap64 (x3_1 + 1)), rs_, H', ⟨by have := HK1.out; have := HJ7.out; have := HJ52.out; omega⟩, ⟨bk_ BK368.out⟩, ⟨bh_⟩⟩
end
def computusref04_Name.f (a0 : Int) : Option (ByteArray) := if a0 = 0 then (some (⟨#[115, 117, 110, 100, 97, 121]⟩ : ByteArray)) else (if a0 = 1 then (some (⟨#[109, 111, 110, 100, 97, 121]⟩ : ByteArray)) else (if a0 = 2 then (some (⟨#[116, 117, 101, 115, 100, 97, 121]⟩ : ByteArray)) else (if a0 = 3 then (some (⟨#[119, 101, 100, 110, 101, 115, 100, 97, 121]⟩ : ByteArray)) else (if a0 = 4 then (some (⟨#[116, 104, 117, 114, 115, 100, 97, 121]⟩ : ByteArray)) else (if a0 = 5 then (some (⟨#[102, 114, 105, 100, 97, 121]⟩ : ByteArray)) else (if a0 = 6 then (some (⟨#[115, 97, 116, 117, 114, 100, 97, 121]⟩ : ByteArray)) else (some (⟨#[]⟩ : ByteArray))))))))
theorem computusref04_Name.calls (a0 : Int) (r : ByteArray) (w : World) (h : computusref04_Name.f a0 = some r) :
  Calls Tryd.prog 40 #[.int .i64 a0] w fun e w' => e = .returned (.string r) ∧ Drawn0 w w' := by
 have H := h
 clear h
 unfold computusref04_Name.f at H
 by_cases c2 : a0 = 0
 ·rw [if_pos c2] at H
  have c2b0 : (a0 == 0) = true := beq_iff_eq.mpr c2
  have c2b1 : (a0 != 0) = false := bne_eq_false_iff_eq.mpr c2
  clear c2
  obtain rfl := Option.some.inj H
  go_enter Tryd.func40, Tryd.ntmps40
  go_wp2
  go_ret
  exact ⟨by first | rfl | (simp; done) | (simp [*]; done), by repeat (first | exact Drawn0.refl _ | apply Drawn0.step)⟩
 rw [if_neg c2] at H
 have c2b0 : (a0 == 0) = false := beq_eq_false_iff_ne.mpr c2
 have c2b1 : (a0 != 0) = true := bne_iff_ne.mpr c2
 by_cases c3 : a0 = 1
 ·rw [if_pos c3] at H
  have c3b0 : (a0 == 1) = true := beq_iff_eq.mpr c3
  have c3b1 : (a0 != 1) = false := bne_eq_false_iff_eq.mpr c3
  clear c3
  obtain rfl := Option.some.inj H
  go_enter Tryd.func40, Tryd.ntmps40
  go_wp2
  go_ret
  exact ⟨by first | rfl | (simp; done) | (simp [*]; done), by repeat (first | exact Drawn0.refl _ | apply Drawn0.step)⟩
 rw [if_neg c3] at H
 have c3b0 : (a0 == 1) = false := beq_eq_false_iff_ne.mpr c3
 have c3b1 : (a0 != 1) = true := bne_iff_ne.mpr c3
 by_cases c4 : a0 = 2
 ·rw [if_pos c4] at H
  have c4b0 : (a0 == 2) = true := beq_iff_eq.mpr c4
  have c4b1 : (a0 != 2) = false := bne_eq_false_iff_eq.mpr c4
  clear c4
  obtain rfl := Option.some.inj H
  go_enter Tryd.func40, Tryd.ntmps40
  go_wp2
  go_ret
  exact ⟨by first | rfl | (simp; done) | (simp [*]; done), by repeat (first | exact Drawn0.refl _ | apply Drawn0.step)⟩
 rw [if_neg c4] at H
 have c4b0 : (a0 == 2) = false := beq_eq_false_iff_ne.mpr c4
 have c4b1 : (a0 != 2) = true := bne_iff_ne.mpr c4
 by_cases c5 : a0 = 3
 ·rw [if_pos c5] at H
  have c5b0 : (a0 == 3) = true := beq_iff_eq.mpr c5
  have c5b1 : (a0 != 3) = false := bne_eq_false_iff_eq.mpr c5
  clear c5
  obtain rfl := Option.some.inj H
  go_enter Tryd.func40, Tryd.ntmps40
  go_wp2
  go_ret
  exact ⟨by first | rfl | (simp; done) | (simp [*]; done), by repeat (first | exact Drawn0.refl _ | apply Drawn0.step)⟩
 rw [if_neg c5] at H
 have c5b0 : (a0 == 3) = false := beq_eq_false_iff_ne.mpr c5
 have c5b1 : (a0 != 3) = true := bne_iff_ne.mpr c5
 by_cases c6 : a0 = 4
 ·rw [if_pos c6] at H
  have c6b0 : (a0 == 4) = true := beq_iff_eq.mpr c6
  have c6b1 : (a0 != 4) = false := bne_eq_false_iff_eq.mpr c6
  clear c6
  obtain rfl := Option.some.inj H
  go_enter Tryd.func40, Tryd.ntmps40
  go_wp2
  go_ret
  exact ⟨by first | rfl | (simp; done) | (simp [*]; done), by repeat (first | exact Drawn0.refl _ | apply Drawn0.step)⟩
 rw [if_neg c6] at H
 have c6b0 : (a0 == 4) = false := beq_eq_false_iff_ne.mpr c6
 have c6b1 : (a0 != 4) = true := bne_iff_ne.mpr c6
 by_cases c7 : a0 = 5
 ·rw [if_pos c7] at H
  have c7b0 : (a0 == 5) = true := beq_iff_eq.mpr c7
  have c7b1 : (a0 != 5) = false := bne_eq_false_iff_eq.mpr c7
  clear c7
  obtain rfl := Option.some.inj H
  go_enter Tryd.func40, Tryd.ntmps40
  go_wp2
  go_ret
  exact ⟨by first | rfl | (simp; done) | (simp [*]; done), by repeat (first | exact Drawn0.refl _ | apply Drawn0.step)⟩
 rw [if_neg c7] at H
 have c7b0 : (a0 == 5) = false := beq_eq_false_iff_ne.mpr c7
 have c7b1 : (a0 != 5) = true := bne_iff_ne.mpr c7
 by_cases c8 : a0 = 6
 rotate_left
 ·rw [if_neg c8] at H
  have c8b0 : (a0 == 6) = false := beq_eq_false_iff_ne.mpr c8
  have c8b1 : (a0 != 6) = true := bne_iff_ne.mpr c8
  obtain rfl := Option.some.inj H
  go_enter Tryd.func40, Tryd.ntmps40
  go_wp2
  go_ret
  exact ⟨by first | rfl | (simp; done) | (simp [*]; done), by repeat (first | exact Drawn0.refl _ | apply Drawn0.step)⟩
 rw [if_pos c8] at H
 have c8b0 : (a0 == 6) = true := beq_iff_eq.mpr c8
 have c8b1 : (a0 != 6) = false := bne_eq_false_iff_eq.mpr c8
 clear c8
 obtain rfl := Option.some.inj H
 go_enter Tryd.func40, Tryd.ntmps40
 go_wp2
 go_ret
 exact ⟨by first | rfl | (simp; done) | (simp [*]; done), by repeat (first | exact Drawn0.refl _ | apply Drawn0.step)⟩
def computusref26_digits.f : Nat → Int → Option (ByteArray)
 | 0, _ => none
 | k + 1, a0 => if 0 ≤ (Int.tmod a0 10) then (if (Int.tmod a0 10) ≤ (wrap64 ((Int.tmod a0 10) + 1)) then (if (wrap64 ((Int.tmod a0 10) + 1)) ≤ 10 then (if a0 < 10 then (some ((⟨#[48, 49, 50, 51, 52, 53, 54, 55, 56, 57]⟩ : ByteArray).extract ((Int.tmod a0 10) : Int).toNat ((wrap64 ((Int.tmod a0 10) + 1)) : Int).toNat)) else ((computusref26_digits.f k (wrap64 (Int.tdiv a0 10))).bind fun t382 => (if t382.size + ((⟨#[48, 49, 50, 51, 52, 53, 54, 55, 56, 57]⟩ : ByteArray).extract ((Int.tmod a0 10) : Int).toNat ((wrap64 ((Int.tmod a0 10) + 1)) : Int).toNat).size ≤ 9223372036854775807 then (some (t382 ++ ((⟨#[48, 49, 50, 51, 52, 53, 54, 55, 56, 57]⟩ : ByteArray).extract ((Int.tmod a0 10) : Int).toNat ((wrap64 ((Int.tmod a0 10) + 1)) : Int).toNat))) else (none)))) else (none)) else (none)) else (none)
theorem computusref26_digits.calls (k : Nat) : ∀ (a0 : Int) (r : ByteArray) (w : World) (h : computusref26_digits.f k a0 = some r),
  Calls Tryd.prog 74 #[.int .i64 a0] w fun e w' => e = .returned (.string r) ∧ Drawn0 w w' := by
 induction k using Nat.strongRecOn with
 | _ k ih =>
 intro a0 r w h
 cases k with
 | zero => exact absurd h (by simp [computusref26_digits.f])
 | succ k =>
 simp only [computusref26_digits.f] at h
 have H : (if 0 ≤ (Int.tmod a0 10) then (if (Int.tmod a0 10) ≤ (wrap64 ((Int.tmod a0 10) + 1)) then (if (wrap64 ((Int.tmod a0 10) + 1)) ≤ 10 then (if a0 < 10 then (some ((⟨#[48, 49, 50, 51, 52, 53, 54, 55, 56, 57]⟩ : ByteArray).extract ((Int.tmod a0 10) : Int).toNat ((wrap64 ((Int.tmod a0 10) + 1)) : Int).toNat)) else ((computusref26_digits.f k (wrap64 (Int.tdiv a0 10))).bind fun t382 => (if t382.size + ((⟨#[48, 49, 50, 51, 52, 53, 54, 55, 56, 57]⟩ : ByteArray).extract ((Int.tmod a0 10) : Int).toNat ((wrap64 ((Int.tmod a0 10) + 1)) : Int).toNat).size ≤ 9223372036854775807 then (some (t382 ++ ((⟨#[48, 49, 50, 51, 52, 53, 54, 55, 56, 57]⟩ : ByteArray).extract ((Int.tmod a0 10) : Int).toNat ((wrap64 ((Int.tmod a0 10) + 1)) : Int).toNat))) else (none)))) else (none)) else (none)) else (none)) = some r := h
 clear h
 obtain ⟨ji2, hji2⟩ : ∃ j_ : Int, (Int.tmod a0 10) = j_ := ⟨_, rfl⟩
 replace H : (if 0 ≤ (ji2) then (if (ji2) ≤ (wrap64 ((ji2) + 1)) then (if (wrap64 ((ji2) + 1)) ≤ 10 then (if a0 < 10 then (some ((⟨#[48, 49, 50, 51, 52, 53, 54, 55, 56, 57]⟩ : ByteArray).extract ((ji2) : Int).toNat ((wrap64 ((ji2) + 1)) : Int).toNat)) else ((computusref26_digits.f k (wrap64 (Int.tdiv a0 10))).bind fun t382 => (if t382.size + ((⟨#[48, 49, 50, 51, 52, 53, 54, 55, 56, 57]⟩ : ByteArray).extract ((ji2) : Int).toNat ((wrap64 ((ji2) + 1)) : Int).toNat).size ≤ 9223372036854775807 then (some (t382 ++ ((⟨#[48, 49, 50, 51, 52, 53, 54, 55, 56, 57]⟩ : ByteArray).extract ((ji2) : Int).toNat ((wrap64 ((ji2) + 1)) : Int).toNat))) else (none)))) else (none)) else (none)) else (none)) = some r := by first | (rw [hji2] at H; exact H) | (simp only [hji2] at H ⊢; exact H)
 by_cases c3 : 0 ≤ (ji2)
 ·rw [if_pos c3] at H
  have c3b0 := eq_true c3
  have c3b1 : decide (0 ≤ (ji2)) = true := decide_eq_true c3
  clear c3
  by_cases c4 : (ji2) ≤ (wrap64 ((ji2) + 1))
  ·rw [if_pos c4] at H
   have c4b0 := eq_true c4
   have c4b1 : decide ((ji2) ≤ (wrap64 ((ji2) + 1))) = true := decide_eq_true c4
   by_cases c5 : (wrap64 ((ji2) + 1)) ≤ 10
   ·rw [if_pos c5] at H
    have c5b0 := eq_true c5
    have c5b1 : decide ((wrap64 ((ji2) + 1)) ≤ 10) = true := decide_eq_true c5
    by_cases c6 : a0 < 10
    ·rw [if_pos c6] at H
     have c6b0 : decide (a0 < 10) = true := decide_eq_true c6
     clear c6
     obtain rfl := Option.some.inj H
     go_enter Tryd.func74, Tryd.ntmps74
     go_wp2
     go_ret
     exact ⟨by first | rfl | (simp; done) | (simp only [← hji2] <;> (first | rfl | simp)) | (simp [*]; done), by repeat (first | exact Drawn0.refl _ | apply Drawn0.step)⟩
    ·rw [if_neg c6] at H
     have c6b0 : decide (a0 < 10) = false := decide_eq_false c6
     clear c6
     replace H := Option.bind_eq_some_iff.mp H
     obtain ⟨t382, A70, H⟩ := H
     replace H : (if t382.size + ((⟨#[48, 49, 50, 51, 52, 53, 54, 55, 56, 57]⟩ : ByteArray).extract ((ji2) : Int).toNat ((wrap64 ((ji2) + 1)) : Int).toNat).size ≤ 9223372036854775807 then (some (t382 ++ ((⟨#[48, 49, 50, 51, 52, 53, 54, 55, 56, 57]⟩ : ByteArray).extract ((ji2) : Int).toNat ((wrap64 ((ji2) + 1)) : Int).toNat))) else (none)) = some r := H
     have A7 := Aside0.mk A70
     clear A70
     by_cases c8 : t382.size + ((⟨#[48, 49, 50, 51, 52, 53, 54, 55, 56, 57]⟩ : ByteArray).extract ((ji2) : Int).toNat ((wrap64 ((ji2) + 1)) : Int).toNat).size ≤ 9223372036854775807
     ·rw [if_pos c8] at H
      have c8b0 := eq_true c8
      have c8b1 : decide (t382.size + ((⟨#[48, 49, 50, 51, 52, 53, 54, 55, 56, 57]⟩ : ByteArray).extract ((ji2) : Int).toNat ((wrap64 ((ji2) + 1)) : Int).toNat).size ≤ 9223372036854775807) = true := decide_eq_true c8
      try have c8b2 : (9223372036854775807 < t382.size + ((⟨#[48, 49, 50, 51, 52, 53, 54, 55, 56, 57]⟩ : ByteArray).extract ((ji2) : Int).toNat ((wrap64 ((ji2) + 1)) : Int).toNat).size) = False := eq_false (Nat.not_lt.2 c8)
      obtain rfl := Option.some.inj H
      go_enter Tryd.func74, Tryd.ntmps74
      go_wp2_with (first | ((with_reducible refine gate_callee (f := 74) rfl ?_); refine goesL_ (some 17) rfl rfl Tryd.func74 (by kernel_rfl) rfl #[.int .i64 (wrap64 (Int.tdiv a0 10))] rfl (by (try simp only [List.map_toArray, List.map_cons, List.map_nil]); first | done | rfl | (simp only [List.length_drop, List.length_take]; rfl)) ?_; (with_reducible refine (ih k (by omega) (wrap64 (Int.tdiv a0 10)) t382 _ A7.out).mono ?_); rintro e w' ⟨rfl, ⟨nd, rfl⟩⟩; refine ⟨_, rfl, ?_⟩))
      go_ret
      exact ⟨by first | rfl | (simp; done) | (simp only [← hji2] <;> (first | rfl | simp)) | (simp [*]; done), by repeat (first | exact Drawn0.refl _ | apply Drawn0.step)⟩
     ·rw [if_neg c8] at H
      exact absurd H (by simp)
   ·rw [if_neg c5] at H
    exact absurd H (by simp)
  ·rw [if_neg c4] at H
   exact absurd H (by simp)
 ·rw [if_neg c3] at H
  exact absurd H (by simp)
def computusref26_Num.f (k : Nat) (a0 : Int) : Option (ByteArray) := if a0 < 0 then ((computusref26_digits.f k (wrap64 (-a0))).bind fun t383 => (if 1 + t383.size ≤ 9223372036854775807 then (some ((⟨#[45]⟩ : ByteArray) ++ t383)) else (none))) else ((computusref26_digits.f k a0).bind fun t384 => (some t384))
theorem computusref26_Num.calls (k : Nat) (a0 : Int) (r : ByteArray) (w : World) (h : computusref26_Num.f k a0 = some r) :
  Calls Tryd.prog 39 #[.int .i64 a0] w fun e w' => e = .returned (.string r) ∧ Drawn0 w w' := by
 have H := h
 clear h
 unfold computusref26_Num.f at H
 by_cases c2 : a0 < 0
 rotate_left
 ·rw [if_neg c2] at H
  have c2b0 : decide (a0 < 0) = false := decide_eq_false c2
  clear c2
  obtain ⟨t384, A5, H⟩ := bs_ H
  obtain rfl := Option.some.inj H
  go_enter Tryd.func39, Tryd.ntmps39
  go_wp2_with (first | ((with_reducible refine gate_callee (f := 74) rfl ?_); refine goesL_ (some 10) rfl rfl Tryd.func74 (by kernel_rfl) rfl #[.int .i64 a0] rfl (by (try simp only [List.map_toArray, List.map_cons, List.map_nil]); first | done | rfl | (simp only [List.length_drop, List.length_take]; rfl)) ?_; (with_reducible refine (computusref26_digits.calls k a0 t384 _ A5.out).mono ?_); rintro e w' ⟨rfl, ⟨nd, rfl⟩⟩; refine ⟨_, rfl, ?_⟩))
  go_ret
  exact ⟨by first | rfl | (simp; done) | (simp [*]; done), by repeat (first | exact Drawn0.refl _ | apply Drawn0.step)⟩
 rw [if_pos c2] at H
 have c2b0 : decide (a0 < 0) = true := decide_eq_true c2
 clear c2
 obtain ⟨t383, A3, H⟩ := bs_ H
 by_cases c4 : 1 + t383.size ≤ 9223372036854775807
 rotate_left
 ·rw [if_neg c4] at H
  exact absurd H (by simp)
 rw [if_pos c4] at H
 have c4b0 := eq_true c4
 have c4b1 : decide (1 + t383.size ≤ 9223372036854775807) = true := decide_eq_true c4
 try have c4b2 : (9223372036854775807 < 1 + t383.size) = False := eq_false (Nat.not_lt.2 c4)
 obtain rfl := Option.some.inj H
 go_enter Tryd.func39, Tryd.ntmps39
 go_wp2_with (first | ((with_reducible refine gate_callee (f := 74) rfl ?_); refine goesL_ (some 7) rfl rfl Tryd.func74 (by kernel_rfl) rfl #[.int .i64 (wrap64 (-a0))] rfl (by (try simp only [List.map_toArray, List.map_cons, List.map_nil]); first | done | rfl | (simp only [List.length_drop, List.length_take]; rfl)) ?_; (with_reducible refine (computusref26_digits.calls k (wrap64 (-a0)) t383 _ A3.out).mono ?_); rintro e w' ⟨rfl, ⟨nd, rfl⟩⟩; refine ⟨_, rfl, ?_⟩))
 go_ret
 exact ⟨by first | rfl | (simp; done) | (simp [*]; done), by repeat (first | exact Drawn0.refl _ | apply Drawn0.step)⟩
def computusref27_kind.f (a0 : Int) : Option (ByteArray) := if a0 = 1 then (some (⟨#[116, 101, 109, 112, 111, 114, 97, 108]⟩ : ByteArray)) else (if a0 = 2 then (some (⟨#[112, 114, 111, 112, 101, 114]⟩ : ByteArray)) else (some (⟨#[109, 111, 118, 101, 100]⟩ : ByteArray)))
theorem computusref27_kind.calls (a0 : Int) (r : ByteArray) (w : World) (h : computusref27_kind.f a0 = some r) :
  Calls Tryd.prog 41 #[.int .i64 a0] w fun e w' => e = .returned (.string r) ∧ Drawn0 w w' := by
 have H := h
 clear h
 unfold computusref27_kind.f at H
 by_cases c2 : a0 = 1
 ·rw [if_pos c2] at H
  have c2b0 : (a0 == 1) = true := beq_iff_eq.mpr c2
  have c2b1 : (a0 != 1) = false := bne_eq_false_iff_eq.mpr c2
  clear c2
  obtain rfl := Option.some.inj H
  go_enter Tryd.func41, Tryd.ntmps41
  go_wp2
  go_ret
  exact ⟨by first | rfl | (simp; done) | (simp [*]; done), by repeat (first | exact Drawn0.refl _ | apply Drawn0.step)⟩
 rw [if_neg c2] at H
 have c2b0 : (a0 == 1) = false := beq_eq_false_iff_ne.mpr c2
 have c2b1 : (a0 != 1) = true := bne_iff_ne.mpr c2
 by_cases c3 : a0 = 2
 rotate_left
 ·rw [if_neg c3] at H
  have c3b0 : (a0 == 2) = false := beq_eq_false_iff_ne.mpr c3
  have c3b1 : (a0 != 2) = true := bne_iff_ne.mpr c3
  obtain rfl := Option.some.inj H
  go_enter Tryd.func41, Tryd.ntmps41
  go_wp2
  go_ret
  exact ⟨by first | rfl | (simp; done) | (simp [*]; done), by repeat (first | exact Drawn0.refl _ | apply Drawn0.step)⟩
 rw [if_pos c3] at H
 have c3b0 : (a0 == 2) = true := beq_iff_eq.mpr c3
 have c3b1 : (a0 != 2) = false := bne_eq_false_iff_eq.mpr c3
 clear c3
 obtain rfl := Option.some.inj H
 go_enter Tryd.func41, Tryd.ntmps41
 go_wp2
 go_ret
 exact ⟨by first | rfl | (simp; done) | (simp [*]; done), by repeat (first | exact Drawn0.refl _ | apply Drawn0.step)⟩
mutual
def computusref27_Line.j0 : Nat → ByteArray → Int → Int → Int → Int → ByteArray → Int → Int → ByteArray → Int → Int → Int → Int → List ByteArray → List ByteArray → Option (ByteArray)
 | 0, _, _, _, _, _, _, _, _, _, _, _, _, _, _, _ => none
 | k + 1, x3, x386000, x386001, x386002, x386003, x386004, x386005, x386006, x386007, x386008, x386009, x386010, x386011, x386012, x386013 => computusref27_Line.l0 k x3 0 x386000 x386001 x386002 x386003 x386004 x386005 x386006 x386007 x386008 x386009 x386010 x386011 x386012 x386013
def computusref27_Line.l0 : Nat → ByteArray → Int → Int → Int → Int → Int → ByteArray → Int → Int → ByteArray → Int → Int → Int → Int → List ByteArray → List ByteArray → Option (ByteArray)
 | 0, _, _, _, _, _, _, _, _, _, _, _, _, _, _, _, _ => none
 | k + 1, x3, x4, x386000, x386001, x386002, x386003, x386004, x386005, x386006, x386007, x386008, x386009, x386010, x386011, x386012, x386013 => if x4 < (x386012.length : Int) then (if x3.size + 6 ≤ 9223372036854775807 then (if 0 ≤ x4 then (if (x3 ++ (⟨#[32, 119, 105, 116, 104, 32]⟩ : ByteArray)).size + (rdOf ByteArray.empty x386012 x4).size ≤ 9223372036854775807 then (computusref27_Line.l0 k ((x3 ++ (⟨#[32, 119, 105, 116, 104, 32]⟩ : ByteArray)) ++ (rdOf ByteArray.empty x386012 x4)) (wrap64 (x4 + 1)) x386000 x386001 x386002 x386003 x386004 x386005 x386006 x386007 x386008 x386009 x386010 x386011 x386012 x386013) else (none)) else (none)) else (none)) else (computusref27_Line.l1 k x3 0 x386000 x386001 x386002 x386003 x386004 x386005 x386006 x386007 x386008 x386009 x386010 x386011 x386012 x386013)
def computusref27_Line.l1 : Nat → ByteArray → Int → Int → Int → Int → Int → ByteArray → Int → Int → ByteArray → Int → Int → Int → Int → List ByteArray → List ByteArray → Option (ByteArray)
 | 0, _, _, _, _, _, _, _, _, _, _, _, _, _, _, _, _ => none
 | k + 1, x3, x5, x386000, x386001, x386002, x386003, x386004, x386005, x386006, x386007, x386008, x386009, x386010, x386011, x386012, x386013 => if x5 < (x386013.length : Int) then (if x3.size + 9 ≤ 9223372036854775807 then (if 0 ≤ x5 then (if (x3 ++ (⟨#[32, 119, 105, 116, 104, 111, 117, 116, 32]⟩ : ByteArray)).size + (rdOf ByteArray.empty x386013 x5).size ≤ 9223372036854775807 then (computusref27_Line.l1 k ((x3 ++ (⟨#[32, 119, 105, 116, 104, 111, 117, 116, 32]⟩ : ByteArray)) ++ (rdOf ByteArray.empty x386013 x5)) (wrap64 (x5 + 1)) x386000 x386001 x386002 x386003 x386004 x386005 x386006 x386007 x386008 x386009 x386010 x386011 x386012 x386013) else (none)) else (none)) else (none)) else (some x3)
end
def computusref27_Line.f (k : Nat) (a0_0 : Int) (a0_1 : Int) (a0_2 : Int) (a0_3 : Int) (a0_4 : ByteArray) (a0_5 : Int) (a0_6 : Int) (a0_7 : ByteArray) (a0_8 : Int) (a0_9 : Int) (a0_10 : Int) (a0_11 : Int) (l0_12 : List ByteArray) (l0_13 : List ByteArray) : Option (ByteArray) := (computusref26_Num.f k a0_1).bind fun t386 => (if 4 + t386.size ≤ 9223372036854775807 then (if ((⟨#[100, 97, 121, 32]⟩ : ByteArray) ++ t386).size + 1 ≤ 9223372036854775807 then ((computusref26_Num.f k a0_2).bind fun t387 => (if (((⟨#[100, 97, 121, 32]⟩ : ByteArray) ++ t386) ++ (⟨#[32]⟩ : ByteArray)).size + t387.size ≤ 9223372036854775807 then (if ((((⟨#[100, 97, 121, 32]⟩ : ByteArray) ++ t386) ++ (⟨#[32]⟩ : ByteArray)) ++ t387).size + 1 ≤ 9223372036854775807 then ((computusref04_Name.f a0_3).bind fun t388 => (if (((((⟨#[100, 97, 121, 32]⟩ : ByteArray) ++ t386) ++ (⟨#[32]⟩ : ByteArray)) ++ t387) ++ (⟨#[32]⟩ : ByteArray)).size + t388.size ≤ 9223372036854775807 then (if ((((((⟨#[100, 97, 121, 32]⟩ : ByteArray) ++ t386) ++ (⟨#[32]⟩ : ByteArray)) ++ t387) ++ (⟨#[32]⟩ : ByteArray)) ++ t388).size + 1 ≤ 9223372036854775807 then (if (((((((⟨#[100, 97, 121, 32]⟩ : ByteArray) ++ t386) ++ (⟨#[32]⟩ : ByteArray)) ++ t387) ++ (⟨#[32]⟩ : ByteArray)) ++ t388) ++ (⟨#[32]⟩ : ByteArray)).size + a0_4.size ≤ 9223372036854775807 then (if ((((((((⟨#[100, 97, 121, 32]⟩ : ByteArray) ++ t386) ++ (⟨#[32]⟩ : ByteArray)) ++ t387) ++ (⟨#[32]⟩ : ByteArray)) ++ t388) ++ (⟨#[32]⟩ : ByteArray)) ++ a0_4).size + 1 ≤ 9223372036854775807 then ((computusref26_Num.f k a0_5).bind fun t389 => (if (((((((((⟨#[100, 97, 121, 32]⟩ : ByteArray) ++ t386) ++ (⟨#[32]⟩ : ByteArray)) ++ t387) ++ (⟨#[32]⟩ : ByteArray)) ++ t388) ++ (⟨#[32]⟩ : ByteArray)) ++ a0_4) ++ (⟨#[32]⟩ : ByteArray)).size + t389.size ≤ 9223372036854775807 then (if ((((((((((⟨#[100, 97, 121, 32]⟩ : ByteArray) ++ t386) ++ (⟨#[32]⟩ : ByteArray)) ++ t387) ++ (⟨#[32]⟩ : ByteArray)) ++ t388) ++ (⟨#[32]⟩ : ByteArray)) ++ a0_4) ++ (⟨#[32]⟩ : ByteArray)) ++ t389).size + 1 ≤ 9223372036854775807 then ((computusref27_kind.f a0_6).bind fun t390 => (if (((((((((((⟨#[100, 97, 121, 32]⟩ : ByteArray) ++ t386) ++ (⟨#[32]⟩ : ByteArray)) ++ t387) ++ (⟨#[32]⟩ : ByteArray)) ++ t388) ++ (⟨#[32]⟩ : ByteArray)) ++ a0_4) ++ (⟨#[32]⟩ : ByteArray)) ++ t389) ++ (⟨#[32]⟩ : ByteArray)).size + t390.size ≤ 9223372036854775807 then (if ((((((((((((⟨#[100, 97, 121, 32]⟩ : ByteArray) ++ t386) ++ (⟨#[32]⟩ : ByteArray)) ++ t387) ++ (⟨#[32]⟩ : ByteArray)) ++ t388) ++ (⟨#[32]⟩ : ByteArray)) ++ a0_4) ++ (⟨#[32]⟩ : ByteArray)) ++ t389) ++ (⟨#[32]⟩ : ByteArray)) ++ t390).size + 1 ≤ 9223372036854775807 then (if (((((((((((((⟨#[100, 97, 121, 32]⟩ : ByteArray) ++ t386) ++ (⟨#[32]⟩ : ByteArray)) ++ t387) ++ (⟨#[32]⟩ : ByteArray)) ++ t388) ++ (⟨#[32]⟩ : ByteArray)) ++ a0_4) ++ (⟨#[32]⟩ : ByteArray)) ++ t389) ++ (⟨#[32]⟩ : ByteArray)) ++ t390) ++ (⟨#[32]⟩ : ByteArray)).size + a0_7.size ≤ 9223372036854775807 then (if ((((((((((((((⟨#[100, 97, 121, 32]⟩ : ByteArray) ++ t386) ++ (⟨#[32]⟩ : ByteArray)) ++ t387) ++ (⟨#[32]⟩ : ByteArray)) ++ t388) ++ (⟨#[32]⟩ : ByteArray)) ++ a0_4) ++ (⟨#[32]⟩ : ByteArray)) ++ t389) ++ (⟨#[32]⟩ : ByteArray)) ++ t390) ++ (⟨#[32]⟩ : ByteArray)) ++ a0_7).size + 1 ≤ 9223372036854775807 then ((computusref26_Num.f k a0_8).bind fun t391 => (if (((((((((((((((⟨#[100, 97, 121, 32]⟩ : ByteArray) ++ t386) ++ (⟨#[32]⟩ : ByteArray)) ++ t387) ++ (⟨#[32]⟩ : ByteArray)) ++ t388) ++ (⟨#[32]⟩ : ByteArray)) ++ a0_4) ++ (⟨#[32]⟩ : ByteArray)) ++ t389) ++ (⟨#[32]⟩ : ByteArray)) ++ t390) ++ (⟨#[32]⟩ : ByteArray)) ++ a0_7) ++ (⟨#[32]⟩ : ByteArray)).size + t391.size ≤ 9223372036854775807 then (if a0_6 = 3 then (if ((((((((((((((((⟨#[100, 97, 121, 32]⟩ : ByteArray) ++ t386) ++ (⟨#[32]⟩ : ByteArray)) ++ t387) ++ (⟨#[32]⟩ : ByteArray)) ++ t388) ++ (⟨#[32]⟩ : ByteArray)) ++ a0_4) ++ (⟨#[32]⟩ : ByteArray)) ++ t389) ++ (⟨#[32]⟩ : ByteArray)) ++ t390) ++ (⟨#[32]⟩ : ByteArray)) ++ a0_7) ++ (⟨#[32]⟩ : ByteArray)) ++ t391).size + 6 ≤ 9223372036854775807 then ((computusref26_Num.f k a0_10).bind fun t392 => (if (((((((((((((((((⟨#[100, 97, 121, 32]⟩ : ByteArray) ++ t386) ++ (⟨#[32]⟩ : ByteArray)) ++ t387) ++ (⟨#[32]⟩ : ByteArray)) ++ t388) ++ (⟨#[32]⟩ : ByteArray)) ++ a0_4) ++ (⟨#[32]⟩ : ByteArray)) ++ t389) ++ (⟨#[32]⟩ : ByteArray)) ++ t390) ++ (⟨#[32]⟩ : ByteArray)) ++ a0_7) ++ (⟨#[32]⟩ : ByteArray)) ++ t391) ++ (⟨#[32, 102, 114, 111, 109, 32]⟩ : ByteArray)).size + t392.size ≤ 9223372036854775807 then (if ((((((((((((((((((⟨#[100, 97, 121, 32]⟩ : ByteArray) ++ t386) ++ (⟨#[32]⟩ : ByteArray)) ++ t387) ++ (⟨#[32]⟩ : ByteArray)) ++ t388) ++ (⟨#[32]⟩ : ByteArray)) ++ a0_4) ++ (⟨#[32]⟩ : ByteArray)) ++ t389) ++ (⟨#[32]⟩ : ByteArray)) ++ t390) ++ (⟨#[32]⟩ : ByteArray)) ++ a0_7) ++ (⟨#[32]⟩ : ByteArray)) ++ t391) ++ (⟨#[32, 102, 114, 111, 109, 32]⟩ : ByteArray)) ++ t392).size + 1 ≤ 9223372036854775807 then ((computusref26_Num.f k a0_11).bind fun t393 => (if (((((((((((((((((((⟨#[100, 97, 121, 32]⟩ : ByteArray) ++ t386) ++ (⟨#[32]⟩ : ByteArray)) ++ t387) ++ (⟨#[32]⟩ : ByteArray)) ++ t388) ++ (⟨#[32]⟩ : ByteArray)) ++ a0_4) ++ (⟨#[32]⟩ : ByteArray)) ++ t389) ++ (⟨#[32]⟩ : ByteArray)) ++ t390) ++ (⟨#[32]⟩ : ByteArray)) ++ a0_7) ++ (⟨#[32]⟩ : ByteArray)) ++ t391) ++ (⟨#[32, 102, 114, 111, 109, 32]⟩ : ByteArray)) ++ t392) ++ (⟨#[32]⟩ : ByteArray)).size + t393.size ≤ 9223372036854775807 then (computusref27_Line.j0 k ((((((((((((((((((((⟨#[100, 97, 121, 32]⟩ : ByteArray) ++ t386) ++ (⟨#[32]⟩ : ByteArray)) ++ t387) ++ (⟨#[32]⟩ : ByteArray)) ++ t388) ++ (⟨#[32]⟩ : ByteArray)) ++ a0_4) ++ (⟨#[32]⟩ : ByteArray)) ++ t389) ++ (⟨#[32]⟩ : ByteArray)) ++ t390) ++ (⟨#[32]⟩ : ByteArray)) ++ a0_7) ++ (⟨#[32]⟩ : ByteArray)) ++ t391) ++ (⟨#[32, 102, 114, 111, 109, 32]⟩ : ByteArray)) ++ t392) ++ (⟨#[32]⟩ : ByteArray)) ++ t393) a0_0 a0_1 a0_2 a0_3 a0_4 a0_5 a0_6 a0_7 a0_8 a0_9 a0_10 a0_11 l0_12 l0_13) else (none))) else (none)) else (none))) else (none)) else (computusref27_Line.j0 k ((((((((((((((((⟨#[100, 97, 121, 32]⟩ : ByteArray) ++ t386) ++ (⟨#[32]⟩ : ByteArray)) ++ t387) ++ (⟨#[32]⟩ : ByteArray)) ++ t388) ++ (⟨#[32]⟩ : ByteArray)) ++ a0_4) ++ (⟨#[32]⟩ : ByteArray)) ++ t389) ++ (⟨#[32]⟩ : ByteArray)) ++ t390) ++ (⟨#[32]⟩ : ByteArray)) ++ a0_7) ++ (⟨#[32]⟩ : ByteArray)) ++ t391) a0_0 a0_1 a0_2 a0_3 a0_4 a0_5 a0_6 a0_7 a0_8 a0_9 a0_10 a0_11 l0_12 l0_13)) else (none))) else (none)) else (none)) else (none)) else (none))) else (none)) else (none))) else (none)) else (none)) else (none)) else (none))) else (none)) else (none))) else (none)) else (none))
def computusref27_Line.T1 : Bool × List (List Nat × List Nat) := (true, [([], []), ([0], [0]), ([1], [1]), ([2], [2]), ([3], [3]), ([4], [4]), ([], []), ([6], [6]), ([7], [7]), ([8, 3], [8]), ([5, 9], [5, 9]), ([10], [10]), ([], []), ([12], [12]), ([13, 9], [13]), ([11, 14], [11, 14]), ([15], [15]), ([], []), ([17], [17]), ([16, 18], [16, 18]), ([19], [19]), ([], []), ([21], [21]), ([22, 14], [22]), ([20, 23], [20, 23]), ([24], [24]), ([], []), ([26], [26]), ([27, 23], [27]), ([25, 28], [25, 28]), ([29], [29]), ([], []), ([31], [31]), ([30, 32], [30, 32]), ([33], [33]), ([], []), ([35], [35]), ([36, 28], [36]), ([34, 37], [34, 37]), ([38, 37, 0, 1, 2, 3, 4, 5, 6, 7, 8, 9, 10, 11, 12, 13, 14, 15, 16, 17, 18, 19, 20, 21, 22, 23, 24, 25, 26, 27, 28, 29, 30, 31, 32, 33, 34, 35, 36, 37, 38], [38])])
def computusref27_Line.B1 : List Nat := [0, 1, 3, 7, 15, 31, 0, 64, 192, 463, 1023, 2047, 0, 4096, 13263, 32767, 65535, 0, 131072, 524287, 1048575, 0, 2097152, 6321103, 16777215, 33554431, 0, 67108864, 216036303, 536870911, 1073741823, 0, 2147483648, 8589934591, 17179869183, 0, 34359738368, 103563686863, 274877906943, 549755813887]
theorem computusref27_Line.tab1 : rtab .any (opsOf Tryd.f16 1) = computusref27_Line.T1 := by kernel_rfl
theorem computusref27_Line.bits1 : waitsOk computusref27_Line.T1.2 computusref27_Line.B1 = true := by kernel_rfl
def computusref27_Line.T3 : Bool × List (List Nat × List Nat) := (true, [([], []), ([0], [0]), ([], []), ([2], [2]), ([3], [3]), ([4], [4]), ([1, 5], [1, 5]), ([6], [6]), ([], []), ([8], [8]), ([9], [9]), ([10, 5], [10]), ([7, 11], [7, 11]), ([12, 11, 0, 1, 2, 3, 4, 5, 6, 7, 8, 9, 10, 11, 12], [0, 12])])
def computusref27_Line.B3 : List Nat := [0, 1, 0, 4, 12, 28, 63, 127, 0, 256, 768, 1852, 4095, 8191]
theorem computusref27_Line.tab3 : rtab .any (opsOf Tryd.f16 3) = computusref27_Line.T3 := by kernel_rfl
theorem computusref27_Line.bits3 : waitsOk computusref27_Line.T3.2 computusref27_Line.B3 = true := by kernel_rfl
theorem computusref27_Line.calls (k : Nat) (a0_0 : Int) (a0_1 : Int) (a0_2 : Int) (a0_3 : Int) (a0_4 : ByteArray) (a0_5 : Int) (a0_6 : Int) (a0_7 : ByteArray) (a0_8 : Int) (a0_9 : Int) (a0_10 : Int) (a0_11 : Int) (A0_12 : Option Addr) (c0_12 : Nat) (l0_12 : List ByteArray) (A0_13 : Option Addr) (c0_13 : Nat) (l0_13 : List ByteArray) (r : ByteArray) (w : World) (hr0_12 : Kd.C Kd.string w A0_12 l0_12.length l0_12) (hc0_12 : l0_12.length ≤ c0_12) (hr0_13 : Kd.C Kd.string w A0_13 l0_13.length l0_13) (hc0_13 : l0_13.length ≤ c0_13) (h : computusref27_Line.f k a0_0 a0_1 a0_2 a0_3 a0_4 a0_5 a0_6 a0_7 a0_8 a0_9 a0_10 a0_11 l0_12 l0_13 = some r) :
  Calls Tryd.prog 16 #[.agg #[.int .i64 a0_0, .int .i64 a0_1, .int .i64 a0_2, .int .i64 a0_3, .string a0_4, .int .i64 a0_5, .int .i64 a0_6, .string a0_7, .int .i64 a0_8, .int .i64 a0_9, .int .i64 a0_10, .int .i64 a0_11, .slice A0_12 l0_12.length c0_12, .slice A0_13 l0_13.length c0_13]] w fun e w' => e = .returned (.string r) ∧ Below w.heap.size w w' := by
 have hu40 := Tryd.underlying40
 have HR0_12 := am_ hr0_12
 have HC0_12 := am_ hc0_12
 clear hr0_12 hc0_12
 have HR0_13 := am_ hr0_13
 have HC0_13 := am_ hc0_13
 clear hr0_13 hc0_13
 have HB := am_ (Below.refl w.heap.size w)
 have H := h
 clear h
 unfold computusref27_Line.f at H
 obtain ⟨t386, A2, H⟩ := bs_ H
 by_cases c3 : 4 + t386.size ≤ 9223372036854775807
 rotate_left
 ·rw [if_neg c3] at H
  exact absurd H (by simp)
 rw [if_pos c3] at H
 have c3b0 := eq_true c3
 have c3b1 : decide (4 + t386.size ≤ 9223372036854775807) = true := decide_eq_true c3
 try have c3b2 : (9223372036854775807 < 4 + t386.size) = False := eq_false (Nat.not_lt.2 c3)
 by_cases c4 : ((⟨#[100, 97, 121, 32]⟩ : ByteArray) ++ t386).size + 1 ≤ 9223372036854775807
 rotate_left
 ·rw [if_neg c4] at H
  exact absurd H (by simp)
 rw [if_pos c4] at H
 have c4b0 := eq_true c4
 have c4b1 : decide (((⟨#[100, 97, 121, 32]⟩ : ByteArray) ++ t386).size + 1 ≤ 9223372036854775807) = true := decide_eq_true c4
 have c4e : 4 + t386.size + 1 ≤ 9223372036854775807 := by have h_ := c4; simp only [ByteArray.size_append] at h_; exact h_
 have c4e0 := eq_true c4e
 have c4e1 : decide (4 + t386.size + 1 ≤ 9223372036854775807) = true := decide_eq_true c4e
 have c4e2 : (9223372036854775807 < 4 + t386.size + 1) = False := eq_false (Nat.not_lt.2 c4e)
 try have c4b2 : (9223372036854775807 < ((⟨#[100, 97, 121, 32]⟩ : ByteArray) ++ t386).size + 1) = False := eq_false (Nat.not_lt.2 c4)
 obtain ⟨t387, A5, H⟩ := bs_ H
 by_cases c6 : (((⟨#[100, 97, 121, 32]⟩ : ByteArray) ++ t386) ++ (⟨#[32]⟩ : ByteArray)).size + t387.size ≤ 9223372036854775807
 rotate_left
 ·rw [if_neg c6] at H
  exact absurd H (by simp)
 rw [if_pos c6] at H
 have c6b0 := eq_true c6
 have c6b1 : decide ((((⟨#[100, 97, 121, 32]⟩ : ByteArray) ++ t386) ++ (⟨#[32]⟩ : ByteArray)).size + t387.size ≤ 9223372036854775807) = true := decide_eq_true c6
 have c6e : 4 + t386.size + 1 + t387.size ≤ 9223372036854775807 := by have h_ := c6; simp only [ByteArray.size_append] at h_; exact h_
 have c6e0 := eq_true c6e
 have c6e1 : decide (4 + t386.size + 1 + t387.size ≤ 9223372036854775807) = true := decide_eq_true c6e
 have c6e2 : (9223372036854775807 < 4 + t386.size + 1 + t387.size) = False := eq_false (Nat.not_lt.2 c6e)
 try have c6b2 : (9223372036854775807 < (((⟨#[100, 97, 121, 32]⟩ : ByteArray) ++ t386) ++ (⟨#[32]⟩ : ByteArray)).size + t387.size) = False := eq_false (Nat.not_lt.2 c6)
 by_cases c7 : ((((⟨#[100, 97, 121, 32]⟩ : ByteArray) ++ t386) ++ (⟨#[32]⟩ : ByteArray)) ++ t387).size + 1 ≤ 9223372036854775807
 rotate_left
 ·rw [if_neg c7] at H
  exact absurd H (by simp)
 rw [if_pos c7] at H
 have c7b0 := eq_true c7
 have c7b1 : decide (((((⟨#[100, 97, 121, 32]⟩ : ByteArray) ++ t386) ++ (⟨#[32]⟩ : ByteArray)) ++ t387).size + 1 ≤ 9223372036854775807) = true := decide_eq_true c7
 have c7e : 4 + t386.size + 1 + t387.size + 1 ≤ 9223372036854775807 := by have h_ := c7; simp only [ByteArray.size_append] at h_; exact h_
 have c7e0 := eq_true c7e
 have c7e1 : decide (4 + t386.size + 1 + t387.size + 1 ≤ 9223372036854775807) = true := decide_eq_true c7e
 have c7e2 : (9223372036854775807 < 4 + t386.size + 1 + t387.size + 1) = False := eq_false (Nat.not_lt.2 c7e)
 try have c7b2 : (9223372036854775807 < ((((⟨#[100, 97, 121, 32]⟩ : ByteArray) ++ t386) ++ (⟨#[32]⟩ : ByteArray)) ++ t387).size + 1) = False := eq_false (Nat.not_lt.2 c7)
 obtain ⟨t388, A8, H⟩ := bs_ H
 by_cases c9 : (((((⟨#[100, 97, 121, 32]⟩ : ByteArray) ++ t386) ++ (⟨#[32]⟩ : ByteArray)) ++ t387) ++ (⟨#[32]⟩ : ByteArray)).size + t388.size ≤ 9223372036854775807
 rotate_left
 ·rw [if_neg c9] at H
  exact absurd H (by simp)
 rw [if_pos c9] at H
 have c9b0 := eq_true c9
 have c9b1 : decide ((((((⟨#[100, 97, 121, 32]⟩ : ByteArray) ++ t386) ++ (⟨#[32]⟩ : ByteArray)) ++ t387) ++ (⟨#[32]⟩ : ByteArray)).size + t388.size ≤ 9223372036854775807) = true := decide_eq_true c9
 have c9e : 4 + t386.size + 1 + t387.size + 1 + t388.size ≤ 9223372036854775807 := by have h_ := c9; simp only [ByteArray.size_append] at h_; exact h_
 have c9e0 := eq_true c9e
 have c9e1 : decide (4 + t386.size + 1 + t387.size + 1 + t388.size ≤ 9223372036854775807) = true := decide_eq_true c9e
 have c9e2 : (9223372036854775807 < 4 + t386.size + 1 + t387.size + 1 + t388.size) = False := eq_false (Nat.not_lt.2 c9e)
 try have c9b2 : (9223372036854775807 < (((((⟨#[100, 97, 121, 32]⟩ : ByteArray) ++ t386) ++ (⟨#[32]⟩ : ByteArray)) ++ t387) ++ (⟨#[32]⟩ : ByteArray)).size + t388.size) = False := eq_false (Nat.not_lt.2 c9)
 by_cases c10 : ((((((⟨#[100, 97, 121, 32]⟩ : ByteArray) ++ t386) ++ (⟨#[32]⟩ : ByteArray)) ++ t387) ++ (⟨#[32]⟩ : ByteArray)) ++ t388).size + 1 ≤ 9223372036854775807
 rotate_left
 ·rw [if_neg c10] at H
  exact absurd H (by simp)
 rw [if_pos c10] at H
 have c10b0 := eq_true c10
 have c10b1 : decide (((((((⟨#[100, 97, 121, 32]⟩ : ByteArray) ++ t386) ++ (⟨#[32]⟩ : ByteArray)) ++ t387) ++ (⟨#[32]⟩ : ByteArray)) ++ t388).size + 1 ≤ 9223372036854775807) = true := decide_eq_true c10
 have c10e : 4 + t386.size + 1 + t387.size + 1 + t388.size + 1 ≤ 9223372036854775807 := by have h_ := c10; simp only [ByteArray.size_append] at h_; exact h_
 have c10e0 := eq_true c10e
 have c10e1 : decide (4 + t386.size + 1 + t387.size + 1 + t388.size + 1 ≤ 9223372036854775807) = true := decide_eq_true c10e
 have c10e2 : (9223372036854775807 < 4 + t386.size + 1 + t387.size + 1 + t388.size + 1) = False := eq_false (Nat.not_lt.2 c10e)
 try have c10b2 : (9223372036854775807 < ((((((⟨#[100, 97, 121, 32]⟩ : ByteArray) ++ t386) ++ (⟨#[32]⟩ : ByteArray)) ++ t387) ++ (⟨#[32]⟩ : ByteArray)) ++ t388).size + 1) = False := eq_false (Nat.not_lt.2 c10)
 by_cases c11 : (((((((⟨#[100, 97, 121, 32]⟩ : ByteArray) ++ t386) ++ (⟨#[32]⟩ : ByteArray)) ++ t387) ++ (⟨#[32]⟩ : ByteArray)) ++ t388) ++ (⟨#[32]⟩ : ByteArray)).size + a0_4.size ≤ 9223372036854775807
 rotate_left
 ·rw [if_neg c11] at H
  exact absurd H (by simp)
 rw [if_pos c11] at H
 have c11b0 := eq_true c11
 have c11b1 : decide ((((((((⟨#[100, 97, 121, 32]⟩ : ByteArray) ++ t386) ++ (⟨#[32]⟩ : ByteArray)) ++ t387) ++ (⟨#[32]⟩ : ByteArray)) ++ t388) ++ (⟨#[32]⟩ : ByteArray)).size + a0_4.size ≤ 9223372036854775807) = true := decide_eq_true c11
 have c11e : 4 + t386.size + 1 + t387.size + 1 + t388.size + 1 + a0_4.size ≤ 9223372036854775807 := by have h_ := c11; simp only [ByteArray.size_append] at h_; exact h_
 have c11e0 := eq_true c11e
 have c11e1 : decide (4 + t386.size + 1 + t387.size + 1 + t388.size + 1 + a0_4.size ≤ 9223372036854775807) = true := decide_eq_true c11e
 have c11e2 : (9223372036854775807 < 4 + t386.size + 1 + t387.size + 1 + t388.size + 1 + a0_4.size) = False := eq_false (Nat.not_lt.2 c11e)
 try have c11b2 : (9223372036854775807 < (((((((⟨#[100, 97, 121, 32]⟩ : ByteArray) ++ t386) ++ (⟨#[32]⟩ : ByteArray)) ++ t387) ++ (⟨#[32]⟩ : ByteArray)) ++ t388) ++ (⟨#[32]⟩ : ByteArray)).size + a0_4.size) = False := eq_false (Nat.not_lt.2 c11)
 by_cases c12 : ((((((((⟨#[100, 97, 121, 32]⟩ : ByteArray) ++ t386) ++ (⟨#[32]⟩ : ByteArray)) ++ t387) ++ (⟨#[32]⟩ : ByteArray)) ++ t388) ++ (⟨#[32]⟩ : ByteArray)) ++ a0_4).size + 1 ≤ 9223372036854775807
 rotate_left
 ·rw [if_neg c12] at H
  exact absurd H (by simp)
 rw [if_pos c12] at H
 have c12b0 := eq_true c12
 have c12b1 : decide (((((((((⟨#[100, 97, 121, 32]⟩ : ByteArray) ++ t386) ++ (⟨#[32]⟩ : ByteArray)) ++ t387) ++ (⟨#[32]⟩ : ByteArray)) ++ t388) ++ (⟨#[32]⟩ : ByteArray)) ++ a0_4).size + 1 ≤ 9223372036854775807) = true := decide_eq_true c12
 have c12e : 4 + t386.size + 1 + t387.size + 1 + t388.size + 1 + a0_4.size + 1 ≤ 9223372036854775807 := by have h_ := c12; simp only [ByteArray.size_append] at h_; exact h_
 have c12e0 := eq_true c12e
 have c12e1 : decide (4 + t386.size + 1 + t387.size + 1 + t388.size + 1 + a0_4.size + 1 ≤ 9223372036854775807) = true := decide_eq_true c12e
 have c12e2 : (9223372036854775807 < 4 + t386.size + 1 + t387.size + 1 + t388.size + 1 + a0_4.size + 1) = False := eq_false (Nat.not_lt.2 c12e)
 try have c12b2 : (9223372036854775807 < ((((((((⟨#[100, 97, 121, 32]⟩ : ByteArray) ++ t386) ++ (⟨#[32]⟩ : ByteArray)) ++ t387) ++ (⟨#[32]⟩ : ByteArray)) ++ t388) ++ (⟨#[32]⟩ : ByteArray)) ++ a0_4).size + 1) = False := eq_false (Nat.not_lt.2 c12)
 obtain ⟨t389, A13, H⟩ := bs_ H
 by_cases c14 : (((((((((⟨#[100, 97, 121, 32]⟩ : ByteArray) ++ t386) ++ (⟨#[32]⟩ : ByteArray)) ++ t387) ++ (⟨#[32]⟩ : ByteArray)) ++ t388) ++ (⟨#[32]⟩ : ByteArray)) ++ a0_4) ++ (⟨#[32]⟩ : ByteArray)).size + t389.size ≤ 9223372036854775807
 rotate_left
 ·rw [if_neg c14] at H
  exact absurd H (by simp)
 rw [if_pos c14] at H
 have c14b0 := eq_true c14
 have c14b1 : decide ((((((((((⟨#[100, 97, 121, 32]⟩ : ByteArray) ++ t386) ++ (⟨#[32]⟩ : ByteArray)) ++ t387) ++ (⟨#[32]⟩ : ByteArray)) ++ t388) ++ (⟨#[32]⟩ : ByteArray)) ++ a0_4) ++ (⟨#[32]⟩ : ByteArray)).size + t389.size ≤ 9223372036854775807) = true := decide_eq_true c14
 have c14e : 4 + t386.size + 1 + t387.size + 1 + t388.size + 1 + a0_4.size + 1 + t389.size ≤ 9223372036854775807 := by have h_ := c14; simp only [ByteArray.size_append] at h_; exact h_
 have c14e0 := eq_true c14e
 have c14e1 : decide (4 + t386.size + 1 + t387.size + 1 + t388.size + 1 + a0_4.size + 1 + t389.size ≤ 9223372036854775807) = true := decide_eq_true c14e
 have c14e2 : (9223372036854775807 < 4 + t386.size + 1 + t387.size + 1 + t388.size + 1 + a0_4.size + 1 + t389.size) = False := eq_false (Nat.not_lt.2 c14e)
 try have c14b2 : (9223372036854775807 < (((((((((⟨#[100, 97, 121, 32]⟩ : ByteArray) ++ t386) ++ (⟨#[32]⟩ : ByteArray)) ++ t387) ++ (⟨#[32]⟩ : ByteArray)) ++ t388) ++ (⟨#[32]⟩ : ByteArray)) ++ a0_4) ++ (⟨#[32]⟩ : ByteArray)).size + t389.size) = False := eq_false (Nat.not_lt.2 c14)
 by_cases c15 : ((((((((((⟨#[100, 97, 121, 32]⟩ : ByteArray) ++ t386) ++ (⟨#[32]⟩ : ByteArray)) ++ t387) ++ (⟨#[32]⟩ : ByteArray)) ++ t388) ++ (⟨#[32]⟩ : ByteArray)) ++ a0_4) ++ (⟨#[32]⟩ : ByteArray)) ++ t389).size + 1 ≤ 9223372036854775807
 rotate_left
 ·rw [if_neg c15] at H
  exact absurd H (by simp)
 rw [if_pos c15] at H
 have c15b0 := eq_true c15
 have c15b1 : decide (((((((((((⟨#[100, 97, 121, 32]⟩ : ByteArray) ++ t386) ++ (⟨#[32]⟩ : ByteArray)) ++ t387) ++ (⟨#[32]⟩ : ByteArray)) ++ t388) ++ (⟨#[32]⟩ : ByteArray)) ++ a0_4) ++ (⟨#[32]⟩ : ByteArray)) ++ t389).size + 1 ≤ 9223372036854775807) = true := decide_eq_true c15
 have c15e : 4 + t386.size + 1 + t387.size + 1 + t388.size + 1 + a0_4.size + 1 + t389.size + 1 ≤ 9223372036854775807 := by have h_ := c15; simp only [ByteArray.size_append] at h_; exact h_
 have c15e0 := eq_true c15e
 have c15e1 : decide (4 + t386.size + 1 + t387.size + 1 + t388.size + 1 + a0_4.size + 1 + t389.size + 1 ≤ 9223372036854775807) = true := decide_eq_true c15e
 have c15e2 : (9223372036854775807 < 4 + t386.size + 1 + t387.size + 1 + t388.size + 1 + a0_4.size + 1 + t389.size + 1) = False := eq_false (Nat.not_lt.2 c15e)
 try have c15b2 : (9223372036854775807 < ((((((((((⟨#[100, 97, 121, 32]⟩ : ByteArray) ++ t386) ++ (⟨#[32]⟩ : ByteArray)) ++ t387) ++ (⟨#[32]⟩ : ByteArray)) ++ t388) ++ (⟨#[32]⟩ : ByteArray)) ++ a0_4) ++ (⟨#[32]⟩ : ByteArray)) ++ t389).size + 1) = False := eq_false (Nat.not_lt.2 c15)
 obtain ⟨t390, A16, H⟩ := bs_ H
 by_cases c17 : (((((((((((⟨#[100, 97, 121, 32]⟩ : ByteArray) ++ t386) ++ (⟨#[32]⟩ : ByteArray)) ++ t387) ++ (⟨#[32]⟩ : ByteArray)) ++ t388) ++ (⟨#[32]⟩ : ByteArray)) ++ a0_4) ++ (⟨#[32]⟩ : ByteArray)) ++ t389) ++ (⟨#[32]⟩ : ByteArray)).size + t390.size ≤ 9223372036854775807
 rotate_left
 ·rw [if_neg c17] at H
  exact absurd H (by simp)
 rw [if_pos c17] at H
 have c17b0 := eq_true c17
 have c17b1 : decide ((((((((((((⟨#[100, 97, 121, 32]⟩ : ByteArray) ++ t386) ++ (⟨#[32]⟩ : ByteArray)) ++ t387) ++ (⟨#[32]⟩ : ByteArray)) ++ t388) ++ (⟨#[32]⟩ : ByteArray)) ++ a0_4) ++ (⟨#[32]⟩ : ByteArray)) ++ t389) ++ (⟨#[32]⟩ : ByteArray)).size + t390.size ≤ 9223372036854775807) = true := decide_eq_true c17
 have c17e : 4 + t386.size + 1 + t387.size + 1 + t388.size + 1 + a0_4.size + 1 + t389.size + 1 + t390.size ≤ 9223372036854775807 := by have h_ := c17; simp only [ByteArray.size_append] at h_; exact h_
 have c17e0 := eq_true c17e
 have c17e1 : decide (4 + t386.size + 1 + t387.size + 1 + t388.size + 1 + a0_4.size + 1 + t389.size + 1 + t390.size ≤ 9223372036854775807) = true := decide_eq_true c17e
 have c17e2 : (9223372036854775807 < 4 + t386.size + 1 + t387.size + 1 + t388.size + 1 + a0_4.size + 1 + t389.size + 1 + t390.size) = False := eq_false (Nat.not_lt.2 c17e)
 try have c17b2 : (9223372036854775807 < (((((((((((⟨#[100, 97, 121, 32]⟩ : ByteArray) ++ t386) ++ (⟨#[32]⟩ : ByteArray)) ++ t387) ++ (⟨#[32]⟩ : ByteArray)) ++ t388) ++ (⟨#[32]⟩ : ByteArray)) ++ a0_4) ++ (⟨#[32]⟩ : ByteArray)) ++ t389) ++ (⟨#[32]⟩ : ByteArray)).size + t390.size) = False := eq_false (Nat.not_lt.2 c17)
 by_cases c18 : ((((((((((((⟨#[100, 97, 121, 32]⟩ : ByteArray) ++ t386) ++ (⟨#[32]⟩ : ByteArray)) ++ t387) ++ (⟨#[32]⟩ : ByteArray)) ++ t388) ++ (⟨#[32]⟩ : ByteArray)) ++ a0_4) ++ (⟨#[32]⟩ : ByteArray)) ++ t389) ++ (⟨#[32]⟩ : ByteArray)) ++ t390).size + 1 ≤ 9223372036854775807
 rotate_left
 ·rw [if_neg c18] at H
  exact absurd H (by simp)
 rw [if_pos c18] at H
 have c18b0 := eq_true c18
 have c18b1 : decide (((((((((((((⟨#[100, 97, 121, 32]⟩ : ByteArray) ++ t386) ++ (⟨#[32]⟩ : ByteArray)) ++ t387) ++ (⟨#[32]⟩ : ByteArray)) ++ t388) ++ (⟨#[32]⟩ : ByteArray)) ++ a0_4) ++ (⟨#[32]⟩ : ByteArray)) ++ t389) ++ (⟨#[32]⟩ : ByteArray)) ++ t390).size + 1 ≤ 9223372036854775807) = true := decide_eq_true c18
 have c18e : 4 + t386.size + 1 + t387.size + 1 + t388.size + 1 + a0_4.size + 1 + t389.size + 1 + t390.size + 1 ≤ 9223372036854775807 := by have h_ := c18; simp only [ByteArray.size_append] at h_; exact h_
 have c18e0 := eq_true c18e
 have c18e1 : decide (4 + t386.size + 1 + t387.size + 1 + t388.size + 1 + a0_4.size + 1 + t389.size + 1 + t390.size + 1 ≤ 9223372036854775807) = true := decide_eq_true c18e
 have c18e2 : (9223372036854775807 < 4 + t386.size + 1 + t387.size + 1 + t388.size + 1 + a0_4.size + 1 + t389.size + 1 + t390.size + 1) = False := eq_false (Nat.not_lt.2 c18e)
 try have c18b2 : (9223372036854775807 < ((((((((((((⟨#[100, 97, 121, 32]⟩ : ByteArray) ++ t386) ++ (⟨#[32]⟩ : ByteArray)) ++ t387) ++ (⟨#[32]⟩ : ByteArray)) ++ t388) ++ (⟨#[32]⟩ : ByteArray)) ++ a0_4) ++ (⟨#[32]⟩ : ByteArray)) ++ t389) ++ (⟨#[32]⟩ : ByteArray)) ++ t390).size + 1) = False := eq_false (Nat.not_lt.2 c18)
 by_cases c19 : (((((((((((((⟨#[100, 97, 121, 32]⟩ : ByteArray) ++ t386) ++ (⟨#[32]⟩ : ByteArray)) ++ t387) ++ (⟨#[32]⟩ : ByteArray)) ++ t388) ++ (⟨#[32]⟩ : ByteArray)) ++ a0_4) ++ (⟨#[32]⟩ : ByteArray)) ++ t389) ++ (⟨#[32]⟩ : ByteArray)) ++ t390) ++ (⟨#[32]⟩ : ByteArray)).size + a0_7.size ≤ 9223372036854775807
 rotate_left
 ·rw [if_neg c19] at H
  exact absurd H (by simp)
 rw [if_pos c19] at H
 have c19b0 := eq_true c19
 have c19b1 : decide ((((((((((((((⟨#[100, 97, 121, 32]⟩ : ByteArray) ++ t386) ++ (⟨#[32]⟩ : ByteArray)) ++ t387) ++ (⟨#[32]⟩ : ByteArray)) ++ t388) ++ (⟨#[32]⟩ : ByteArray)) ++ a0_4) ++ (⟨#[32]⟩ : ByteArray)) ++ t389) ++ (⟨#[32]⟩ : ByteArray)) ++ t390) ++ (⟨#[32]⟩ : ByteArray)).size + a0_7.size ≤ 9223372036854775807) = true := decide_eq_true c19
 have c19e : 4 + t386.size + 1 + t387.size + 1 + t388.size + 1 + a0_4.size + 1 + t389.size + 1 + t390.size + 1 + a0_7.size ≤ 9223372036854775807 := by have h_ := c19; simp only [ByteArray.size_append] at h_; exact h_
 have c19e0 := eq_true c19e
 have c19e1 : decide (4 + t386.size + 1 + t387.size + 1 + t388.size + 1 + a0_4.size + 1 + t389.size + 1 + t390.size + 1 + a0_7.size ≤ 9223372036854775807) = true := decide_eq_true c19e
 have c19e2 : (9223372036854775807 < 4 + t386.size + 1 + t387.size + 1 + t388.size + 1 + a0_4.size + 1 + t389.size + 1 + t390.size + 1 + a0_7.size) = False := eq_false (Nat.not_lt.2 c19e)
 try have c19b2 : (9223372036854775807 < (((((((((((((⟨#[100, 97, 121, 32]⟩ : ByteArray) ++ t386) ++ (⟨#[32]⟩ : ByteArray)) ++ t387) ++ (⟨#[32]⟩ : ByteArray)) ++ t388) ++ (⟨#[32]⟩ : ByteArray)) ++ a0_4) ++ (⟨#[32]⟩ : ByteArray)) ++ t389) ++ (⟨#[32]⟩ : ByteArray)) ++ t390) ++ (⟨#[32]⟩ : ByteArray)).size + a0_7.size) = False := eq_false (Nat.not_lt.2 c19)
 by_cases c20 : ((((((((((((((⟨#[100, 97, 121, 32]⟩ : ByteArray) ++ t386) ++ (⟨#[32]⟩ : ByteArray)) ++ t387) ++ (⟨#[32]⟩ : ByteArray)) ++ t388) ++ (⟨#[32]⟩ : ByteArray)) ++ a0_4) ++ (⟨#[32]⟩ : ByteArray)) ++ t389) ++ (⟨#[32]⟩ : ByteArray)) ++ t390) ++ (⟨#[32]⟩ : ByteArray)) ++ a0_7).size + 1 ≤ 9223372036854775807
 rotate_left
 ·rw [if_neg c20] at H
  exact absurd H (by simp)
 rw [if_pos c20] at H
 have c20b0 := eq_true c20
 have c20b1 : decide (((((((((((((((⟨#[100, 97, 121, 32]⟩ : ByteArray) ++ t386) ++ (⟨#[32]⟩ : ByteArray)) ++ t387) ++ (⟨#[32]⟩ : ByteArray)) ++ t388) ++ (⟨#[32]⟩ : ByteArray)) ++ a0_4) ++ (⟨#[32]⟩ : ByteArray)) ++ t389) ++ (⟨#[32]⟩ : ByteArray)) ++ t390) ++ (⟨#[32]⟩ : ByteArray)) ++ a0_7).size + 1 ≤ 9223372036854775807) = true := decide_eq_true c20
 have c20e : 4 + t386.size + 1 + t387.size + 1 + t388.size + 1 + a0_4.size + 1 + t389.size + 1 + t390.size + 1 + a0_7.size + 1 ≤ 9223372036854775807 := by have h_ := c20; simp only [ByteArray.size_append] at h_; exact h_
 have c20e0 := eq_true c20e
 have c20e1 : decide (4 + t386.size + 1 + t387.size + 1 + t388.size + 1 + a0_4.size + 1 + t389.size + 1 + t390.size + 1 + a0_7.size + 1 ≤ 9223372036854775807) = true := decide_eq_true c20e
 have c20e2 : (9223372036854775807 < 4 + t386.size + 1 + t387.size + 1 + t388.size + 1 + a0_4.size + 1 + t389.size + 1 + t390.size + 1 + a0_7.size + 1) = False := eq_false (Nat.not_lt.2 c20e)
 try have c20b2 : (9223372036854775807 < ((((((((((((((⟨#[100, 97, 121, 32]⟩ : ByteArray) ++ t386) ++ (⟨#[32]⟩ : ByteArray)) ++ t387) ++ (⟨#[32]⟩ : ByteArray)) ++ t388) ++ (⟨#[32]⟩ : ByteArray)) ++ a0_4) ++ (⟨#[32]⟩ : ByteArray)) ++ t389) ++ (⟨#[32]⟩ : ByteArray)) ++ t390) ++ (⟨#[32]⟩ : ByteArray)) ++ a0_7).size + 1) = False := eq_false (Nat.not_lt.2 c20)
 obtain ⟨t391, A21, H⟩ := bs_ H
 by_cases c22 : (((((((((((((((⟨#[100, 97, 121, 32]⟩ : ByteArray) ++ t386) ++ (⟨#[32]⟩ : ByteArray)) ++ t387) ++ (⟨#[32]⟩ : ByteArray)) ++ t388) ++ (⟨#[32]⟩ : ByteArray)) ++ a0_4) ++ (⟨#[32]⟩ : ByteArray)) ++ t389) ++ (⟨#[32]⟩ : ByteArray)) ++ t390) ++ (⟨#[32]⟩ : ByteArray)) ++ a0_7) ++ (⟨#[32]⟩ : ByteArray)).size + t391.size ≤ 9223372036854775807
 rotate_left
 ·rw [if_neg c22] at H
  exact absurd H (by simp)
 rw [if_pos c22] at H
 have c22b0 := eq_true c22
 have c22b1 : decide ((((((((((((((((⟨#[100, 97, 121, 32]⟩ : ByteArray) ++ t386) ++ (⟨#[32]⟩ : ByteArray)) ++ t387) ++ (⟨#[32]⟩ : ByteArray)) ++ t388) ++ (⟨#[32]⟩ : ByteArray)) ++ a0_4) ++ (⟨#[32]⟩ : ByteArray)) ++ t389) ++ (⟨#[32]⟩ : ByteArray)) ++ t390) ++ (⟨#[32]⟩ : ByteArray)) ++ a0_7) ++ (⟨#[32]⟩ : ByteArray)).size + t391.size ≤ 9223372036854775807) = true := decide_eq_true c22
 have c22e : 4 + t386.size + 1 + t387.size + 1 + t388.size + 1 + a0_4.size + 1 + t389.size + 1 + t390.size + 1 + a0_7.size + 1 + t391.size ≤ 9223372036854775807 := by have h_ := c22; simp only [ByteArray.size_append] at h_; exact h_
 have c22e0 := eq_true c22e
 have c22e1 : decide (4 + t386.size + 1 + t387.size + 1 + t388.size + 1 + a0_4.size + 1 + t389.size + 1 + t390.size + 1 + a0_7.size + 1 + t391.size ≤ 9223372036854775807) = true := decide_eq_true c22e
 have c22e2 : (9223372036854775807 < 4 + t386.size + 1 + t387.size + 1 + t388.size + 1 + a0_4.size + 1 + t389.size + 1 + t390.size + 1 + a0_7.size + 1 + t391.size) = False := eq_false (Nat.not_lt.2 c22e)
 try have c22b2 : (9223372036854775807 < (((((((((((((((⟨#[100, 97, 121, 32]⟩ : ByteArray) ++ t386) ++ (⟨#[32]⟩ : ByteArray)) ++ t387) ++ (⟨#[32]⟩ : ByteArray)) ++ t388) ++ (⟨#[32]⟩ : ByteArray)) ++ a0_4) ++ (⟨#[32]⟩ : ByteArray)) ++ t389) ++ (⟨#[32]⟩ : ByteArray)) ++ t390) ++ (⟨#[32]⟩ : ByteArray)) ++ a0_7) ++ (⟨#[32]⟩ : ByteArray)).size + t391.size) = False := eq_false (Nat.not_lt.2 c22)
 have HC23 := am_ H
 clear H
 go_enter Tryd.func16, Tryd.ntmps16
 try go_wp2_with (first | ((with_reducible refine gate_dst (N := 1) rfl ?_); refine bx_ (w := w) (N := 1) (cs := #[.int .i64 a0_0, .int .i64 a0_1, .int .i64 a0_2, .int .i64 a0_3, .string a0_4, .int .i64 a0_5, .int .i64 a0_6, .string a0_7, .int .i64 a0_8, .int .i64 a0_9, .int .i64 a0_10, .int .i64 a0_11, .slice A0_12 l0_12.length c0_12, .slice A0_13 l0_13.length c0_13]) (t := 40) ?_; intro gb385 w24 BK385 n0_ GW385 GE385; clear HB; have HB := n0_; clear n0_))
 replace BK385 := am_ (blk_drew BK385.out)
 replace HB := am_ (below_drew1 HB.out)
 refine start_ (n := 40) (S := fun w' => w'.cell? ⟨gb385, 0, none⟩ = some (.int .i64 a0_0) ∧ w'.cell? ⟨gb385, 1, none⟩ = some (.int .i64 a0_1) ∧ w'.cell? ⟨gb385, 2, none⟩ = some (.int .i64 a0_2) ∧ w'.cell? ⟨gb385, 3, none⟩ = some (.int .i64 a0_3) ∧ w'.cell? ⟨gb385, 4, none⟩ = some (.string a0_4) ∧ w'.cell? ⟨gb385, 5, none⟩ = some (.int .i64 a0_5) ∧ w'.cell? ⟨gb385, 6, none⟩ = some (.int .i64 a0_6) ∧ w'.cell? ⟨gb385, 7, none⟩ = some (.string a0_7) ∧ w'.cell? ⟨gb385, 8, none⟩ = some (.int .i64 a0_8) ∧ w'.cell? ⟨gb385, 9, none⟩ = some (.int .i64 a0_9) ∧ w'.cell? ⟨gb385, 10, none⟩ = some (.int .i64 a0_10) ∧ w'.cell? ⟨gb385, 11, none⟩ = some (.int .i64 a0_11) ∧ w'.cell? ⟨gb385, 12, none⟩ = some (.slice A0_12 l0_12.length c0_12) ∧ w'.cell? ⟨gb385, 13, none⟩ = some (.slice A0_13 l0_13.length c0_13)) (ds := []) (bf_ 40 0) (by kernel_rfl) rfl rfl ⟨(blk_cell BK385.out 0).trans rfl, (blk_cell BK385.out 1).trans rfl, (blk_cell BK385.out 2).trans rfl, (blk_cell BK385.out 3).trans rfl, (blk_cell BK385.out 4).trans rfl, (blk_cell BK385.out 5).trans rfl, (blk_cell BK385.out 6).trans rfl, (blk_cell BK385.out 7).trans rfl, (blk_cell BK385.out 8).trans rfl, (blk_cell BK385.out 9).trans rfl, (blk_cell BK385.out 10).trans rfl, (blk_cell BK385.out 11).trans rfl, (blk_cell BK385.out 12).trans rfl, (blk_cell BK385.out 13).trans rfl⟩ (fun hHeld => ?_); refine with_tabW computusref27_Line.tab1 computusref27_Line.bits1 (fun HT_ HW_ => ?_)
 generalize w24.drew = w25 at BK385 HB hHeld ⊢
 refine pu_ 0 (some 6) (bf_ 40 1) HT_.out ?_
 refine pu_ 1 (some 7) (bf_ 40 3) HT_.out ?_
 refine pu_ 6 (some 12) (bf_ 40 67) HT_.out ?_
 refine pu_ 7 (some 13) (bf_ 40 195) HT_.out ?_
 refine pu_ 12 (some 18) (bf_ 40 4291) HT_.out ?_
 refine pu_ 17 (some 23) (bf_ 40 135363) HT_.out ?_
 refine pu_ 21 (some 27) (bf_ 40 2232515) HT_.out ?_
 refine pu_ 26 (some 32) (bf_ 40 69341379) HT_.out ?_
 refine pu_ 31 (some 37) (bf_ 40 2216825027) HT_.out ?_
 refine pu_ 35 (some 41) (bf_ 40 36576563395) HT_.out ?_
 refine ta_ 2 (some 8) (bf_ 40 36576563399) HT_.out HW_.out hHeld ?_
 refine ta_ 8 (some 14) (bf_ 40 36576563655) HT_.out HW_.out hHeld ?_
 refine ta_ 13 (some 19) (bf_ 40 36576571847) HT_.out HW_.out hHeld ?_
 refine ta_ 18 (some 24) (bf_ 40 36576833991) HT_.out HW_.out hHeld ?_
 refine ta_ 22 (some 28) (bf_ 40 36581028295) HT_.out HW_.out hHeld ?_
 refine ta_ 27 (some 33) (bf_ 40 36715246023) HT_.out HW_.out hHeld ?_
 refine ta_ 32 (some 38) (bf_ 40 41010213319) HT_.out HW_.out hHeld ?_
 refine ta_ 36 (some 42) (bf_ 40 109729690055) HT_.out HW_.out hHeld ?_
 refine one_ (i := 3) (N := some 9) (bf_ 40 109729690063) rfl rfl (one_of HT_.out (by kernel_rfl)) (by decide) (fun K hK => ?_)
 refine goes_ Tryd.func39 (by kernel_rfl) rfl #[.int .i64 a0_1] (by rfl) rfl rfl (by (try simp only [List.map_toArray, List.map_cons, List.map_nil]); first | done | rfl | (simp only [List.length_drop, List.length_take]; rfl)) ?_
 with_reducible refine (computusref26_Num.calls k a0_1 t386 _ A2.out).mono ?_
 rintro e w' ⟨rfl, ⟨nd, rfl⟩⟩
 refine ⟨_, rfl, ?_⟩
 refine hK.out _ _ (by first | exact ⟨(blk_cell BK385.out 0).trans rfl, (blk_cell BK385.out 1).trans rfl, (blk_cell BK385.out 2).trans rfl, (blk_cell BK385.out 3).trans rfl, (blk_cell BK385.out 4).trans rfl, (blk_cell BK385.out 5).trans rfl, (blk_cell BK385.out 6).trans rfl, (blk_cell BK385.out 7).trans rfl, (blk_cell BK385.out 8).trans rfl, (blk_cell BK385.out 9).trans rfl, (blk_cell BK385.out 10).trans rfl, (blk_cell BK385.out 11).trans rfl, (blk_cell BK385.out 12).trans rfl, (blk_cell BK385.out 13).trans rfl⟩ | exact hHeld) (fun hHeld => ?_)
 clear hK K
 refine norm_ (a' := ?_) ?_ ?_
 rotate_left
 ·show Act.put _ (some 9) _ = _
  simp only [Act.put, sA_, sZ_, sS_, i64_w, i32_w]
  rfl
 refine pu_ 4 (some 10) (bf_ 40 109729690079) HT_.out ?_
 refine pu_ 5 (some 11) (bf_ 40 109729690111) HT_.out ?_
 refine one_ (i := 9) (N := some 15) (bf_ 40 109729690623) rfl rfl (one_of HT_.out (by kernel_rfl)) (by decide) (fun K hK => ?_)
 refine goes_ Tryd.func39 (by kernel_rfl) rfl #[.int .i64 a0_2] (by rfl) rfl rfl (by (try simp only [List.map_toArray, List.map_cons, List.map_nil]); first | done | rfl | (simp only [List.length_drop, List.length_take]; rfl)) ?_
 with_reducible refine (computusref26_Num.calls k a0_2 t387 _ A5.out).mono ?_
 rintro e w' ⟨rfl, ⟨nd, rfl⟩⟩
 refine ⟨_, rfl, ?_⟩
 refine hK.out _ _ (by first | exact ⟨(blk_cell BK385.out 0).trans rfl, (blk_cell BK385.out 1).trans rfl, (blk_cell BK385.out 2).trans rfl, (blk_cell BK385.out 3).trans rfl, (blk_cell BK385.out 4).trans rfl, (blk_cell BK385.out 5).trans rfl, (blk_cell BK385.out 6).trans rfl, (blk_cell BK385.out 7).trans rfl, (blk_cell BK385.out 8).trans rfl, (blk_cell BK385.out 9).trans rfl, (blk_cell BK385.out 10).trans rfl, (blk_cell BK385.out 11).trans rfl, (blk_cell BK385.out 12).trans rfl, (blk_cell BK385.out 13).trans rfl⟩ | exact hHeld) (fun hHeld => ?_)
 clear hK K
 refine norm_ (a' := ?_) ?_ ?_
 rotate_left
 ·show Act.put _ (some 15) _ = _
  simp only [Act.put, sA_, sZ_, sS_, i64_w, i32_w]
  rfl
 refine pu_ 10 (some 16) (bf_ 40 109729691647) HT_.out ?_
 refine pu_ 11 (some 17) (bf_ 40 109729693695) HT_.out ?_
 refine one_ (i := 14) (N := some 20) (bf_ 40 109729710079) rfl rfl (one_of HT_.out (by kernel_rfl)) (by decide) (fun K hK => ?_)
 refine goes_ Tryd.func40 (by kernel_rfl) rfl #[.int .i64 a0_3] (by rfl) rfl rfl (by (try simp only [List.map_toArray, List.map_cons, List.map_nil]); first | done | rfl | (simp only [List.length_drop, List.length_take]; rfl)) ?_
 with_reducible refine (computusref04_Name.calls a0_3 t388 _ A8.out).mono ?_
 rintro e w' ⟨rfl, ⟨nd, rfl⟩⟩
 refine ⟨_, rfl, ?_⟩
 refine hK.out _ _ (by first | exact ⟨(blk_cell BK385.out 0).trans rfl, (blk_cell BK385.out 1).trans rfl, (blk_cell BK385.out 2).trans rfl, (blk_cell BK385.out 3).trans rfl, (blk_cell BK385.out 4).trans rfl, (blk_cell BK385.out 5).trans rfl, (blk_cell BK385.out 6).trans rfl, (blk_cell BK385.out 7).trans rfl, (blk_cell BK385.out 8).trans rfl, (blk_cell BK385.out 9).trans rfl, (blk_cell BK385.out 10).trans rfl, (blk_cell BK385.out 11).trans rfl, (blk_cell BK385.out 12).trans rfl, (blk_cell BK385.out 13).trans rfl⟩ | exact hHeld) (fun hHeld => ?_)
 clear hK K
 refine norm_ (a' := ?_) ?_ ?_
 rotate_left
 ·show Act.put _ (some 20) _ = _
  simp only [Act.put, sA_, sZ_, sS_, i64_w, i32_w]
  rfl
 refine pu_ 15 (some 21) (bf_ 40 109729742847) HT_.out ?_
 refine pu_ 16 (some 22) (bf_ 40 109729808383) HT_.out ?_
 refine pu_ 19 (some 25) (bf_ 40 109730332671) HT_.out ?_
 refine pu_ 20 (some 26) (bf_ 40 109731381247) HT_.out ?_
 refine one_ (i := 23) (N := some 29) (bf_ 40 109739769855) rfl rfl (one_of HT_.out (by kernel_rfl)) (by decide) (fun K hK => ?_)
 refine goes_ Tryd.func39 (by kernel_rfl) rfl #[.int .i64 a0_5] (by rfl) rfl rfl (by (try simp only [List.map_toArray, List.map_cons, List.map_nil]); first | done | rfl | (simp only [List.length_drop, List.length_take]; rfl)) ?_
 with_reducible refine (computusref26_Num.calls k a0_5 t389 _ A13.out).mono ?_
 rintro e w' ⟨rfl, ⟨nd, rfl⟩⟩
 refine ⟨_, rfl, ?_⟩
 refine hK.out _ _ (by first | exact ⟨(blk_cell BK385.out 0).trans rfl, (blk_cell BK385.out 1).trans rfl, (blk_cell BK385.out 2).trans rfl, (blk_cell BK385.out 3).trans rfl, (blk_cell BK385.out 4).trans rfl, (blk_cell BK385.out 5).trans rfl, (blk_cell BK385.out 6).trans rfl, (blk_cell BK385.out 7).trans rfl, (blk_cell BK385.out 8).trans rfl, (blk_cell BK385.out 9).trans rfl, (blk_cell BK385.out 10).trans rfl, (blk_cell BK385.out 11).trans rfl, (blk_cell BK385.out 12).trans rfl, (blk_cell BK385.out 13).trans rfl⟩ | exact hHeld) (fun hHeld => ?_)
 clear hK K
 refine norm_ (a' := ?_) ?_ ?_
 rotate_left
 ·show Act.put _ (some 29) _ = _
  simp only [Act.put, sA_, sZ_, sS_, i64_w, i32_w]
  rfl
 refine pu_ 24 (some 30) (bf_ 40 109756547071) HT_.out ?_
 refine pu_ 25 (some 31) (bf_ 40 109790101503) HT_.out ?_
 refine one_ (i := 28) (N := some 34) (bf_ 40 110058536959) rfl rfl (one_of HT_.out (by kernel_rfl)) (by decide) (fun K hK => ?_)
 refine goes_ Tryd.func41 (by kernel_rfl) rfl #[.int .i64 a0_6] (by rfl) rfl rfl (by (try simp only [List.map_toArray, List.map_cons, List.map_nil]); first | done | rfl | (simp only [List.length_drop, List.length_take]; rfl)) ?_
 with_reducible refine (computusref27_kind.calls a0_6 t390 _ A16.out).mono ?_
 rintro e w' ⟨rfl, ⟨nd, rfl⟩⟩
 refine ⟨_, rfl, ?_⟩
 refine hK.out _ _ (by first | exact ⟨(blk_cell BK385.out 0).trans rfl, (blk_cell BK385.out 1).trans rfl, (blk_cell BK385.out 2).trans rfl, (blk_cell BK385.out 3).trans rfl, (blk_cell BK385.out 4).trans rfl, (blk_cell BK385.out 5).trans rfl, (blk_cell BK385.out 6).trans rfl, (blk_cell BK385.out 7).trans rfl, (blk_cell BK385.out 8).trans rfl, (blk_cell BK385.out 9).trans rfl, (blk_cell BK385.out 10).trans rfl, (blk_cell BK385.out 11).trans rfl, (blk_cell BK385.out 12).trans rfl, (blk_cell BK385.out 13).trans rfl⟩ | exact hHeld) (fun hHeld => ?_)
 clear hK K
 refine norm_ (a' := ?_) ?_ ?_
 rotate_left
 ·show Act.put _ (some 34) _ = _
  simp only [Act.put, sA_, sZ_, sS_, i64_w, i32_w]
  rfl
 refine pu_ 29 (some 35) (bf_ 40 110595407871) HT_.out ?_
 refine pu_ 30 (some 36) (bf_ 40 111669149695) HT_.out ?_
 refine pu_ 33 (some 39) (bf_ 40 120259084287) HT_.out ?_
 refine pu_ 34 (some 40) (bf_ 40 137438953471) HT_.out ?_
 refine one_ (i := 37) (N := some 43) (bf_ 40 274877906943) rfl rfl (one_of HT_.out (by kernel_rfl)) (by decide) (fun K hK => ?_)
 refine goes_ Tryd.func39 (by kernel_rfl) rfl #[.int .i64 a0_8] (by rfl) rfl rfl (by (try simp only [List.map_toArray, List.map_cons, List.map_nil]); first | done | rfl | (simp only [List.length_drop, List.length_take]; rfl)) ?_
 with_reducible refine (computusref26_Num.calls k a0_8 t391 _ A21.out).mono ?_
 rintro e w' ⟨rfl, ⟨nd, rfl⟩⟩
 refine ⟨_, rfl, ?_⟩
 refine hK.out _ _ (by first | exact ⟨(blk_cell BK385.out 0).trans rfl, (blk_cell BK385.out 1).trans rfl, (blk_cell BK385.out 2).trans rfl, (blk_cell BK385.out 3).trans rfl, (blk_cell BK385.out 4).trans rfl, (blk_cell BK385.out 5).trans rfl, (blk_cell BK385.out 6).trans rfl, (blk_cell BK385.out 7).trans rfl, (blk_cell BK385.out 8).trans rfl, (blk_cell BK385.out 9).trans rfl, (blk_cell BK385.out 10).trans rfl, (blk_cell BK385.out 11).trans rfl, (blk_cell BK385.out 12).trans rfl, (blk_cell BK385.out 13).trans rfl⟩ | exact hHeld) (fun hHeld => ?_)
 clear hK K
 refine norm_ (a' := ?_) ?_ ?_
 rotate_left
 ·show Act.put _ (some 43) _ = _
  simp only [Act.put, sA_, sZ_, sS_, i64_w, i32_w]
  rfl
 refine pu_ 38 (some 44) (bf_ 40 549755813887) HT_.out ?_
 refine pu_ 39 (some 3) (bf_ 40 1099511627775) HT_.out ?_
 refine done_ (done_of HT_.out (by kernel_rfl)) ?_
 have hcz26_0 : w25.cell? ⟨gb385, 0, none⟩ = some (.int .i64 a0_0) := (blk_cell BK385.out 0).trans rfl
 have hcz26_1 : w25.cell? ⟨gb385, 1, none⟩ = some (.int .i64 a0_1) := (blk_cell BK385.out 1).trans rfl
 have hcz26_2 : w25.cell? ⟨gb385, 2, none⟩ = some (.int .i64 a0_2) := (blk_cell BK385.out 2).trans rfl
 have hcz26_3 : w25.cell? ⟨gb385, 3, none⟩ = some (.int .i64 a0_3) := (blk_cell BK385.out 3).trans rfl
 have hcz26_4 : w25.cell? ⟨gb385, 4, none⟩ = some (.string a0_4) := (blk_cell BK385.out 4).trans rfl
 have hcz26_5 : w25.cell? ⟨gb385, 5, none⟩ = some (.int .i64 a0_5) := (blk_cell BK385.out 5).trans rfl
 have hcz26_6 : w25.cell? ⟨gb385, 6, none⟩ = some (.int .i64 a0_6) := (blk_cell BK385.out 6).trans rfl
 have hcz26_7 : w25.cell? ⟨gb385, 7, none⟩ = some (.string a0_7) := (blk_cell BK385.out 7).trans rfl
 have hcz26_8 : w25.cell? ⟨gb385, 8, none⟩ = some (.int .i64 a0_8) := (blk_cell BK385.out 8).trans rfl
 have hcz26_9 : w25.cell? ⟨gb385, 9, none⟩ = some (.int .i64 a0_9) := (blk_cell BK385.out 9).trans rfl
 have hcz26_10 : w25.cell? ⟨gb385, 10, none⟩ = some (.int .i64 a0_10) := (blk_cell BK385.out 10).trans rfl
 have hcz26_11 : w25.cell? ⟨gb385, 11, none⟩ = some (.int .i64 a0_11) := (blk_cell BK385.out 11).trans rfl
 have hcz26_12 : w25.cell? ⟨gb385, 12, none⟩ = some (.slice A0_12 l0_12.length c0_12) := (blk_cell BK385.out 12).trans rfl
 have hcz26_13 : w25.cell? ⟨gb385, 13, none⟩ = some (.slice A0_13 l0_13.length c0_13) := (blk_cell BK385.out 13).trans rfl
 have hfz26_0 := blk_frozen BK385.out 0
 have hfz26_1 := blk_frozen BK385.out 1
 have hfz26_2 := blk_frozen BK385.out 2
 have hfz26_3 := blk_frozen BK385.out 3
 have hfz26_4 := blk_frozen BK385.out 4
 have hfz26_5 := blk_frozen BK385.out 5
 have hfz26_6 := blk_frozen BK385.out 6
 have hfz26_7 := blk_frozen BK385.out 7
 have hfz26_8 := blk_frozen BK385.out 8
 have hfz26_9 := blk_frozen BK385.out 9
 have hfz26_10 := blk_frozen BK385.out 10
 have hfz26_11 := blk_frozen BK385.out 11
 have hfz26_12 := blk_frozen BK385.out 12
 have hfz26_13 := blk_frozen BK385.out 13
 go_upto_if 47 with (fail)
 go_cut [3] (fun v3 wc => ∃ (kq : Nat) (x3_22 : ByteArray), v3 = .string x3_22 ∧ Aside0 (computusref27_Line.j0 kq x3_22 a0_0 a0_1 a0_2 a0_3 a0_4 a0_5 a0_6 a0_7 a0_8 a0_9 a0_10 a0_11 l0_12 l0_13 = some r) ∧ Aside0 (kq ≤ k) ∧ Aside0 (wc.heap[gb385]? = some (.cells #[.int .i64 a0_0, .int .i64 a0_1, .int .i64 a0_2, .int .i64 a0_3, .string a0_4, .int .i64 a0_5, .int .i64 a0_6, .string a0_7, .int .i64 a0_8, .int .i64 a0_9, .int .i64 a0_10, .int .i64 a0_11, (.slice A0_12 l0_12.length c0_12), (.slice A0_13 l0_13.length c0_13)] 40 (0, 0))) ∧ Aside0 (Below w.heap.size w wc))
 case first =>
  have H := HC23.out
  clear HC23
  by_cases c27 : a0_6 = 3
  rotate_left
  ·rw [if_neg c27] at H
   have c27b0 : (a0_6 == 3) = false := beq_eq_false_iff_ne.mpr c27
   have c27b1 : (a0_6 != 3) = true := bne_iff_ne.mpr c27
   (first | rw [c27b0] | (simp only [i64_w, i32_w]; rw [c27b0]) | skip)
   have H' := am_ H
   clear H
   go_wp2
   go_meet
   case rel => exact ⟨_, ((((((((((((((((⟨#[100, 97, 121, 32]⟩ : ByteArray) ++ t386) ++ (⟨#[32]⟩ : ByteArray)) ++ t387) ++ (⟨#[32]⟩ : ByteArray)) ++ t388) ++ (⟨#[32]⟩ : ByteArray)) ++ a0_4) ++ (⟨#[32]⟩ : ByteArray)) ++ t389) ++ (⟨#[32]⟩ : ByteArray)) ++ t390) ++ (⟨#[32]⟩ : ByteArray)) ++ a0_7) ++ (⟨#[32]⟩ : ByteArray)) ++ t391), rs_, H', ⟨by first | omega | exact Nat.le_refl _⟩, ⟨bk_ BK385.out⟩, ⟨bh_⟩⟩
  rw [if_pos c27] at H
  have c27b0 : (a0_6 == 3) = true := beq_iff_eq.mpr c27
  have c27b1 : (a0_6 != 3) = false := bne_eq_false_iff_eq.mpr c27
  clear c27
  (first | rw [c27b0] | (simp only [i64_w, i32_w]; rw [c27b0]) | skip)
  by_cases c28 : ((((((((((((((((⟨#[100, 97, 121, 32]⟩ : ByteArray) ++ t386) ++ (⟨#[32]⟩ : ByteArray)) ++ t387) ++ (⟨#[32]⟩ : ByteArray)) ++ t388) ++ (⟨#[32]⟩ : ByteArray)) ++ a0_4) ++ (⟨#[32]⟩ : ByteArray)) ++ t389) ++ (⟨#[32]⟩ : ByteArray)) ++ t390) ++ (⟨#[32]⟩ : ByteArray)) ++ a0_7) ++ (⟨#[32]⟩ : ByteArray)) ++ t391).size + 6 ≤ 9223372036854775807
  rotate_left
  ·rw [if_neg c28] at H
   exact absurd H (by simp)
  rw [if_pos c28] at H
  have c28b0 := eq_true c28
  have c28b1 : decide (((((((((((((((((⟨#[100, 97, 121, 32]⟩ : ByteArray) ++ t386) ++ (⟨#[32]⟩ : ByteArray)) ++ t387) ++ (⟨#[32]⟩ : ByteArray)) ++ t388) ++ (⟨#[32]⟩ : ByteArray)) ++ a0_4) ++ (⟨#[32]⟩ : ByteArray)) ++ t389) ++ (⟨#[32]⟩ : ByteArray)) ++ t390) ++ (⟨#[32]⟩ : ByteArray)) ++ a0_7) ++ (⟨#[32]⟩ : ByteArray)) ++ t391).size + 6 ≤ 9223372036854775807) = true := decide_eq_true c28
  have c28e : 4 + t386.size + 1 + t387.size + 1 + t388.size + 1 + a0_4.size + 1 + t389.size + 1 + t390.size + 1 + a0_7.size + 1 + t391.size + 6 ≤ 9223372036854775807 := by have h_ := c28; simp only [ByteArray.size_append] at h_; exact h_
  have c28e0 := eq_true c28e
  have c28e1 : decide (4 + t386.size + 1 + t387.size + 1 + t388.size + 1 + a0_4.size + 1 + t389.size + 1 + t390.size + 1 + a0_7.size + 1 + t391.size + 6 ≤ 9223372036854775807) = true := decide_eq_true c28e
  have c28e2 : (9223372036854775807 < 4 + t386.size + 1 + t387.size + 1 + t388.size + 1 + a0_4.size + 1 + t389.size + 1 + t390.size + 1 + a0_7.size + 1 + t391.size + 6) = False := eq_false (Nat.not_lt.2 c28e)
  try have c28b2 : (9223372036854775807 < ((((((((((((((((⟨#[100, 97, 121, 32]⟩ : ByteArray) ++ t386) ++ (⟨#[32]⟩ : ByteArray)) ++ t387) ++ (⟨#[32]⟩ : ByteArray)) ++ t388) ++ (⟨#[32]⟩ : ByteArray)) ++ a0_4) ++ (⟨#[32]⟩ : ByteArray)) ++ t389) ++ (⟨#[32]⟩ : ByteArray)) ++ t390) ++ (⟨#[32]⟩ : ByteArray)) ++ a0_7) ++ (⟨#[32]⟩ : ByteArray)) ++ t391).size + 6) = False := eq_false (Nat.not_lt.2 c28)
  obtain ⟨t392, A29, H⟩ := bs_ H
  by_cases c30 : (((((((((((((((((⟨#[100, 97, 121, 32]⟩ : ByteArray) ++ t386) ++ (⟨#[32]⟩ : ByteArray)) ++ t387) ++ (⟨#[32]⟩ : ByteArray)) ++ t388) ++ (⟨#[32]⟩ : ByteArray)) ++ a0_4) ++ (⟨#[32]⟩ : ByteArray)) ++ t389) ++ (⟨#[32]⟩ : ByteArray)) ++ t390) ++ (⟨#[32]⟩ : ByteArray)) ++ a0_7) ++ (⟨#[32]⟩ : ByteArray)) ++ t391) ++ (⟨#[32, 102, 114, 111, 109, 32]⟩ : ByteArray)).size + t392.size ≤ 9223372036854775807
  rotate_left
  ·rw [if_neg c30] at H
   exact absurd H (by simp)
  rw [if_pos c30] at H
  have c30b0 := eq_true c30
  have c30b1 : decide ((((((((((((((((((⟨#[100, 97, 121, 32]⟩ : ByteArray) ++ t386) ++ (⟨#[32]⟩ : ByteArray)) ++ t387) ++ (⟨#[32]⟩ : ByteArray)) ++ t388) ++ (⟨#[32]⟩ : ByteArray)) ++ a0_4) ++ (⟨#[32]⟩ : ByteArray)) ++ t389) ++ (⟨#[32]⟩ : ByteArray)) ++ t390) ++ (⟨#[32]⟩ : ByteArray)) ++ a0_7) ++ (⟨#[32]⟩ : ByteArray)) ++ t391) ++ (⟨#[32, 102, 114, 111, 109, 32]⟩ : ByteArray)).size + t392.size ≤ 9223372036854775807) = true := decide_eq_true c30
  have c30e : 4 + t386.size + 1 + t387.size + 1 + t388.size + 1 + a0_4.size + 1 + t389.size + 1 + t390.size + 1 + a0_7.size + 1 + t391.size + 6 + t392.size ≤ 9223372036854775807 := by have h_ := c30; simp only [ByteArray.size_append] at h_; exact h_
  have c30e0 := eq_true c30e
  have c30e1 : decide (4 + t386.size + 1 + t387.size + 1 + t388.size + 1 + a0_4.size + 1 + t389.size + 1 + t390.size + 1 + a0_7.size + 1 + t391.size + 6 + t392.size ≤ 9223372036854775807) = true := decide_eq_true c30e
  have c30e2 : (9223372036854775807 < 4 + t386.size + 1 + t387.size + 1 + t388.size + 1 + a0_4.size + 1 + t389.size + 1 + t390.size + 1 + a0_7.size + 1 + t391.size + 6 + t392.size) = False := eq_false (Nat.not_lt.2 c30e)
  try have c30b2 : (9223372036854775807 < (((((((((((((((((⟨#[100, 97, 121, 32]⟩ : ByteArray) ++ t386) ++ (⟨#[32]⟩ : ByteArray)) ++ t387) ++ (⟨#[32]⟩ : ByteArray)) ++ t388) ++ (⟨#[32]⟩ : ByteArray)) ++ a0_4) ++ (⟨#[32]⟩ : ByteArray)) ++ t389) ++ (⟨#[32]⟩ : ByteArray)) ++ t390) ++ (⟨#[32]⟩ : ByteArray)) ++ a0_7) ++ (⟨#[32]⟩ : ByteArray)) ++ t391) ++ (⟨#[32, 102, 114, 111, 109, 32]⟩ : ByteArray)).size + t392.size) = False := eq_false (Nat.not_lt.2 c30)
  by_cases c31 : ((((((((((((((((((⟨#[100, 97, 121, 32]⟩ : ByteArray) ++ t386) ++ (⟨#[32]⟩ : ByteArray)) ++ t387) ++ (⟨#[32]⟩ : ByteArray)) ++ t388) ++ (⟨#[32]⟩ : ByteArray)) ++ a0_4) ++ (⟨#[32]⟩ : ByteArray)) ++ t389) ++ (⟨#[32]⟩ : ByteArray)) ++ t390) ++ (⟨#[32]⟩ : ByteArray)) ++ a0_7) ++ (⟨#[32]⟩ : ByteArray)) ++ t391) ++ (⟨#[32, 102, 114, 111, 109, 32]⟩ : ByteArray)) ++ t392).size + 1 ≤ 9223372036854775807
  rotate_left
  ·rw [if_neg c31] at H
   exact absurd H (by simp)
  rw [if_pos c31] at H
  have c31b0 := eq_true c31
  have c31b1 : decide (((((((((((((((((((⟨#[100, 97, 121, 32]⟩ : ByteArray) ++ t386) ++ (⟨#[32]⟩ : ByteArray)) ++ t387) ++ (⟨#[32]⟩ : ByteArray)) ++ t388) ++ (⟨#[32]⟩ : ByteArray)) ++ a0_4) ++ (⟨#[32]⟩ : ByteArray)) ++ t389) ++ (⟨#[32]⟩ : ByteArray)) ++ t390) ++ (⟨#[32]⟩ : ByteArray)) ++ a0_7) ++ (⟨#[32]⟩ : ByteArray)) ++ t391) ++ (⟨#[32, 102, 114, 111, 109, 32]⟩ : ByteArray)) ++ t392).size + 1 ≤ 9223372036854775807) = true := decide_eq_true c31
  have c31e : 4 + t386.size + 1 + t387.size + 1 + t388.size + 1 + a0_4.size + 1 + t389.size + 1 + t390.size + 1 + a0_7.size + 1 + t391.size + 6 + t392.size + 1 ≤ 9223372036854775807 := by have h_ := c31; simp only [ByteArray.size_append] at h_; exact h_
  have c31e0 := eq_true c31e
  have c31e1 : decide (4 + t386.size + 1 + t387.size + 1 + t388.size + 1 + a0_4.size + 1 + t389.size + 1 + t390.size + 1 + a0_7.size + 1 + t391.size + 6 + t392.size + 1 ≤ 9223372036854775807) = true := decide_eq_true c31e
  have c31e2 : (9223372036854775807 < 4 + t386.size + 1 + t387.size + 1 + t388.size + 1 + a0_4.size + 1 + t389.size + 1 + t390.size + 1 + a0_7.size + 1 + t391.size + 6 + t392.size + 1) = False := eq_false (Nat.not_lt.2 c31e)
  try have c31b2 : (9223372036854775807 < ((((((((((((((((((⟨#[100, 97, 121, 32]⟩ : ByteArray) ++ t386) ++ (⟨#[32]⟩ : ByteArray)) ++ t387) ++ (⟨#[32]⟩ : ByteArray)) ++ t388) ++ (⟨#[32]⟩ : ByteArray)) ++ a0_4) ++ (⟨#[32]⟩ : ByteArray)) ++ t389) ++ (⟨#[32]⟩ : ByteArray)) ++ t390) ++ (⟨#[32]⟩ : ByteArray)) ++ a0_7) ++ (⟨#[32]⟩ : ByteArray)) ++ t391) ++ (⟨#[32, 102, 114, 111, 109, 32]⟩ : ByteArray)) ++ t392).size + 1) = False := eq_false (Nat.not_lt.2 c31)
  obtain ⟨t393, A32, H⟩ := bs_ H
  by_cases c33 : (((((((((((((((((((⟨#[100, 97, 121, 32]⟩ : ByteArray) ++ t386) ++ (⟨#[32]⟩ : ByteArray)) ++ t387) ++ (⟨#[32]⟩ : ByteArray)) ++ t388) ++ (⟨#[32]⟩ : ByteArray)) ++ a0_4) ++ (⟨#[32]⟩ : ByteArray)) ++ t389) ++ (⟨#[32]⟩ : ByteArray)) ++ t390) ++ (⟨#[32]⟩ : ByteArray)) ++ a0_7) ++ (⟨#[32]⟩ : ByteArray)) ++ t391) ++ (⟨#[32, 102, 114, 111, 109, 32]⟩ : ByteArray)) ++ t392) ++ (⟨#[32]⟩ : ByteArray)).size + t393.size ≤ 9223372036854775807
  rotate_left
  ·rw [if_neg c33] at H
   exact absurd H (by simp)
  rw [if_pos c33] at H
  have c33b0 := eq_true c33
  have c33b1 : decide ((((((((((((((((((((⟨#[100, 97, 121, 32]⟩ : ByteArray) ++ t386) ++ (⟨#[32]⟩ : ByteArray)) ++ t387) ++ (⟨#[32]⟩ : ByteArray)) ++ t388) ++ (⟨#[32]⟩ : ByteArray)) ++ a0_4) ++ (⟨#[32]⟩ : ByteArray)) ++ t389) ++ (⟨#[32]⟩ : ByteArray)) ++ t390) ++ (⟨#[32]⟩ : ByteArray)) ++ a0_7) ++ (⟨#[32]⟩ : ByteArray)) ++ t391) ++ (⟨#[32, 102, 114, 111, 109, 32]⟩ : ByteArray)) ++ t392) ++ (⟨#[32]⟩ : ByteArray)).size + t393.size ≤ 9223372036854775807) = true := decide_eq_true c33
  have c33e : 4 + t386.size + 1 + t387.size + 1 + t388.size + 1 + a0_4.size + 1 + t389.size + 1 + t390.size + 1 + a0_7.size + 1 + t391.size + 6 + t392.size + 1 + t393.size ≤ 9223372036854775807 := by have h_ := c33; simp only [ByteArray.size_append] at h_; exact h_
  have c33e0 := eq_true c33e
  have c33e1 : decide (4 + t386.size + 1 + t387.size + 1 + t388.size + 1 + a0_4.size + 1 + t389.size + 1 + t390.size + 1 + a0_7.size + 1 + t391.size + 6 + t392.size + 1 + t393.size ≤ 9223372036854775807) = true := decide_eq_true c33e
  have c33e2 : (9223372036854775807 < 4 + t386.size + 1 + t387.size + 1 + t388.size + 1 + a0_4.size + 1 + t389.size + 1 + t390.size + 1 + a0_7.size + 1 + t391.size + 6 + t392.size + 1 + t393.size) = False := eq_false (Nat.not_lt.2 c33e)
  try have c33b2 : (9223372036854775807 < (((((((((((((((((((⟨#[100, 97, 121, 32]⟩ : ByteArray) ++ t386) ++ (⟨#[32]⟩ : ByteArray)) ++ t387) ++ (⟨#[32]⟩ : ByteArray)) ++ t388) ++ (⟨#[32]⟩ : ByteArray)) ++ a0_4) ++ (⟨#[32]⟩ : ByteArray)) ++ t389) ++ (⟨#[32]⟩ : ByteArray)) ++ t390) ++ (⟨#[32]⟩ : ByteArray)) ++ a0_7) ++ (⟨#[32]⟩ : ByteArray)) ++ t391) ++ (⟨#[32, 102, 114, 111, 109, 32]⟩ : ByteArray)) ++ t392) ++ (⟨#[32]⟩ : ByteArray)).size + t393.size) = False := eq_false (Nat.not_lt.2 c33)
  have H' := am_ H
  clear H
  try go_wp2
  have BKK385 := BK385
  have HBK_ := HB
  replace BK385 := am_ (blk_drew BK385.out)
  replace HB := am_ (below_drew1 HB.out)
  refine start_ (n := 14) (S := fun w' => w'.cell? ⟨gb385, 0, none⟩ = some (.int .i64 a0_0) ∧ w'.cell? ⟨gb385, 1, none⟩ = some (.int .i64 a0_1) ∧ w'.cell? ⟨gb385, 2, none⟩ = some (.int .i64 a0_2) ∧ w'.cell? ⟨gb385, 3, none⟩ = some (.int .i64 a0_3) ∧ w'.cell? ⟨gb385, 4, none⟩ = some (.string a0_4) ∧ w'.cell? ⟨gb385, 5, none⟩ = some (.int .i64 a0_5) ∧ w'.cell? ⟨gb385, 6, none⟩ = some (.int .i64 a0_6) ∧ w'.cell? ⟨gb385, 7, none⟩ = some (.string a0_7) ∧ w'.cell? ⟨gb385, 8, none⟩ = some (.int .i64 a0_8) ∧ w'.cell? ⟨gb385, 9, none⟩ = some (.int .i64 a0_9) ∧ w'.cell? ⟨gb385, 10, none⟩ = some (.int .i64 a0_10) ∧ w'.cell? ⟨gb385, 11, none⟩ = some (.int .i64 a0_11) ∧ w'.cell? ⟨gb385, 12, none⟩ = some (.slice A0_12 l0_12.length c0_12) ∧ w'.cell? ⟨gb385, 13, none⟩ = some (.slice A0_13 l0_13.length c0_13)) (ds := []) (bf_ 14 0) (by kernel_rfl) rfl rfl ⟨(blk_cell BK385.out 0).trans rfl, (blk_cell BK385.out 1).trans rfl, (blk_cell BK385.out 2).trans rfl, (blk_cell BK385.out 3).trans rfl, (blk_cell BK385.out 4).trans rfl, (blk_cell BK385.out 5).trans rfl, (blk_cell BK385.out 6).trans rfl, (blk_cell BK385.out 7).trans rfl, (blk_cell BK385.out 8).trans rfl, (blk_cell BK385.out 9).trans rfl, (blk_cell BK385.out 10).trans rfl, (blk_cell BK385.out 11).trans rfl, (blk_cell BK385.out 12).trans rfl, (blk_cell BK385.out 13).trans rfl⟩ (fun hHeld => ?_); refine with_tabW computusref27_Line.tab3 computusref27_Line.bits3 (fun HT_ HW_ => ?_)
  generalize w25.drew = w34 at BK385 HB hHeld ⊢
  refine pu_ 0 (some 48) (bf_ 14 1) HT_.out ?_
  refine pu_ 1 (some 49) (bf_ 14 3) HT_.out ?_
  refine pu_ 2 (some 50) (bf_ 14 7) HT_.out ?_
  refine pu_ 3 (some 51) (bf_ 14 15) HT_.out ?_
  refine pu_ 8 (some 56) (bf_ 14 271) HT_.out ?_
  refine pu_ 9 (some 57) (bf_ 14 783) HT_.out ?_
  refine ta_ 4 (some 52) (bf_ 14 799) HT_.out HW_.out hHeld ?_
  refine ta_ 10 (some 58) (bf_ 14 1823) HT_.out HW_.out hHeld ?_
  refine one_ (i := 5) (N := some 53) (bf_ 14 1855) rfl rfl (one_of HT_.out (by kernel_rfl)) (by decide) (fun K hK => ?_)
  refine goes_ Tryd.func39 (by kernel_rfl) rfl #[.int .i64 a0_10] (by rfl) rfl rfl (by (try simp only [List.map_toArray, List.map_cons, List.map_nil]); first | done | rfl | (simp only [List.length_drop, List.length_take]; rfl)) ?_
  with_reducible refine (computusref26_Num.calls k a0_10 t392 _ A29.out).mono ?_
  rintro e w' ⟨rfl, ⟨nd, rfl⟩⟩
  refine ⟨_, rfl, ?_⟩
  refine hK.out _ _ (by first | exact ⟨(blk_cell BK385.out 0).trans rfl, (blk_cell BK385.out 1).trans rfl, (blk_cell BK385.out 2).trans rfl, (blk_cell BK385.out 3).trans rfl, (blk_cell BK385.out 4).trans rfl, (blk_cell BK385.out 5).trans rfl, (blk_cell BK385.out 6).trans rfl, (blk_cell BK385.out 7).trans rfl, (blk_cell BK385.out 8).trans rfl, (blk_cell BK385.out 9).trans rfl, (blk_cell BK385.out 10).trans rfl, (blk_cell BK385.out 11).trans rfl, (blk_cell BK385.out 12).trans rfl, (blk_cell BK385.out 13).trans rfl⟩ | exact hHeld) (fun hHeld => ?_)
  clear hK K
  refine norm_ (a' := ?_) ?_ ?_
  rotate_left
  ·show Act.put _ (some 53) _ = _
   simp only [Act.put, sA_, sZ_, sS_, i64_w, i32_w]
   rfl
  refine pu_ 6 (some 54) (bf_ 14 1919) HT_.out ?_
  refine pu_ 7 (some 55) (bf_ 14 2047) HT_.out ?_
  refine one_ (i := 11) (N := some 59) (bf_ 14 4095) rfl rfl (one_of HT_.out (by kernel_rfl)) (by decide) (fun K hK => ?_)
  refine goes_ Tryd.func39 (by kernel_rfl) rfl #[.int .i64 a0_11] (by rfl) rfl rfl (by (try simp only [List.map_toArray, List.map_cons, List.map_nil]); first | done | rfl | (simp only [List.length_drop, List.length_take]; rfl)) ?_
  with_reducible refine (computusref26_Num.calls k a0_11 t393 _ A32.out).mono ?_
  rintro e w' ⟨rfl, ⟨nd, rfl⟩⟩
  refine ⟨_, rfl, ?_⟩
  refine hK.out _ _ (by first | exact ⟨(blk_cell BK385.out 0).trans rfl, (blk_cell BK385.out 1).trans rfl, (blk_cell BK385.out 2).trans rfl, (blk_cell BK385.out 3).trans rfl, (blk_cell BK385.out 4).trans rfl, (blk_cell BK385.out 5).trans rfl, (blk_cell BK385.out 6).trans rfl, (blk_cell BK385.out 7).trans rfl, (blk_cell BK385.out 8).trans rfl, (blk_cell BK385.out 9).trans rfl, (blk_cell BK385.out 10).trans rfl, (blk_cell BK385.out 11).trans rfl, (blk_cell BK385.out 12).trans rfl, (blk_cell BK385.out 13).trans rfl⟩ | exact hHeld) (fun hHeld => ?_)
  clear hK K
  refine norm_ (a' := ?_) ?_ ?_
  rotate_left
  ·show Act.put _ (some 59) _ = _
   simp only [Act.put, sA_, sZ_, sS_, i64_w, i32_w]
   rfl
  refine pu_ 12 (some 60) (bf_ 14 8191) HT_.out ?_
  refine pu_ 13 (some 3) (bf_ 14 16383) HT_.out ?_
  refine done_ (done_of HT_.out (by kernel_rfl)) ?_
  try go_wp2
  go_meet
  case rel => exact ⟨_, ((((((((((((((((((((⟨#[100, 97, 121, 32]⟩ : ByteArray) ++ t386) ++ (⟨#[32]⟩ : ByteArray)) ++ t387) ++ (⟨#[32]⟩ : ByteArray)) ++ t388) ++ (⟨#[32]⟩ : ByteArray)) ++ a0_4) ++ (⟨#[32]⟩ : ByteArray)) ++ t389) ++ (⟨#[32]⟩ : ByteArray)) ++ t390) ++ (⟨#[32]⟩ : ByteArray)) ++ a0_7) ++ (⟨#[32]⟩ : ByteArray)) ++ t391) ++ (⟨#[32, 102, 114, 111, 109, 32]⟩ : ByteArray)) ++ t392) ++ (⟨#[32]⟩ : ByteArray)) ++ t393), rs_, H', ⟨by first | omega | exact Nat.le_refl _⟩, ⟨by (with_reducible repeat (first | refine blk_drewN ?_ _ | refine blk_drew ?_ | refine blk_alloc ?_ _)); first | exact BK385.out | exact BKK385.out⟩, ⟨by repeat (first | (with_reducible first | exact HB.out | apply below_alloc | apply pw_below_drewN | apply below_drew1 | refine below_set ?_ GE385.out) | exact HB.out | exact HBK_.out)⟩⟩
 case rest =>
  clear HC23
  obtain ⟨kq, x3_22, rfl, HA, HJ22, BK385, HB⟩ := hcut
  cases kq with
  | zero => exact absurd HA.out (by simp [computusref27_Line.j0])
  | succ kj22 =>
   have H := HA.out
   clear HA
   simp only [computusref27_Line.j0] at H
   have H' := am_ H
   clear H
   go_wp2
   go_loopg [3, 4] kj22 (fun kq v3 v4 w' => ∃ (x3_2 : ByteArray) (x4_2 : Int), v3 = .string x3_2 ∧ v4 = .int .i64 x4_2 ∧ Aside0 (computusref27_Line.l0 kq x3_2 x4_2 a0_0 a0_1 a0_2 a0_3 a0_4 a0_5 a0_6 a0_7 a0_8 a0_9 a0_10 a0_11 l0_12 l0_13 = some r) ∧ Aside0 (kq ≤ kj22) ∧ Aside0 (w'.heap[gb385]? = some (.cells #[.int .i64 a0_0, .int .i64 a0_1, .int .i64 a0_2, .int .i64 a0_3, .string a0_4, .int .i64 a0_5, .int .i64 a0_6, .string a0_7, .int .i64 a0_8, .int .i64 a0_9, .int .i64 a0_10, .int .i64 a0_11, (.slice A0_12 l0_12.length c0_12), (.slice A0_13 l0_13.length c0_13)] 40 (0, 0))) ∧ Aside0 (Below w.heap.size w w'))
   case atStart => exact ⟨(x3_22), (0), rs_, rs_, H', ⟨Nat.le_refl _⟩, ⟨bk_ BK385.out⟩, ⟨bh_⟩⟩
   case round =>
    clear H'
    obtain ⟨x3_2, x4_2, rfl, rfl, HA, HK2, BK385, HB⟩ := hrel
    cases gk with
    | zero => exact absurd HA.out (by simp [computusref27_Line.l0])
    | succ k2 =>
     have H := HA.out
     clear HA
     simp only [computusref27_Line.l0] at H
     by_cases c35 : x4_2 < (l0_12.length : Int)
     ·rw [if_pos c35] at H
      have c35b0 : decide (x4_2 < (l0_12.length : Int)) = true := decide_eq_true c35
      clear c35
      by_cases c36 : x3_2.size + 6 ≤ 9223372036854775807
      rotate_left
      ·rw [if_neg c36] at H
       exact absurd H (by simp)
      rw [if_pos c36] at H
      have c36b0 := eq_true c36
      have c36b1 : decide (x3_2.size + 6 ≤ 9223372036854775807) = true := decide_eq_true c36
      try have c36b2 : (9223372036854775807 < x3_2.size + 6) = False := eq_false (Nat.not_lt.2 c36)
      by_cases c37 : 0 ≤ x4_2
      rotate_left
      ·rw [if_neg c37] at H
       exact absurd H (by simp)
      rw [if_pos c37] at H
      have c37b0 : decide (0 ≤ x4_2) = true := decide_eq_true c37
      clear c37
      by_cases c38 : (x3_2 ++ (⟨#[32, 119, 105, 116, 104, 32]⟩ : ByteArray)).size + (rdOf ByteArray.empty l0_12 x4_2).size ≤ 9223372036854775807
      rotate_left
      ·rw [if_neg c38] at H
       exact absurd H (by simp)
      rw [if_pos c38] at H
      have c38b0 := eq_true c38
      have c38b1 : decide ((x3_2 ++ (⟨#[32, 119, 105, 116, 104, 32]⟩ : ByteArray)).size + (rdOf ByteArray.empty l0_12 x4_2).size ≤ 9223372036854775807) = true := decide_eq_true c38
      have c38e : x3_2.size + 6 + (rdOf ByteArray.empty l0_12 x4_2).size ≤ 9223372036854775807 := by have h_ := c38; simp only [ByteArray.size_append] at h_; exact h_
      have c38e0 := eq_true c38e
      have c38e1 : decide (x3_2.size + 6 + (rdOf ByteArray.empty l0_12 x4_2).size ≤ 9223372036854775807) = true := decide_eq_true c38e
      have c38e2 : (9223372036854775807 < x3_2.size + 6 + (rdOf ByteArray.empty l0_12 x4_2).size) = False := eq_false (Nat.not_lt.2 c38e)
      try have c38b2 : (9223372036854775807 < (x3_2 ++ (⟨#[32, 119, 105, 116, 104, 32]⟩ : ByteArray)).size + (rdOf ByteArray.empty l0_12 x4_2).size) = False := eq_false (Nat.not_lt.2 c38)
      have H' := am_ H
      clear H
      have hcz39_0 : wr.cell? ⟨gb385, 0, none⟩ = some (.int .i64 a0_0) := (blk_cell BK385.out 0).trans rfl
      have hcz39_1 : wr.cell? ⟨gb385, 1, none⟩ = some (.int .i64 a0_1) := (blk_cell BK385.out 1).trans rfl
      have hcz39_2 : wr.cell? ⟨gb385, 2, none⟩ = some (.int .i64 a0_2) := (blk_cell BK385.out 2).trans rfl
      have hcz39_3 : wr.cell? ⟨gb385, 3, none⟩ = some (.int .i64 a0_3) := (blk_cell BK385.out 3).trans rfl
      have hcz39_4 : wr.cell? ⟨gb385, 4, none⟩ = some (.string a0_4) := (blk_cell BK385.out 4).trans rfl
      have hcz39_5 : wr.cell? ⟨gb385, 5, none⟩ = some (.int .i64 a0_5) := (blk_cell BK385.out 5).trans rfl
      have hcz39_6 : wr.cell? ⟨gb385, 6, none⟩ = some (.int .i64 a0_6) := (blk_cell BK385.out 6).trans rfl
      have hcz39_7 : wr.cell? ⟨gb385, 7, none⟩ = some (.string a0_7) := (blk_cell BK385.out 7).trans rfl
      have hcz39_8 : wr.cell? ⟨gb385, 8, none⟩ = some (.int .i64 a0_8) := (blk_cell BK385.out 8).trans rfl
      have hcz39_9 : wr.cell? ⟨gb385, 9, none⟩ = some (.int .i64 a0_9) := (blk_cell BK385.out 9).trans rfl
      have hcz39_10 : wr.cell? ⟨gb385, 10, none⟩ = some (.int .i64 a0_10) := (blk_cell BK385.out 10).trans rfl
      have hcz39_11 : wr.cell? ⟨gb385, 11, none⟩ = some (.int .i64 a0_11) := (blk_cell BK385.out 11).trans rfl
      have hcz39_12 : wr.cell? ⟨gb385, 12, none⟩ = some (.slice A0_12 l0_12.length c0_12) := (blk_cell BK385.out 12).trans rfl
      have hcz39_13 : wr.cell? ⟨gb385, 13, none⟩ = some (.slice A0_13 l0_13.length c0_13) := (blk_cell BK385.out 13).trans rfl
      have hfz39_0 := blk_frozen BK385.out 0
      have hfz39_1 := blk_frozen BK385.out 1
      have hfz39_2 := blk_frozen BK385.out 2
      have hfz39_3 := blk_frozen BK385.out 3
      have hfz39_4 := blk_frozen BK385.out 4
      have hfz39_5 := blk_frozen BK385.out 5
      have hfz39_6 := blk_frozen BK385.out 6
      have hfz39_7 := blk_frozen BK385.out 7
      have hfz39_8 := blk_frozen BK385.out 8
      have hfz39_9 := blk_frozen BK385.out 9
      have hfz39_10 := blk_frozen BK385.out 10
      have hfz39_11 := blk_frozen BK385.out 11
      have hfz39_12 := blk_frozen BK385.out 12
      have hfz39_13 := blk_frozen BK385.out 13
      have p394 : 0 ≤ (x4_2 : Int) := of_decide_eq_true as_
      have q394 : x4_2 < (l0_12.length : Int) := of_decide_eq_true as_
      obtain ⟨ad394, e394, hx394_0⟩ := Kd.at_string HR0_12.out x4_2 p394 q394
      cases e394
      replace hx394_0 := cm_ HB.out hx394_0
      replace p394 := eq_true p394
      replace q394 := eq_true q394
      go_wp2
      go_roundg k2
      case measure => have := HJ22.out; have := HK2.out; omega
      case rel => exact ⟨((x3_2 ++ (⟨#[32, 119, 105, 116, 104, 32]⟩ : ByteArray)) ++ (rdOf ByteArray.empty l0_12 x4_2)), (wrap64 (x4_2 + 1)), rs_, rs_, H', ⟨by have := HJ22.out; have := HK2.out; omega⟩, ⟨bk_ BK385.out⟩, ⟨bh_⟩⟩
     rw [if_neg c35] at H
     have c35b0 : decide (x4_2 < (l0_12.length : Int)) = false := decide_eq_false c35
     clear c35
     have H' := am_ H
     clear H
     have hcz40_0 : wr.cell? ⟨gb385, 0, none⟩ = some (.int .i64 a0_0) := (blk_cell BK385.out 0).trans rfl
     have hcz40_1 : wr.cell? ⟨gb385, 1, none⟩ = some (.int .i64 a0_1) := (blk_cell BK385.out 1).trans rfl
     have hcz40_2 : wr.cell? ⟨gb385, 2, none⟩ = some (.int .i64 a0_2) := (blk_cell BK385.out 2).trans rfl
     have hcz40_3 : wr.cell? ⟨gb385, 3, none⟩ = some (.int .i64 a0_3) := (blk_cell BK385.out 3).trans rfl
     have hcz40_4 : wr.cell? ⟨gb385, 4, none⟩ = some (.string a0_4) := (blk_cell BK385.out 4).trans rfl
     have hcz40_5 : wr.cell? ⟨gb385, 5, none⟩ = some (.int .i64 a0_5) := (blk_cell BK385.out 5).trans rfl
     have hcz40_6 : wr.cell? ⟨gb385, 6, none⟩ = some (.int .i64 a0_6) := (blk_cell BK385.out 6).trans rfl
     have hcz40_7 : wr.cell? ⟨gb385, 7, none⟩ = some (.string a0_7) := (blk_cell BK385.out 7).trans rfl
     have hcz40_8 : wr.cell? ⟨gb385, 8, none⟩ = some (.int .i64 a0_8) := (blk_cell BK385.out 8).trans rfl
     have hcz40_9 : wr.cell? ⟨gb385, 9, none⟩ = some (.int .i64 a0_9) := (blk_cell BK385.out 9).trans rfl
     have hcz40_10 : wr.cell? ⟨gb385, 10, none⟩ = some (.int .i64 a0_10) := (blk_cell BK385.out 10).trans rfl
     have hcz40_11 : wr.cell? ⟨gb385, 11, none⟩ = some (.int .i64 a0_11) := (blk_cell BK385.out 11).trans rfl
     have hcz40_12 : wr.cell? ⟨gb385, 12, none⟩ = some (.slice A0_12 l0_12.length c0_12) := (blk_cell BK385.out 12).trans rfl
     have hcz40_13 : wr.cell? ⟨gb385, 13, none⟩ = some (.slice A0_13 l0_13.length c0_13) := (blk_cell BK385.out 13).trans rfl
     have hfz40_0 := blk_frozen BK385.out 0
     have hfz40_1 := blk_frozen BK385.out 1
     have hfz40_2 := blk_frozen BK385.out 2
     have hfz40_3 := blk_frozen BK385.out 3
     have hfz40_4 := blk_frozen BK385.out 4
     have hfz40_5 := blk_frozen BK385.out 5
     have hfz40_6 := blk_frozen BK385.out 6
     have hfz40_7 := blk_frozen BK385.out 7
     have hfz40_8 := blk_frozen BK385.out 8
     have hfz40_9 := blk_frozen BK385.out 9
     have hfz40_10 := blk_frozen BK385.out 10
     have hfz40_11 := blk_frozen BK385.out 11
     have hfz40_12 := blk_frozen BK385.out 12
     have hfz40_13 := blk_frozen BK385.out 13
     go_wp2
     go_loopg [3, 5] k2 (fun kq v3 v5 w' => ∃ (x3_3 : ByteArray) (x5_3 : Int), v3 = .string x3_3 ∧ v5 = .int .i64 x5_3 ∧ Aside0 (computusref27_Line.l1 kq x3_3 x5_3 a0_0 a0_1 a0_2 a0_3 a0_4 a0_5 a0_6 a0_7 a0_8 a0_9 a0_10 a0_11 l0_12 l0_13 = some r) ∧ Aside0 (kq ≤ k2) ∧ Aside0 (w'.heap[gb385]? = some (.cells #[.int .i64 a0_0, .int .i64 a0_1, .int .i64 a0_2, .int .i64 a0_3, .string a0_4, .int .i64 a0_5, .int .i64 a0_6, .string a0_7, .int .i64 a0_8, .int .i64 a0_9, .int .i64 a0_10, .int .i64 a0_11, (.slice A0_12 l0_12.length c0_12), (.slice A0_13 l0_13.length c0_13)] 40 (0, 0))) ∧ Aside0 (Below w.heap.size w w'))
     case atStart => exact ⟨(x3_2), (0), rs_, rs_, H', ⟨Nat.le_refl _⟩, ⟨bk_ BK385.out⟩, ⟨bh_⟩⟩
     case round =>
      clear H'
      obtain ⟨x3_3, x5_3, rfl, rfl, HA, HK3, BK385, HB⟩ := hrel
      cases gk with
      | zero => exact absurd HA.out (by simp [computusref27_Line.l1])
      | succ k3 =>
       have H := HA.out
       clear HA
       simp only [computusref27_Line.l1] at H
       by_cases c41 : x5_3 < (l0_13.length : Int)
       rotate_left
       ·rw [if_neg c41] at H
        have c41b0 : decide (x5_3 < (l0_13.length : Int)) = false := decide_eq_false c41
        clear c41
        obtain rfl := Option.some.inj H
        have hcz46_0 : wr.cell? ⟨gb385, 0, none⟩ = some (.int .i64 a0_0) := (blk_cell BK385.out 0).trans rfl
        have hcz46_1 : wr.cell? ⟨gb385, 1, none⟩ = some (.int .i64 a0_1) := (blk_cell BK385.out 1).trans rfl
        have hcz46_2 : wr.cell? ⟨gb385, 2, none⟩ = some (.int .i64 a0_2) := (blk_cell BK385.out 2).trans rfl
        have hcz46_3 : wr.cell? ⟨gb385, 3, none⟩ = some (.int .i64 a0_3) := (blk_cell BK385.out 3).trans rfl
        have hcz46_4 : wr.cell? ⟨gb385, 4, none⟩ = some (.string a0_4) := (blk_cell BK385.out 4).trans rfl
        have hcz46_5 : wr.cell? ⟨gb385, 5, none⟩ = some (.int .i64 a0_5) := (blk_cell BK385.out 5).trans rfl
        have hcz46_6 : wr.cell? ⟨gb385, 6, none⟩ = some (.int .i64 a0_6) := (blk_cell BK385.out 6).trans rfl
        have hcz46_7 : wr.cell? ⟨gb385, 7, none⟩ = some (.string a0_7) := (blk_cell BK385.out 7).trans rfl
        have hcz46_8 : wr.cell? ⟨gb385, 8, none⟩ = some (.int .i64 a0_8) := (blk_cell BK385.out 8).trans rfl
        have hcz46_9 : wr.cell? ⟨gb385, 9, none⟩ = some (.int .i64 a0_9) := (blk_cell BK385.out 9).trans rfl
        have hcz46_10 : wr.cell? ⟨gb385, 10, none⟩ = some (.int .i64 a0_10) := (blk_cell BK385.out 10).trans rfl
        have hcz46_11 : wr.cell? ⟨gb385, 11, none⟩ = some (.int .i64 a0_11) := (blk_cell BK385.out 11).trans rfl
        have hcz46_12 : wr.cell? ⟨gb385, 12, none⟩ = some (.slice A0_12 l0_12.length c0_12) := (blk_cell BK385.out 12).trans rfl
        have hcz46_13 : wr.cell? ⟨gb385, 13, none⟩ = some (.slice A0_13 l0_13.length c0_13) := (blk_cell BK385.out 13).trans rfl
        have hfz46_0 := blk_frozen BK385.out 0
        have hfz46_1 := blk_frozen BK385.out 1
        have hfz46_2 := blk_frozen BK385.out 2
        have hfz46_3 := blk_frozen BK385.out 3
        have hfz46_4 := blk_frozen BK385.out 4
        have hfz46_5 := blk_frozen BK385.out 5
        have hfz46_6 := blk_frozen BK385.out 6
        have hfz46_7 := blk_frozen BK385.out 7
        have hfz46_8 := blk_frozen BK385.out 8
        have hfz46_9 := blk_frozen BK385.out 9
        have hfz46_10 := blk_frozen BK385.out 10
        have hfz46_11 := blk_frozen BK385.out 11
        have hfz46_12 := blk_frozen BK385.out 12
        have hfz46_13 := blk_frozen BK385.out 13
        go_wp2
        go_ret
        exact rt_
       rw [if_pos c41] at H
       have c41b0 : decide (x5_3 < (l0_13.length : Int)) = true := decide_eq_true c41
       clear c41
       by_cases c42 : x3_3.size + 9 ≤ 9223372036854775807
       rotate_left
       ·rw [if_neg c42] at H
        exact absurd H (by simp)
       rw [if_pos c42] at H
       have c42b0 := eq_true c42
       have c42b1 : decide (x3_3.size + 9 ≤ 9223372036854775807) = true := decide_eq_true c42
       try have c42b2 : (9223372036854775807 < x3_3.size + 9) = False := eq_false (Nat.not_lt.2 c42)
       by_cases c43 : 0 ≤ x5_3
       rotate_left
       ·rw [if_neg c43] at H
        exact absurd H (by simp)
       rw [if_pos c43] at H
       have c43b0 : decide (0 ≤ x5_3) = true := decide_eq_true c43
       clear c43
       by_cases c44 : (x3_3 ++ (⟨#[32, 119, 105, 116, 104, 111, 117, 116, 32]⟩ : ByteArray)).size + (rdOf ByteArray.empty l0_13 x5_3).size ≤ 9223372036854775807
       rotate_left
       ·rw [if_neg c44] at H
        exact absurd H (by simp)
       rw [if_pos c44] at H
       have c44b0 := eq_true c44
       have c44b1 : decide ((x3_3 ++ (⟨#[32, 119, 105, 116, 104, 111, 117, 116, 32]⟩ : ByteArray)).size + (rdOf ByteArray.empty l0_13 x5_3).size ≤ 9223372036854775807) = true := decide_eq_true c44
       have c44e : x3_3.size + 9 + (rdOf ByteArray.empty l0_13 x5_3).size ≤ 9223372036854775807 := by have h_ := c44; simp only [ByteArray.size_append] at h_; exact h_
       have c44e0 := eq_true c44e
       have c44e1 : decide (x3_3.size + 9 + (rdOf ByteArray.empty l0_13 x5_3).size ≤ 9223372036854775807) = true := decide_eq_true c44e
       have c44e2 : (9223372036854775807 < x3_3.size + 9 + (rdOf ByteArray.empty l0_13 x5_3).size) = False := eq_false (Nat.not_lt.2 c44e)
       try have c44b2 : (9223372036854775807 < (x3_3 ++ (⟨#[32, 119, 105, 116, 104, 111, 117, 116, 32]⟩ : ByteArray)).size + (rdOf ByteArray.empty l0_13 x5_3).size) = False := eq_false (Nat.not_lt.2 c44)
       have H' := am_ H
       clear H
       have hcz45_0 : wr.cell? ⟨gb385, 0, none⟩ = some (.int .i64 a0_0) := (blk_cell BK385.out 0).trans rfl
       have hcz45_1 : wr.cell? ⟨gb385, 1, none⟩ = some (.int .i64 a0_1) := (blk_cell BK385.out 1).trans rfl
       have hcz45_2 : wr.cell? ⟨gb385, 2, none⟩ = some (.int .i64 a0_2) := (blk_cell BK385.out 2).trans rfl
       have hcz45_3 : wr.cell? ⟨gb385, 3, none⟩ = some (.int .i64 a0_3) := (blk_cell BK385.out 3).trans rfl
       have hcz45_4 : wr.cell? ⟨gb385, 4, none⟩ = some (.string a0_4) := (blk_cell BK385.out 4).trans rfl
       have hcz45_5 : wr.cell? ⟨gb385, 5, none⟩ = some (.int .i64 a0_5) := (blk_cell BK385.out 5).trans rfl
       have hcz45_6 : wr.cell? ⟨gb385, 6, none⟩ = some (.int .i64 a0_6) := (blk_cell BK385.out 6).trans rfl
       have hcz45_7 : wr.cell? ⟨gb385, 7, none⟩ = some (.string a0_7) := (blk_cell BK385.out 7).trans rfl
       have hcz45_8 : wr.cell? ⟨gb385, 8, none⟩ = some (.int .i64 a0_8) := (blk_cell BK385.out 8).trans rfl
       have hcz45_9 : wr.cell? ⟨gb385, 9, none⟩ = some (.int .i64 a0_9) := (blk_cell BK385.out 9).trans rfl
       have hcz45_10 : wr.cell? ⟨gb385, 10, none⟩ = some (.int .i64 a0_10) := (blk_cell BK385.out 10).trans rfl
       have hcz45_11 : wr.cell? ⟨gb385, 11, none⟩ = some (.int .i64 a0_11) := (blk_cell BK385.out 11).trans rfl
       have hcz45_12 : wr.cell? ⟨gb385, 12, none⟩ = some (.slice A0_12 l0_12.length c0_12) := (blk_cell BK385.out 12).trans rfl
       have hcz45_13 : wr.cell? ⟨gb385, 13, none⟩ = some (.slice A0_13 l0_13.length c0_13) := (blk_cell BK385.out 13).trans rfl
       have hfz45_0 := blk_frozen BK385.out 0
       have hfz45_1 := blk_frozen BK385.out 1
       have hfz45_2 := blk_frozen BK385.out 2
       have hfz45_3 := blk_frozen BK385.out 3
       have hfz45_4 := blk_frozen BK385.out 4
       have hfz45_5 := blk_frozen BK385.out 5
       have hfz45_6 := blk_frozen BK385.out 6
       have hfz45_7 := blk_frozen BK385.out 7
       have hfz45_8 := blk_frozen BK385.out 8
       have hfz45_9 := blk_frozen BK385.out 9
       have hfz45_10 := blk_frozen BK385.out 10
       have hfz45_11 := blk_frozen BK385.out 11
       have hfz45_12 := blk_frozen BK385.out 12
       have hfz45_13 := blk_frozen BK385.out 13
       have p395 : 0 ≤ (x5_3 : Int) := of_decide_eq_true as_
       have q395 : x5_3 < (l0_13.length : Int) := of_decide_eq_true as_
       obtain ⟨ad395, e395, hx395_0⟩ := Kd.at_string HR0_13.out x5_3 p395 q395
       cases e395
       replace hx395_0 := cm_ HB.out hx395_0
       replace p395 := eq_true p395
       replace q395 := eq_true q395
       go_wp2
       go_roundg k3
       case measure => have := HJ22.out; have := HK2.out; have := HK3.out; omega
       case rel => exact ⟨((x3_3 ++ (⟨#[32, 119, 105, 116, 104, 111, 117, 116, 32]⟩ : ByteArray)) ++ (rdOf ByteArray.empty l0_13 x5_3)), (wrap64 (x5_3 + 1)), rs_, rs_, H', ⟨by have := HJ22.out; have := HK2.out; have := HK3.out; omega⟩, ⟨bk_ BK385.out⟩, ⟨bh_⟩⟩
def computusref27_Print.l0 : Nat → ByteArray → Int → Int → List (S40) → Option (ByteArray)
 | 0, _, _, _, _ => none
 | k + 1, x3, x4, x397000, x397001 => if x4 < (x397001.length : Int) then (if 0 ≤ x4 then ((computusref27_Line.f k ((rd_T40 x397001 x4).f0.f0) ((rd_T40 x397001 x4).f0.f1) ((rd_T40 x397001 x4).f0.f2) ((rd_T40 x397001 x4).f1) ((rd_T40 x397001 x4).f2) ((rd_T40 x397001 x4).f3) ((rd_T40 x397001 x4).f4) ((rd_T40 x397001 x4).f5) ((rd_T40 x397001 x4).f6) ((rd_T40 x397001 x4).f7.f0) ((rd_T40 x397001 x4).f7.f1) ((rd_T40 x397001 x4).f7.f2) ((rd_T40 x397001 x4).f8) ((rd_T40 x397001 x4).f9)).bind fun t399 => (if x3.size + t399.size ≤ 9223372036854775807 then (if (x3 ++ t399).size + 1 ≤ 9223372036854775807 then (computusref27_Print.l0 k ((x3 ++ t399) ++ (⟨#[10]⟩ : ByteArray)) (wrap64 (x4 + 1)) x397000 x397001) else (none)) else (none))) else (none)) else (if x3.size + 4 ≤ 9223372036854775807 then (some (x3 ++ (⟨#[101, 110, 100, 10]⟩ : ByteArray))) else (none))
def computusref27_Print.f (k : Nat) (a0_0 : Int) (l0_1 : List (S40)) : Option (ByteArray) := (computusref26_Num.f k a0_0).bind fun t397 => (if 9 + t397.size ≤ 9223372036854775807 then (if ((⟨#[99, 97, 108, 101, 110, 100, 97, 114, 32]⟩ : ByteArray) ++ t397).size + 1 ≤ 9223372036854775807 then (computusref27_Print.l0 k (((⟨#[99, 97, 108, 101, 110, 100, 97, 114, 32]⟩ : ByteArray) ++ t397) ++ (⟨#[10]⟩ : ByteArray)) 0 a0_0 l0_1) else (none)) else (none))
theorem computusref27_Print.calls (k : Nat) (a0_0 : Int) (A0_1 : Option Addr) (c0_1 : Nat) (l0_1 : List (S40)) (r : ByteArray) (w : World) (hr0_1 : Kd.C k40 w A0_1 l0_1.length l0_1) (hc0_1 : l0_1.length ≤ c0_1) (h : computusref27_Print.f k a0_0 l0_1 = some r) :
  Calls Tryd.prog 17 #[.agg #[.int .i64 a0_0, .slice A0_1 l0_1.length c0_1]] w fun e w' => e = .returned (.string r) ∧ Below w.heap.size w w' := by
 have hu25 := Tryd.underlying25
 have hu40 := Tryd.underlying40
 have HR0_1 := am_ hr0_1
 have HC0_1 := am_ hc0_1
 clear hr0_1 hc0_1
 have HB := am_ (Below.refl w.heap.size w)
 have H := h
 clear h
 unfold computusref27_Print.f at H
 obtain ⟨t397, A2, H⟩ := bs_ H
 by_cases c3 : 9 + t397.size ≤ 9223372036854775807
 rotate_left
 ·rw [if_neg c3] at H
  exact absurd H (by simp)
 rw [if_pos c3] at H
 have c3b0 := eq_true c3
 have c3b1 : decide (9 + t397.size ≤ 9223372036854775807) = true := decide_eq_true c3
 try have c3b2 : (9223372036854775807 < 9 + t397.size) = False := eq_false (Nat.not_lt.2 c3)
 by_cases c4 : ((⟨#[99, 97, 108, 101, 110, 100, 97, 114, 32]⟩ : ByteArray) ++ t397).size + 1 ≤ 9223372036854775807
 rotate_left
 ·rw [if_neg c4] at H
  exact absurd H (by simp)
 rw [if_pos c4] at H
 have c4b0 := eq_true c4
 have c4b1 : decide (((⟨#[99, 97, 108, 101, 110, 100, 97, 114, 32]⟩ : ByteArray) ++ t397).size + 1 ≤ 9223372036854775807) = true := decide_eq_true c4
 have c4e : 9 + t397.size + 1 ≤ 9223372036854775807 := by have h_ := c4; simp only [ByteArray.size_append] at h_; exact h_
 have c4e0 := eq_true c4e
 have c4e1 : decide (9 + t397.size + 1 ≤ 9223372036854775807) = true := decide_eq_true c4e
 have c4e2 : (9223372036854775807 < 9 + t397.size + 1) = False := eq_false (Nat.not_lt.2 c4e)
 try have c4b2 : (9223372036854775807 < ((⟨#[99, 97, 108, 101, 110, 100, 97, 114, 32]⟩ : ByteArray) ++ t397).size + 1) = False := eq_false (Nat.not_lt.2 c4)
 have H' := am_ H
 clear H
 go_enter Tryd.func17, Tryd.ntmps17
 go_wp2_with (first | ((with_reducible refine gate_dst (N := 1) rfl ?_); refine bx_ (w := w) (N := 1) (cs := #[.int .i64 a0_0, .slice A0_1 l0_1.length c0_1]) (t := 25) ?_; intro gb396 w5 BK396 n0_ GW396 GE396; clear HB; have HB := n0_; clear n0_; obtain ⟨hcz6_0, hcz6_1⟩ := cz2_ BK396.out; obtain ⟨hfz6_0, hfz6_1⟩ := fz2_ BK396.out) | ((with_reducible refine gate_callee (f := 39) rfl ?_); refine goesL_ (some 7) rfl rfl Tryd.func39 (by kernel_rfl) rfl #[.int .i64 a0_0] rfl (by (try simp only [List.map_toArray, List.map_cons, List.map_nil]); first | done | rfl | (simp only [List.length_drop, List.length_take]; rfl)) ?_; (with_reducible refine (computusref26_Num.calls k a0_0 t397 _ A2.out).mono ?_); rintro e w' ⟨rfl, ⟨nd, rfl⟩⟩; refine ⟨_, rfl, ?_⟩))
 go_loopg [3, 4] k (fun kq v3 v4 w' => ∃ (x3_1 : ByteArray) (x4_1 : Int), v3 = .string x3_1 ∧ v4 = .int .i64 x4_1 ∧ Aside0 (computusref27_Print.l0 kq x3_1 x4_1 a0_0 l0_1 = some r) ∧ Aside0 (kq ≤ k) ∧ Aside0 (w'.heap[gb396]? = some (.cells #[.int .i64 a0_0, (.slice A0_1 l0_1.length c0_1)] 25 (0, 0))) ∧ Aside0 (Below w.heap.size w w'))
 case atStart => exact ⟨(((⟨#[99, 97, 108, 101, 110, 100, 97, 114, 32]⟩ : ByteArray) ++ t397) ++ (⟨#[10]⟩ : ByteArray)), (0), rs_, rs_, H', ⟨Nat.le_refl _⟩, ⟨bk_ BK396.out⟩, ⟨bh_⟩⟩
 case round =>
  clear H'
  obtain ⟨x3_1, x4_1, rfl, rfl, HA, HK1, BK396, HB⟩ := hrel
  cases gk with
  | zero => exact absurd HA.out (by simp [computusref27_Print.l0])
  | succ k1 =>
   have H := HA.out
   clear HA
   simp only [computusref27_Print.l0] at H
   by_cases c7 : x4_1 < (l0_1.length : Int)
   rotate_left
   ·rw [if_neg c7] at H
    have c7b0 : decide (x4_1 < (l0_1.length : Int)) = false := decide_eq_false c7
    clear c7
    by_cases c14 : x3_1.size + 4 ≤ 9223372036854775807
    rotate_left
    ·rw [if_neg c14] at H
     exact absurd H (by simp)
    rw [if_pos c14] at H
    have c14b0 := eq_true c14
    have c14b1 : decide (x3_1.size + 4 ≤ 9223372036854775807) = true := decide_eq_true c14
    try have c14b2 : (9223372036854775807 < x3_1.size + 4) = False := eq_false (Nat.not_lt.2 c14)
    obtain rfl := Option.some.inj H
    obtain ⟨hcz15_0, hcz15_1⟩ := cz2_ BK396.out
    obtain ⟨hfz15_0, hfz15_1⟩ := fz2_ BK396.out
    go_wp2
    go_ret
    exact rt_
   rw [if_pos c7] at H
   have c7b0 : decide (x4_1 < (l0_1.length : Int)) = true := decide_eq_true c7
   clear c7
   by_cases c8 : 0 ≤ x4_1
   rotate_left
   ·rw [if_neg c8] at H
    exact absurd H (by simp)
   rw [if_pos c8] at H
   have c8b0 : decide (0 ≤ x4_1) = true := decide_eq_true c8
   clear c8
   obtain ⟨t399, A9, H⟩ := bs_ H
   by_cases c10 : x3_1.size + t399.size ≤ 9223372036854775807
   rotate_left
   ·rw [if_neg c10] at H
    exact absurd H (by simp)
   rw [if_pos c10] at H
   have c10b0 := eq_true c10
   have c10b1 : decide (x3_1.size + t399.size ≤ 9223372036854775807) = true := decide_eq_true c10
   try have c10b2 : (9223372036854775807 < x3_1.size + t399.size) = False := eq_false (Nat.not_lt.2 c10)
   by_cases c11 : (x3_1 ++ t399).size + 1 ≤ 9223372036854775807
   rotate_left
   ·rw [if_neg c11] at H
    exact absurd H (by simp)
   rw [if_pos c11] at H
   have c11b0 := eq_true c11
   have c11b1 : decide ((x3_1 ++ t399).size + 1 ≤ 9223372036854775807) = true := decide_eq_true c11
   have c11e : x3_1.size + t399.size + 1 ≤ 9223372036854775807 := by have h_ := c11; simp only [ByteArray.size_append] at h_; exact h_
   have c11e0 := eq_true c11e
   have c11e1 : decide (x3_1.size + t399.size + 1 ≤ 9223372036854775807) = true := decide_eq_true c11e
   have c11e2 : (9223372036854775807 < x3_1.size + t399.size + 1) = False := eq_false (Nat.not_lt.2 c11e)
   try have c11b2 : (9223372036854775807 < (x3_1 ++ t399).size + 1) = False := eq_false (Nat.not_lt.2 c11)
   have H' := am_ H
   clear H
   obtain ⟨hcz12_0, hcz12_1⟩ := cz2_ BK396.out
   obtain ⟨hfz12_0, hfz12_1⟩ := fz2_ BK396.out
   have p398 : 0 ≤ (x4_1 : Int) := of_decide_eq_true as_
   have q398 : x4_1 < (l0_1.length : Int) := of_decide_eq_true as_
   obtain ⟨ad398, A398_12, c398_12, A398_13, c398_13, e398, hx398_0, hx398_1, hx398_2, hx398_3, hx398_4, hx398_5, hx398_6, hx398_7, hx398_8, hx398_9, hx398_10, hx398_11, hx398_12, hx398_13, hl398_12, hi398_12, hl398_13, hi398_13⟩ := at_T40 HR0_1.out x4_1 p398 q398
   cases e398
   replace hx398_0 := cm_ HB.out hx398_0
   replace hx398_1 := cm_ HB.out hx398_1
   replace hx398_2 := cm_ HB.out hx398_2
   replace hx398_3 := cm_ HB.out hx398_3
   replace hx398_4 := cm_ HB.out hx398_4
   replace hx398_5 := cm_ HB.out hx398_5
   replace hx398_6 := cm_ HB.out hx398_6
   replace hx398_7 := cm_ HB.out hx398_7
   replace hx398_8 := cm_ HB.out hx398_8
   replace hx398_9 := cm_ HB.out hx398_9
   replace hx398_10 := cm_ HB.out hx398_10
   replace hx398_11 := cm_ HB.out hx398_11
   replace hx398_12 := cm_ HB.out hx398_12
   replace hx398_13 := cm_ HB.out hx398_13
   have HR398_12 := am_ hi398_12
   have HC398_12 := am_ hl398_12
   clear hi398_12 hl398_12
   have HR398_13 := am_ hi398_13
   have HC398_13 := am_ hl398_13
   clear hi398_13 hl398_13
   replace p398 := eq_true p398
   replace q398 := eq_true q398
   go_wp2_with (first | ((with_reducible refine gate_callee (f := 16) rfl ?_); refine goesL_ (some 23) rfl rfl Tryd.func16 (by kernel_rfl) rfl #[.agg #[.int .i64 ((rd_T40 l0_1 x4_1).f0.f0), .int .i64 ((rd_T40 l0_1 x4_1).f0.f1), .int .i64 ((rd_T40 l0_1 x4_1).f0.f2), .int .i64 ((rd_T40 l0_1 x4_1).f1), .string ((rd_T40 l0_1 x4_1).f2), .int .i64 ((rd_T40 l0_1 x4_1).f3), .int .i64 ((rd_T40 l0_1 x4_1).f4), .string ((rd_T40 l0_1 x4_1).f5), .int .i64 ((rd_T40 l0_1 x4_1).f6), .int .i64 ((rd_T40 l0_1 x4_1).f7.f0), .int .i64 ((rd_T40 l0_1 x4_1).f7.f1), .int .i64 ((rd_T40 l0_1 x4_1).f7.f2), .slice A398_12 ((rd_T40 l0_1 x4_1).f8).length c398_12, .slice A398_13 ((rd_T40 l0_1 x4_1).f9).length c398_13]] rfl (by (try simp only [List.map_toArray, List.map_cons, List.map_nil]); first | done | rfl | (simp only [List.length_drop, List.length_take]; rfl)) ?_; (with_reducible refine (computusref27_Line.calls k1 ((rd_T40 l0_1 x4_1).f0.f0) ((rd_T40 l0_1 x4_1).f0.f1) ((rd_T40 l0_1 x4_1).f0.f2) ((rd_T40 l0_1 x4_1).f1) ((rd_T40 l0_1 x4_1).f2) ((rd_T40 l0_1 x4_1).f3) ((rd_T40 l0_1 x4_1).f4) ((rd_T40 l0_1 x4_1).f5) ((rd_T40 l0_1 x4_1).f6) ((rd_T40 l0_1 x4_1).f7.f0) ((rd_T40 l0_1 x4_1).f7.f1) ((rd_T40 l0_1 x4_1).f7.f2) _ _ ((rd_T40 l0_1 x4_1).f8) _ _ ((rd_T40 l0_1 x4_1).f9) t399 _ ?side1 ?side2 ?side3 ?side4 A9.out).mono ?_); (case side1 => exact ck_ (Kd.C_below HR398_12.out HB.out)); (case side2 => exact HC398_12.out); (case side3 => exact ck_ (Kd.C_below HR398_13.out HB.out)); (case side4 => exact HC398_13.out); rintro e w13 ⟨rfl, hb⟩; refine ⟨_, rfl, ?_⟩; replace BK396 := bw_ BK396 hb; replace HB := bt_ hb; (try clear hb); (try clear hi)))
   go_roundg k1
   case measure => have := HK1.out; omega
   case rel => exact ⟨((x3_1 ++ t399) ++ (⟨#[10]⟩ : ByteArray)), (wrap64 (x4_1 + 1)), rs_, rs_, H', ⟨by have := HK1.out; omega⟩, ⟨bk_ BK396.out⟩, ⟨bh_⟩⟩






end Go.Proofs.YtlchefonlfokgaaDoor.Q
end
