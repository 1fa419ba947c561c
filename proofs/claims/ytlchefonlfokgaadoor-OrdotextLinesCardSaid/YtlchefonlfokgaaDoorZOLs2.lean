/- What is proved: what the statement OrdotextLinesSaid needs, part 3 of 12; the last part proves the statement. No condition. -/
import Derived.Test.YtlchefonlfokgaaDoorZOLs1
set_option maxHeartbeats 8000000
set_option maxRecDepth 100000
set_option linter.unusedVariables false
set_option linter.unusedSimpArgs false
section
namespace Go.Proofs.YtlchefonlfokgaaDoor.Q
open Go.RowKit Go.Proofs.YtlchefonlfokgaaDoorW.PrintWords Go.Proofs.YtlchefonlfokgaaDoorW.PrintLast Go.Proofs.YtlchefonlfokgaaDoorW.PrintMore
attribute [local go_sem] max2_int min2_int max_two min_two max_three min_three max_four min_four
section
attribute [local go_sem high] eqA37
mutual
def computusref27_Printable.l0 : Nat → Int → Int → List (S40) → Option (Bool)
 | 0, _, _, _ => none
 | k + 1, x3, x369000, x369001 => if x3 < (x369001.length : Int) then (if 0 ≤ x3 then (if ((rd_T40 x369001 x3).f0.f0) = x369000 then ((computusref26_In.f ((rd_T40 x369001 x3).f0.f1)).bind fun t372 => (if t372 = true then ((computusref26_In.f ((rd_T40 x369001 x3).f0.f2)).bind fun t373 => (if t373 = true then ((computusref26_In.f ((rd_T40 x369001 x3).f3)).bind fun t374 => (if t374 = true then ((computusref26_In.f ((rd_T40 x369001 x3).f6)).bind fun t375 => (if t375 = true then (if ((rd_T40 x369001 x3).f1) < 0 then (computusref27_Printable.j1 k x3 true x369000 x369001 ((rd_T40 x369001 x3).f0.f0) ((rd_T40 x369001 x3).f0.f1) ((rd_T40 x369001 x3).f0.f2) ((rd_T40 x369001 x3).f1) ((rd_T40 x369001 x3).f2) ((rd_T40 x369001 x3).f3) ((rd_T40 x369001 x3).f4) ((rd_T40 x369001 x3).f5) ((rd_T40 x369001 x3).f6) ((rd_T40 x369001 x3).f7.f0) ((rd_T40 x369001 x3).f7.f1) ((rd_T40 x369001 x3).f7.f2) ((rd_T40 x369001 x3).f8) ((rd_T40 x369001 x3).f9)) else (if ((rd_T40 x369001 x3).f1) > 6 then (computusref27_Printable.j1 k x3 true x369000 x369001 ((rd_T40 x369001 x3).f0.f0) ((rd_T40 x369001 x3).f0.f1) ((rd_T40 x369001 x3).f0.f2) ((rd_T40 x369001 x3).f1) ((rd_T40 x369001 x3).f2) ((rd_T40 x369001 x3).f3) ((rd_T40 x369001 x3).f4) ((rd_T40 x369001 x3).f5) ((rd_T40 x369001 x3).f6) ((rd_T40 x369001 x3).f7.f0) ((rd_T40 x369001 x3).f7.f1) ((rd_T40 x369001 x3).f7.f2) ((rd_T40 x369001 x3).f8) ((rd_T40 x369001 x3).f9)) else (if ((rd_T40 x369001 x3).f4) < 1 then (computusref27_Printable.j1 k x3 true x369000 x369001 ((rd_T40 x369001 x3).f0.f0) ((rd_T40 x369001 x3).f0.f1) ((rd_T40 x369001 x3).f0.f2) ((rd_T40 x369001 x3).f1) ((rd_T40 x369001 x3).f2) ((rd_T40 x369001 x3).f3) ((rd_T40 x369001 x3).f4) ((rd_T40 x369001 x3).f5) ((rd_T40 x369001 x3).f6) ((rd_T40 x369001 x3).f7.f0) ((rd_T40 x369001 x3).f7.f1) ((rd_T40 x369001 x3).f7.f2) ((rd_T40 x369001 x3).f8) ((rd_T40 x369001 x3).f9)) else (computusref27_Printable.j1 k x3 (decide (((rd_T40 x369001 x3).f4) > 3)) x369000 x369001 ((rd_T40 x369001 x3).f0.f0) ((rd_T40 x369001 x3).f0.f1) ((rd_T40 x369001 x3).f0.f2) ((rd_T40 x369001 x3).f1) ((rd_T40 x369001 x3).f2) ((rd_T40 x369001 x3).f3) ((rd_T40 x369001 x3).f4) ((rd_T40 x369001 x3).f5) ((rd_T40 x369001 x3).f6) ((rd_T40 x369001 x3).f7.f0) ((rd_T40 x369001 x3).f7.f1) ((rd_T40 x369001 x3).f7.f2) ((rd_T40 x369001 x3).f8) ((rd_T40 x369001 x3).f9))))) else (computusref27_Printable.j1 k x3 true x369000 x369001 ((rd_T40 x369001 x3).f0.f0) ((rd_T40 x369001 x3).f0.f1) ((rd_T40 x369001 x3).f0.f2) ((rd_T40 x369001 x3).f1) ((rd_T40 x369001 x3).f2) ((rd_T40 x369001 x3).f3) ((rd_T40 x369001 x3).f4) ((rd_T40 x369001 x3).f5) ((rd_T40 x369001 x3).f6) ((rd_T40 x369001 x3).f7.f0) ((rd_T40 x369001 x3).f7.f1) ((rd_T40 x369001 x3).f7.f2) ((rd_T40 x369001 x3).f8) ((rd_T40 x369001 x3).f9)))) else (computusref27_Printable.j1 k x3 true x369000 x369001 ((rd_T40 x369001 x3).f0.f0) ((rd_T40 x369001 x3).f0.f1) ((rd_T40 x369001 x3).f0.f2) ((rd_T40 x369001 x3).f1) ((rd_T40 x369001 x3).f2) ((rd_T40 x369001 x3).f3) ((rd_T40 x369001 x3).f4) ((rd_T40 x369001 x3).f5) ((rd_T40 x369001 x3).f6) ((rd_T40 x369001 x3).f7.f0) ((rd_T40 x369001 x3).f7.f1) ((rd_T40 x369001 x3).f7.f2) ((rd_T40 x369001 x3).f8) ((rd_T40 x369001 x3).f9)))) else (computusref27_Printable.j1 k x3 true x369000 x369001 ((rd_T40 x369001 x3).f0.f0) ((rd_T40 x369001 x3).f0.f1) ((rd_T40 x369001 x3).f0.f2) ((rd_T40 x369001 x3).f1) ((rd_T40 x369001 x3).f2) ((rd_T40 x369001 x3).f3) ((rd_T40 x369001 x3).f4) ((rd_T40 x369001 x3).f5) ((rd_T40 x369001 x3).f6) ((rd_T40 x369001 x3).f7.f0) ((rd_T40 x369001 x3).f7.f1) ((rd_T40 x369001 x3).f7.f2) ((rd_T40 x369001 x3).f8) ((rd_T40 x369001 x3).f9)))) else (computusref27_Printable.j1 k x3 true x369000 x369001 ((rd_T40 x369001 x3).f0.f0) ((rd_T40 x369001 x3).f0.f1) ((rd_T40 x369001 x3).f0.f2) ((rd_T40 x369001 x3).f1) ((rd_T40 x369001 x3).f2) ((rd_T40 x369001 x3).f3) ((rd_T40 x369001 x3).f4) ((rd_T40 x369001 x3).f5) ((rd_T40 x369001 x3).f6) ((rd_T40 x369001 x3).f7.f0) ((rd_T40 x369001 x3).f7.f1) ((rd_T40 x369001 x3).f7.f2) ((rd_T40 x369001 x3).f8) ((rd_T40 x369001 x3).f9)))) else (computusref27_Printable.j1 k x3 true x369000 x369001 ((rd_T40 x369001 x3).f0.f0) ((rd_T40 x369001 x3).f0.f1) ((rd_T40 x369001 x3).f0.f2) ((rd_T40 x369001 x3).f1) ((rd_T40 x369001 x3).f2) ((rd_T40 x369001 x3).f3) ((rd_T40 x369001 x3).f4) ((rd_T40 x369001 x3).f5) ((rd_T40 x369001 x3).f6) ((rd_T40 x369001 x3).f7.f0) ((rd_T40 x369001 x3).f7.f1) ((rd_T40 x369001 x3).f7.f2) ((rd_T40 x369001 x3).f8) ((rd_T40 x369001 x3).f9))) else (none)) else (some true)
def computusref27_Printable.j1 : Nat → Int → Bool → Int → List (S40) → Int → Int → Int → Int → ByteArray → Int → Int → ByteArray → Int → Int → Int → Int → List ByteArray → List ByteArray → Option (Bool)
 | 0, _, _, _, _, _, _, _, _, _, _, _, _, _, _, _, _, _, _ => none
 | k + 1, x3, x72, x369000, x369001, x372000, x372001, x372002, x372003, x372004, x372005, x372006, x372007, x372008, x372009, x372010, x372011, x372012, x372013 => if x72 = true then (some false) else (if x372006 = 3 then (if x372009 = x369000 then ((computusref26_In.f x372010).bind fun t376 => (if t376 = true then ((computusref26_In.f x372011).bind fun t377 => (computusref27_Printable.j2 k x3 (!t377) x369000 x369001 x372000 x372001 x372002 x372003 x372004 x372005 x372006 x372007 x372008 x372009 x372010 x372011 x372012 x372013)) else (computusref27_Printable.j2 k x3 true x369000 x369001 x372000 x372001 x372002 x372003 x372004 x372005 x372006 x372007 x372008 x372009 x372010 x372011 x372012 x372013))) else (computusref27_Printable.j2 k x3 true x369000 x369001 x372000 x372001 x372002 x372003 x372004 x372005 x372006 x372007 x372008 x372009 x372010 x372011 x372012 x372013)) else (if (!(x372009 == 0) || (!(x372010 == 0) || (!(x372011 == 0)))) = true then (computusref27_Printable.j2 k x3 true x369000 x369001 x372000 x372001 x372002 x372003 x372004 x372005 x372006 x372007 x372008 x372009 x372010 x372011 x372012 x372013) else (computusref27_Printable.j2 k x3 false x369000 x369001 x372000 x372001 x372002 x372003 x372004 x372005 x372006 x372007 x372008 x372009 x372010 x372011 x372012 x372013)))
def computusref27_Printable.j2 : Nat → Int → Bool → Int → List (S40) → Int → Int → Int → Int → ByteArray → Int → Int → ByteArray → Int → Int → Int → Int → List ByteArray → List ByteArray → Option (Bool)
 | 0, _, _, _, _, _, _, _, _, _, _, _, _, _, _, _, _, _, _ => none
 | k + 1, x3, x108, x369000, x369001, x372000, x372001, x372002, x372003, x372004, x372005, x372006, x372007, x372008, x372009, x372010, x372011, x372012, x372013 => if x108 = true then (some false) else ((computusref17_Identifier.f k x372004).bind fun t378 => (if t378 = true then ((computusref17_Identifier.f k x372007).bind fun t379 => (if t379 = true then ((computusref27_identifiers.f k x372012).bind fun t380 => (if t380 = true then ((computusref27_identifiers.f k x372013).bind fun t381 => (if t381 = true then (computusref27_Printable.l0 k (wrap64 (x3 + 1)) x369000 x369001) else (some false))) else (some false))) else (some false))) else (some false)))
end
def computusref27_Printable.f (k : Nat) (a0_0 : Int) (l0_1 : List (S40)) : Option (Bool) := (computusref26_In.f a0_0).bind fun t369 => (if t369 = true then (computusref27_Printable.l0 k 0 a0_0 l0_1) else (some false))
theorem computusref27_Printable.calls (k : Nat) (a0_0 : Int) (A0_1 : Option Addr) (c0_1 : Nat) (l0_1 : List (S40)) (r : Bool) (w : World) (hr0_1 : Kd.C k40 w A0_1 l0_1.length l0_1) (hc0_1 : l0_1.length ≤ c0_1) (h : computusref27_Printable.f k a0_0 l0_1 = some r) :
  Calls Tryd.prog 13 #[.agg #[.int .i64 a0_0, .slice A0_1 l0_1.length c0_1]] w fun e w' => e = .returned (.bool r) ∧ Below w.heap.size w w' := by
 have hu25 := Tryd.underlying25
 have hu40 := Tryd.underlying40
 have hu37 := Tryd.underlying37
 have HR0_1 := am_ hr0_1
 have HC0_1 := am_ hc0_1
 clear hr0_1 hc0_1
 have HB := am_ (Below.refl w.heap.size w)
 have H := h
 clear h
 unfold computusref27_Printable.f at H
 obtain ⟨t369, A2, H⟩ := bs_ H
 by_cases c3 : t369 = true
 rotate_left
 ·replace c3 := Bool.eq_false_iff.mpr c3
  subst c3
  replace H := if_ H
  obtain rfl := Option.some.inj H
  go_enter Tryd.func13, Tryd.ntmps13
  go_wp2_with (first | ((with_reducible refine gate_dst (N := 1) rfl ?_); refine bx_ (w := w) (N := 1) (cs := #[.int .i64 a0_0, .slice A0_1 l0_1.length c0_1]) (t := 25) ?_; intro gb368 w93 BK368 n0_ GW368 GE368; clear HB; have HB := n0_; clear n0_; obtain ⟨hcz94_0, hcz94_1⟩ := cz2_ BK368.out; obtain ⟨hfz94_0, hfz94_1⟩ := fz2_ BK368.out) | ((with_reducible refine gate_callee (f := 30) rfl ?_); refine goesL_ (some 7) rfl rfl Tryd.func30 (by kernel_rfl) rfl #[.int .i64 a0_0] rfl (by (try simp only [List.map_toArray, List.map_cons, List.map_nil]); first | done | rfl | (simp only [List.length_drop, List.length_take]; rfl)) ?_; (with_reducible refine (computusref26_In.calls a0_0 false _ A2.out).mono ?_); rintro e w' ⟨rfl, ⟨nd, rfl⟩⟩; refine ⟨_, rfl, ?_⟩))
  go_ret
  exact rt_
 subst c3
 replace H := it_ H
 have H' := am_ H
 clear H
 go_enter Tryd.func13, Tryd.ntmps13
 go_wp2_with (first | ((with_reducible refine gate_dst (N := 1) rfl ?_); refine bx_ (w := w) (N := 1) (cs := #[.int .i64 a0_0, .slice A0_1 l0_1.length c0_1]) (t := 25) ?_; intro gb368 w4 BK368 n0_ GW368 GE368; clear HB; have HB := n0_; clear n0_; obtain ⟨hcz5_0, hcz5_1⟩ := cz2_ BK368.out; obtain ⟨hfz5_0, hfz5_1⟩ := fz2_ BK368.out) | ((with_reducible refine gate_callee (f := 30) rfl ?_); refine goesL_ (some 7) rfl rfl Tryd.func30 (by kernel_rfl) rfl #[.int .i64 a0_0] rfl (by (try simp only [List.map_toArray, List.map_cons, List.map_nil]); first | done | rfl | (simp only [List.length_drop, List.length_take]; rfl)) ?_; (with_reducible refine (computusref26_In.calls a0_0 true _ A2.out).mono ?_); rintro e w' ⟨rfl, ⟨nd, rfl⟩⟩; refine ⟨_, rfl, ?_⟩))
 go_loopg [3] k (fun kq v3 w' => ∃ (x3_1 : Int), v3 = .int .i64 x3_1 ∧ Aside0 (computusref27_Printable.l0 kq x3_1 a0_0 l0_1 = some r) ∧ Aside0 (kq ≤ k) ∧ Aside0 (w'.heap[gb368]? = some (.cells #[.int .i64 a0_0, (.slice A0_1 l0_1.length c0_1)] 25 (0, 0))) ∧ Aside0 (Below w.heap.size w w'))
 case atStart => exact ⟨(0), rs_, H', ⟨Nat.le_refl _⟩, ⟨bk_ BK368.out⟩, ⟨bh_⟩⟩
 case round =>
  clear H'
  obtain ⟨x3_1, rfl, HA, HK1, BK368, HB⟩ := hrel
  cases gk with
  | zero => exact absurd HA.out (by simp [computusref27_Printable.l0])
  | succ k1 =>
   have H := HA.out
   clear HA
   simp only [computusref27_Printable.l0] at H
   by_cases c6 : x3_1 < (l0_1.length : Int)
   rotate_left
   ·rw [if_neg c6] at H
    have c6b0 : decide (x3_1 < (l0_1.length : Int)) = false := decide_eq_false c6
    clear c6
    obtain rfl := Option.some.inj H
    obtain ⟨hcz92_0, hcz92_1⟩ := cz2_ BK368.out
    obtain ⟨hfz92_0, hfz92_1⟩ := fz2_ BK368.out
    go_wp2
    go_ret
    exact rt_
   rw [if_pos c6] at H
   have c6b0 : decide (x3_1 < (l0_1.length : Int)) = true := decide_eq_true c6
   clear c6
   by_cases c7 : 0 ≤ x3_1
   rotate_left
   ·rw [if_neg c7] at H
    exact absurd H (by simp)
   rw [if_pos c7] at H
   have c7b0 : decide (0 ≤ x3_1) = true := decide_eq_true c7
   clear c7
   have HC8 := am_ H
   clear H
   obtain ⟨hcz9_0, hcz9_1⟩ := cz2_ BK368.out
   obtain ⟨hfz9_0, hfz9_1⟩ := fz2_ BK368.out
   have p370 : 0 ≤ (x3_1 : Int) := of_decide_eq_true as_
   have q370 : x3_1 < (l0_1.length : Int) := of_decide_eq_true as_
   obtain ⟨ad370, A370_12, c370_12, A370_13, c370_13, e370, hx370_0, hx370_1, hx370_2, hx370_3, hx370_4, hx370_5, hx370_6, hx370_7, hx370_8, hx370_9, hx370_10, hx370_11, hx370_12, hx370_13, hl370_12, hi370_12, hl370_13, hi370_13⟩ := at_T40 HR0_1.out x3_1 p370 q370
   cases e370
   replace hx370_0 := cm_ HB.out hx370_0
   replace hx370_1 := cm_ HB.out hx370_1
   replace hx370_2 := cm_ HB.out hx370_2
   replace hx370_3 := cm_ HB.out hx370_3
   replace hx370_4 := cm_ HB.out hx370_4
   replace hx370_5 := cm_ HB.out hx370_5
   replace hx370_6 := cm_ HB.out hx370_6
   replace hx370_7 := cm_ HB.out hx370_7
   replace hx370_8 := cm_ HB.out hx370_8
   replace hx370_9 := cm_ HB.out hx370_9
   replace hx370_10 := cm_ HB.out hx370_10
   replace hx370_11 := cm_ HB.out hx370_11
   replace hx370_12 := cm_ HB.out hx370_12
   replace hx370_13 := cm_ HB.out hx370_13
   have HR370_12 := am_ hi370_12
   have HC370_12 := am_ hl370_12
   clear hi370_12 hl370_12
   have HR370_13 := am_ hi370_13
   have HC370_13 := am_ hl370_13
   clear hi370_13 hl370_13
   replace p370 := eq_true p370
   replace q370 := eq_true q370
   go_upto_region 7 with (first | ((with_reducible refine gate_dst (N := 4) rfl ?_); refine be_ (N := 4) (cs := #[.int .i64 0, .int .i64 0, .int .i64 0, .int .i64 0, .string (⟨#[]⟩ : ByteArray), .int .i64 0, .int .i64 0, .string (⟨#[]⟩ : ByteArray), .int .i64 0, .int .i64 0, .int .i64 0, .int .i64 0, .slice none 0 0, .slice none 0 0]) (t := 40) ?_; intro gb371 hg w10 hbox hb; have BK371 := am_ (hbox); have GW371 := gw_ (w := w) hg; have GE371 := gw_ (w := w) hg; replace HB := bt_ hb; have NB368_371 := ne_ hg BK368; have NB371_368 := nf_ hg BK368; replace BK368 := bw_ BK368 hb; clear hb hbox hg; have hnb11 := NB371_368.out; have hnc11 := NB368_371.out; have hcz12_0 : w10.cell? ⟨gb371, 0, none⟩ = some (.int .i64 0) := (blk_cell BK371.out 0).trans rfl; have hcz12_1 : w10.cell? ⟨gb371, 1, none⟩ = some (.int .i64 0) := (blk_cell BK371.out 1).trans rfl; have hcz12_2 : w10.cell? ⟨gb371, 2, none⟩ = some (.int .i64 0) := (blk_cell BK371.out 2).trans rfl; have hcz12_3 : w10.cell? ⟨gb371, 3, none⟩ = some (.int .i64 0) := (blk_cell BK371.out 3).trans rfl; have hcz12_4 : w10.cell? ⟨gb371, 4, none⟩ = some (.string (⟨#[]⟩ : ByteArray)) := (blk_cell BK371.out 4).trans rfl; have hcz12_5 : w10.cell? ⟨gb371, 5, none⟩ = some (.int .i64 0) := (blk_cell BK371.out 5).trans rfl; have hcz12_6 : w10.cell? ⟨gb371, 6, none⟩ = some (.int .i64 0) := (blk_cell BK371.out 6).trans rfl; have hcz12_7 : w10.cell? ⟨gb371, 7, none⟩ = some (.string (⟨#[]⟩ : ByteArray)) := (blk_cell BK371.out 7).trans rfl; have hcz12_8 : w10.cell? ⟨gb371, 8, none⟩ = some (.int .i64 0) := (blk_cell BK371.out 8).trans rfl; have hcz12_9 : w10.cell? ⟨gb371, 9, none⟩ = some (.int .i64 0) := (blk_cell BK371.out 9).trans rfl; have hcz12_10 : w10.cell? ⟨gb371, 10, none⟩ = some (.int .i64 0) := (blk_cell BK371.out 10).trans rfl; have hcz12_11 : w10.cell? ⟨gb371, 11, none⟩ = some (.int .i64 0) := (blk_cell BK371.out 11).trans rfl; have hcz12_12 : w10.cell? ⟨gb371, 12, none⟩ = some (.slice none 0 0) := (blk_cell BK371.out 12).trans rfl; have hcz12_13 : w10.cell? ⟨gb371, 13, none⟩ = some (.slice none 0 0) := (blk_cell BK371.out 13).trans rfl; have hfz12_0 := blk_frozen BK371.out 0; have hfz12_1 := blk_frozen BK371.out 1; have hfz12_2 := blk_frozen BK371.out 2; have hfz12_3 := blk_frozen BK371.out 3; have hfz12_4 := blk_frozen BK371.out 4; have hfz12_5 := blk_frozen BK371.out 5; have hfz12_6 := blk_frozen BK371.out 6; have hfz12_7 := blk_frozen BK371.out 7; have hfz12_8 := blk_frozen BK371.out 8; have hfz12_9 := blk_frozen BK371.out 9; have hfz12_10 := blk_frozen BK371.out 10; have hfz12_11 := blk_frozen BK371.out 11; have hfz12_12 := blk_frozen BK371.out 12; have hfz12_13 := blk_frozen BK371.out 13))
   (try simp only [Act.put, sA_, sZ_, sS_])
   go_cut [72] (fun v72 wc => ∃ (kq : Nat) (x72_7 : Bool), v72 = .bool x72_7 ∧ Aside0 (computusref27_Printable.j1 kq x3_1 x72_7 a0_0 l0_1 ((rd_T40 l0_1 x3_1).f0.f0) ((rd_T40 l0_1 x3_1).f0.f1) ((rd_T40 l0_1 x3_1).f0.f2) ((rd_T40 l0_1 x3_1).f1) ((rd_T40 l0_1 x3_1).f2) ((rd_T40 l0_1 x3_1).f3) ((rd_T40 l0_1 x3_1).f4) ((rd_T40 l0_1 x3_1).f5) ((rd_T40 l0_1 x3_1).f6) ((rd_T40 l0_1 x3_1).f7.f0) ((rd_T40 l0_1 x3_1).f7.f1) ((rd_T40 l0_1 x3_1).f7.f2) ((rd_T40 l0_1 x3_1).f8) ((rd_T40 l0_1 x3_1).f9) = some r) ∧ Aside0 (kq ≤ k1) ∧ Aside0 (wc.heap[gb368]? = some (.cells #[.int .i64 a0_0, (.slice (some ad370) l0_1.length c0_1)] 25 (0, 0))) ∧ Aside0 (wc.heap[gb371]? = some (.cells #[.int .i64 ((rd_T40 l0_1 x3_1).f0.f0), .int .i64 ((rd_T40 l0_1 x3_1).f0.f1), .int .i64 ((rd_T40 l0_1 x3_1).f0.f2), .int .i64 ((rd_T40 l0_1 x3_1).f1), .string ((rd_T40 l0_1 x3_1).f2), .int .i64 ((rd_T40 l0_1 x3_1).f3), .int .i64 ((rd_T40 l0_1 x3_1).f4), .string ((rd_T40 l0_1 x3_1).f5), .int .i64 ((rd_T40 l0_1 x3_1).f6), .int .i64 ((rd_T40 l0_1 x3_1).f7.f0), .int .i64 ((rd_T40 l0_1 x3_1).f7.f1), .int .i64 ((rd_T40 l0_1 x3_1).f7.f2), (.slice A370_12 ((rd_T40 l0_1 x3_1).f8).length c370_12), (.slice A370_13 ((rd_T40 l0_1 x3_1).f9).length c370_13)] 40 (0, 0))) ∧ Aside0 (Below w.heap.size w wc))
   case first =>
    have H := HC8.out
    clear HC8
    by_cases c13 : ((rd_T40 l0_1 x3_1).f0.f0) = a0_0
    rotate_left
    ·rw [if_neg c13] at H
     have c13b0 : (((rd_T40 l0_1 x3_1).f0.f0) == a0_0) = false := beq_eq_false_iff_ne.mpr c13
     have c13b1 : (((rd_T40 l0_1 x3_1).f0.f0) != a0_0) = true := bne_iff_ne.mpr c13
     (first | rw [c13b0] | (simp only [i64_w, i32_w]; rw [c13b0]) | skip)
     have H' := am_ H
     clear H
     have hnb49 := NB371_368.out
     have hnc49 := NB368_371.out
     have hcz50_0 : w10.cell? ⟨gb371, 0, none⟩ = some (.int .i64 0) := (blk_cell BK371.out 0).trans rfl
     have hcz50_1 : w10.cell? ⟨gb371, 1, none⟩ = some (.int .i64 0) := (blk_cell BK371.out 1).trans rfl
     have hcz50_2 : w10.cell? ⟨gb371, 2, none⟩ = some (.int .i64 0) := (blk_cell BK371.out 2).trans rfl
     have hcz50_3 : w10.cell? ⟨gb371, 3, none⟩ = some (.int .i64 0) := (blk_cell BK371.out 3).trans rfl
     have hcz50_4 : w10.cell? ⟨gb371, 4, none⟩ = some (.string (⟨#[]⟩ : ByteArray)) := (blk_cell BK371.out 4).trans rfl
     have hcz50_5 : w10.cell? ⟨gb371, 5, none⟩ = some (.int .i64 0) := (blk_cell BK371.out 5).trans rfl
     have hcz50_6 : w10.cell? ⟨gb371, 6, none⟩ = some (.int .i64 0) := (blk_cell BK371.out 6).trans rfl
     have hcz50_7 : w10.cell? ⟨gb371, 7, none⟩ = some (.string (⟨#[]⟩ : ByteArray)) := (blk_cell BK371.out 7).trans rfl
     have hcz50_8 : w10.cell? ⟨gb371, 8, none⟩ = some (.int .i64 0) := (blk_cell BK371.out 8).trans rfl
     have hcz50_9 : w10.cell? ⟨gb371, 9, none⟩ = some (.int .i64 0) := (blk_cell BK371.out 9).trans rfl
     have hcz50_10 : w10.cell? ⟨gb371, 10, none⟩ = some (.int .i64 0) := (blk_cell BK371.out 10).trans rfl
     have hcz50_11 : w10.cell? ⟨gb371, 11, none⟩ = some (.int .i64 0) := (blk_cell BK371.out 11).trans rfl
     have hcz50_12 : w10.cell? ⟨gb371, 12, none⟩ = some (.slice none 0 0) := (blk_cell BK371.out 12).trans rfl
     have hcz50_13 : w10.cell? ⟨gb371, 13, none⟩ = some (.slice none 0 0) := (blk_cell BK371.out 13).trans rfl
     have hfz50_0 := blk_frozen BK371.out 0
     have hfz50_1 := blk_frozen BK371.out 1
     have hfz50_2 := blk_frozen BK371.out 2
     have hfz50_3 := blk_frozen BK371.out 3
     have hfz50_4 := blk_frozen BK371.out 4
     have hfz50_5 := blk_frozen BK371.out 5
     have hfz50_6 := blk_frozen BK371.out 6
     have hfz50_7 := blk_frozen BK371.out 7
     have hfz50_8 := blk_frozen BK371.out 8
     have hfz50_9 := blk_frozen BK371.out 9
     have hfz50_10 := blk_frozen BK371.out 10
     have hfz50_11 := blk_frozen BK371.out 11
     have hfz50_12 := blk_frozen BK371.out 12
     have hfz50_13 := blk_frozen BK371.out 13
     obtain ⟨hcz51_0, hcz51_1⟩ := cz2_ BK368.out
     obtain ⟨hfz51_0, hfz51_1⟩ := fz2_ BK368.out
     go_wp2
     go_meet
     case rel => exact ⟨_, (true), rs_, H', ⟨by have := HK1.out; first | omega | exact Nat.le_refl _⟩, ⟨bf1_ NB368_371 BK368⟩, ⟨by refine bp_ ?_; refine blk_put (cs := #[.int .i64 ((rd_T40 l0_1 x3_1).f0.f0), .int .i64 ((rd_T40 l0_1 x3_1).f0.f1), .int .i64 ((rd_T40 l0_1 x3_1).f0.f2), .int .i64 ((rd_T40 l0_1 x3_1).f1), .string ((rd_T40 l0_1 x3_1).f2), .int .i64 ((rd_T40 l0_1 x3_1).f3), .int .i64 ((rd_T40 l0_1 x3_1).f4), .string ((rd_T40 l0_1 x3_1).f5), .int .i64 ((rd_T40 l0_1 x3_1).f6), .int .i64 ((rd_T40 l0_1 x3_1).f7.f0), .int .i64 ((rd_T40 l0_1 x3_1).f7.f1), .int .i64 ((rd_T40 l0_1 x3_1).f7.f2), .slice A370_12 ((rd_T40 l0_1 x3_1).f8).length c370_12, .slice none 0 0]) ?_ 13 _ rfl; refine bp_ ?_; refine blk_put (cs := #[.int .i64 ((rd_T40 l0_1 x3_1).f0.f0), .int .i64 ((rd_T40 l0_1 x3_1).f0.f1), .int .i64 ((rd_T40 l0_1 x3_1).f0.f2), .int .i64 ((rd_T40 l0_1 x3_1).f1), .string ((rd_T40 l0_1 x3_1).f2), .int .i64 ((rd_T40 l0_1 x3_1).f3), .int .i64 ((rd_T40 l0_1 x3_1).f4), .string ((rd_T40 l0_1 x3_1).f5), .int .i64 ((rd_T40 l0_1 x3_1).f6), .int .i64 ((rd_T40 l0_1 x3_1).f7.f0), .int .i64 ((rd_T40 l0_1 x3_1).f7.f1), .int .i64 ((rd_T40 l0_1 x3_1).f7.f2), .slice none 0 0, .slice none 0 0]) ?_ 12 _ rfl; refine bp_ ?_; refine blk_put (cs := #[.int .i64 ((rd_T40 l0_1 x3_1).f0.f0), .int .i64 ((rd_T40 l0_1 x3_1).f0.f1), .int .i64 ((rd_T40 l0_1 x3_1).f0.f2), .int .i64 ((rd_T40 l0_1 x3_1).f1), .string ((rd_T40 l0_1 x3_1).f2), .int .i64 ((rd_T40 l0_1 x3_1).f3), .int .i64 ((rd_T40 l0_1 x3_1).f4), .string ((rd_T40 l0_1 x3_1).f5), .int .i64 ((rd_T40 l0_1 x3_1).f6), .int .i64 ((rd_T40 l0_1 x3_1).f7.f0), .int .i64 ((rd_T40 l0_1 x3_1).f7.f1), .int .i64 0, .slice none 0 0, .slice none 0 0]) ?_ 11 _ rfl; refine bp_ ?_; refine blk_put (cs := #[.int .i64 ((rd_T40 l0_1 x3_1).f0.f0), .int .i64 ((rd_T40 l0_1 x3_1).f0.f1), .int .i64 ((rd_T40 l0_1 x3_1).f0.f2), .int .i64 ((rd_T40 l0_1 x3_1).f1), .string ((rd_T40 l0_1 x3_1).f2), .int .i64 ((rd_T40 l0_1 x3_1).f3), .int .i64 ((rd_T40 l0_1 x3_1).f4), .string ((rd_T40 l0_1 x3_1).f5), .int .i64 ((rd_T40 l0_1 x3_1).f6), .int .i64 ((rd_T40 l0_1 x3_1).f7.f0), .int .i64 0, .int .i64 0, .slice none 0 0, .slice none 0 0]) ?_ 10 _ rfl; refine bp_ ?_; refine blk_put (cs := #[.int .i64 ((rd_T40 l0_1 x3_1).f0.f0), .int .i64 ((rd_T40 l0_1 x3_1).f0.f1), .int .i64 ((rd_T40 l0_1 x3_1).f0.f2), .int .i64 ((rd_T40 l0_1 x3_1).f1), .string ((rd_T40 l0_1 x3_1).f2), .int .i64 ((rd_T40 l0_1 x3_1).f3), .int .i64 ((rd_T40 l0_1 x3_1).f4), .string ((rd_T40 l0_1 x3_1).f5), .int .i64 ((rd_T40 l0_1 x3_1).f6), .int .i64 0, .int .i64 0, .int .i64 0, .slice none 0 0, .slice none 0 0]) ?_ 9 _ rfl; refine bp_ ?_; refine blk_put (cs := #[.int .i64 ((rd_T40 l0_1 x3_1).f0.f0), .int .i64 ((rd_T40 l0_1 x3_1).f0.f1), .int .i64 ((rd_T40 l0_1 x3_1).f0.f2), .int .i64 ((rd_T40 l0_1 x3_1).f1), .string ((rd_T40 l0_1 x3_1).f2), .int .i64 ((rd_T40 l0_1 x3_1).f3), .int .i64 ((rd_T40 l0_1 x3_1).f4), .string ((rd_T40 l0_1 x3_1).f5), .int .i64 0, .int .i64 0, .int .i64 0, .int .i64 0, .slice none 0 0, .slice none 0 0]) ?_ 8 _ rfl; refine bp_ ?_; refine blk_put (cs := #[.int .i64 ((rd_T40 l0_1 x3_1).f0.f0), .int .i64 ((rd_T40 l0_1 x3_1).f0.f1), .int .i64 ((rd_T40 l0_1 x3_1).f0.f2), .int .i64 ((rd_T40 l0_1 x3_1).f1), .string ((rd_T40 l0_1 x3_1).f2), .int .i64 ((rd_T40 l0_1 x3_1).f3), .int .i64 ((rd_T40 l0_1 x3_1).f4), .string (⟨#[]⟩ : ByteArray), .int .i64 0, .int .i64 0, .int .i64 0, .int .i64 0, .slice none 0 0, .slice none 0 0]) ?_ 7 _ rfl; refine bp_ ?_; refine blk_put (cs := #[.int .i64 ((rd_T40 l0_1 x3_1).f0.f0), .int .i64 ((rd_T40 l0_1 x3_1).f0.f1), .int .i64 ((rd_T40 l0_1 x3_1).f0.f2), .int .i64 ((rd_T40 l0_1 x3_1).f1), .string ((rd_T40 l0_1 x3_1).f2), .int .i64 ((rd_T40 l0_1 x3_1).f3), .int .i64 0, .string (⟨#[]⟩ : ByteArray), .int .i64 0, .int .i64 0, .int .i64 0, .int .i64 0, .slice none 0 0, .slice none 0 0]) ?_ 6 _ rfl; refine bp_ ?_; refine blk_put (cs := #[.int .i64 ((rd_T40 l0_1 x3_1).f0.f0), .int .i64 ((rd_T40 l0_1 x3_1).f0.f1), .int .i64 ((rd_T40 l0_1 x3_1).f0.f2), .int .i64 ((rd_T40 l0_1 x3_1).f1), .string ((rd_T40 l0_1 x3_1).f2), .int .i64 0, .int .i64 0, .string (⟨#[]⟩ : ByteArray), .int .i64 0, .int .i64 0, .int .i64 0, .int .i64 0, .slice none 0 0, .slice none 0 0]) ?_ 5 _ rfl; refine bp_ ?_; refine blk_put (cs := #[.int .i64 ((rd_T40 l0_1 x3_1).f0.f0), .int .i64 ((rd_T40 l0_1 x3_1).f0.f1), .int .i64 ((rd_T40 l0_1 x3_1).f0.f2), .int .i64 ((rd_T40 l0_1 x3_1).f1), .string (⟨#[]⟩ : ByteArray), .int .i64 0, .int .i64 0, .string (⟨#[]⟩ : ByteArray), .int .i64 0, .int .i64 0, .int .i64 0, .int .i64 0, .slice none 0 0, .slice none 0 0]) ?_ 4 _ rfl; refine bp_ ?_; refine blk_put (cs := #[.int .i64 ((rd_T40 l0_1 x3_1).f0.f0), .int .i64 ((rd_T40 l0_1 x3_1).f0.f1), .int .i64 ((rd_T40 l0_1 x3_1).f0.f2), .int .i64 0, .string (⟨#[]⟩ : ByteArray), .int .i64 0, .int .i64 0, .string (⟨#[]⟩ : ByteArray), .int .i64 0, .int .i64 0, .int .i64 0, .int .i64 0, .slice none 0 0, .slice none 0 0]) ?_ 3 _ rfl; refine bp_ ?_; refine blk_put (cs := #[.int .i64 ((rd_T40 l0_1 x3_1).f0.f0), .int .i64 ((rd_T40 l0_1 x3_1).f0.f1), .int .i64 0, .int .i64 0, .string (⟨#[]⟩ : ByteArray), .int .i64 0, .int .i64 0, .string (⟨#[]⟩ : ByteArray), .int .i64 0, .int .i64 0, .int .i64 0, .int .i64 0, .slice none 0 0, .slice none 0 0]) ?_ 2 _ rfl; refine bp_ ?_; refine blk_put (cs := #[.int .i64 ((rd_T40 l0_1 x3_1).f0.f0), .int .i64 0, .int .i64 0, .int .i64 0, .string (⟨#[]⟩ : ByteArray), .int .i64 0, .int .i64 0, .string (⟨#[]⟩ : ByteArray), .int .i64 0, .int .i64 0, .int .i64 0, .int .i64 0, .slice none 0 0, .slice none 0 0]) ?_ 1 _ rfl; refine bp_ ?_; refine blk_put (cs := #[.int .i64 0, .int .i64 0, .int .i64 0, .int .i64 0, .string (⟨#[]⟩ : ByteArray), .int .i64 0, .int .i64 0, .string (⟨#[]⟩ : ByteArray), .int .i64 0, .int .i64 0, .int .i64 0, .int .i64 0, .slice none 0 0, .slice none 0 0]) ?_ 0 _ rfl; exact bk_ BK371.out⟩, ⟨bh_⟩⟩
    rw [if_pos c13] at H
    have c13b0 : (((rd_T40 l0_1 x3_1).f0.f0) == a0_0) = true := beq_iff_eq.mpr c13
    have c13b1 : (((rd_T40 l0_1 x3_1).f0.f0) != a0_0) = false := bne_eq_false_iff_eq.mpr c13
    clear c13
    (first | rw [c13b0] | (simp only [i64_w, i32_w]; rw [c13b0]) | skip)
    obtain ⟨t372, A14, H⟩ := bs_ H
    by_cases c15 : t372 = true
    rotate_left
    ·replace c15 := Bool.eq_false_iff.mpr c15
     subst c15
     replace H := if_ H
     have H' := am_ H
     clear H
     have hnb46 := NB371_368.out
     have hnc46 := NB368_371.out
     have hcz47_0 : w10.cell? ⟨gb371, 0, none⟩ = some (.int .i64 0) := (blk_cell BK371.out 0).trans rfl
     have hcz47_1 : w10.cell? ⟨gb371, 1, none⟩ = some (.int .i64 0) := (blk_cell BK371.out 1).trans rfl
     have hcz47_2 : w10.cell? ⟨gb371, 2, none⟩ = some (.int .i64 0) := (blk_cell BK371.out 2).trans rfl
     have hcz47_3 : w10.cell? ⟨gb371, 3, none⟩ = some (.int .i64 0) := (blk_cell BK371.out 3).trans rfl
     have hcz47_4 : w10.cell? ⟨gb371, 4, none⟩ = some (.string (⟨#[]⟩ : ByteArray)) := (blk_cell BK371.out 4).trans rfl
     have hcz47_5 : w10.cell? ⟨gb371, 5, none⟩ = some (.int .i64 0) := (blk_cell BK371.out 5).trans rfl
     have hcz47_6 : w10.cell? ⟨gb371, 6, none⟩ = some (.int .i64 0) := (blk_cell BK371.out 6).trans rfl
     have hcz47_7 : w10.cell? ⟨gb371, 7, none⟩ = some (.string (⟨#[]⟩ : ByteArray)) := (blk_cell BK371.out 7).trans rfl
     have hcz47_8 : w10.cell? ⟨gb371, 8, none⟩ = some (.int .i64 0) := (blk_cell BK371.out 8).trans rfl
     have hcz47_9 : w10.cell? ⟨gb371, 9, none⟩ = some (.int .i64 0) := (blk_cell BK371.out 9).trans rfl
     have hcz47_10 : w10.cell? ⟨gb371, 10, none⟩ = some (.int .i64 0) := (blk_cell BK371.out 10).trans rfl
     have hcz47_11 : w10.cell? ⟨gb371, 11, none⟩ = some (.int .i64 0) := (blk_cell BK371.out 11).trans rfl
     have hcz47_12 : w10.cell? ⟨gb371, 12, none⟩ = some (.slice none 0 0) := (blk_cell BK371.out 12).trans rfl
     have hcz47_13 : w10.cell? ⟨gb371, 13, none⟩ = some (.slice none 0 0) := (blk_cell BK371.out 13).trans rfl
     have hfz47_0 := blk_frozen BK371.out 0
     have hfz47_1 := blk_frozen BK371.out 1
     have hfz47_2 := blk_frozen BK371.out 2
     have hfz47_3 := blk_frozen BK371.out 3
     have hfz47_4 := blk_frozen BK371.out 4
     have hfz47_5 := blk_frozen BK371.out 5
     have hfz47_6 := blk_frozen BK371.out 6
     have hfz47_7 := blk_frozen BK371.out 7
     have hfz47_8 := blk_frozen BK371.out 8
     have hfz47_9 := blk_frozen BK371.out 9
     have hfz47_10 := blk_frozen BK371.out 10
     have hfz47_11 := blk_frozen BK371.out 11
     have hfz47_12 := blk_frozen BK371.out 12
     have hfz47_13 := blk_frozen BK371.out 13
     obtain ⟨hcz48_0, hcz48_1⟩ := cz2_ BK368.out
     obtain ⟨hfz48_0, hfz48_1⟩ := fz2_ BK368.out
     go_wp2_with (first | (go_at_call 30; (with_reducible refine (computusref26_In.calls ((rd_T40 l0_1 x3_1).f0.f1) false _ A14.out).mono ?_); rintro e w' ⟨rfl, ⟨nd, rfl⟩⟩))
     go_meet
     case rel => exact ⟨_, (true), rs_, H', ⟨by have := HK1.out; first | omega | exact Nat.le_refl _⟩, ⟨bf1_ NB368_371 BK368⟩, ⟨by refine bp_ ?_; refine blk_put (cs := #[.int .i64 ((rd_T40 l0_1 x3_1).f0.f0), .int .i64 ((rd_T40 l0_1 x3_1).f0.f1), .int .i64 ((rd_T40 l0_1 x3_1).f0.f2), .int .i64 ((rd_T40 l0_1 x3_1).f1), .string ((rd_T40 l0_1 x3_1).f2), .int .i64 ((rd_T40 l0_1 x3_1).f3), .int .i64 ((rd_T40 l0_1 x3_1).f4), .string ((rd_T40 l0_1 x3_1).f5), .int .i64 ((rd_T40 l0_1 x3_1).f6), .int .i64 ((rd_T40 l0_1 x3_1).f7.f0), .int .i64 ((rd_T40 l0_1 x3_1).f7.f1), .int .i64 ((rd_T40 l0_1 x3_1).f7.f2), .slice A370_12 ((rd_T40 l0_1 x3_1).f8).length c370_12, .slice none 0 0]) ?_ 13 _ rfl; refine bp_ ?_; refine blk_put (cs := #[.int .i64 ((rd_T40 l0_1 x3_1).f0.f0), .int .i64 ((rd_T40 l0_1 x3_1).f0.f1), .int .i64 ((rd_T40 l0_1 x3_1).f0.f2), .int .i64 ((rd_T40 l0_1 x3_1).f1), .string ((rd_T40 l0_1 x3_1).f2), .int .i64 ((rd_T40 l0_1 x3_1).f3), .int .i64 ((rd_T40 l0_1 x3_1).f4), .string ((rd_T40 l0_1 x3_1).f5), .int .i64 ((rd_T40 l0_1 x3_1).f6), .int .i64 ((rd_T40 l0_1 x3_1).f7.f0), .int .i64 ((rd_T40 l0_1 x3_1).f7.f1), .int .i64 ((rd_T40 l0_1 x3_1).f7.f2), .slice none 0 0, .slice none 0 0]) ?_ 12 _ rfl; refine bp_ ?_; refine blk_put (cs := #[.int .i64 ((rd_T40 l0_1 x3_1).f0.f0), .int .i64 ((rd_T40 l0_1 x3_1).f0.f1), .int .i64 ((rd_T40 l0_1 x3_1).f0.f2), .int .i64 ((rd_T40 l0_1 x3_1).f1), .string ((rd_T40 l0_1 x3_1).f2), .int .i64 ((rd_T40 l0_1 x3_1).f3), .int .i64 ((rd_T40 l0_1 x3_1).f4), .string ((rd_T40 l0_1 x3_1).f5), .int .i64 ((rd_T40 l0_1 x3_1).f6), .int .i64 ((rd_T40 l0_1 x3_1).f7.f0), .int .i64 ((rd_T40 l0_1 x3_1).f7.f1), .int .i64 0, .slice none 0 0, .slice none 0 0]) ?_ 11 _ rfl; refine bp_ ?_; refine blk_put (cs := #[.int .i64 ((rd_T40 l0_1 x3_1).f0.f0), .int .i64 ((rd_T40 l0_1 x3_1).f0.f1), .int .i64 ((rd_T40 l0_1 x3_1).f0.f2), .int .i64 ((rd_T40 l0_1 x3_1).f1), .string ((rd_T40 l0_1 x3_1).f2), .int .i64 ((rd_T40 l0_1 x3_1).f3), .int .i64 ((rd_T40 l0_1 x3_1).f4), .string ((rd_T40 l0_1 x3_1).f5), .int .i64 ((rd_T40 l0_1 x3_1).f6), .int .i64 ((rd_T40 l0_1 x3_1).f7.f0), .int .i64 0, .int .i64 0, .slice none 0 0, .slice none 0 0]) ?_ 10 _ rfl; refine bp_ ?_; refine blk_put (cs := #[.int .i64 ((rd_T40 l0_1 x3_1).f0.f0), .int .i64 ((rd_T40 l0_1 x3_1).f0.f1), .int .i64 ((rd_T40 l0_1 x3_1).f0.f2), .int .i64 ((rd_T40 l0_1 x3_1).f1), .string ((rd_T40 l0_1 x3_1).f2), .int .i64 ((rd_T40 l0_1 x3_1).f3), .int .i64 ((rd_T40 l0_1 x3_1).f4), .string ((rd_T40 l0_1 x3_1).f5), .int .i64 ((rd_T40 l0_1 x3_1).f6), .int .i64 0, .int .i64 0, .int .i64 0, .slice none 0 0, .slice none 0 0]) ?_ 9 _ rfl; refine bp_ ?_; refine blk_put (cs := #[.int .i64 ((rd_T40 l0_1 x3_1).f0.f0), .int .i64 ((rd_T40 l0_1 x3_1).f0.f1), .int .i64 ((rd_T40 l0_1 x3_1).f0.f2), .int .i64 ((rd_T40 l0_1 x3_1).f1), .string ((rd_T40 l0_1 x3_1).f2), .int .i64 ((rd_T40 l0_1 x3_1).f3), .int .i64 ((rd_T40 l0_1 x3_1).f4), .string ((rd_T40 l0_1 x3_1).f5), .int .i64 0, .int .i64 0, .int .i64 0, .int .i64 0, .slice none 0 0, .slice none 0 0]) ?_ 8 _ rfl; refine bp_ ?_; refine blk_put (cs := #[.int .i64 ((rd_T40 l0_1 x3_1).f0.f0), .int .i64 ((rd_T40 l0_1 x3_1).f0.f1), .int .i64 ((rd_T40 l0_1 x3_1).f0.f2), .int .i64 ((rd_T40 l0_1 x3_1).f1), .string ((rd_T40 l0_1 x3_1).f2), .int .i64 ((rd_T40 l0_1 x3_1).f3), .int .i64 ((rd_T40 l0_1 x3_1).f4), .string (⟨#[]⟩ : ByteArray), .int .i64 0, .int .i64 0, .int .i64 0, .int .i64 0, .slice none 0 0, .slice none 0 0]) ?_ 7 _ rfl; refine bp_ ?_; refine blk_put (cs := #[.int .i64 ((rd_T40 l0_1 x3_1).f0.f0), .int .i64 ((rd_T40 l0_1 x3_1).f0.f1), .int .i64 ((rd_T40 l0_1 x3_1).f0.f2), .int .i64 ((rd_T40 l0_1 x3_1).f1), .string ((rd_T40 l0_1 x3_1).f2), .int .i64 ((rd_T40 l0_1 x3_1).f3), .int .i64 0, .string (⟨#[]⟩ : ByteArray), .int .i64 0, .int .i64 0, .int .i64 0, .int .i64 0, .slice none 0 0, .slice none 0 0]) ?_ 6 _ rfl; refine bp_ ?_; refine blk_put (cs := #[.int .i64 ((rd_T40 l0_1 x3_1).f0.f0), .int .i64 ((rd_T40 l0_1 x3_1).f0.f1), .int .i64 ((rd_T40 l0_1 x3_1).f0.f2), .int .i64 ((rd_T40 l0_1 x3_1).f1), .string ((rd_T40 l0_1 x3_1).f2), .int .i64 0, .int .i64 0, .string (⟨#[]⟩ : ByteArray), .int .i64 0, .int .i64 0, .int .i64 0, .int .i64 0, .slice none 0 0, .slice none 0 0]) ?_ 5 _ rfl; refine bp_ ?_; refine blk_put (cs := #[.int .i64 ((rd_T40 l0_1 x3_1).f0.f0), .int .i64 ((rd_T40 l0_1 x3_1).f0.f1), .int .i64 ((rd_T40 l0_1 x3_1).f0.f2), .int .i64 ((rd_T40 l0_1 x3_1).f1), .string (⟨#[]⟩ : ByteArray), .int .i64 0, .int .i64 0, .string (⟨#[]⟩ : ByteArray), .int .i64 0, .int .i64 0, .int .i64 0, .int .i64 0, .slice none 0 0, .slice none 0 0]) ?_ 4 _ rfl; refine bp_ ?_; refine blk_put (cs := #[.int .i64 ((rd_T40 l0_1 x3_1).f0.f0), .int .i64 ((rd_T40 l0_1 x3_1).f0.f1), .int .i64 ((rd_T40 l0_1 x3_1).f0.f2), .int .i64 0, .string (⟨#[]⟩ : ByteArray), .int .i64 0, .int .i64 0, .string (⟨#[]⟩ : ByteArray), .int .i64 0, .int .i64 0, .int .i64 0, .int .i64 0, .slice none 0 0, .slice none 0 0]) ?_ 3 _ rfl; refine bp_ ?_; refine blk_put (cs := #[.int .i64 ((rd_T40 l0_1 x3_1).f0.f0), .int .i64 ((rd_T40 l0_1 x3_1).f0.f1), .int .i64 0, .int .i64 0, .string (⟨#[]⟩ : ByteArray), .int .i64 0, .int .i64 0, .string (⟨#[]⟩ : ByteArray), .int .i64 0, .int .i64 0, .int .i64 0, .int .i64 0, .slice none 0 0, .slice none 0 0]) ?_ 2 _ rfl; refine bp_ ?_; refine blk_put (cs := #[.int .i64 ((rd_T40 l0_1 x3_1).f0.f0), .int .i64 0, .int .i64 0, .int .i64 0, .string (⟨#[]⟩ : ByteArray), .int .i64 0, .int .i64 0, .string (⟨#[]⟩ : ByteArray), .int .i64 0, .int .i64 0, .int .i64 0, .int .i64 0, .slice none 0 0, .slice none 0 0]) ?_ 1 _ rfl; refine bp_ ?_; refine blk_put (cs := #[.int .i64 0, .int .i64 0, .int .i64 0, .int .i64 0, .string (⟨#[]⟩ : ByteArray), .int .i64 0, .int .i64 0, .string (⟨#[]⟩ : ByteArray), .int .i64 0, .int .i64 0, .int .i64 0, .int .i64 0, .slice none 0 0, .slice none 0 0]) ?_ 0 _ rfl; exact bk_ BK371.out⟩, ⟨bh_⟩⟩
    subst c15
    replace H := it_ H
    obtain ⟨t373, A16, H⟩ := bs_ H
    by_cases c17 : t373 = true
    rotate_left
    ·replace c17 := Bool.eq_false_iff.mpr c17
     subst c17
     replace H := if_ H
     have H' := am_ H
     clear H
     have hnb43 := NB371_368.out
     have hnc43 := NB368_371.out
     have hcz44_0 : w10.cell? ⟨gb371, 0, none⟩ = some (.int .i64 0) := (blk_cell BK371.out 0).trans rfl
     have hcz44_1 : w10.cell? ⟨gb371, 1, none⟩ = some (.int .i64 0) := (blk_cell BK371.out 1).trans rfl
     have hcz44_2 : w10.cell? ⟨gb371, 2, none⟩ = some (.int .i64 0) := (blk_cell BK371.out 2).trans rfl
     have hcz44_3 : w10.cell? ⟨gb371, 3, none⟩ = some (.int .i64 0) := (blk_cell BK371.out 3).trans rfl
     have hcz44_4 : w10.cell? ⟨gb371, 4, none⟩ = some (.string (⟨#[]⟩ : ByteArray)) := (blk_cell BK371.out 4).trans rfl
     have hcz44_5 : w10.cell? ⟨gb371, 5, none⟩ = some (.int .i64 0) := (blk_cell BK371.out 5).trans rfl
     have hcz44_6 : w10.cell? ⟨gb371, 6, none⟩ = some (.int .i64 0) := (blk_cell BK371.out 6).trans rfl
     have hcz44_7 : w10.cell? ⟨gb371, 7, none⟩ = some (.string (⟨#[]⟩ : ByteArray)) := (blk_cell BK371.out 7).trans rfl
     have hcz44_8 : w10.cell? ⟨gb371, 8, none⟩ = some (.int .i64 0) := (blk_cell BK371.out 8).trans rfl
     have hcz44_9 : w10.cell? ⟨gb371, 9, none⟩ = some (.int .i64 0) := (blk_cell BK371.out 9).trans rfl
     have hcz44_10 : w10.cell? ⟨gb371, 10, none⟩ = some (.int .i64 0) := (blk_cell BK371.out 10).trans rfl
     have hcz44_11 : w10.cell? ⟨gb371, 11, none⟩ = some (.int .i64 0) := (blk_cell BK371.out 11).trans rfl
     have hcz44_12 : w10.cell? ⟨gb371, 12, none⟩ = some (.slice none 0 0) := (blk_cell BK371.out 12).trans rfl
     have hcz44_13 : w10.cell? ⟨gb371, 13, none⟩ = some (.slice none 0 0) := (blk_cell BK371.out 13).trans rfl
     have hfz44_0 := blk_frozen BK371.out 0
     have hfz44_1 := blk_frozen BK371.out 1
     have hfz44_2 := blk_frozen BK371.out 2
     have hfz44_3 := blk_frozen BK371.out 3
     have hfz44_4 := blk_frozen BK371.out 4
     have hfz44_5 := blk_frozen BK371.out 5
     have hfz44_6 := blk_frozen BK371.out 6
     have hfz44_7 := blk_frozen BK371.out 7
     have hfz44_8 := blk_frozen BK371.out 8
     have hfz44_9 := blk_frozen BK371.out 9
     have hfz44_10 := blk_frozen BK371.out 10
     have hfz44_11 := blk_frozen BK371.out 11
     have hfz44_12 := blk_frozen BK371.out 12
     have hfz44_13 := blk_frozen BK371.out 13
     obtain ⟨hcz45_0, hcz45_1⟩ := cz2_ BK368.out
     obtain ⟨hfz45_0, hfz45_1⟩ := fz2_ BK368.out
     go_wp2_with (first | (go_at_call 30; (with_reducible refine (computusref26_In.calls ((rd_T40 l0_1 x3_1).f0.f1) true _ A14.out).mono ?_); rintro e w' ⟨rfl, ⟨nd, rfl⟩⟩) | (go_at_call 30; (with_reducible refine (computusref26_In.calls ((rd_T40 l0_1 x3_1).f0.f2) false _ A16.out).mono ?_); rintro e w' ⟨rfl, ⟨nd, rfl⟩⟩))
     go_meet
     case rel => exact ⟨_, (true), rs_, H', ⟨by have := HK1.out; first | omega | exact Nat.le_refl _⟩, ⟨bf1_ NB368_371 BK368⟩, ⟨by refine bp_ ?_; refine blk_put (cs := #[.int .i64 ((rd_T40 l0_1 x3_1).f0.f0), .int .i64 ((rd_T40 l0_1 x3_1).f0.f1), .int .i64 ((rd_T40 l0_1 x3_1).f0.f2), .int .i64 ((rd_T40 l0_1 x3_1).f1), .string ((rd_T40 l0_1 x3_1).f2), .int .i64 ((rd_T40 l0_1 x3_1).f3), .int .i64 ((rd_T40 l0_1 x3_1).f4), .string ((rd_T40 l0_1 x3_1).f5), .int .i64 ((rd_T40 l0_1 x3_1).f6), .int .i64 ((rd_T40 l0_1 x3_1).f7.f0), .int .i64 ((rd_T40 l0_1 x3_1).f7.f1), .int .i64 ((rd_T40 l0_1 x3_1).f7.f2), .slice A370_12 ((rd_T40 l0_1 x3_1).f8).length c370_12, .slice none 0 0]) ?_ 13 _ rfl; refine bp_ ?_; refine blk_put (cs := #[.int .i64 ((rd_T40 l0_1 x3_1).f0.f0), .int .i64 ((rd_T40 l0_1 x3_1).f0.f1), .int .i64 ((rd_T40 l0_1 x3_1).f0.f2), .int .i64 ((rd_T40 l0_1 x3_1).f1), .string ((rd_T40 l0_1 x3_1).f2), .int .i64 ((rd_T40 l0_1 x3_1).f3), .int .i64 ((rd_T40 l0_1 x3_1).f4), .string ((rd_T40 l0_1 x3_1).f5), .int .i64 ((rd_T40 l0_1 x3_1).f6), .int .i64 ((rd_T40 l0_1 x3_1).f7.f0), .int .i64 ((rd_T40 l0_1 x3_1).f7.f1), .int .i64 ((rd_T40 l0_1 x3_1).f7.f2), .slice none 0 0, .slice none 0 0]) ?_ 12 _ rfl; refine bp_ ?_; refine blk_put (cs := #[.int .i64 ((rd_T40 l0_1 x3_1).f0.f0), .int .i64 ((rd_T40 l0_1 x3_1).f0.f1), .int .i64 ((rd_T40 l0_1 x3_1).f0.f2), .int .i64 ((rd_T40 l0_1 x3_1).f1), .string ((rd_T40 l0_1 x3_1).f2), .int .i64 ((rd_T40 l0_1 x3_1).f3), .int .i64 ((rd_T40 l0_1 x3_1).f4), .string ((rd_T40 l0_1 x3_1).f5), .int .i64 ((rd_T40 l0_1 x3_1).f6), .int .i64 ((rd_T40 l0_1 x3_1).f7.f0), .int .i64 ((rd_T40 l0_1 x3_1).f7.f1), .int .i64 0, .slice none 0 0, .slice none 0 0]) ?_ 11 _ rfl; refine bp_ ?_; refine blk_put (cs := #[.int .i64 ((rd_T40 l0_1 x3_1).f0.f0), .int .i64 ((rd_T40 l0_1 x3_1).f0.f1), .int .i64 ((rd_T40 l0_1 x3_1).f0.f2), .int .i64 ((rd_T40 l0_1 x3_1).f1), .string ((rd_T40 l0_1 x3_1).f2), .int .i64 ((rd_T40 l0_1 x3_1).f3), .int .i64 ((rd_T40 l0_1 x3_1).f4), .string ((rd_T40 l0_1 x3_1).f5), .int .i64 ((rd_T40 l0_1 x3_1).f6), .int .i64 ((rd_T40 l0_1 x3_1).f7.f0), .int .i64 0, .int .i64 0, .slice none 0 0, .slice none 0 0]) ?_ 10 _ rfl; refine bp_ ?_; refine blk_put (cs := #[.int .i64 ((rd_T40 l0_1 x3_1).f0.f0), .int .i64 ((rd_T40 l0_1 x3_1).f0.f1), .int .i64 ((rd_T40 l0_1 x3_1).f0.f2), .int .i64 ((rd_T40 l0_1 x3_1).f1), .string ((rd_T40 l0_1 x3_1).f2), .int .i64 ((rd_T40 l0_1 x3_1).f3), .int .i64 ((rd_T40 l0_1 x3_1).f4), .string ((rd_T40 l0_1 x3_1).f5), .int .i64 ((rd_T40 l0_1 x3_1).f6), .int .i64 0, .int .i64 0, .int .i64 0, .slice none 0 0, .slice none 0 0]) ?_ 9 _ rfl; refine bp_ ?_; refine blk_put (cs := #[.int .i64 ((rd_T40 l0_1 x3_1).f0.f0), .int .i64 ((rd_T40 l0_1 x3_1).f0.f1), .int .i64 ((rd_T40 l0_1 x3_1).f0.f2), .int .i64 ((rd_T40 l0_1 x3_1).f1), .string ((rd_T40 l0_1 x3_1).f2), .int .i64 ((rd_T40 l0_1 x3_1).f3), .int .i64 ((rd_T40 l0_1 x3_1).f4), .string ((rd_T40 l0_1 x3_1).f5), .int .i64 0, .int .i64 0, .int .i64 0, .int .i64 0, .slice none 0 0, .slice none 0 0]) ?_ 8 _ rfl; refine bp_ ?_; refine blk_put (cs := #[.int .i64 ((rd_T40 l0_1 x3_1).f0.f0), .int .i64 ((rd_T40 l0_1 x3_1).f0.f1), .int .i64 ((rd_T40 l0_1 x3_1).f0.f2), .int .i64 ((rd_T40 l0_1 x3_1).f1), .string ((rd_T40 l0_1 x3_1).f2), .int .i64 ((rd_T40 l0_1 x3_1).f3), .int .i64 ((rd_T40 l0_1 x3_1).f4), .string (⟨#[]⟩ : ByteArray), .int .i64 0, .int .i64 0, .int .i64 0, .int .i64 0, .slice none 0 0, .slice none 0 0]) ?_ 7 _ rfl; refine bp_ ?_; refine blk_put (cs := #[.int .i64 ((rd_T40 l0_1 x3_1).f0.f0), .int .i64 ((rd_T40 l0_1 x3_1).f0.f1), .int .i64 ((rd_T40 l0_1 x3_1).f0.f2), .int .i64 ((rd_T40 l0_1 x3_1).f1), .string ((rd_T40 l0_1 x3_1).f2), .int .i64 ((rd_T40 l0_1 x3_1).f3), .int .i64 0, .string (⟨#[]⟩ : ByteArray), .int .i64 0, .int .i64 0, .int .i64 0, .int .i64 0, .slice none 0 0, .slice none 0 0]) ?_ 6 _ rfl; refine bp_ ?_; refine blk_put (cs := #[.int .i64 ((rd_T40 l0_1 x3_1).f0.f0), .int .i64 ((rd_T40 l0_1 x3_1).f0.f1), .int .i64 ((rd_T40 l0_1 x3_1).f0.f2), .int .i64 ((rd_T40 l0_1 x3_1).f1), .string ((rd_T40 l0_1 x3_1).f2), .int .i64 0, .int .i64 0, .string (⟨#[]⟩ : ByteArray), .int .i64 0, .int .i64 0, .int .i64 0, .int .i64 0, .slice none 0 0, .slice none 0 0]) ?_ 5 _ rfl; refine bp_ ?_; refine blk_put (cs := #[.int .i64 ((rd_T40 l0_1 x3_1).f0.f0), .int .i64 ((rd_T40 l0_1 x3_1).f0.f1), .int .i64 ((rd_T40 l0_1 x3_1).f0.f2), .int .i64 ((rd_T40 l0_1 x3_1).f1), .string (⟨#[]⟩ : ByteArray), .int .i64 0, .int .i64 0, .string (⟨#[]⟩ : ByteArray), .int .i64 0, .int .i64 0, .int .i64 0, .int .i64 0, .slice none 0 0, .slice none 0 0]) ?_ 4 _ rfl; refine bp_ ?_; refine blk_put (cs := #[.int .i64 ((rd_T40 l0_1 x3_1).f0.f0), .int .i64 ((rd_T40 l0_1 x3_1).f0.f1), .int .i64 ((rd_T40 l0_1 x3_1).f0.f2), .int .i64 0, .string (⟨#[]⟩ : ByteArray), .int .i64 0, .int .i64 0, .string (⟨#[]⟩ : ByteArray), .int .i64 0, .int .i64 0, .int .i64 0, .int .i64 0, .slice none 0 0, .slice none 0 0]) ?_ 3 _ rfl; refine bp_ ?_; refine blk_put (cs := #[.int .i64 ((rd_T40 l0_1 x3_1).f0.f0), .int .i64 ((rd_T40 l0_1 x3_1).f0.f1), .int .i64 0, .int .i64 0, .string (⟨#[]⟩ : ByteArray), .int .i64 0, .int .i64 0, .string (⟨#[]⟩ : ByteArray), .int .i64 0, .int .i64 0, .int .i64 0, .int .i64 0, .slice none 0 0, .slice none 0 0]) ?_ 2 _ rfl; refine bp_ ?_; refine blk_put (cs := #[.int .i64 ((rd_T40 l0_1 x3_1).f0.f0), .int .i64 0, .int .i64 0, .int .i64 0, .string (⟨#[]⟩ : ByteArray), .int .i64 0, .int .i64 0, .string (⟨#[]⟩ : ByteArray), .int .i64 0, .int .i64 0, .int .i64 0, .int .i64 0, .slice none 0 0, .slice none 0 0]) ?_ 1 _ rfl; refine bp_ ?_; refine blk_put (cs := #[.int .i64 0, .int .i64 0, .int .i64 0, .int .i64 0, .string (⟨#[]⟩ : ByteArray), .int .i64 0, .int .i64 0, .string (⟨#[]⟩ : ByteArray), .int .i64 0, .int .i64 0, .int .i64 0, .int .i64 0, .slice none 0 0, .slice none 0 0]) ?_ 0 _ rfl; exact bk_ BK371.out⟩, ⟨bh_⟩⟩
    subst c17
    replace H := it_ H
    obtain ⟨t374, A18, H⟩ := bs_ H
    by_cases c19 : t374 = true
    rotate_left
    ·replace c19 := Bool.eq_false_iff.mpr c19
     subst c19
     replace H := if_ H
     have H' := am_ H
     clear H
     have hnb40 := NB371_368.out
     have hnc40 := NB368_371.out
     have hcz41_0 : w10.cell? ⟨gb371, 0, none⟩ = some (.int .i64 0) := (blk_cell BK371.out 0).trans rfl
     have hcz41_1 : w10.cell? ⟨gb371, 1, none⟩ = some (.int .i64 0) := (blk_cell BK371.out 1).trans rfl
     have hcz41_2 : w10.cell? ⟨gb371, 2, none⟩ = some (.int .i64 0) := (blk_cell BK371.out 2).trans rfl
     have hcz41_3 : w10.cell? ⟨gb371, 3, none⟩ = some (.int .i64 0) := (blk_cell BK371.out 3).trans rfl
     have hcz41_4 : w10.cell? ⟨gb371, 4, none⟩ = some (.string (⟨#[]⟩ : ByteArray)) := (blk_cell BK371.out 4).trans rfl
     have hcz41_5 : w10.cell? ⟨gb371, 5, none⟩ = some (.int .i64 0) := (blk_cell BK371.out 5).trans rfl
     have hcz41_6 : w10.cell? ⟨gb371, 6, none⟩ = some (.int .i64 0) := (blk_cell BK371.out 6).trans rfl
     have hcz41_7 : w10.cell? ⟨gb371, 7, none⟩ = some (.string (⟨#[]⟩ : ByteArray)) := (blk_cell BK371.out 7).trans rfl
     have hcz41_8 : w10.cell? ⟨gb371, 8, none⟩ = some (.int .i64 0) := (blk_cell BK371.out 8).trans rfl
     have hcz41_9 : w10.cell? ⟨gb371, 9, none⟩ = some (.int .i64 0) := (blk_cell BK371.out 9).trans rfl
     have hcz41_10 : w10.cell? ⟨gb371, 10, none⟩ = some (.int .i64 0) := (blk_cell BK371.out 10).trans rfl
     have hcz41_11 : w10.cell? ⟨gb371, 11, none⟩ = some (.int .i64 0) := (blk_cell BK371.out 11).trans rfl
     have hcz41_12 : w10.cell? ⟨gb371, 12, none⟩ = some (.slice none 0 0) := (blk_cell BK371.out 12).trans rfl
     have hcz41_13 : w10.cell? ⟨gb371, 13, none⟩ = some (.slice none 0 0) := (blk_cell BK371.out 13).trans rfl
     have hfz41_0 := blk_frozen BK371.out 0
     have hfz41_1 := blk_frozen BK371.out 1
     have hfz41_2 := blk_frozen BK371.out 2
     have hfz41_3 := blk_frozen BK371.out 3
     have hfz41_4 := blk_frozen BK371.out 4
     have hfz41_5 := blk_frozen BK371.out 5
     have hfz41_6 := blk_frozen BK371.out 6
     have hfz41_7 := blk_frozen BK371.out 7
     have hfz41_8 := blk_frozen BK371.out 8
     have hfz41_9 := blk_frozen BK371.out 9
     have hfz41_10 := blk_frozen BK371.out 10
     have hfz41_11 := blk_frozen BK371.out 11
     have hfz41_12 := blk_frozen BK371.out 12
     have hfz41_13 := blk_frozen BK371.out 13
     obtain ⟨hcz42_0, hcz42_1⟩ := cz2_ BK368.out
     obtain ⟨hfz42_0, hfz42_1⟩ := fz2_ BK368.out
     go_wp2_with (first | (go_at_call 30; (with_reducible refine (computusref26_In.calls ((rd_T40 l0_1 x3_1).f0.f1) true _ A14.out).mono ?_); rintro e w' ⟨rfl, ⟨nd, rfl⟩⟩) | (go_at_call 30; (with_reducible refine (computusref26_In.calls ((rd_T40 l0_1 x3_1).f0.f2) true _ A16.out).mono ?_); rintro e w' ⟨rfl, ⟨nd, rfl⟩⟩) | (go_at_call 30; (with_reducible refine (computusref26_In.calls ((rd_T40 l0_1 x3_1).f3) false _ A18.out).mono ?_); rintro e w' ⟨rfl, ⟨nd, rfl⟩⟩))
     go_meet
     case rel => exact ⟨_, (true), rs_, H', ⟨by have := HK1.out; first | omega | exact Nat.le_refl _⟩, ⟨bf1_ NB368_371 BK368⟩, ⟨by refine bp_ ?_; refine blk_put (cs := #[.int .i64 ((rd_T40 l0_1 x3_1).f0.f0), .int .i64 ((rd_T40 l0_1 x3_1).f0.f1), .int .i64 ((rd_T40 l0_1 x3_1).f0.f2), .int .i64 ((rd_T40 l0_1 x3_1).f1), .string ((rd_T40 l0_1 x3_1).f2), .int .i64 ((rd_T40 l0_1 x3_1).f3), .int .i64 ((rd_T40 l0_1 x3_1).f4), .string ((rd_T40 l0_1 x3_1).f5), .int .i64 ((rd_T40 l0_1 x3_1).f6), .int .i64 ((rd_T40 l0_1 x3_1).f7.f0), .int .i64 ((rd_T40 l0_1 x3_1).f7.f1), .int .i64 ((rd_T40 l0_1 x3_1).f7.f2), .slice A370_12 ((rd_T40 l0_1 x3_1).f8).length c370_12, .slice none 0 0]) ?_ 13 _ rfl; refine bp_ ?_; refine blk_put (cs := #[.int .i64 ((rd_T40 l0_1 x3_1).f0.f0), .int .i64 ((rd_T40 l0_1 x3_1).f0.f1), .int .i64 ((rd_T40 l0_1 x3_1).f0.f2), .int .i64 ((rd_T40 l0_1 x3_1).f1), .string ((rd_T40 l0_1 x3_1).f2), .int .i64 ((rd_T40 l0_1 x3_1).f3), .int .i64 ((rd_T40 l0_1 x3_1).f4), .string ((rd_T40 l0_1 x3_1).f5), .int .i64 ((rd_T40 l0_1 x3_1).f6), .int .i64 ((rd_T40 l0_1 x3_1).f7.f0), .int .i64 ((rd_T40 l0_1 x3_1).f7.f1), .int .i64 ((rd_T40 l0_1 x3_1).f7.f2), .slice none 0 0, .slice none 0 0]) ?_ 12 _ rfl; refine bp_ ?_; refine blk_put (cs := #[.int .i64 ((rd_T40 l0_1 x3_1).f0.f0), .int .i64 ((rd_T40 l0_1 x3_1).f0.f1), .int .i64 ((rd_T40 l0_1 x3_1).f0.f2), .int .i64 ((rd_T40 l0_1 x3_1).f1), .string ((rd_T40 l0_1 x3_1).f2), .int .i64 ((rd_T40 l0_1 x3_1).f3), .int .i64 ((rd_T40 l0_1 x3_1).f4), .string ((rd_T40 l0_1 x3_1).f5), .int .i64 ((rd_T40 l0_1 x3_1).f6), .int .i64 ((rd_T40 l0_1 x3_1).f7.f0), .int .i64 ((rd_T40 l0_1 x3_1).f7.f1), .int .i64 0, .slice none 0 0, .slice none 0 0]) ?_ 11 _ rfl; refine bp_ ?_; refine blk_put (cs := #[.int .i64 ((rd_T40 l0_1 x3_1).f0.f0), .int .i64 ((rd_T40 l0_1 x3_1).f0.f1), .int .i64 ((rd_T40 l0_1 x3_1).f0.f2), .int .i64 ((rd_T40 l0_1 x3_1).f1), .string ((rd_T40 l0_1 x3_1).f2), .int .i64 ((rd_T40 l0_1 x3_1).f3), .int .i64 ((rd_T40 l0_1 x3_1).f4), .string ((rd_T40 l0_1 x3_1).f5), .int .i64 ((rd_T40 l0_1 x3_1).f6), .int .i64 ((rd_T40 l0_1 x3_1).f7.f0), .int .i64 0, .int .i64 0, .slice none 0 0, .slice none 0 0]) ?_ 10 _ rfl; refine bp_ ?_; refine blk_put (cs := #[.int .i64 ((rd_T40 l0_1 x3_1).f0.f0), .int .i64 ((rd_T40 l0_1 x3_1).f0.f1), .int .i64 ((rd_T40 l0_1 x3_1).f0.f2), .int .i64 ((rd_T40 l0_1 x3_1).f1), .string ((rd_T40 l0_1 x3_1).f2), .int .i64 ((rd_T40 l0_1 x3_1).f3), .int .i64 ((rd_T40 l0_1 x3_1).f4), .string ((rd_T40 l0_1 x3_1).f5), .int .i64 ((rd_T40 l0_1 x3_1).f6), .int .i64 0, .int .i64 0, .int .i64 0, .slice none 0 0, .slice none 0 0]) ?_ 9 _ rfl; refine bp_ ?_; refine blk_put (cs := #[.int .i64 ((rd_T40 l0_1 x3_1).f0.f0), .int .i64 ((rd_T40 l0_1 x3_1).f0.f1), .int .i64 ((rd_T40 l0_1 x3_1).f0.f2), .int .i64 ((rd_T40 l0_1 x3_1).f1), .string ((rd_T40 l0_1 x3_1).f2), .int .i64 ((rd_T40 l0_1 x3_1).f3), .int .i64 ((rd_T40 l0_1 x3_1).f4), .string ((rd_T40 l0_1 x3_1).f5), .int .i64 0, .int .i64 0, .int .i64 0, .int .i64 0, .slice none 0 0, .slice none 0 0]) ?_ 8 _ rfl; refine bp_ ?_; refine blk_put (cs := #[.int .i64 ((rd_T40 l0_1 x3_1).f0.f0), .int .i64 ((rd_T40 l0_1 x3_1).f0.f1), .int .i64 ((rd_T40 l0_1 x3_1).f0.f2), .int .i64 ((rd_T40 l0_1 x3_1).f1), .string ((rd_T40 l0_1 x3_1).f2), .int .i64 ((rd_T40 l0_1 x3_1).f3), .int .i64 ((rd_T40 l0_1 x3_1).f4), .string (⟨#[]⟩ : ByteArray), .int .i64 0, .int .i64 0, .int .i64 0, .int .i64 0, .slice none 0 0, .slice none 0 0]) ?_ 7 _ rfl; refine bp_ ?_; refine blk_put (cs := #[.int .i64 ((rd_T40 l0_1 x3_1).f0.f0), .int .i64 ((rd_T40 l0_1 x3_1).f0.f1), .int .i64 ((rd_T40 l0_1 x3_1).f0.f2), .int .i64 ((rd_T40 l0_1 x3_1).f1), .string ((rd_T40 l0_1 x3_1).f2), .int .i64 ((rd_T40 l0_1 x3_1).f3), .int .i64 0, .string (⟨#[]⟩ : ByteArray), .int .i64 0, .int .i64 0, .int .i64 0, .int .i64 0, .slice none 0 0, .slice none 0 0]) ?_ 6 _ rfl; refine bp_ ?_; refine blk_put (cs := #[.int .i64 ((rd_T40 l0_1 x3_1).f0.f0), .int .i64 ((rd_T40 l0_1 x3_1).f0.f1), .int .i64 ((rd_T40 l0_1 x3_1).f0.f2), .int .i64 ((rd_T40 l0_1 x3_1).f1), .string ((rd_T40 l0_1 x3_1).f2), .int .i64 0, .int .i64 0, .string (⟨#[]⟩ : ByteArray), .int .i64 0, .int .i64 0, .int .i64 0, .int .i64 0, .slice none 0 0, .slice none 0 0]) ?_ 5 _ rfl; refine bp_ ?_; refine blk_put (cs := #[.int .i64 ((rd_T40 l0_1 x3_1).f0.f0), .int .i64 ((rd_T40 l0_1 x3_1).f0.f1), .int .i64 ((rd_T40 l0_1 x3_1).f0.f2), .int .i64 ((rd_T40 l0_1 x3_1).f1), .string (⟨#[]⟩ : ByteArray), .int .i64 0, .int .i64 0, .string (⟨#[]⟩ : ByteArray), .int .i64 0, .int .i64 0, .int .i64 0, .int .i64 0, .slice none 0 0, .slice none 0 0]) ?_ 4 _ rfl; refine bp_ ?_; refine blk_put (cs := #[.int .i64 ((rd_T40 l0_1 x3_1).f0.f0), .int .i64 ((rd_T40 l0_1 x3_1).f0.f1), .int .i64 ((rd_T40 l0_1 x3_1).f0.f2), .int .i64 0, .string (⟨#[]⟩ : ByteArray), .int .i64 0, .int .i64 0, .string (⟨#[]⟩ : ByteArray), .int .i64 0, .int .i64 0, .int .i64 0, .int .i64 0, .slice none 0 0, .slice none 0 0]) ?_ 3 _ rfl; refine bp_ ?_; refine blk_put (cs := #[.int .i64 ((rd_T40 l0_1 x3_1).f0.f0), .int .i64 ((rd_T40 l0_1 x3_1).f0.f1), .int .i64 0, .int .i64 0, .string (⟨#[]⟩ : ByteArray), .int .i64 0, .int .i64 0, .string (⟨#[]⟩ : ByteArray), .int .i64 0, .int .i64 0, .int .i64 0, .int .i64 0, .slice none 0 0, .slice none 0 0]) ?_ 2 _ rfl; refine bp_ ?_; refine blk_put (cs := #[.int .i64 ((rd_T40 l0_1 x3_1).f0.f0), .int .i64 0, .int .i64 0, .int .i64 0, .string (⟨#[]⟩ : ByteArray), .int .i64 0, .int .i64 0, .string (⟨#[]⟩ : ByteArray), .int .i64 0, .int .i64 0, .int .i64 0, .int .i64 0, .slice none 0 0, .slice none 0 0]) ?_ 1 _ rfl; refine bp_ ?_; refine blk_put (cs := #[.int .i64 0, .int .i64 0, .int .i64 0, .int .i64 0, .string (⟨#[]⟩ : ByteArray), .int .i64 0, .int .i64 0, .string (⟨#[]⟩ : ByteArray), .int .i64 0, .int .i64 0, .int .i64 0, .int .i64 0, .slice none 0 0, .slice none 0 0]) ?_ 0 _ rfl; exact bk_ BK371.out⟩, ⟨bh_⟩⟩
    subst c19
    replace H := it_ H
    obtain ⟨t375, A20, H⟩ := bs_ H
    by_cases c21 : t375 = true
    rotate_left
    ·replace c21 := Bool.eq_false_iff.mpr c21
     subst c21
     replace H := if_ H
     have H' := am_ H
     clear H
     have hnb37 := NB371_368.out
     have hnc37 := NB368_371.out
     have hcz38_0 : w10.cell? ⟨gb371, 0, none⟩ = some (.int .i64 0) := (blk_cell BK371.out 0).trans rfl
     have hcz38_1 : w10.cell? ⟨gb371, 1, none⟩ = some (.int .i64 0) := (blk_cell BK371.out 1).trans rfl
     have hcz38_2 : w10.cell? ⟨gb371, 2, none⟩ = some (.int .i64 0) := (blk_cell BK371.out 2).trans rfl
     have hcz38_3 : w10.cell? ⟨gb371, 3, none⟩ = some (.int .i64 0) := (blk_cell BK371.out 3).trans rfl
     have hcz38_4 : w10.cell? ⟨gb371, 4, none⟩ = some (.string (⟨#[]⟩ : ByteArray)) := (blk_cell BK371.out 4).trans rfl
     have hcz38_5 : w10.cell? ⟨gb371, 5, none⟩ = some (.int .i64 0) := (blk_cell BK371.out 5).trans rfl
     have hcz38_6 : w10.cell? ⟨gb371, 6, none⟩ = some (.int .i64 0) := (blk_cell BK371.out 6).trans rfl
     have hcz38_7 : w10.cell? ⟨gb371, 7, none⟩ = some (.string (⟨#[]⟩ : ByteArray)) := (blk_cell BK371.out 7).trans rfl
     have hcz38_8 : w10.cell? ⟨gb371, 8, none⟩ = some (.int .i64 0) := (blk_cell BK371.out 8).trans rfl
     have hcz38_9 : w10.cell? ⟨gb371, 9, none⟩ = some (.int .i64 0) := (blk_cell BK371.out 9).trans rfl
     have hcz38_10 : w10.cell? ⟨gb371, 10, none⟩ = some (.int .i64 0) := (blk_cell BK371.out 10).trans rfl
     have hcz38_11 : w10.cell? ⟨gb371, 11, none⟩ = some (.int .i64 0) := (blk_cell BK371.out 11).trans rfl
     have hcz38_12 : w10.cell? ⟨gb371, 12, none⟩ = some (.slice none 0 0) := (blk_cell BK371.out 12).trans rfl
     have hcz38_13 : w10.cell? ⟨gb371, 13, none⟩ = some (.slice none 0 0) := (blk_cell BK371.out 13).trans rfl
     have hfz38_0 := blk_frozen BK371.out 0
     have hfz38_1 := blk_frozen BK371.out 1
     have hfz38_2 := blk_frozen BK371.out 2
     have hfz38_3 := blk_frozen BK371.out 3
     have hfz38_4 := blk_frozen BK371.out 4
     have hfz38_5 := blk_frozen BK371.out 5
     have hfz38_6 := blk_frozen BK371.out 6
     have hfz38_7 := blk_frozen BK371.out 7
     have hfz38_8 := blk_frozen BK371.out 8
     have hfz38_9 := blk_frozen BK371.out 9
     have hfz38_10 := blk_frozen BK371.out 10
     have hfz38_11 := blk_frozen BK371.out 11
     have hfz38_12 := blk_frozen BK371.out 12
     have hfz38_13 := blk_frozen BK371.out 13
     obtain ⟨hcz39_0, hcz39_1⟩ := cz2_ BK368.out
     obtain ⟨hfz39_0, hfz39_1⟩ := fz2_ BK368.out
     go_wp2_with (first | (go_at_call 30; (with_reducible refine (computusref26_In.calls ((rd_T40 l0_1 x3_1).f0.f1) true _ A14.out).mono ?_); rintro e w' ⟨rfl, ⟨nd, rfl⟩⟩) | (go_at_call 30; (with_reducible refine (computusref26_In.calls ((rd_T40 l0_1 x3_1).f0.f2) true _ A16.out).mono ?_); rintro e w' ⟨rfl, ⟨nd, rfl⟩⟩) | (go_at_call 30; (with_reducible refine (computusref26_In.calls ((rd_T40 l0_1 x3_1).f3) true _ A18.out).mono ?_); rintro e w' ⟨rfl, ⟨nd, rfl⟩⟩) | (go_at_call 30; (with_reducible refine (computusref26_In.calls ((rd_T40 l0_1 x3_1).f6) false _ A20.out).mono ?_); rintro e w' ⟨rfl, ⟨nd, rfl⟩⟩))
     go_meet
     case rel => exact ⟨_, (true), rs_, H', ⟨by have := HK1.out; first | omega | exact Nat.le_refl _⟩, ⟨bf1_ NB368_371 BK368⟩, ⟨by refine bp_ ?_; refine blk_put (cs := #[.int .i64 ((rd_T40 l0_1 x3_1).f0.f0), .int .i64 ((rd_T40 l0_1 x3_1).f0.f1), .int .i64 ((rd_T40 l0_1 x3_1).f0.f2), .int .i64 ((rd_T40 l0_1 x3_1).f1), .string ((rd_T40 l0_1 x3_1).f2), .int .i64 ((rd_T40 l0_1 x3_1).f3), .int .i64 ((rd_T40 l0_1 x3_1).f4), .string ((rd_T40 l0_1 x3_1).f5), .int .i64 ((rd_T40 l0_1 x3_1).f6), .int .i64 ((rd_T40 l0_1 x3_1).f7.f0), .int .i64 ((rd_T40 l0_1 x3_1).f7.f1), .int .i64 ((rd_T40 l0_1 x3_1).f7.f2), .slice A370_12 ((rd_T40 l0_1 x3_1).f8).length c370_12, .slice none 0 0]) ?_ 13 _ rfl; refine bp_ ?_; refine blk_put (cs := #[.int .i64 ((rd_T40 l0_1 x3_1).f0.f0), .int .i64 ((rd_T40 l0_1 x3_1).f0.f1), .int .i64 ((rd_T40 l0_1 x3_1).f0.f2), .int .i64 ((rd_T40 l0_1 x3_1).f1), .string ((rd_T40 l0_1 x3_1).f2), .int .i64 ((rd_T40 l0_1 x3_1).f3), .int .i64 ((rd_T40 l0_1 x3_1).f4), .string ((rd_T40 l0_1 x3_1).f5), .int .i64 ((rd_T40 l0_1 x3_1).f6), .int .i64 ((rd_T40 l0_1 x3_1).f7.f0), .int .i64 ((rd_T40 l0_1 x3_1).f7.f1), .int .i64 ((rd_T40 l0_1 x3_1).f7.f2), .slice none 0 0, .slice none 0 0]) ?_ 12 _ rfl; refine bp_ ?_; refine blk_put (cs := #[.int .i64 ((rd_T40 l0_1 x3_1).f0.f0), .int .i64 ((rd_T40 l0_1 x3_1).f0.f1), .int .i64 ((rd_T40 l0_1 x3_1).f0.f2), .int .i64 ((rd_T40 l0_1 x3_1).f1), .string ((rd_T40 l0_1 x3_1).f2), .int .i64 ((rd_T40 l0_1 x3_1).f3), .int .i64 ((rd_T40 l0_1 x3_1).f4), .string ((rd_T40 l0_1 x3_1).f5), .int .i64 ((rd_T40 l0_1 x3_1).f6), .int .i64 ((rd_T40 l0_1 x3_1).f7.f0), .int .i64 ((rd_T40 l0_1 x3_1).f7.f1), .int .i64 0, .slice none 0 0, .slice none 0 0]) ?_ 11 _ rfl; refine bp_ ?_; refine blk_put (cs := #[.int .i64 ((rd_T40 l0_1 x3_1).f0.f0), .int .i64 ((rd_T40 l0_1 x3_1).f0.f1), .int .i64 ((rd_T40 l0_1 x3_1).f0.f2), .int .i64 ((rd_T40 l0_1 x3_1).f1), .string ((rd_T40 l0_1 x3_1).f2), .int .i64 ((rd_T40 l0_1 x3_1).f3), .int .i64 ((rd_T40 l0_1 x3_1).f4), .string ((rd_T40 l0_1 x3_1).f5), .int .i64 ((rd_T40 l0_1 x3_1).f6), .int .i64 ((rd_T40 l0_1 x3_1).f7.f0), .int .i64 0, .int .i64 0, .slice none 0 0, .slice none 0 0]) ?_ 10 _ rfl; refine bp_ ?_; refine blk_put (cs := #[.int .i64 ((rd_T40 l0_1 x3_1).f0.f0), .int .i64 ((rd_T40 l0_1 x3_1).f0.f1), .int .i64 ((rd_T40 l0_1 x3_1).f0.f2), .int .i64 ((rd_T40 l0_1 x3_1).f1), .string ((rd_T40 l0_1 x3_1).f2), .int .i64 ((rd_T40 l0_1 x3_1).f3), .int .i64 ((rd_T40 l0_1 x3_1).f4), .string ((rd_T40 l0_1 x3_1).f5), .int .i64 ((rd_T40 l0_1 x3_1).f6), .int .i64 0, .int .i64 0, .int .i64 0, .slice none 0 0, .slice none 0 0]) ?_ 9 _ rfl; refine bp_ ?_; refine blk_put (cs := #[.int .i64 ((rd_T40 l0_1 x3_1).f0.f0), .int .i64 ((rd_T40 l0_1 x3_1).f0.f1), .int .i64 ((rd_T40 l0_1 x3_1).f0.f2), .int .i64 ((rd_T40 l0_1 x3_1).f1), .string ((rd_T40 l0_1 x3_1).f2), .int .i64 ((rd_T40 l0_1 x3_1).f3), .int .i64 ((rd_T40 l0_1 x3_1).f4), .string ((rd_T40 l0_1 x3_1).f5), .int .i64 0, .int .i64 0, .int .i64 0, .int .i64 0, .slice none 0 0, .slice none 0 0]) ?_ 8 _ rfl; refine bp_ ?_; refine blk_put (cs := #[.int .i64 ((rd_T40 l0_1 x3_1).f0.f0), .int .i64 ((rd_T40 l0_1 x3_1).f0.f1), .int .i64 ((rd_T40 l0_1 x3_1).f0.f2), .int .i64 ((rd_T40 l0_1 x3_1).f1), .string ((rd_T40 l0_1 x3_1).f2), .int .i64 ((rd_T40 l0_1 x3_1).f3), .int .i64 ((rd_T40 l0_1 x3_1).f4), .string (⟨#[]⟩ : ByteArray), .int .i64 0, .int .i64 0, .int .i64 0, .int .i64 0, .slice none 0 0, .slice none 0 0]) ?_ 7 _ rfl; refine bp_ ?_; refine blk_put (cs := #[.int .i64 ((rd_T40 l0_1 x3_1).f0.f0), .int .i64 ((rd_T40 l0_1 x3_1).f0.f1), .int .i64 ((rd_T40 l0_1 x3_1).f0.f2), .int .i64 ((rd_T40 l0_1 x3_1).f1), .string ((rd_T40 l0_1 x3_1).f2), .int .i64 ((rd_T40 l0_1 x3_1).f3), .int .i64 0, .string (⟨#[]⟩ : ByteArray), .int .i64 0, .int .i64 0, .int .i64 0, .int .i64 0, .slice none 0 0, .slice none 0 0]) ?_ 6 _ rfl; refine bp_ ?_; refine blk_put (cs := #[.int .i64 ((rd_T40 l0_1 x3_1).f0.f0), .int .i64 ((rd_T40 l0_1 x3_1).f0.f1), .int .i64 ((rd_T40 l0_1 x3_1).f0.f2), .int .i64 ((rd_T40 l0_1 x3_1).f1), .string ((rd_T40 l0_1 x3_1).f2), .int .i64 0, .int .i64 0, .string (⟨#[]⟩ : ByteArray), .int .i64 0, .int .i64 0, .int .i64 0, .int .i64 0, .slice none 0 0, .slice none 0 0]) ?_ 5 _ rfl; refine bp_ ?_; refine blk_put (cs := #[.int .i64 ((rd_T40 l0_1 x3_1).f0.f0), .int .i64 ((rd_T40 l0_1 x3_1).f0.f1), .int .i64 ((rd_T40 l0_1 x3_1).f0.f2), .int .i64 ((rd_T40 l0_1 x3_1).f1), .string (⟨#[]⟩ : ByteArray), .int .i64 0, .int .i64 0, .string (⟨#[]⟩ : ByteArray), .int .i64 0, .int .i64 0, .int .i64 0, .int .i64 0, .slice none 0 0, .slice none 0 0]) ?_ 4 _ rfl; refine bp_ ?_; refine blk_put (cs := #[.int .i64 ((rd_T40 l0_1 x3_1).f0.f0), .int .i64 ((rd_T40 l0_1 x3_1).f0.f1), .int .i64 ((rd_T40 l0_1 x3_1).f0.f2), .int .i64 0, .string (⟨#[]⟩ : ByteArray), .int .i64 0, .int .i64 0, .string (⟨#[]⟩ : ByteArray), .int .i64 0, .int .i64 0, .int .i64 0, .int .i64 0, .slice none 0 0, .slice none 0 0]) ?_ 3 _ rfl; refine bp_ ?_; refine blk_put (cs := #[.int .i64 ((rd_T40 l0_1 x3_1).f0.f0), .int .i64 ((rd_T40 l0_1 x3_1).f0.f1), .int .i64 0, .int .i64 0, .string (⟨#[]⟩ : ByteArray), .int .i64 0, .int .i64 0, .string (⟨#[]⟩ : ByteArray), .int .i64 0, .int .i64 0, .int .i64 0, .int .i64 0, .slice none 0 0, .slice none 0 0]) ?_ 2 _ rfl; refine bp_ ?_; refine blk_put (cs := #[.int .i64 ((rd_T40 l0_1 x3_1).f0.f0), .int .i64 0, .int .i64 0, .int .i64 0, .string (⟨#[]⟩ : ByteArray), .int .i64 0, .int .i64 0, .string (⟨#[]⟩ : ByteArray), .int .i64 0, .int .i64 0, .int .i64 0, .int .i64 0, .slice none 0 0, .slice none 0 0]) ?_ 1 _ rfl; refine bp_ ?_; refine blk_put (cs := #[.int .i64 0, .int .i64 0, .int .i64 0, .int .i64 0, .string (⟨#[]⟩ : ByteArray), .int .i64 0, .int .i64 0, .string (⟨#[]⟩ : ByteArray), .int .i64 0, .int .i64 0, .int .i64 0, .int .i64 0, .slice none 0 0, .slice none 0 0]) ?_ 0 _ rfl; exact bk_ BK371.out⟩, ⟨bh_⟩⟩
    subst c21
    replace H := it_ H
    by_cases c22 : ((rd_T40 l0_1 x3_1).f1) < 0
    ·rw [if_pos c22] at H
     have c22b0 : decide (((rd_T40 l0_1 x3_1).f1) < 0) = true := decide_eq_true c22
     clear c22
     have H' := am_ H
     clear H
     have hnb23 := NB371_368.out
     have hnc23 := NB368_371.out
     have hcz24_0 : w10.cell? ⟨gb371, 0, none⟩ = some (.int .i64 0) := (blk_cell BK371.out 0).trans rfl
     have hcz24_1 : w10.cell? ⟨gb371, 1, none⟩ = some (.int .i64 0) := (blk_cell BK371.out 1).trans rfl
     have hcz24_2 : w10.cell? ⟨gb371, 2, none⟩ = some (.int .i64 0) := (blk_cell BK371.out 2).trans rfl
     have hcz24_3 : w10.cell? ⟨gb371, 3, none⟩ = some (.int .i64 0) := (blk_cell BK371.out 3).trans rfl
     have hcz24_4 : w10.cell? ⟨gb371, 4, none⟩ = some (.string (⟨#[]⟩ : ByteArray)) := (blk_cell BK371.out 4).trans rfl
     have hcz24_5 : w10.cell? ⟨gb371, 5, none⟩ = some (.int .i64 0) := (blk_cell BK371.out 5).trans rfl
     have hcz24_6 : w10.cell? ⟨gb371, 6, none⟩ = some (.int .i64 0) := (blk_cell BK371.out 6).trans rfl
     have hcz24_7 : w10.cell? ⟨gb371, 7, none⟩ = some (.string (⟨#[]⟩ : ByteArray)) := (blk_cell BK371.out 7).trans rfl
     have hcz24_8 : w10.cell? ⟨gb371, 8, none⟩ = some (.int .i64 0) := (blk_cell BK371.out 8).trans rfl
     have hcz24_9 : w10.cell? ⟨gb371, 9, none⟩ = some (.int .i64 0) := (blk_cell BK371.out 9).trans rfl
     have hcz24_10 : w10.cell? ⟨gb371, 10, none⟩ = some (.int .i64 0) := (blk_cell BK371.out 10).trans rfl
     have hcz24_11 : w10.cell? ⟨gb371, 11, none⟩ = some (.int .i64 0) := (blk_cell BK371.out 11).trans rfl
     have hcz24_12 : w10.cell? ⟨gb371, 12, none⟩ = some (.slice none 0 0) := (blk_cell BK371.out 12).trans rfl
     have hcz24_13 : w10.cell? ⟨gb371, 13, none⟩ = some (.slice none 0 0) := (blk_cell BK371.out 13).trans rfl
     have hfz24_0 := blk_frozen BK371.out 0
     have hfz24_1 := blk_frozen BK371.out 1
     have hfz24_2 := blk_frozen BK371.out 2
     have hfz24_3 := blk_frozen BK371.out 3
     have hfz24_4 := blk_frozen BK371.out 4
     have hfz24_5 := blk_frozen BK371.out 5
     have hfz24_6 := blk_frozen BK371.out 6
     have hfz24_7 := blk_frozen BK371.out 7
     have hfz24_8 := blk_frozen BK371.out 8
     have hfz24_9 := blk_frozen BK371.out 9
     have hfz24_10 := blk_frozen BK371.out 10
     have hfz24_11 := blk_frozen BK371.out 11
     have hfz24_12 := blk_frozen BK371.out 12
     have hfz24_13 := blk_frozen BK371.out 13
     obtain ⟨hcz25_0, hcz25_1⟩ := cz2_ BK368.out
     obtain ⟨hfz25_0, hfz25_1⟩ := fz2_ BK368.out
     go_wp2_with (first | (go_at_call 30; (with_reducible refine (computusref26_In.calls ((rd_T40 l0_1 x3_1).f0.f1) true _ A14.out).mono ?_); rintro e w' ⟨rfl, ⟨nd, rfl⟩⟩) | (go_at_call 30; (with_reducible refine (computusref26_In.calls ((rd_T40 l0_1 x3_1).f0.f2) true _ A16.out).mono ?_); rintro e w' ⟨rfl, ⟨nd, rfl⟩⟩) | (go_at_call 30; (with_reducible refine (computusref26_In.calls ((rd_T40 l0_1 x3_1).f3) true _ A18.out).mono ?_); rintro e w' ⟨rfl, ⟨nd, rfl⟩⟩) | (go_at_call 30; (with_reducible refine (computusref26_In.calls ((rd_T40 l0_1 x3_1).f6) true _ A20.out).mono ?_); rintro e w' ⟨rfl, ⟨nd, rfl⟩⟩))
     go_meet
     case rel => exact ⟨_, (true), rs_, H', ⟨by have := HK1.out; first | omega | exact Nat.le_refl _⟩, ⟨bf1_ NB368_371 BK368⟩, ⟨by refine bp_ ?_; refine blk_put (cs := #[.int .i64 ((rd_T40 l0_1 x3_1).f0.f0), .int .i64 ((rd_T40 l0_1 x3_1).f0.f1), .int .i64 ((rd_T40 l0_1 x3_1).f0.f2), .int .i64 ((rd_T40 l0_1 x3_1).f1), .string ((rd_T40 l0_1 x3_1).f2), .int .i64 ((rd_T40 l0_1 x3_1).f3), .int .i64 ((rd_T40 l0_1 x3_1).f4), .string ((rd_T40 l0_1 x3_1).f5), .int .i64 ((rd_T40 l0_1 x3_1).f6), .int .i64 ((rd_T40 l0_1 x3_1).f7.f0), .int .i64 ((rd_T40 l0_1 x3_1).f7.f1), .int .i64 ((rd_T40 l0_1 x3_1).f7.f2), .slice A370_12 ((rd_T40 l0_1 x3_1).f8).length c370_12, .slice none 0 0]) ?_ 13 _ rfl; refine bp_ ?_; refine blk_put (cs := #[.int .i64 ((rd_T40 l0_1 x3_1).f0.f0), .int .i64 ((rd_T40 l0_1 x3_1).f0.f1), .int .i64 ((rd_T40 l0_1 x3_1).f0.f2), .int .i64 ((rd_T40 l0_1 x3_1).f1), .string ((rd_T40 l0_1 x3_1).f2), .int .i64 ((rd_T40 l0_1 x3_1).f3), .int .i64 ((rd_T40 l0_1 x3_1).f4), .string ((rd_T40 l0_1 x3_1).f5), .int .i64 ((rd_T40 l0_1 x3_1).f6), .int .i64 ((rd_T40 l0_1 x3_1).f7.f0), .int .i64 ((rd_T40 l0_1 x3_1).f7.f1), .int .i64 ((rd_T40 l0_1 x3_1).f7.f2), .slice none 0 0, .slice none 0 0]) ?_ 12 _ rfl; refine bp_ ?_; refine blk_put (cs := #[.int .i64 ((rd_T40 l0_1 x3_1).f0.f0), .int .i64 ((rd_T40 l0_1 x3_1).f0.f1), .int .i64 ((rd_T40 l0_1 x3_1).f0.f2), .int .i64 ((rd_T40 l0_1 x3_1).f1), .string ((rd_T40 l0_1 x3_1).f2), .int .i64 ((rd_T40 l0_1 x3_1).f3), .int .i64 ((rd_T40 l0_1 x3_1).f4), .string ((rd_T40 l0_1 x3_1).f5), .int .i64 ((rd_T40 l0_1 x3_1).f6), .int .i64 ((rd_T40 l0_1 x3_1).f7.f0), .int .i64 ((rd_T40 l0_1 x3_1).f7.f1), .int .i64 0, .slice none 0 0, .slice none 0 0]) ?_ 11 _ rfl; refine bp_ ?_; refine blk_put (cs := #[.int .i64 ((rd_T40 l0_1 x3_1).f0.f0), .int .i64 ((rd_T40 l0_1 x3_1).f0.f1), .int .i64 ((rd_T40 l0_1 x3_1).f0.f2), .int .i64 ((rd_T40 l0_1 x3_1).f1), .string ((rd_T40 l0_1 x3_1).f2), .int .i64 ((rd_T40 l0_1 x3_1).f3), .int .i64 ((rd_T40 l0_1 x3_1).f4), .string ((rd_T40 l0_1 x3_1).f5), .int .i64 ((rd_T40 l0_1 x3_1).f6), .int .i64 ((rd_T40 l0_1 x3_1).f7.f0), .int .i64 0, .int .i64 0, .slice none 0 0, .slice none 0 0]) ?_ 10 _ rfl; refine bp_ ?_; refine blk_put (cs := #[.int .i64 ((rd_T40 l0_1 x3_1).f0.f0), .int .i64 ((rd_T40 l0_1 x3_1).f0.f1), .int .i64 ((rd_T40 l0_1 x3_1).f0.f2), .int .i64 ((rd_T40 l0_1 x3_1).f1), .string ((rd_T40 l0_1 x3_1).f2), .int .i64 ((rd_T40 l0_1 x3_1).f3), .int .i64 ((rd_T40 l0_1 x3_1).f4), .string ((rd_T40 l0_1 x3_1).f5), .int .i64 ((rd_T40 l0_1 x3_1).f6), .int .i64 0, .int .i64 0, .int .i64 0, .slice none 0 0, .slice none 0 0]) ?_ 9 _ rfl; refine bp_ ?_; refine blk_put (cs := #[.int .i64 ((rd_T40 l0_1 x3_1).f0.f0), .int .i64 ((rd_T40 l0_1 x3_1).f0.f1), .int .i64 ((rd_T40 l0_1 x3_1).f0.f2), .int .i64 ((rd_T40 l0_1 x3_1).f1), .string ((rd_T40 l0_1 x3_1).f2), .int .i64 ((rd_T40 l0_1 x3_1).f3), .int .i64 ((rd_T40 l0_1 x3_1).f4), .string ((rd_T40 l0_1 x3_1).f5), .int .i64 0, .int .i64 0, .int .i64 0, .int .i64 0, .slice none 0 0, .slice none 0 0]) ?_ 8 _ rfl; refine bp_ ?_; refine blk_put (cs := #[.int .i64 ((rd_T40 l0_1 x3_1).f0.f0), .int .i64 ((rd_T40 l0_1 x3_1).f0.f1), .int .i64 ((rd_T40 l0_1 x3_1).f0.f2), .int .i64 ((rd_T40 l0_1 x3_1).f1), .string ((rd_T40 l0_1 x3_1).f2), .int .i64 ((rd_T40 l0_1 x3_1).f3), .int .i64 ((rd_T40 l0_1 x3_1).f4), .string (⟨#[]⟩ : ByteArray), .int .i64 0, .int .i64 0, .int .i64 0, .int .i64 0, .slice none 0 0, .slice none 0 0]) ?_ 7 _ rfl; refine bp_ ?_; refine blk_put (cs := #[.int .i64 ((rd_T40 l0_1 x3_1).f0.f0), .int .i64 ((rd_T40 l0_1 x3_1).f0.f1), .int .i64 ((rd_T40 l0_1 x3_1).f0.f2), .int .i64 ((rd_T40 l0_1 x3_1).f1), .string ((rd_T40 l0_1 x3_1).f2), .int .i64 ((rd_T40 l0_1 x3_1).f3), .int .i64 0, .string (⟨#[]⟩ : ByteArray), .int .i64 0, .int .i64 0, .int .i64 0, .int .i64 0, .slice none 0 0, .slice none 0 0]) ?_ 6 _ rfl; refine bp_ ?_; refine blk_put (cs := #[.int .i64 ((rd_T40 l0_1 x3_1).f0.f0), .int .i64 ((rd_T40 l0_1 x3_1).f0.f1), .int .i64 ((rd_T40 l0_1 x3_1).f0.f2), .int .i64 ((rd_T40 l0_1 x3_1).f1), .string ((rd_T40 l0_1 x3_1).f2), .int .i64 0, .int .i64 0, .string (⟨#[]⟩ : ByteArray), .int .i64 0, .int .i64 0, .int .i64 0, .int .i64 0, .slice none 0 0, .slice none 0 0]) ?_ 5 _ rfl; refine bp_ ?_; refine blk_put (cs := #[.int .i64 ((rd_T40 l0_1 x3_1).f0.f0), .int .i64 ((rd_T40 l0_1 x3_1).f0.f1), .int .i64 ((rd_T40 l0_1 x3_1).f0.f2), .int .i64 ((rd_T40 l0_1 x3_1).f1), .string (⟨#[]⟩ : ByteArray), .int .i64 0, .int .i64 0, .string (⟨#[]⟩ : ByteArray), .int .i64 0, .int .i64 0, .int .i64 0, .int .i64 0, .slice none 0 0, .slice none 0 0]) ?_ 4 _ rfl; refine bp_ ?_; refine blk_put (cs := #[.int .i64 ((rd_T40 l0_1 x3_1).f0.f0), .int .i64 ((rd_T40 l0_1 x3_1).f0.f1), .int .i64 ((rd_T40 l0_1 x3_1).f0.f2), .int .i64 0, .string (⟨#[]⟩ : ByteArray), .int .i64 0, .int .i64 0, .string (⟨#[]⟩ : ByteArray), .int .i64 0, .int .i64 0, .int .i64 0, .int .i64 0, .slice none 0 0, .slice none 0 0]) ?_ 3 _ rfl; refine bp_ ?_; refine blk_put (cs := #[.int .i64 ((rd_T40 l0_1 x3_1).f0.f0), .int .i64 ((rd_T40 l0_1 x3_1).f0.f1), .int .i64 0, .int .i64 0, .string (⟨#[]⟩ : ByteArray), .int .i64 0, .int .i64 0, .string (⟨#[]⟩ : ByteArray), .int .i64 0, .int .i64 0, .int .i64 0, .int .i64 0, .slice none 0 0, .slice none 0 0]) ?_ 2 _ rfl; refine bp_ ?_; refine blk_put (cs := #[.int .i64 ((rd_T40 l0_1 x3_1).f0.f0), .int .i64 0, .int .i64 0, .int .i64 0, .string (⟨#[]⟩ : ByteArray), .int .i64 0, .int .i64 0, .string (⟨#[]⟩ : ByteArray), .int .i64 0, .int .i64 0, .int .i64 0, .int .i64 0, .slice none 0 0, .slice none 0 0]) ?_ 1 _ rfl; refine bp_ ?_; refine blk_put (cs := #[.int .i64 0, .int .i64 0, .int .i64 0, .int .i64 0, .string (⟨#[]⟩ : ByteArray), .int .i64 0, .int .i64 0, .string (⟨#[]⟩ : ByteArray), .int .i64 0, .int .i64 0, .int .i64 0, .int .i64 0, .slice none 0 0, .slice none 0 0]) ?_ 0 _ rfl; exact bk_ BK371.out⟩, ⟨bh_⟩⟩
    rw [if_neg c22] at H
    have c22b0 : decide (((rd_T40 l0_1 x3_1).f1) < 0) = false := decide_eq_false c22
    clear c22
    by_cases c26 : ((rd_T40 l0_1 x3_1).f1) > 6
    ·rw [if_pos c26] at H
     have c26b0 : decide (6 < ((rd_T40 l0_1 x3_1).f1)) = true := decide_eq_true c26
     clear c26
     have H' := am_ H
     clear H
     have hnb27 := NB371_368.out
     have hnc27 := NB368_371.out
     have hcz28_0 : w10.cell? ⟨gb371, 0, none⟩ = some (.int .i64 0) := (blk_cell BK371.out 0).trans rfl
     have hcz28_1 : w10.cell? ⟨gb371, 1, none⟩ = some (.int .i64 0) := (blk_cell BK371.out 1).trans rfl
     have hcz28_2 : w10.cell? ⟨gb371, 2, none⟩ = some (.int .i64 0) := (blk_cell BK371.out 2).trans rfl
     have hcz28_3 : w10.cell? ⟨gb371, 3, none⟩ = some (.int .i64 0) := (blk_cell BK371.out 3).trans rfl
     have hcz28_4 : w10.cell? ⟨gb371, 4, none⟩ = some (.string (⟨#[]⟩ : ByteArray)) := (blk_cell BK371.out 4).trans rfl
     have hcz28_5 : w10.cell? ⟨gb371, 5, none⟩ = some (.int .i64 0) := (blk_cell BK371.out 5).trans rfl
     have hcz28_6 : w10.cell? ⟨gb371, 6, none⟩ = some (.int .i64 0) := (blk_cell BK371.out 6).trans rfl
     have hcz28_7 : w10.cell? ⟨gb371, 7, none⟩ = some (.string (⟨#[]⟩ : ByteArray)) := (blk_cell BK371.out 7).trans rfl
     have hcz28_8 : w10.cell? ⟨gb371, 8, none⟩ = some (.int .i64 0) := (blk_cell BK371.out 8).trans rfl
     have hcz28_9 : w10.cell? ⟨gb371, 9, none⟩ = some (.int .i64 0) := (blk_cell BK371.out 9).trans rfl
     have hcz28_10 : w10.cell? ⟨gb371, 10, none⟩ = some (.int .i64 0) := (blk_cell BK371.out 10).trans rfl
     have hcz28_11 : w10.cell? ⟨gb371, 11, none⟩ = some (.int .i64 0) := (blk_cell BK371.out 11).trans rfl
     have hcz28_12 : w10.cell? ⟨gb371, 12, none⟩ = some (.slice none 0 0) := (blk_cell BK371.out 12).trans rfl
     have hcz28_13 : w10.cell? ⟨gb371, 13, none⟩ = some (.slice none 0 0) := (blk_cell BK371.out 13).trans rfl
     have hfz28_0 := blk_frozen BK371.out 0
     have hfz28_1 := blk_frozen BK371.out 1
     have hfz28_2 := blk_frozen BK371.out 2
     have hfz28_3 := blk_frozen BK371.out 3
     have hfz28_4 := blk_frozen BK371.out 4
     have hfz28_5 := blk_frozen BK371.out 5
     have hfz28_6 := blk_frozen BK371.out 6
     have hfz28_7 := blk_frozen BK371.out 7
     have hfz28_8 := blk_frozen BK371.out 8
     have hfz28_9 := blk_frozen BK371.out 9
     have hfz28_10 := blk_frozen BK371.out 10
     have hfz28_11 := blk_frozen BK371.out 11
     have hfz28_12 := blk_frozen BK371.out 12
     have hfz28_13 := blk_frozen BK371.out 13
     obtain ⟨hcz29_0, hcz29_1⟩ := cz2_ BK368.out
     obtain ⟨hfz29_0, hfz29_1⟩ := fz2_ BK368.out
     go_wp2_with (first | (go_at_call 30; (with_reducible refine (computusref26_In.calls ((rd_T40 l0_1 x3_1).f0.f1) true _ A14.out).mono ?_); rintro e w' ⟨rfl, ⟨nd, rfl⟩⟩) | (go_at_call 30; (with_reducible refine (computusref26_In.calls ((rd_T40 l0_1 x3_1).f0.f2) true _ A16.out).mono ?_); rintro e w' ⟨rfl, ⟨nd, rfl⟩⟩) | (go_at_call 30; (with_reducible refine (computusref26_In.calls ((rd_T40 l0_1 x3_1).f3) true _ A18.out).mono ?_); rintro e w' ⟨rfl, ⟨nd, rfl⟩⟩) | (go_at_call 30; (with_reducible refine (computusref26_In.calls ((rd_T40 l0_1 x3_1).f6) true _ A20.out).mono ?_); rintro e w' ⟨rfl, ⟨nd, rfl⟩⟩))
     go_meet
     case rel => exact ⟨_, (true), rs_, H', ⟨by have := HK1.out; first | omega | exact Nat.le_refl _⟩, ⟨bf1_ NB368_371 BK368⟩, ⟨by refine bp_ ?_; refine blk_put (cs := #[.int .i64 ((rd_T40 l0_1 x3_1).f0.f0), .int .i64 ((rd_T40 l0_1 x3_1).f0.f1), .int .i64 ((rd_T40 l0_1 x3_1).f0.f2), .int .i64 ((rd_T40 l0_1 x3_1).f1), .string ((rd_T40 l0_1 x3_1).f2), .int .i64 ((rd_T40 l0_1 x3_1).f3), .int .i64 ((rd_T40 l0_1 x3_1).f4), .string ((rd_T40 l0_1 x3_1).f5), .int .i64 ((rd_T40 l0_1 x3_1).f6), .int .i64 ((rd_T40 l0_1 x3_1).f7.f0), .int .i64 ((rd_T40 l0_1 x3_1).f7.f1), .int .i64 ((rd_T40 l0_1 x3_1).f7.f2), .slice A370_12 ((rd_T40 l0_1 x3_1).f8).length c370_12, .slice none 0 0]) ?_ 13 _ rfl; refine bp_ ?_; refine blk_put (cs := #[.int .i64 ((rd_T40 l0_1 x3_1).f0.f0), .int .i64 ((rd_T40 l0_1 x3_1).f0.f1), .int .i64 ((rd_T40 l0_1 x3_1).f0.f2), .int .i64 ((rd_T40 l0_1 x3_1).f1), .string ((rd_T40 l0_1 x3_1).f2), .int .i64 ((rd_T40 l0_1 x3_1).f3), .int .i64 ((rd_T40 l0_1 x3_1).f4), .string ((rd_T40 l0_1 x3_1).f5), .int .i64 ((rd_T40 l0_1 x3_1).f6), .int .i64 ((rd_T40 l0_1 x3_1).f7.f0), .int .i64 ((rd_T40 l0_1 x3_1).f7.f1), .int .i64 ((rd_T40 l0_1 x3_1).f7.f2), .slice none 0 0, .slice none 0 0]) ?_ 12 _ rfl; refine bp_ ?_; refine blk_put (cs := #[.int .i64 ((rd_T40 l0_1 x3_1).f0.f0), .int .i64 ((rd_T40 l0_1 x3_1).f0.f1), .int .i64 ((rd_T40 l0_1 x3_1).f0.f2), .int .i64 ((rd_T40 l0_1 x3_1).f1), .string ((rd_T40 l0_1 x3_1).f2), .int .i64 ((rd_T40 l0_1 x3_1).f3), .int .i64 ((rd_T40 l0_1 x3_1).f4), .string ((rd_T40 l0_1 x3_1).f5), .int .i64 ((rd_T40 l0_1 x3_1).f6), .int .i64 ((rd_T40 l0_1 x3_1).f7.f0), .int .i64 ((rd_T40 l0_1 x3_1).f7.f1), .int .i64 0, .slice none 0 0, .slice none 0 0]) ?_ 11 _ rfl; refine bp_ ?_; refine blk_put (cs := #[.int .i64 ((rd_T40 l0_1 x3_1).f0.f0), .int .i64 ((rd_T40 l0_1 x3_1).f0.f1), .int .i64 ((rd_T40 l0_1 x3_1).f0.f2), .int .i64 ((rd_T40 l0_1 x3_1).f1), .string ((rd_T40 l0_1 x3_1).f2), .int .i64 ((rd_T40 l0_1 x3_1).f3), .int .i64 ((rd_T40 l0_1 x3_1).f4), .string ((rd_T40 l0_1 x3_1).f5), .int .i64 ((rd_T40 l0_1 x3_1).f6), .int .i64 ((rd_T40 l0_1 x3_1).f7.f0), .int .i64 0, .int .i64 0, .slice none 0 0, .slice none 0 0]) ?_ 10 _ rfl; refine bp_ ?_; refine blk_put (cs := #[.int .i64 ((rd_T40 l0_1 x3_1).f0.f0), .int .i64 ((rd_T40 l0_1 x3_1).f0.f1), .int .i64 ((rd_T40 l0_1 x3_1).f0.f2), .int .i64 ((rd_T40 l0_1 x3_1).f1), .string ((rd_T40 l0_1 x3_1).f2), .int .i64 ((rd_T40 l0_1 x3_1).f3), .int .i64 ((rd_T40 l0_1 x3_1).f4), .string ((rd_T40 l0_1 x3_1).f5), .int .i64 ((rd_T40 l0_1 x3_1).f6), .int .i64 0, .int .i64 0, .int .i64 0, .slice none 0 0, .slice none 0 0]) ?_ 9 _ rfl; refine bp_ ?_; refine blk_put (cs := #[.int .i64 ((rd_T40 l0_1 x3_1).f0.f0), .int .i64 ((rd_T40 l0_1 x3_1).f0.f1), .int .i64 ((rd_T40 l0_1 x3_1).f0.f2), .int .i64 ((rd_T40 l0_1 x3_1).f1), .string ((rd_T40 l0_1 x3_1).f2), .int .i64 ((rd_T40 l0_1 x3_1).f3), .int .i64 ((rd_T40 l0_1 x3_1).f4), .string ((rd_T40 l0_1 x3_1).f5), .int .i64 0, .int .i64 0, .int .i64 0, .int .i64 0, .slice none 0 0, .slice none 0 0]) ?_ 8 _ rfl; refine bp_ ?_; refine blk_put (cs := #[.int .i64 ((rd_T40 l0_1 x3_1).f0.f0), .int .i64 ((rd_T40 l0_1 x3_1).f0.f1), .int .i64 ((rd_T40 l0_1 x3_1).f0.f2), .int .i64 ((rd_T40 l0_1 x3_1).f1), .string ((rd_T40 l0_1 x3_1).f2), .int .i64 ((rd_T40 l0_1 x3_1).f3), .int .i64 ((rd_T40 l0_1 x3_1).f4), .string (⟨#[]⟩ : ByteArray), .int .i64 0, .int .i64 0, .int .i64 0, .int .i64 0, .slice none 0 0, .slice none 0 0]) ?_ 7 _ rfl; refine bp_ ?_; refine blk_put (cs := #[.int .i64 ((rd_T40 l0_1 x3_1).f0.f0), .int .i64 ((rd_T40 l0_1 x3_1).f0.f1), .int .i64 ((rd_T40 l0_1 x3_1).f0.f2), .int .i64 ((rd_T40 l0_1 x3_1).f1), .string ((rd_T40 l0_1 x3_1).f2), .int .i64 ((rd_T40 l0_1 x3_1).f3), .int .i64 0, .string (⟨#[]⟩ : ByteArray), .int .i64 0, .int .i64 0, .int .i64 0, .int .i64 0, .slice none 0 0, .slice none 0 0]) ?_ 6 _ rfl; refine bp_ ?_; refine blk_put (cs := #[.int .i64 ((rd_T40 l0_1 x3_1).f0.f0), .int .i64 ((rd_T40 l0_1 x3_1).f0.f1), .int .i64 ((rd_T40 l0_1 x3_1).f0.f2), .int .i64 ((rd_T40 l0_1 x3_1).f1), .string ((rd_T40 l0_1 x3_1).f2), .int .i64 0, .int .i64 0, .string (⟨#[]⟩ : ByteArray), .int .i64 0, .int .i64 0, .int .i64 0, .int .i64 0, .slice none 0 0, .slice none 0 0]) ?_ 5 _ rfl; refine bp_ ?_; refine blk_put (cs := #[.int .i64 ((rd_T40 l0_1 x3_1).f0.f0), .int .i64 ((rd_T40 l0_1 x3_1).f0.f1), .int .i64 ((rd_T40 l0_1 x3_1).f0.f2), .int .i64 ((rd_T40 l0_1 x3_1).f1), .string (⟨#[]⟩ : ByteArray), .int .i64 0, .int .i64 0, .string (⟨#[]⟩ : ByteArray), .int .i64 0, .int .i64 0, .int .i64 0, .int .i64 0, .slice none 0 0, .slice none 0 0]) ?_ 4 _ rfl; refine bp_ ?_; refine blk_put (cs := #[.int .i64 ((rd_T40 l0_1 x3_1).f0.f0), .int .i64 ((rd_T40 l0_1 x3_1).f0.f1), .int .i64 ((rd_T40 l0_1 x3_1).f0.f2), .int .i64 0, .string (⟨#[]⟩ : ByteArray), .int .i64 0, .int .i64 0, .string (⟨#[]⟩ : ByteArray), .int .i64 0, .int .i64 0, .int .i64 0, .int .i64 0, .slice none 0 0, .slice none 0 0]) ?_ 3 _ rfl; refine bp_ ?_; refine blk_put (cs := #[.int .i64 ((rd_T40 l0_1 x3_1).f0.f0), .int .i64 ((rd_T40 l0_1 x3_1).f0.f1), .int .i64 0, .int .i64 0, .string (⟨#[]⟩ : ByteArray), .int .i64 0, .int .i64 0, .string (⟨#[]⟩ : ByteArray), .int .i64 0, .int .i64 0, .int .i64 0, .int .i64 0, .slice none 0 0, .slice none 0 0]) ?_ 2 _ rfl; refine bp_ ?_; refine blk_put (cs := #[.int .i64 ((rd_T40 l0_1 x3_1).f0.f0), .int .i64 0, .int .i64 0, .int .i64 0, .string (⟨#[]⟩ : ByteArray), .int .i64 0, .int .i64 0, .string (⟨#[]⟩ : ByteArray), .int .i64 0, .int .i64 0, .int .i64 0, .int .i64 0, .slice none 0 0, .slice none 0 0]) ?_ 1 _ rfl; refine bp_ ?_; refine blk_put (cs := #[.int .i64 0, .int .i64 0, .int .i64 0, .int .i64 0, .string (⟨#[]⟩ : ByteArray), .int .i64 0, .int .i64 0, .string (⟨#[]⟩ : ByteArray), .int .i64 0, .int .i64 0, .int .i64 0, .int .i64 0, .slice none 0 0, .slice none 0 0]) ?_ 0 _ rfl; exact bk_ BK371.out⟩, ⟨bh_⟩⟩
    rw [if_neg c26] at H
    have c26b0 : decide (6 < ((rd_T40 l0_1 x3_1).f1)) = false := decide_eq_false c26
    clear c26
    by_cases c30 : ((rd_T40 l0_1 x3_1).f4) < 1
    ·rw [if_pos c30] at H
     have c30b0 : decide (((rd_T40 l0_1 x3_1).f4) < 1) = true := decide_eq_true c30
     clear c30
     have H' := am_ H
     clear H
     have hnb31 := NB371_368.out
     have hnc31 := NB368_371.out
     have hcz32_0 : w10.cell? ⟨gb371, 0, none⟩ = some (.int .i64 0) := (blk_cell BK371.out 0).trans rfl
     have hcz32_1 : w10.cell? ⟨gb371, 1, none⟩ = some (.int .i64 0) := (blk_cell BK371.out 1).trans rfl
     have hcz32_2 : w10.cell? ⟨gb371, 2, none⟩ = some (.int .i64 0) := (blk_cell BK371.out 2).trans rfl
     have hcz32_3 : w10.cell? ⟨gb371, 3, none⟩ = some (.int .i64 0) := (blk_cell BK371.out 3).trans rfl
     have hcz32_4 : w10.cell? ⟨gb371, 4, none⟩ = some (.string (⟨#[]⟩ : ByteArray)) := (blk_cell BK371.out 4).trans rfl
     have hcz32_5 : w10.cell? ⟨gb371, 5, none⟩ = some (.int .i64 0) := (blk_cell BK371.out 5).trans rfl
     have hcz32_6 : w10.cell? ⟨gb371, 6, none⟩ = some (.int .i64 0) := (blk_cell BK371.out 6).trans rfl
     have hcz32_7 : w10.cell? ⟨gb371, 7, none⟩ = some (.string (⟨#[]⟩ : ByteArray)) := (blk_cell BK371.out 7).trans rfl
     have hcz32_8 : w10.cell? ⟨gb371, 8, none⟩ = some (.int .i64 0) := (blk_cell BK371.out 8).trans rfl
     have hcz32_9 : w10.cell? ⟨gb371, 9, none⟩ = some (.int .i64 0) := (blk_cell BK371.out 9).trans rfl
     have hcz32_10 : w10.cell? ⟨gb371, 10, none⟩ = some (.int .i64 0) := (blk_cell BK371.out 10).trans rfl
     have hcz32_11 : w10.cell? ⟨gb371, 11, none⟩ = some (.int .i64 0) := (blk_cell BK371.out 11).trans rfl
     have hcz32_12 : w10.cell? ⟨gb371, 12, none⟩ = some (.slice none 0 0) := (blk_cell BK371.out 12).trans rfl
     have hcz32_13 : w10.cell? ⟨gb371, 13, none⟩ = some (.slice none 0 0) := (blk_cell BK371.out 13).trans rfl
     have hfz32_0 := blk_frozen BK371.out 0
     have hfz32_1 := blk_frozen BK371.out 1
     have hfz32_2 := blk_frozen BK371.out 2
     have hfz32_3 := blk_frozen BK371.out 3
     have hfz32_4 := blk_frozen BK371.out 4
     have hfz32_5 := blk_frozen BK371.out 5
     have hfz32_6 := blk_frozen BK371.out 6
     have hfz32_7 := blk_frozen BK371.out 7
     have hfz32_8 := blk_frozen BK371.out 8
     have hfz32_9 := blk_frozen BK371.out 9
     have hfz32_10 := blk_frozen BK371.out 10
     have hfz32_11 := blk_frozen BK371.out 11
     have hfz32_12 := blk_frozen BK371.out 12
     have hfz32_13 := blk_frozen BK371.out 13
     obtain ⟨hcz33_0, hcz33_1⟩ := cz2_ BK368.out
     obtain ⟨hfz33_0, hfz33_1⟩ := fz2_ BK368.out
     go_wp2_with (first | (go_at_call 30; (with_reducible refine (computusref26_In.calls ((rd_T40 l0_1 x3_1).f0.f1) true _ A14.out).mono ?_); rintro e w' ⟨rfl, ⟨nd, rfl⟩⟩) | (go_at_call 30; (with_reducible refine (computusref26_In.calls ((rd_T40 l0_1 x3_1).f0.f2) true _ A16.out).mono ?_); rintro e w' ⟨rfl, ⟨nd, rfl⟩⟩) | (go_at_call 30; (with_reducible refine (computusref26_In.calls ((rd_T40 l0_1 x3_1).f3) true _ A18.out).mono ?_); rintro e w' ⟨rfl, ⟨nd, rfl⟩⟩) | (go_at_call 30; (with_reducible refine (computusref26_In.calls ((rd_T40 l0_1 x3_1).f6) true _ A20.out).mono ?_); rintro e w' ⟨rfl, ⟨nd, rfl⟩⟩))
     go_meet
     case rel => exact ⟨_, (true), rs_, H', ⟨by have := HK1.out; first | omega | exact Nat.le_refl _⟩, ⟨bf1_ NB368_371 BK368⟩, ⟨by refine bp_ ?_; refine blk_put (cs := #[.int .i64 ((rd_T40 l0_1 x3_1).f0.f0), .int .i64 ((rd_T40 l0_1 x3_1).f0.f1), .int .i64 ((rd_T40 l0_1 x3_1).f0.f2), .int .i64 ((rd_T40 l0_1 x3_1).f1), .string ((rd_T40 l0_1 x3_1).f2), .int .i64 ((rd_T40 l0_1 x3_1).f3), .int .i64 ((rd_T40 l0_1 x3_1).f4), .string ((rd_T40 l0_1 x3_1).f5), .int .i64 ((rd_T40 l0_1 x3_1).f6), .int .i64 ((rd_T40 l0_1 x3_1).f7.f0), .int .i64 ((rd_T40 l0_1 x3_1).f7.f1), .int .i64 ((rd_T40 l0_1 x3_1).f7.f2), .slice A370_12 ((rd_T40 l0_1 x3_1).f8).length c370_12, .slice none 0 0]) ?_ 13 _ rfl; refine bp_ ?_; refine blk_put (cs := #[.int .i64 ((rd_T40 l0_1 x3_1).f0.f0), .int .i64 ((rd_T40 l0_1 x3_1).f0.f1), .int .i64 ((rd_T40 l0_1 x3_1).f0.f2), .int .i64 ((rd_T40 l0_1 x3_1).f1), .string ((rd_T40 l0_1 x3_1).f2), .int .i64 ((rd_T40 l0_1 x3_1).f3), .int .i64 ((rd_T40 l0_1 x3_1).f4), .string ((rd_T40 l0_1 x3_1).f5), .int .i64 ((rd_T40 l0_1 x3_1).f6), .int .i64 ((rd_T40 l0_1 x3_1).f7.f0), .int .i64 ((rd_T40 l0_1 x3_1).f7.f1), .int .i64 ((rd_T40 l0_1 x3_1).f7.f2), .slice none 0 0, .slice none 0 0]) ?_ 12 _ rfl; refine bp_ ?_; refine blk_put (cs := #[.int .i64 ((rd_T40 l0_1 x3_1).f0.f0), .int .i64 ((rd_T40 l0_1 x3_1).f0.f1), .int .i64 ((rd_T40 l0_1 x3_1).f0.f2), .int .i64 ((rd_T40 l0_1 x3_1).f1), .string ((rd_T40 l0_1 x3_1).f2), .int .i64 ((rd_T40 l0_1 x3_1).f3), .int .i64 ((rd_T40 l0_1 x3_1).f4), .string ((rd_T40 l0_1 x3_1).f5), .int .i64 ((rd_T40 l0_1 x3_1).f6), .int .i64 ((rd_T40 l0_1 x3_1).f7.f0), .int .i64 ((rd_T40 l0_1 x3_1).f7.f1), .int .i64 0, .slice none 0 0, .slice none 0 0]) ?_ 11 _ rfl; refine bp_ ?_; refine blk_put (cs := #[.int .i64 ((rd_T40 l0_1 x3_1).f0.f0), .int .i64 ((rd_T40 l0_1 x3_1).f0.f1), .int .i64 ((rd_T40 l0_1 x3_1).f0.f2), .int .i64 ((rd_T40 l0_1 x3_1).f1), .string ((rd_T40 l0_1 x3_1).f2), .int .i64 ((rd_T40 l0_1 x3_1).f3), .int .i64 ((rd_T40 l0_1 x3_1).f4), .string ((rd_T40 l0_1 x3_1).f5), .int .i64 ((rd_T40 l0_1 x3_1).f6), .int .i64 ((rd_T40 l0_1 x3_1).f7.f0), .int .i64 0, .int .i64 0, .slice none 0 0, .slice none 0 0]) ?_ 10 _ rfl; refine bp_ ?_; refine blk_put (cs := #[.int .i64 ((rd_T40 l0_1 x3_1).f0.f0), .int .i64 ((rd_T40 l0_1 x3_1).f0.f1), .int .i64 ((rd_T40 l0_1 x3_1).f0.f2), .int .i64 ((rd_T40 l0_1 x3_1).f1), .string ((rd_T40 l0_1 x3_1).f2), .int .i64 ((rd_T40 l0_1 x3_1).f3), .int .i64 ((rd_T40 l0_1 x3_1).f4), .string ((rd_T40 l0_1 x3_1).f5), .int .i64 ((rd_T40 l0_1 x3_1).f6), .int .i64 0, .int .i64 0, .int .i64 0, .slice none 0 0, .slice none 0 0]) ?_ 9 _ rfl; refine bp_ ?_; refine blk_put (cs := #[.int .i64 ((rd_T40 l0_1 x3_1).f0.f0), .int .i64 ((rd_T40 l0_1 x3_1).f0.f1), .int .i64 ((rd_T40 l0_1 x3_1).f0.f2), .int .i64 ((rd_T40 l0_1 x3_1).f1), .string ((rd_T40 l0_1 x3_1).f2), .int .i64 ((rd_T40 l0_1 x3_1).f3), .int .i64 ((rd_T40 l0_1 x3_1).f4), .string ((rd_T40 l0_1 x3_1).f5), .int .i64 0, .int .i64 0, .int .i64 0, .int .i64 0, .slice none 0 0, .slice none 0 0]) ?_ 8 _ rfl; refine bp_ ?_; refine blk_put (cs := #[.int .i64 ((rd_T40 l0_1 x3_1).f0.f0), .int .i64 ((rd_T40 l0_1 x3_1).f0.f1), .int .i64 ((rd_T40 l0_1 x3_1).f0.f2), .int .i64 ((rd_T40 l0_1 x3_1).f1), .string ((rd_T40 l0_1 x3_1).f2), .int .i64 ((rd_T40 l0_1 x3_1).f3), .int .i64 ((rd_T40 l0_1 x3_1).f4), .string (⟨#[]⟩ : ByteArray), .int .i64 0, .int .i64 0, .int .i64 0, .int .i64 0, .slice none 0 0, .slice none 0 0]) ?_ 7 _ rfl; refine bp_ ?_; refine blk_put (cs := #[.int .i64 ((rd_T40 l0_1 x3_1).f0.f0), .int .i64 ((rd_T40 l0_1 x3_1).f0.f1), .int .i64 ((rd_T40 l0_1 x3_1).f0.f2), .int .i64 ((rd_T40 l0_1 x3_1).f1), .string ((rd_T40 l0_1 x3_1).f2), .int .i64 ((rd_T40 l0_1 x3_1).f3), .int .i64 0, .string (⟨#[]⟩ : ByteArray), .int .i64 0, .int .i64 0, .int .i64 0, .int .i64 0, .slice none 0 0, .slice none 0 0]) ?_ 6 _ rfl; refine bp_ ?_; refine blk_put (cs := #[.int .i64 ((rd_T40 l0_1 x3_1).f0.f0), .int .i64 ((rd_T40 l0_1 x3_1).f0.f1), .int .i64 ((rd_T40 l0_1 x3_1).f0.f2), .int .i64 ((rd_T40 l0_1 x3_1).f1), .string ((rd_T40 l0_1 x3_1).f2), .int .i64 0, .int .i64 0, .string (⟨#[]⟩ : ByteArray), .int .i64 0, .int .i64 0, .int .i64 0, .int .i64 0, .slice none 0 0, .slice none 0 0]) ?_ 5 _ rfl; refine bp_ ?_; refine blk_put (cs := #[.int .i64 ((rd_T40 l0_1 x3_1).f0.f0), .int .i64 ((rd_T40 l0_1 x3_1).f0.f1), .int .i64 ((rd_T40 l0_1 x3_1).f0.f2), .int .i64 ((rd_T40 l0_1 x3_1).f1), .string (⟨#[]⟩ : ByteArray), .int .i64 0, .int .i64 0, .string (⟨#[]⟩ : ByteArray), .int .i64 0, .int .i64 0, .int .i64 0, .int .i64 0, .slice none 0 0, .slice none 0 0]) ?_ 4 _ rfl; refine bp_ ?_; refine blk_put (cs := #[.int .i64 ((rd_T40 l0_1 x3_1).f0.f0), .int .i64 ((rd_T40 l0_1 x3_1).f0.f1), .int .i64 ((rd_T40 l0_1 x3_1).f0.f2), .int .i64 0, .string (⟨#[]⟩ : ByteArray), .int .i64 0, .int .i64 0, .string (⟨#[]⟩ : ByteArray), .int .i64 0, .int .i64 0, .int .i64 0, .int .i64 0, .slice none 0 0, .slice none 0 0]) ?_ 3 _ rfl; refine bp_ ?_; refine blk_put (cs := #[.int .i64 ((rd_T40 l0_1 x3_1).f0.f0), .int .i64 ((rd_T40 l0_1 x3_1).f0.f1), .int .i64 0, .int .i64 0, .string (⟨#[]⟩ : ByteArray), .int .i64 0, .int .i64 0, .string (⟨#[]⟩ : ByteArray), .int .i64 0, .int .i64 0, .int .i64 0, .int .i64 0, .slice none 0 0, .slice none 0 0]) ?_ 2 _ rfl; refine bp_ ?_; refine blk_put (cs := #[.int .i64 ((rd_T40 l0_1 x3_1).f0.f0), .int .i64 0, .int .i64 0, .int .i64 0, .string (⟨#[]⟩ : ByteArray), .int .i64 0, .int .i64 0, .string (⟨#[]⟩ : ByteArray), .int .i64 0, .int .i64 0, .int .i64 0, .int .i64 0, .slice none 0 0, .slice none 0 0]) ?_ 1 _ rfl; refine bp_ ?_; refine blk_put (cs := #[.int .i64 0, .int .i64 0, .int .i64 0, .int .i64 0, .string (⟨#[]⟩ : ByteArray), .int .i64 0, .int .i64 0, .string (⟨#[]⟩ : ByteArray), .int .i64 0, .int .i64 0, .int .i64 0, .int .i64 0, .slice none 0 0, .slice none 0 0]) ?_ 0 _ rfl; exact bk_ BK371.out⟩, ⟨bh_⟩⟩
    rw [if_neg c30] at H
    have c30b0 : decide (((rd_T40 l0_1 x3_1).f4) < 1) = false := decide_eq_false c30
    clear c30
    have H' := am_ H
    clear H
    have hnb34 := NB371_368.out
    have hnc34 := NB368_371.out
    have hcz35_0 : w10.cell? ⟨gb371, 0, none⟩ = some (.int .i64 0) := (blk_cell BK371.out 0).trans rfl
    have hcz35_1 : w10.cell? ⟨gb371, 1, none⟩ = some (.int .i64 0) := (blk_cell BK371.out 1).trans rfl
    have hcz35_2 : w10.cell? ⟨gb371, 2, none⟩ = some (.int .i64 0) := (blk_cell BK371.out 2).trans rfl
    have hcz35_3 : w10.cell? ⟨gb371, 3, none⟩ = some (.int .i64 0) := (blk_cell BK371.out 3).trans rfl
    have hcz35_4 : w10.cell? ⟨gb371, 4, none⟩ = some (.string (⟨#[]⟩ : ByteArray)) := (blk_cell BK371.out 4).trans rfl
    have hcz35_5 : w10.cell? ⟨gb371, 5, none⟩ = some (.int .i64 0) := (blk_cell BK371.out 5).trans rfl
    have hcz35_6 : w10.cell? ⟨gb371, 6, none⟩ = some (.int .i64 0) := (blk_cell BK371.out 6).trans rfl
    have hcz35_7 : w10.cell? ⟨gb371, 7, none⟩ = some (.string (⟨#[]⟩ : ByteArray)) := (blk_cell BK371.out 7).trans rfl
    have hcz35_8 : w10.cell? ⟨gb371, 8, none⟩ = some (.int .i64 0) := (blk_cell BK371.out 8).trans rfl
    have hcz35_9 : w10.cell? ⟨gb371, 9, none⟩ = some (.int .i64 0) := (blk_cell BK371.out 9).trans rfl
    have hcz35_10 : w10.cell? ⟨gb371, 10, none⟩ = some (.int .i64 0) := (blk_cell BK371.out 10).trans rfl
    have hcz35_11 : w10.cell? ⟨gb371, 11, none⟩ = some (.int .i64 0) := (blk_cell BK371.out 11).trans rfl
    have hcz35_12 : w10.cell? ⟨gb371, 12, none⟩ = some (.slice none 0 0) := (blk_cell BK371.out 12).trans rfl
    have hcz35_13 : w10.cell? ⟨gb371, 13, none⟩ = some (.slice none 0 0) := (blk_cell BK371.out 13).trans rfl
    have hfz35_0 := blk_frozen BK371.out 0
    have hfz35_1 := blk_frozen BK371.out 1
    have hfz35_2 := blk_frozen BK371.out 2
    have hfz35_3 := blk_frozen BK371.out 3
    have hfz35_4 := blk_frozen BK371.out 4
    have hfz35_5 := blk_frozen BK371.out 5
    have hfz35_6 := blk_frozen BK371.out 6
    have hfz35_7 := blk_frozen BK371.out 7
    have hfz35_8 := blk_frozen BK371.out 8
    have hfz35_9 := blk_frozen BK371.out 9
    have hfz35_10 := blk_frozen BK371.out 10
    have hfz35_11 := blk_frozen BK371.out 11
    have hfz35_12 := blk_frozen BK371.out 12
    have hfz35_13 := blk_frozen BK371.out 13
    obtain ⟨hcz36_0, hcz36_1⟩ := cz2_ BK368.out
    obtain ⟨hfz36_0, hfz36_1⟩ := fz2_ BK368.out
    go_wp2_with (first | (go_at_call 30; (with_reducible refine (computusref26_In.calls ((rd_T40 l0_1 x3_1).f0.f1) true _ A14.out).mono ?_); rintro e w' ⟨rfl, ⟨nd, rfl⟩⟩) | (go_at_call 30; (with_reducible refine (computusref26_In.calls ((rd_T40 l0_1 x3_1).f0.f2) true _ A16.out).mono ?_); rintro e w' ⟨rfl, ⟨nd, rfl⟩⟩) | (go_at_call 30; (with_reducible refine (computusref26_In.calls ((rd_T40 l0_1 x3_1).f3) true _ A18.out).mono ?_); rintro e w' ⟨rfl, ⟨nd, rfl⟩⟩) | (go_at_call 30; (with_reducible refine (computusref26_In.calls ((rd_T40 l0_1 x3_1).f6) true _ A20.out).mono ?_); rintro e w' ⟨rfl, ⟨nd, rfl⟩⟩))
    go_meet
    case rel => exact ⟨_, (decide (((rd_T40 l0_1 x3_1).f4) > 3)), rs_, H', ⟨by have := HK1.out; first | omega | exact Nat.le_refl _⟩, ⟨bf1_ NB368_371 BK368⟩, ⟨by refine bp_ ?_; refine blk_put (cs := #[.int .i64 ((rd_T40 l0_1 x3_1).f0.f0), .int .i64 ((rd_T40 l0_1 x3_1).f0.f1), .int .i64 ((rd_T40 l0_1 x3_1).f0.f2), .int .i64 ((rd_T40 l0_1 x3_1).f1), .string ((rd_T40 l0_1 x3_1).f2), .int .i64 ((rd_T40 l0_1 x3_1).f3), .int .i64 ((rd_T40 l0_1 x3_1).f4), .string ((rd_T40 l0_1 x3_1).f5), .int .i64 ((rd_T40 l0_1 x3_1).f6), .int .i64 ((rd_T40 l0_1 x3_1).f7.f0), .int .i64 ((rd_T40 l0_1 x3_1).f7.f1), .int .i64 ((rd_T40 l0_1 x3_1).f7.f2), .slice A370_12 ((rd_T40 l0_1 x3_1).f8).length c370_12, .slice none 0 0]) ?_ 13 _ rfl; refine bp_ ?_; refine blk_put (cs := #[.int .i64 ((rd_T40 l0_1 x3_1).f0.f0), .int .i64 ((rd_T40 l0_1 x3_1).f0.f1), .int .i64 ((rd_T40 l0_1 x3_1).f0.f2), .int .i64 ((rd_T40 l0_1 x3_1).f1), .string ((rd_T40 l0_1 x3_1).f2), .int .i64 ((rd_T40 l0_1 x3_1).f3), .int .i64 ((rd_T40 l0_1 x3_1).f4), .string ((rd_T40 l0_1 x3_1).f5), .int .i64 ((rd_T40 l0_1 x3_1).f6), .int .i64 ((rd_T40 l0_1 x3_1).f7.f0), .int .i64 ((rd_T40 l0_1 x3_1).f7.f1), .int .i64 ((rd_T40 l0_1 x3_1).f7.f2), .slice none 0 0, .slice none 0 0]) ?_ 12 _ rfl; refine bp_ ?_; refine blk_put (cs := #[.int .i64 ((rd_T40 l0_1 x3_1).f0.f0), .int .i64 ((rd_T40 l0_1 x3_1).f0.f1), .int .i64 ((rd_T40 l0_1 x3_1).f0.f2), .int .i64 ((rd_T40 l0_1 x3_1).f1), .string ((rd_T40 l0_1 x3_1).f2), .int .i64 ((rd_T40 l0_1 x3_1).f3), .int .i64 ((rd_T40 l0_1 x3_1).f4), .string ((rd_T40 l0_1 x3_1).f5), .int .i64 ((rd_T40 l0_1 x3_1).f6), .int .i64 ((rd_T40 l0_1 x3_1).f7.f0), .int .i64 ((rd_T40 l0_1 x3_1).f7.f1), .int .i64 0, .slice none 0 0, .slice none 0 0]) ?_ 11 _ rfl; refine bp_ ?_; refine blk_put (cs := #[.int .i64 ((rd_T40 l0_1 x3_1).f0.f0), .int .i64 ((rd_T40 l0_1 x3_1).f0.f1), .int .i64 ((rd_T40 l0_1 x3_1).f0.f2), .int .i64 ((rd_T40 l0_1 x3_1).f1), .string ((rd_T40 l0_1 x3_1).f2), .int .i64 ((rd_T40 l0_1 x3_1).f3), .int .i64 ((rd_T40 l0_1 x3_1).f4), .string ((rd_T40 l0_1 x3_1).f5), .int .i64 ((rd_T40 l0_1 x3_1).f6), .int .i64 ((rd_T40 l0_1 x3_1).f7.f0), .int .i64 0, .int .i64 0, .slice none 0 0, .slice none 0 0]) ?_ 10 _ rfl; refine bp_ ?_; refine blk_put (cs := #[.int .i64 ((rd_T40 l0_1 x3_1).f0.f0), .int .i64 ((rd_T40 l0_1 x3_1).f0.f1), .int .i64 ((rd_T40 l0_1 x3_1).f0.f2), .int .i64 ((rd_T40 l0_1 x3_1).f1), .string ((rd_T40 l0_1 x3_1).f2), .int .i64 ((rd_T40 l0_1 x3_1).f3), .int .i64 ((rd_T40 l0_1 x3_1).f4), .string ((rd_T40 l0_1 x3_1).f5), .int .i64 ((rd_T40 l0_1 x3_1).f6), .int .i64 0, .int .i64 0, .int .i64 0, .slice none 0 0, .slice none 0 0]) ?_ 9 _ rfl; refine bp_ ?_; refine blk_put (cs := #[.int .i64 ((rd_T40 l0_1 x3_1).f0.f0), .int .i64 ((rd_T40 l0_1 x3_1).f0.f1), .int .i64 ((rd_T40 l0_1 x3_1).f0.f2), .int .i64 ((rd_T40 l0_1 x3_1).f1), .string ((rd_T40 l0_1 x3_1).f2), .int .i64 ((rd_T40 l0_1 x3_1).f3), .int .i64 ((rd_T40 l0_1 x3_1).f4), .string ((rd_T40 l0_1 x3_1).f5), .int .i64 0, .int .i64 0, .int .i64 0, .int .i64 0, .slice none 0 0, .slice none 0 0]) ?_ 8 _ rfl; refine bp_ ?_; refine blk_put (cs := #[.int .i64 ((rd_T40 l0_1 x3_1).f0.f0), .int .i64 ((rd_T40 l0_1 x3_1).f0.f1), .int .i64 ((rd_T40 l0_1 x3_1).f0.f2), .int .i64 ((rd_T40 l0_1 x3_1).f1), .string ((rd_T40 l0_1 x3_1).f2), .int .i64 ((rd_T40 l0_1 x3_1).f3), .int .i64 ((rd_T40 l0_1 x3_1).f4), .string (⟨#[]⟩ : ByteArray), .int .i64 0, .int .i64 0, .int .i64 0, .int .i64 0, .slice none 0 0, .slice none 0 0]) ?_ 7 _ rfl; refine bp_ ?_; refine blk_put (cs := #[.int .i64 ((rd_T40 l0_1 x3_1).f0.f0), .int .i64 ((rd_T40 l0_1 x3_1).f0.f1), .int .i64 ((rd_T40 l0_1 x3_1).f0.f2), .int .i64 ((rd_T40 l0_1 x3_1).f1), .string ((rd_T40 l0_1 x3_1).f2), .int .i64 ((rd_T40 l0_1 x3_1).f3), .int .i64 0, .string (⟨#[]⟩ : ByteArray), .int .i64 0, .int .i64 0, .int .i64 0, .int .i64 0, .slice none 0 0, .slice none 0 0]) ?_ 6 _ rfl; refine bp_ ?_; refine blk_put (cs := #[.int .i64 ((rd_T40 l0_1 x3_1).f0.f0), .int .i64 ((rd_T40 l0_1 x3_1).f0.f1), .int .i64 ((rd_T40 l0_1 x3_1).f0.f2), .int .i64 ((rd_T40 l0_1 x3_1).f1), .string ((rd_T40 l0_1 x3_1).f2), .int .i64 0, .int .i64 0, .string (⟨#[]⟩ : ByteArray), .int .i64 0, .int .i64 0, .int .i64 0, .int .i64 0, .slice none 0 0, .slice none 0 0]) ?_ 5 _ rfl; refine bp_ ?_; refine blk_put (cs := #[.int .i64 ((rd_T40 l0_1 x3_1).f0.f0), .int .i64 ((rd_T40 l0_1 x3_1).f0.f1), .int .i64 ((rd_T40 l0_1 x3_1).f0.f2), .int .i64 ((rd_T40 l0_1 x3_1).f1), .string (⟨#[]⟩ : ByteArray), .int .i64 0, .int .i64 0, .string (⟨#[]⟩ : ByteArray), .int .i64 0, .int .i64 0, .int .i64 0, .int .i64 0, .slice none 0 0, .slice none 0 0]) ?_ 4 _ rfl; refine bp_ ?_; refine blk_put (cs := #[.int .i64 ((rd_T40 l0_1 x3_1).f0.f0), .int .i64 ((rd_T40 l0_1 x3_1).f0.f1), .int .i64 ((rd_T40 l0_1 x3_1).f0.f2), .int .i64 0, .string (⟨#[]⟩ : ByteArray), .int .i64 0, .int .i64 0, .string (⟨#[]⟩ : ByteArray), .int .i64 0, .int .i64 0, .int .i64 0, .int .i64 0, .slice none 0 0, .slice none 0 0]) ?_ 3 _ rfl; refine bp_ ?_; refine blk_put (cs := #[.int .i64 ((rd_T40 l0_1 x3_1).f0.f0), .int .i64 ((rd_T40 l0_1 x3_1).f0.f1), .int .i64 0, .int .i64 0, .string (⟨#[]⟩ : ByteArray), .int .i64 0, .int .i64 0, .string (⟨#[]⟩ : ByteArray), .int .i64 0, .int .i64 0, .int .i64 0, .int .i64 0, .slice none 0 0, .slice none 0 0]) ?_ 2 _ rfl; refine bp_ ?_; refine blk_put (cs := #[.int .i64 ((rd_T40 l0_1 x3_1).f0.f0), .int .i64 0, .int .i64 0, .int .i64 0, .string (⟨#[]⟩ : ByteArray), .int .i64 0, .int .i64 0, .string (⟨#[]⟩ : ByteArray), .int .i64 0, .int .i64 0, .int .i64 0, .int .i64 0, .slice none 0 0, .slice none 0 0]) ?_ 1 _ rfl; refine bp_ ?_; refine blk_put (cs := #[.int .i64 0, .int .i64 0, .int .i64 0, .int .i64 0, .string (⟨#[]⟩ : ByteArray), .int .i64 0, .int .i64 0, .string (⟨#[]⟩ : ByteArray), .int .i64 0, .int .i64 0, .int .i64 0, .int .i64 0, .slice none 0 0, .slice none 0 0]) ?_ 0 _ rfl; exact bk_ BK371.out⟩, ⟨bh_⟩⟩
   case rest =>
    clear HC8
    obtain ⟨kq, x72_7, rfl, HA, HJ7, BK368, BK371, HB⟩ := hcut
    cases kq with
    | zero => exact absurd HA.out (by simp [computusref27_Printable.j1])
    | succ kj7 =>
     have H := HA.out
     clear HA
     simp only [computusref27_Printable.j1] at H
     by_cases c52 : x72_7 = true
     ·subst c52
      replace H := it_ H
      obtain rfl := Option.some.inj H
      go_wp2
      go_ret
      exact rt_
     replace c52 := Bool.eq_false_iff.mpr c52
     subst c52
     replace H := if_ H
     have HC53 := am_ H
     clear H
     go_upto_region 9 with (fail)
     go_cut [108] (fun v108 wc => ∃ (kq : Nat) (x108_52 : Bool), v108 = .bool x108_52 ∧ Aside0 (computusref27_Printable.j2 kq x3_1 x108_52 a0_0 l0_1 ((rd_T40 l0_1 x3_1).f0.f0) ((rd_T40 l0_1 x3_1).f0.f1) ((rd_T40 l0_1 x3_1).f0.f2) ((rd_T40 l0_1 x3_1).f1) ((rd_T40 l0_1 x3_1).f2) ((rd_T40 l0_1 x3_1).f3) ((rd_T40 l0_1 x3_1).f4) ((rd_T40 l0_1 x3_1).f5) ((rd_T40 l0_1 x3_1).f6) ((rd_T40 l0_1 x3_1).f7.f0) ((rd_T40 l0_1 x3_1).f7.f1) ((rd_T40 l0_1 x3_1).f7.f2) ((rd_T40 l0_1 x3_1).f8) ((rd_T40 l0_1 x3_1).f9) = some r) ∧ Aside0 (kq ≤ kj7) ∧ Aside0 (wc.heap[gb368]? = some (.cells #[.int .i64 a0_0, (.slice (some ad370) l0_1.length c0_1)] 25 (0, 0))) ∧ Aside0 (wc.heap[gb371]? = some (.cells #[.int .i64 ((rd_T40 l0_1 x3_1).f0.f0), .int .i64 ((rd_T40 l0_1 x3_1).f0.f1), .int .i64 ((rd_T40 l0_1 x3_1).f0.f2), .int .i64 ((rd_T40 l0_1 x3_1).f1), .string ((rd_T40 l0_1 x3_1).f2), .int .i64 ((rd_T40 l0_1 x3_1).f3), .int .i64 ((rd_T40 l0_1 x3_1).f4), .string ((rd_T40 l0_1 x3_1).f5), .int .i64 ((rd_T40 l0_1 x3_1).f6), .int .i64 ((rd_T40 l0_1 x3_1).f7.f0), .int .i64 ((rd_T40 l0_1 x3_1).f7.f1), .int .i64 ((rd_T40 l0_1 x3_1).f7.f2), (.slice A370_12 ((rd_T40 l0_1 x3_1).f8).length c370_12), (.slice A370_13 ((rd_T40 l0_1 x3_1).f9).length c370_13)] 40 (0, 0))) ∧ Aside0 (Below w.heap.size w wc))
     case first =>
      have H := HC53.out
      clear HC53
      by_cases c54 : ((rd_T40 l0_1 x3_1).f4) = 3
      rotate_left
      ·rw [if_neg c54] at H
       have c54b0 : (((rd_T40 l0_1 x3_1).f4) == 3) = false := beq_eq_false_iff_ne.mpr c54
       have c54b1 : (((rd_T40 l0_1 x3_1).f4) != 3) = true := bne_iff_ne.mpr c54
       (first | rw [c54b0] | (simp only [i64_w, i32_w]; rw [c54b0]) | skip)
       by_cases c68 : (!(((rd_T40 l0_1 x3_1).f7.f0) == 0) || (!(((rd_T40 l0_1 x3_1).f7.f1) == 0) || (!(((rd_T40 l0_1 x3_1).f7.f2) == 0)))) = true
       ·rw [if_pos c68] at H
        have c68b0 : (!(((rd_T40 l0_1 x3_1).f7.f0) == 0) || (!(((rd_T40 l0_1 x3_1).f7.f1) == 0) || (!(((rd_T40 l0_1 x3_1).f7.f2) == 0)))) = true := c68
        clear c68
        have H' := am_ H
        clear H
        have hnb69 := NB371_368.out
        have hnc69 := NB368_371.out
        have hcz70_0 : wc.cell? ⟨gb371, 0, none⟩ = some (.int .i64 ((rd_T40 l0_1 x3_1).f0.f0)) := (blk_cell BK371.out 0).trans rfl
        have hcz70_1 : wc.cell? ⟨gb371, 1, none⟩ = some (.int .i64 ((rd_T40 l0_1 x3_1).f0.f1)) := (blk_cell BK371.out 1).trans rfl
        have hcz70_2 : wc.cell? ⟨gb371, 2, none⟩ = some (.int .i64 ((rd_T40 l0_1 x3_1).f0.f2)) := (blk_cell BK371.out 2).trans rfl
        have hcz70_3 : wc.cell? ⟨gb371, 3, none⟩ = some (.int .i64 ((rd_T40 l0_1 x3_1).f1)) := (blk_cell BK371.out 3).trans rfl
        have hcz70_4 : wc.cell? ⟨gb371, 4, none⟩ = some (.string ((rd_T40 l0_1 x3_1).f2)) := (blk_cell BK371.out 4).trans rfl
        have hcz70_5 : wc.cell? ⟨gb371, 5, none⟩ = some (.int .i64 ((rd_T40 l0_1 x3_1).f3)) := (blk_cell BK371.out 5).trans rfl
        have hcz70_6 : wc.cell? ⟨gb371, 6, none⟩ = some (.int .i64 ((rd_T40 l0_1 x3_1).f4)) := (blk_cell BK371.out 6).trans rfl
        have hcz70_7 : wc.cell? ⟨gb371, 7, none⟩ = some (.string ((rd_T40 l0_1 x3_1).f5)) := (blk_cell BK371.out 7).trans rfl
        have hcz70_8 : wc.cell? ⟨gb371, 8, none⟩ = some (.int .i64 ((rd_T40 l0_1 x3_1).f6)) := (blk_cell BK371.out 8).trans rfl
        have hcz70_9 : wc.cell? ⟨gb371, 9, none⟩ = some (.int .i64 ((rd_T40 l0_1 x3_1).f7.f0)) := (blk_cell BK371.out 9).trans rfl
        have hcz70_10 : wc.cell? ⟨gb371, 10, none⟩ = some (.int .i64 ((rd_T40 l0_1 x3_1).f7.f1)) := (blk_cell BK371.out 10).trans rfl
        have hcz70_11 : wc.cell? ⟨gb371, 11, none⟩ = some (.int .i64 ((rd_T40 l0_1 x3_1).f7.f2)) := (blk_cell BK371.out 11).trans rfl
        have hcz70_12 : wc.cell? ⟨gb371, 12, none⟩ = some (.slice A370_12 ((rd_T40 l0_1 x3_1).f8).length c370_12) := (blk_cell BK371.out 12).trans rfl
        have hcz70_13 : wc.cell? ⟨gb371, 13, none⟩ = some (.slice A370_13 ((rd_T40 l0_1 x3_1).f9).length c370_13) := (blk_cell BK371.out 13).trans rfl
        have hfz70_0 := blk_frozen BK371.out 0
        have hfz70_1 := blk_frozen BK371.out 1
        have hfz70_2 := blk_frozen BK371.out 2
        have hfz70_3 := blk_frozen BK371.out 3
        have hfz70_4 := blk_frozen BK371.out 4
        have hfz70_5 := blk_frozen BK371.out 5
        have hfz70_6 := blk_frozen BK371.out 6
        have hfz70_7 := blk_frozen BK371.out 7
        have hfz70_8 := blk_frozen BK371.out 8
        have hfz70_9 := blk_frozen BK371.out 9
        have hfz70_10 := blk_frozen BK371.out 10
        have hfz70_11 := blk_frozen BK371.out 11
        have hfz70_12 := blk_frozen BK371.out 12
        have hfz70_13 := blk_frozen BK371.out 13
        go_wp2
        go_meet
        case rel => exact ⟨_, (true), rs_, H', ⟨by have := HK1.out; have := HJ7.out; first | omega | exact Nat.le_refl _⟩, ⟨bk_ BK368.out⟩, ⟨bk_ BK371.out⟩, ⟨bh_⟩⟩
       rw [if_neg c68] at H
       have c68b0 : (!(((rd_T40 l0_1 x3_1).f7.f0) == 0) || (!(((rd_T40 l0_1 x3_1).f7.f1) == 0) || (!(((rd_T40 l0_1 x3_1).f7.f2) == 0)))) = false := by simpa using c68
       clear c68
       have H' := am_ H
       clear H
       have hnb71 := NB371_368.out
       have hnc71 := NB368_371.out
       have hcz72_0 : wc.cell? ⟨gb371, 0, none⟩ = some (.int .i64 ((rd_T40 l0_1 x3_1).f0.f0)) := (blk_cell BK371.out 0).trans rfl
       have hcz72_1 : wc.cell? ⟨gb371, 1, none⟩ = some (.int .i64 ((rd_T40 l0_1 x3_1).f0.f1)) := (blk_cell BK371.out 1).trans rfl
       have hcz72_2 : wc.cell? ⟨gb371, 2, none⟩ = some (.int .i64 ((rd_T40 l0_1 x3_1).f0.f2)) := (blk_cell BK371.out 2).trans rfl
       have hcz72_3 : wc.cell? ⟨gb371, 3, none⟩ = some (.int .i64 ((rd_T40 l0_1 x3_1).f1)) := (blk_cell BK371.out 3).trans rfl
       have hcz72_4 : wc.cell? ⟨gb371, 4, none⟩ = some (.string ((rd_T40 l0_1 x3_1).f2)) := (blk_cell BK371.out 4).trans rfl
       have hcz72_5 : wc.cell? ⟨gb371, 5, none⟩ = some (.int .i64 ((rd_T40 l0_1 x3_1).f3)) := (blk_cell BK371.out 5).trans rfl
       have hcz72_6 : wc.cell? ⟨gb371, 6, none⟩ = some (.int .i64 ((rd_T40 l0_1 x3_1).f4)) := (blk_cell BK371.out 6).trans rfl
       have hcz72_7 : wc.cell? ⟨gb371, 7, none⟩ = some (.string ((rd_T40 l0_1 x3_1).f5)) := (blk_cell BK371.out 7).trans rfl
       have hcz72_8 : wc.cell? ⟨gb371, 8, none⟩ = some (.int .i64 ((rd_T40 l0_1 x3_1).f6)) := (blk_cell BK371.out 8).trans rfl
       have hcz72_9 : wc.cell? ⟨gb371, 9, none⟩ = some (.int .i64 ((rd_T40 l0_1 x3_1).f7.f0)) := (blk_cell BK371.out 9).trans rfl
       have hcz72_10 : wc.cell? ⟨gb371, 10, none⟩ = some (.int .i64 ((rd_T40 l0_1 x3_1).f7.f1)) := (blk_cell BK371.out 10).trans rfl
       have hcz72_11 : wc.cell? ⟨gb371, 11, none⟩ = some (.int .i64 ((rd_T40 l0_1 x3_1).f7.f2)) := (blk_cell BK371.out 11).trans rfl
       have hcz72_12 : wc.cell? ⟨gb371, 12, none⟩ = some (.slice A370_12 ((rd_T40 l0_1 x3_1).f8).length c370_12) := (blk_cell BK371.out 12).trans rfl
       have hcz72_13 : wc.cell? ⟨gb371, 13, none⟩ = some (.slice A370_13 ((rd_T40 l0_1 x3_1).f9).length c370_13) := (blk_cell BK371.out 13).trans rfl
       have hfz72_0 := blk_frozen BK371.out 0
       have hfz72_1 := blk_frozen BK371.out 1
       have hfz72_2 := blk_frozen BK371.out 2
       have hfz72_3 := blk_frozen BK371.out 3
       have hfz72_4 := blk_frozen BK371.out 4
       have hfz72_5 := blk_frozen BK371.out 5
       have hfz72_6 := blk_frozen BK371.out 6
       have hfz72_7 := blk_frozen BK371.out 7
       have hfz72_8 := blk_frozen BK371.out 8
       have hfz72_9 := blk_frozen BK371.out 9
       have hfz72_10 := blk_frozen BK371.out 10
       have hfz72_11 := blk_frozen BK371.out 11
       have hfz72_12 := blk_frozen BK371.out 12
       have hfz72_13 := blk_frozen BK371.out 13
       go_wp2
       go_meet
       case rel => exact ⟨_, (false), rs_, H', ⟨by have := HK1.out; have := HJ7.out; first | omega | exact Nat.le_refl _⟩, ⟨bk_ BK368.out⟩, ⟨bk_ BK371.out⟩, ⟨bh_⟩⟩
      rw [if_pos c54] at H
      have c54b0 : (((rd_T40 l0_1 x3_1).f4) == 3) = true := beq_iff_eq.mpr c54
      have c54b1 : (((rd_T40 l0_1 x3_1).f4) != 3) = false := bne_eq_false_iff_eq.mpr c54
      clear c54
      (first | rw [c54b0] | (simp only [i64_w, i32_w]; rw [c54b0]) | skip)
      by_cases c55 : ((rd_T40 l0_1 x3_1).f7.f0) = a0_0
      rotate_left
      ·rw [if_neg c55] at H
       have c55b0 : (((rd_T40 l0_1 x3_1).f7.f0) == a0_0) = false := beq_eq_false_iff_ne.mpr c55
       have c55b1 : (((rd_T40 l0_1 x3_1).f7.f0) != a0_0) = true := bne_iff_ne.mpr c55
       have H' := am_ H
       clear H
       have hnb65 := NB371_368.out
       have hnc65 := NB368_371.out
       have hcz66_0 : wc.cell? ⟨gb371, 0, none⟩ = some (.int .i64 ((rd_T40 l0_1 x3_1).f0.f0)) := (blk_cell BK371.out 0).trans rfl
       have hcz66_1 : wc.cell? ⟨gb371, 1, none⟩ = some (.int .i64 ((rd_T40 l0_1 x3_1).f0.f1)) := (blk_cell BK371.out 1).trans rfl
       have hcz66_2 : wc.cell? ⟨gb371, 2, none⟩ = some (.int .i64 ((rd_T40 l0_1 x3_1).f0.f2)) := (blk_cell BK371.out 2).trans rfl
       have hcz66_3 : wc.cell? ⟨gb371, 3, none⟩ = some (.int .i64 ((rd_T40 l0_1 x3_1).f1)) := (blk_cell BK371.out 3).trans rfl
       have hcz66_4 : wc.cell? ⟨gb371, 4, none⟩ = some (.string ((rd_T40 l0_1 x3_1).f2)) := (blk_cell BK371.out 4).trans rfl
       have hcz66_5 : wc.cell? ⟨gb371, 5, none⟩ = some (.int .i64 ((rd_T40 l0_1 x3_1).f3)) := (blk_cell BK371.out 5).trans rfl
       have hcz66_6 : wc.cell? ⟨gb371, 6, none⟩ = some (.int .i64 ((rd_T40 l0_1 x3_1).f4)) := (blk_cell BK371.out 6).trans rfl
       have hcz66_7 : wc.cell? ⟨gb371, 7, none⟩ = some (.string ((rd_T40 l0_1 x3_1).f5)) := (blk_cell BK371.out 7).trans rfl
       have hcz66_8 : wc.cell? ⟨gb371, 8, none⟩ = some (.int .i64 ((rd_T40 l0_1 x3_1).f6)) := (blk_cell BK371.out 8).trans rfl
       have hcz66_9 : wc.cell? ⟨gb371, 9, none⟩ = some (.int .i64 ((rd_T40 l0_1 x3_1).f7.f0)) := (blk_cell BK371.out 9).trans rfl
       have hcz66_10 : wc.cell? ⟨gb371, 10, none⟩ = some (.int .i64 ((rd_T40 l0_1 x3_1).f7.f1)) := (blk_cell BK371.out 10).trans rfl
       have hcz66_11 : wc.cell? ⟨gb371, 11, none⟩ = some (.int .i64 ((rd_T40 l0_1 x3_1).f7.f2)) := (blk_cell BK371.out 11).trans rfl
       have hcz66_12 : wc.cell? ⟨gb371, 12, none⟩ = some (.slice A370_12 ((rd_T40 l0_1 x3_1).f8).length c370_12) := (blk_cell BK371.out 12).trans rfl
       have hcz66_13 : wc.cell? ⟨gb371, 13, none⟩ = some (.slice A370_13 ((rd_T40 l0_1 x3_1).f9).length c370_13) := (blk_cell BK371.out 13).trans rfl
       have hfz66_0 := blk_frozen BK371.out 0
       have hfz66_1 := blk_frozen BK371.out 1
       have hfz66_2 := blk_frozen BK371.out 2
       have hfz66_3 := blk_frozen BK371.out 3
       have hfz66_4 := blk_frozen BK371.out 4
       have hfz66_5 := blk_frozen BK371.out 5
       have hfz66_6 := blk_frozen BK371.out 6
       have hfz66_7 := blk_frozen BK371.out 7
       have hfz66_8 := blk_frozen BK371.out 8
       have hfz66_9 := blk_frozen BK371.out 9
       have hfz66_10 := blk_frozen BK371.out 10
       have hfz66_11 := blk_frozen BK371.out 11
       have hfz66_12 := blk_frozen BK371.out 12
       have hfz66_13 := blk_frozen BK371.out 13
       obtain ⟨hcz67_0, hcz67_1⟩ := cz2_ BK368.out
       obtain ⟨hfz67_0, hfz67_1⟩ := fz2_ BK368.out
       go_wp2
       go_meet
       case rel => exact ⟨_, (true), rs_, H', ⟨by have := HK1.out; have := HJ7.out; first | omega | exact Nat.le_refl _⟩, ⟨bk_ BK368.out⟩, ⟨bk_ BK371.out⟩, ⟨bh_⟩⟩
      rw [if_pos c55] at H
      have c55b0 : (((rd_T40 l0_1 x3_1).f7.f0) == a0_0) = true := beq_iff_eq.mpr c55
      have c55b1 : (((rd_T40 l0_1 x3_1).f7.f0) != a0_0) = false := bne_eq_false_iff_eq.mpr c55
      clear c55
      obtain ⟨t376, A56, H⟩ := bs_ H
      by_cases c57 : t376 = true
      rotate_left
      ·replace c57 := Bool.eq_false_iff.mpr c57
       subst c57
       replace H := if_ H
       have H' := am_ H
       clear H
       have hnb62 := NB371_368.out
       have hnc62 := NB368_371.out
       have hcz63_0 : wc.cell? ⟨gb371, 0, none⟩ = some (.int .i64 ((rd_T40 l0_1 x3_1).f0.f0)) := (blk_cell BK371.out 0).trans rfl
       have hcz63_1 : wc.cell? ⟨gb371, 1, none⟩ = some (.int .i64 ((rd_T40 l0_1 x3_1).f0.f1)) := (blk_cell BK371.out 1).trans rfl
       have hcz63_2 : wc.cell? ⟨gb371, 2, none⟩ = some (.int .i64 ((rd_T40 l0_1 x3_1).f0.f2)) := (blk_cell BK371.out 2).trans rfl
       have hcz63_3 : wc.cell? ⟨gb371, 3, none⟩ = some (.int .i64 ((rd_T40 l0_1 x3_1).f1)) := (blk_cell BK371.out 3).trans rfl
       have hcz63_4 : wc.cell? ⟨gb371, 4, none⟩ = some (.string ((rd_T40 l0_1 x3_1).f2)) := (blk_cell BK371.out 4).trans rfl
       have hcz63_5 : wc.cell? ⟨gb371, 5, none⟩ = some (.int .i64 ((rd_T40 l0_1 x3_1).f3)) := (blk_cell BK371.out 5).trans rfl
       have hcz63_6 : wc.cell? ⟨gb371, 6, none⟩ = some (.int .i64 ((rd_T40 l0_1 x3_1).f4)) := (blk_cell BK371.out 6).trans rfl
       have hcz63_7 : wc.cell? ⟨gb371, 7, none⟩ = some (.string ((rd_T40 l0_1 x3_1).f5)) := (blk_cell BK371.out 7).trans rfl
       have hcz63_8 : wc.cell? ⟨gb371, 8, none⟩ = some (.int .i64 ((rd_T40 l0_1 x3_1).f6)) := (blk_cell BK371.out 8).trans rfl
       have hcz63_9 : wc.cell? ⟨gb371, 9, none⟩ = some (.int .i64 ((rd_T40 l0_1 x3_1).f7.f0)) := (blk_cell BK371.out 9).trans rfl
       have hcz63_10 : wc.cell? ⟨gb371, 10, none⟩ = some (.int .i64 ((rd_T40 l0_1 x3_1).f7.f1)) := (blk_cell BK371.out 10).trans rfl
       have hcz63_11 : wc.cell? ⟨gb371, 11, none⟩ = some (.int .i64 ((rd_T40 l0_1 x3_1).f7.f2)) := (blk_cell BK371.out 11).trans rfl
       have hcz63_12 : wc.cell? ⟨gb371, 12, none⟩ = some (.slice A370_12 ((rd_T40 l0_1 x3_1).f8).length c370_12) := (blk_cell BK371.out 12).trans rfl
       have hcz63_13 : wc.cell? ⟨gb371, 13, none⟩ = some (.slice A370_13 ((rd_T40 l0_1 x3_1).f9).length c370_13) := (blk_cell BK371.out 13).trans rfl
       have hfz63_0 := blk_frozen BK371.out 0
       have hfz63_1 := blk_frozen BK371.out 1
       have hfz63_2 := blk_frozen BK371.out 2
       have hfz63_3 := blk_frozen BK371.out 3
       have hfz63_4 := blk_frozen BK371.out 4
       have hfz63_5 := blk_frozen BK371.out 5
       have hfz63_6 := blk_frozen BK371.out 6
       have hfz63_7 := blk_frozen BK371.out 7
       have hfz63_8 := blk_frozen BK371.out 8
       have hfz63_9 := blk_frozen BK371.out 9
       have hfz63_10 := blk_frozen BK371.out 10
       have hfz63_11 := blk_frozen BK371.out 11
       have hfz63_12 := blk_frozen BK371.out 12
       have hfz63_13 := blk_frozen BK371.out 13
       obtain ⟨hcz64_0, hcz64_1⟩ := cz2_ BK368.out
       obtain ⟨hfz64_0, hfz64_1⟩ := fz2_ BK368.out
       go_wp2_with (first | (go_at_call 30; (with_reducible refine (computusref26_In.calls ((rd_T40 l0_1 x3_1).f7.f1) false _ A56.out).mono ?_); rintro e w' ⟨rfl, ⟨nd, rfl⟩⟩))
       go_meet
       case rel => exact ⟨_, (true), rs_, H', ⟨by have := HK1.out; have := HJ7.out; first | omega | exact Nat.le_refl _⟩, ⟨bk_ BK368.out⟩, ⟨bk_ BK371.out⟩, ⟨bh_⟩⟩
      subst c57
      replace H := it_ H
      obtain ⟨t377, A58, H⟩ := bs_ H
      have H' := am_ H
      clear H
      have hnb59 := NB371_368.out
      have hnc59 := NB368_371.out
      have hcz60_0 : wc.cell? ⟨gb371, 0, none⟩ = some (.int .i64 ((rd_T40 l0_1 x3_1).f0.f0)) := (blk_cell BK371.out 0).trans rfl
      have hcz60_1 : wc.cell? ⟨gb371, 1, none⟩ = some (.int .i64 ((rd_T40 l0_1 x3_1).f0.f1)) := (blk_cell BK371.out 1).trans rfl
      have hcz60_2 : wc.cell? ⟨gb371, 2, none⟩ = some (.int .i64 ((rd_T40 l0_1 x3_1).f0.f2)) := (blk_cell BK371.out 2).trans rfl
      have hcz60_3 : wc.cell? ⟨gb371, 3, none⟩ = some (.int .i64 ((rd_T40 l0_1 x3_1).f1)) := (blk_cell BK371.out 3).trans rfl
      have hcz60_4 : wc.cell? ⟨gb371, 4, none⟩ = some (.string ((rd_T40 l0_1 x3_1).f2)) := (blk_cell BK371.out 4).trans rfl
      have hcz60_5 : wc.cell? ⟨gb371, 5, none⟩ = some (.int .i64 ((rd_T40 l0_1 x3_1).f3)) := (blk_cell BK371.out 5).trans rfl
      have hcz60_6 : wc.cell? ⟨gb371, 6, none⟩ = some (.int .i64 ((rd_T40 l0_1 x3_1).f4)) := (blk_cell BK371.out 6).trans rfl
      have hcz60_7 : wc.cell? ⟨gb371, 7, none⟩ = some (.string ((rd_T40 l0_1 x3_1).f5)) := (blk_cell BK371.out 7).trans rfl
      have hcz60_8 : wc.cell? ⟨gb371, 8, none⟩ = some (.int .i64 ((rd_T40 l0_1 x3_1).f6)) := (blk_cell BK371.out 8).trans rfl
      have hcz60_9 : wc.cell? ⟨gb371, 9, none⟩ = some (.int .i64 ((rd_T40 l0_1 x3_1).f7.f0)) := (blk_cell BK371.out 9).trans rfl
      have hcz60_10 : wc.cell? ⟨gb371, 10, none⟩ = some (.int .i64 ((rd_T40 l0_1 x3_1).f7.f1)) := (blk_cell BK371.out 10).trans rfl
      have hcz60_11 : wc.cell? ⟨gb371, 11, none⟩ = some (.int .i64 ((rd_T40 l0_1 x3_1).f7.f2)) := (blk_cell BK371.out 11).trans rfl
      have hcz60_12 : wc.cell? ⟨gb371, 12, none⟩ = some (.slice A370_12 ((rd_T40 l0_1 x3_1).f8).length c370_12) := (blk_cell BK371.out 12).trans rfl
      have hcz60_13 : wc.cell? ⟨gb371, 13, none⟩ = some (.slice A370_13 ((rd_T40 l0_1 x3_1).f9).length c370_13) := (blk_cell BK371.out 13).trans rfl
      have hfz60_0 := blk_frozen BK371.out 0
      have hfz60_1 := blk_frozen BK371.out 1
      have hfz60_2 := blk_frozen BK371.out 2
      have hfz60_3 := blk_frozen BK371.out 3
      have hfz60_4 := blk_frozen BK371.out 4
      have hfz60_5 := blk_frozen BK371.out 5
      have hfz60_6 := blk_frozen BK371.out 6
      have hfz60_7 := blk_frozen BK371.out 7
      have hfz60_8 := blk_frozen BK371.out 8
      have hfz60_9 := blk_frozen BK371.out 9
      have hfz60_10 := blk_frozen BK371.out 10
      have hfz60_11 := blk_frozen BK371.out 11
      have hfz60_12 := blk_frozen BK371.out 12
      have hfz60_13 := blk_frozen BK371.out 13
      obtain ⟨hcz61_0, hcz61_1⟩ := cz2_ BK368.out
      obtain ⟨hfz61_0, hfz61_1⟩ := fz2_ BK368.out
      go_wp2_with (first | (go_at_call 30; (with_reducible refine (computusref26_In.calls ((rd_T40 l0_1 x3_1).f7.f1) true _ A56.out).mono ?_); rintro e w' ⟨rfl, ⟨nd, rfl⟩⟩) | (go_at_call 30; (with_reducible refine (computusref26_In.calls ((rd_T40 l0_1 x3_1).f7.f2) t377 _ A58.out).mono ?_); rintro e w' ⟨rfl, ⟨nd, rfl⟩⟩))
      go_meet
      case rel => exact ⟨_, (!t377), rs_, H', ⟨by have := HK1.out; have := HJ7.out; first | omega | exact Nat.le_refl _⟩, ⟨bk_ BK368.out⟩, ⟨bk_ BK371.out⟩, ⟨bh_⟩⟩
     case rest =>
      clear HC53
      obtain ⟨kq, x108_52, rfl, HA, HJ52, BK368, BK371, HB⟩ := hcut
      cases kq with
      | zero => exact absurd HA.out (by simp [computusref27_Printable.j2])
      | succ kj52 =>
       have H := HA.out
       clear HA
       simp only [computusref27_Printable.j2] at H
       by_cases c73 : x108_52 = true
       ·subst c73
        replace H := it_ H
        obtain rfl := Option.some.inj H
        go_wp2
        go_ret
        exact rt_
       replace c73 := Bool.eq_false_iff.mpr c73
       subst c73
       replace H := if_ H
       obtain ⟨t378, A74, H⟩ := bs_ H
       by_cases c75 : t378 = true
       rotate_left
       ·replace c75 := Bool.eq_false_iff.mpr c75
        subst c75
        replace H := if_ H
        obtain rfl := Option.some.inj H
        have hnb90 := NB371_368.out
        have hnc90 := NB368_371.out
        have hcz91_0 : wc.cell? ⟨gb371, 0, none⟩ = some (.int .i64 ((rd_T40 l0_1 x3_1).f0.f0)) := (blk_cell BK371.out 0).trans rfl
        have hcz91_1 : wc.cell? ⟨gb371, 1, none⟩ = some (.int .i64 ((rd_T40 l0_1 x3_1).f0.f1)) := (blk_cell BK371.out 1).trans rfl
        have hcz91_2 : wc.cell? ⟨gb371, 2, none⟩ = some (.int .i64 ((rd_T40 l0_1 x3_1).f0.f2)) := (blk_cell BK371.out 2).trans rfl
        have hcz91_3 : wc.cell? ⟨gb371, 3, none⟩ = some (.int .i64 ((rd_T40 l0_1 x3_1).f1)) := (blk_cell BK371.out 3).trans rfl
        have hcz91_4 : wc.cell? ⟨gb371, 4, none⟩ = some (.string ((rd_T40 l0_1 x3_1).f2)) := (blk_cell BK371.out 4).trans rfl
        have hcz91_5 : wc.cell? ⟨gb371, 5, none⟩ = some (.int .i64 ((rd_T40 l0_1 x3_1).f3)) := (blk_cell BK371.out 5).trans rfl
        have hcz91_6 : wc.cell? ⟨gb371, 6, none⟩ = some (.int .i64 ((rd_T40 l0_1 x3_1).f4)) := (blk_cell BK371.out 6).trans rfl
        have hcz91_7 : wc.cell? ⟨gb371, 7, none⟩ = some (.string ((rd_T40 l0_1 x3_1).f5)) := (blk_cell BK371.out 7).trans rfl
        have hcz91_8 : wc.cell? ⟨gb371, 8, none⟩ = some (.int .i64 ((rd_T40 l0_1 x3_1).f6)) := (blk_cell BK371.out 8).trans rfl
        have hcz91_9 : wc.cell? ⟨gb371, 9, none⟩ = some (.int .i64 ((rd_T40 l0_1 x3_1).f7.f0)) := (blk_cell BK371.out 9).trans rfl
        have hcz91_10 : wc.cell? ⟨gb371, 10, none⟩ = some (.int .i64 ((rd_T40 l0_1 x3_1).f7.f1)) := (blk_cell BK371.out 10).trans rfl
        have hcz91_11 : wc.cell? ⟨gb371, 11, none⟩ = some (.int .i64 ((rd_T40 l0_1 x3_1).f7.f2)) := (blk_cell BK371.out 11).trans rfl
        have hcz91_12 : wc.cell? ⟨gb371, 12, none⟩ = some (.slice A370_12 ((rd_T40 l0_1 x3_1).f8).length c370_12) := (blk_cell BK371.out 12).trans rfl
        have hcz91_13 : wc.cell? ⟨gb371, 13, none⟩ = some (.slice A370_13 ((rd_T40 l0_1 x3_1).f9).length c370_13) := (blk_cell BK371.out 13).trans rfl
        have hfz91_0 := blk_frozen BK371.out 0
        have hfz91_1 := blk_frozen BK371.out 1
        have hfz91_2 := blk_frozen BK371.out 2
        have hfz91_3 := blk_frozen BK371.out 3
        have hfz91_4 := blk_frozen BK371.out 4
        have hfz91_5 := blk_frozen BK371.out 5
        have hfz91_6 := blk_frozen BK371.out 6
        have hfz91_7 := blk_frozen BK371.out 7
        have hfz91_8 := blk_frozen BK371.out 8
        have hfz91_9 := blk_frozen BK371.out 9
        have hfz91_10 := blk_frozen BK371.out 10
        have hfz91_11 := blk_frozen BK371.out 11
        have hfz91_12 := blk_frozen BK371.out 12
        have hfz91_13 := blk_frozen BK371.out 13
        go_wp2_with (first | ((with_reducible refine gate_callee (f := 31) rfl ?_); refine goesL_ (some 111) rfl rfl Tryd.func31 (by kernel_rfl) rfl #[.string ((rd_T40 l0_1 x3_1).f2)] rfl (by (try simp only [List.map_toArray, List.map_cons, List.map_nil]); first | done | rfl | (simp only [List.length_drop, List.length_take]; rfl)) ?_; (with_reducible refine (computusref17_Identifier.calls kj52 ((rd_T40 l0_1 x3_1).f2) false _ A74.out).mono ?_); rintro e w' ⟨rfl, ⟨nd, rfl⟩⟩; refine ⟨_, rfl, ?_⟩))
        go_ret
        exact rt_
       subst c75
       replace H := it_ H
       obtain ⟨t379, A76, H⟩ := bs_ H
       by_cases c77 : t379 = true
       rotate_left
       ·replace c77 := Bool.eq_false_iff.mpr c77
        subst c77
        replace H := if_ H
        obtain rfl := Option.some.inj H
        have hnb88 := NB371_368.out
        have hnc88 := NB368_371.out
        have hcz89_0 : wc.cell? ⟨gb371, 0, none⟩ = some (.int .i64 ((rd_T40 l0_1 x3_1).f0.f0)) := (blk_cell BK371.out 0).trans rfl
        have hcz89_1 : wc.cell? ⟨gb371, 1, none⟩ = some (.int .i64 ((rd_T40 l0_1 x3_1).f0.f1)) := (blk_cell BK371.out 1).trans rfl
        have hcz89_2 : wc.cell? ⟨gb371, 2, none⟩ = some (.int .i64 ((rd_T40 l0_1 x3_1).f0.f2)) := (blk_cell BK371.out 2).trans rfl
        have hcz89_3 : wc.cell? ⟨gb371, 3, none⟩ = some (.int .i64 ((rd_T40 l0_1 x3_1).f1)) := (blk_cell BK371.out 3).trans rfl
        have hcz89_4 : wc.cell? ⟨gb371, 4, none⟩ = some (.string ((rd_T40 l0_1 x3_1).f2)) := (blk_cell BK371.out 4).trans rfl
        have hcz89_5 : wc.cell? ⟨gb371, 5, none⟩ = some (.int .i64 ((rd_T40 l0_1 x3_1).f3)) := (blk_cell BK371.out 5).trans rfl
        have hcz89_6 : wc.cell? ⟨gb371, 6, none⟩ = some (.int .i64 ((rd_T40 l0_1 x3_1).f4)) := (blk_cell BK371.out 6).trans rfl
        have hcz89_7 : wc.cell? ⟨gb371, 7, none⟩ = some (.string ((rd_T40 l0_1 x3_1).f5)) := (blk_cell BK371.out 7).trans rfl
        have hcz89_8 : wc.cell? ⟨gb371, 8, none⟩ = some (.int .i64 ((rd_T40 l0_1 x3_1).f6)) := (blk_cell BK371.out 8).trans rfl
        have hcz89_9 : wc.cell? ⟨gb371, 9, none⟩ = some (.int .i64 ((rd_T40 l0_1 x3_1).f7.f0)) := (blk_cell BK371.out 9).trans rfl
        have hcz89_10 : wc.cell? ⟨gb371, 10, none⟩ = some (.int .i64 ((rd_T40 l0_1 x3_1).f7.f1)) := (blk_cell BK371.out 10).trans rfl
        have hcz89_11 : wc.cell? ⟨gb371, 11, none⟩ = some (.int .i64 ((rd_T40 l0_1 x3_1).f7.f2)) := (blk_cell BK371.out 11).trans rfl
        have hcz89_12 : wc.cell? ⟨gb371, 12, none⟩ = some (.slice A370_12 ((rd_T40 l0_1 x3_1).f8).length c370_12) := (blk_cell BK371.out 12).trans rfl
        have hcz89_13 : wc.cell? ⟨gb371, 13, none⟩ = some (.slice A370_13 ((rd_T40 l0_1 x3_1).f9).length c370_13) := (blk_cell BK371.out 13).trans rfl
        have hfz89_0 := blk_frozen BK371.out 0
        have hfz89_1 := blk_frozen BK371.out 1
        have hfz89_2 := blk_frozen BK371.out 2
        have hfz89_3 := blk_frozen BK371.out 3
        have hfz89_4 := blk_frozen BK371.out 4
        have hfz89_5 := blk_frozen BK371.out 5
        have hfz89_6 := blk_frozen BK371.out 6
        have hfz89_7 := blk_frozen BK371.out 7
        have hfz89_8 := blk_frozen BK371.out 8
        have hfz89_9 := blk_frozen BK371.out 9
        have hfz89_10 := blk_frozen BK371.out 10
        have hfz89_11 := blk_frozen BK371.out 11
        have hfz89_12 := blk_frozen BK371.out 12
        have hfz89_13 := blk_frozen BK371.out 13
        go_wp2_with (first | ((with_reducible refine gate_callee (f := 31) rfl ?_); refine goesL_ (some 111) rfl rfl Tryd.func31 (by kernel_rfl) rfl #[.string ((rd_T40 l0_1 x3_1).f2)] rfl (by (try simp only [List.map_toArray, List.map_cons, List.map_nil]); first | done | rfl | (simp only [List.length_drop, List.length_take]; rfl)) ?_; (with_reducible refine (computusref17_Identifier.calls kj52 ((rd_T40 l0_1 x3_1).f2) true _ A74.out).mono ?_); rintro e w' ⟨rfl, ⟨nd, rfl⟩⟩; refine ⟨_, rfl, ?_⟩) | (go_at_call 31; (with_reducible refine (computusref17_Identifier.calls kj52 ((rd_T40 l0_1 x3_1).f5) false _ A76.out).mono ?_); rintro e w' ⟨rfl, ⟨nd, rfl⟩⟩))
        go_ret
        exact rt_
       subst c77
       replace H := it_ H
       obtain ⟨t380, A78, H⟩ := bs_ H
       by_cases c79 : t380 = true
       rotate_left
       ·replace c79 := Bool.eq_false_iff.mpr c79
        subst c79
        replace H := if_ H
        obtain rfl := Option.some.inj H
        have hnb86 := NB371_368.out
        have hnc86 := NB368_371.out
        have hcz87_0 : wc.cell? ⟨gb371, 0, none⟩ = some (.int .i64 ((rd_T40 l0_1 x3_1).f0.f0)) := (blk_cell BK371.out 0).trans rfl
        have hcz87_1 : wc.cell? ⟨gb371, 1, none⟩ = some (.int .i64 ((rd_T40 l0_1 x3_1).f0.f1)) := (blk_cell BK371.out 1).trans rfl
        have hcz87_2 : wc.cell? ⟨gb371, 2, none⟩ = some (.int .i64 ((rd_T40 l0_1 x3_1).f0.f2)) := (blk_cell BK371.out 2).trans rfl
        have hcz87_3 : wc.cell? ⟨gb371, 3, none⟩ = some (.int .i64 ((rd_T40 l0_1 x3_1).f1)) := (blk_cell BK371.out 3).trans rfl
        have hcz87_4 : wc.cell? ⟨gb371, 4, none⟩ = some (.string ((rd_T40 l0_1 x3_1).f2)) := (blk_cell BK371.out 4).trans rfl
        have hcz87_5 : wc.cell? ⟨gb371, 5, none⟩ = some (.int .i64 ((rd_T40 l0_1 x3_1).f3)) := (blk_cell BK371.out 5).trans rfl
        have hcz87_6 : wc.cell? ⟨gb371, 6, none⟩ = some (.int .i64 ((rd_T40 l0_1 x3_1).f4)) := (blk_cell BK371.out 6).trans rfl
        have hcz87_7 : wc.cell? ⟨gb371, 7, none⟩ = some (.string ((rd_T40 l0_1 x3_1).f5)) := (blk_cell BK371.out 7).trans rfl
        have hcz87_8 : wc.cell? ⟨gb371, 8, none⟩ = some (.int .i64 ((rd_T40 l0_1 x3_1).f6)) := (blk_cell BK371.out 8).trans rfl
        have hcz87_9 : wc.cell? ⟨gb371, 9, none⟩ = some (.int .i64 ((rd_T40 l0_1 x3_1).f7.f0)) := (blk_cell BK371.out 9).trans rfl
        have hcz87_10 : wc.cell? ⟨gb371, 10, none⟩ = some (.int .i64 ((rd_T40 l0_1 x3_1).f7.f1)) := (blk_cell BK371.out 10).trans rfl
        have hcz87_11 : wc.cell? ⟨gb371, 11, none⟩ = some (.int .i64 ((rd_T40 l0_1 x3_1).f7.f2)) := (blk_cell BK371.out 11).trans rfl
        have hcz87_12 : wc.cell? ⟨gb371, 12, none⟩ = some (.slice A370_12 ((rd_T40 l0_1 x3_1).f8).length c370_12) := (blk_cell BK371.out 12).trans rfl
        have hcz87_13 : wc.cell? ⟨gb371, 13, none⟩ = some (.slice A370_13 ((rd_T40 l0_1 x3_1).f9).length c370_13) := (blk_cell BK371.out 13).trans rfl
        have hfz87_0 := blk_frozen BK371.out 0
        have hfz87_1 := blk_frozen BK371.out 1
        have hfz87_2 := blk_frozen BK371.out 2
        have hfz87_3 := blk_frozen BK371.out 3
        have hfz87_4 := blk_frozen BK371.out 4
        have hfz87_5 := blk_frozen BK371.out 5
        have hfz87_6 := blk_frozen BK371.out 6
        have hfz87_7 := blk_frozen BK371.out 7
        have hfz87_8 := blk_frozen BK371.out 8
        have hfz87_9 := blk_frozen BK371.out 9
        have hfz87_10 := blk_frozen BK371.out 10
        have hfz87_11 := blk_frozen BK371.out 11
        have hfz87_12 := blk_frozen BK371.out 12
        have hfz87_13 := blk_frozen BK371.out 13
        go_wp2_with (first | ((with_reducible refine gate_callee (f := 31) rfl ?_); refine goesL_ (some 111) rfl rfl Tryd.func31 (by kernel_rfl) rfl #[.string ((rd_T40 l0_1 x3_1).f2)] rfl (by (try simp only [List.map_toArray, List.map_cons, List.map_nil]); first | done | rfl | (simp only [List.length_drop, List.length_take]; rfl)) ?_; (with_reducible refine (computusref17_Identifier.calls kj52 ((rd_T40 l0_1 x3_1).f2) true _ A74.out).mono ?_); rintro e w' ⟨rfl, ⟨nd, rfl⟩⟩; refine ⟨_, rfl, ?_⟩) | (go_at_call 31; (with_reducible refine (computusref17_Identifier.calls kj52 ((rd_T40 l0_1 x3_1).f5) true _ A76.out).mono ?_); rintro e w' ⟨rfl, ⟨nd, rfl⟩⟩) | (go_at_call 32; (with_reducible refine (computusref27_identifiers.calls kj52 _ _ ((rd_T40 l0_1 x3_1).f8) false _ ?side1 ?side2 A78.out).mono ?_); (case side1 => exact ck_ (Kd.C_below HR370_12.out bh_)); (case side2 => exact HC370_12.out); rintro e w' ⟨rfl, ⟨nd, rfl⟩⟩))
        go_ret
        exact rt_
       subst c79
       replace H := it_ H
       obtain ⟨t381, A80, H⟩ := bs_ H
       by_cases c81 : t381 = true
       rotate_left
       ·replace c81 := Bool.eq_false_iff.mpr c81
        subst c81
        replace H := if_ H
        obtain rfl := Option.some.inj H
        have hnb84 := NB371_368.out
        have hnc84 := NB368_371.out
        have hcz85_0 : wc.cell? ⟨gb371, 0, none⟩ = some (.int .i64 ((rd_T40 l0_1 x3_1).f0.f0)) := (blk_cell BK371.out 0).trans rfl
        have hcz85_1 : wc.cell? ⟨gb371, 1, none⟩ = some (.int .i64 ((rd_T40 l0_1 x3_1).f0.f1)) := (blk_cell BK371.out 1).trans rfl
        have hcz85_2 : wc.cell? ⟨gb371, 2, none⟩ = some (.int .i64 ((rd_T40 l0_1 x3_1).f0.f2)) := (blk_cell BK371.out 2).trans rfl
        have hcz85_3 : wc.cell? ⟨gb371, 3, none⟩ = some (.int .i64 ((rd_T40 l0_1 x3_1).f1)) := (blk_cell BK371.out 3).trans rfl
        have hcz85_4 : wc.cell? ⟨gb371, 4, none⟩ = some (.string ((rd_T40 l0_1 x3_1).f2)) := (blk_cell BK371.out 4).trans rfl
        have hcz85_5 : wc.cell? ⟨gb371, 5, none⟩ = some (.int .i64 ((rd_T40 l0_1 x3_1).f3)) := (blk_cell BK371.out 5).trans rfl
        have hcz85_6 : wc.cell? ⟨gb371, 6, none⟩ = some (.int .i64 ((rd_T40 l0_1 x3_1).f4)) := (blk_cell BK371.out 6).trans rfl
        have hcz85_7 : wc.cell? ⟨gb371, 7, none⟩ = some (.string ((rd_T40 l0_1 x3_1).f5)) := (blk_cell BK371.out 7).trans rfl
        have hcz85_8 : wc.cell? ⟨gb371, 8, none⟩ = some (.int .i64 ((rd_T40 l0_1 x3_1).f6)) := (blk_cell BK371.out 8).trans rfl
        have hcz85_9 : wc.cell? ⟨gb371, 9, none⟩ = some (.int .i64 ((rd_T40 l0_1 x3_1).f7.f0)) := (blk_cell BK371.out 9).trans rfl
        have hcz85_10 : wc.cell? ⟨gb371, 10, none⟩ = some (.int .i64 ((rd_T40 l0_1 x3_1).f7.f1)) := (blk_cell BK371.out 10).trans rfl
        have hcz85_11 : wc.cell? ⟨gb371, 11, none⟩ = some (.int .i64 ((rd_T40 l0_1 x3_1).f7.f2)) := (blk_cell BK371.out 11).trans rfl
        have hcz85_12 : wc.cell? ⟨gb371, 12, none⟩ = some (.slice A370_12 ((rd_T40 l0_1 x3_1).f8).length c370_12) := (blk_cell BK371.out 12).trans rfl
        have hcz85_13 : wc.cell? ⟨gb371, 13, none⟩ = some (.slice A370_13 ((rd_T40 l0_1 x3_1).f9).length c370_13) := (blk_cell BK371.out 13).trans rfl
        have hfz85_0 := blk_frozen BK371.out 0
        have hfz85_1 := blk_frozen BK371.out 1
        have hfz85_2 := blk_frozen BK371.out 2
        have hfz85_3 := blk_frozen BK371.out 3
        have hfz85_4 := blk_frozen BK371.out 4
        have hfz85_5 := blk_frozen BK371.out 5
        have hfz85_6 := blk_frozen BK371.out 6
        have hfz85_7 := blk_frozen BK371.out 7
        have hfz85_8 := blk_frozen BK371.out 8
        have hfz85_9 := blk_frozen BK371.out 9
        have hfz85_10 := blk_frozen BK371.out 10
        have hfz85_11 := blk_frozen BK371.out 11
        have hfz85_12 := blk_frozen BK371.out 12
        have hfz85_13 := blk_frozen BK371.out 13
        go_wp2_with (first | ((with_reducible refine gate_callee (f := 31) rfl ?_); refine goesL_ (some 111) rfl rfl Tryd.func31 (by kernel_rfl) rfl #[.string ((rd_T40 l0_1 x3_1).f2)] rfl (by (try simp only [List.map_toArray, List.map_cons, List.map_nil]); first | done | rfl | (simp only [List.length_drop, List.length_take]; rfl)) ?_; (with_reducible refine (computusref17_Identifier.calls kj52 ((rd_T40 l0_1 x3_1).f2) true _ A74.out).mono ?_); rintro e w' ⟨rfl, ⟨nd, rfl⟩⟩; refine ⟨_, rfl, ?_⟩) | (go_at_call 31; (with_reducible refine (computusref17_Identifier.calls kj52 ((rd_T40 l0_1 x3_1).f5) true _ A76.out).mono ?_); rintro e w' ⟨rfl, ⟨nd, rfl⟩⟩) | (go_at_call 32; (with_reducible refine (computusref27_identifiers.calls kj52 _ _ ((rd_T40 l0_1 x3_1).f8) true _ ?side1 ?side2 A78.out).mono ?_); (case side1 => exact ck_ (Kd.C_below HR370_12.out bh_)); (case side2 => exact HC370_12.out); rintro e w' ⟨rfl, ⟨nd, rfl⟩⟩) | (go_at_call 32; (with_reducible refine (computusref27_identifiers.calls kj52 _ _ ((rd_T40 l0_1 x3_1).f9) false _ ?side1 ?side2 A80.out).mono ?_); (case side1 => exact ck_ (Kd.C_below HR370_13.out bh_)); (case side2 => exact HC370_13.out); rintro e w' ⟨rfl, ⟨nd, rfl⟩⟩))
        go_ret
        exact rt_
       subst c81
       replace H := it_ H
       have H' := am_ H
       clear H
       have hnb82 := NB371_368.out
       have hnc82 := NB368_371.out
       have hcz83_0 : wc.cell? ⟨gb371, 0, none⟩ = some (.int .i64 ((rd_T40 l0_1 x3_1).f0.f0)) := (blk_cell BK371.out 0).trans rfl
       have hcz83_1 : wc.cell? ⟨gb371, 1, none⟩ = some (.int .i64 ((rd_T40 l0_1 x3_1).f0.f1)) := (blk_cell BK371.out 1).trans rfl
       have hcz83_2 : wc.cell? ⟨gb371, 2, none⟩ = some (.int .i64 ((rd_T40 l0_1 x3_1).f0.f2)) := (blk_cell BK371.out 2).trans rfl
       have hcz83_3 : wc.cell? ⟨gb371, 3, none⟩ = some (.int .i64 ((rd_T40 l0_1 x3_1).f1)) := (blk_cell BK371.out 3).trans rfl
       have hcz83_4 : wc.cell? ⟨gb371, 4, none⟩ = some (.string ((rd_T40 l0_1 x3_1).f2)) := (blk_cell BK371.out 4).trans rfl
       have hcz83_5 : wc.cell? ⟨gb371, 5, none⟩ = some (.int .i64 ((rd_T40 l0_1 x3_1).f3)) := (blk_cell BK371.out 5).trans rfl
       have hcz83_6 : wc.cell? ⟨gb371, 6, none⟩ = some (.int .i64 ((rd_T40 l0_1 x3_1).f4)) := (blk_cell BK371.out 6).trans rfl
       have hcz83_7 : wc.cell? ⟨gb371, 7, none⟩ = some (.string ((rd_T40 l0_1 x3_1).f5)) := (blk_cell BK371.out 7).trans rfl
       have hcz83_8 : wc.cell? ⟨gb371, 8, none⟩ = some (.int .i64 ((rd_T40 l0_1 x3_1).f6)) := (blk_cell BK371.out 8).trans rfl
       have hcz83_9 : wc.cell? ⟨gb371, 9, none⟩ = some (.int .i64 ((rd_T40 l0_1 x3_1).f7.f0)) := (blk_cell BK371.out 9).trans rfl
       have hcz83_10 : wc.cell? ⟨gb371, 10, none⟩ = some (.int .i64 ((rd_T40 l0_1 x3_1).f7.f1)) := (blk_cell BK371.out 10).trans rfl
       have hcz83_11 : wc.cell? ⟨gb371, 11, none⟩ = some (.int .i64 ((rd_T40 l0_1 x3_1).f7.f2)) := (blk_cell BK371.out 11).trans rfl
       have hcz83_12 : wc.cell? ⟨gb371, 12, none⟩ = some (.slice A370_12 ((rd_T40 l0_1 x3_1).f8).length c370_12) := (blk_cell BK371.out 12).trans rfl
       have hcz83_13 : wc.cell? ⟨gb371, 13, none⟩ = some (.slice A370_13 ((rd_T40 l0_1 x3_1).f9).length c370_13) := (blk_cell BK371.out 13).trans rfl
       have hfz83_0 := blk_frozen BK371.out 0
       have hfz83_1 := blk_frozen BK371.out 1
       have hfz83_2 := blk_frozen BK371.out 2
       have hfz83_3 := blk_frozen BK371.out 3
       have hfz83_4 := blk_frozen BK371.out 4
       have hfz83_5 := blk_frozen BK371.out 5
       have hfz83_6 := blk_frozen BK371.out 6
       have hfz83_7 := blk_frozen BK371.out 7
       have hfz83_8 := blk_frozen BK371.out 8
       have hfz83_9 := blk_frozen BK371.out 9
       have hfz83_10 := blk_frozen BK371.out 10
       have hfz83_11 := blk_frozen BK371.out 11
       have hfz83_12 := blk_frozen BK371.out 12
       have hfz83_13 := blk_frozen BK371.out 13
       go_wp2_with (first | ((with_reducible refine gate_callee (f := 31) rfl ?_); refine goesL_ (some 111) rfl rfl Tryd.func31 (by kernel_rfl) rfl #[.string ((rd_T40 l0_1 x3_1).f2)] rfl (by (try simp only [List.map_toArray, List.map_cons, List.map_nil]); first | done | rfl | (simp only [List.length_drop, List.length_take]; rfl)) ?_; (with_reducible refine (computusref17_Identifier.calls kj52 ((rd_T40 l0_1 x3_1).f2) true _ A74.out).mono ?_); rintro e w' ⟨rfl, ⟨nd, rfl⟩⟩; refine ⟨_, rfl, ?_⟩) | (go_at_call 31; (with_reducible refine (computusref17_Identifier.calls kj52 ((rd_T40 l0_1 x3_1).f5) true _ A76.out).mono ?_); rintro e w' ⟨rfl, ⟨nd, rfl⟩⟩) | (go_at_call 32; (with_reducible refine (computusref27_identifiers.calls kj52 _ _ ((rd_T40 l0_1 x3_1).f8) true _ ?side1 ?side2 A78.out).mono ?_); (case side1 => exact ck_ (Kd.C_below HR370_12.out bh_)); (case side2 => exact HC370_12.out); rintro e w' ⟨rfl, ⟨nd, rfl⟩⟩) | (go_at_call 32; (with_reducible refine (computusref27_identifiers.calls kj52 _ _ ((rd_T40 l0_1 x3_1).f9) true _ ?side1 ?side2 A80.out).mono ?_); (case side1 => exact ck_ (Kd.C_below HR370_13.out bh_)); (case side2 => exact HC370_13.out); rintro e w' ⟨rfl, ⟨nd, rfl⟩⟩))
       go_roundg kj52
       case measure => have := HK1.out; have := HJ7.out; have := HJ52.out; omega
       case rel => exact ⟨(wrap64 (x3_1 + 1)), rs_, H', ⟨by have := HK1.out; have := HJ7.out; have := HJ52.out; omega⟩, ⟨bk_ BK368.out⟩, ⟨bh_⟩⟩
end
def computuslaw27_few.l0 : Nat → Int → Int → Int → List (S40) → Option (Bool)
 | 0, _, _, _, _ => none
 | k + 1, x3, x4, x362000, x362001 => if x4 < (x362001.length : Int) then (if 0 ≤ x4 then (if (((rd_T40 x362001 x4).f8).length : Int) > 100 then (some false) else (if (((rd_T40 x362001 x4).f9).length : Int) > 100 then (some false) else (computuslaw27_few.l0 k (wrap64 ((wrap64 (x3 + (((rd_T40 x362001 x4).f8).length : Int))) + (((rd_T40 x362001 x4).f9).length : Int))) (wrap64 (x4 + 1)) x362000 x362001))) else (none)) else (some (decide (x3 ≤ 500)))
def computuslaw27_few.f (k : Nat) (a0_0 : Int) (l0_1 : List (S40)) : Option (Bool) := if (l0_1.length : Int) > 400 then (some false) else (computuslaw27_few.l0 k 0 0 a0_0 l0_1)
theorem computuslaw27_few.calls (k : Nat) (a0_0 : Int) (A0_1 : Option Addr) (c0_1 : Nat) (l0_1 : List (S40)) (r : Bool) (w : World) (hr0_1 : Kd.C k40 w A0_1 l0_1.length l0_1) (hc0_1 : l0_1.length ≤ c0_1) (h : computuslaw27_few.f k a0_0 l0_1 = some r) :
  Calls Tryd.prog 12 #[.agg #[.int .i64 a0_0, .slice A0_1 l0_1.length c0_1]] w fun e w' => e = .returned (.bool r) ∧ Below w.heap.size w w' := by
 have hu25 := Tryd.underlying25
 have HR0_1 := am_ hr0_1
 have HC0_1 := am_ hc0_1
 clear hr0_1 hc0_1
 have HB := am_ (Below.refl w.heap.size w)
 have H := h
 clear h
 unfold computuslaw27_few.f at H
 by_cases c2 : (l0_1.length : Int) > 400
 ·rw [if_pos c2] at H
  have c2b0 : decide (400 < (l0_1.length : Int)) = true := decide_eq_true c2
  have c2b1 : decide (400 < l0_1.length) = true := decide_eq_true (by omega)
  clear c2
  obtain rfl := Option.some.inj H
  go_enter Tryd.func12, Tryd.ntmps12
  go_wp2_with (first | ((with_reducible refine gate_dst (N := 1) rfl ?_); (try (refine gate_guard (by rfl) ?_; dsimp only)); refine bx_ (w := w) (N := 1) (cs := #[.int .i64 a0_0, .slice A0_1 l0_1.length c0_1]) (t := 25) ?_; intro gb361 w3 BK361 n0_ GW361 GE361; clear HB; have HB := n0_; clear n0_; obtain ⟨hcz4_0, hcz4_1⟩ := cz2_ BK361.out; obtain ⟨hfz4_0, hfz4_1⟩ := fz2_ BK361.out))
  go_ret
  exact rt_
 rw [if_neg c2] at H
 have c2b0 : decide (400 < (l0_1.length : Int)) = false := decide_eq_false c2
 have c2b1 : decide (400 < l0_1.length) = false := decide_eq_false (by omega)
 clear c2
 have H' := am_ H
 clear H
 go_enter Tryd.func12, Tryd.ntmps12
 go_wp2_with (first | ((with_reducible refine gate_dst (N := 1) rfl ?_); (try (refine gate_guard (by rfl) ?_; dsimp only)); refine bx_ (w := w) (N := 1) (cs := #[.int .i64 a0_0, .slice A0_1 l0_1.length c0_1]) (t := 25) ?_; intro gb361 w5 BK361 n0_ GW361 GE361; clear HB; have HB := n0_; clear n0_; obtain ⟨hcz6_0, hcz6_1⟩ := cz2_ BK361.out; obtain ⟨hfz6_0, hfz6_1⟩ := fz2_ BK361.out))
 go_loopg [3, 4] k (fun kq v3 v4 w' => ∃ (x3_1 : Int) (x4_1 : Int), v3 = .int .i64 x3_1 ∧ v4 = .int .i64 x4_1 ∧ Aside0 (computuslaw27_few.l0 kq x3_1 x4_1 a0_0 l0_1 = some r) ∧ Aside0 (kq ≤ k) ∧ Aside0 (w'.heap[gb361]? = some (.cells #[.int .i64 a0_0, (.slice A0_1 l0_1.length c0_1)] 25 (0, 0))) ∧ Aside0 (Below w.heap.size w w'))
 case atStart => exact ⟨(0), (0), rs_, rs_, H', ⟨Nat.le_refl _⟩, ⟨bk_ BK361.out⟩, ⟨bh_⟩⟩
 case round =>
  clear H'
  obtain ⟨x3_1, x4_1, rfl, rfl, HA, HK1, BK361, HB⟩ := hrel
  cases gk with
  | zero => exact absurd HA.out (by simp [computuslaw27_few.l0])
  | succ k1 =>
   have H := HA.out
   clear HA
   simp only [computuslaw27_few.l0] at H
   by_cases c7 : x4_1 < (l0_1.length : Int)
   rotate_left
   ·rw [if_neg c7] at H
    have c7b0 : decide (x4_1 < (l0_1.length : Int)) = false := decide_eq_false c7
    clear c7
    obtain rfl := Option.some.inj H
    obtain ⟨hcz14_0, hcz14_1⟩ := cz2_ BK361.out
    obtain ⟨hfz14_0, hfz14_1⟩ := fz2_ BK361.out
    go_wp2
    repeat (go_quiet (fail); try go_wp2)
    go_ret
    exact rt_
   rw [if_pos c7] at H
   have c7b0 : decide (x4_1 < (l0_1.length : Int)) = true := decide_eq_true c7
   clear c7
   by_cases c8 : 0 ≤ x4_1
   rotate_left
   ·rw [if_neg c8] at H
    exact absurd H (by simp)
   rw [if_pos c8] at H
   have c8b0 : decide (0 ≤ x4_1) = true := decide_eq_true c8
   clear c8
   by_cases c9 : (((rd_T40 l0_1 x4_1).f8).length : Int) > 100
   ·rw [if_pos c9] at H
    have c9b0 : decide (100 < (((rd_T40 l0_1 x4_1).f8).length : Int)) = true := decide_eq_true c9
    have c9b1 : decide (100 < ((rd_T40 l0_1 x4_1).f8).length) = true := decide_eq_true (by omega)
    clear c9
    obtain rfl := Option.some.inj H
    obtain ⟨hcz10_0, hcz10_1⟩ := cz2_ BK361.out
    obtain ⟨hfz10_0, hfz10_1⟩ := fz2_ BK361.out
    have p362 : 0 ≤ (x4_1 : Int) := of_decide_eq_true as_
    have q362 : x4_1 < (l0_1.length : Int) := of_decide_eq_true as_
    obtain ⟨ad362, A362_12, c362_12, A362_13, c362_13, e362, hx362_0, hx362_1, hx362_2, hx362_3, hx362_4, hx362_5, hx362_6, hx362_7, hx362_8, hx362_9, hx362_10, hx362_11, hx362_12, hx362_13, hl362_12, hi362_12, hl362_13, hi362_13⟩ := at_T40 HR0_1.out x4_1 p362 q362
    cases e362
    replace hx362_0 := cm_ HB.out hx362_0
    replace hx362_1 := cm_ HB.out hx362_1
    replace hx362_2 := cm_ HB.out hx362_2
    replace hx362_3 := cm_ HB.out hx362_3
    replace hx362_4 := cm_ HB.out hx362_4
    replace hx362_5 := cm_ HB.out hx362_5
    replace hx362_6 := cm_ HB.out hx362_6
    replace hx362_7 := cm_ HB.out hx362_7
    replace hx362_8 := cm_ HB.out hx362_8
    replace hx362_9 := cm_ HB.out hx362_9
    replace hx362_10 := cm_ HB.out hx362_10
    replace hx362_11 := cm_ HB.out hx362_11
    replace hx362_12 := cm_ HB.out hx362_12
    replace hx362_13 := cm_ HB.out hx362_13
    have HR362_12 := am_ hi362_12
    have HC362_12 := am_ hl362_12
    clear hi362_12 hl362_12
    have HR362_13 := am_ hi362_13
    have HC362_13 := am_ hl362_13
    clear hi362_13 hl362_13
    replace p362 := eq_true p362
    replace q362 := eq_true q362
    go_wp2
    repeat (go_quiet (fail); try go_wp2)
    go_ret
    exact rt_
   rw [if_neg c9] at H
   have c9b0 : decide (100 < (((rd_T40 l0_1 x4_1).f8).length : Int)) = false := decide_eq_false c9
   have c9b1 : decide (100 < ((rd_T40 l0_1 x4_1).f8).length) = false := decide_eq_false (by omega)
   clear c9
   by_cases c11 : (((rd_T40 l0_1 x4_1).f9).length : Int) > 100
   ·rw [if_pos c11] at H
    have c11b0 : decide (100 < (((rd_T40 l0_1 x4_1).f9).length : Int)) = true := decide_eq_true c11
    have c11b1 : decide (100 < ((rd_T40 l0_1 x4_1).f9).length) = true := decide_eq_true (by omega)
    clear c11
    obtain rfl := Option.some.inj H
    obtain ⟨hcz12_0, hcz12_1⟩ := cz2_ BK361.out
    obtain ⟨hfz12_0, hfz12_1⟩ := fz2_ BK361.out
    have p362 : 0 ≤ (x4_1 : Int) := of_decide_eq_true as_
    have q362 : x4_1 < (l0_1.length : Int) := of_decide_eq_true as_
    obtain ⟨ad362, A362_12, c362_12, A362_13, c362_13, e362, hx362_0, hx362_1, hx362_2, hx362_3, hx362_4, hx362_5, hx362_6, hx362_7, hx362_8, hx362_9, hx362_10, hx362_11, hx362_12, hx362_13, hl362_12, hi362_12, hl362_13, hi362_13⟩ := at_T40 HR0_1.out x4_1 p362 q362
    cases e362
    replace hx362_0 := cm_ HB.out hx362_0
    replace hx362_1 := cm_ HB.out hx362_1
    replace hx362_2 := cm_ HB.out hx362_2
    replace hx362_3 := cm_ HB.out hx362_3
    replace hx362_4 := cm_ HB.out hx362_4
    replace hx362_5 := cm_ HB.out hx362_5
    replace hx362_6 := cm_ HB.out hx362_6
    replace hx362_7 := cm_ HB.out hx362_7
    replace hx362_8 := cm_ HB.out hx362_8
    replace hx362_9 := cm_ HB.out hx362_9
    replace hx362_10 := cm_ HB.out hx362_10
    replace hx362_11 := cm_ HB.out hx362_11
    replace hx362_12 := cm_ HB.out hx362_12
    replace hx362_13 := cm_ HB.out hx362_13
    have HR362_12 := am_ hi362_12
    have HC362_12 := am_ hl362_12
    clear hi362_12 hl362_12
    have HR362_13 := am_ hi362_13
    have HC362_13 := am_ hl362_13
    clear hi362_13 hl362_13
    replace p362 := eq_true p362
    replace q362 := eq_true q362
    have p363 : 0 ≤ (x4_1 : Int) := of_decide_eq_true as_
    have q363 : x4_1 < (l0_1.length : Int) := of_decide_eq_true as_
    obtain ⟨ad363, A363_12, c363_12, A363_13, c363_13, e363, hx363_0, hx363_1, hx363_2, hx363_3, hx363_4, hx363_5, hx363_6, hx363_7, hx363_8, hx363_9, hx363_10, hx363_11, hx363_12, hx363_13, hl363_12, hi363_12, hl363_13, hi363_13⟩ := at_T40 HR0_1.out x4_1 p363 q363
    obtain rfl : ad362 = ad363 := (by injection e363)
    replace hx363_0 := cm_ HB.out hx363_0
    replace hx363_1 := cm_ HB.out hx363_1
    replace hx363_2 := cm_ HB.out hx363_2
    replace hx363_3 := cm_ HB.out hx363_3
    replace hx363_4 := cm_ HB.out hx363_4
    replace hx363_5 := cm_ HB.out hx363_5
    replace hx363_6 := cm_ HB.out hx363_6
    replace hx363_7 := cm_ HB.out hx363_7
    replace hx363_8 := cm_ HB.out hx363_8
    replace hx363_9 := cm_ HB.out hx363_9
    replace hx363_10 := cm_ HB.out hx363_10
    replace hx363_11 := cm_ HB.out hx363_11
    replace hx363_12 := cm_ HB.out hx363_12
    replace hx363_13 := cm_ HB.out hx363_13
    have HR363_12 := am_ hi363_12
    have HC363_12 := am_ hl363_12
    clear hi363_12 hl363_12
    have HR363_13 := am_ hi363_13
    have HC363_13 := am_ hl363_13
    clear hi363_13 hl363_13
    replace p363 := eq_true p363
    replace q363 := eq_true q363
    have ea_ := Option.some.inj (hx362_12.symm.trans hx363_12)
    injection ea_ with ea_ en_ ec_
    subst ea_
    subst ec_
    clear en_
    have ea_ := Option.some.inj (hx362_13.symm.trans hx363_13)
    injection ea_ with ea_ en_ ec_
    subst ea_
    subst ec_
    clear en_
    go_wp2
    repeat (go_quiet (fail); try go_wp2)
    go_ret
    exact rt_
   rw [if_neg c11] at H
   have c11b0 : decide (100 < (((rd_T40 l0_1 x4_1).f9).length : Int)) = false := decide_eq_false c11
   have c11b1 : decide (100 < ((rd_T40 l0_1 x4_1).f9).length) = false := decide_eq_false (by omega)
   clear c11
   have H' := am_ H
   clear H
   obtain ⟨hcz13_0, hcz13_1⟩ := cz2_ BK361.out
   obtain ⟨hfz13_0, hfz13_1⟩ := fz2_ BK361.out
   have p362 : 0 ≤ (x4_1 : Int) := of_decide_eq_true as_
   have q362 : x4_1 < (l0_1.length : Int) := of_decide_eq_true as_
   obtain ⟨ad362, A362_12, c362_12, A362_13, c362_13, e362, hx362_0, hx362_1, hx362_2, hx362_3, hx362_4, hx362_5, hx362_6, hx362_7, hx362_8, hx362_9, hx362_10, hx362_11, hx362_12, hx362_13, hl362_12, hi362_12, hl362_13, hi362_13⟩ := at_T40 HR0_1.out x4_1 p362 q362
   cases e362
   replace hx362_0 := cm_ HB.out hx362_0
   replace hx362_1 := cm_ HB.out hx362_1
   replace hx362_2 := cm_ HB.out hx362_2
   replace hx362_3 := cm_ HB.out hx362_3
   replace hx362_4 := cm_ HB.out hx362_4
   replace hx362_5 := cm_ HB.out hx362_5
   replace hx362_6 := cm_ HB.out hx362_6
   replace hx362_7 := cm_ HB.out hx362_7
   replace hx362_8 := cm_ HB.out hx362_8
   replace hx362_9 := cm_ HB.out hx362_9
   replace hx362_10 := cm_ HB.out hx362_10
   replace hx362_11 := cm_ HB.out hx362_11
   replace hx362_12 := cm_ HB.out hx362_12
   replace hx362_13 := cm_ HB.out hx362_13
   have HR362_12 := am_ hi362_12
   have HC362_12 := am_ hl362_12
   clear hi362_12 hl362_12
   have HR362_13 := am_ hi362_13
   have HC362_13 := am_ hl362_13
   clear hi362_13 hl362_13
   replace p362 := eq_true p362
   replace q362 := eq_true q362
   have p363 : 0 ≤ (x4_1 : Int) := of_decide_eq_true as_
   have q363 : x4_1 < (l0_1.length : Int) := of_decide_eq_true as_
   obtain ⟨ad363, A363_12, c363_12, A363_13, c363_13, e363, hx363_0, hx363_1, hx363_2, hx363_3, hx363_4, hx363_5, hx363_6, hx363_7, hx363_8, hx363_9, hx363_10, hx363_11, hx363_12, hx363_13, hl363_12, hi363_12, hl363_13, hi363_13⟩ := at_T40 HR0_1.out x4_1 p363 q363
   obtain rfl : ad362 = ad363 := (by injection e363)
   replace hx363_0 := cm_ HB.out hx363_0
   replace hx363_1 := cm_ HB.out hx363_1
   replace hx363_2 := cm_ HB.out hx363_2
   replace hx363_3 := cm_ HB.out hx363_3
   replace hx363_4 := cm_ HB.out hx363_4
   replace hx363_5 := cm_ HB.out hx363_5
   replace hx363_6 := cm_ HB.out hx363_6
   replace hx363_7 := cm_ HB.out hx363_7
   replace hx363_8 := cm_ HB.out hx363_8
   replace hx363_9 := cm_ HB.out hx363_9
   replace hx363_10 := cm_ HB.out hx363_10
   replace hx363_11 := cm_ HB.out hx363_11
   replace hx363_12 := cm_ HB.out hx363_12
   replace hx363_13 := cm_ HB.out hx363_13
   have HR363_12 := am_ hi363_12
   have HC363_12 := am_ hl363_12
   clear hi363_12 hl363_12
   have HR363_13 := am_ hi363_13
   have HC363_13 := am_ hl363_13
   clear hi363_13 hl363_13
   replace p363 := eq_true p363
   replace q363 := eq_true q363
   have ea_ := Option.some.inj (hx362_12.symm.trans hx363_12)
   injection ea_ with ea_ en_ ec_
   subst ea_
   subst ec_
   clear en_
   have ea_ := Option.some.inj (hx362_13.symm.trans hx363_13)
   injection ea_ with ea_ en_ ec_
   subst ea_
   subst ec_
   clear en_
   have p364 : 0 ≤ (x4_1 : Int) := of_decide_eq_true as_
   have q364 : x4_1 < (l0_1.length : Int) := of_decide_eq_true as_
   obtain ⟨ad364, A364_12, c364_12, A364_13, c364_13, e364, hx364_0, hx364_1, hx364_2, hx364_3, hx364_4, hx364_5, hx364_6, hx364_7, hx364_8, hx364_9, hx364_10, hx364_11, hx364_12, hx364_13, hl364_12, hi364_12, hl364_13, hi364_13⟩ := at_T40 HR0_1.out x4_1 p364 q364
   obtain rfl : ad362 = ad364 := (by injection e364)
   replace hx364_0 := cm_ HB.out hx364_0
   replace hx364_1 := cm_ HB.out hx364_1
   replace hx364_2 := cm_ HB.out hx364_2
   replace hx364_3 := cm_ HB.out hx364_3
   replace hx364_4 := cm_ HB.out hx364_4
   replace hx364_5 := cm_ HB.out hx364_5
   replace hx364_6 := cm_ HB.out hx364_6
   replace hx364_7 := cm_ HB.out hx364_7
   replace hx364_8 := cm_ HB.out hx364_8
   replace hx364_9 := cm_ HB.out hx364_9
   replace hx364_10 := cm_ HB.out hx364_10
   replace hx364_11 := cm_ HB.out hx364_11
   replace hx364_12 := cm_ HB.out hx364_12
   replace hx364_13 := cm_ HB.out hx364_13
   have HR364_12 := am_ hi364_12
   have HC364_12 := am_ hl364_12
   clear hi364_12 hl364_12
   have HR364_13 := am_ hi364_13
   have HC364_13 := am_ hl364_13
   clear hi364_13 hl364_13
   replace p364 := eq_true p364
   replace q364 := eq_true q364
   have ea_ := Option.some.inj (hx362_12.symm.trans hx364_12)
   injection ea_ with ea_ en_ ec_
   subst ea_
   subst ec_
   clear en_
   have ea_ := Option.some.inj (hx362_13.symm.trans hx364_13)
   injection ea_ with ea_ en_ ec_
   subst ea_
   subst ec_
   clear en_
   have p365 : 0 ≤ (x4_1 : Int) := of_decide_eq_true as_
   have q365 : x4_1 < (l0_1.length : Int) := of_decide_eq_true as_
   obtain ⟨ad365, A365_12, c365_12, A365_13, c365_13, e365, hx365_0, hx365_1, hx365_2, hx365_3, hx365_4, hx365_5, hx365_6, hx365_7, hx365_8, hx365_9, hx365_10, hx365_11, hx365_12, hx365_13, hl365_12, hi365_12, hl365_13, hi365_13⟩ := at_T40 HR0_1.out x4_1 p365 q365
   obtain rfl : ad362 = ad365 := (by injection e365)
   replace hx365_0 := cm_ HB.out hx365_0
   replace hx365_1 := cm_ HB.out hx365_1
   replace hx365_2 := cm_ HB.out hx365_2
   replace hx365_3 := cm_ HB.out hx365_3
   replace hx365_4 := cm_ HB.out hx365_4
   replace hx365_5 := cm_ HB.out hx365_5
   replace hx365_6 := cm_ HB.out hx365_6
   replace hx365_7 := cm_ HB.out hx365_7
   replace hx365_8 := cm_ HB.out hx365_8
   replace hx365_9 := cm_ HB.out hx365_9
   replace hx365_10 := cm_ HB.out hx365_10
   replace hx365_11 := cm_ HB.out hx365_11
   replace hx365_12 := cm_ HB.out hx365_12
   replace hx365_13 := cm_ HB.out hx365_13
   have HR365_12 := am_ hi365_12
   have HC365_12 := am_ hl365_12
   clear hi365_12 hl365_12
   have HR365_13 := am_ hi365_13
   have HC365_13 := am_ hl365_13
   clear hi365_13 hl365_13
   replace p365 := eq_true p365
   replace q365 := eq_true q365
   have ea_ := Option.some.inj (hx362_12.symm.trans hx365_12)
   injection ea_ with ea_ en_ ec_
   subst ea_
   subst ec_
   clear en_
   have ea_ := Option.some.inj (hx362_13.symm.trans hx365_13)
   injection ea_ with ea_ en_ ec_
   subst ea_
   subst ec_
   clear en_
   go_wp2
   repeat (go_quiet (fail); try go_wp2)
   go_roundg k1
   case measure => have := HK1.out; omega
   case rel => exact ⟨(wrap64 ((wrap64 (x3_1 + (((rd_T40 l0_1 x4_1).f8).length : Int))) + (((rd_T40 l0_1 x4_1).f9).length : Int))), (wrap64 (x4_1 + 1)), rs_, rs_, H', ⟨by have := HK1.out; omega⟩, ⟨bk_ BK361.out⟩, ⟨bh_⟩⟩







end Go.Proofs.YtlchefonlfokgaaDoor.Q
end
