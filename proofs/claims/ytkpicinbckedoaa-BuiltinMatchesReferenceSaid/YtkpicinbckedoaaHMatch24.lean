/- What is proved: a call of the law BuiltinMatchesReference answers true, for whatever arguments of its types. -/
import Derived.Test.YtkpicinbckedoaaQx5
import Derived.Test.YtkpicinbckedoaaQx18
import Derived.Test.YtkpicinbckedoaaHAwake24
namespace Go.Proofs.Ytkpicinbckedoaa.Q
open Go.RowKit Go.Proofs.YtkpicinbckedoaaW.PrintWords Go.Proofs.YtkpicinbckedoaaW.PrintLast Go.Proofs.YtkpicinbckedoaaW.PrintMore
set_option linter.unusedVariables false
set_option linter.unusedSimpArgs false
--BEGIN
set_option maxRecDepth 100000 in
theorem check_tables : computusref17_Check.f 1000 5 bSeasons bFeasts = some true := by kernel_rfl
theorem u8_range {a : Int} (h : (Lit.int .u8 a).wf = true) : 0 ≤ a ∧ a ≤ 255 := by
  simp only [Lit.wf, Bool.and_eq_true, decide_eq_true_eq] at h
  have e1 : IntKind.u8.min = 0 := by decide
  have e2 : IntKind.u8.max = 255 := by decide
  omega
theorem field1_ (x0 : Value) (A : Option Addr) (n c : Nat) (x2 : Value) (W : World) : (Instr.field 26 (.agg #[x0, .slice A n c, x2]) 1).run Try.prog W = .ok (.slice A n c) W := by kernel_rfl
theorem field2_ (x0 x1 : Value) (A : Option Addr) (n c : Nat) (W : World) : (Instr.field 26 (.agg #[x0, x1, .slice A n c]) 2).run Try.prog W = .ok (.slice A n c) W := by kernel_rfl
attribute [local go_sem] field1_ field2_
/-- The law's own things: the catalogue's variable, its two rows and the row of names. -/
structure Mine_ (w W : World) (g g1 g2 g3 c1 c2 : Nat) (K1 K2 K3 : Array Value) : Prop where
  b : Below w.heap.size w W
  g : W.heap[g]? = some (.cells #[.int .i64 5, .slice (some ⟨g1, 0, none⟩) 8 c1, .slice (some ⟨g2, 0, none⟩) 25 c2] 26 (0, 0))
  k1 : W.heap[g1]? = some (.cells K1 86 (0, 0))
  k2 : W.heap[g2]? = some (.cells K2 87 (0, 0))
  k3 : W.heap[g3]? = some (.cells K3 9 (0, 0))
  o1 : w.heap.size ≤ g1
  o2 : w.heap.size ≤ g2
  o3 : w.heap.size ≤ g3
theorem Mine_.below {w W W1 : World} {g g1 g2 g3 c1 c2 : Nat} {K1 K2 K3 : Array Value} (h : Mine_ w W g g1 g2 g3 c1 c2 K1 K2 K3) (hb : Below W.heap.size W W1) : Mine_ w W1 g g1 g2 g3 c1 c2 K1 K2 K3 :=
  ⟨below_step h.b hb, blk_below h.g hb, blk_below h.k1 hb, blk_below h.k2 hb, blk_below h.k3 hb, h.o1, h.o2, h.o3⟩
/-- What the rows hold at the place of the name number i. -/
structure Cells_ (K1 K2 K3 : Array Value) : Prop where
  s : ∀ i, i < 8 → ∃ u, K1[i * 9]? = some u
  f : ∀ i, i < 25 → ∃ u, K2[i * 9]? = some u
  n : ∀ i, i < 33 → K3[i]? = some (.string (bNames.getD i ⟨#[]⟩))
theorem name_season (i : Nat) (hi : i < 8) : bNames.getD i ⟨#[]⟩ = (rd_T33 bSeasons (i : Int)).f0 := by
  have h : (List.range 8).all (fun i => (bNames.getD i ⟨#[]⟩).data.toList == (rd_T33 bSeasons (i : Int)).f0.data.toList) = true := by decide +kernel
  have h2 := eq_of_beq (List.all_eq_true.1 h i (List.mem_range.2 hi))
  exact congrArg ByteArray.mk (Array.toList_inj.1 h2)
theorem name_feast (i : Nat) (hi : i < 25) : bNames.getD (i + 8) ⟨#[]⟩ = (rd_T35 bFeasts (i : Int)).f0 := by
  have h : (List.range 25).all (fun i => (bNames.getD (i + 8) ⟨#[]⟩).data.toList == (rd_T35 bFeasts (i : Int)).f0.data.toList) = true := by decide +kernel
  have h2 := eq_of_beq (List.all_eq_true.1 h i (List.mem_range.2 hi))
  exact congrArg ByteArray.mk (Array.toList_inj.1 h2)
theorem add0 (g n : Nat) : (⟨g, 0, none⟩ : Addr).add n = ⟨g, n, none⟩ := by
  unfold Addr.add
  by_cases h : n = 0 <;> simp [h]
theorem row_names {e base : Nat} {w : World} {ok : Nat → Prop} {v : Value} (h : Kd.R Kd.string e w base ok v bNames) : ∃ g c K, v = .slice (some ⟨g, 0, none⟩) 33 c ∧ base ≤ g ∧ w.heap[g]? = some (.cells K e (0, 0)) ∧ ∀ i, i < 33 → K[i]? = some (.string (bNames.getD i ⟨#[]⟩)) := by
  obtain ⟨g, c, rfl, hb, _, K, hK⟩ := Kd.R_form h (by decide)
  refine ⟨g, c, K, rfl, hb, hK, fun i hi => ?_⟩
  obtain ⟨ad, cs, e1, _, hk, hc⟩ := Kd.C_get (Kd.R_reads' h).2.2 ⟨#[]⟩ (i : Int) (by omega) (by have : bNames.length = 33 := rfl; omega)
  injection e1 with e1
  subst e1
  have h1 := hc 0 _ (by rw [show cs = _ from hk]; rfl)
  rw [Int.toNat_natCast, add0] at h1
  have h2 : w.cell? ⟨g, i, none⟩ = some (.string (bNames.getD i ⟨#[]⟩)) := by simpa [Kd.string, Kd.scalar] using h1
  rw [← blk_cell hK]; exact h2
theorem row_seasons {e base : Nat} {w : World} {ok : Nat → Prop} {A : Option Addr} {c : Nat} (h : Kd.R k33 e w base ok (.slice A 8 c) bSeasons) : ∃ g K, A = some ⟨g, 0, none⟩ ∧ base ≤ g ∧ w.heap[g]? = some (.cells K e (0, 0)) ∧ ∀ i, i < 8 → ∃ u, K[i * 9]? = some u := by
  obtain ⟨g, c', e0, hb, _, K, hK⟩ := Kd.R_form h (by decide)
  injection e0 with e0 _ _
  subst e0
  refine ⟨g, K, rfl, hb, hK, fun i hi => ?_⟩
  obtain ⟨ad, e1, h1, _⟩ := at_T33 (Kd.R_reads' h).2.2 (i : Int) (by omega) (by have : bSeasons.length = 8 := rfl; omega)
  injection e1 with e1
  subst e1
  rw [Int.toNat_natCast, add0] at h1
  rw [← blk_cell hK]; exact ⟨_, h1⟩
theorem row_feasts {e base : Nat} {w : World} {ok : Nat → Prop} {A : Option Addr} {c : Nat} (h : Kd.R k35 e w base ok (.slice A 25 c) bFeasts) : ∃ g K, A = some ⟨g, 0, none⟩ ∧ base ≤ g ∧ w.heap[g]? = some (.cells K e (0, 0)) ∧ ∀ i, i < 25 → ∃ u, K[i * 9]? = some u := by
  obtain ⟨g, c', e0, hb, _, K, hK⟩ := Kd.R_form h (by decide)
  injection e0 with e0 _ _
  subst e0
  refine ⟨g, K, rfl, hb, hK, fun i hi => ?_⟩
  obtain ⟨ad, e1, h1, _⟩ := at_T35 (Kd.R_reads' h).2.2 (i : Int) (by omega) (by have : bFeasts.length = 25 := rfl; omega)
  injection e1 with e1
  subst e1
  rw [Int.toNat_natCast, add0] at h1
  rw [← blk_cell hK]; exact ⟨_, h1⟩
set_option maxHeartbeats 8000000 in
set_option maxRecDepth 100000 in
theorem match_s (a0 : Int) (a1 : ByteArray) (w : World) (h0 : (Lit.int .u8 a0).wf = true) (i : Nat) (hi : i < 8) (t1 : a0.tmod 33 = (i : Int)) : Calls Try.prog 3 #[.int .u8 a0, .string a1] w fun e w' => e = .returned (.bool true) ∧ Below w.heap.size w w' := by
  have hu := Try.underlying26
  have hr := u8_range h0
  have hu23 := Try.underlying23
  have hu24 := Try.underlying24
  have q1 : IntKind.i64.wrap a0 = a0 := IntWalk.i64_in _ (by omega)
  have HA := Aside0.mk hr
  obtain ⟨s, hs⟩ : ∃ s, s = bNames.getD i ⟨#[]⟩ := ⟨_, rfl⟩
  have HS := Aside0.mk hs
  have d1 : decide ((i : Int) < 8) = true := decide_eq_true (by omega)
  have p1 : (0 ≤ (i : Int)) = True := eq_true (by omega)
  have p2 : ((i : Int) < 33) = True := eq_true (by omega)
  have p3 : ((i : Int) < 8) = True := eq_true (by omega)
  have p4 : (i < 33) = True := eq_true (by omega)
  have p5 : (i < 8) = True := eq_true hi
  have HI := Aside0.mk (And.intro ((name_season i hi).symm.trans hs.symm) (show (i : Int) < bSeasons.length by have : bSeasons.length = 8 := rfl; omega))
  clear h0 hr hs
  go_enter Try.func3, Try.ntmps3
  go_wp2_with (first | (go_at_call 6; refine (computuslaw24_awake.calls true _ rfl).mono ?_; rintro e w0 ⟨rfl, hb⟩; have HB0 := Aside0.mk hb; clear hb) | (go_at_call 7; refine (catalogue_any _).mono ?_; rintro e w1 ⟨A1, c1, A2, c2, rfl, hc⟩; have HC := Aside0.mk hc; clear hc) | ((with_reducible refine gate_store (t := 26) (p := 5) rfl ?_); refine store3 rfl rfl 26 (.tmp 5) (.tmp 12) rfl w1.heap.size _ _ _ _ (blk_new _ _) rfl rfl rfl (by kernel_rfl) rfl rfl rfl ?_; obtain ⟨g1, K1, rfl, o1, b1, z1⟩ := row_seasons HC.out.s; obtain ⟨g2, K2, rfl, o2, b2, z2⟩ := row_feasts HC.out.f; have HB1 := Aside0.mk (below_step HB0.out HC.out.b); have HW := Aside0.mk (set3_blk (blk_new w1 (.cells #[.int .i64 0, .slice none 0 0, .slice none 0 0] 26)) rfl (.int .i64 5) (.slice (some ⟨g1, 0, none⟩) 8 c1) (.slice (some ⟨g2, 0, none⟩) 25 c2)); have HB2 := Aside0.mk (set3_below (below_alloc (Below.refl w1.heap.size w1) (.cells #[.int .i64 0, .slice none 0 0, .slice none 0 0] 26)) (Nat.le_refl _) (.int .i64 5) (.slice (some ⟨g1, 0, none⟩) 8 c1) (.slice (some ⟨g2, 0, none⟩) 25 c2)); generalize hW : set3 _ _ _ _ _ = W2 at HW HB2 ⊢; have n0_ := Aside0.mk (And.intro (blk_below b1 HB2.out) (And.intro (blk_below b2 HB2.out) (And.intro (Nat.le_trans HB0.out.size o1) (Nat.le_trans HB0.out.size o2)))); have n1_ := Aside0.mk (And.intro z1 z2); have n2_ := Aside0.mk (below_step HB1.out HB2.out); obtain ⟨g, hg⟩ : ∃ g, g = w1.heap.size := ⟨_, rfl⟩; rw [← hg] at HW ⊢; clear hW hg HC z1 z2 b1 b2 o1 o2 HB0 HB1 HB2; have HR := n0_; have HZ := n1_; have HB := n2_; clear n0_ n1_ n2_) | (go_at_call 8; refine (names_any _).mono ?_; rintro e w3 ⟨v3, rfl, hr, hb⟩; obtain ⟨g3, c3, K3, rfl, o3, b3, z3⟩ := row_names hr; have HM := Aside0.mk (show Mine_ w w3 g g1 g2 g3 c1 c2 K1 K2 K3 from ⟨below_step HB.out hb, blk_below HW.out hb, blk_below HR.out.1 hb, blk_below HR.out.2.1 hb, b3, HR.out.2.2.1, HR.out.2.2.2, Nat.le_trans HB.out.size o3⟩); have HK := Aside0.mk (show Cells_ K1 K2 K3 from ⟨HZ.out.1, HZ.out.2, z3⟩); have HNE := Aside0.mk (show g1 ≠ g3 ∧ g2 ≠ g3 from ⟨fun e => by have := blk_lt HR.out.1; omega, fun e => by have := blk_lt HR.out.2.1; omega⟩); have HU := Aside0.mk (HK.out.s i (of_eq_true p5)); have HN := Aside0.mk ((HK.out.n i (of_eq_true p4)).trans (congrArg (fun x => some (Value.string x)) HS.out.symm)); clear hr hb o3 b3 z3 HB HW HR HZ) | (go_at_call 9; refine (computusref24_Catalogue.calls 5 bSeasons bFeasts _ ref24_tables).mono ?_; rintro e w4 ⟨v4, v5, rfl, hs4, hf4, hb⟩; obtain ⟨A4, c4, rfl⟩ := R_sl hs4 8 rfl; obtain ⟨A5, c5, rfl⟩ := R_sl hf4 25 rfl; obtain ⟨ad, rfl, y0, -⟩ := at_T33 (Kd.R_reads' hs4).2.2 (i : Int) (Int.natCast_nonneg i) (HI.out.2); simp only [Int.toNat_natCast] at y0; rw [HI.out.1] at y0; have HM4 := Aside0.mk (HM.out.below hb); obtain ⟨u, hu1⟩ := HU.out; have x1 := blk_cell HM4.out.g 1; have x3 : w4.cell? ⟨g1, i * 9, none⟩ = some u := (blk_cell HM4.out.k1 (i * 9)).trans hu1; have x4 := blk_frozen HM4.out.k1 (i * 9); have x5 : (w4.setCell ⟨g1, i * 9, none⟩ (.string a1)).cell? ⟨g3, i, none⟩ = some (.string s) := (blk_cell (blk_far HM4.out.k3 (fun e => HNE.out.1 e.symm) (.string a1)) i).trans HN.out; have x6 := blk_frozen (blk_far HM4.out.k3 (p := ⟨g1, i * 9, none⟩) (fun e => HNE.out.1 e.symm) (.string a1)) i; clear hs4 hf4 hb hu1 HU))
  have HX := Aside0.mk (below_step (below_set (below_set HM4.out.b HM4.out.o1) HM4.out.o3) HB0.out)
  clear HB0 HM HM4 HNE HN HK
  go_wp2_with (first | (go_at_call 8; refine (names_any _).mono ?_; rintro e w7 ⟨v7, rfl, hr, hb⟩; obtain ⟨g7, c7, K7, rfl, o7, b7, z7⟩ := row_names hr; have n7 : w7.cell? ⟨g7, i, none⟩ = some (.string s) := (blk_cell b7 i).trans ((z7 i (of_eq_true p4)).trans (congrArg (fun x => some (Value.string x)) HS.out.symm)); have HB7 := Aside0.mk (below_step HX.out hb); clear hr hb o7 b7 z7) | (go_at_call 7; refine (catalogue_any _).mono ?_; rintro e w8 ⟨A9, c9, A8, c8, rfl, hc⟩; have HC := Aside0.mk hc; clear hc) | (go_at_call 10; refine (computusref17_Check.calls 1000 5 A9 c9 bSeasons A8 c8 bFeasts true _ (Kd.R_reads' HC.out.s).2.2 (Kd.R_reads' HC.out.s).2.1 (Kd.R_reads' HC.out.f).2.2 (Kd.R_reads' HC.out.f).2.1 check_tables).mono ?_; rintro e w9 ⟨rfl, hb⟩; have HB9 := Aside0.mk (below_step (below_step HB7.out HC.out.b) hb); clear hb))
  go_ret
  exact ⟨rfl, HB9.out⟩
set_option maxHeartbeats 8000000 in
set_option maxRecDepth 100000 in
theorem match_f (a0 : Int) (a1 : ByteArray) (w : World) (h0 : (Lit.int .u8 a0).wf = true) (T : Int) (i : Nat) (hi : i < 25) (ht : T = (i : Int) + 8) (t1 : a0.tmod 33 = T) : Calls Try.prog 3 #[.int .u8 a0, .string a1] w fun e w' => e = .returned (.bool true) ∧ Below w.heap.size w w' := by
  have hu := Try.underlying26
  have hr := u8_range h0
  have hu23 := Try.underlying23
  have hu24 := Try.underlying24
  have q1 : IntKind.i64.wrap a0 = a0 := IntWalk.i64_in _ (by omega)
  have HA := Aside0.mk hr
  obtain ⟨s, hs⟩ : ∃ s, s = bNames.getD (i + 8) ⟨#[]⟩ := ⟨_, rfl⟩
  have HS := Aside0.mk hs
  have d1 : decide (T < 8) = false := decide_eq_false (by omega)
  have q2 : IntKind.i64.wrap (T - 8) = (i : Int) := by rw [IntWalk.i64_in _ (by omega)]; omega
  have p1 : (0 ≤ T) = True := eq_true (by omega)
  have p2 : (T < 33) = True := eq_true (by omega)
  have p3 : ((i : Int) < 25) = True := eq_true (by omega)
  have p5 : (i < 25) = True := eq_true hi
  have HT := Aside0.mk (show T.toNat = i + 8 by omega)
  have HI := Aside0.mk (And.intro ((name_feast i hi).symm.trans hs.symm) (show (i : Int) < bFeasts.length by have : bFeasts.length = 25 := rfl; omega))
  clear h0 hr hs ht
  go_enter Try.func3, Try.ntmps3
  go_wp2_with (first | (go_at_call 6; refine (computuslaw24_awake.calls true _ rfl).mono ?_; rintro e w0 ⟨rfl, hb⟩; have HB0 := Aside0.mk hb; clear hb) | (go_at_call 7; refine (catalogue_any _).mono ?_; rintro e w1 ⟨A1, c1, A2, c2, rfl, hc⟩; have HC := Aside0.mk hc; clear hc) | ((with_reducible refine gate_store (t := 26) (p := 5) rfl ?_); refine store3 rfl rfl 26 (.tmp 5) (.tmp 12) rfl w1.heap.size _ _ _ _ (blk_new _ _) rfl rfl rfl (by kernel_rfl) rfl rfl rfl ?_; obtain ⟨g1, K1, rfl, o1, b1, z1⟩ := row_seasons HC.out.s; obtain ⟨g2, K2, rfl, o2, b2, z2⟩ := row_feasts HC.out.f; have HB1 := Aside0.mk (below_step HB0.out HC.out.b); have HW := Aside0.mk (set3_blk (blk_new w1 (.cells #[.int .i64 0, .slice none 0 0, .slice none 0 0] 26)) rfl (.int .i64 5) (.slice (some ⟨g1, 0, none⟩) 8 c1) (.slice (some ⟨g2, 0, none⟩) 25 c2)); have HB2 := Aside0.mk (set3_below (below_alloc (Below.refl w1.heap.size w1) (.cells #[.int .i64 0, .slice none 0 0, .slice none 0 0] 26)) (Nat.le_refl _) (.int .i64 5) (.slice (some ⟨g1, 0, none⟩) 8 c1) (.slice (some ⟨g2, 0, none⟩) 25 c2)); generalize hW : set3 _ _ _ _ _ = W2 at HW HB2 ⊢; have n0_ := Aside0.mk (And.intro (blk_below b1 HB2.out) (And.intro (blk_below b2 HB2.out) (And.intro (Nat.le_trans HB0.out.size o1) (Nat.le_trans HB0.out.size o2)))); have n1_ := Aside0.mk (And.intro z1 z2); have n2_ := Aside0.mk (below_step HB1.out HB2.out); obtain ⟨g, hg⟩ : ∃ g, g = w1.heap.size := ⟨_, rfl⟩; rw [← hg] at HW ⊢; clear hW hg HC z1 z2 b1 b2 o1 o2 HB0 HB1 HB2; have HR := n0_; have HZ := n1_; have HB := n2_; clear n0_ n1_ n2_) | (go_at_call 8; refine (names_any _).mono ?_; rintro e w3 ⟨v3, rfl, hr, hb⟩; obtain ⟨g3, c3, K3, rfl, o3, b3, z3⟩ := row_names hr; have HM := Aside0.mk (show Mine_ w w3 g g1 g2 g3 c1 c2 K1 K2 K3 from ⟨below_step HB.out hb, blk_below HW.out hb, blk_below HR.out.1 hb, blk_below HR.out.2.1 hb, b3, HR.out.2.2.1, HR.out.2.2.2, Nat.le_trans HB.out.size o3⟩); have HK := Aside0.mk (show Cells_ K1 K2 K3 from ⟨HZ.out.1, HZ.out.2, z3⟩); have HNE := Aside0.mk (show g1 ≠ g3 ∧ g2 ≠ g3 from ⟨fun e => by have := blk_lt HR.out.1; omega, fun e => by have := blk_lt HR.out.2.1; omega⟩); have HU := Aside0.mk (HK.out.f i (of_eq_true p5)); have HN := Aside0.mk ((HK.out.n T.toNat (by rw [HT.out]; have := of_eq_true p5; omega)).trans (congrArg (fun x => some (Value.string x)) ((congrArg (fun q => bNames.getD q ⟨#[]⟩) HT.out).trans HS.out.symm))); clear hr hb o3 b3 z3 HB HW HR HZ) | (go_at_call 9; refine (computusref24_Catalogue.calls 5 bSeasons bFeasts _ ref24_tables).mono ?_; rintro e w4 ⟨v4, v5, rfl, hs4, hf4, hb⟩; obtain ⟨A4, c4, rfl⟩ := R_sl hs4 8 rfl; obtain ⟨A5, c5, rfl⟩ := R_sl hf4 25 rfl; obtain ⟨ad, rfl, y0, -⟩ := at_T35 (Kd.R_reads' hf4).2.2 (i : Int) (Int.natCast_nonneg i) (HI.out.2); simp only [Int.toNat_natCast] at y0; rw [HI.out.1] at y0; have HM4 := Aside0.mk (HM.out.below hb); obtain ⟨u, hu1⟩ := HU.out; have x1 := blk_cell HM4.out.g 2; have x3 : w4.cell? ⟨g2, i * 9, none⟩ = some u := (blk_cell HM4.out.k2 (i * 9)).trans hu1; have x4 := blk_frozen HM4.out.k2 (i * 9); have x5 : (w4.setCell ⟨g2, i * 9, none⟩ (.string a1)).cell? ⟨g3, T.toNat, none⟩ = some (.string s) := (blk_cell (blk_far HM4.out.k3 (fun e => HNE.out.2 e.symm) (.string a1)) T.toNat).trans HN.out; have x6 := blk_frozen (blk_far HM4.out.k3 (p := ⟨g2, i * 9, none⟩) (fun e => HNE.out.2 e.symm) (.string a1)) T.toNat; clear hs4 hf4 hb hu1 HU))
  have HX := Aside0.mk (below_step (below_set (below_set HM4.out.b HM4.out.o2) HM4.out.o3) HB0.out)
  clear HB0 HM HM4 HNE HN HK
  go_wp2_with (first | (go_at_call 8; refine (names_any _).mono ?_; rintro e w7 ⟨v7, rfl, hr, hb⟩; obtain ⟨g7, c7, K7, rfl, o7, b7, z7⟩ := row_names hr; have n7 : w7.cell? ⟨g7, T.toNat, none⟩ = some (.string s) := (blk_cell b7 T.toNat).trans ((z7 T.toNat (by rw [HT.out]; have := of_eq_true p5; omega)).trans (congrArg (fun x => some (Value.string x)) ((congrArg (fun q => bNames.getD q ⟨#[]⟩) HT.out).trans HS.out.symm))); have HB7 := Aside0.mk (below_step HX.out hb); clear hr hb o7 b7 z7) | (go_at_call 7; refine (catalogue_any _).mono ?_; rintro e w8 ⟨A9, c9, A8, c8, rfl, hc⟩; have HC := Aside0.mk hc; clear hc) | (go_at_call 10; refine (computusref17_Check.calls 1000 5 A9 c9 bSeasons A8 c8 bFeasts true _ (Kd.R_reads' HC.out.s).2.2 (Kd.R_reads' HC.out.s).2.1 (Kd.R_reads' HC.out.f).2.2 (Kd.R_reads' HC.out.f).2.1 check_tables).mono ?_; rintro e w9 ⟨rfl, hb⟩; have HB9 := Aside0.mk (below_step (below_step HB7.out HC.out.b) hb); clear hb))
  go_ret
  exact ⟨rfl, HB9.out⟩
def computuslaw24_BuiltinMatchesReference.f (a0 : Int) (a1 : ByteArray) : Option Bool := if (Lit.int .u8 a0).wf = true ∧ a1.size ≤ 140737488351232 then some true else none
theorem computuslaw24_BuiltinMatchesReference.calls (a0 : Int) (a1 : ByteArray) (r : Bool) (w : World) (h : computuslaw24_BuiltinMatchesReference.f a0 a1 = some r) : Calls Try.prog 3 #[.int .u8 a0, .string a1] w fun e w' => e = .returned (.bool r) ∧ Below w.heap.size w w' := by
  unfold computuslaw24_BuiltinMatchesReference.f at h
  by_cases hc : (Lit.int .u8 a0).wf = true ∧ a1.size ≤ 140737488351232
  · rw [if_pos hc] at h
    obtain rfl := Option.some.inj h
    have hr := u8_range hc.1
    have e1 : a0.tmod 33 = a0 % 33 := Int.tmod_eq_emod_of_nonneg hr.1
    by_cases h8 : a0 % 33 < 8
    · exact match_s a0 a1 w hc.1 (a0 % 33).toNat (by omega) (by omega)
    · exact match_f a0 a1 w hc.1 (a0 % 33) (a0 % 33 - 8).toNat (by omega) (by omega) e1
  · rw [if_neg hc] at h
    exact absurd h (by simp)
--END
end Go.Proofs.Ytkpicinbckedoaa.Q
namespace Go.Proofs.Ytkpicinbckedoaa.Pure
theorem BuiltinMatchesReference : ∀ (a0 : Int) (a1 : ByteArray), (Lit.int .u8 a0).wf = true → a1.size ≤ 140737488351232 → Q.computuslaw24_BuiltinMatchesReference.f a0 a1 = some true := by
  intro a0 a1 h0 h1
  unfold Q.computuslaw24_BuiltinMatchesReference.f
  rw [if_pos ⟨h0, h1⟩]
end Go.Proofs.Ytkpicinbckedoaa.Pure
