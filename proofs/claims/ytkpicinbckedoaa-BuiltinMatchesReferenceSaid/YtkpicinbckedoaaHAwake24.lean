/- What is proved: awake (layer 24) answers true. -/
import Derived.Test.YtkpicinbckedoaaQx5
import Derived.Test.YtkpicinbckedoaaQx6
import Derived.Test.YtkpicinbckedoaaHNamesW
namespace Go.Proofs.Ytkpicinbckedoaa.Q
open Go.RowKit Go.Proofs.YtkpicinbckedoaaW.PrintWords Go.Proofs.YtkpicinbckedoaaW.PrintLast Go.Proofs.YtkpicinbckedoaaW.PrintMore
set_option linter.unusedVariables false
set_option linter.unusedSimpArgs false
set_option maxRecDepth 100000 in
theorem ref24_tables : computusref24_Catalogue.f = some (5, bSeasons, bFeasts) := by kernel_rfl
set_option maxRecDepth 100000 in
theorem same_tables : computusref17_Same.f 200 5 bSeasons bFeasts 5 bSeasons bFeasts = some true := by kernel_rfl
theorem name_at0 : bNames[0]?.getD (⟨#[]⟩ : ByteArray) = ⟨#[98, 97, 112, 116, 105, 115, 109, 45, 116, 105, 100, 101]⟩ := rfl
theorem name_at32 : bNames[32]?.getD (⟨#[]⟩ : ByteArray) = ⟨#[115, 116, 101, 112, 104, 101, 110]⟩ := rfl
theorem name_cells {w : World} {A : Option Addr} (h : Kd.C Kd.string w A 33 bNames) : ∃ ad, A = some ad ∧ w.cell? ad = some (.string ⟨#[98, 97, 112, 116, 105, 115, 109, 45, 116, 105, 100, 101]⟩) ∧ w.cell? ⟨ad.block, ad.off + 32, none⟩ = some (.string ⟨#[115, 116, 101, 112, 104, 101, 110]⟩) := by
  obtain ⟨ad, c, rfl, _, hK, hc⟩ := Kd.C_get h ⟨#[]⟩ 0 (by decide) (by decide)
  obtain ⟨ad', c', e', _, hK', hc'⟩ := Kd.C_get h ⟨#[]⟩ 32 (by decide) (by decide)
  injection e' with e'
  subst e'
  exact ⟨ad, rfl, by have h1 := hc 0 _ (by rw [show c = _ from hK]; rfl); simpa [Addr.add, name_at0] using h1, by have h1 := hc' 0 _ (by rw [show c' = _ from hK']; rfl); simpa [Kd.string, Kd.scalar, name_at32, Addr.add] using h1⟩
theorem keep5 {W W1 : World} {x0 x1 x2 x3 x4 : Addr} {u0 u1 u2 u3 u4 : Value} (h : W.cell? x0 = some u0 ∧ W.cell? x1 = some u1 ∧ W.cell? x2 = some u2 ∧ W.cell? x3 = some u3 ∧ W.cell? x4 = some u4) (hb : Below W.heap.size W W1) : W1.cell? x0 = some u0 ∧ W1.cell? x1 = some u1 ∧ W1.cell? x2 = some u2 ∧ W1.cell? x3 = some u3 ∧ W1.cell? x4 = some u4 := by
  obtain ⟨k0, k1, k2, k3, k4⟩ := h
  exact ⟨(hb.cell (World.block_lt_of_cell? _ _ k0)).trans k0, (hb.cell (World.block_lt_of_cell? _ _ k1)).trans k1, (hb.cell (World.block_lt_of_cell? _ _ k2)).trans k2, (hb.cell (World.block_lt_of_cell? _ _ k3)).trans k3, (hb.cell (World.block_lt_of_cell? _ _ k4)).trans k4⟩
def computuslaw24_awake.f : Option Bool := some true
set_option maxHeartbeats 4000000 in
set_option maxRecDepth 100000 in
theorem computuslaw24_awake.calls (r : Bool) (w : World) (h : computuslaw24_awake.f = some r) : Calls Try.prog 6 #[] w fun e w' => e = .returned (.bool r) ∧ Below w.heap.size w w' := by
  obtain rfl : r = true := by unfold computuslaw24_awake.f at h; simpa using h.symm
  clear h
  have hu := Try.underlying26
  go_enter Try.func6, Try.ntmps6
  go_wp2_with (first | (go_at_call 7; refine (catalogue_any _).mono ?_; rintro e w1 ⟨A1, c1, A2, c2, rfl, hc⟩; have HC := Aside0.mk hc; clear hc) | ((with_reducible refine gate_store (t := 26) (p := 1) rfl ?_); refine store3 rfl rfl 26 (.tmp 1) (.tmp 3) rfl w1.heap.size _ _ _ _ (blk_new _ _) rfl rfl rfl (by kernel_rfl) rfl rfl rfl ?_; have HH := Aside0.mk HC.out.held; have HB := Aside0.mk (set3_below (below_alloc HC.out.b (.cells #[.int .i64 0, .slice none 0 0, .slice none 0 0] 26)) HC.out.b.size (.int .i64 5) (.slice A1 8 c1) (.slice A2 25 c2)); have hle := (Kd.R_reads' HC.out.s).2.1; have hle2 := (Kd.R_reads' HC.out.f).2.1; generalize hW : set3 _ _ _ _ _ = W2 at HH HB ⊢; obtain ⟨g, hg⟩ : ∃ g, g = w1.heap.size := ⟨_, rfl⟩; rw [← hg] at HH ⊢; have HL := Aside0.mk (And.intro hle hle2); clear hW hg HC hle hle2) | (go_at_call 8; refine (names_any _).mono ?_; rintro e w3 ⟨v3, rfl, hr, hb⟩; obtain ⟨A3, c3, rfl⟩ := R_sl hr 33 rfl; have HN := Aside0.mk (Kd.R_reads' hr).2.2; have H3 := Aside0.mk (HH.out.below hb); have HB3 := Aside0.mk (below_step HB.out hb); clear hr hb HH HB))
  obtain ⟨ad, rfl, k3, k4⟩ := name_cells HN.out
  obtain ⟨k0, k1, k2⟩ : w3.cell? ⟨g, 0, none⟩ = some (.int .i64 5) ∧ w3.cell? ⟨g, 1, none⟩ = some (.slice A1 8 c1) ∧ w3.cell? ⟨g, 2, none⟩ = some (.slice A2 25 c2) := ⟨blk_cell H3.out.g 0, blk_cell H3.out.g 1, blk_cell H3.out.g 2⟩
  go_region_held3 (fun w' => w'.cell? ⟨g, 0, none⟩ = some (.int .i64 5) ∧ w'.cell? ⟨g, 1, none⟩ = some (.slice A1 8 c1) ∧ w'.cell? ⟨g, 2, none⟩ = some (.slice A2 25 c2) ∧ w'.cell? ad = some (.string ⟨#[98, 97, 112, 116, 105, 115, 109, 45, 116, 105, 100, 101]⟩) ∧ w'.cell? ⟨ad.block, ad.off + 32, none⟩ = some (.string ⟨#[115, 116, 101, 112, 104, 101, 110]⟩)) (first | exact HK5.out | exact HK4.out | go_keep)
    (first | (go_at_call 9; refine (computusref24_Catalogue.calls 5 bSeasons bFeasts _ ref24_tables).mono ?_; rintro e w4 ⟨v4, v5, rfl, hs4, hf4, hb⟩; obtain ⟨A4, c4, rfl⟩ := R_sl hs4 8 rfl; obtain ⟨A5, c5, rfl⟩ := R_sl hf4 25 rfl; have HK4 := Aside0.mk (show w4.cell? ⟨g, 0, none⟩ = some (.int .i64 5) ∧ w4.cell? ⟨g, 1, none⟩ = some (.slice A1 8 c1) ∧ w4.cell? ⟨g, 2, none⟩ = some (.slice A2 25 c2) ∧ w4.cell? ad = some (.string ⟨#[98, 97, 112, 116, 105, 115, 109, 45, 116, 105, 100, 101]⟩) ∧ w4.cell? ⟨ad.block, ad.off + 32, none⟩ = some (.string ⟨#[115, 116, 101, 112, 104, 101, 110]⟩) from ⟨(hb.cell (World.block_lt_of_cell? _ _ k0)).trans k0, (hb.cell (World.block_lt_of_cell? _ _ k1)).trans k1, (hb.cell (World.block_lt_of_cell? _ _ k2)).trans k2, (hb.cell (World.block_lt_of_cell? _ _ k3)).trans k3, (hb.cell (World.block_lt_of_cell? _ _ k4)).trans k4⟩); have H4 := Aside0.mk (H3.out.below (below_step (by first | exact Below.refl _ _ | exact below_drew1 (Below.refl _ _) | exact pw_below_drewN (Below.refl _ _) _) hb)); have HB4 := Aside0.mk (below_step (by first | exact HB3.out | exact below_drew1 HB3.out | exact pw_below_drewN HB3.out _) hb); have HQ := Aside0.mk (And.intro (Kd.R_reads' hs4) (Kd.R_reads' hf4)); clear hs4 hf4 hb HB3 H3) | (go_at_call 26; refine (computusref17_Same.calls 200 5 A1 c1 bSeasons A2 c2 bFeasts 5 A4 c4 bSeasons A5 c5 bFeasts true _ (by first | exact H4.out.s | exact Kd.C_drew H4.out.s) HL.out.1 (by first | exact H4.out.f | exact Kd.C_drew H4.out.f) HL.out.2 (by first | exact HQ.out.1.2.2 | exact Kd.C_drew HQ.out.1.2.2) HQ.out.1.2.1 (by first | exact HQ.out.2.2.2 | exact Kd.C_drew HQ.out.2.2.2) HQ.out.2.2.1 same_tables).mono ?_; rintro e w5 ⟨rfl, hb⟩; have HK5 := Aside0.mk (show w5.cell? ⟨g, 0, none⟩ = some (.int .i64 5) ∧ w5.cell? ⟨g, 1, none⟩ = some (.slice A1 8 c1) ∧ w5.cell? ⟨g, 2, none⟩ = some (.slice A2 25 c2) ∧ w5.cell? ad = some (.string ⟨#[98, 97, 112, 116, 105, 115, 109, 45, 116, 105, 100, 101]⟩) ∧ w5.cell? ⟨ad.block, ad.off + 32, none⟩ = some (.string ⟨#[115, 116, 101, 112, 104, 101, 110]⟩) from keep5 HK4.out hb); have HB5 := Aside0.mk (below_step (by first | exact HB4.out | exact below_drew1 HB4.out | exact pw_below_drewN HB4.out _) hb); clear hb HB4 HK4))
  go_wp2_with fail
  go_ret
  exact ⟨rfl, HB5.out⟩
end Go.Proofs.Ytkpicinbckedoaa.Q
