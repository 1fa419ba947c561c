/- What is proved: what the statement OrdotextOffsetsSaid needs, part 9 of 12; the last part proves the statement. No condition. -/
import Derived.Test.YtlchefonlfokgaaDoorZOOs7
import Derived.Test.YtlchefonlfokgaaDoorRows
import Derived.Deep.DrawnRows
import Derived.Deep.MidRow
set_option maxHeartbeats 8000000
set_option maxRecDepth 100000
set_option linter.unusedVariables false
set_option linter.unusedSimpArgs false
section
namespace Go.Proofs.YtlchefonlfokgaaDoor.Q
open Go.RowKit
set_option maxRecDepth 100000
theorem tabs_row {W : World} (h : laidMetH Tryd.prog [("math/bits.deBruijn32tab", Rows.laid_math_bits_deBruijn32tab), ("math/bits.deBruijn64tab", Rows.laid_math_bits_deBruijn64tab), ("internal/strconv.uint64pow10", Rows.laid_internal_strconv_uint64pow10), ("computus/weekday.names", Rows.laid_computus_weekday_names), ("computus/ordotext.kinds", Rows.laid_computus_ordotext_kinds)] W) : Tabs W :=
 tabs_of_laid h (by decide +kernel) (.tail _ (.tail _ (.tail _ (.head _)))) (.tail _ (.tail _ (.tail _ (.tail _ (.head _))))) (.tail _ (.tail _ (.head _)))
end Go.Proofs.YtlchefonlfokgaaDoor.Q
end
section

end
section
namespace Go.Proofs.YtlchefonlfokgaaDoor.Q
open Go.RowKit Go.Proofs.YtlchefonlfokgaaDoorW.PrintWords Go.Proofs.YtlchefonlfokgaaDoorW.PrintLast Go.Proofs.YtlchefonlfokgaaDoorW.PrintMore
set_option maxRecDepth 100000
theorem left_step {s : ByteArray} {x z : Sc} {k : Nat} (hx : x.2 = false) (h : left_ s x ≤ k + 1) (h1 : x.1 < z.1) (h2 : z.1 ≤ s.size) : left_ s z ≤ k := by
 unfold left_ at *
 rw [hx] at h
 simp only [Bool.false_eq_true, if_false] at h
 split <;> omega
theorem out1_C {W : World} {b : Nat} {t : TypeId} (h : W.heap[b]? = some (.cells #[.string ⟨#[32]⟩, .string ⟨#[111, 117, 116, 32]⟩] t (0, 0))) : Kd.string.C W (some ⟨b, 1, none⟩) 1 (wOut true) :=
 Kd.C_of_reads (d := ByteArray.empty) ⟨rfl, by decide, fun _ => ⟨_, rfl, fun j hj => by
  obtain rfl : j = 0 := by omega
  exact blk_cell h 1⟩⟩
theorem TI.outs {w0 w W : World} {g gp_ be b : Nat} {y : Int} {s : ByteArray} {x : Sc} {e : S40} {v8 v9 : Value} {lc lo : List ByteArray} (h : TI w0 w W g gp_ be y s x e v8 v9 lc lo) (hz : W.heap.size = b) (c : Nat) :
  Calls Tryd.prog 20 #[.pointer (some ⟨g, 0, none⟩), .slice (some ⟨b, 1, none⟩) 1 c] (W.alloc (.cells #[.string ⟨#[32]⟩, .string ⟨#[111, 117, 116, 32]⟩] 9)) fun e_ w' => e_ = .returned (.int .i64 (scW s (wOut true) x).1) ∧ TI w0 w w' g gp_ be y s (scW s (wOut true) x).2 e v8 v9 lc lo := by
 subst hz
 have h2 := h.alloc (.cells #[.string ⟨#[32]⟩, .string ⟨#[111, 117, 116, 32]⟩] 9)
 exact (h2.S.word (A1 := some ⟨W.heap.size, 1, none⟩) (c1 := c) (l1 := wOut true) (n := 1) rfl (out1_C (blk_new W _)) (fun ad e0 _ => by have h1 := h.S.lt; obtain rfl := Option.some.inj e0; exact Nat.ne_of_gt h1)).mono fun e w' ⟨he, hS, hK⟩ => ⟨he, h2.turn hS hK⟩
theorem p_tail (w0 w : World) (g gp be : Nat) (y : Int) (s : ByteArray) (x : Sc) (e : S40) (h : TI w0 w w g gp be y s x e (.slice none 0 0) (.slice none 0 0) [] []) (hs9 : s.size ≤ 1000000000) (F : List ByteArray × List ByteArray × Sc) (hF : tlL s (s.size + 2) false [] [] x = F) :
  Calls Tryd.prog 59 #[.pointer (some ⟨gp, 0, none⟩), .pointer (some ⟨be, 0, none⟩)] w fun e_ w' => e_ = .returned (.tuple #[]) ∧ ∃ u8 u9, TI w0 w w' g gp be y s F.2.2 e u8 u9 F.1 F.2.1 := by
 have HI := Aside0.mk h
 have HE := Aside0.mk hF
 have HL := Aside0.mk (show left_ s x ≤ s.size + 2 ∧ ([] : List ByteArray).length + ([] : List ByteArray).length ≤ x.1 from ⟨by unfold left_; split <;> omega, Nat.zero_le _⟩)
 clear h hF
 go_enter Tryd.func59, Tryd.ntmps59
 go_wp2_with fail
 go_loopg [4] (s.size + 2) (fun kq v4 w' => ∃ om lc lo x' u8 u9, v4 = .bool om ∧ Aside0 (TI w0 w w' g gp be y s x' e u8 u9 lc lo) ∧ Aside0 (tlL s kq om lc lo x' = F) ∧ Aside0 (left_ s x' ≤ kq ∧ lc.length + lo.length ≤ x'.1))
 case atStart => exact ⟨false, [], [], x, .slice none 0 0, .slice none 0 0, rfl, HI, HE, HL⟩
 case round =>
 clear HI HE HL
 obtain ⟨om, lc, lo, x', v8, v9, rfl, HI, HE, HL⟩ := hrel
 have HX := HI
 obtain ⟨A8, c8, rfl⟩ := Kd.R_slice HI.out.R1
 obtain ⟨A9, c9, rfl⟩ := Kd.R_slice HI.out.R2
 have hc0 := HI.out.c0
 obtain ⟨r, hr⟩ : ∃ r, r = scW s wWith x' := ⟨_, rfl⟩
 have HWd := Aside0.mk (HI.out.lits (b := wr.heap.size) (l1 := wWith) (n := 2) rfl rfl (by decide) rfl)
 rw [← hr] at HWd
 by_cases r1 : r.1 = 1
 ·have hca := (scW_cases s wWith x').resolve_left (fun h => by rw [← hr, r1] at h; exact absurd h.2 (by decide))
  rw [← hr] at hca
  obtain ⟨k1, rfl⟩ : ∃ m, gk = m + 1 := ⟨gk - 1, by have h1 := HL.out.1; unfold left_ at h1; rw [hca.1] at h1; simp only [Bool.false_eq_true, if_false] at h1; omega⟩
  have hE := HE.out
  rw [tlL, ← hr, if_pos r1] at hE
  obtain ⟨ri, rx⟩ := r
  simp only at r1 hE hca HWd
  subst r1
  have HCA := Aside0.mk hca
  have HE := Aside0.mk hE
  clear hE hca hr
  go_wp2_with fail
  refine Calls.mono HWd.out ?_
  rintro e_ w7 ⟨rfl, h7⟩
  have n0_ := Aside0.mk h7
  clear HI HWd h7 hc0
  have HI := n0_
  clear n0_
  have hc0 := HI.out.c0
  cases om with
  | false =>
   obtain ⟨u, hu⟩ : ∃ u, u = scW s (wOut false) rx := ⟨_, rfl⟩
   have hug := scW_ge s (wOut false) rx
   rw [← hu] at hug
   obtain ⟨q, hq⟩ : ∃ q, q = scI s u.2 := ⟨_, rfl⟩
   have hqg := scI_ge s u.2
   rw [← hq] at hqg
   have HQG := Aside0.mk (show rx.1 ≤ q.2.1 from Nat.le_trans hug hqg)
   have n0_ := HE.out
   rw [← hu, ← hq] at n0_
   clear HE hug hqg
   have HE := Aside0.mk n0_
   have HQ := Aside0.mk hq
   clear n0_ hq
   have HWo := Aside0.mk (HI.out.lits (b := w7.heap.size) (l1 := wOut false) (n := 2) rfl rfl (by decide) rfl)
   rw [← hu] at HWo
   have hc1 : (w7.alloc (.cells #[.string ⟨#[32]⟩, .string ⟨#[111, 117, 116, 32]⟩] 9)).cell? ⟨gp, 0, none⟩ = some (.pointer (some ⟨g, 0, none⟩)) := (HI.out.alloc _).c0
   clear hu
   go_wp2_with fail
   refine Calls.mono HWo.out ?_
   rintro e_ w8 ⟨rfl, h8⟩
   have n0_ := Aside0.mk h8
   clear HI HWo h8 hc0 hc1
   have HI := n0_
   clear n0_
   by_cases u0 : u.1 = 0
   ·have n0_ := HE.out
    rw [if_pos ⟨u0, by simp⟩] at n0_
    have HE := Aside0.mk n0_
    clear n0_
    have du : (u.1 == 0) = true := by rw [u0]; rfl
    go_wp2_with fail
    refine start_ (n := 15) (S := fun w' => w'.cell? ⟨gp, 0, none⟩ = some (.pointer (some ⟨g, 0, none⟩)) ∧ w'.cell? ⟨be, 12, none⟩ = some (.slice A8 lc.length c8)) (ds := [14]) #[false, false, false, false, false, false, false, false, false, false, false, false, false, false, false] (by kernel_rfl) rfl rfl ⟨HI.out.drew.c0, HI.out.drew.c12⟩ (fun hHeld => ?_)
    refine pure_ (i := 0) (N := some 28) (v := ?_) (a' := ?_) #[true, false, false, false, false, false, false, false, false, false, false, false, false, false, false] rfl rfl (by kernel_rfl) (fun _ _ _ h => h) (Or.inl ⟨by rfl, ?_⟩) ?_ ?_
    rotate_left
    ·intro w'
     go_simp
     with_reducible rfl
    rotate_left
    ·simp only [Act.put, List.setIfInBounds_toArray, List.set_cons_zero, List.set_cons_succ, i64_w, i32_w]
     rfl
    refine pure_ (i := 1) (N := some 29) (v := ?_) (a' := ?_) #[true, true, false, false, false, false, false, false, false, false, false, false, false, false, false] rfl rfl (by kernel_rfl) (fun _ _ _ h => h) (Or.inl ⟨by rfl, ?_⟩) ?_ ?_
    rotate_left
    ·intro w'
     go_simp
     with_reducible rfl
    rotate_left
    ·simp only [Act.put, List.setIfInBounds_toArray, List.set_cons_zero, List.set_cons_succ, i64_w, i32_w]
     rfl
    refine pure_ (i := 2) (N := some 30) (v := ?_) (a' := ?_) #[true, true, true, false, false, false, false, false, false, false, false, false, false, false, false] rfl rfl (by kernel_rfl) (fun _ _ _ h => h) (Or.inl ⟨by rfl, ?_⟩) ?_ ?_
    rotate_left
    ·intro w'
     go_simp
     with_reducible rfl
    rotate_left
    ·simp only [Act.put, List.setIfInBounds_toArray, List.set_cons_zero, List.set_cons_succ, i64_w, i32_w]
     rfl
    refine pure_ (i := 3) (N := some 31) (v := ?_) (a' := ?_) #[true, true, true, true, false, false, false, false, false, false, false, false, false, false, false] rfl rfl (by kernel_rfl) (fun _ _ _ h => h) (Or.inl ⟨by rfl, ?_⟩) ?_ ?_
    rotate_left
    ·intro w'
     go_simp
     with_reducible rfl
    rotate_left
    ·simp only [Act.put, List.setIfInBounds_toArray, List.set_cons_zero, List.set_cons_succ, i64_w, i32_w]
     rfl
    refine take_ (i := 4) (N := some 32) (v := ?_) (a' := ?_) #[true, true, true, true, true, false, false, false, false, false, false, false, false, false, false] rfl rfl (by kernel_rfl) (fun _ _ _ h => h) (Or.inl ⟨by rfl, ?_⟩) hHeld ?_ ?_
    rotate_left
    ·rintro w' ⟨s0, s1⟩
     go_simp
     with_reducible rfl
    rotate_left
    ·simp only [Act.put, List.setIfInBounds_toArray, List.set_cons_zero, List.set_cons_succ, i64_w, i32_w]
     rfl
    refine pure_ (i := 5) (N := some 33) (v := ?_) (a' := ?_) #[true, true, true, true, true, true, false, false, false, false, false, false, false, false, false] rfl rfl (by kernel_rfl) (fun _ _ _ h => h) (Or.inl ⟨by rfl, ?_⟩) ?_ ?_
    rotate_left
    ·intro w'
     go_simp
     with_reducible rfl
    rotate_left
    ·simp only [Act.put, List.setIfInBounds_toArray, List.set_cons_zero, List.set_cons_succ, i64_w, i32_w]
     rfl
    refine pure_ (i := 6) (N := some 34) (v := ?_) (a' := ?_) #[true, true, true, true, true, true, true, false, false, false, false, false, false, false, false] rfl rfl (by kernel_rfl) (fun _ _ _ h => h) (Or.inl ⟨by rfl, ?_⟩) ?_ ?_
    rotate_left
    ·intro w'
     go_simp
     with_reducible rfl
    rotate_left
    ·simp only [Act.put, List.setIfInBounds_toArray, List.set_cons_zero, List.set_cons_succ, i64_w, i32_w]
     rfl
    refine pure_ (i := 7) (N := some 35) (v := ?_) (a' := ?_) #[true, true, true, true, true, true, true, true, false, false, false, false, false, false, false] rfl rfl (by kernel_rfl) (fun _ _ _ h => h) (Or.inl ⟨by rfl, ?_⟩) ?_ ?_
    rotate_left
    ·intro w'
     go_simp
     with_reducible rfl
    rotate_left
    ·simp only [Act.put, List.setIfInBounds_toArray, List.set_cons_zero, List.set_cons_succ, i64_w, i32_w]
     rfl
    refine take_ (i := 8) (N := some 36) (v := ?_) (a' := ?_) #[true, true, true, true, true, true, true, true, true, false, false, false, false, false, false] rfl rfl (by kernel_rfl) (fun _ _ _ h => h) (Or.inl ⟨by rfl, ?_⟩) hHeld ?_ ?_
    rotate_left
    ·rintro w' ⟨s0, s1⟩
     go_simp
     with_reducible rfl
    rotate_left
    ·simp only [Act.put, List.setIfInBounds_toArray, List.set_cons_zero, List.set_cons_succ, i64_w, i32_w]
     rfl
    refine one_ (i := 9) (N := some 37) #[true, true, true, true, true, true, true, true, true, true, false, false, false, false, false] rfl rfl (by kernel_rfl) (by decide) (fun K hK => ?_)
    go_simp
    go_at_call 81
    refine Calls.mono HI.out.drew.ident ?_
    rintro e_ wi ⟨he, h1⟩
    rw [← HQ.out] at he h1
    subst he
    have n0_ := Aside0.mk h1
    clear HI h1
    have HI := n0_
    clear n0_
    refine hK.out _ _ ⟨HI.out.c0, HI.out.c12⟩ (fun hHeld2 => ?_)
    clear hK K hHeld hHeld2
    try simp only [Act.put, List.setIfInBounds_toArray, List.set_cons_zero, List.set_cons_succ]
    refine one_ (i := 10) (N := some 38) #[true, true, true, true, true, true, true, true, true, true, true, false, false, false, false] rfl rfl (by kernel_rfl) (by decide) (fun K hK => ?_)
    go_simp
    refine hK.out _ _ ⟨(HI.out.alloc _).c0, (HI.out.alloc _).c12⟩ (fun hHeld3 => ?_)
    clear hK K
    try simp only [Act.put, List.setIfInBounds_toArray, List.set_cons_zero, List.set_cons_succ]
    refine one_ (i := 11) (N := some 39) #[true, true, true, true, true, true, true, true, true, true, true, true, false, false, false] rfl rfl (by kernel_rfl) (by decide) (fun K hK => ?_)
    refine Kd.R_append_step Kd.string (w0 := wi) (W := wi) w.heap.size rfl (.tmp 32) (.tmp 38) 38 9 (.string ⟨#[]⟩) 16 rfl Tryd.underlying38 info9 rfl (by decide) (by omega) (.slice A8 lc.length c8) lc q.1 [.string q.1] (fun k => some k ≠ ((.slice A9 lo.length c9) : Value).ownBlock) (fun _ => False) rfl rfl rfl (fun _ hk => hk.elim) ?aF1 HI.out.R1 (Below.refl _ _) HI.out.len ?aL1 ?_
    case aF1 => exact fun k hk => Kd.fresh' (Kd.R_lt HI.out.R2) k hk
    case aL1 => have h1 := HL.out.2; have h2 := HX.out.S.L; omega
    intro v1 w1 ho hb hg hat
    obtain ⟨ys, hys⟩ : ∃ ys, ys = lc ++ [q.1] := ⟨_, rfl⟩
    rw [← hys] at ho
    have HYS := Aside0.mk hys
    clear hys
    have HN := Aside0.mk (And.intro ho (And.intro hb (And.intro hg hat)))
    have hE := blk_grown HI.out.E hg (Kd.R_ne HI.out.R1 HI.out.E (by decide))
    have hP := blk_grown HI.out.P.1 hg (Kd.R_ne HI.out.R1 HI.out.P.1 (by decide))
    have hv1 := Kd.R_val ho
    obtain ⟨Av, cv, rfl⟩ := Kd.R_slice ho
    clear ho hb hg hat hHeld3
    refine hK.out _ _ ⟨blk_cell hP 0, blk_cell hE 12⟩ (fun hHeld4 => ?_)
    clear hK K hP
    simp only [Act.put, List.setIfInBounds_toArray, List.set_cons_zero, List.set_cons_succ]
    have ce : w1.cell? ⟨be, 12, none⟩ = some (.slice A8 lc.length c8) := blk_cell hE 12
    have fe : w1.frozen? ⟨be, 12, none⟩ = false := blk_frozen hE 12
    clear hE hHeld4
    refine pure_ (i := 12) (N := some 40) (v := ?_) (a' := ?_) #[true, true, true, true, true, true, true, true, true, true, true, true, true, false, false] rfl rfl (by kernel_rfl) (fun _ _ _ h => h) (Or.inl ⟨by rfl, ?_⟩) ?_ ?_
    rotate_left
    ·intro w'
     go_simp
     with_reducible rfl
    rotate_left
    ·simp only [Act.put, List.setIfInBounds_toArray, List.set_cons_zero, List.set_cons_succ, i64_w, i32_w]
     rfl
    refine pure_ (i := 13) (N := some 41) (v := ?_) (a' := ?_) #[true, true, true, true, true, true, true, true, true, true, true, true, true, true, false] rfl rfl (by kernel_rfl) (fun _ _ _ h => h) (Or.inl ⟨by rfl, ?_⟩) ?_ ?_
    rotate_left
    ·intro w'
     go_simp
     with_reducible rfl
    rotate_left
    ·simp only [Act.put, List.setIfInBounds_toArray, List.set_cons_zero, List.set_cons_succ, i64_w, i32_w]
     rfl
    refine last_ (i := 14) (N := none) #[true, true, true, true, true, true, true, true, true, true, true, true, true, true, true] rfl rfl (by kernel_rfl) (by decide) (fun K hK => ?_)
    go_simp
    refine hK.out _ _ ?_
    clear hK K
    refine done_ (by kernel_rfl) ?_
    have h6 := HI.out.app8 (id := q.1) (by rw [← HYS.out]; exact HN.out.1) HN.out.2.1 HN.out.2.2.1 HN.out.2.2.2
    generalize World.setCell _ _ _ = w6 at h6 ⊢
    have H6 := Aside0.mk h6
    clear h6 HI HN ce fe
    go_wp2_with fail
    go_roundg k1
    case measure => omega
    case rel =>
     have h1 := HCA.out.2.2.1
     have h2 := HQG.out
     have h4 := H6.out.S.L
     exact ⟨false, _, _, q.2, _, _, rfl, H6, HE, ⟨left_step HCA.out.1 HL.out.1 (by omega) h4, by have h3 := HL.out.2; simp; omega⟩⟩
   ·have n0_ := HE.out
    rw [if_neg (fun h => u0 h.1)] at n0_
    have HE := Aside0.mk n0_
    clear n0_
    have du : (u.1 == 0) = false := beq_eq_false_iff_ne.mpr u0
    go_wp2_with fail
    refine start_ (n := 15) (S := fun w' => w'.cell? ⟨gp, 0, none⟩ = some (.pointer (some ⟨g, 0, none⟩)) ∧ w'.cell? ⟨be, 13, none⟩ = some (.slice A9 lo.length c9)) (ds := [14]) #[false, false, false, false, false, false, false, false, false, false, false, false, false, false, false] (by kernel_rfl) rfl rfl ⟨HI.out.drew.c0, HI.out.drew.c13⟩ (fun hHeld => ?_)
    refine pure_ (i := 0) (N := some 42) (v := ?_) (a' := ?_) #[true, false, false, false, false, false, false, false, false, false, false, false, false, false, false] rfl rfl (by kernel_rfl) (fun _ _ _ h => h) (Or.inl ⟨by rfl, ?_⟩) ?_ ?_
    rotate_left
    ·intro w'
     go_simp
     with_reducible rfl
    rotate_left
    ·simp only [Act.put, List.setIfInBounds_toArray, List.set_cons_zero, List.set_cons_succ, i64_w, i32_w]
     rfl
    refine pure_ (i := 1) (N := some 43) (v := ?_) (a' := ?_) #[true, true, false, false, false, false, false, false, false, false, false, false, false, false, false] rfl rfl (by kernel_rfl) (fun _ _ _ h => h) (Or.inl ⟨by rfl, ?_⟩) ?_ ?_
    rotate_left
    ·intro w'
     go_simp
     with_reducible rfl
    rotate_left
    ·simp only [Act.put, List.setIfInBounds_toArray, List.set_cons_zero, List.set_cons_succ, i64_w, i32_w]
     rfl
    refine pure_ (i := 2) (N := some 44) (v := ?_) (a' := ?_) #[true, true, true, false, false, false, false, false, false, false, false, false, false, false, false] rfl rfl (by kernel_rfl) (fun _ _ _ h => h) (Or.inl ⟨by rfl, ?_⟩) ?_ ?_
    rotate_left
    ·intro w'
     go_simp
     with_reducible rfl
    rotate_left
    ·simp only [Act.put, List.setIfInBounds_toArray, List.set_cons_zero, List.set_cons_succ, i64_w, i32_w]
     rfl
    refine pure_ (i := 3) (N := some 45) (v := ?_) (a' := ?_) #[true, true, true, true, false, false, false, false, false, false, false, false, false, false, false] rfl rfl (by kernel_rfl) (fun _ _ _ h => h) (Or.inl ⟨by rfl, ?_⟩) ?_ ?_
    rotate_left
    ·intro w'
     go_simp
     with_reducible rfl
    rotate_left
    ·simp only [Act.put, List.setIfInBounds_toArray, List.set_cons_zero, List.set_cons_succ, i64_w, i32_w]
     rfl
    refine take_ (i := 4) (N := some 46) (v := ?_) (a' := ?_) #[true, true, true, true, true, false, false, false, false, false, false, false, false, false, false] rfl rfl (by kernel_rfl) (fun _ _ _ h => h) (Or.inl ⟨by rfl, ?_⟩) hHeld ?_ ?_
    rotate_left
    ·rintro w' ⟨s0, s1⟩
     go_simp
     with_reducible rfl
    rotate_left
    ·simp only [Act.put, List.setIfInBounds_toArray, List.set_cons_zero, List.set_cons_succ, i64_w, i32_w]
     rfl
    refine pure_ (i := 5) (N := some 47) (v := ?_) (a' := ?_) #[true, true, true, true, true, true, false, false, false, false, false, false, false, false, false] rfl rfl (by kernel_rfl) (fun _ _ _ h => h) (Or.inl ⟨by rfl, ?_⟩) ?_ ?_
    rotate_left
    ·intro w'
     go_simp
     with_reducible rfl
    rotate_left
    ·simp only [Act.put, List.setIfInBounds_toArray, List.set_cons_zero, List.set_cons_succ, i64_w, i32_w]
     rfl
    refine pure_ (i := 6) (N := some 48) (v := ?_) (a' := ?_) #[true, true, true, true, true, true, true, false, false, false, false, false, false, false, false] rfl rfl (by kernel_rfl) (fun _ _ _ h => h) (Or.inl ⟨by rfl, ?_⟩) ?_ ?_
    rotate_left
    ·intro w'
     go_simp
     with_reducible rfl
    rotate_left
    ·simp only [Act.put, List.setIfInBounds_toArray, List.set_cons_zero, List.set_cons_succ, i64_w, i32_w]
     rfl
    refine pure_ (i := 7) (N := some 49) (v := ?_) (a' := ?_) #[true, true, true, true, true, true, true, true, false, false, false, false, false, false, false] rfl rfl (by kernel_rfl) (fun _ _ _ h => h) (Or.inl ⟨by rfl, ?_⟩) ?_ ?_
    rotate_left
    ·intro w'
     go_simp
     with_reducible rfl
    rotate_left
    ·simp only [Act.put, List.setIfInBounds_toArray, List.set_cons_zero, List.set_cons_succ, i64_w, i32_w]
     rfl
    refine take_ (i := 8) (N := some 50) (v := ?_) (a' := ?_) #[true, true, true, true, true, true, true, true, true, false, false, false, false, false, false] rfl rfl (by kernel_rfl) (fun _ _ _ h => h) (Or.inl ⟨by rfl, ?_⟩) hHeld ?_ ?_
    rotate_left
    ·rintro w' ⟨s0, s1⟩
     go_simp
     with_reducible rfl
    rotate_left
    ·simp only [Act.put, List.setIfInBounds_toArray, List.set_cons_zero, List.set_cons_succ, i64_w, i32_w]
     rfl
    refine one_ (i := 9) (N := some 51) #[true, true, true, true, true, true, true, true, true, true, false, false, false, false, false] rfl rfl (by kernel_rfl) (by decide) (fun K hK => ?_)
    go_simp
    go_at_call 81
    refine Calls.mono HI.out.drew.ident ?_
    rintro e_ wi ⟨he, h1⟩
    rw [← HQ.out] at he h1
    subst he
    have n0_ := Aside0.mk h1
    clear HI h1
    have HI := n0_
    clear n0_
    refine hK.out _ _ ⟨HI.out.c0, HI.out.c13⟩ (fun hHeld2 => ?_)
    clear hK K hHeld hHeld2
    try simp only [Act.put, List.setIfInBounds_toArray, List.set_cons_zero, List.set_cons_succ]
    refine one_ (i := 10) (N := some 52) #[true, true, true, true, true, true, true, true, true, true, true, false, false, false, false] rfl rfl (by kernel_rfl) (by decide) (fun K hK => ?_)
    go_simp
    refine hK.out _ _ ⟨(HI.out.alloc _).c0, (HI.out.alloc _).c13⟩ (fun hHeld3 => ?_)
    clear hK K
    try simp only [Act.put, List.setIfInBounds_toArray, List.set_cons_zero, List.set_cons_succ]
    refine one_ (i := 11) (N := some 53) #[true, true, true, true, true, true, true, true, true, true, true, true, false, false, false] rfl rfl (by kernel_rfl) (by decide) (fun K hK => ?_)
    refine Kd.R_append_step Kd.string (w0 := wi) (W := wi) w.heap.size rfl (.tmp 46) (.tmp 52) 38 9 (.string ⟨#[]⟩) 16 rfl Tryd.underlying38 info9 rfl (by decide) (by omega) (.slice A9 lo.length c9) lo q.1 [.string q.1] (fun k => some k ≠ ((.slice A8 lc.length c8) : Value).ownBlock) (fun _ => False) rfl rfl rfl (fun _ hk => hk.elim) ?aF2 HI.out.R2 (Below.refl _ _) HI.out.len ?aL2 ?_
    case aF2 => exact fun k hk => Kd.fresh' (Kd.R_lt HI.out.R1) k hk
    case aL2 => have h1 := HL.out.2; have h2 := HX.out.S.L; omega
    intro v1 w1 ho hb hg hat
    obtain ⟨ys, hys⟩ : ∃ ys, ys = lo ++ [q.1] := ⟨_, rfl⟩
    rw [← hys] at ho
    have HYS := Aside0.mk hys
    clear hys
    have HN := Aside0.mk (And.intro ho (And.intro hb (And.intro hg hat)))
    have hE := blk_grown HI.out.E hg (Kd.R_ne HI.out.R2 HI.out.E (by decide))
    have hP := blk_grown HI.out.P.1 hg (Kd.R_ne HI.out.R2 HI.out.P.1 (by decide))
    have hv1 := Kd.R_val ho
    obtain ⟨Av, cv, rfl⟩ := Kd.R_slice ho
    clear ho hb hg hat hHeld3
    refine hK.out _ _ ⟨blk_cell hP 0, blk_cell hE 13⟩ (fun hHeld4 => ?_)
    clear hK K hP
    simp only [Act.put, List.setIfInBounds_toArray, List.set_cons_zero, List.set_cons_succ]
    have ce : w1.cell? ⟨be, 13, none⟩ = some (.slice A9 lo.length c9) := blk_cell hE 13
    have fe : w1.frozen? ⟨be, 13, none⟩ = false := blk_frozen hE 13
    clear hE hHeld4
    refine pure_ (i := 12) (N := some 54) (v := ?_) (a' := ?_) #[true, true, true, true, true, true, true, true, true, true, true, true, true, false, false] rfl rfl (by kernel_rfl) (fun _ _ _ h => h) (Or.inl ⟨by rfl, ?_⟩) ?_ ?_
    rotate_left
    ·intro w'
     go_simp
     with_reducible rfl
    rotate_left
    ·simp only [Act.put, List.setIfInBounds_toArray, List.set_cons_zero, List.set_cons_succ, i64_w, i32_w]
     rfl
    refine pure_ (i := 13) (N := some 55) (v := ?_) (a' := ?_) #[true, true, true, true, true, true, true, true, true, true, true, true, true, true, false] rfl rfl (by kernel_rfl) (fun _ _ _ h => h) (Or.inl ⟨by rfl, ?_⟩) ?_ ?_
    rotate_left
    ·intro w'
     go_simp
     with_reducible rfl
    rotate_left
    ·simp only [Act.put, List.setIfInBounds_toArray, List.set_cons_zero, List.set_cons_succ, i64_w, i32_w]
     rfl
    refine last_ (i := 14) (N := none) #[true, true, true, true, true, true, true, true, true, true, true, true, true, true, true] rfl rfl (by kernel_rfl) (by decide) (fun K hK => ?_)
    go_simp
    refine hK.out _ _ ?_
    clear hK K
    refine done_ (by kernel_rfl) ?_
    have h6 := HI.out.app9 (id := q.1) (by rw [← HYS.out]; exact HN.out.1) HN.out.2.1 HN.out.2.2.1 HN.out.2.2.2
    generalize World.setCell _ _ _ = w6 at h6 ⊢
    have H6 := Aside0.mk h6
    clear h6 HI HN ce fe
    go_wp2_with fail
    go_roundg k1
    case measure => omega
    case rel =>
     have h1 := HCA.out.2.2.1
     have h2 := HQG.out
     have h4 := H6.out.S.L
     exact ⟨true, _, _, q.2, _, _, rfl, H6, HE, ⟨left_step HCA.out.1 HL.out.1 (by omega) h4, by have h3 := HL.out.2; simp; omega⟩⟩
  | true =>
   obtain ⟨u, hu⟩ : ∃ u, u = scW s (wOut true) rx := ⟨_, rfl⟩
   have hug := scW_ge s (wOut true) rx
   rw [← hu] at hug
   obtain ⟨q, hq⟩ : ∃ q, q = scI s u.2 := ⟨_, rfl⟩
   have hqg := scI_ge s u.2
   rw [← hq] at hqg
   have HQG := Aside0.mk (show rx.1 ≤ q.2.1 from Nat.le_trans hug hqg)
   have n0_ := HE.out
   rw [← hu, ← hq] at n0_
   clear HE hug hqg
   have HE := Aside0.mk n0_
   have HQ := Aside0.mk hq
   clear n0_ hq
   have n0_ := HE.out
   rw [if_neg (fun h => absurd h.2 (by decide))] at n0_
   have HE := Aside0.mk n0_
   clear n0_
   have HWo := Aside0.mk (HI.out.outs (b := w7.heap.size) rfl 1)
   rw [← hu] at HWo
   have hc1 : (w7.alloc (.cells #[.string ⟨#[32]⟩, .string ⟨#[111, 117, 116, 32]⟩] 9)).cell? ⟨gp, 0, none⟩ = some (.pointer (some ⟨g, 0, none⟩)) := (HI.out.alloc _).c0
   clear hu
   go_wp2_with fail
   refine Calls.mono HWo.out ?_
   rintro e_ w8 ⟨rfl, h8⟩
   have n0_ := Aside0.mk h8
   clear HI HWo h8 hc0 hc1
   have HI := n0_
   clear n0_
   by_cases u0 : u.1 = 0
   ·have du : (u.1 == 0) = true := by rw [u0]; rfl
    go_wp2_with fail
    refine start_ (n := 15) (S := fun w' => w'.cell? ⟨gp, 0, none⟩ = some (.pointer (some ⟨g, 0, none⟩)) ∧ w'.cell? ⟨be, 13, none⟩ = some (.slice A9 lo.length c9)) (ds := [14]) #[false, false, false, false, false, false, false, false, false, false, false, false, false, false, false] (by kernel_rfl) rfl rfl ⟨HI.out.drew.c0, HI.out.drew.c13⟩ (fun hHeld => ?_)
    refine pure_ (i := 0) (N := some 42) (v := ?_) (a' := ?_) #[true, false, false, false, false, false, false, false, false, false, false, false, false, false, false] rfl rfl (by kernel_rfl) (fun _ _ _ h => h) (Or.inl ⟨by rfl, ?_⟩) ?_ ?_
    rotate_left
    ·intro w'
     go_simp
     with_reducible rfl
    rotate_left
    ·simp only [Act.put, List.setIfInBounds_toArray, List.set_cons_zero, List.set_cons_succ, i64_w, i32_w]
     rfl
    refine pure_ (i := 1) (N := some 43) (v := ?_) (a' := ?_) #[true, true, false, false, false, false, false, false, false, false, false, false, false, false, false] rfl rfl (by kernel_rfl) (fun _ _ _ h => h) (Or.inl ⟨by rfl, ?_⟩) ?_ ?_
    rotate_left
    ·intro w'
     go_simp
     with_reducible rfl
    rotate_left
    ·simp only [Act.put, List.setIfInBounds_toArray, List.set_cons_zero, List.set_cons_succ, i64_w, i32_w]
     rfl
    refine pure_ (i := 2) (N := some 44) (v := ?_) (a' := ?_) #[true, true, true, false, false, false, false, false, false, false, false, false, false, false, false] rfl rfl (by kernel_rfl) (fun _ _ _ h => h) (Or.inl ⟨by rfl, ?_⟩) ?_ ?_
    rotate_left
    ·intro w'
     go_simp
     with_reducible rfl
    rotate_left
    ·simp only [Act.put, List.setIfInBounds_toArray, List.set_cons_zero, List.set_cons_succ, i64_w, i32_w]
     rfl
    refine pure_ (i := 3) (N := some 45) (v := ?_) (a' := ?_) #[true, true, true, true, false, false, false, false, false, false, false, false, false, false, false] rfl rfl (by kernel_rfl) (fun _ _ _ h => h) (Or.inl ⟨by rfl, ?_⟩) ?_ ?_
    rotate_left
    ·intro w'
     go_simp
     with_reducible rfl
    rotate_left
    ·simp only [Act.put, List.setIfInBounds_toArray, List.set_cons_zero, List.set_cons_succ, i64_w, i32_w]
     rfl
    refine take_ (i := 4) (N := some 46) (v := ?_) (a' := ?_) #[true, true, true, true, true, false, false, false, false, false, false, false, false, false, false] rfl rfl (by kernel_rfl) (fun _ _ _ h => h) (Or.inl ⟨by rfl, ?_⟩) hHeld ?_ ?_
    rotate_left
    ·rintro w' ⟨s0, s1⟩
     go_simp
     with_reducible rfl
    rotate_left
    ·simp only [Act.put, List.setIfInBounds_toArray, List.set_cons_zero, List.set_cons_succ, i64_w, i32_w]
     rfl
    refine pure_ (i := 5) (N := some 47) (v := ?_) (a' := ?_) #[true, true, true, true, true, true, false, false, false, false, false, false, false, false, false] rfl rfl (by kernel_rfl) (fun _ _ _ h => h) (Or.inl ⟨by rfl, ?_⟩) ?_ ?_
    rotate_left
    ·intro w'
     go_simp
     with_reducible rfl
    rotate_left
    ·simp only [Act.put, List.setIfInBounds_toArray, List.set_cons_zero, List.set_cons_succ, i64_w, i32_w]
     rfl
    refine pure_ (i := 6) (N := some 48) (v := ?_) (a' := ?_) #[true, true, true, true, true, true, true, false, false, false, false, false, false, false, false] rfl rfl (by kernel_rfl) (fun _ _ _ h => h) (Or.inl ⟨by rfl, ?_⟩) ?_ ?_
    rotate_left
    ·intro w'
     go_simp
     with_reducible rfl
    rotate_left
    ·simp only [Act.put, List.setIfInBounds_toArray, List.set_cons_zero, List.set_cons_succ, i64_w, i32_w]
     rfl
    refine pure_ (i := 7) (N := some 49) (v := ?_) (a' := ?_) #[true, true, true, true, true, true, true, true, false, false, false, false, false, false, false] rfl rfl (by kernel_rfl) (fun _ _ _ h => h) (Or.inl ⟨by rfl, ?_⟩) ?_ ?_
    rotate_left
    ·intro w'
     go_simp
     with_reducible rfl
    rotate_left
    ·simp only [Act.put, List.setIfInBounds_toArray, List.set_cons_zero, List.set_cons_succ, i64_w, i32_w]
     rfl
    refine take_ (i := 8) (N := some 50) (v := ?_) (a' := ?_) #[true, true, true, true, true, true, true, true, true, false, false, false, false, false, false] rfl rfl (by kernel_rfl) (fun _ _ _ h => h) (Or.inl ⟨by rfl, ?_⟩) hHeld ?_ ?_
    rotate_left
    ·rintro w' ⟨s0, s1⟩
     go_simp
     with_reducible rfl
    rotate_left
    ·simp only [Act.put, List.setIfInBounds_toArray, List.set_cons_zero, List.set_cons_succ, i64_w, i32_w]
     rfl
    refine one_ (i := 9) (N := some 51) #[true, true, true, true, true, true, true, true, true, true, false, false, false, false, false] rfl rfl (by kernel_rfl) (by decide) (fun K hK => ?_)
    go_simp
    go_at_call 81
    refine Calls.mono HI.out.drew.ident ?_
    rintro e_ wi ⟨he, h1⟩
    rw [← HQ.out] at he h1
    subst he
    have n0_ := Aside0.mk h1
    clear HI h1
    have HI := n0_
    clear n0_
    refine hK.out _ _ ⟨HI.out.c0, HI.out.c13⟩ (fun hHeld2 => ?_)
    clear hK K hHeld hHeld2
    try simp only [Act.put, List.setIfInBounds_toArray, List.set_cons_zero, List.set_cons_succ]
    refine one_ (i := 10) (N := some 52) #[true, true, true, true, true, true, true, true, true, true, true, false, false, false, false] rfl rfl (by kernel_rfl) (by decide) (fun K hK => ?_)
    go_simp
    refine hK.out _ _ ⟨(HI.out.alloc _).c0, (HI.out.alloc _).c13⟩ (fun hHeld3 => ?_)
    clear hK K
    try simp only [Act.put, List.setIfInBounds_toArray, List.set_cons_zero, List.set_cons_succ]
    refine one_ (i := 11) (N := some 53) #[true, true, true, true, true, true, true, true, true, true, true, true, false, false, false] rfl rfl (by kernel_rfl) (by decide) (fun K hK => ?_)
    refine Kd.R_append_step Kd.string (w0 := wi) (W := wi) w.heap.size rfl (.tmp 46) (.tmp 52) 38 9 (.string ⟨#[]⟩) 16 rfl Tryd.underlying38 info9 rfl (by decide) (by omega) (.slice A9 lo.length c9) lo q.1 [.string q.1] (fun k => some k ≠ ((.slice A8 lc.length c8) : Value).ownBlock) (fun _ => False) rfl rfl rfl (fun _ hk => hk.elim) ?aF3 HI.out.R2 (Below.refl _ _) HI.out.len ?aL3 ?_
    case aF3 => exact fun k hk => Kd.fresh' (Kd.R_lt HI.out.R1) k hk
    case aL3 => have h1 := HL.out.2; have h2 := HX.out.S.L; omega
    intro v1 w1 ho hb hg hat
    obtain ⟨ys, hys⟩ : ∃ ys, ys = lo ++ [q.1] := ⟨_, rfl⟩
    rw [← hys] at ho
    have HYS := Aside0.mk hys
    clear hys
    have HN := Aside0.mk (And.intro ho (And.intro hb (And.intro hg hat)))
    have hE := blk_grown HI.out.E hg (Kd.R_ne HI.out.R2 HI.out.E (by decide))
    have hP := blk_grown HI.out.P.1 hg (Kd.R_ne HI.out.R2 HI.out.P.1 (by decide))
    have hv1 := Kd.R_val ho
    obtain ⟨Av, cv, rfl⟩ := Kd.R_slice ho
    clear ho hb hg hat hHeld3
    refine hK.out _ _ ⟨blk_cell hP 0, blk_cell hE 13⟩ (fun hHeld4 => ?_)
    clear hK K hP
    simp only [Act.put, List.setIfInBounds_toArray, List.set_cons_zero, List.set_cons_succ]
    have ce : w1.cell? ⟨be, 13, none⟩ = some (.slice A9 lo.length c9) := blk_cell hE 13
    have fe : w1.frozen? ⟨be, 13, none⟩ = false := blk_frozen hE 13
    clear hE hHeld4
    refine pure_ (i := 12) (N := some 54) (v := ?_) (a' := ?_) #[true, true, true, true, true, true, true, true, true, true, true, true, true, false, false] rfl rfl (by kernel_rfl) (fun _ _ _ h => h) (Or.inl ⟨by rfl, ?_⟩) ?_ ?_
    rotate_left
    ·intro w'
     go_simp
     with_reducible rfl
    rotate_left
    ·simp only [Act.put, List.setIfInBounds_toArray, List.set_cons_zero, List.set_cons_succ, i64_w, i32_w]
     rfl
    refine pure_ (i := 13) (N := some 55) (v := ?_) (a' := ?_) #[true, true, true, true, true, true, true, true, true, true, true, true, true, true, false] rfl rfl (by kernel_rfl) (fun _ _ _ h => h) (Or.inl ⟨by rfl, ?_⟩) ?_ ?_
    rotate_left
    ·intro w'
     go_simp
     with_reducible rfl
    rotate_left
    ·simp only [Act.put, List.setIfInBounds_toArray, List.set_cons_zero, List.set_cons_succ, i64_w, i32_w]
     rfl
    refine last_ (i := 14) (N := none) #[true, true, true, true, true, true, true, true, true, true, true, true, true, true, true] rfl rfl (by kernel_rfl) (by decide) (fun K hK => ?_)
    go_simp
    refine hK.out _ _ ?_
    clear hK K
    refine done_ (by kernel_rfl) ?_
    have h6 := HI.out.app9 (id := q.1) (by rw [← HYS.out]; exact HN.out.1) HN.out.2.1 HN.out.2.2.1 HN.out.2.2.2
    generalize World.setCell _ _ _ = w6 at h6 ⊢
    have H6 := Aside0.mk h6
    clear h6 HI HN ce fe
    go_wp2_with fail
    go_roundg k1
    case measure => omega
    case rel =>
     have h1 := HCA.out.2.2.1
     have h2 := HQG.out
     have h4 := H6.out.S.L
     exact ⟨true, _, _, q.2, _, _, rfl, H6, HE, ⟨left_step HCA.out.1 HL.out.1 (by omega) h4, by have h3 := HL.out.2; simp; omega⟩⟩
   ·have du : (u.1 == 0) = false := beq_eq_false_iff_ne.mpr u0
    go_wp2_with fail
    refine start_ (n := 15) (S := fun w' => w'.cell? ⟨gp, 0, none⟩ = some (.pointer (some ⟨g, 0, none⟩)) ∧ w'.cell? ⟨be, 13, none⟩ = some (.slice A9 lo.length c9)) (ds := [14]) #[false, false, false, false, false, false, false, false, false, false, false, false, false, false, false] (by kernel_rfl) rfl rfl ⟨HI.out.drew.c0, HI.out.drew.c13⟩ (fun hHeld => ?_)
    refine pure_ (i := 0) (N := some 42) (v := ?_) (a' := ?_) #[true, false, false, false, false, false, false, false, false, false, false, false, false, false, false] rfl rfl (by kernel_rfl) (fun _ _ _ h => h) (Or.inl ⟨by rfl, ?_⟩) ?_ ?_
    rotate_left
    ·intro w'
     go_simp
     with_reducible rfl
    rotate_left
    ·simp only [Act.put, List.setIfInBounds_toArray, List.set_cons_zero, List.set_cons_succ, i64_w, i32_w]
     rfl
    refine pure_ (i := 1) (N := some 43) (v := ?_) (a' := ?_) #[true, true, false, false, false, false, false, false, false, false, false, false, false, false, false] rfl rfl (by kernel_rfl) (fun _ _ _ h => h) (Or.inl ⟨by rfl, ?_⟩) ?_ ?_
    rotate_left
    ·intro w'
     go_simp
     with_reducible rfl
    rotate_left
    ·simp only [Act.put, List.setIfInBounds_toArray, List.set_cons_zero, List.set_cons_succ, i64_w, i32_w]
     rfl
    refine pure_ (i := 2) (N := some 44) (v := ?_) (a' := ?_) #[true, true, true, false, false, false, false, false, false, false, false, false, false, false, false] rfl rfl (by kernel_rfl) (fun _ _ _ h => h) (Or.inl ⟨by rfl, ?_⟩) ?_ ?_
    rotate_left
    ·intro w'
     go_simp
     with_reducible rfl
    rotate_left
    ·simp only [Act.put, List.setIfInBounds_toArray, List.set_cons_zero, List.set_cons_succ, i64_w, i32_w]
     rfl
    refine pure_ (i := 3) (N := some 45) (v := ?_) (a' := ?_) #[true, true, true, true, false, false, false, false, false, false, false, false, false, false, false] rfl rfl (by kernel_rfl) (fun _ _ _ h => h) (Or.inl ⟨by rfl, ?_⟩) ?_ ?_
    rotate_left
    ·intro w'
     go_simp
     with_reducible rfl
    rotate_left
    ·simp only [Act.put, List.setIfInBounds_toArray, List.set_cons_zero, List.set_cons_succ, i64_w, i32_w]
     rfl
    refine take_ (i := 4) (N := some 46) (v := ?_) (a' := ?_) #[true, true, true, true, true, false, false, false, false, false, false, false, false, false, false] rfl rfl (by kernel_rfl) (fun _ _ _ h => h) (Or.inl ⟨by rfl, ?_⟩) hHeld ?_ ?_
    rotate_left
    ·rintro w' ⟨s0, s1⟩
     go_simp
     with_reducible rfl
    rotate_left
    ·simp only [Act.put, List.setIfInBounds_toArray, List.set_cons_zero, List.set_cons_succ, i64_w, i32_w]
     rfl
    refine pure_ (i := 5) (N := some 47) (v := ?_) (a' := ?_) #[true, true, true, true, true, true, false, false, false, false, false, false, false, false, false] rfl rfl (by kernel_rfl) (fun _ _ _ h => h) (Or.inl ⟨by rfl, ?_⟩) ?_ ?_
    rotate_left
    ·intro w'
     go_simp
     with_reducible rfl
    rotate_left
    ·simp only [Act.put, List.setIfInBounds_toArray, List.set_cons_zero, List.set_cons_succ, i64_w, i32_w]
     rfl
    refine pure_ (i := 6) (N := some 48) (v := ?_) (a' := ?_) #[true, true, true, true, true, true, true, false, false, false, false, false, false, false, false] rfl rfl (by kernel_rfl) (fun _ _ _ h => h) (Or.inl ⟨by rfl, ?_⟩) ?_ ?_
    rotate_left
    ·intro w'
     go_simp
     with_reducible rfl
    rotate_left
    ·simp only [Act.put, List.setIfInBounds_toArray, List.set_cons_zero, List.set_cons_succ, i64_w, i32_w]
     rfl
    refine pure_ (i := 7) (N := some 49) (v := ?_) (a' := ?_) #[true, true, true, true, true, true, true, true, false, false, false, false, false, false, false] rfl rfl (by kernel_rfl) (fun _ _ _ h => h) (Or.inl ⟨by rfl, ?_⟩) ?_ ?_
    rotate_left
    ·intro w'
     go_simp
     with_reducible rfl
    rotate_left
    ·simp only [Act.put, List.setIfInBounds_toArray, List.set_cons_zero, List.set_cons_succ, i64_w, i32_w]
     rfl
    refine take_ (i := 8) (N := some 50) (v := ?_) (a' := ?_) #[true, true, true, true, true, true, true, true, true, false, false, false, false, false, false] rfl rfl (by kernel_rfl) (fun _ _ _ h => h) (Or.inl ⟨by rfl, ?_⟩) hHeld ?_ ?_
    rotate_left
    ·rintro w' ⟨s0, s1⟩
     go_simp
     with_reducible rfl
    rotate_left
    ·simp only [Act.put, List.setIfInBounds_toArray, List.set_cons_zero, List.set_cons_succ, i64_w, i32_w]
     rfl
    refine one_ (i := 9) (N := some 51) #[true, true, true, true, true, true, true, true, true, true, false, false, false, false, false] rfl rfl (by kernel_rfl) (by decide) (fun K hK => ?_)
    go_simp
    go_at_call 81
    refine Calls.mono HI.out.drew.ident ?_
    rintro e_ wi ⟨he, h1⟩
    rw [← HQ.out] at he h1
    subst he
    have n0_ := Aside0.mk h1
    clear HI h1
    have HI := n0_
    clear n0_
    refine hK.out _ _ ⟨HI.out.c0, HI.out.c13⟩ (fun hHeld2 => ?_)
    clear hK K hHeld hHeld2
    try simp only [Act.put, List.setIfInBounds_toArray, List.set_cons_zero, List.set_cons_succ]
    refine one_ (i := 10) (N := some 52) #[true, true, true, true, true, true, true, true, true, true, true, false, false, false, false] rfl rfl (by kernel_rfl) (by decide) (fun K hK => ?_)
    go_simp
    refine hK.out _ _ ⟨(HI.out.alloc _).c0, (HI.out.alloc _).c13⟩ (fun hHeld3 => ?_)
    clear hK K
    try simp only [Act.put, List.setIfInBounds_toArray, List.set_cons_zero, List.set_cons_succ]
    refine one_ (i := 11) (N := some 53) #[true, true, true, true, true, true, true, true, true, true, true, true, false, false, false] rfl rfl (by kernel_rfl) (by decide) (fun K hK => ?_)
    refine Kd.R_append_step Kd.string (w0 := wi) (W := wi) w.heap.size rfl (.tmp 46) (.tmp 52) 38 9 (.string ⟨#[]⟩) 16 rfl Tryd.underlying38 info9 rfl (by decide) (by omega) (.slice A9 lo.length c9) lo q.1 [.string q.1] (fun k => some k ≠ ((.slice A8 lc.length c8) : Value).ownBlock) (fun _ => False) rfl rfl rfl (fun _ hk => hk.elim) ?aF4 HI.out.R2 (Below.refl _ _) HI.out.len ?aL4 ?_
    case aF4 => exact fun k hk => Kd.fresh' (Kd.R_lt HI.out.R1) k hk
    case aL4 => have h1 := HL.out.2; have h2 := HX.out.S.L; omega
    intro v1 w1 ho hb hg hat
    obtain ⟨ys, hys⟩ : ∃ ys, ys = lo ++ [q.1] := ⟨_, rfl⟩
    rw [← hys] at ho
    have HYS := Aside0.mk hys
    clear hys
    have HN := Aside0.mk (And.intro ho (And.intro hb (And.intro hg hat)))
    have hE := blk_grown HI.out.E hg (Kd.R_ne HI.out.R2 HI.out.E (by decide))
    have hP := blk_grown HI.out.P.1 hg (Kd.R_ne HI.out.R2 HI.out.P.1 (by decide))
    have hv1 := Kd.R_val ho
    obtain ⟨Av, cv, rfl⟩ := Kd.R_slice ho
    clear ho hb hg hat hHeld3
    refine hK.out _ _ ⟨blk_cell hP 0, blk_cell hE 13⟩ (fun hHeld4 => ?_)
    clear hK K hP
    simp only [Act.put, List.setIfInBounds_toArray, List.set_cons_zero, List.set_cons_succ]
    have ce : w1.cell? ⟨be, 13, none⟩ = some (.slice A9 lo.length c9) := blk_cell hE 13
    have fe : w1.frozen? ⟨be, 13, none⟩ = false := blk_frozen hE 13
    clear hE hHeld4
    refine pure_ (i := 12) (N := some 54) (v := ?_) (a' := ?_) #[true, true, true, true, true, true, true, true, true, true, true, true, true, false, false] rfl rfl (by kernel_rfl) (fun _ _ _ h => h) (Or.inl ⟨by rfl, ?_⟩) ?_ ?_
    rotate_left
    ·intro w'
     go_simp
     with_reducible rfl
    rotate_left
    ·simp only [Act.put, List.setIfInBounds_toArray, List.set_cons_zero, List.set_cons_succ, i64_w, i32_w]
     rfl
    refine pure_ (i := 13) (N := some 55) (v := ?_) (a' := ?_) #[true, true, true, true, true, true, true, true, true, true, true, true, true, true, false] rfl rfl (by kernel_rfl) (fun _ _ _ h => h) (Or.inl ⟨by rfl, ?_⟩) ?_ ?_
    rotate_left
    ·intro w'
     go_simp
     with_reducible rfl
    rotate_left
    ·simp only [Act.put, List.setIfInBounds_toArray, List.set_cons_zero, List.set_cons_succ, i64_w, i32_w]
     rfl
    refine last_ (i := 14) (N := none) #[true, true, true, true, true, true, true, true, true, true, true, true, true, true, true] rfl rfl (by kernel_rfl) (by decide) (fun K hK => ?_)
    go_simp
    refine hK.out _ _ ?_
    clear hK K
    refine done_ (by kernel_rfl) ?_
    have h6 := HI.out.app9 (id := q.1) (by rw [← HYS.out]; exact HN.out.1) HN.out.2.1 HN.out.2.2.1 HN.out.2.2.2
    generalize World.setCell _ _ _ = w6 at h6 ⊢
    have H6 := Aside0.mk h6
    clear h6 HI HN ce fe
    go_wp2_with fail
    go_roundg k1
    case measure => omega
    case rel =>
     have h1 := HCA.out.2.2.1
     have h2 := HQG.out
     have h4 := H6.out.S.L
     exact ⟨true, _, _, q.2, _, _, rfl, H6, HE, ⟨left_step HCA.out.1 HL.out.1 (by omega) h4, by have h3 := HL.out.2; simp; omega⟩⟩
 ·have hF := HE.out
  rw [tlL_end s gk om lc lo x' (by rw [← hr]; exact r1) HL.out.1, ← hr] at hF
  subst hF
  clear HE hr
  have d1 : (r.1 == 1) = false := beq_eq_false_iff_ne.mpr r1
  go_wp2_with fail
  refine Calls.mono HWd.out ?_
  rintro e_ w7 ⟨rfl, h7⟩
  have H7 := Aside0.mk h7
  clear HI HWd h7 hc0
  go_wp2_with fail
  go_end0
  exact ⟨rfl, _, _, H7.out⟩
end Go.Proofs.YtlchefonlfokgaaDoor.Q
end
section
namespace Go.Proofs.YtlchefonlfokgaaDoor.Q
open Go.RowKit Go.Proofs.YtlchefonlfokgaaDoorW.PrintWords Go.Proofs.YtlchefonlfokgaaDoorW.PrintLast Go.Proofs.YtlchefonlfokgaaDoorW.PrintMore
set_option maxRecDepth 100000
def wFrom : List ByteArray := [⟨#[32, 102, 114, 111, 109]⟩]
def pcM (s : ByteArray) (y : Int) (p : S40 × Sc) : S40 × Sc :=
 if p.1.f4 = 3 then (⟨p.1.f0, p.1.f1, p.1.f2, p.1.f3, p.1.f4, p.1.f5, p.1.f6, (pcD s y (scW s wFrom p.2).2).1, p.1.f8, p.1.f9⟩, (pcD s y (scW s wFrom p.2).2).2) else p
def pcE (s : ByteArray) (y : Int) (x : Sc) : S40 × Sc :=
 (⟨(pcM s y (enF s y x 7)).1.f0, (pcM s y (enF s y x 7)).1.f1, (pcM s y (enF s y x 7)).1.f2, (pcM s y (enF s y x 7)).1.f3, (pcM s y (enF s y x 7)).1.f4, (pcM s y (enF s y x 7)).1.f5, (pcM s y (enF s y x 7)).1.f6, (pcM s y (enF s y x 7)).1.f7,
  (tlL s (s.size + 2) false [] [] (pcM s y (enF s y x 7)).2).1, (tlL s (s.size + 2) false [] [] (pcM s y (enF s y x 7)).2).2.1⟩, (tlL s (s.size + 2) false [] [] (pcM s y (enF s y x 7)).2).2.2)
def setL (b : Nat) : World → Nat → List Value → World
 | W, _, [] => W
 | W, i, v :: l => setL b (W.setCell ⟨b, i, none⟩ v) (i + 1) l
theorem setL_size (b : Nat) : ∀ (l : List Value) (W : World) (i : Nat), (setL b W i l).heap.size = W.heap.size
 | [], _, _ => rfl
 | v :: l, W, i => by rw [setL, setL_size b l]; simp [World.setCell]
theorem setL_far (b : Nat) : ∀ (l : List Value) (W : World) (i k : Nat), k ≠ b → (setL b W i l).heap[k]? = W.heap[k]?
 | [], _, _, _, _ => rfl
 | v :: l, W, i, k, hk => by rw [setL, setL_far b l _ _ k hk]; exact Below.heap_setCell _ ⟨b, i, none⟩ _ k hk
theorem setL_below {w0 : World} (b : Nat) : ∀ (l : List Value) (W : World) (i : Nat), Below w0.heap.size w0 W → w0.heap.size ≤ b → Below w0.heap.size w0 (setL b W i l)
 | [], _, _, h, _ => h
 | v :: l, W, i, h, hb => setL_below b l _ _ (below_set h hb) hb
def putL : Array Value → Nat → List Value → Array Value
 | c, _, [] => c
 | c, i, v :: l => putL (c.setIfInBounds i v) (i + 1) l
theorem setL_blk (b : Nat) (t : TypeId) : ∀ (l : List Value) (W : World) (i : Nat) (cs : Array Value), W.heap[b]? = some (.cells cs t (0, 0)) → (setL b W i l).heap[b]? = some (.cells (putL cs i l) t (0, 0))
 | [], _, _, _, h => h
 | v :: l, W, i, cs, h => setL_blk b t l _ _ _ (blk_set h i v)
abbrev eL (e : S40) (v8 v9 : Value) : List Value := [.int .i64 e.f0.f0, .int .i64 e.f0.f1, .int .i64 e.f0.f2, .int .i64 e.f1, .string e.f2, .int .i64 e.f3, .int .i64 e.f4, .string e.f5, .int .i64 e.f6, .int .i64 e.f7.f0, .int .i64 e.f7.f1, .int .i64 e.f7.f2, v8, v9]
theorem put_e (e : S40) (v8 v9 : Value) : putL (eC z40 nil_ nil_) 0 (eL e v8 v9) = eC e v8 v9 := by
 simp [putL, eC, eL]
theorem TI.fin {w0 w W1 w5 : World} {g gp_ N : Nat} {y : Int} {s : ByteArray} {x xm : Sc} {e : S40} {v8 v9 : Value} {lc lo : List ByteArray} {em : S40} (h : TI w0 W1 w5 g gp_ (N + 2) y s x e v8 v9 lc lo) (hg : PF w0 w W1 g s xm (bsE gp_ N em)) (hw : w0.heap.size ≤ w.heap.size) (hN : N = w.heap.size) :
  (setL (N + 1) w5 0 (eL e v8 v9)).heap[N + 1]? = some (.cells (eC e v8 v9) 40 (0, 0)) ∧ Kd.R Kd.string 9 (setL (N + 1) w5 0 (eL e v8 v9)) w.heap.size (fun k => some k ≠ v9.ownBlock) v8 lc ∧ Kd.R Kd.string 9 (setL (N + 1) w5 0 (eL e v8 v9)) w.heap.size (fun k => some k ≠ v8.ownBlock) v9 lo ∧ SP w0 (setL (N + 1) w5 0 (eL e v8 v9)) g s x ∧ KeepBut w (setL (N + 1) w5 0 (eL e v8 v9)) g none := by
 have hb1 := hg.has (List.Mem.tail _ (List.Mem.head _))
 have hne := (hg.N _ (List.Mem.tail _ (List.Mem.head _))).1
 have hb2 : w5.heap[N + 1]? = some (.cells (eC z40 nil_ nil_) 40 (0, 0)) := h.K.blk hb1 hne (by simp)
 have hsz := hg.K.1
 refine ⟨(setL_blk (N + 1) _ (eL e v8 v9) w5 0 _ hb2).trans (by rw [put_e]), ?_, ?_, ⟨⟨(setL_far _ _ _ _ g (fun e => hne e.symm)).trans h.S.I.1, h.S.I.2⟩, setL_below _ _ _ _ h.S.B (by omega), h.S.L, h.S.Z⟩, ⟨by rw [setL_size]; exact Nat.le_trans hsz h.K.1, fun i hi hig hr => ?_⟩⟩
 ·exact Kd.R_lower (Kd.R_mono (Kd.R_step (Kd.R_types h.R1 hb2 (by decide)) (fun k hk _ => setL_far _ _ _ _ k hk.2)) (fun _ hk => hk.1)) hsz
 ·exact Kd.R_lower (Kd.R_mono (Kd.R_step (Kd.R_types h.R2 hb2 (by decide)) (fun k hk _ => setL_far _ _ _ _ k hk.2)) (fun _ hk => hk.1)) hsz
 ·rw [setL_far _ _ _ _ i (by omega), h.K.2 i (Nat.lt_of_lt_of_le hi hsz) hig (fun e => by injection e with e; omega)]
  exact hg.K.2 i hi hig hr
theorem p_entry (w0 w : World) (g gp : Nat) (y : Int) (s : ByteArray) (x : Sc) (h : SP w0 w g s x) (hp : PBx w g gp y) (hT : Tabs w0) (hs9 : s.size ≤ 1000000000) (R : S40 × Sc) (hR : pcE s y x = R) :
  Calls Tryd.prog 22 #[.pointer (some ⟨gp, 0, none⟩)] w fun e_ w' => ∃ u8 u9, e_ = .returned (.agg (eC R.1 u8 u9)) ∧ Kd.R Kd.string 9 w' w.heap.size (fun k => some k ≠ u9.ownBlock) u8 R.1.f8 ∧ Kd.R Kd.string 9 w' w.heap.size (fun k => some k ≠ u8.ownBlock) u9 R.1.f9 ∧ SP w0 w' g s R.2 ∧ KeepBut w w' g none := by
 have hu40 := Tryd.underlying40
 obtain ⟨N, hN⟩ : ∃ N, N = w.heap.size := ⟨_, rfl⟩
 obtain ⟨W, hW⟩ : ∃ W, W = (((w.alloc (.cells #[.pointer (some ⟨gp, 0, none⟩)] 44)).alloc (.cells (eC z40 nil_ nil_) 40)).alloc (.cells (eC z40 nil_ nil_) 40)).alloc (fnBlk N) := ⟨_, rfl⟩
 have hF : PF w0 w W g s x (bsE gp N z40) := by
  rw [hW]
  exact ((((PF.start h).make hN.symm (.cells #[.pointer (some ⟨gp, 0, none⟩)] 44)).make (b := N + 1) (by rw [World.size_alloc, hN]) (.cells (eC z40 nil_ nil_) 40)).make (b := N + 2) (by rw [World.size_alloc, World.size_alloc, hN]) (.cells (eC z40 nil_ nil_) 40)).make (b := N + 3) (by rw [World.size_alloc, World.size_alloc, World.size_alloc, hN]) (fnBlk N)
 have hmf : ∀ (fn : Fn) (first cap : Array Value) (w : World), (Instr.makeFunc fn first cap).run Tryd.prog w = .ok (.func fn first cap) w := fun _ _ _ _ => rfl
 have HP := Aside0.mk hp
 have HT := Aside0.mk hT
 have H0 := Aside0.mk h.B.size
 have HN := Aside0.mk hN
 have HW := Aside0.mk hW
 have HF := Aside0.mk hF
 have HR := Aside0.mk hR
 clear h hp hT hN hF hR
 go_enter Tryd.func22, Tryd.ntmps22
 go_wp2_with fail
 rw [← HN.out]
 generalize hWW : World.alloc _ _ = WW
 obtain rfl : WW = W := hWW.symm.trans hW.symm
 clear hWW hW HW hmf
 have e3 : N + 1 + 1 + 1 = N + 3 := rfl
 have e2 : N + 1 + 1 = N + 2 := rfl
 rw [e3, e2]
 clear e3 e2
 go_loopg [15] 7 (fun kq v15 w' => ∃ i : Nat, v15 = .int .i64 i ∧ Aside0 (i + kq = 7) ∧ Aside0 (PF w0 w w' g s (enF s y x i).2 (bsE gp N (enF s y x i).1)))
 case atStart => exact ⟨0, rfl, ⟨rfl⟩, HF⟩
 case round =>
 clear HF
 obtain ⟨i, rfl, HI, HF⟩ := hrel
 by_cases hi : i < 7
 ·obtain ⟨k1, rfl⟩ : ∃ m, gk = m + 1 := ⟨gk - 1, by have := HI.out; omega⟩
  have d1 : decide ((i : Int) < 7) = true := decide_eq_true (by omega)
  have d2 : decide (i < 7) = true := decide_eq_true hi
  have hce := HF.out.cell (i := i) (List.Mem.tail _ (List.Mem.tail _ (List.Mem.tail _ (List.Mem.head _)))) (fn_cell N i hi)
  have hcf := fn_enter i hi
  have HC := Aside0.mk (cl_any w0 w wr g gp N i y s _ _ hi HF.out HP.out H0.out HT.out)
  obtain ⟨f, hf⟩ : ∃ f, f = fnOf i := ⟨_, rfl⟩
  rw [← hf] at hce hcf HC
  clear hf
  go_wp2_with (refine Calls.mono HC.out ?_; rintro e_ w3 ⟨rfl, h3⟩; have H3 := Aside0.mk h3; clear h3)
  go_roundg k1
  case measure => omega
  case rel => exact ⟨i + 1, by go_num, ⟨by have := HI.out; omega⟩, H3⟩
 ·obtain rfl : i = 7 := by have := HI.out; omega
  clear HI hi
  obtain ⟨p, hp⟩ : ∃ p, p = enF s y x 7 := ⟨_, rfl⟩
  have hRe := HR.out
  rw [pcE, ← hp] at hRe
  rw [← hp] at HF
  clear hp HR
  obtain ⟨e, xe⟩ := p
  have c6 : wr.cell? ⟨N + 2, 6, none⟩ = some (.int .i64 e.f4) := blk_cell HF.out.eE 6
  by_cases k3 : e.f4 = 3
  ·rw [pcM, if_pos k3] at hRe
   have d3 : (e.f4 == 3) = true := by rw [k3]; rfl
   have c0 := HF.out.b0
   have cp := HF.out.c0 HP.out
   go_wp2_with fail
   refine Calls.mono (HF.out.words (b := wr.heap.size) (l1 := wFrom) (n := 1) rfl rfl (by decide) rfl) ?_
   rintro e_ w1 ⟨rfl, h1⟩
   have n0_ := Aside0.mk h1
   clear HF h1 c0 cp c6 d3
   have HF := n0_
   clear n0_
   have c0 := HF.out.b0
   go_wp2_with fail
   refine Calls.mono (p_date w0 w1 g gp y s _ HF.out.S (HF.out.pb HP.out)) ?_
   rintro e_ w2 ⟨rfl, hS, hK⟩
   have n0_ := Aside0.mk (HF.out.turn hS hK)
   clear HF hS hK c0
   have HF := n0_
   clear n0_
   have e0 : w2.cell? ⟨N + 2, 9, none⟩ = _ := blk_cell HF.out.eE 9
   have e1 : w2.cell? ⟨N + 2, 10, none⟩ = _ := blk_cell HF.out.eE 10
   have e2 : w2.cell? ⟨N + 2, 11, none⟩ = _ := blk_cell HF.out.eE 11
   have f0 : w2.frozen? ⟨N + 2, 9, none⟩ = false := blk_frozen HF.out.eE 9
   have f1 : w2.frozen? ⟨N + 2, 10, none⟩ = false := blk_frozen HF.out.eE 10
   have f2 : w2.frozen? ⟨N + 2, 11, none⟩ = false := blk_frozen HF.out.eE 11
   go_upto_region 10 with fail
   have h6 := HF.out.set3 (i := 9) (bs' := bsE gp N ⟨e.f0, e.f1, e.f2, e.f3, e.f4, e.f5, e.f6, (pcD s y (scW s wFrom xe).2).1, e.f8, e.f9⟩) H0.out (List.Mem.tail _ (List.Mem.tail _ (List.Mem.head _))) (.int .i64 (pcD s y (scW s wFrom xe).2).1.f0) (.int .i64 (pcD s y (scW s wFrom xe).2).1.f1) (.int .i64 (pcD s y (scW s wFrom xe).2).1.f2) rfl four
   generalize World.setCell _ _ _ = W1 at h6 ⊢
   obtain ⟨xm, hxm⟩ : ∃ xm, xm = (pcD s y (scW s wFrom xe).2).2 := ⟨_, rfl⟩
   rw [← hxm] at h6 hRe
   have HG := Aside0.mk h6
   have HRe := Aside0.mk hRe
   clear h6 hRe HF e0 e1 e2 f0 f1 f2 k3 hxm
   have c0 := HG.out.b0
   obtain ⟨T, hT⟩ : ∃ T, T = tlL s (s.size + 2) false [] [] xm := ⟨_, rfl⟩
   rw [← hT] at HRe
   have HTl := Aside0.mk (p_tail w0 W1 g gp (N + 2) y s xm _ ⟨HG.out.S, KeepBut.refl _ _ _, HG.out.pb HP.out, HG.out.eE, Kd.R_nil _ _ _ _ _, Kd.R_nil _ _ _ _ _, ⟨HG.out.S.B.size, by have h1 := H0.out; have h2 := HN.out; omega⟩⟩ hs9 T hT.symm)
   clear hT
   go_wp2_with fail
   refine Calls.mono HTl.out ?_
   rintro e_ w5 ⟨rfl, v8, v9, h5⟩
   obtain ⟨A8, c8, rfl⟩ := Kd.R_slice h5.R1
   obtain ⟨A9, c9, rfl⟩ := Kd.R_slice h5.R2
   have hb2 : w5.heap[N + 1]? = some (.cells (eC z40 nil_ nil_) 40 (0, 0)) := h5.K.blk (HG.out.has (List.Mem.tail _ (List.Mem.head _))) (HG.out.N _ (List.Mem.tail _ (List.Mem.head _))).1 (by simp)
   have i0 : w5.cell? ⟨N + 2, 0, none⟩ = _ := blk_cell h5.E 0
   have e0 : w5.cell? ⟨N + 1, 0, none⟩ = _ := blk_cell hb2 0
   have f0 : w5.frozen? ⟨N + 1, 0, none⟩ = false := blk_frozen hb2 0
   have i1 : w5.cell? ⟨N + 2, 1, none⟩ = _ := blk_cell h5.E 1
   have e1 : w5.cell? ⟨N + 1, 1, none⟩ = _ := blk_cell hb2 1
   have f1 : w5.frozen? ⟨N + 1, 1, none⟩ = false := blk_frozen hb2 1
   have i2 : w5.cell? ⟨N + 2, 2, none⟩ = _ := blk_cell h5.E 2
   have e2 : w5.cell? ⟨N + 1, 2, none⟩ = _ := blk_cell hb2 2
   have f2 : w5.frozen? ⟨N + 1, 2, none⟩ = false := blk_frozen hb2 2
   have i3 : w5.cell? ⟨N + 2, 3, none⟩ = _ := blk_cell h5.E 3
   have e3 : w5.cell? ⟨N + 1, 3, none⟩ = _ := blk_cell hb2 3
   have f3 : w5.frozen? ⟨N + 1, 3, none⟩ = false := blk_frozen hb2 3
   have i4 : w5.cell? ⟨N + 2, 4, none⟩ = _ := blk_cell h5.E 4
   have e4 : w5.cell? ⟨N + 1, 4, none⟩ = _ := blk_cell hb2 4
   have f4 : w5.frozen? ⟨N + 1, 4, none⟩ = false := blk_frozen hb2 4
   have i5 : w5.cell? ⟨N + 2, 5, none⟩ = _ := blk_cell h5.E 5
   have e5 : w5.cell? ⟨N + 1, 5, none⟩ = _ := blk_cell hb2 5
   have f5 : w5.frozen? ⟨N + 1, 5, none⟩ = false := blk_frozen hb2 5
   have i6 : w5.cell? ⟨N + 2, 6, none⟩ = _ := blk_cell h5.E 6
   have e6 : w5.cell? ⟨N + 1, 6, none⟩ = _ := blk_cell hb2 6
   have f6 : w5.frozen? ⟨N + 1, 6, none⟩ = false := blk_frozen hb2 6
   have i7 : w5.cell? ⟨N + 2, 7, none⟩ = _ := blk_cell h5.E 7
   have e7 : w5.cell? ⟨N + 1, 7, none⟩ = _ := blk_cell hb2 7
   have f7 : w5.frozen? ⟨N + 1, 7, none⟩ = false := blk_frozen hb2 7
   have i8 : w5.cell? ⟨N + 2, 8, none⟩ = _ := blk_cell h5.E 8
   have e8 : w5.cell? ⟨N + 1, 8, none⟩ = _ := blk_cell hb2 8
   have f8 : w5.frozen? ⟨N + 1, 8, none⟩ = false := blk_frozen hb2 8
   have i9 : w5.cell? ⟨N + 2, 9, none⟩ = _ := blk_cell h5.E 9
   have e9 : w5.cell? ⟨N + 1, 9, none⟩ = _ := blk_cell hb2 9
   have f9 : w5.frozen? ⟨N + 1, 9, none⟩ = false := blk_frozen hb2 9
   have i10 : w5.cell? ⟨N + 2, 10, none⟩ = _ := blk_cell h5.E 10
   have e10 : w5.cell? ⟨N + 1, 10, none⟩ = _ := blk_cell hb2 10
   have f10 : w5.frozen? ⟨N + 1, 10, none⟩ = false := blk_frozen hb2 10
   have i11 : w5.cell? ⟨N + 2, 11, none⟩ = _ := blk_cell h5.E 11
   have e11 : w5.cell? ⟨N + 1, 11, none⟩ = _ := blk_cell hb2 11
   have f11 : w5.frozen? ⟨N + 1, 11, none⟩ = false := blk_frozen hb2 11
   have i12 : w5.cell? ⟨N + 2, 12, none⟩ = _ := blk_cell h5.E 12
   have e12 : w5.cell? ⟨N + 1, 12, none⟩ = _ := blk_cell hb2 12
   have f12 : w5.frozen? ⟨N + 1, 12, none⟩ = false := blk_frozen hb2 12
   have i13 : w5.cell? ⟨N + 2, 13, none⟩ = _ := blk_cell h5.E 13
   have e13 : w5.cell? ⟨N + 1, 13, none⟩ = _ := blk_cell hb2 13
   have f13 : w5.frozen? ⟨N + 1, 13, none⟩ = false := blk_frozen hb2 13
   have h6 := h5.fin HG.out H0.out HN.out
   obtain ⟨w6, hw6⟩ : ∃ w6, w6 = setL (N + 1) w5 0 (eL (⟨e.f0, e.f1, e.f2, e.f3, e.f4, e.f5, e.f6, (pcD s y (scW s wFrom xe).2).1, e.f8, e.f9⟩ : S40) (.slice A8 T.1.length c8) (.slice A9 T.2.1.length c9)) := ⟨_, rfl⟩
   rw [← hw6] at h6
   have H6 := Aside0.mk h6
   clear h6
   simp only [setL, eL, Nat.zero_add, Nat.reduceAdd] at hw6
   clear HTl h5 hb2 c0
   go_wp2_with fail
   clear i0 e0 f0 i1 e1 f1 i2 e2 f2 i3 e3 f3 i4 e4 f4 i5 e5 f5 i6 e6 f6 i7 e7 f7 i8 e8 f8 i9 e9 f9 i10 e10 f10 i11 e11 f11 i12 e12 f12 i13 e13 f13
   obtain ⟨g1, g2, g3, g4, g5⟩ := H6.out
   obtain rfl := HRe.out
   rw [← hw6]
   refine bodyPost_ret (results_cell_row rfl _ _ (N + 1) 40 _ (0, 0) _ rfl g1 hu40 rfl (by kernel_rfl)) rfl ?_
   exact ⟨_, _, rfl, g2, g3, g4, g5⟩
  ·rw [pcM, if_neg k3] at hRe
   have d3 : (e.f4 == 3) = false := beq_eq_false_iff_ne.mpr k3
   obtain ⟨W1, hW1⟩ : ∃ W1, W1 = wr := ⟨_, rfl⟩
   subst hW1
   have HG := HF
   obtain ⟨xm, hxm⟩ : ∃ xm, xm = xe := ⟨_, rfl⟩
   subst hxm
   have HRe := Aside0.mk hRe
   clear hRe HF k3
   have c0 := HG.out.b0
   obtain ⟨T, hT⟩ : ∃ T, T = tlL s (s.size + 2) false [] [] xm := ⟨_, rfl⟩
   rw [← hT] at HRe
   have HTl := Aside0.mk (p_tail w0 W1 g gp (N + 2) y s xm _ ⟨HG.out.S, KeepBut.refl _ _ _, HG.out.pb HP.out, HG.out.eE, Kd.R_nil _ _ _ _ _, Kd.R_nil _ _ _ _ _, ⟨HG.out.S.B.size, by have h1 := H0.out; have h2 := HN.out; omega⟩⟩ hs9 T hT.symm)
   clear hT
   go_wp2_with fail
   refine Calls.mono HTl.out ?_
   rintro e_ w5 ⟨rfl, v8, v9, h5⟩
   obtain ⟨A8, c8, rfl⟩ := Kd.R_slice h5.R1
   obtain ⟨A9, c9, rfl⟩ := Kd.R_slice h5.R2
   have hb2 : w5.heap[N + 1]? = some (.cells (eC z40 nil_ nil_) 40 (0, 0)) := h5.K.blk (HG.out.has (List.Mem.tail _ (List.Mem.head _))) (HG.out.N _ (List.Mem.tail _ (List.Mem.head _))).1 (by simp)
   have i0 : w5.cell? ⟨N + 2, 0, none⟩ = _ := blk_cell h5.E 0
   have e0 : w5.cell? ⟨N + 1, 0, none⟩ = _ := blk_cell hb2 0
   have f0 : w5.frozen? ⟨N + 1, 0, none⟩ = false := blk_frozen hb2 0
   have i1 : w5.cell? ⟨N + 2, 1, none⟩ = _ := blk_cell h5.E 1
   have e1 : w5.cell? ⟨N + 1, 1, none⟩ = _ := blk_cell hb2 1
   have f1 : w5.frozen? ⟨N + 1, 1, none⟩ = false := blk_frozen hb2 1
   have i2 : w5.cell? ⟨N + 2, 2, none⟩ = _ := blk_cell h5.E 2
   have e2 : w5.cell? ⟨N + 1, 2, none⟩ = _ := blk_cell hb2 2
   have f2 : w5.frozen? ⟨N + 1, 2, none⟩ = false := blk_frozen hb2 2
   have i3 : w5.cell? ⟨N + 2, 3, none⟩ = _ := blk_cell h5.E 3
   have e3 : w5.cell? ⟨N + 1, 3, none⟩ = _ := blk_cell hb2 3
   have f3 : w5.frozen? ⟨N + 1, 3, none⟩ = false := blk_frozen hb2 3
   have i4 : w5.cell? ⟨N + 2, 4, none⟩ = _ := blk_cell h5.E 4
   have e4 : w5.cell? ⟨N + 1, 4, none⟩ = _ := blk_cell hb2 4
   have f4 : w5.frozen? ⟨N + 1, 4, none⟩ = false := blk_frozen hb2 4
   have i5 : w5.cell? ⟨N + 2, 5, none⟩ = _ := blk_cell h5.E 5
   have e5 : w5.cell? ⟨N + 1, 5, none⟩ = _ := blk_cell hb2 5
   have f5 : w5.frozen? ⟨N + 1, 5, none⟩ = false := blk_frozen hb2 5
   have i6 : w5.cell? ⟨N + 2, 6, none⟩ = _ := blk_cell h5.E 6
   have e6 : w5.cell? ⟨N + 1, 6, none⟩ = _ := blk_cell hb2 6
   have f6 : w5.frozen? ⟨N + 1, 6, none⟩ = false := blk_frozen hb2 6
   have i7 : w5.cell? ⟨N + 2, 7, none⟩ = _ := blk_cell h5.E 7
   have e7 : w5.cell? ⟨N + 1, 7, none⟩ = _ := blk_cell hb2 7
   have f7 : w5.frozen? ⟨N + 1, 7, none⟩ = false := blk_frozen hb2 7
   have i8 : w5.cell? ⟨N + 2, 8, none⟩ = _ := blk_cell h5.E 8
   have e8 : w5.cell? ⟨N + 1, 8, none⟩ = _ := blk_cell hb2 8
   have f8 : w5.frozen? ⟨N + 1, 8, none⟩ = false := blk_frozen hb2 8
   have i9 : w5.cell? ⟨N + 2, 9, none⟩ = _ := blk_cell h5.E 9
   have e9 : w5.cell? ⟨N + 1, 9, none⟩ = _ := blk_cell hb2 9
   have f9 : w5.frozen? ⟨N + 1, 9, none⟩ = false := blk_frozen hb2 9
   have i10 : w5.cell? ⟨N + 2, 10, none⟩ = _ := blk_cell h5.E 10
   have e10 : w5.cell? ⟨N + 1, 10, none⟩ = _ := blk_cell hb2 10
   have f10 : w5.frozen? ⟨N + 1, 10, none⟩ = false := blk_frozen hb2 10
   have i11 : w5.cell? ⟨N + 2, 11, none⟩ = _ := blk_cell h5.E 11
   have e11 : w5.cell? ⟨N + 1, 11, none⟩ = _ := blk_cell hb2 11
   have f11 : w5.frozen? ⟨N + 1, 11, none⟩ = false := blk_frozen hb2 11
   have i12 : w5.cell? ⟨N + 2, 12, none⟩ = _ := blk_cell h5.E 12
   have e12 : w5.cell? ⟨N + 1, 12, none⟩ = _ := blk_cell hb2 12
   have f12 : w5.frozen? ⟨N + 1, 12, none⟩ = false := blk_frozen hb2 12
   have i13 : w5.cell? ⟨N + 2, 13, none⟩ = _ := blk_cell h5.E 13
   have e13 : w5.cell? ⟨N + 1, 13, none⟩ = _ := blk_cell hb2 13
   have f13 : w5.frozen? ⟨N + 1, 13, none⟩ = false := blk_frozen hb2 13
   have h6 := h5.fin HG.out H0.out HN.out
   obtain ⟨w6, hw6⟩ : ∃ w6, w6 = setL (N + 1) w5 0 (eL e (.slice A8 T.1.length c8) (.slice A9 T.2.1.length c9)) := ⟨_, rfl⟩
   rw [← hw6] at h6
   have H6 := Aside0.mk h6
   clear h6
   simp only [setL, eL, Nat.zero_add, Nat.reduceAdd] at hw6
   clear HTl h5 hb2 c0
   go_wp2_with fail
   clear i0 e0 f0 i1 e1 f1 i2 e2 f2 i3 e3 f3 i4 e4 f4 i5 e5 f5 i6 e6 f6 i7 e7 f7 i8 e8 f8 i9 e9 f9 i10 e10 f10 i11 e11 f11 i12 e12 f12 i13 e13 f13
   obtain ⟨g1, g2, g3, g4, g5⟩ := H6.out
   obtain rfl := HRe.out
   rw [← hw6]
   refine bodyPost_ret (results_cell_row rfl _ _ (N + 1) 40 _ (0, 0) _ rfl g1 hu40 rfl (by kernel_rfl)) rfl ?_
   exact ⟨_, _, rfl, g2, g3, g4, g5⟩
end Go.Proofs.YtlchefonlfokgaaDoor.Q
end
section
namespace Go.Proofs.YtlchefonlfokgaaDoor.Q
open Go.RowKit Go.Proofs.YtlchefonlfokgaaDoorW.PrintWords Go.Proofs.YtlchefonlfokgaaDoorW.PrintLast Go.Proofs.YtlchefonlfokgaaDoorW.PrintMore
set_option maxRecDepth 100000
def wCal : List ByteArray := [⟨#[99, 97, 108, 101, 110, 100, 97, 114]⟩]
def wDay : List ByteArray := [⟨#[100, 97, 121]⟩, ⟨#[101, 110, 100]⟩]
def calL (s : ByteArray) (y : Int) : Nat → List S40 → Sc → List S40 × Sc
 | 0, les, x => (les, x)
 | k + 1, les, x =>
  if (scW s wDay x).1 = 0 then calL s y k (les ++ [(pcE s y (scW s wDay x).2).1]) (pcE s y (scW s wDay x).2).2
  else (les, (scW s wDay x).2)
def pcH (s : ByteArray) (x : Sc) : Int × Sc := ((pcN s (scW s wCal x).2).1, (scW s wNl (pcN s (scW s wCal x).2).2).2)
def pcCal (s : ByteArray) (x : Sc) : Int × List S40 × Sc :=
 ((pcH s x).1, (calL s (pcH s x).1 (s.size + 2) [] (pcH s x).2).1, scE s (scW s wNl (calL s (pcH s x).1 (s.size + 2) [] (pcH s x).2).2).2)
theorem calL_end (s : ByteArray) (y : Int) (k : Nat) (les : List S40) (x : Sc) (h : (scW s wDay x).1 ≠ 0) (hk : left_ s x ≤ k) : calL s y k les x = (les, (scW s wDay x).2) := by
 cases k with
 | zero =>
  have hx : x.2 = true := by
   by_cases hx : x.2 = true
   ·exact hx
   ·unfold left_ at hk; rw [if_neg hx] at hk; omega
  rw [scW_badE s _ hx]
  rfl
 | succ k => rw [calL, if_neg h]
theorem pcN_ge (s : ByteArray) (x : Sc) : x.1 ≤ (pcN s x).2.1 := Nat.le_trans (scW_ge s wSp x) (scN_ge s _)
theorem pcI_ge (s : ByteArray) (x : Sc) : x.1 ≤ (pcI s x).2.1 := Nat.le_trans (scW_ge s wSp x) (scI_ge s _)
theorem pcC_ge (s : ByteArray) (l : List ByteArray) (x : Sc) : x.1 ≤ (pcC s l x).2.1 := Nat.le_trans (scW_ge s wSp x) (scW_ge s l _)
theorem pcD_ge (s : ByteArray) (y : Int) (x : Sc) : x.1 ≤ (pcD s y x).2.1 := Nat.le_trans (pcN_ge s x) (pcN_ge s _)
theorem enS_ge (s : ByteArray) (y : Int) : ∀ (i : Nat) (p : S40 × Sc), p.2.1 ≤ (enS s y i p).2.1
 | 0, (_, x) => pcD_ge s y x
 | 1, (_, x) => pcC_ge s tDays x
 | 2, (_, x) => pcI_ge s x
 | 3, (_, x) => pcN_ge s x
 | 4, (_, x) => pcC_ge s tKinds x
 | 5, (_, x) => pcI_ge s x
 | _ + 6, (_, x) => pcN_ge s x
theorem enF_ge (s : ByteArray) (y : Int) (x : Sc) : ∀ i, x.1 ≤ (enF s y x i).2.1
 | 0 => Nat.le_refl _
 | i + 1 => Nat.le_trans (enF_ge s y x i) (enS_ge s y i _)
theorem pcM_ge (s : ByteArray) (y : Int) (p : S40 × Sc) : p.2.1 ≤ (pcM s y p).2.1 := by
 unfold pcM
 split
 ·exact Nat.le_trans (scW_ge s wFrom p.2) (pcD_ge s y _)
 ·exact Nat.le_refl _
theorem tlL_ge (s : ByteArray) : ∀ (k : Nat) (om : Bool) (lc lo : List ByteArray) (x : Sc), x.1 ≤ (tlL s k om lc lo x).2.2.1
 | 0, _, _, _, _ => Nat.le_refl _
 | k + 1, om, lc, lo, x => by
  have h1 := scW_ge s wWith x
  have h2 := scW_ge s (wOut om) (scW s wWith x).2
  have h3 := scI_ge s (scW s (wOut om) (scW s wWith x).2).2
  rw [tlL]
  split
  ·split
   ·exact Nat.le_trans (Nat.le_trans h1 (Nat.le_trans h2 h3)) (tlL_ge s k _ _ _ _)
   ·exact Nat.le_trans (Nat.le_trans h1 (Nat.le_trans h2 h3)) (tlL_ge s k _ _ _ _)
  ·exact h1
theorem pcE_ge (s : ByteArray) (y : Int) (x : Sc) : x.1 ≤ (pcE s y x).2.1 := Nat.le_trans (enF_ge s y x 7) (Nat.le_trans (pcM_ge s y _) (tlL_ge s _ _ _ _ _))
structure PI (w W : World) (N g gp_ bk : Nat) (yr : Int) (s : ByteArray) (x : Sc) (v : Value) (les : List S40) : Prop where
 S : SP w W g s x
 P : PBx W g gp_ yr
 Rz : W.heap[N]? = some (.cells #[.int .i64 0, nil_] 25 (0, 0))
 K : W.heap[bk]? = some (.cells #[.int .i64 yr, v] 25 (0, 0))
 E : Kd.S k40 40 W w.heap.size (fun _ => True) v les
 Z : w.heap.size ≤ N ∧ w.heap.size ≤ bk ∧ N ≠ bk
section
variable {w W : World} {N g gp_ bk : Nat} {yr : Int} {s : ByteArray} {x : Sc} {v : Value} {les : List S40}
theorem PI.neN (h : PI w W N g gp_ bk yr s x v les) : N ≠ g := (h.S.I.ne_blk h.Rz (by decide)).symm
theorem PI.neK (h : PI w W N g gp_ bk yr s x v les) : bk ≠ g := (h.S.I.ne_blk h.K (by decide)).symm
theorem PI.turn {W' : World} {x' : Sc} (h : PI w W N g gp_ bk yr s x v les) (hS : SP w W' g s x') (hK : KeepBut W W' g none) : PI w W' N g gp_ bk yr s x' v les :=
 ⟨hS, ⟨hK.blk h.P.1 h.P.2 (by simp), h.P.2⟩, hK.blk h.Rz h.neN (by simp), hK.blk h.K h.neK (by simp), Kd.S_mono (Kd.S_keep (Kd.S_types h.E h.S.I.1 (by decide)) hK (fun _ hk => hk.2)) (fun _ _ => trivial), h.Z⟩
theorem PI.below {W' : World} (h : PI w W N g gp_ bk yr s x v les) (hb : Below W.heap.size W W') : PI w W' N g gp_ bk yr s x v les := h.turn (h.S.below hb) (KeepBut.of_below hb _ _)
theorem PI.drew (h : PI w W N g gp_ bk yr s x v les) : PI w W.drew N g gp_ bk yr s x v les := h.below (below_drew (Below.refl _ _))
theorem PI.alloc (h : PI w W N g gp_ bk yr s x v les) (o : Obj) : PI w (W.alloc o) N g gp_ bk yr s x v les := h.below (below_alloc (Below.refl _ _) o)
theorem PI.c0 (h : PI w W N g gp_ bk yr s x v les) : W.cell? ⟨gp_, 0, none⟩ = some (.pointer (some ⟨g, 0, none⟩)) := blk_cell h.P.1 0
theorem PI.k0 (h : PI w W N g gp_ bk yr s x v les) : W.cell? ⟨bk, 0, none⟩ = some (.int .i64 yr) := blk_cell h.K 0
theorem PI.k1 (h : PI w W N g gp_ bk yr s x v les) : W.cell? ⟨bk, 1, none⟩ = some v := blk_cell h.K 1
theorem PI.lits {l1 : List ByteArray} {cs : Array Value} {n b : Nat} (h : PI w W N g gp_ bk yr s x v les) (hz : W.heap.size = b) (hn : l1.length = n) (hl : n ≤ 9223372036854775807) (hcs : (l1.map Value.string).toArray = cs) :
  Calls Tryd.prog 20 #[.pointer (some ⟨g, 0, none⟩), .slice (some ⟨b, 0, none⟩) n n] (W.alloc (.cells cs 9)) fun e_ w' => e_ = .returned (.int .i64 (scW s l1 x).1) ∧ PI w w' N g gp_ bk yr s (scW s l1 x).2 v les :=
 (h.S.words' hz hn hl hcs).mono fun e w' ⟨he, hS, hK⟩ => ⟨he, h.turn hS hK⟩
theorem PI.len (h : PI w W N g gp_ bk yr s x v les) : w.heap.size ≤ W.heap.size := h.S.B.size
theorem PI.old (h : PI w W N g gp_ bk yr s x v les) : ∀ k, v.ownBlock = some k → k < W.heap.size := Kd.S_lt h.E
theorem PI.app {W1 : World} {p : S40} {v1 : Value} (h : PI w W N g gp_ bk yr s x v les) (hr : Kd.S k40 40 W1 w.heap.size (fun _ => True) v1 (les ++ [p])) (hb : Below w.heap.size W W1) (hg : W.grownBy W1 v.ownBlock) :
  PI w (W1.setCell ⟨bk, 1, none⟩ v1) N g gp_ bk yr s x v1 (les ++ [p]) := by
 obtain ⟨z1, z2, z3⟩ := h.Z
 have fc : ∀ k, k ≠ bk → (W1.setCell ⟨bk, 1, none⟩ v1).heap[k]? = W1.heap[k]? := fun k hk => Below.heap_setCell _ ⟨bk, 1, none⟩ _ k hk
 have hW1 : Below w.heap.size w W1 := below_weaken h.S.B (Nat.le_refl _) hb
 have hK := blk_grown h.K hg (Kd.S_ne h.E h.K (by decide))
 have hG := blk_grown h.S.I.1 hg (Kd.S_ne h.E h.S.I.1 (by decide))
 have hP := blk_grown h.P.1 hg (Kd.S_ne h.E h.P.1 (by decide))
 have hZ := blk_grown h.Rz hg (Kd.S_ne h.E h.Rz (by decide))
 have hpe : gp_ ≠ bk := by
  intro e0
  have h1 := h.P.1
  rw [e0, h.K] at h1
  injection h1 with h1
  injection h1 with _ h2
  exact absurd h2 (by decide)
 exact ⟨⟨⟨(fc g (fun e => h.neK e.symm)).trans hG, h.S.I.2⟩, below_set hW1 z2, h.S.L, h.S.Z⟩, ⟨(fc gp_ hpe).trans hP, h.P.2⟩, (fc N z3).trans hZ, blk_put hK 1 v1 rfl, Kd.S_set hr hK (by decide) 1 v1, h.Z⟩
theorem ent_M {wi : World} {base B : Nat} {q : S40} {u8 u9 : Value} (h8 : Kd.R Kd.string 9 wi B (fun k => some k ≠ u9.ownBlock) u8 q.f8) (h9 : Kd.R Kd.string 9 wi B (fun k => some k ≠ u8.ownBlock) u9 q.f9) (hb : base ≤ B) :
  k40.M wi base (fun k => some k = u8.ownBlock ∨ some k = u9.ownBlock) q (eL q u8 u9) :=
 k40_mkM _ _ _ q (Kd.R_lower (Kd.R_mono (Kd.R_tight rfl h8) (fun _ h_ => Or.inl h_)) hb) (Kd.R_lower (Kd.R_mono (Kd.R_tight rfl h9) (fun _ h_ => Or.inr h_)) hb)
theorem ent_new {wi : World} {B : Nat} {q : S40} {u8 u9 v : Value} (h8 : Kd.R Kd.string 9 wi B (fun k => some k ≠ u9.ownBlock) u8 q.f8) (h9 : Kd.R Kd.string 9 wi B (fun k => some k ≠ u8.ownBlock) u9 q.f9) (ho : ∀ k, v.ownBlock = some k → k < B) {k : Nat} (hk : some k = u8.ownBlock ∨ some k = u9.ownBlock) : some k ≠ v.ownBlock := by
 intro e0
 have h1 := ho k e0.symm
 rcases hk with hk | hk
 ·have := Kd.R_base h8 k hk.symm; omega
 ·have := Kd.R_base h9 k hk.symm; omega
theorem ent_old {wi : World} {B base : Nat} {q : S40} {u8 u9 v : Value} {les : List S40} (h8 : Kd.R Kd.string 9 wi B (fun k => some k ≠ u9.ownBlock) u8 q.f8) (h9 : Kd.R Kd.string 9 wi B (fun k => some k ≠ u8.ownBlock) u9 q.f9) (hE : Kd.S k40 40 wi base (fun k => k < B) v les) :
  Kd.S k40 40 wi base (fun k => True ∧ ¬ (some k = u8.ownBlock ∨ some k = u9.ownBlock)) v les := by
 refine Kd.S_mono hE (fun k hk => ⟨trivial, fun h => ?_⟩)
 rcases h with h | h
 ·have := Kd.R_base h8 k h.symm; omega
 ·have := Kd.R_base h9 k h.symm; omega
theorem PI.oldS {W' : World} (h : PI w W N g gp_ bk yr s x v les) (hK : KeepBut W W' g none) : Kd.S k40 40 W' w.heap.size (fun k => k < W.heap.size) v les :=
 Kd.S_mono (Kd.S_oldK (Kd.S_types h.E h.S.I.1 (by decide)) hK) (fun _ hk => hk.2)
end
end Go.Proofs.YtlchefonlfokgaaDoor.Q
end
section
namespace Go.Proofs.YtlchefonlfokgaaDoor.Q
open Go.RowKit Go.Proofs.YtlchefonlfokgaaDoorW.PrintWords Go.Proofs.YtlchefonlfokgaaDoorW.PrintLast Go.Proofs.YtlchefonlfokgaaDoorW.PrintMore
set_option maxRecDepth 100000
def ordP (s : ByteArray) : Int × List S40 × Int × Int :=
 if (pcCal s (0, false)).2.2.2 = true then (0, [], ((pcCal s (0, false)).2.2.1 : Int), 6) else ((pcCal s (0, false)).1, (pcCal s (0, false)).2.1, 0, 0)
def ordotext_Parse.f (a0 : ByteArray) : Option (Int × List S40 × Int × Int) := if a0.size ≤ 1000000000 then some (ordP a0) else none
theorem results_ctt {P : Program} {fn : Func} {p u1 u2 : Tmp} {ty : TypeId} (h : fn.results = #[.cell p ty, .tmp u1, .tmp u2]) (tmps : Array Value) (w : World) (g : Nat) (t : TypeId) (cs : Array Value) (d : TypeDesc)
  (hp : tmps.getD p undef = .pointer (some ⟨g, 0, none⟩)) (hg : w.heap[g]? = some (.cells cs t (0, 0))) (hu : P.underlying ty = some d) (hd : (match d with | .struct _ | .array _ _ => true | _ => false) = true) (hi : (P.info? ty).map (·.size) = some cs.size) :
  (results fn tmps).run P w = .ok (.tuple #[.agg cs, tmps.getD u1 undef, tmps.getD u2 undef]) w := by
 have hp' : tmps[p]?.getD undef = .pointer (some ⟨g, 0, none⟩) := by simpa using hp
 simp [results, h, hp', asAddr, run_loadVar_row w g t ty cs (0, 0) d hg hu hd hi, Sem.run_bind, Result.andThen]
theorem parse_any (w : World) (s : ByteArray) (hT : Tabs w) (hs9 : s.size ≤ 1000000000) :
  Calls Tryd.prog 9 #[.string s] w fun e w' => ∃ v1, e = .returned (.tuple #[.agg #[.int .i64 (ordP s).1, v1], .int .i64 (ordP s).2.2.1, .int .i64 (ordP s).2.2.2]) ∧ Kd.S k40 40 w' w.heap.size (fun _ => True) v1 (ordP s).2.1 ∧ Below w.heap.size w w' := by
 have hu25 := Tryd.underlying25
 have hu40 := Tryd.underlying40
 obtain ⟨Z, hZ⟩ : ∃ Z, Z = ordP s := ⟨_, rfl⟩
 rw [← hZ]
 rw [ordP, pcCal, pcH] at hZ
 have HZZ := Aside0.mk hZ
 obtain ⟨N, hN⟩ : ∃ N, N = w.heap.size := ⟨_, rfl⟩
 obtain ⟨wa, hwa⟩ : ∃ wa, wa = w.alloc (.cells #[.int .i64 0, .slice none 0 0] 25) := ⟨_, rfl⟩
 have hB : Below w.heap.size w wa := by rw [hwa]; exact below_alloc (Below.refl w.heap.size w) _
 have hsa : wa.heap.size = N + 1 := by rw [hwa, World.size_alloc, hN]
 have hRz : wa.heap[N]? = some (.cells #[.int .i64 0, .slice none 0 0] 25 (0, 0)) := by rw [hwa, hN]; exact blk_new w _
 have hS := SP.new w wa s hB (by omega)
 rw [hsa] at hS
 obtain ⟨wb, hwb⟩ : ∃ wb, wb = wa.alloc (.cells #[.string s, .int .i64 0, .bool false] 77) := ⟨_, rfl⟩
 rw [← hwb] at hS
 have hsb : wb.heap.size = N + 2 := by rw [hwb, World.size_alloc, hsa]
 have hRz : wb.heap[N]? = some (.cells #[.int .i64 0, .slice none 0 0] 25 (0, 0)) := by rw [hwb]; exact blk_alloc hRz _
 have hF : PF w wb (wb.alloc (pBox (N + 1) 0)) (N + 1) s (0, false) [(N + 1 + 1, pBox (N + 1) 0)] := (PF.start hS).make hsb (pBox (N + 1) 0)
 have HF := Aside0.mk hF
 have HT := Aside0.mk hT
 have HN := Aside0.mk hN
 have HRZ := Aside0.mk hRz
 have HSB := Aside0.mk hsb
 have H0 := Aside0.mk (show w.heap.size ≤ wb.heap.size by omega)
 clear hB hsa hsb hS hF hZ hT hRz hN
 go_enter Tryd.func9, Tryd.ntmps9
 go_wp2_with fail
 refine (new_any _ _).mono ?_
 rintro e w1 ⟨rfl, rfl⟩
 go_wp2_with fail
 rw [← HN.out]
 rw [← hwa, ← hwb]
 clear hwa hwb
 obtain ⟨g, hg⟩ : ∃ g, g = N + 1 := ⟨_, rfl⟩
 have hNg : N ≠ g := by omega
 have hgN : N + 1 + 1 = g + 1 := by omega
 rw [hgN, ← hg] at HF ⊢
 have HGN := Aside0.mk hg
 have HNG := Aside0.mk hNg
 clear hgN hg hNg
 obtain ⟨yr, hyr⟩ : ∃ yr, yr = (pcN s (scW s wCal (0, false)).2).1 := ⟨_, rfl⟩
 obtain ⟨x2, hx2⟩ : ∃ x2, x2 = (pcN s (scW s wCal (0, false)).2).2 := ⟨_, rfl⟩
 obtain ⟨x3, hx3⟩ : ∃ x3, x3 = (scW s wNl x2).2 := ⟨_, rfl⟩
 obtain ⟨F, hF⟩ : ∃ F, F = calL s yr (s.size + 2) [] x3 := ⟨_, rfl⟩
 obtain ⟨xe, hxe⟩ : ∃ xe, xe = scE s (scW s wNl F.2).2 := ⟨_, rfl⟩
 have hzz := HZZ.out
 rw [← hyr, ← hx2, ← hx3, ← hF, ← hxe] at hzz
 clear HZZ
 have HZZ := Aside0.mk hzz
 have HXE := Aside0.mk hxe
 have HFF := Aside0.mk hF
 clear hzz hxe hF
 refine Calls.mono (HF.out.words (b := g + 1 + 1) (l1 := wCal) (n := 1) (by rw [World.size_alloc, HSB.out, HGN.out]) rfl (by decide) rfl) ?_
 rintro e w2 ⟨rfl, h2⟩
 have HF2 := Aside0.mk h2
 clear HF h2
 have hcp := HF2.out.cell (i := 0) (List.Mem.head _) rfl
 have HPN := Aside0.mk (p_number w w2 g (g + 1) 0 s _ HF2.out.S (HF2.out.has (List.Mem.head _)))
 rw [← hyr, ← hx2] at HPN
 clear hyr hx2
 go_wp2_with fail
 refine Calls.mono HPN.out ?_
 rintro e w3 ⟨rfl, hS, hK⟩
 have HF3 := Aside0.mk (HF2.out.turn hS hK)
 clear HF2 hS hK HPN hcp
 have e1 : w3.cell? ⟨g + 1, 1, none⟩ = _ := blk_cell (HF3.out.has (List.Mem.head _)) 1
 have f1 : w3.frozen? ⟨g + 1, 1, none⟩ = false := blk_frozen (HF3.out.has (List.Mem.head _)) 1
 go_upto_region 4 with fail
 have h4 := HF3.out.set1 (i := 1) (v := .int .i64 yr) (bs' := [(g + 1, pBox g yr)]) H0.out (List.Mem.head _) (fun q hq => by
  obtain rfl := List.mem_singleton.1 hq
  exact .inl rfl)
 generalize World.setCell _ _ _ = w4 at h4 ⊢
 have HF4 := Aside0.mk h4
 clear h4 HF3 e1 f1
 have e1 : w4.cell? ⟨g + 1, 1, none⟩ = _ := blk_cell (HF4.out.has (List.Mem.head _)) 1
 go_upto_region 5 with fail
 have h5 := HF4.out.make (b := w4.heap.size) rfl (.cells #[.int .i64 yr, .slice none 0 0] 25)
 generalize w4.heap.size = bk at h5 ⊢
 generalize World.alloc w4 _ = w5 at h5 ⊢
 have HF5 := Aside0.mk h5
 clear h5 HF4 e1
 have hcp := HF5.out.cell (i := 0) (List.Mem.head _) rfl
 go_wp2_with fail
 refine Calls.mono (HF5.out.words (b := w5.heap.size) (l1 := wNl) (n := 1) rfl rfl (by decide) rfl) ?_
 rintro e w6 ⟨rfl, h6⟩
 rw [← hx3] at h6
 clear hx3 hcp HF5
 obtain ⟨gp, hgp⟩ : ∃ gp, gp = g + 1 := ⟨_, rfl⟩
 rw [← hgp] at h6 ⊢
 have HGP := Aside0.mk hgp
 clear hgp
 have HI := Aside0.mk (show PI w w6 N g gp bk yr s x3 (.slice none 0 0) [] from ⟨h6.S, ⟨h6.has (List.Mem.head _), by have h1 := HGP.out; omega⟩, h6.K.blk HRZ.out HNG.out (by simp), h6.has (List.Mem.tail _ (List.Mem.head _)), Kd.S_nil _ _ _ _ _, ⟨by rw [HN.out]; exact Nat.le_refl _, by have h1 := (h6.N _ (List.Mem.tail _ (List.Mem.head _))).2; have h2 := H0.out; omega, by have h1 := (h6.N _ (List.Mem.tail _ (List.Mem.head _))).2; have h2 := HSB.out; omega⟩⟩)
 have HL := Aside0.mk (show left_ s x3 ≤ s.size + 2 ∧ ([] : List S40).length ≤ x3.1 from ⟨by unfold left_; split <;> omega, Nat.zero_le _⟩)
 have HE := Aside0.mk HFF.out.symm
 clear h6 HNG HGP HGN HRZ HSB HFF H0
 go_wp2_with fail
 go_loopg [] (s.size + 2) (fun kq w' => ∃ les x' v, Aside0 (PI w w' N g gp bk yr s x' v les) ∧ Aside0 (calL s yr kq les x' = F) ∧ Aside0 (left_ s x' ≤ kq ∧ les.length ≤ x'.1))
 case atStart => exact ⟨[], x3, .slice none 0 0, HI, HE, HL⟩
 case round =>
 clear HI HE HL
 obtain ⟨les, x', v, HI, HE, HL⟩ := hrel
 obtain ⟨A, c, rfl⟩ := Kd.S_slice HI.out.E
 have hcp := HI.out.c0
 obtain ⟨u, hu⟩ : ∃ u, u = scW s wDay x' := ⟨_, rfl⟩
 have HWd := Aside0.mk (HI.out.lits (b := wr.heap.size) (l1 := wDay) (n := 2) rfl rfl (by decide) rfl)
 rw [← hu] at HWd
 by_cases u0 : u.1 = 0
 ·have hca := (scW_cases s wDay x').resolve_left (fun h => by rw [← hu, u0] at h; exact absurd h.2 (by decide))
  rw [← hu] at hca
  obtain ⟨k1, rfl⟩ : ∃ m, gk = m + 1 := ⟨gk - 1, by have h1 := HL.out.1; unfold left_ at h1; rw [hca.1] at h1; simp only [Bool.false_eq_true, if_false] at h1; omega⟩
  have hE := HE.out
  rw [calL, ← hu, if_pos u0] at hE
  obtain ⟨q, hq⟩ : ∃ q, q = pcE s yr u.2 := ⟨_, rfl⟩
  have hqg := pcE_ge s yr u.2
  rw [← hq] at hqg hE
  have HG := Aside0.mk (show u.2.1 ≤ q.2.1 from hqg)
  have HQ := Aside0.mk hq
  have HCA := Aside0.mk hca
  have HE := Aside0.mk hE
  have du : (u.1 == 0) = true := by rw [u0]; rfl
  clear hE hca hu hq hqg
  go_wp2_with fail
  refine Calls.mono HWd.out ?_
  rintro e_ w7 ⟨rfl, h7⟩
  have n0_ := Aside0.mk h7
  clear HI HWd h7 hcp
  have HI := n0_
  clear n0_
  go_wp2_with fail
  refine start_ (n := 8) (S := fun w' => w'.cell? ⟨bk, 1, none⟩ = some (.slice A les.length c)) (ds := [7]) #[false, false, false, false, false, false, false, false] (by kernel_rfl) rfl rfl HI.out.drew.k1 (fun hHeld => ?_)
  refine pure_ (i := 0) (N := some 41) (v := ?_) (a' := ?_) #[true, false, false, false, false, false, false, false] rfl rfl (by kernel_rfl) (fun _ _ _ h => h) (Or.inl ⟨by rfl, ?_⟩) ?_ ?_
  rotate_left
  ·intro w'
   go_simp
   with_reducible rfl
  rotate_left
  ·simp only [Act.put, List.setIfInBounds_toArray, List.set_cons_zero, List.set_cons_succ, i64_w, i32_w]
   rfl
  refine take_ (i := 1) (N := some 42) (v := ?_) (a' := ?_) #[true, true, false, false, false, false, false, false] rfl rfl (by kernel_rfl) (fun _ _ _ h => h) (Or.inl ⟨by rfl, ?_⟩) hHeld ?_ ?_
  rotate_left
  ·intro w' s0
   go_simp
   with_reducible rfl
  rotate_left
  ·simp only [Act.put, List.setIfInBounds_toArray, List.set_cons_zero, List.set_cons_succ, i64_w, i32_w]
   rfl
  refine pure_ (i := 2) (N := some 43) (v := ?_) (a' := ?_) #[true, true, true, false, false, false, false, false] rfl rfl (by kernel_rfl) (fun _ _ _ h => h) (Or.inl ⟨by rfl, ?_⟩) ?_ ?_
  rotate_left
  ·intro w'
   go_simp
   with_reducible rfl
  rotate_left
  ·simp only [Act.put, List.setIfInBounds_toArray, List.set_cons_zero, List.set_cons_succ, i64_w, i32_w]
   rfl
  refine one_ (i := 3) (N := some 44) #[true, true, true, true, false, false, false, false] rfl rfl (by kernel_rfl) (by decide) (fun K hK => ?_)
  go_simp
  go_at_call 22
  refine Calls.mono (p_entry w _ g gp yr s u.2 HI.out.drew.S HI.out.drew.P HT.out hs9 q HQ.out.symm) ?_
  rintro e_ wi ⟨u8, u9, rfl, r8, r9, hS, hK2⟩
  have n0_ := Aside0.mk (HI.out.drew.turn hS hK2)
  have HNW := Aside0.mk HI.out.drew.old
  have HB0 := Aside0.mk HI.out.drew.len
  have HEO := Aside0.mk (HI.out.drew.oldS hK2)
  clear HI hS
  have HI := n0_
  clear n0_
  have HRW := Aside0.mk (And.intro r8 r9)
  obtain ⟨A8, c8, rfl⟩ := Kd.R_slice r8
  obtain ⟨A9, c9, rfl⟩ := Kd.R_slice r9
  clear r8 r9 hK2
  refine hK.out _ _ HI.out.k1 (fun hHeld2 => ?_)
  clear hK K hHeld hHeld2
  try simp only [Act.put, List.setIfInBounds_toArray, List.set_cons_zero, List.set_cons_succ]
  refine one_ (i := 4) (N := some 45) #[true, true, true, true, true, false, false, false] rfl rfl (by kernel_rfl) (by decide) (fun K hK => ?_)
  go_simp
  refine hK.out _ _ (HI.out.alloc _).k1 (fun hHeld3 => ?_)
  clear hK K
  try simp only [Act.put, List.setIfInBounds_toArray, List.set_cons_zero, List.set_cons_succ]
  refine one_ (i := 5) (N := some 46) #[true, true, true, true, true, true, false, false] rfl rfl (by kernel_rfl) (by decide) (fun K hK => ?_)
  refine Kd.S_append_step k40 (w0 := wi) (W := wi) w.heap.size rfl (.tmp 42) (.tmp 45) 23 40 (.agg (eC z40 nil_ nil_)) 160 rfl Tryd.underlying23 info40 rfl (by decide) (by omega) (.slice A les.length c) les q.1 (eL q.1 (.slice A8 q.1.f8.length c8) (.slice A9 q.1.f9.length c9)) (fun _ => True) (fun k => some k = (Value.slice A8 q.1.f8.length c8).ownBlock ∨ some k = (Value.slice A9 q.1.f9.length c9).ownBlock) rfl rfl ?aP ?aK (fun _ _ => trivial) ?aO (Below.refl _ _) HI.out.len ?aL ?_
  case aP => exact ent_M HRW.out.1 HRW.out.2 HB0.out
  case aK => exact fun k hk => ⟨trivial, fun e0 => ent_new HRW.out.1 HRW.out.2 HNW.out hk e0⟩
  case aO => exact ent_old HRW.out.1 HRW.out.2 HEO.out
  case aL => have h0 := HCA.out.2.2.1; have h1 := HL.out.2; have h2 := HI.out.S.L; have h3 := HG.out; omega
  intro v1 w1 ho hb hg hat
  have hK1 := blk_grown HI.out.K hg (Kd.S_ne HI.out.E HI.out.K (by decide))
  have h6 := HI.out.app ho hb hg
  have H6 := Aside0.mk h6
  obtain ⟨ys, hys⟩ : ∃ ys, ys = les ++ [q.1] := ⟨_, rfl⟩
  rw [← hys] at ho H6
  have HYS := Aside0.mk hys
  clear hys
  obtain ⟨Av, cv, rfl⟩ := Kd.S_slice ho
  clear ho hb hg hat hHeld3 h6
  refine hK.out _ _ (blk_cell hK1 1) (fun hHeld4 => ?_)
  clear hK K
  simp only [Act.put, List.setIfInBounds_toArray, List.set_cons_zero, List.set_cons_succ]
  have ce : w1.cell? ⟨bk, 1, none⟩ = some (.slice A les.length c) := blk_cell hK1 1
  have fe : w1.frozen? ⟨bk, 1, none⟩ = false := blk_frozen hK1 1
  clear hK1 hHeld4
  refine pure_ (i := 6) (N := some 47) (v := ?_) (a' := ?_) #[true, true, true, true, true, true, true, false] rfl rfl (by kernel_rfl) (fun _ _ _ h => h) (Or.inl ⟨by rfl, ?_⟩) ?_ ?_
  rotate_left
  ·intro w'
   go_simp
   with_reducible rfl
  rotate_left
  ·simp only [Act.put, List.setIfInBounds_toArray, List.set_cons_zero, List.set_cons_succ, i64_w, i32_w]
   rfl
  refine last_ (i := 7) (N := none) #[true, true, true, true, true, true, true, true] rfl rfl (by kernel_rfl) (by decide) (fun K hK => ?_)
  go_simp
  refine hK.out _ _ ?_
  clear hK K
  refine done_ (by kernel_rfl) ?_
  generalize World.setCell _ _ _ = w6 at H6 ⊢
  clear HI ce fe HRW HNW HB0 HEO
  go_wp2_with fail
  go_roundg k1
  case measure => omega
  case rel =>
   have h1 := HCA.out.2.2.1
   have h2 := HG.out
   have h4 := H6.out.S.L
   exact ⟨ys, q.2, _, H6, by rw [HYS.out]; exact HE, ⟨left_step HCA.out.1 HL.out.1 (by omega) h4, by have h3 := HL.out.2; rw [HYS.out]; simp; omega⟩⟩
 ·have hF := HE.out
  rw [calL_end s yr gk les x' (by rw [← hu]; exact u0) HL.out.1, ← hu] at hF
  subst hF
  clear HE hu HL
  have du : (u.1 == 0) = false := beq_eq_false_iff_ne.mpr u0
  go_wp2_with fail
  refine Calls.mono HWd.out ?_
  rintro e_ w7 ⟨rfl, h7⟩
  have n0_ := Aside0.mk h7
  clear HI HWd h7 hcp
  have HI := n0_
  clear n0_
  have hcp := HI.out.c0
  go_wp2_with fail
  refine Calls.mono (HI.out.lits (b := w7.heap.size) (l1 := wNl) (n := 1) rfl rfl (by decide) rfl) ?_
  rintro e_ w8 ⟨rfl, h8⟩
  have n0_ := Aside0.mk h8
  clear HI h8 hcp
  have HI := n0_
  clear n0_
  have hcp := HI.out.c0
  go_wp2_with fail
  have HEn := Aside0.mk HI.out.S.end_
  rw [← HXE.out] at HEn
  refine Calls.mono HEn.out ?_
  rintro e_ w9 ⟨rfl, hS, hK⟩
  have n0_ := Aside0.mk (HI.out.turn hS hK)
  clear HI hS hK hcp HEn HXE
  have HI := n0_
  clear n0_
  have hcp := HI.out.c0
  obtain ⟨xa, fl⟩ := xe
  have HErr := Aside0.mk HI.out.S.err
  have e0 : w9.cell? ⟨N, 0, none⟩ = _ := blk_cell HI.out.Rz 0
  have e1 : w9.cell? ⟨N, 1, none⟩ = _ := blk_cell HI.out.Rz 1
  have f0 : w9.frozen? ⟨N, 0, none⟩ = false := blk_frozen HI.out.Rz 0
  have f1 : w9.frozen? ⟨N, 1, none⟩ = false := blk_frozen HI.out.Rz 1
  have i0 := HI.out.k0
  have i1 := HI.out.k1
  cases fl with
  | true =>
   have hzz := HZZ.out
   rw [if_pos rfl] at hzz
   subst hzz
   go_wp2_with fail
   refine Calls.mono HErr.out ?_
   rintro e_ w4 ⟨rfl, rfl⟩
   go_wp2_with fail
   refine Calls.mono HI.out.S.offset ?_
   rintro e_ w5 ⟨rfl, rfl⟩
   go_wp2_with fail
   have hz : w.heap.size ≤ N := HI.out.Z.1
   refine bodyPost_ret (v := .tuple #[.agg #[.int .i64 0, .slice none 0 0], .int .i64 xa, .int .i64 6]) ?_ rfl ?_
   ·have hq := blk_set (blk_set HI.out.Rz 0 (.int .i64 0)) 1 (.slice none 0 0)
    exact results_ctt (P := Tryd.prog) (fn := Tryd.f9) (p := 2) (u1 := 3) (u2 := 4) (ty := 25) rfl _ _ N _ _ _ rfl hq hu25 rfl (by kernel_rfl)
   ·exact ⟨_, rfl, Kd.S_nil _ _ _ _ _, below_set (below_set HI.out.S.B hz) hz⟩
  | false =>
   have hzz := HZZ.out
   rw [if_neg (show ¬ ((xa, false) : Sc).2 = true from Bool.false_ne_true)] at hzz
   subst hzz
   go_wp2_with fail
   refine Calls.mono HErr.out ?_
   rintro e_ w4 ⟨rfl, rfl⟩
   go_wp2_with fail
   have hz : w.heap.size ≤ N := HI.out.Z.1
   refine bodyPost_ret (v := .tuple #[.agg #[.int .i64 yr, .slice A les.length c], .int .i64 0, .int .i64 0]) ?_ rfl ?_
   ·have hq := blk_set (blk_set HI.out.Rz 0 (.int .i64 yr)) 1 (.slice A les.length c)
    exact results_ctt (P := Tryd.prog) (fn := Tryd.f9) (p := 2) (u1 := 3) (u2 := 4) (ty := 25) rfl _ _ N _ _ _ rfl hq hu25 rfl (by kernel_rfl)
   ·exact ⟨_, rfl, Kd.S_set (Kd.S_set HI.out.E HI.out.Rz (by decide) 0 (.int .i64 yr)) (blk_set HI.out.Rz 0 (.int .i64 yr)) (by decide) 1 (.slice A les.length c), below_set (below_set HI.out.S.B hz) hz⟩
theorem ordotext_Parse.calls (a0 : ByteArray) (r1 : Int) (r2 : List S40) (r3 r4 : Int) (w : World) (hT : Tabs w) (h : ordotext_Parse.f a0 = some (r1, r2, r3, r4)) :
  Calls Tryd.prog 9 #[.string a0] w fun e w' => ∃ v1_ : Value, e = .returned (.tuple #[.agg #[.int .i64 r1, v1_], .int .i64 r3, .int .i64 r4]) ∧ Kd.S k40 40 w' w.heap.size (fun _ => True) v1_ r2 ∧ Below w.heap.size w w' := by
 unfold ordotext_Parse.f at h
 split at h
 ·rename_i hs
  have h := Option.some.inj h
  have H := parse_any w a0 hT hs
  rw [h] at H
  exact H
 ·exact absurd h (by simp)
end Go.Proofs.YtlchefonlfokgaaDoor.Q
end
section
namespace Go.Proofs.YtlchefonlfokgaaDoor.Q
open Go.RowKit Go.Proofs.YtlchefonlfokgaaDoorW.PrintWords Go.Proofs.YtlchefonlfokgaaDoorW.PrintLast
set_option maxRecDepth 100000
instance (l : List ByteArray) : Decidable (∀ w ∈ l, 0 < w.size ∧ w.size ≤ 20) := by infer_instance
theorem wdSp : Wds wSp := ⟨by decide +kernel, by decide +kernel, by decide⟩
theorem wdNl : Wds wNl := ⟨by decide +kernel, by decide +kernel, by decide⟩
theorem wdDays : Wds tDays := ⟨by decide +kernel, by decide +kernel, by decide⟩
theorem wdKinds : Wds tKinds := ⟨by decide +kernel, by decide +kernel, by decide⟩
theorem wdCal : Wds wCal := ⟨by decide +kernel, by decide +kernel, by decide⟩
theorem wdDay : Wds wDay := ⟨by decide +kernel, by decide +kernel, by decide⟩
theorem wdFrom : Wds wFrom := ⟨by decide +kernel, by decide +kernel, by decide⟩
theorem wdWith : Wds wWith := ⟨by decide +kernel, by decide +kernel, by decide⟩
theorem wdOut (om : Bool) : Wds (wOut om) := by cases om <;> exact ⟨by decide +kernel, by decide +kernel, by decide⟩
def bO : ByteArray := ⟨#[111, 117, 116, 32]⟩
theorem scW_of {s : ByteArray} {l : List ByteArray} (hl : Wds l) {x : Sc} (hb : x.2 = false) (hx : x.1 ≤ s.size) {r : Bool × Nat × Int} (h : WR s x.1 l r) : scW s l x = (if r.1 then r.2.2 else -1, r.2.1, !r.1) := by
 have h2 := WR_one hx hl.F (scWord_spec hx (fun w hw => (hl.S w hw).1)) h
 unfold scW
 rw [if_neg (by rw [hb]; decide), h2]
end Go.Proofs.YtlchefonlfokgaaDoor.Q
end
section
namespace Go.Proofs.YtlchefonlfokgaaDoor.Q
open Go.RowKit Go.Proofs.YtlchefonlfokgaaDoorW.PrintWords Go.Proofs.YtlchefonlfokgaaDoorW.PrintLast
set_option maxRecDepth 100000
theorem tlL_bad {s : ByteArray} {m : Nat} {om : Bool} {lc lo : List ByteArray} {x : Sc} (h : x.2 = true) : tlL s m om lc lo x = (lc, lo, x) := by
 cases m with
 | zero => rfl
 | succ m => rw [tlL, scW_badE s _ h, if_neg (by show ¬ (-1 : Int) = 1; decide)]
end Go.Proofs.YtlchefonlfokgaaDoor.Q
end
section
namespace Go.Proofs.YtlchefonlfokgaaDoor.Q
open Go.RowKit Go.Proofs.YtlchefonlfokgaaDoorW.PrintWords Go.Proofs.YtlchefonlfokgaaDoorW.PrintLast
set_option maxRecDepth 100000
end Go.Proofs.YtlchefonlfokgaaDoor.Q
end
section
namespace Go.Proofs.YtlchefonlfokgaaDoor.Q
open Go.RowKit Go.Proofs.YtlchefonlfokgaaDoorW.PrintWords Go.Proofs.YtlchefonlfokgaaDoorW.PrintLast
set_option maxRecDepth 100000
theorem texts_l0 (l : List ByteArray) (h : l.length ≤ 1000000000) : ∀ d i : Nat, i + d = l.length → Ev (fun k => computusref23_Texts.l0 k l l (i : Int)) true
 | 0, i, hi => Ev.step (fun k => computusref23_Texts.l0.eq_2 ..) (Ev.congr (fun k => if_neg (by omega)) (Ev.now _))
 | d + 1, i, hi => by
  refine Ev.step (fun k => computusref23_Texts.l0.eq_2 ..) (Ev.congr (fun k => (if_pos (by omega)).trans ((if_pos (by omega)).trans ((if_pos (by omega)).trans (if_pos rfl)))) ?_)
  rw [wN i (by omega)]
  exact texts_l0 l h d (i + 1) (by omega)
theorem texts_ev (l : List ByteArray) (h : l.length ≤ 1000000000) : Ev (fun k => computusref23_Texts.f k l l) true := by
 unfold computusref23_Texts.f
 exact Ev.congr (fun k => if_pos rfl) (texts_l0 l h l.length 0 (by omega))
theorem sameE_ev (a0 a1 a2 a3 : Int) (a4 : ByteArray) (a5 a6 : Int) (a7 : ByteArray) (a8 a9 a10 a11 : Int) (l l' : List ByteArray) (h : l.length ≤ 1000000000) (h' : l'.length ≤ 1000000000) :
  Ev (fun k => computusref23_SameEntry.f k a0 a1 a2 a3 a4 a5 a6 a7 a8 a9 a10 a11 l l' a0 a1 a2 a3 a4 a5 a6 a7 a8 a9 a10 a11 l l') true := by
 unfold computusref23_SameEntry.f
 refine Ev.congr (fun k => (if_pos (by simp)).trans ((if_pos rfl).trans ((if_pos rfl).trans ((if_pos rfl).trans ((if_pos rfl).trans ((if_pos rfl).trans ((if_pos rfl).trans (if_pos (by simp))))))))) ?_
 exact Ev.bind (texts_ev l h) (Ev.congr (fun k => if_pos rfl) (Ev.bind (texts_ev l' h') (Ev.now _)))
theorem same_l0 (y : Int) (les : List S40) (h : les.length ≤ 1000000000) (hl : ∀ e ∈ les, e.f8.length ≤ 1000000000 ∧ e.f9.length ≤ 1000000000) : ∀ d i : Nat, i + d = les.length → Ev (fun k => computusref23_Same.l0 k (i : Int) y les y les) true
 | 0, i, hi => Ev.step (fun k => computusref23_Same.l0.eq_2 ..) (Ev.congr (fun k => if_neg (by omega)) (Ev.now _))
 | d + 1, i, hi => by
  have hm : rd_T40 les (i : Int) ∈ les := by
   unfold rd_T40
   rw [Int.toNat_natCast, List.getD, List.getElem?_eq_getElem (show i < les.length by omega)]
   exact List.getElem_mem _
  have h2 := hl _ hm
  refine Ev.step (fun k => computusref23_Same.l0.eq_2 ..) (Ev.congr (fun k => (if_pos (by omega)).trans ((if_pos (by omega)).trans (if_pos (by omega)))) ?_)
  refine Ev.bind (sameE_ev _ _ _ _ _ _ _ _ _ _ _ _ _ _ h2.1 h2.2) (Ev.congr (fun k => if_pos rfl) ?_)
  rw [wN i (by omega)]
  exact same_l0 y les h hl d (i + 1) (by omega)
theorem same_ev (y : Int) (les : List S40) (h : les.length ≤ 1000000000) (hl : ∀ e ∈ les, e.f8.length ≤ 1000000000 ∧ e.f9.length ≤ 1000000000) : Ev (fun k => computusref23_Same.f k y les y les) true := by
 unfold computusref23_Same.f
 refine Ev.congr (fun k => if_pos rfl) ?_
 exact Ev.step (fun k => computusref23_Same.j0.eq_2 ..) (Ev.congr (fun k => if_neg (by simp)) (same_l0 y les h hl les.length 0 (by omega)))
end Go.Proofs.YtlchefonlfokgaaDoor.Q
end
