/- What is proved: what the statement OccurrenceDisplacesSaid needs, part 2 of 6; the last part proves the statement. No condition. -/
import Derived.Test.YtopfjjdkffdjpaaZODs0
set_option maxHeartbeats 8000000
set_option maxRecDepth 100000
set_option linter.unusedVariables false
set_option linter.unusedSimpArgs false
section
namespace Go.Proofs.Ytopfjjdkffdjpaa.Q
open Go.RowKit Go.Proofs.YtopfjjdkffdjpaaW.PrintWords Go.Proofs.YtopfjjdkffdjpaaW.PrintLast Go.Proofs.YtopfjjdkffdjpaaW.PrintMore Go.Proofs.Ytopfjjdkffdjpaa.Srt
attribute [local go_sem ↓] Go.wp_at_zero Go.wp_at_succ
abbrev Cd := S28
def cand (x : Cd) : List Value := [.int .i64 x.f0, .int .i64 x.f1, .int .i64 x.f2, .string x.f3]
structure PSt (g c B n : Nat) (w0 : World) (L : List Cd) (w : World) : Prop where
 blk : ∃ cur, w.heap[g]? = some (.cells cur 28 (0, 0)) ∧ cur.size = c * 4 ∧ ∀ (i : Nat) (x : Cd), L[i]? = some x → cur[i * 4]? = some (.int .i64 x.f0) ∧ cur[i * 4 + 1]? = some (.int .i64 x.f1) ∧ cur[i * 4 + 2]? = some (.int .i64 x.f2) ∧ cur[i * 4 + 3]? = some (.string x.f3)
 len : L.length = n
 cap : n ≤ c
 big : c ≤ maxLen
 low : B ≤ g
 below : Below B w0 w
variable {g c B n : Nat} {w0 : World}
theorem PSt.cells {L : List Cd} {w : World} (h : PSt g c B n w0 L w) (i : Nat) (hi : i < L.length) :
  w.cell? ⟨g, i * 4, none⟩ = some (.int .i64 (L.getD i z28).f0) ∧ w.cell? ⟨g, i * 4 + 1, none⟩ = some (.int .i64 (L.getD i z28).f1) ∧ w.cell? ⟨g, i * 4 + 2, none⟩ = some (.int .i64 (L.getD i z28).f2) ∧ w.cell? ⟨g, i * 4 + 3, none⟩ = some (.string (L.getD i z28).f3) := by
 obtain ⟨cur, hb, hs, hc⟩ := h.blk
 have := hc i (L.getD i z28) (by rw [getD_get _ _ _ hi, List.getElem?_eq_getElem hi])
 have e : ∀ j u, cur[j]? = some u → w.cell? ⟨g, j, none⟩ = some u := fun j u hj => by simp [World.cell?, World.cells?, hb, hj]
 exact ⟨e _ _ this.1, e _ _ this.2.1, e _ _ this.2.2.1, e _ _ this.2.2.2⟩
theorem PSt.drew {L : List Cd} {w : World} (h : PSt g c B n w0 L w) : PSt g c B n w0 L w.drew := ⟨h.blk, h.len, h.cap, h.big, h.low, h.below.drew⟩
theorem PSt.lt {L : List Cd} {w : World} (h : PSt g c B n w0 L w) : g < w.heap.size := by
 obtain ⟨cur, hb, _⟩ := h.blk
 exact (Array.getElem?_eq_some_iff.1 hb).1
theorem PSt.step {L : List Cd} {w w1 : World} (h : PSt g c B n w0 L w) (hb : Below w.heap.size w w1) (hw : B ≤ w.heap.size) : PSt g c B n w0 L w1 := by
 obtain ⟨cur, hb2, hs, hc⟩ := h.blk
 exact ⟨⟨cur, (hb.block g h.lt).trans hb2, hs, hc⟩, h.len, h.cap, h.big, h.low, h.below.trans (hb.mono hw)⟩
theorem PSt.room {L : List Cd} {w : World} (h : PSt g c B n w0 L w) : B ≤ w.heap.size := Nat.le_trans h.low (Nat.le_of_lt h.lt)
theorem PSt.soft {L : List Cd} {w : World} (h : PSt g c B n w0 L w) (j : Nat) : w.frozen? ⟨g, j, none⟩ = false := by
 obtain ⟨cur, hb, _⟩ := h.blk
 simp [World.frozen?, hb]
def lessB (x y : Cd) : Bool := if x.f2 = y.f2 then (if x.f0 = y.f0 then decide (x.f1 < y.f1) else decide (x.f0 < y.f0)) else decide (x.f2 < y.f2)
theorem less_f (x y : Cd) : precedence_Precedes.f x.f0 x.f1 x.f2 x.f3 y.f0 y.f1 y.f2 y.f3 = some (lessB x y) := by
 unfold precedence_Precedes.f lessB
 repeat' split
 all_goals rfl
theorem len_order (L : List Cd) (w : World) (h : PSt g c B n w0 L w) : Calls Try.prog 111 #[.slice (some ⟨g, 0, none⟩) n c] w fun e w' => e = .returned (.int .i64 L.length) ∧ PSt g c B n w0 L w' := by
 have H := Aside0.mk h
 have hl : L.length = n := h.len
 clear h
 go_enter Try.func111, Try.ntmps111
 go_wp2_with fail
 go_ret
 exact ⟨by rw [hl]; rfl, H.out⟩
theorem less_order (L : List Cd) (w : World) (i k : Nat) (vi vk : Int) (h : PSt g c B n w0 L w) (hi : i < L.length) (hk : k < L.length) (ei : vi = i) (ek : vk = k) :
  Calls Try.prog 112 #[.slice (some ⟨g, 0, none⟩) n c, .int .i64 vi, .int .i64 vk] w fun e w' => e = .returned (.bool (lessB (L.getD i z28) (L.getD k z28))) ∧ PSt g c B n w0 L w' := by
 subst ei
 subst ek
 have H := Aside0.mk h
 have hu := Try.underlying28
 obtain ⟨x, hx⟩ : ∃ x, x = L.getD i z28 := ⟨_, rfl⟩
 obtain ⟨y, hy⟩ : ∃ y, y = L.getD k z28 := ⟨_, rfl⟩
 have cx := h.cells i hi
 have cy := h.cells k hk
 rw [← hx] at cx ⊢
 rw [← hy] at cy ⊢
 have b1 : (0 : Int) ≤ (i : Int) := by omega
 have b2 : (i : Int) < (n : Int) := by have := h.len; omega
 have b3 : (0 : Int) ≤ (k : Int) := by omega
 have b4 : (k : Int) < (n : Int) := by have := h.len; omega
 have CX := Aside0.mk cx
 have CY := Aside0.mk cy
 clear h cx cy hx hy hi hk
 go_enter Try.func112, Try.ntmps112
 go_wp2_with fail
 have D := Aside0.mk H.out.drew
 obtain ⟨x1, x2, x3, x4⟩ := CX.out
 obtain ⟨y1, y2, y3, y4⟩ := CY.out
 clear CX CY H
 go_region_held3 (fun w' => w'.cell? ⟨g, i * 4, none⟩ = some (.int .i64 x.f0) ∧ w'.cell? ⟨g, i * 4 + 1, none⟩ = some (.int .i64 x.f1) ∧ w'.cell? ⟨g, i * 4 + 2, none⟩ = some (.int .i64 x.f2) ∧ w'.cell? ⟨g, i * 4 + 3, none⟩ = some (.string x.f3) ∧ w'.cell? ⟨g, k * 4, none⟩ = some (.int .i64 y.f0) ∧ w'.cell? ⟨g, k * 4 + 1, none⟩ = some (.int .i64 y.f1) ∧ w'.cell? ⟨g, k * 4 + 2, none⟩ = some (.int .i64 y.f2) ∧ w'.cell? ⟨g, k * 4 + 3, none⟩ = some (.string y.f3)) (first | go_keep | (refine ⟨?_, ?_, ?_, ?_, ?_, ?_, ?_, ?_⟩ <;> exact (hb.cell (World.block_lt_of_cell? _ _ (by assumption))).trans (by assumption)))
  ((go_at_call 12; refine (precedence_Precedes.calls _ _ _ _ _ _ _ _ _ _ (less_f x y)).mono ?_; rintro e w' ⟨rfl, hb⟩))
 have H2 := Aside0.mk (D.out.step hb D.out.room)
 clear D hb
 go_wp2_with fail
 go_ret
 exact ⟨rfl, H2.out⟩
theorem PSt.there {L : List Cd} {w : World} (h : PSt g c B n w0 L w) (i : Nat) (hi : i < L.length) : w.there g (i * 4) 4 := by
 intro j hj
 refine ⟨?_, h.soft _⟩
 obtain ⟨x1, x2, x3, x4⟩ := h.cells i hi
 rcases (show j = 0 ∨ j = 1 ∨ j = 2 ∨ j = 3 from by omega) with e | e | e | e <;> subst e
 ·rw [show i * 4 + 0 = i * 4 from rfl, x1]; rfl
 ·rw [x2]; rfl
 ·rw [x3]; rfl
 ·rw [x4]; rfl
theorem heap_setCells_at (g : Nat) : ∀ (vs : List Value) (o : Nat) (w : World) (cur : Array Value) (t : TypeId), w.heap[g]? = some (.cells cur t (0, 0)) → o + vs.length ≤ cur.size →
  ∃ cur', (w.setCells g o vs).heap[g]? = some (.cells cur' t (0, 0)) ∧ cur'.size = cur.size ∧ (∀ j, j < vs.length → cur'[o + j]? = vs[j]?) ∧ (∀ j, j < o ∨ o + vs.length ≤ j → cur'[j]? = cur[j]?)
 | [], o, w, cur, t, h, _ => ⟨cur, h, rfl, fun j hj => by simp at hj, fun _ _ => rfl⟩
 | v :: vs, o, w, cur, t, h, hl => by
  have hlt : g < w.heap.size := (Array.getElem?_eq_some_iff.1 h).1
  have h1 : (w.setCell ⟨g, o, none⟩ v).heap[g]? = some (.cells (cur.setIfInBounds o v) t (0, 0)) := by
   simp only [World.setCell, Array.getElem?_modify, if_true, h, Option.map_some]
   rfl
  obtain ⟨cur', e1, e2, e3, e4⟩ := heap_setCells_at g vs (o + 1) (w.setCell ⟨g, o, none⟩ v) _ t h1 (by simp at hl ⊢; omega)
  simp at hl
  refine ⟨cur', e1, by rw [e2, Array.size_setIfInBounds], fun j hj => ?_, fun j hj => ?_⟩
  ·cases j with
   | zero =>
    rw [Nat.add_zero, e4 o (.inl (by omega)), Array.getElem?_setIfInBounds_self_of_lt (by omega)]
    rfl
   | succ j =>
    rw [show o + (j + 1) = o + 1 + j by omega, e3 j (by simpa using hj)]
    rfl
  ·simp at hj
   rw [e4 j (by omega), Array.getElem?_setIfInBounds_ne (by omega)]
theorem setCells_other (g : Nat) : ∀ (vs : List Value) (o : Nat) (w : World), Below g w (w.setCells g o vs)
 | [], o, w => Below.refl _ _
 | v :: vs, o, w => ((Below.refl g w).setCell (p := ⟨g, o, none⟩) (Nat.le_refl _) v).trans (setCells_other g vs (o + 1) _)
theorem PSt.put {L : List Cd} {w : World} (h : PSt g c B n w0 L w) (i : Nat) (hi : i < L.length) (y : Cd) : PSt g c B n w0 (L.set i y) (w.setCells g (i * 4) [.int .i64 y.f0, .int .i64 y.f1, .int .i64 y.f2, .string y.f3]) := by
 obtain ⟨cur, hb, hs, hc⟩ := h.blk
 have hcap := h.cap
 have hlen := h.len
 obtain ⟨cur', e1, e2, e3, e4⟩ := heap_setCells_at g [.int .i64 y.f0, .int .i64 y.f1, .int .i64 y.f2, .string y.f3] (i * 4) w cur _ hb (by simp; omega)
 refine ⟨⟨cur', e1, e2.trans hs, fun k x hx => ?_⟩, by rw [List.length_set]; exact hlen, hcap, h.big, h.low, h.below.trans ((setCells_other g _ _ w).mono h.low)⟩
 by_cases hk : k = i
 ·subst hk
  rw [List.getElem?_set_self hi] at hx
  obtain rfl := Option.some.inj hx
  exact ⟨e3 0 (by simp), e3 1 (by simp), e3 2 (by simp), e3 3 (by simp)⟩
 ·rw [List.getElem?_set_ne (by omega)] at hx
  have hc2 := hc k x hx
  rw [e4 (k * 4) (by simp; omega), e4 (k * 4 + 1) (by simp; omega), e4 (k * 4 + 2) (by simp; omega), e4 (k * 4 + 3) (by simp; omega)]
  exact hc2
theorem swap_order (L : List Cd) (w : World) (i k : Nat) (vi vk : Int) (h : PSt g c B n w0 L w) (hi : i < L.length) (hk : k < L.length) (ei : vi = i) (ek : vk = k) :
  Calls Try.prog 113 #[.slice (some ⟨g, 0, none⟩) n c, .int .i64 vi, .int .i64 vk] w fun e w' => e = .returned (.tuple #[]) ∧ PSt g c B n w0 (swp z28 L i k) w' := by
 subst ei
 subst ek
 have hsz : (Try.prog.info? 28).map (·.size) = some 4 := by kernel_rfl
 obtain ⟨x, hx⟩ : ∃ x, x = L.getD i z28 := ⟨_, rfl⟩
 obtain ⟨y, hy⟩ : ∃ y, y = L.getD k z28 := ⟨_, rfl⟩
 have cx := h.cells i hi
 have cy := h.cells k hk
 rw [← hx] at cx
 rw [← hy] at cy
 have hsw : swp z28 L i k = (L.set i y).set k x := by rw [hx, hy]; rfl
 rw [hsw]
 have H1 := h.drew.put i hi y
 have H2 := Aside0.mk (H1.put k (by rw [List.length_set]; exact hk) x)
 have HT1 := Aside0.mk (h.drew.there i hi)
 have HT2 := Aside0.mk (H1.there k (by rw [List.length_set]; exact hk))
 have b1 : (0 : Int) ≤ (i : Int) := by omega
 have b2 : (i : Int) < (n : Int) := by have := h.len; omega
 have b3 : (0 : Int) ≤ (k : Int) := by omega
 have b4 : (k : Int) < (n : Int) := by have := h.len; omega
 have HC := Aside0.mk (And.intro cx cy)
 have hu := Try.underlying28
 clear h hx hy hi hk hsw H1 cx cy
 go_enter Try.func113, Try.ntmps113
 go_wp2_with fail
 refine start_ (n := 16) (S := fun w' => w'.cell? ⟨g, i * 4, none⟩ = some (.int .i64 x.f0) ∧ w'.cell? ⟨g, i * 4 + 1, none⟩ = some (.int .i64 x.f1) ∧ w'.cell? ⟨g, i * 4 + 2, none⟩ = some (.int .i64 x.f2) ∧ w'.cell? ⟨g, i * 4 + 3, none⟩ = some (.string x.f3) ∧ w'.cell? ⟨g, k * 4, none⟩ = some (.int .i64 y.f0) ∧ w'.cell? ⟨g, k * 4 + 1, none⟩ = some (.int .i64 y.f1) ∧ w'.cell? ⟨g, k * 4 + 2, none⟩ = some (.int .i64 y.f2) ∧ w'.cell? ⟨g, k * 4 + 3, none⟩ = some (.string y.f3)) (ds := [13, 15]) #[false, false, false, false, false, false, false, false, false, false, false, false, false, false, false, false] (by kernel_rfl) rfl rfl ⟨HC.out.1.1, HC.out.1.2.1, HC.out.1.2.2.1, HC.out.1.2.2.2, HC.out.2.1, HC.out.2.2.1, HC.out.2.2.2.1, HC.out.2.2.2.2⟩ (fun hHeld => ?_)
 refine pure_ (i := 0) (N := some 6) (v := ?_) (a' := ?_) #[true, false, false, false, false, false, false, false, false, false, false, false, false, false, false, false] rfl rfl (by kernel_rfl) (fun _ _ _ h => h) (Or.inl ⟨by rfl, ?_⟩) ?_ ?_
 rotate_left
 ·intro w'
  go_simp
  with_reducible rfl
 rotate_left
 ·simp only [Act.put, List.setIfInBounds_toArray, List.set_cons_zero, List.set_cons_succ, i64_w, i32_w]
  rfl
 refine pure_ (i := 1) (N := some 7) (v := ?_) (a' := ?_) #[true, true, false, false, false, false, false, false, false, false, false, false, false, false, false, false] rfl rfl (by kernel_rfl) (fun _ _ _ h => h) (Or.inl ⟨by rfl, ?_⟩) ?_ ?_
 rotate_left
 ·intro w'
  go_simp
  with_reducible rfl
 rotate_left
 ·simp only [Act.put, List.setIfInBounds_toArray, List.set_cons_zero, List.set_cons_succ, i64_w, i32_w]
  rfl
 refine pure_ (i := 2) (N := some 8) (v := ?_) (a' := ?_) #[true, true, true, false, false, false, false, false, false, false, false, false, false, false, false, false] rfl rfl (by kernel_rfl) (fun _ _ _ h => h) (Or.inl ⟨by rfl, ?_⟩) ?_ ?_
 rotate_left
 ·intro w'
  go_simp
  with_reducible rfl
 rotate_left
 ·simp only [Act.put, List.setIfInBounds_toArray, List.set_cons_zero, List.set_cons_succ, i64_w, i32_w]
  rfl
 refine pure_ (i := 3) (N := some 9) (v := ?_) (a' := ?_) #[true, true, true, true, false, false, false, false, false, false, false, false, false, false, false, false] rfl rfl (by kernel_rfl) (fun _ _ _ h => h) (Or.inl ⟨by rfl, ?_⟩) ?_ ?_
 rotate_left
 ·intro w'
  go_simp
  with_reducible rfl
 rotate_left
 ·simp only [Act.put, List.setIfInBounds_toArray, List.set_cons_zero, List.set_cons_succ, i64_w, i32_w]
  rfl
 refine pure_ (i := 4) (N := some 10) (v := ?_) (a' := ?_) #[true, true, true, true, true, false, false, false, false, false, false, false, false, false, false, false] rfl rfl (by kernel_rfl) (fun _ _ _ h => h) (Or.inl ⟨by rfl, ?_⟩) ?_ ?_
 rotate_left
 ·intro w'
  go_simp
  with_reducible rfl
 rotate_left
 ·simp only [Act.put, List.setIfInBounds_toArray, List.set_cons_zero, List.set_cons_succ, i64_w, i32_w]
  rfl
 refine pure_ (i := 5) (N := some 11) (v := ?_) (a' := ?_) #[true, true, true, true, true, true, false, false, false, false, false, false, false, false, false, false] rfl rfl (by kernel_rfl) (fun _ _ _ h => h) (Or.inl ⟨by rfl, ?_⟩) ?_ ?_
 rotate_left
 ·intro w'
  go_simp
  with_reducible rfl
 rotate_left
 ·simp only [Act.put, List.setIfInBounds_toArray, List.set_cons_zero, List.set_cons_succ, i64_w, i32_w]
  rfl
 refine pure_ (i := 6) (N := some 12) (v := ?_) (a' := ?_) #[true, true, true, true, true, true, true, false, false, false, false, false, false, false, false, false] rfl rfl (by kernel_rfl) (fun _ _ _ h => h) (Or.inl ⟨by rfl, ?_⟩) ?_ ?_
 rotate_left
 ·intro w'
  go_simp
  with_reducible rfl
 rotate_left
 ·simp only [Act.put, List.setIfInBounds_toArray, List.set_cons_zero, List.set_cons_succ, i64_w, i32_w]
  rfl
 refine pure_ (i := 8) (N := some 14) (v := ?_) (a' := ?_) #[true, true, true, true, true, true, true, false, true, false, false, false, false, false, false, false] rfl rfl (by kernel_rfl) (fun _ _ _ h => h) (Or.inl ⟨by rfl, ?_⟩) ?_ ?_
 rotate_left
 ·intro w'
  go_simp
  with_reducible rfl
 rotate_left
 ·simp only [Act.put, List.setIfInBounds_toArray, List.set_cons_zero, List.set_cons_succ, i64_w, i32_w]
  rfl
 refine pure_ (i := 9) (N := some 15) (v := ?_) (a' := ?_) #[true, true, true, true, true, true, true, false, true, true, false, false, false, false, false, false] rfl rfl (by kernel_rfl) (fun _ _ _ h => h) (Or.inl ⟨by rfl, ?_⟩) ?_ ?_
 rotate_left
 ·intro w'
  go_simp
  with_reducible rfl
 rotate_left
 ·simp only [Act.put, List.setIfInBounds_toArray, List.set_cons_zero, List.set_cons_succ, i64_w, i32_w]
  rfl
 refine pure_ (i := 10) (N := some 16) (v := ?_) (a' := ?_) #[true, true, true, true, true, true, true, false, true, true, true, false, false, false, false, false] rfl rfl (by kernel_rfl) (fun _ _ _ h => h) (Or.inl ⟨by rfl, ?_⟩) ?_ ?_
 rotate_left
 ·intro w'
  go_simp
  with_reducible rfl
 rotate_left
 ·simp only [Act.put, List.setIfInBounds_toArray, List.set_cons_zero, List.set_cons_succ, i64_w, i32_w]
  rfl
 refine take_ (i := 7) (N := some 13) (v := ?_) (a' := ?_) #[true, true, true, true, true, true, true, true, true, true, true, false, false, false, false, false] rfl rfl (by kernel_rfl) (fun _ _ _ h => h) (Or.inl ⟨by rfl, ?_⟩) hHeld ?_ ?_
 rotate_left
 ·rintro w' ⟨s0, s1, s2, s3, s4, s5, s6, s7⟩
  go_simp
  with_reducible rfl
 rotate_left
 ·simp only [Act.put, List.setIfInBounds_toArray, List.set_cons_zero, List.set_cons_succ, i64_w, i32_w]
  rfl
 refine take_ (i := 11) (N := some 17) (v := ?_) (a' := ?_) #[true, true, true, true, true, true, true, true, true, true, true, true, false, false, false, false] rfl rfl (by kernel_rfl) (fun _ _ _ h => h) (Or.inl ⟨by rfl, ?_⟩) hHeld ?_ ?_
 rotate_left
 ·rintro w' ⟨s0, s1, s2, s3, s4, s5, s6, s7⟩
  go_simp
  with_reducible rfl
 rotate_left
 ·simp only [Act.put, List.setIfInBounds_toArray, List.set_cons_zero, List.set_cons_succ, i64_w, i32_w]
  rfl
 refine pure_ (i := 12) (N := some 18) (v := ?_) (a' := ?_) #[true, true, true, true, true, true, true, true, true, true, true, true, true, false, false, false] rfl rfl (by kernel_rfl) (fun _ _ _ h => h) (Or.inl ⟨by rfl, ?_⟩) ?_ ?_
 rotate_left
 ·intro w'
  go_simp
  with_reducible rfl
 rotate_left
 ·simp only [Act.put, List.setIfInBounds_toArray, List.set_cons_zero, List.set_cons_succ, i64_w, i32_w]
  rfl
 refine last_ (i := 13) (N := none) #[true, true, true, true, true, true, true, true, true, true, true, true, true, true, false, false] rfl rfl (by kernel_rfl) (by decide) (fun K hK => ?_)
 rw [if_pos (by rfl)]
 refine wp_store_mid 28 _ _ rfl g (i * 4) #[.int .i64 y.f0, .int .i64 y.f1, .int .i64 y.f2, .string y.f3] rfl rfl HT1.out hsz (by simp [Value.oneCell']) ?_
 refine hK.out _ _ ?_
 clear hK K
 simp only [Act.put]
 refine pure_ (i := 14) (N := some 19) (v := ?_) (a' := ?_) #[true, true, true, true, true, true, true, true, true, true, true, true, true, true, true, false] rfl rfl (by kernel_rfl) (fun _ _ _ h => h) (Or.inl ⟨by rfl, ?_⟩) ?_ ?_
 rotate_left
 ·intro w'
  go_simp
  with_reducible rfl
 rotate_left
 ·simp only [Act.put, List.setIfInBounds_toArray, List.set_cons_zero, List.set_cons_succ, i64_w, i32_w]
  rfl
 refine last_ (i := 15) (N := none) #[true, true, true, true, true, true, true, true, true, true, true, true, true, true, true, true] rfl rfl (by kernel_rfl) (by decide) (fun K hK => ?_)
 rw [if_pos (by rfl)]
 refine wp_store_mid 28 _ _ rfl g (k * 4) #[.int .i64 x.f0, .int .i64 x.f1, .int .i64 x.f2, .string x.f3] rfl rfl HT2.out hsz (by simp [Value.oneCell']) ?_
 refine hK.out _ _ ?_
 clear hK K
 simp only [Act.put]
 refine done_ (by kernel_rfl) ?_
 go_end0
 exact ⟨rfl, H2.out⟩
end Go.Proofs.Ytopfjjdkffdjpaa.Q
end
section
namespace Go.Proofs.Ytopfjjdkffdjpaa.Q
open Go.RowKit Go.Shelf Go.Proofs.YtopfjjdkffdjpaaW.PrintWords Go.Proofs.YtopfjjdkffdjpaaW.PrintLast Go.Proofs.YtopfjjdkffdjpaaW.PrintMore
def insR : Ren := { f := fun x => if x = 21 then 41 else if x = 27 then 52 else if x = 28 then 53 else if x = 35 then 62 else if x = 39 then 75 else 0, t := fun x => if x = 0 then 0 else if x = 3 then 3 else if x = 4 then 4 else if x = 22 then 40 else 0, g := fun x => x }
theorem lays_insert : Lays2.n21 Try.prog insR where
 mixed := by kernel_rfl
 f21 := by kernel_rfl
 f27 := by kernel_rfl
 f28 := by kernel_rfl
 f35 := by kernel_rfl
 f39 := by kernel_rfl
 t0 := by kernel_rfl
 a0 := fun _ => by kernel_rfl
 z0 := fun _ => by kernel_rfl
 v0 := fun _ => by kernel_rfl
 t3 := by kernel_rfl
 a3 := fun _ => by kernel_rfl
 z3 := fun _ => by kernel_rfl
 v3 := fun _ => by kernel_rfl
 t4 := by kernel_rfl
 a4 := fun _ => by kernel_rfl
 z4 := fun _ => by kernel_rfl
 v4 := fun _ => by kernel_rfl
 t22 := by kernel_rfl
 a22 := fun _ => by kernel_rfl
 z22 := fun _ => by kernel_rfl
 v22 := fun _ => by kernel_rfl
 i3 := by kernel_rfl
theorem own_row {w : World} {B g c n : Nat} {cur : Array Value} {l : List Int} (hg : B ≤ g) (hh : w.heap[g]? = some (.cells cur 3 (0, 0))) (hn : n = l.length) (hc : n ≤ c) (hm : c ≤ maxLen) (hs : cur.size = c) (ht : ∀ j, j < n → cur[j]? = (encs encI l)[j]?) : w.ownsRow B 3 1 (.slice (some ⟨g, 0, none⟩) n c) n (encs encI l) := by
 refine ⟨by rw [encs_length, hn, Nat.mul_one], .inr ⟨g, c, cur, rfl, hg, hh, hc, hm, by rw [hs, Nat.mul_one], ?_⟩⟩
 apply List.ext_getElem?
 intro j
 rw [Nat.mul_one]
 by_cases hj : j < n
 ·rw [List.getElem?_take_of_lt hj, Array.getElem?_toList]
  exact ht j hj
 ·rw [List.getElem?_eq_none (by rw [List.length_take]; omega), List.getElem?_eq_none (by rw [encs_length]; omega)]
theorem grown_set {w w' : World} {g : Nat} (ho : w'.os = w.os) (ht : w'.tape = w.tape) (hp : w'.output = w.output) (hs : w.heap.size ≤ w'.heap.size) (hk : ∀ k, k < w.heap.size → k ≠ g → w'.heap[k]? = w.heap[k]?) : w.grownBy w' (some g) := ⟨ho, ht, hp, hs, fun k h1 h2 => hk k h1 (fun e => h2 (by rw [e]))⟩
theorem below_grown {B : Nat} {w0 w w' : World} {row : Option Nat} (h : Below B w0 w) (hB : B ≤ w.heap.size) (hg : w.grownBy w' row) (hr : ∀ k, row = some k → B ≤ k) : Below B w0 w' := h.grown hg hB hr
theorem setCells_meta (g : Nat) : ∀ (vs : List Value) (o : Nat) (w : World), (w.setCells g o vs).os = w.os ∧ (w.setCells g o vs).tape = w.tape ∧ (w.setCells g o vs).output = w.output ∧ (w.setCells g o vs).heap.size = w.heap.size ∧ ∀ k, k ≠ g → (w.setCells g o vs).heap[k]? = w.heap[k]?
 | [], o, w => ⟨rfl, rfl, rfl, rfl, fun _ _ => rfl⟩
 | u :: vs, o, w => by
  obtain ⟨a, b, c, d, e⟩ := setCells_meta g vs (o + 1) (w.setCell ⟨g, o, none⟩ u)
  refine ⟨a, b, c, ?_, fun k hk => (e k hk).trans (Below.heap_setCell w ⟨g, o, none⟩ u k hk)⟩
  rw [World.setCells, d]
  simp [World.setCell]
theorem new_row {w0 w w' : World} {B n : Nat} {ok : Nat → Prop} {v : Value} {l : List Int} {ROW : Array Value} {C : Nat} (hw : w' = w.drew.alloc (.cells ROW 3)) (hB : Below B w0 w) (hBw : B ≤ w.heap.size) (hok : ∀ k, w.heap.size ≤ k → ok k) (hn : n = l.length) (hc : n ≤ C) (hm : C ≤ maxLen) (hs : ROW.size = C) (ht : ∀ j, j < n → ROW[j]? = (encs encI l)[j]?) :
  ∃ v', Ending.returned (.slice (some ⟨w.heap.size, 0, none⟩) n C) = .returned v' ∧ Kd.R (Kd.int .i64) 3 w' B ok v' l ∧ Below B w0 w' ∧ w.grownBy w' v.ownBlock ∧ (v'.ownBlock = v.ownBlock ∨ ∃ b, v'.ownBlock = some b ∧ w.heap.size ≤ b) := by
 have hg : w'.heap[w.heap.size]? = some (.cells ROW 3 (0, 0)) := by
  rw [hw]
  show (w.heap.push _)[w.heap.size]? = _
  simp
 have hb : Below w.heap.size w w' := by rw [hw]; exact ((Below.refl _ w).drew).alloc (Nat.le_refl _) _
 subst hn
 refine ⟨_, rfl, Kd.R_of_own (own_row hBw hg rfl hc hm hs ht) (fun k hk => hok k (by simp [Value.ownBlock] at hk; omega)), hB.trans (hb.mono hBw), ⟨hb.os, hb.tape, hb.output, hb.size, fun k hk _ => hb.block k hk⟩, .inr ⟨_, rfl, Nat.le_refl _⟩⟩
theorem set_row {w0 w w' : World} {B g c n : Nat} {ok : Nat → Prop} {l : List Int} {cur : Array Value} (hB : Below B w0 w) (hBw : B ≤ w.heap.size) (hg : B ≤ g) (hgl : g < w.heap.size) (hok : ok g)
  (ho : w'.os = w.os) (ht : w'.tape = w.tape) (hp : w'.output = w.output) (hs : w'.heap.size = w.heap.size) (hk : ∀ k, k ≠ g → w'.heap[k]? = w.heap[k]?)
  (hh : w'.heap[g]? = some (.cells cur 3 (0, 0))) (hn : n = l.length) (hc : n ≤ c) (hm : c ≤ maxLen) (hz : cur.size = c) (ha : ∀ j, j < n → cur[j]? = (encs encI l)[j]?) (c0 n0 : Nat) :
  ∃ v', Ending.returned (.slice (some ⟨g, 0, none⟩) n c) = .returned v' ∧ Kd.R (Kd.int .i64) 3 w' B ok v' l ∧ Below B w0 w' ∧ w.grownBy w' (Value.slice (some ⟨g, 0, none⟩) n0 c0).ownBlock ∧ (v'.ownBlock = (Value.slice (some ⟨g, 0, none⟩) n0 c0).ownBlock ∨ ∃ b, v'.ownBlock = some b ∧ w.heap.size ≤ b) := by
 have hgr : w.grownBy w' (some g) := grown_set ho ht hp (by omega) (fun k _ h => hk k h)
 subst hn
 refine ⟨_, rfl, Kd.R_of_own (own_row hg hh rfl hc hm hz ha) (fun k hk => ?_), below_grown hB hBw hgr (fun k hk => ?_), hgr, .inl rfl⟩
 ·simp [Value.ownBlock] at hk
  rw [← hk]
  exact hok
 ·injection hk with hk
  omega
theorem encI_cons (i : Int) (l : List Int) : encs encI (i :: l) = .int .i64 i :: encs encI l := rfl
theorem insert0 (w0 w : World) (B : Nat) (ok : Nat → Prop) (v : Value) (l : List Int) (i : Int) (gv : Nat) (HO : Kd.R (Kd.int .i64) 3 w B ok v l) (hB : Below B w0 w) (hBw : B ≤ w.heap.size) (hgv : w.heap[gv]? = some (.cells #[.int .i64 i] 3 (0, 0))) (hne : some gv ≠ v.ownBlock) (hb : l.length ≤ 1000000) (hok : ∀ k, w.heap.size ≤ k → ok k) :
  Calls Try.prog 41 #[v, .int .i64 0, .slice (some ⟨gv, 0, none⟩) 1 1] w fun e w' => ∃ v', e = .returned v' ∧ Kd.R (Kd.int .i64) 3 w' B ok v' (i :: l) ∧ Below B w0 w' ∧ w.grownBy w' v.ownBlock ∧ (v'.ownBlock = v.ownBlock ∨ ∃ b, v'.ownBlock = some b ∧ w.heap.size ≤ b) := by
 have hown := Kd.own_of_R HO
 have hok0 := HO.1
 have hvs : ∀ j u, ([Value.int .i64 i])[j]? = some u → w.cell? ⟨gv, 0 + j, none⟩ = some u := fun j u hj => by
  have : j = 0 := by have := (List.getElem?_eq_some_iff.1 hj).1; simp at this; omega
  subst this
  simp at hj
  rw [← hj]
  exact (blk_cell hgv 0).trans rfl
 have h1v : ∀ u ∈ [Value.int .i64 i], u.oneCell' = true := fun u hu => by simp at hu; rw [hu]; rfl
 have hzc : ∀ k, (Builtin.zeroCells (Value.int .i64 0).cells k).size = k := fun k => by simp [Builtin.zeroCells, Value.cells]
 have hgvl : gv < w.heap.size := blk_lt hgv
 rcases hown.2 with ⟨rfl, he⟩ | ⟨g, cap, cur, rfl, hg, hh, h1, h2, h3, h4⟩
 ·have hl : l = [] := List.length_eq_zero_iff.1 (by have := hown.1; rw [encs_length] at this; simpa using he)
  subst hl
  refine (Any2.slices_Insert_int_end_grow lays_insert none 0 0 gv 0 1 1 [] [.int .i64 i] w (by omega) (by omega) (by omega) (by omega) rfl rfl (fun _ => rfl) (fun a h => by cases h) hvs h1v).mono ?_
  rintro e w' ⟨rfl, rfl⟩
  have g1 := grownCap_ge w (0 + 1) 0 (insR.t 3)
  have g2 := grownCap_le_maxLen w (0 + 1) 0 (insR.t 3) (by unfold maxLen; omega)
  refine new_row (l := [i]) rfl hB hBw hok rfl (by omega) g2 (by rw [Array.size_append, hzc]; exact Nat.add_sub_cancel' g1) (fun j hj => ?_)
  obtain rfl : j = 0 := by omega
  rw [Array.getElem?_append_left (by simp)]
  rfl
 ·have hcl : (encs encI l).length = l.length := encs_length _
  have hcur : ∀ j u, (encs encI l)[j]? = some u → cur[j]? = some u := fun j u hj => by
   have hlt : j < l.length := by have := (List.getElem?_eq_some_iff.1 hj).1; omega
   rw [← h4, Nat.mul_one, List.getElem?_take_of_lt hlt, Array.getElem?_toList] at hj
   exact hj
  have hcs : ∀ j u, (encs encI l)[j]? = some u → w.cell? ⟨g, 0 + j, none⟩ = some u := fun j u hj => by rw [Nat.zero_add]; exact (blk_cell hh j).trans (hcur j u hj)
  have hgl : g < w.heap.size := blk_lt hh
  have hgne : gv ≠ g := fun e => hne (by rw [e]; rfl)
  have h1c := encI_one l
  unfold maxLen at h2
  by_cases hroom : l.length + 1 ≤ cap
  ·by_cases hl : l = []
   ·subst hl
    refine (Any2.slices_Insert_int_end_room lays_insert g 0 0 cap gv 0 1 1 [.int .i64 i] w (by omega) (by simpa using hroom) (by omega) rfl (fun j hj => ?_) (fun j hj => blk_frozen hh _) hvs h1v).mono ?_
    ·obtain rfl : j = 0 := by omega
     rw [blk_cell hh, Array.getElem?_eq_getElem (by simp at hroom; omega)]
     rfl
    ·rintro e w' ⟨rfl, rfl⟩
     obtain ⟨m1, m2, m3, m4, m5⟩ := setCells_meta g [.int .i64 i] (0 + 0) w
     obtain ⟨cur', e1, e2, e3, e4⟩ := heap_setCells_at g [.int .i64 i] (0 + 0) w cur _ hh (by simp at hroom ⊢; omega)
     refine set_row (l := [i]) hB hBw hg hgl (hok0 g rfl) m1 m2 m3 m4 m5 e1 rfl (by simpa using hroom) (by unfold maxLen; exact h2) (by rw [e2, h3, Nat.mul_one]) (fun j hj => ?_) _ _
     obtain rfl : j = 0 := by simp at hj; omega
     exact (e3 0 (by simp)).trans rfl
   ·have hpos : 0 < l.length := List.length_pos_iff.2 hl
    refine (Any2.slices_Insert_int_shift lays_insert g 0 l.length cap 0 gv 0 1 1 (encs encI l) [.int .i64 i] w hpos (by omega) hroom (by omega) hgne hcl rfl hcs (fun j hj => ?_) (fun j hj => blk_frozen hh _) hvs h1c h1v 3 3 1 cap ?_ ?_ (by omega) (blk_frozen hgv _) (blk_frozen hgv _)).mono ?_
    ·rw [blk_cell hh, Array.getElem?_eq_getElem (by omega)]
     rfl
    ·simp [World.shape?, hgv]
    ·simp [World.shape?, hh, h3]
    ·rintro e w' ⟨rfl, rfl⟩
     obtain ⟨m1, m2, m3, m4, m5⟩ := setCells_meta g ((encs encI l).drop 0) (0 + (0 + 1)) w.drew
     obtain ⟨cur', e1, e2, e3, e4⟩ := heap_setCells_at g ((encs encI l).drop 0) (0 + (0 + 1)) w.drew cur _ hh (by simp [encs_length]; omega)
     obtain ⟨p1, p2, p3, p4, p5⟩ := setCells_meta g [.int .i64 i] (0 + 0) (w.drew.setCells g (0 + (0 + 1)) ((encs encI l).drop 0))
     obtain ⟨cur2, f1, f2, f3, f4⟩ := heap_setCells_at g [.int .i64 i] (0 + 0) (w.drew.setCells g (0 + (0 + 1)) ((encs encI l).drop 0)) cur' _ e1 (by rw [e2]; simp; omega)
     refine set_row (l := i :: l) hB hBw hg hgl (hok0 g rfl) (p1.trans m1) (p2.trans m2) (p3.trans m3) (p4.trans m4) (fun k hk => (p5 k hk).trans (m5 k hk)) f1 rfl hroom (by unfold maxLen; exact h2) (by rw [f2, e2, h3, Nat.mul_one]) (fun j hj => ?_) _ _
     cases j with
     | zero => exact (f3 0 (by simp)).trans rfl
     | succ j =>
      rw [f4 (j + 1) (.inr (by simp)), encI_cons, List.getElem?_cons_succ]
      have := e3 j (by simp at hj; simp [encs_length]; omega)
      rw [show 0 + (0 + 1) + j = j + 1 by omega] at this
      rw [this, List.drop_zero]
  ·by_cases hl : l = []
   ·subst hl
    obtain rfl : cap = 0 := by simp at hroom; omega
    refine (Any2.slices_Insert_int_end_grow lays_insert (some ⟨g, 0, none⟩) 0 0 gv 0 1 1 [] [.int .i64 i] w (by omega) (by omega) (by omega) (by omega) rfl rfl (fun h => by cases h) (fun a h j v hj => by simp at hj) hvs h1v).mono ?_
    rintro e w' ⟨rfl, rfl⟩
    have g1 := grownCap_ge w (0 + 1) 0 (insR.t 3)
    have g2 := grownCap_le_maxLen w (0 + 1) 0 (insR.t 3) (by unfold maxLen; omega)
    refine new_row (l := [i]) rfl hB hBw hok rfl (by omega) g2 (by rw [Array.size_append, hzc]; exact Nat.add_sub_cancel' g1) (fun j hj => ?_)
    obtain rfl : j = 0 := by omega
    rw [Array.getElem?_append_left (by simp)]
    rfl
   ·have hpos : 0 < l.length := List.length_pos_iff.2 hl
    refine (Any2.slices_Insert_int_grow lays_insert g 0 l.length cap 0 gv 0 1 1 (encs encI l) [.int .i64 i] w hpos (by omega) h1 (by omega) (by omega) hcl rfl hcs hvs h1c h1v).mono ?_
    rintro e w' ⟨rfl, rfl⟩
    have g1 := grownCap_ge w (l.length + 1) cap (insR.t 3)
    have g2 := grownCap_le_maxLen w (l.length + 1) cap (insR.t 3) (by unfold maxLen; omega)
    obtain ⟨G, hG⟩ : ∃ G, G = grownCap w (l.length + 1) cap (insR.t 3) := ⟨_, rfl⟩
    rw [← hG] at g1 g2 ⊢
    obtain ⟨ROW, hR⟩ : ∃ ROW : Array Value, ROW = (((encs encI l).take 0).toArray ++ Builtin.zeroCells (Value.int .i64 0).cells (l.length + 1 - 0) ++ Builtin.zeroCells (Value.int .i64 0).cells (G - (l.length + 1))) := ⟨_, rfl⟩
    rw [← hR]
    have hRs : ROW.size = G := by
     rw [hR, Array.size_append, Array.size_append, hzc, hzc]
     simp
     omega
    obtain ⟨W1, hW1⟩ : ∃ W1, W1 = (w.alloc (.cells ROW (insR.t 3))).drew := ⟨_, rfl⟩
    rw [← hW1]
    have b1 : W1.heap[w.heap.size]? = some (.cells ROW 3 (0, 0)) := by
     rw [hW1]
     show (w.heap.push _)[w.heap.size]? = _
     simp
     rfl
    have bw : Below w.heap.size w W1 := by rw [hW1]; exact ((Below.refl _ w).alloc (Nat.le_refl _) _).drew
    have bs : w.heap.size + 1 = W1.heap.size := by rw [hW1]; show _ = (w.heap.push _).size; simp
    obtain ⟨m1, m2, m3, m4, m5⟩ := setCells_meta w.heap.size [.int .i64 i] 0 W1
    obtain ⟨cur', e1, e2, e3, e4⟩ := heap_setCells_at w.heap.size [.int .i64 i] 0 W1 ROW _ b1 (by rw [hRs]; simp; omega)
    obtain ⟨W2, hW2⟩ : ∃ W2, W2 = (W1.setCells w.heap.size 0 [.int .i64 i]).drew := ⟨_, rfl⟩
    rw [← hW2]
    have b2 : W2.heap[w.heap.size]? = some (.cells cur' 3 (0, 0)) := by rw [hW2]; exact e1
    obtain ⟨p1, p2, p3, p4, p5⟩ := setCells_meta w.heap.size ((encs encI l).drop 0) (0 + 1) W2
    obtain ⟨cur2, f1, f2, f3, f4⟩ := heap_setCells_at w.heap.size ((encs encI l).drop 0) (0 + 1) W2 cur' _ b2 (by rw [e2, hRs]; simp [encs_length]; omega)
    have bo : Below w.heap.size w (W2.setCells w.heap.size (0 + 1) ((encs encI l).drop 0)) := by
     refine ⟨p1.trans ?_, p2.trans ?_, p3.trans ?_, ?_, fun k hk => ?_⟩
     ·rw [hW2]; exact m1.trans bw.os
     ·rw [hW2]; exact m2.trans bw.tape
     ·rw [hW2]; exact m3.trans bw.output
     ·rw [p4, hW2]; show _ ≤ (W1.setCells _ _ _).heap.size; rw [m4]; exact bw.size
     ·rw [p5 k (by omega), hW2]; show (W1.setCells _ _ _).heap[k]? = _; rw [m5 k (by omega)]; exact bw.block k hk
    refine ⟨_, rfl, Kd.R_of_own (own_row (l := i :: l) hBw f1 rfl (by simpa using g1) g2 (by rw [f2, e2, hRs]) (fun j hj => ?_)) (fun k hk => hok k (by simp [Value.ownBlock] at hk; omega)), hB.trans (bo.mono hBw), ⟨bo.os, bo.tape, bo.output, bo.size, fun k hk _ => bo.block k hk⟩, .inr ⟨_, rfl, Nat.le_refl _⟩⟩
    cases j with
    | zero =>
     rw [f4 0 (.inl (by omega))]
     have := e3 0 (by simp)
     exact this
    | succ j =>
     rw [encI_cons, List.getElem?_cons_succ]
     have := f3 j (by simp at hj; simp [encs_length]; omega)
     rw [show 0 + 1 + j = j + 1 by omega] at this
     rw [this, List.drop_zero]
end Go.Proofs.Ytopfjjdkffdjpaa.Q
end
section
namespace Go.Proofs.Ytopfjjdkffdjpaa.Q
open Go.RowKit Go.Proofs.YtopfjjdkffdjpaaW.PrintWords Go.Proofs.YtopfjjdkffdjpaaW.PrintLast Go.Proofs.YtopfjjdkffdjpaaW.PrintMore
attribute [local go_sem ↓] Go.wp_at_zero Go.wp_at_succ
structure RS (br bp B : Nat) (x : S28) (C O I : List Int) (vC vO vI : Value) (w0 w : World) : Prop where
 r : w.heap[br]? = some (.cells #[.int .i64 x.f0, .int .i64 x.f1, .int .i64 x.f2, .string x.f3, vC, vO, vI] 42 (0, 0))
 p : w.heap[bp]? = some (.cells #[.pointer (some ⟨br, 0, none⟩)] 75 (0, 0))
 hC : Kd.R (Kd.int .i64) 3 w B (fun k => some k ≠ vO.ownBlock ∧ some k ≠ vI.ownBlock) vC C
 hO : Kd.R (Kd.int .i64) 3 w B (fun k => some k ≠ vC.ownBlock ∧ some k ≠ vI.ownBlock) vO O
 hI : Kd.R (Kd.int .i64) 3 w B (fun k => some k ≠ vC.ownBlock ∧ some k ≠ vO.ownBlock) vI I
 lr : B ≤ br
 below : Below B w0 w
def Keeps (br : Nat) (w w' : World) : Prop := ∀ k o, w.heap[k]? = some o → k ≠ br → (∀ cells, o ≠ .cells cells 3 (0, 0)) → w'.heap[k]? = some o
theorem RS.ne {br bp B : Nat} {x : S28} {C O I : List Int} {vC vO vI : Value} {w0 w : World} (h : RS br bp B x C O I vC vO vI w0 w) : br ≠ bp := by
 intro e
 have h1 := h.r
 rw [e, h.p] at h1
 injection h1 with h1
 injection h1 with h1 h2
 exact absurd h2 (by decide)
theorem RS.room {br bp B : Nat} {x : S28} {C O I : List Int} {vC vO vI : Value} {w0 w : World} (h : RS br bp B x C O I vC vO vI w0 w) : B ≤ w.heap.size := Nat.le_trans h.lr (Nat.le_of_lt (blk_lt h.r))
theorem blkc_ {w : World} {g : Nat} {t : TypeId} {cs : Array Value} (h : w.heap[g]? = some (.cells cs t (0, 0))) (j : Nat) (v : Value) (hj : cs[j]? = some v) : w.cell? ⟨g, j, none⟩ = some v := by simp [World.cell?, World.cells?, h, hj]
theorem blks_ {w : World} {g : Nat} {t : TypeId} {cs : Array Value} (h : w.heap[g]? = some (.cells cs t (0, 0))) (j : Nat) : w.frozen? ⟨g, j, none⟩ = false := by simp [World.frozen?, h]
theorem keeps_grown {br : Nat} {w w1 : World} {v : Value} {B : Nat} {ok : Nat → Prop} {xs : List Int} (hg : w.grownBy w1 v.ownBlock) (h : Kd.R (Kd.int .i64) 3 w B ok v xs) : Keeps br w w1 := by
 intro k o hk hb ho
 have hne : some k ≠ v.ownBlock := by
  intro e
  obtain ⟨cells, hc⟩ := Kd.R_typed h k e.symm
  rw [hk] at hc
  exact ho cells (Option.some.inj hc)
 exact (hg.block k (blk_lt hk) hne).trans hk
theorem keeps_set {br j : Nat} {w w1 : World} (h : Keeps br w w1) (v : Value) : Keeps br w (w1.setCell ⟨br, j, none⟩ v) := fun k o hk hb ho => (Below.heap_setCell w1 ⟨br, j, none⟩ v k hb).trans (h k o hk hb ho)
theorem add_C (br bp B : Nat) (x : S28) (C O I : List Int) (vC vO vI : Value) (w0 w : World) (i : Int) (h : RS br bp B x C O I vC vO vI w0 w) (hl : C.length ≤ 1000000) :
  Calls Try.prog 49 #[.int .i64 i, .pointer (some ⟨bp, 0, none⟩)] w fun e w' => e = .returned (.tuple #[]) ∧ (∃ v1, RS br bp B x (C ++ [i]) O I v1 vO vI w0 w') ∧ Keeps br w w' := by
 have hne := h.ne
 have cp : w.cell? ⟨bp, 0, none⟩ = some (.pointer (some ⟨br, 0, none⟩)) := blkc_ h.p 0 _ rfl
 have cr : w.cell? ⟨br, 4, none⟩ = some vC := blkc_ h.r 4 _ rfl
 have cfz := blks_ h.r 4
 have HS := Aside0.mk h
 have HL := Aside0.mk hl
 clear h hl
 go_enter Try.func49, Try.ntmps49
 refine start_ (n := 11) (S := fun w' => w'.cell? ⟨bp, 0, none⟩ = some (.pointer (some ⟨br, 0, none⟩)) ∧ w'.cell? ⟨br, 4, none⟩ = some vC) (ds := [10]) #[false, false, false, false, false, false, false, false, false, false, false] (by kernel_rfl) rfl rfl ⟨cp, cr⟩ (fun hHeld => ?_)
 refine take_ (i := 0) (N := some 3) (v := ?_) (a' := ?_) #[true, false, false, false, false, false, false, false, false, false, false] rfl rfl (by kernel_rfl) (fun _ _ _ h => h) (Or.inl ⟨by rfl, ?_⟩) hHeld ?_ ?_
 rotate_left
 ·rintro w' ⟨s0, s1⟩
  go_simp
  with_reducible rfl
 rotate_left
 ·simp only [Act.put, List.setIfInBounds_toArray, List.set_cons_zero, List.set_cons_succ, i64_w, i32_w]
  rfl
 refine take_ (i := 1) (N := some 4) (v := ?_) (a' := ?_) #[true, true, false, false, false, false, false, false, false, false, false] rfl rfl (by kernel_rfl) (fun _ _ _ h => h) (Or.inl ⟨by rfl, ?_⟩) hHeld ?_ ?_
 rotate_left
 ·rintro w' ⟨s0, s1⟩
  go_simp
  with_reducible rfl
 rotate_left
 ·simp only [Act.put, List.setIfInBounds_toArray, List.set_cons_zero, List.set_cons_succ, i64_w, i32_w]
  rfl
 refine pure_ (i := 2) (N := some 5) (v := ?_) (a' := ?_) #[true, true, true, false, false, false, false, false, false, false, false] rfl rfl (by kernel_rfl) (fun _ _ _ h => h) (Or.inl ⟨by rfl, ?_⟩) ?_ ?_
 rotate_left
 ·intro w'
  go_simp
  with_reducible rfl
 rotate_left
 ·simp only [Act.put, List.setIfInBounds_toArray, List.set_cons_zero, List.set_cons_succ, i64_w, i32_w]
  rfl
 refine pure_ (i := 3) (N := some 6) (v := ?_) (a' := ?_) #[true, true, true, true, false, false, false, false, false, false, false] rfl rfl (by kernel_rfl) (fun _ _ _ h => h) (Or.inl ⟨by rfl, ?_⟩) ?_ ?_
 rotate_left
 ·intro w'
  go_simp
  with_reducible rfl
 rotate_left
 ·simp only [Act.put, List.setIfInBounds_toArray, List.set_cons_zero, List.set_cons_succ, i64_w, i32_w]
  rfl
 refine take_ (i := 4) (N := some 7) (v := ?_) (a' := ?_) #[true, true, true, true, true, false, false, false, false, false, false] rfl rfl (by kernel_rfl) (fun _ _ _ h => h) (Or.inl ⟨by rfl, ?_⟩) hHeld ?_ ?_
 rotate_left
 ·rintro w' ⟨s0, s1⟩
  go_simp
  with_reducible rfl
 rotate_left
 ·simp only [Act.put, List.setIfInBounds_toArray, List.set_cons_zero, List.set_cons_succ, i64_w, i32_w]
  rfl
 refine pure_ (i := 5) (N := some 8) (v := ?_) (a' := ?_) #[true, true, true, true, true, true, false, false, false, false, false] rfl rfl (by kernel_rfl) (fun _ _ _ h => h) (Or.inl ⟨by rfl, ?_⟩) ?_ ?_
 rotate_left
 ·intro w'
  go_simp
  with_reducible rfl
 rotate_left
 ·simp only [Act.put, List.setIfInBounds_toArray, List.set_cons_zero, List.set_cons_succ, i64_w, i32_w]
  rfl
 refine one_ (i := 6) (N := some 9) #[true, true, true, true, true, true, true, false, false, false, false] rfl rfl (by kernel_rfl) (by decide) (fun K hK => ?_)
 go_simp
 refine hK.out _ _ ⟨World.cell?_alloc_some _ _ _ (by rw [cp]; rfl) |>.trans cp, World.cell?_alloc_some _ _ _ (by rw [cr]; rfl) |>.trans cr⟩ (fun hHeld2 => ?_)
 clear hK K hHeld
 try simp only [Act.put, List.setIfInBounds_toArray, List.set_cons_zero, List.set_cons_succ]
 refine one_ (i := 7) (N := some 10) #[true, true, true, true, true, true, true, true, false, false, false] rfl rfl (by kernel_rfl) (by decide) (fun K hK => ?_)
 refine Kd.R_append_step (Kd.int .i64) (w0 := w0) (W := w.drew) B rfl (.tmp 7) (.tmp 9) 40 3 (.int .i64 0) 8 rfl Try.underlying40 info3 rfl (by decide) (by omega) vC C i [.int .i64 i] (fun k => some k ≠ (vO : Value).ownBlock ∧ some k ≠ (vI : Value).ownBlock) (fun _ => False) rfl rfl rfl (fun _ hk => hk.elim) ?aF (Kd.R_drew HS.out.hC) HS.out.below.drew HS.out.room ?aL ?_
 case aF => exact fun k hk => ⟨Kd.fresh' (Kd.R_lt (Kd.R_drew HS.out.hO)) k hk, Kd.fresh' (Kd.R_lt (Kd.R_drew HS.out.hI)) k hk⟩
 case aL => have := HL.out; omega
 intro v1 w1 ho hb hg hat
 obtain ⟨y, hy⟩ : ∃ y, y = C ++ [i] := ⟨_, rfl⟩
 rw [← hy] at ho
 have HY := Aside0.mk hy
 clear hy
 obtain ⟨Ao, co, hv1, _, _⟩ := Kd.R_reads ho
 subst hv1
 have B1 := blk_grown (blk_drew HS.out.r) hg (Kd.R_ne (Kd.R_drew HS.out.hC) (blk_drew HS.out.r) (by decide))
 have B2 := blk_grown (blk_drew HS.out.p) hg (Kd.R_ne (Kd.R_drew HS.out.hC) (blk_drew HS.out.p) (by decide))
 refine hK.out _ _ ⟨blkc_ B2 0 _ rfl, blkc_ B1 4 _ rfl⟩ (fun hHeld3 => ?_)
 clear hK K hHeld2 hHeld3
 simp only [Act.put, List.setIfInBounds_toArray, List.set_cons_zero, List.set_cons_succ]
 have O1 := Kd.R_after (ok := fun k => some k ≠ (vI : Value).ownBlock) (Kd.R_drew (HS.out.hO |> fun h => Kd.R_mono h (fun k hk => ⟨hk.2, hk.1⟩))) hg hat
 have O2 := Kd.R_after (ok := fun k => some k ≠ (vO : Value).ownBlock) (Kd.R_drew (HS.out.hI |> fun h => Kd.R_mono h (fun k hk => ⟨hk.2, hk.1⟩))) hg hat
 have HN := Aside0.mk (And.intro ho (And.intro hb (And.intro B1 (And.intro B2 (And.intro O1 (And.intro O2 (keeps_grown (br := br) hg (Kd.R_drew HS.out.hC))))))))
 have c2 : w1.cell? ⟨br, 4, none⟩ = some vC := blkc_ B1 4 _ rfl
 have f2 := blks_ B1 4
 have HS2 := Aside0.mk HS.out.lr
 clear ho hb hg hat O1 O2 B1 B2 HS cp cr cfz
 refine pure_ (i := 8) (N := some 11) (v := ?_) (a' := ?_) #[true, true, true, true, true, true, true, true, true, false, false] rfl rfl (by kernel_rfl) (fun _ _ _ h => h) (Or.inl ⟨by rfl, ?_⟩) ?_ ?_
 rotate_left
 ·intro w'
  go_simp
  with_reducible rfl
 rotate_left
 ·simp only [Act.put, List.setIfInBounds_toArray, List.set_cons_zero, List.set_cons_succ, i64_w, i32_w]
  rfl
 refine pure_ (i := 9) (N := some 12) (v := ?_) (a' := ?_) #[true, true, true, true, true, true, true, true, true, true, false] rfl rfl (by kernel_rfl) (fun _ _ _ h => h) (Or.inl ⟨by rfl, ?_⟩) ?_ ?_
 rotate_left
 ·intro w'
  go_simp
  with_reducible rfl
 rotate_left
 ·simp only [Act.put, List.setIfInBounds_toArray, List.set_cons_zero, List.set_cons_succ, i64_w, i32_w]
  rfl
 refine last_ (i := 10) (N := none) #[true, true, true, true, true, true, true, true, true, true, true] rfl rfl (by kernel_rfl) (by decide) (fun K hK => ?_)
 go_simp
 refine hK.out _ _ ?_
 clear hK K
 try simp only [Act.put]
 refine done_ (by kernel_rfl) ?_
 go_end0
 obtain ⟨ho, hb, B1, B2, O1, O2, hk⟩ := HN.out
 have hy := HY.out
 have hlr := HS2.out
 refine ⟨rfl, ⟨.slice Ao y.length co, ?_⟩, keeps_set (fun k o h1 h2 h3 => hk k o h1 h2 h3) _⟩
 rw [← hy]
 exact ⟨blk_put B1 4 _ rfl, blk_far B2 (p := ⟨br, 4, none⟩) (fun e => hne e.symm) _, Kd.R_mono (Kd.R_far (p := ⟨br, 4, none⟩) (Kd.R_types ho B1 (by decide)) (fun _ hk => hk.2) (.slice Ao y.length co)) (fun _ hk => hk.1), Kd.R_mono (Kd.R_far (p := ⟨br, 4, none⟩) (Kd.R_types O1 B1 (by decide)) (fun _ hk => hk.2) (.slice Ao y.length co)) (fun _ hk => ⟨hk.1.2, hk.1.1⟩), Kd.R_mono (Kd.R_far (p := ⟨br, 4, none⟩) (Kd.R_types O2 B1 (by decide)) (fun _ hk => hk.2) (.slice Ao y.length co)) (fun _ hk => ⟨hk.1.2, hk.1.1⟩), hlr, hb.setCell (p := ⟨br, 4, none⟩) hlr _⟩
theorem add_O (br bp B : Nat) (x : S28) (C O I : List Int) (vC vO vI : Value) (w0 w : World) (i : Int) (h : RS br bp B x C O I vC vO vI w0 w) (hl : O.length ≤ 1000000) :
  Calls Try.prog 50 #[.int .i64 i, .pointer (some ⟨bp, 0, none⟩)] w fun e w' => e = .returned (.tuple #[]) ∧ (∃ v1, RS br bp B x C (O ++ [i]) I vC v1 vI w0 w') ∧ Keeps br w w' := by
 have hne := h.ne
 have cp : w.cell? ⟨bp, 0, none⟩ = some (.pointer (some ⟨br, 0, none⟩)) := blkc_ h.p 0 _ rfl
 have cr : w.cell? ⟨br, 5, none⟩ = some vO := blkc_ h.r 5 _ rfl
 have cfz := blks_ h.r 5
 have HS := Aside0.mk h
 have HL := Aside0.mk hl
 clear h hl
 go_enter Try.func50, Try.ntmps50
 refine start_ (n := 11) (S := fun w' => w'.cell? ⟨bp, 0, none⟩ = some (.pointer (some ⟨br, 0, none⟩)) ∧ w'.cell? ⟨br, 5, none⟩ = some vO) (ds := [10]) #[false, false, false, false, false, false, false, false, false, false, false] (by kernel_rfl) rfl rfl ⟨cp, cr⟩ (fun hHeld => ?_)
 refine take_ (i := 0) (N := some 3) (v := ?_) (a' := ?_) #[true, false, false, false, false, false, false, false, false, false, false] rfl rfl (by kernel_rfl) (fun _ _ _ h => h) (Or.inl ⟨by rfl, ?_⟩) hHeld ?_ ?_
 rotate_left
 ·rintro w' ⟨s0, s1⟩
  go_simp
  with_reducible rfl
 rotate_left
 ·simp only [Act.put, List.setIfInBounds_toArray, List.set_cons_zero, List.set_cons_succ, i64_w, i32_w]
  rfl
 refine take_ (i := 1) (N := some 4) (v := ?_) (a' := ?_) #[true, true, false, false, false, false, false, false, false, false, false] rfl rfl (by kernel_rfl) (fun _ _ _ h => h) (Or.inl ⟨by rfl, ?_⟩) hHeld ?_ ?_
 rotate_left
 ·rintro w' ⟨s0, s1⟩
  go_simp
  with_reducible rfl
 rotate_left
 ·simp only [Act.put, List.setIfInBounds_toArray, List.set_cons_zero, List.set_cons_succ, i64_w, i32_w]
  rfl
 refine pure_ (i := 2) (N := some 5) (v := ?_) (a' := ?_) #[true, true, true, false, false, false, false, false, false, false, false] rfl rfl (by kernel_rfl) (fun _ _ _ h => h) (Or.inl ⟨by rfl, ?_⟩) ?_ ?_
 rotate_left
 ·intro w'
  go_simp
  with_reducible rfl
 rotate_left
 ·simp only [Act.put, List.setIfInBounds_toArray, List.set_cons_zero, List.set_cons_succ, i64_w, i32_w]
  rfl
 refine pure_ (i := 3) (N := some 6) (v := ?_) (a' := ?_) #[true, true, true, true, false, false, false, false, false, false, false] rfl rfl (by kernel_rfl) (fun _ _ _ h => h) (Or.inl ⟨by rfl, ?_⟩) ?_ ?_
 rotate_left
 ·intro w'
  go_simp
  with_reducible rfl
 rotate_left
 ·simp only [Act.put, List.setIfInBounds_toArray, List.set_cons_zero, List.set_cons_succ, i64_w, i32_w]
  rfl
 refine take_ (i := 4) (N := some 7) (v := ?_) (a' := ?_) #[true, true, true, true, true, false, false, false, false, false, false] rfl rfl (by kernel_rfl) (fun _ _ _ h => h) (Or.inl ⟨by rfl, ?_⟩) hHeld ?_ ?_
 rotate_left
 ·rintro w' ⟨s0, s1⟩
  go_simp
  with_reducible rfl
 rotate_left
 ·simp only [Act.put, List.setIfInBounds_toArray, List.set_cons_zero, List.set_cons_succ, i64_w, i32_w]
  rfl
 refine pure_ (i := 5) (N := some 8) (v := ?_) (a' := ?_) #[true, true, true, true, true, true, false, false, false, false, false] rfl rfl (by kernel_rfl) (fun _ _ _ h => h) (Or.inl ⟨by rfl, ?_⟩) ?_ ?_
 rotate_left
 ·intro w'
  go_simp
  with_reducible rfl
 rotate_left
 ·simp only [Act.put, List.setIfInBounds_toArray, List.set_cons_zero, List.set_cons_succ, i64_w, i32_w]
  rfl
 refine one_ (i := 6) (N := some 9) #[true, true, true, true, true, true, true, false, false, false, false] rfl rfl (by kernel_rfl) (by decide) (fun K hK => ?_)
 go_simp
 refine hK.out _ _ ⟨World.cell?_alloc_some _ _ _ (by rw [cp]; rfl) |>.trans cp, World.cell?_alloc_some _ _ _ (by rw [cr]; rfl) |>.trans cr⟩ (fun hHeld2 => ?_)
 clear hK K hHeld
 try simp only [Act.put, List.setIfInBounds_toArray, List.set_cons_zero, List.set_cons_succ]
 refine one_ (i := 7) (N := some 10) #[true, true, true, true, true, true, true, true, false, false, false] rfl rfl (by kernel_rfl) (by decide) (fun K hK => ?_)
 refine Kd.R_append_step (Kd.int .i64) (w0 := w0) (W := w.drew) B rfl (.tmp 7) (.tmp 9) 40 3 (.int .i64 0) 8 rfl Try.underlying40 info3 rfl (by decide) (by omega) vO O i [.int .i64 i] (fun k => some k ≠ (vC : Value).ownBlock ∧ some k ≠ (vI : Value).ownBlock) (fun _ => False) rfl rfl rfl (fun _ hk => hk.elim) ?aF (Kd.R_drew HS.out.hO) HS.out.below.drew HS.out.room ?aL ?_
 case aF => exact fun k hk => ⟨Kd.fresh' (Kd.R_lt (Kd.R_drew HS.out.hC)) k hk, Kd.fresh' (Kd.R_lt (Kd.R_drew HS.out.hI)) k hk⟩
 case aL => have := HL.out; omega
 intro v1 w1 ho hb hg hat
 obtain ⟨y, hy⟩ : ∃ y, y = O ++ [i] := ⟨_, rfl⟩
 rw [← hy] at ho
 have HY := Aside0.mk hy
 clear hy
 obtain ⟨Ao, co, hv1, _, _⟩ := Kd.R_reads ho
 subst hv1
 have B1 := blk_grown (blk_drew HS.out.r) hg (Kd.R_ne (Kd.R_drew HS.out.hO) (blk_drew HS.out.r) (by decide))
 have B2 := blk_grown (blk_drew HS.out.p) hg (Kd.R_ne (Kd.R_drew HS.out.hO) (blk_drew HS.out.p) (by decide))
 refine hK.out _ _ ⟨blkc_ B2 0 _ rfl, blkc_ B1 5 _ rfl⟩ (fun hHeld3 => ?_)
 clear hK K hHeld2 hHeld3
 simp only [Act.put, List.setIfInBounds_toArray, List.set_cons_zero, List.set_cons_succ]
 have O1 := Kd.R_after (ok := fun k => some k ≠ (vI : Value).ownBlock) (Kd.R_drew (HS.out.hC |> fun h => Kd.R_mono h (fun k hk => ⟨hk.2, hk.1⟩))) hg hat
 have O2 := Kd.R_after (ok := fun k => some k ≠ (vC : Value).ownBlock) (Kd.R_drew (HS.out.hI |> fun h => Kd.R_mono h (fun k hk => ⟨hk.1, hk.2⟩))) hg hat
 have HN := Aside0.mk (And.intro ho (And.intro hb (And.intro B1 (And.intro B2 (And.intro O1 (And.intro O2 (keeps_grown (br := br) hg (Kd.R_drew HS.out.hO))))))))
 have c2 : w1.cell? ⟨br, 5, none⟩ = some vO := blkc_ B1 5 _ rfl
 have f2 := blks_ B1 5
 have HS2 := Aside0.mk HS.out.lr
 clear ho hb hg hat O1 O2 B1 B2 HS cp cr cfz
 refine pure_ (i := 8) (N := some 11) (v := ?_) (a' := ?_) #[true, true, true, true, true, true, true, true, true, false, false] rfl rfl (by kernel_rfl) (fun _ _ _ h => h) (Or.inl ⟨by rfl, ?_⟩) ?_ ?_
 rotate_left
 ·intro w'
  go_simp
  with_reducible rfl
 rotate_left
 ·simp only [Act.put, List.setIfInBounds_toArray, List.set_cons_zero, List.set_cons_succ, i64_w, i32_w]
  rfl
 refine pure_ (i := 9) (N := some 12) (v := ?_) (a' := ?_) #[true, true, true, true, true, true, true, true, true, true, false] rfl rfl (by kernel_rfl) (fun _ _ _ h => h) (Or.inl ⟨by rfl, ?_⟩) ?_ ?_
 rotate_left
 ·intro w'
  go_simp
  with_reducible rfl
 rotate_left
 ·simp only [Act.put, List.setIfInBounds_toArray, List.set_cons_zero, List.set_cons_succ, i64_w, i32_w]
  rfl
 refine last_ (i := 10) (N := none) #[true, true, true, true, true, true, true, true, true, true, true] rfl rfl (by kernel_rfl) (by decide) (fun K hK => ?_)
 go_simp
 refine hK.out _ _ ?_
 clear hK K
 try simp only [Act.put]
 refine done_ (by kernel_rfl) ?_
 go_end0
 obtain ⟨ho, hb, B1, B2, O1, O2, hk⟩ := HN.out
 have hy := HY.out
 have hlr := HS2.out
 refine ⟨rfl, ⟨.slice Ao y.length co, ?_⟩, keeps_set (fun k o h1 h2 h3 => hk k o h1 h2 h3) _⟩
 rw [← hy]
 exact ⟨blk_put B1 5 _ rfl, blk_far B2 (p := ⟨br, 5, none⟩) (fun e => hne e.symm) _, Kd.R_mono (Kd.R_far (p := ⟨br, 5, none⟩) (Kd.R_types O1 B1 (by decide)) (fun _ hk => hk.2) (.slice Ao y.length co)) (fun _ hk => ⟨hk.1.2, hk.1.1⟩), Kd.R_mono (Kd.R_far (p := ⟨br, 5, none⟩) (Kd.R_types ho B1 (by decide)) (fun _ hk => hk.2) (.slice Ao y.length co)) (fun _ hk => hk.1), Kd.R_mono (Kd.R_far (p := ⟨br, 5, none⟩) (Kd.R_types O2 B1 (by decide)) (fun _ hk => hk.2) (.slice Ao y.length co)) (fun _ hk => ⟨hk.1.1, hk.1.2⟩), hlr, hb.setCell (p := ⟨br, 5, none⟩) hlr _⟩
theorem add_I (br bp B : Nat) (x : S28) (C O I : List Int) (vC vO vI : Value) (w0 w : World) (i : Int) (h : RS br bp B x C O I vC vO vI w0 w) (hl : I.length ≤ 1000000) :
  Calls Try.prog 51 #[.int .i64 i, .pointer (some ⟨bp, 0, none⟩)] w fun e w' => e = .returned (.tuple #[]) ∧ (∃ v1, RS br bp B x C O (I ++ [i]) vC vO v1 w0 w') ∧ Keeps br w w' := by
 have hne := h.ne
 have cp : w.cell? ⟨bp, 0, none⟩ = some (.pointer (some ⟨br, 0, none⟩)) := blkc_ h.p 0 _ rfl
 have cr : w.cell? ⟨br, 6, none⟩ = some vI := blkc_ h.r 6 _ rfl
 have cfz := blks_ h.r 6
 have HS := Aside0.mk h
 have HL := Aside0.mk hl
 clear h hl
 go_enter Try.func51, Try.ntmps51
 refine start_ (n := 11) (S := fun w' => w'.cell? ⟨bp, 0, none⟩ = some (.pointer (some ⟨br, 0, none⟩)) ∧ w'.cell? ⟨br, 6, none⟩ = some vI) (ds := [10]) #[false, false, false, false, false, false, false, false, false, false, false] (by kernel_rfl) rfl rfl ⟨cp, cr⟩ (fun hHeld => ?_)
 refine take_ (i := 0) (N := some 3) (v := ?_) (a' := ?_) #[true, false, false, false, false, false, false, false, false, false, false] rfl rfl (by kernel_rfl) (fun _ _ _ h => h) (Or.inl ⟨by rfl, ?_⟩) hHeld ?_ ?_
 rotate_left
 ·rintro w' ⟨s0, s1⟩
  go_simp
  with_reducible rfl
 rotate_left
 ·simp only [Act.put, List.setIfInBounds_toArray, List.set_cons_zero, List.set_cons_succ, i64_w, i32_w]
  rfl
 refine take_ (i := 1) (N := some 4) (v := ?_) (a' := ?_) #[true, true, false, false, false, false, false, false, false, false, false] rfl rfl (by kernel_rfl) (fun _ _ _ h => h) (Or.inl ⟨by rfl, ?_⟩) hHeld ?_ ?_
 rotate_left
 ·rintro w' ⟨s0, s1⟩
  go_simp
  with_reducible rfl
 rotate_left
 ·simp only [Act.put, List.setIfInBounds_toArray, List.set_cons_zero, List.set_cons_succ, i64_w, i32_w]
  rfl
 refine pure_ (i := 2) (N := some 5) (v := ?_) (a' := ?_) #[true, true, true, false, false, false, false, false, false, false, false] rfl rfl (by kernel_rfl) (fun _ _ _ h => h) (Or.inl ⟨by rfl, ?_⟩) ?_ ?_
 rotate_left
 ·intro w'
  go_simp
  with_reducible rfl
 rotate_left
 ·simp only [Act.put, List.setIfInBounds_toArray, List.set_cons_zero, List.set_cons_succ, i64_w, i32_w]
  rfl
 refine pure_ (i := 3) (N := some 6) (v := ?_) (a' := ?_) #[true, true, true, true, false, false, false, false, false, false, false] rfl rfl (by kernel_rfl) (fun _ _ _ h => h) (Or.inl ⟨by rfl, ?_⟩) ?_ ?_
 rotate_left
 ·intro w'
  go_simp
  with_reducible rfl
 rotate_left
 ·simp only [Act.put, List.setIfInBounds_toArray, List.set_cons_zero, List.set_cons_succ, i64_w, i32_w]
  rfl
 refine take_ (i := 4) (N := some 7) (v := ?_) (a' := ?_) #[true, true, true, true, true, false, false, false, false, false, false] rfl rfl (by kernel_rfl) (fun _ _ _ h => h) (Or.inl ⟨by rfl, ?_⟩) hHeld ?_ ?_
 rotate_left
 ·rintro w' ⟨s0, s1⟩
  go_simp
  with_reducible rfl
 rotate_left
 ·simp only [Act.put, List.setIfInBounds_toArray, List.set_cons_zero, List.set_cons_succ, i64_w, i32_w]
  rfl
 refine pure_ (i := 5) (N := some 8) (v := ?_) (a' := ?_) #[true, true, true, true, true, true, false, false, false, false, false] rfl rfl (by kernel_rfl) (fun _ _ _ h => h) (Or.inl ⟨by rfl, ?_⟩) ?_ ?_
 rotate_left
 ·intro w'
  go_simp
  with_reducible rfl
 rotate_left
 ·simp only [Act.put, List.setIfInBounds_toArray, List.set_cons_zero, List.set_cons_succ, i64_w, i32_w]
  rfl
 refine one_ (i := 6) (N := some 9) #[true, true, true, true, true, true, true, false, false, false, false] rfl rfl (by kernel_rfl) (by decide) (fun K hK => ?_)
 go_simp
 refine hK.out _ _ ⟨World.cell?_alloc_some _ _ _ (by rw [cp]; rfl) |>.trans cp, World.cell?_alloc_some _ _ _ (by rw [cr]; rfl) |>.trans cr⟩ (fun hHeld2 => ?_)
 clear hK K hHeld
 try simp only [Act.put, List.setIfInBounds_toArray, List.set_cons_zero, List.set_cons_succ]
 refine one_ (i := 7) (N := some 10) #[true, true, true, true, true, true, true, true, false, false, false] rfl rfl (by kernel_rfl) (by decide) (fun K hK => ?_)
 refine Kd.R_append_step (Kd.int .i64) (w0 := w0) (W := w.drew) B rfl (.tmp 7) (.tmp 9) 40 3 (.int .i64 0) 8 rfl Try.underlying40 info3 rfl (by decide) (by omega) vI I i [.int .i64 i] (fun k => some k ≠ (vC : Value).ownBlock ∧ some k ≠ (vO : Value).ownBlock) (fun _ => False) rfl rfl rfl (fun _ hk => hk.elim) ?aF (Kd.R_drew HS.out.hI) HS.out.below.drew HS.out.room ?aL ?_
 case aF => exact fun k hk => ⟨Kd.fresh' (Kd.R_lt (Kd.R_drew HS.out.hC)) k hk, Kd.fresh' (Kd.R_lt (Kd.R_drew HS.out.hO)) k hk⟩
 case aL => have := HL.out; omega
 intro v1 w1 ho hb hg hat
 obtain ⟨y, hy⟩ : ∃ y, y = I ++ [i] := ⟨_, rfl⟩
 rw [← hy] at ho
 have HY := Aside0.mk hy
 clear hy
 obtain ⟨Ao, co, hv1, _, _⟩ := Kd.R_reads ho
 subst hv1
 have B1 := blk_grown (blk_drew HS.out.r) hg (Kd.R_ne (Kd.R_drew HS.out.hI) (blk_drew HS.out.r) (by decide))
 have B2 := blk_grown (blk_drew HS.out.p) hg (Kd.R_ne (Kd.R_drew HS.out.hI) (blk_drew HS.out.p) (by decide))
 refine hK.out _ _ ⟨blkc_ B2 0 _ rfl, blkc_ B1 6 _ rfl⟩ (fun hHeld3 => ?_)
 clear hK K hHeld2 hHeld3
 simp only [Act.put, List.setIfInBounds_toArray, List.set_cons_zero, List.set_cons_succ]
 have O1 := Kd.R_after (ok := fun k => some k ≠ (vO : Value).ownBlock) (Kd.R_drew (HS.out.hC |> fun h => Kd.R_mono h (fun k hk => ⟨hk.1, hk.2⟩))) hg hat
 have O2 := Kd.R_after (ok := fun k => some k ≠ (vC : Value).ownBlock) (Kd.R_drew (HS.out.hO |> fun h => Kd.R_mono h (fun k hk => ⟨hk.1, hk.2⟩))) hg hat
 have HN := Aside0.mk (And.intro ho (And.intro hb (And.intro B1 (And.intro B2 (And.intro O1 (And.intro O2 (keeps_grown (br := br) hg (Kd.R_drew HS.out.hI))))))))
 have c2 : w1.cell? ⟨br, 6, none⟩ = some vI := blkc_ B1 6 _ rfl
 have f2 := blks_ B1 6
 have HS2 := Aside0.mk HS.out.lr
 clear ho hb hg hat O1 O2 B1 B2 HS cp cr cfz
 refine pure_ (i := 8) (N := some 11) (v := ?_) (a' := ?_) #[true, true, true, true, true, true, true, true, true, false, false] rfl rfl (by kernel_rfl) (fun _ _ _ h => h) (Or.inl ⟨by rfl, ?_⟩) ?_ ?_
 rotate_left
 ·intro w'
  go_simp
  with_reducible rfl
 rotate_left
 ·simp only [Act.put, List.setIfInBounds_toArray, List.set_cons_zero, List.set_cons_succ, i64_w, i32_w]
  rfl
 refine pure_ (i := 9) (N := some 12) (v := ?_) (a' := ?_) #[true, true, true, true, true, true, true, true, true, true, false] rfl rfl (by kernel_rfl) (fun _ _ _ h => h) (Or.inl ⟨by rfl, ?_⟩) ?_ ?_
 rotate_left
 ·intro w'
  go_simp
  with_reducible rfl
 rotate_left
 ·simp only [Act.put, List.setIfInBounds_toArray, List.set_cons_zero, List.set_cons_succ, i64_w, i32_w]
  rfl
 refine last_ (i := 10) (N := none) #[true, true, true, true, true, true, true, true, true, true, true] rfl rfl (by kernel_rfl) (by decide) (fun K hK => ?_)
 go_simp
 refine hK.out _ _ ?_
 clear hK K
 try simp only [Act.put]
 refine done_ (by kernel_rfl) ?_
 go_end0
 obtain ⟨ho, hb, B1, B2, O1, O2, hk⟩ := HN.out
 have hy := HY.out
 have hlr := HS2.out
 refine ⟨rfl, ⟨.slice Ao y.length co, ?_⟩, keeps_set (fun k o h1 h2 h3 => hk k o h1 h2 h3) _⟩
 rw [← hy]
 exact ⟨blk_put B1 6 _ rfl, blk_far B2 (p := ⟨br, 6, none⟩) (fun e => hne e.symm) _, Kd.R_mono (Kd.R_far (p := ⟨br, 6, none⟩) (Kd.R_types O1 B1 (by decide)) (fun _ hk => hk.2) (.slice Ao y.length co)) (fun _ hk => ⟨hk.1.1, hk.1.2⟩), Kd.R_mono (Kd.R_far (p := ⟨br, 6, none⟩) (Kd.R_types O2 B1 (by decide)) (fun _ hk => hk.2) (.slice Ao y.length co)) (fun _ hk => ⟨hk.1.1, hk.1.2⟩), Kd.R_mono (Kd.R_far (p := ⟨br, 6, none⟩) (Kd.R_types ho B1 (by decide)) (fun _ hk => hk.2) (.slice Ao y.length co)) (fun _ hk => hk.1), hlr, hb.setCell (p := ⟨br, 6, none⟩) hlr _⟩
end Go.Proofs.Ytopfjjdkffdjpaa.Q
end
section
namespace Go.Proofs.Ytopfjjdkffdjpaa.Q
open Go.RowKit
section
variable {P : Program} {t kt et : TypeId}
theorem map_get (w : World) (o : Obj) : (w.alloc o).heap[w.heap.size]? = some o := by
 show (w.heap.push o)[w.heap.size]? = some o
 simp
theorem map_set (w : World) (o o' : Obj) : ({ w.alloc o with heap := (w.alloc o).heap.setIfInBounds w.heap.size o' } : World) = w.alloc o' := by
 show ({ w with heap := (w.heap.push o).setIfInBounds w.heap.size o' } : World) = { w with heap := w.heap.push o' }
 congr 1
 apply Array.ext_getElem?
 intro i
 rw [Array.getElem?_setIfInBounds, Array.getElem?_push, Array.getElem?_push]
 by_cases h : w.heap.size = i
 ·subst h; simp
 ·rw [if_neg h]
  rw [if_neg (fun e => h e.symm), if_neg (fun e => h e.symm)]
theorem run_ins (K : Maps.Keyed P kt) (hT : P.underlying t = some (.map kt et)) (w : World) (es : Array MapEntry) (c : Nat) (x v : Value) {lx : Lit} (hx : keyOf P kt x = some lx) (hes : ∀ e ∈ es.toList, ∃ l, keyOf P kt e.key = some l) (hn : ∀ e ∈ es.toList, e.key ≠ x) :
  (Instr.mapUpdate t (.map (some w.heap.size)) x v).run P (w.alloc (.map es c)) = .ok () (w.alloc (.map (es.push { key := x, val := v, born := c }) (c + 1))) := by
 have hf : (Instr.findKey kt x es.toList).run P (w.alloc (.map es c)) = .ok none (w.alloc (.map es c)) := by
  rcases K.find (w.alloc (.map es c)) hx es.toList hes with h | ⟨j, e, h1, h2, h3⟩
  ·exact h.1
  ·exact absurd h3 (hn e (List.mem_of_getElem? h2))
 have hg := map_get w (.map es c)
 have h2 : (Instr.mapUpdate t (.map (some w.heap.size)) x v).run P (w.alloc (.map es c)) = .ok () ({ w.alloc (.map es c) with heap := (w.alloc (.map es c)).heap.setIfInBounds w.heap.size (.map (es.push { key := x, val := v, born := c }) (c + 1)) } : World) := by
  generalize hW : w.alloc (.map es c) = W at hg hf ⊢
  simp [Instr.mapUpdate, run_underlying hT, MapKept.run_getObj_map hg, K.check W false hx, hf, MapKept.run_setObj_map _ hg, Result.andThen]
 rw [h2, map_set]
end
end Go.Proofs.Ytopfjjdkffdjpaa.Q
end
section
namespace Go.Proofs.Ytopfjjdkffdjpaa.Q
open Go.RowKit Go.Proofs.YtopfjjdkffdjpaaW.PrintWords Go.Proofs.YtopfjjdkffdjpaaW.PrintLast Go.Proofs.YtopfjjdkffdjpaaW.PrintMore Go.Proofs.Ytopfjjdkffdjpaa.Srt
theorem flat_get : ∀ (l : List Cd) (j i : Nat), i < 4 → (l.flatMap cand)[j * 4 + i]? = (l[j]?).bind fun x => (cand x)[i]?
 | [], j, i, _ => by simp
 | x :: l, 0, i, hi => by
  have : (cand x).length = 4 := rfl
  rw [List.flatMap_cons, List.getElem?_append_left (by omega)]
  simp
 | x :: l, j + 1, i, hi => by
  have h4 : (cand x).length = 4 := rfl
  rw [List.flatMap_cons, List.getElem?_append_right (by omega), show (j + 1) * 4 + i - (cand x).length = j * 4 + i by omega, flat_get l j i hi]
  simp
theorem flat_len (l : List Cd) : (l.flatMap cand).length = l.length * 4 := by
 induction l with
 | nil => rfl
 | cons x l ih => rw [List.flatMap_cons, List.length_append, ih, List.length_cons]; have : (cand x).length = 4 := rfl; omega
theorem row_news {w : World} {A : Option Addr} {l : List Cd} {ad : Addr} (h : Kd.C k28 w A l.length l) (hA : A = some ad) (q : Nat) (u : Value) (hq : (l.flatMap cand)[q]? = some u) : w.cell? (ad.add q) = some u := by
 have hlt : q < l.length * 4 := by
  have := (List.getElem?_eq_some_iff.1 hq).1
  rwa [flat_len] at this
 obtain ⟨ad2, e2, hc⟩ := h.2.2 (by omega)
 rw [hA] at e2
 obtain rfl := Option.some.inj e2
 have e : q = q / 4 * 4 + q % 4 := by omega
 rw [e, flat_get l (q / 4) (q % 4) (by omega)] at hq
 have hj : q / 4 < l.length := by omega
 rw [List.getElem?_eq_getElem hj] at hq
 obtain ⟨c, hs, hr, hcell⟩ := hc (q / 4) _ (List.getElem?_eq_getElem hj)
 have ec := k28_open hr
 have := hcell (q % 4) u (by rw [ec]; exact hq)
 rw [e]
 exact this
theorem flat_one (l : List Cd) : ∀ u ∈ l.flatMap cand, u.oneCell' = true := by
 intro u hu
 obtain ⟨x, _, hx⟩ := List.mem_flatMap.1 hu
 simp only [cand, List.mem_cons, List.not_mem_nil, or_false] at hx
 rcases hx with rfl | rfl | rfl | rfl <;> rfl
theorem PSt.of_own {w0 w : World} {B g c : Nat} {l : List Cd} {cur : Array Value} (hg : B ≤ g) (hh : w.heap[g]? = some (.cells cur 28 (0, 0))) (hn : l.length ≤ c) (hc : c ≤ maxLen) (hs : cur.size = c * 4) (ht : cur.toList.take (l.length * 4) = l.flatMap cand) (hb : Below B w0 w) : PSt g c B l.length w0 l w := by
 refine ⟨⟨cur, hh, hs, fun i x hx => ?_⟩, rfl, hn, hc, hg, hb⟩
 have hi : i < l.length := (List.getElem?_eq_some_iff.1 hx).1
 have key : ∀ a, a < 4 → cur[i * 4 + a]? = (cand x)[a]? := fun a ha => by
  have h1 := flat_get l i a ha
  rw [← ht, List.getElem?_take_of_lt (by omega), hx] at h1
  rw [← Array.getElem?_toList]
  exact h1
 exact ⟨key 0 (by omega), key 1 (by omega), key 2 (by omega), key 3 (by omega)⟩
theorem clone_some (ad : Addr) (c0 : Nat) (l : List Cd) (w : World) (hr : Kd.C k28 w (some ad) l.length l) (hb : l.length ≤ 1000000000) :
  Calls Try.prog 29 #[.slice (some ad) l.length c0] w fun e w' => ∃ g c, e = .returned (.slice (some ⟨g, 0, none⟩) l.length c) ∧ PSt g c w.heap.size l.length w l w' := by
 have HN := Aside0.mk (fun q u => row_news hr rfl q u)
 obtain ⟨i0, hi0, hz0, hz1, hz2⟩ : ∃ i0, Try.prog.info? 28 = some i0 ∧ i0.zero = some (.agg #[.int .i64 0, .int .i64 0, .int .i64 0, .string ⟨#[]⟩]) ∧ i0.size = 4 ∧ i0.bytes = 40 := by
  have hinf := info28
  cases hq : Try.prog.info? 28 with
  | none => rw [hq] at hinf; simp at hinf
  | some i0 =>
   rw [hq] at hinf
   simp only [Option.map_some, Option.some.injEq, Prod.mk.injEq] at hinf
   exact ⟨i0, rfl, hinf.1, hinf.2.1, hinf.2.2⟩
 have q26 : ∀ (w : World) (a : Option Addr) (n c n' c' : Nat), (binOp .eql 24 (.slice a n c) (.slice none n' c')).run Try.prog w = .ok (.bool a.isNone) w := fun w a n c n' c' => Lib.run_eql_slice_nil w _ _ a n c n' c' Try.underlying24
 have u26 : ∀ w, Sem.run Try.prog (underlying 24) w = .ok (TypeDesc.slice 28) w := run_underlying Try.underlying24
 have HI := Aside0.mk (And.intro hi0 (And.intro hz0 (And.intro hz1 hz2)))
 have HB := Aside0.mk hb
 clear hr hi0 hz0 hz1 hz2 hb
 go_enter Try.func29, Try.ntmps29
 go_wp2_with (at_builtin; refine wpList_append_own _ rfl _ _ 24 rfl w.heap.size 28 i0 _ 4 40 Try.underlying24 HI.out.1 HI.out.2.1 HI.out.2.2.1 HI.out.2.2.2 rfl (by omega) _ _ _ rfl (World.ownsRow_made w #[] 0 (Nat.le_refl _) (Nat.zero_le _) (by simp)) ad l.length c0 (l.flatMap cand) rfl ?qc1 ?qc2 ?qc3 ?qc4 ?qc5 ?qc6 ?_)
 case qc1 => exact flat_len l
 case qc2 =>
  intro j u hj
  exact Lib.cell?_alloc_some _ (HN.out j u hj)
 case qc3 => exact flat_one l
 case qc4 => have := HB.out; simp only [maxLen]; omega
 case qc5 => have := HB.out; omega
 case qc6 => simp
 intro v' w1 hown hgrow hnil
 have H1 := Aside0.mk (And.intro hown (And.intro hgrow hnil))
 clear hown hgrow hnil
 go_wp2_with fail
 go_ret
 obtain ⟨hown, hgrow, hnil⟩ := H1.out
 have hB : Below w.heap.size w w1 := ((Below.refl _ w).alloc (Nat.le_refl _) _).grown hgrow (by simp) (by intro k hk; simp [Value.ownBlock] at hk; omega)
 rcases hown.2 with ⟨rfl, _⟩ | ⟨g, cap, cur, rfl, hg, hh, h1, h2, h3, h4⟩
 ·exact absurd rfl hnil
 ·simp only [Nat.zero_add] at h1 h4 ⊢
  exact ⟨g, cap, rfl, PSt.of_own hg hh h1 h2 h3 (by simpa using h4) hB⟩
theorem clone_none (n c : Nat) (w : World) : Calls Try.prog 29 #[.slice none n c] w fun e w' => e = .returned (.slice none 0 0) ∧ w' = w := by
 have q26 : ∀ (w : World) (a : Option Addr) (n c n' c' : Nat), (binOp .eql 24 (.slice a n c) (.slice none n' c')).run Try.prog w = .ok (.bool a.isNone) w := fun w a n c n' c' => Lib.run_eql_slice_nil w _ _ a n c n' c' Try.underlying24
 go_enter Try.func29, Try.ntmps29
 go_wp2
 go_ret
 exact ⟨rfl, rfl⟩
theorem wo_less : Wo lessB := by
 refine ⟨fun x y h => ?_, fun x y z h1 h2 => ?_⟩
 ·unfold lessB at h ⊢
  by_cases e2 : x.f2 = y.f2
  ·rw [if_pos e2] at h
   rw [if_pos e2.symm]
   by_cases e0 : x.f0 = y.f0
   ·rw [if_pos e0] at h
    rw [if_pos e0.symm]
    have := of_decide_eq_true h
    exact decide_eq_false (by omega)
   ·rw [if_neg e0] at h
    rw [if_neg (fun e => e0 e.symm)]
    have := of_decide_eq_true h
    exact decide_eq_false (by omega)
  ·rw [if_neg e2] at h
   rw [if_neg (fun e => e2 e.symm)]
   have := of_decide_eq_true h
   exact decide_eq_false (by omega)
 ·unfold lessB at h1 h2 ⊢
  by_cases a2 : x.f2 = y.f2
  ·rw [if_pos a2] at h1
   by_cases b2 : y.f2 = z.f2
   ·rw [if_pos b2] at h2
    rw [if_pos (a2.trans b2)]
    by_cases a0 : x.f0 = y.f0
    ·rw [if_pos a0] at h1
     by_cases b0 : y.f0 = z.f0
     ·rw [if_pos b0] at h2
      rw [if_pos (a0.trans b0)]
      have := of_decide_eq_false h1
      have := of_decide_eq_false h2
      exact decide_eq_false (by omega)
     ·rw [if_neg b0] at h2
      have := of_decide_eq_false h2
      rw [if_neg (by omega)]
      exact decide_eq_false (by omega)
    ·rw [if_neg a0] at h1
     have := of_decide_eq_false h1
     by_cases b0 : y.f0 = z.f0
     ·rw [if_neg (by omega)]
      exact decide_eq_false (by omega)
     ·rw [if_neg b0] at h2
      have := of_decide_eq_false h2
      rw [if_neg (by omega)]
      exact decide_eq_false (by omega)
   ·rw [if_neg b2] at h2
    have := of_decide_eq_false h2
    rw [if_neg (by omega)]
    exact decide_eq_false (by omega)
  ·rw [if_neg a2] at h1
   have := of_decide_eq_false h1
   by_cases b2 : y.f2 = z.f2
   ·rw [if_neg (by omega)]
    exact decide_eq_false (by omega)
   ·rw [if_neg b2] at h2
    have := of_decide_eq_false h2
    rw [if_neg (by omega)]
    exact decide_eq_false (by omega)
theorem meth_less (v : Value) (w : World) : Sem.run Try.prog (method 233 59 v "Less") w = .ok (112, v) w := by kernel_rfl
theorem meth_swap (v : Value) (w : World) : Sem.run Try.prog (method 233 59 v "Swap") w = .ok (113, v) w := by kernel_rfl
theorem meth_len (v : Value) (w : World) : Sem.run Try.prog (method 233 59 v "Len") w = .ok (111, v) w := by kernel_rfl
theorem call_less (args : Array Value) (w : World) : (callFunc 112 args).run Try.prog w = .ok (.enter 112 args) w := by kernel_rfl
theorem call_swap (args : Array Value) (w : World) : (callFunc 113 args).run Try.prog w = .ok (.enter 113 args) w := by kernel_rfl
theorem call_len (args : Array Value) (w : World) : (callFunc 111 args).run Try.prog w = .ok (.enter 111 args) w := by kernel_rfl
theorem sorter_some (g c B n : Nat) (w0 : World) : Sorter z28 lessB 59 (.slice (some ⟨g, 0, none⟩) n c) 112 113 (PSt g c B n w0) where
 mL := meth_less _
 mS := meth_swap _
 eL := call_less
 eS := call_swap
 less := less_order
 swap := swap_order
theorem sorter_none (w0 : World) (B : Nat) : Sorter z28 lessB 59 (.slice none 0 0) 112 113 (fun L w => L = [] ∧ Below B w0 w) where
 mL := meth_less _
 mS := meth_swap _
 eL := call_less
 eS := call_swap
 less := fun L w i k vi vk h hi => by rw [h.1] at hi; simp at hi
 swap := fun L w i k vi vk h hi => by rw [h.1] at hi; simp at hi
theorem len_none (w : World) : Calls Try.prog 111 #[.slice none 0 0] w fun e w' => e = .returned (.int .i64 0) ∧ w' = w := by
 go_enter Try.func111, Try.ntmps111
 go_wp2_with fail
 go_ret
 exact ⟨rfl, rfl⟩
theorem PSt.row {g c B n : Nat} {w0 w : World} {L : List Cd} (h : PSt g c B n w0 L w) : Kd.R k28 28 w B (fun _ => True) (.slice (some ⟨g, 0, none⟩) n c) L := by
 obtain ⟨cur, hb, hs, hc⟩ := h.blk
 have hl := h.len
 have hcap := h.cap
 refine ⟨fun _ _ => trivial, L.flatMap cand, ?_, ?_⟩
 ·refine ⟨by rw [flat_len]; rfl, .inr ⟨g, c, cur, by rw [hl], h.low, hb, by omega, h.big, hs, ?_⟩⟩
  apply List.ext_getElem?
  intro q
  by_cases hq : q < L.length * 4
  ·rw [show k28.sz = 4 from rfl, List.getElem?_take_of_lt hq, Array.getElem?_toList]
   have e : q = q / 4 * 4 + q % 4 := by omega
   have hj : q / 4 < L.length := by omega
   obtain ⟨x1, x2, x3, x4⟩ := hc (q / 4) _ (List.getElem?_eq_getElem hj)
   rw [e, flat_get L (q / 4) (q % 4) (by omega), List.getElem?_eq_getElem hj]
   rcases (show q % 4 = 0 ∨ q % 4 = 1 ∨ q % 4 = 2 ∨ q % 4 = 3 from by omega) with h4 | h4 | h4 | h4 <;> rw [h4]
   ·exact x1
   ·exact x2
   ·exact x3
   ·exact x4
  ·rw [List.getElem?_eq_none (by rw [List.length_take, show k28.sz = 4 from rfl]; omega), List.getElem?_eq_none (by rw [flat_len]; omega)]
 ·refine ⟨flat_len L, fun j x hx => ?_⟩
  have e : ((L.flatMap cand).drop (j * k28.sz)).take k28.sz = cand x := by
   apply List.ext_getElem?
   intro q
   rw [show k28.sz = 4 from rfl]
   by_cases hq : q < 4
   ·rw [List.getElem?_take_of_lt hq, List.getElem?_drop, flat_get L j q hq, hx]
    rfl
   ·rw [List.getElem?_eq_none (by rw [List.length_take]; omega), List.getElem?_eq_none (by simp [cand]; omega)]
  rw [e]
  exact k28_mkM _ _ _ _
def precedence_Sort.f (l0 : List Cd) : Option (List Cd) := if l0.length ≤ 1000000000 then some (isort lessB l0) else none
theorem precedence_Sort.calls (A0 : Option Addr) (c0 : Nat) (l0 : List Cd) (r : List Cd) (w : World) (hr0 : Kd.C k28 w A0 l0.length l0) (hc0 : l0.length ≤ c0) (h : precedence_Sort.f l0 = some r) :
  Calls Try.prog 9 #[.slice A0 l0.length c0] w fun e w' => ∃ v0_ : Value, e = .returned v0_ ∧ Kd.R k28 28 w' w.heap.size (fun _ => True) v0_ r ∧ Below w.heap.size w w' := by
 unfold precedence_Sort.f at h
 split at h
 ·rename_i hb
  obtain rfl := Option.some.inj h
  have mL := meth_len
  cases A0 with
  | none =>
   have e0 : l0 = [] := by
    cases l0 with
    | nil => rfl
    | cons x l =>
     obtain ⟨ad, e, _⟩ := hr0.2.2 (by simp)
     simp at e
   subst e0
   have HS := Aside0.mk (sorter_none w w.heap.size)
   clear h hr0 hc0 hb
   go_enter Try.func9, Try.ntmps9
   go_wp2_with (refine Calls.mono (clone_none _ _ _) ?_; rintro e w2 ⟨rfl, rfl⟩)
   (refine Calls.mono (Stable_any HS.out wo_less (meth_len _) call_len [] _ ((len_none _).mono (fun e w' he => ⟨he.1, rfl, by rw [he.2]; exact Below.refl _ _⟩)) (by simp)) ?_; rintro e w3 ⟨rfl, h3⟩; have H3 := Aside0.mk h3; clear h3)
   go_wp2_with fail
   go_ret
   exact ⟨_, rfl, Kd.R_nil _ _ _ _ _, H3.out.2⟩
  | some ad =>
   have HC := Aside0.mk (clone_some ad c0 l0 w hr0 hb)
   have HB := Aside0.mk hb
   clear h hr0 hc0 hb
   go_enter Try.func9, Try.ntmps9
   go_wp2_with (refine Calls.mono HC.out ?_; rintro e w2 ⟨g, c, rfl, h2⟩; have H2 := Aside0.mk h2; clear h2 HC)
   (refine Calls.mono (Stable_any (sorter_some g c w.heap.size l0.length w) wo_less (meth_len _) call_len l0 _ (len_order l0 _ H2.out) HB.out) ?_; rintro e w3 ⟨rfl, h3⟩; have H3 := Aside0.mk h3; clear h3)
   go_wp2_with fail
   go_ret
   exact ⟨_, rfl, H3.out.row, H3.out.below⟩
 ·simp at h
end Go.Proofs.Ytopfjjdkffdjpaa.Q
end
section
namespace Go.Proofs.Ytopfjjdkffdjpaa.Q
open Go.RowKit Go.Proofs.YtopfjjdkffdjpaaW.PrintWords Go.Proofs.YtopfjjdkffdjpaaW.PrintLast Go.Proofs.YtopfjjdkffdjpaaW.PrintMore Go.Proofs.Ytopfjjdkffdjpaa.Srt
attribute [local go_sem ↓] Go.wp_at_zero Go.wp_at_succ
def poMap (bp : Nat) : Obj := .map #[{ key := .int .i64 2, val := .func (.func 49) #[] #[.pointer (some ⟨bp, 0, none⟩)], born := 0 }, { key := .int .i64 3, val := .func (.func 50) #[] #[.pointer (some ⟨bp, 0, none⟩)], born := 1 }, { key := .int .i64 1, val := .func (.func 51) #[] #[.pointer (some ⟨bp, 0, none⟩)], born := 2 }] 3
theorem policies_any (w : World) (v : Value) (a : Addr) (hv : v = .pointer (some a)) : Calls Try.prog 38 #[v] w fun e w' => e = .returned (.map (some (w.heap.size + 1))) ∧ w' = (w.alloc (.cells #[v] 75)).alloc (poMap w.heap.size) := by
 subst hv
 have hmm := @run_makeMap Try.prog
 have hmf : ∀ (fn : Fn) (first cap : Array Value) (w : World), (Instr.makeFunc fn first cap).run Try.prog w = .ok (.func fn first cap) w := fun _ _ _ _ => rfl
 have hK := am_ (Maps.int_keyed Try.underlying3)
 have hk1 : keyOf Try.prog 3 (.int .i64 1) = some (.int .i64 1) := Maps.keyOf_int_mk Try.underlying3 (by decide)
 have hk2 : keyOf Try.prog 3 (.int .i64 2) = some (.int .i64 2) := Maps.keyOf_int_mk Try.underlying3 (by decide)
 have hk3 : keyOf Try.prog 3 (.int .i64 3) = some (.int .i64 3) := Maps.keyOf_int_mk Try.underlying3 (by decide)
 have h1 := fun (w : World) (o : Obj) v => run_ins hK.out Try.underlying73 (w.alloc o) #[] 0 (.int .i64 2) v hk2 (by simp) (by simp)
 have h2 := fun (w : World) (o : Obj) v u => run_ins hK.out Try.underlying73 (w.alloc o) #[{ key := .int .i64 2, val := u, born := 0 }] 1 (.int .i64 3) v hk3 (by intro e he; simp at he; subst he; exact ⟨_, hk2⟩) (by intro e he; simp at he; subst he; simp)
 have h3 := fun (w : World) (o : Obj) v u u2 => run_ins hK.out Try.underlying73 (w.alloc o) #[{ key := .int .i64 2, val := u, born := 0 }, { key := .int .i64 3, val := u2, born := 1 }] 2 (.int .i64 1) v hk1 (by intro e he; simp at he; rcases he with rfl | rfl <;> first | exact ⟨_, hk2⟩ | exact ⟨_, hk3⟩) (by intro e he; simp at he; rcases he with rfl | rfl <;> simp)
 simp at h1 h2 h3
 clear hk1 hk2 hk3 hK
 go_enter Try.func38, Try.ntmps38
 go_wp2_with fail
 go_ret
 exact ⟨rfl, rfl⟩
theorem run_hit1 {P : Program} {t kt et : TypeId} (K : Maps.Keyed P kt) (hT : P.underlying t = some (.map kt et)) {w : World} {b : Nat} {es : Array MapEntry} {c : Nat} (hg : w.heap[b]? = some (.map es c)) (x v : Value) {lx : Lit} (hx : keyOf P kt x = some lx) (hes : ∀ e ∈ es.toList, ∃ l, keyOf P kt e.key = some l) (hv : ∀ e ∈ es.toList, e.key = x → e.val = v) (hin : ∃ e ∈ es.toList, e.key = x) :
  (Instr.lookup t (.map (some b)) x false).run P w = .ok v w := by
 have hf : ∃ j, (Instr.findKey kt x es.toList).run P w = .ok (some (j, v)) w := by
  rcases K.find w hx es.toList hes with h | ⟨j, e, h1, h2, h3⟩
  ·obtain ⟨e, h4, h5⟩ := hin
   exact absurd h5 (h.2 e h4)
  ·exact ⟨j, by rw [h1, hv e (List.mem_of_getElem? h2) h3]⟩
 obtain ⟨j, hf⟩ := hf
 simp [Instr.lookup, run_underlying hT, MapKept.run_getObj_map hg, K.check w _ hx, hf, Result.andThen]
abbrev Ls := List Int × List Int × List Int
def addTo (p i : Int) (st : Ls) : Ls := if p = 2 then (st.1 ++ [i], st.2.1, st.2.2) else if p = 3 then (st.1, st.2.1 ++ [i], st.2.2) else (st.1, st.2.1, st.2.2 ++ [i])
def polF (p : Int) : Nat := if p = 2 then 49 else if p = 3 then 50 else 51
theorem pol_look (p : Int) (hp : p = 1 ∨ p = 2 ∨ p = 3) (bm bp : Nat) (W : World) (h : W.heap[bm]? = some (poMap bp)) : (Instr.lookup 73 (.map (some bm)) (.int .i64 p) false).run Try.prog W = .ok (.func (.func (polF p)) #[] #[.pointer (some ⟨bp, 0, none⟩)]) W := by
 have hk : ∀ x : Int, (Lit.int .i64 x).wf = true → keyOf Try.prog 3 (.int .i64 x) = some (.int .i64 x) := fun x h => Maps.keyOf_int_mk Try.underlying3 h
 refine run_hit1 (Maps.int_keyed Try.underlying3) Try.underlying73 h _ _ (hk p (by rcases hp with rfl | rfl | rfl <;> decide)) ?_ ?_ ?_
 ·intro e he
  simp at he
  rcases he with rfl | rfl | rfl
  ·exact ⟨_, hk 2 (by decide)⟩
  ·exact ⟨_, hk 3 (by decide)⟩
  ·exact ⟨_, hk 1 (by decide)⟩
 ·intro e he hx
  simp at he
  rcases he with rfl | rfl | rfl <;> (injection hx with _ hx; subst hx; rfl)
 ·rcases hp with rfl | rfl | rfl
  ·exact ⟨_, by simp; exact .inr (.inr rfl), rfl⟩
  ·exact ⟨_, by simp; exact .inl rfl, rfl⟩
  ·exact ⟨_, by simp; exact .inr (.inl rfl), rfl⟩
theorem pol_enter (p : Int) (args : Array Value) (W : World) : (callFunc (polF p) args).run Try.prog W = .ok (.enter (polF p) args) W := by
 unfold polF
 split
 ·rfl
 ·split <;> rfl
theorem pol_add (p : Int) (br bp B : Nat) (x : S28) (C O I : List Int) (vC vO vI : Value) (w0 W : World) (i : Int) (h : RS br bp B x C O I vC vO vI w0 W) (hl : C.length ≤ 1000000 ∧ O.length ≤ 1000000 ∧ I.length ≤ 1000000) :
  Calls Try.prog (polF p) #[.int .i64 i, .pointer (some ⟨bp, 0, none⟩)] W fun e w' => e = .returned (.tuple #[]) ∧ (∃ vC' vO' vI', RS br bp B x (addTo p i (C, O, I)).1 (addTo p i (C, O, I)).2.1 (addTo p i (C, O, I)).2.2 vC' vO' vI' w0 w') ∧ Keeps br W w' := by
 unfold polF addTo
 by_cases h2 : p = 2
 ·rw [if_pos h2, if_pos h2]
  exact (add_C br bp B x C O I vC vO vI w0 W i h hl.1).mono fun e w' ⟨h1, ⟨v, h2⟩, h3⟩ => ⟨h1, ⟨_, _, _, h2⟩, h3⟩
 ·rw [if_neg h2, if_neg h2]
  by_cases h3 : p = 3
  ·rw [if_pos h3, if_pos h3]
   exact (add_O br bp B x C O I vC vO vI w0 W i h hl.2.1).mono fun e w' ⟨h1, ⟨v, h2⟩, h3⟩ => ⟨h1, ⟨_, _, _, h2⟩, h3⟩
  ·rw [if_neg h3, if_neg h3]
   exact (add_I br bp B x C O I vC vO vI w0 W i h hl.2.2).mono fun e w' ⟨h1, ⟨v, h2⟩, h3⟩ => ⟨h1, ⟨_, _, _, h2⟩, h3⟩
def rOkB (fs : List S68) (x : Cd) : Bool := !decide (x.f0 = 2) || (decide (0 ≤ x.f1) && decide (x.f1 < (fs.length : Int)) && (decide ((rd_T68 fs x.f1).f2 = 1) || decide ((rd_T68 fs x.f1).f2 = 2) || decide ((rd_T68 fs x.f1).f2 = 3)))
theorem rOkB_of {fs : List S68} {x : Cd} (h : rOkB fs x = true) (h2 : x.f0 = 2) : 0 ≤ x.f1 ∧ x.f1 < (fs.length : Int) ∧ ((rd_T68 fs x.f1).f2 = 1 ∨ (rd_T68 fs x.f1).f2 = 2 ∨ (rd_T68 fs x.f1).f2 = 3) := by
 unfold rOkB at h
 rw [decide_eq_true h2] at h
 simp only [Bool.not_true, Bool.false_or, Bool.and_eq_true, Bool.or_eq_true, decide_eq_true_eq] at h
 exact ⟨h.1.1, h.1.2, by omega⟩
def rTake (fs : List S68) (st : Ls) (x : Cd) : Ls := if x.f0 = 2 then addTo (rd_T68 fs x.f1).f2 x.f1 st else st
def rAt (fs : List S68) (s : List Cd) (i : Nat) : Ls := ((s.take i).drop 1).foldl (rTake fs) ([], [], [])
theorem rAt_small (fs : List S68) (s : List Cd) {i : Nat} (h : i ≤ 1) : rAt fs s i = ([], [], []) := by
 unfold rAt
 rw [List.drop_of_length_le (by rw [List.length_take]; omega)]
 rfl
theorem rAt_succ (fs : List S68) (s : List Cd) {i : Nat} (h0 : 1 ≤ i) (hi : i < s.length) : rAt fs s (i + 1) = rTake fs (rAt fs s i) s[i] := by
 unfold rAt
 rw [List.take_succ_eq_append_getElem hi, List.drop_append_of_le_length (by rw [List.length_take]; omega), List.foldl_append]
 rfl
theorem addTo_len (p i : Int) (st : Ls) {n : Nat} (h : st.1.length ≤ n ∧ st.2.1.length ≤ n ∧ st.2.2.length ≤ n) : (addTo p i st).1.length ≤ n + 1 ∧ (addTo p i st).2.1.length ≤ n + 1 ∧ (addTo p i st).2.2.length ≤ n + 1 := by
 unfold addTo
 split
 ·simp; omega
 ·split <;> (simp; omega)
theorem rAt_len (fs : List S68) (s : List Cd) : ∀ i, i ≤ s.length → (rAt fs s i).1.length ≤ i ∧ (rAt fs s i).2.1.length ≤ i ∧ (rAt fs s i).2.2.length ≤ i
 | 0, _ => by rw [rAt_small fs s (by omega)]; simp
 | i + 1, h => by
  by_cases h0 : 1 ≤ i
  ·rw [rAt_succ fs s h0 (by omega)]
   have ih := rAt_len fs s i (by omega)
   unfold rTake
   split
   ·exact addTo_len _ _ _ ih
   ·omega
  ·rw [rAt_small fs s (by omega)]; simp
structure CRow (g : Nat) (L : List Cd) (w : World) : Prop where
 blk : ∃ cur, w.heap[g]? = some (.cells cur 28 (0, 0))
 at_ : ∀ i, (h : i < L.length) → w.cell? ⟨g, i * 4, none⟩ = some (.int .i64 (L[i]).f0) ∧ w.cell? ⟨g, i * 4 + 1, none⟩ = some (.int .i64 (L[i]).f1) ∧ w.cell? ⟨g, i * 4 + 2, none⟩ = some (.int .i64 (L[i]).f2) ∧ w.cell? ⟨g, i * 4 + 3, none⟩ = some (.string (L[i]).f3)
theorem CRow.move {g : Nat} {L : List Cd} {w w1 : World} (h : CRow g L w) (hb : w1.heap[g]? = w.heap[g]?) : CRow g L w1 := by
 obtain ⟨⟨cur, hc⟩, ha⟩ := h
 have e : ∀ j, w1.cell? ⟨g, j, none⟩ = w.cell? ⟨g, j, none⟩ := fun j => World.cell?_of_block (a := ⟨g, j, none⟩) hb
 exact ⟨⟨cur, hb.trans hc⟩, fun i hi => by rw [e, e, e, e]; exact ha i hi⟩
theorem CRow.lt {g : Nat} {L : List Cd} {w : World} (h : CRow g L w) : g < w.heap.size := by
 obtain ⟨cur, hc⟩ := h.blk
 exact blk_lt hc
theorem CRow.kept {g br : Nat} {L : List Cd} {w w1 : World} (h : CRow g L w) (hk : Keeps br w w1) (hne : g ≠ br) : CRow g L w1 := by
 obtain ⟨cur, hc⟩ := h.blk
 exact h.move ((hk g _ hc hne (fun cells e => by injection e with _ e; exact absurd e (by decide))).trans hc.symm)
theorem crow_of {base : Nat} {ok : Nat → Prop} {v : Value} {L : List Cd} {w : World} (h : Kd.R k28 28 w base ok v L) : (v = .slice none 0 0 ∧ L = []) ∨ ∃ g c, v = .slice (some ⟨g, 0, none⟩) L.length c ∧ CRow g L w ∧ base ≤ g := by
 obtain ⟨A, c, hv, hc, hC⟩ := Kd.R_reads h
 obtain ⟨_, inner, ho, hr⟩ := h
 rcases ho.2 with ⟨rfl, he⟩ | ⟨g, cap, cur, rfl, hg, hh, h1, h2, h3, h4⟩
 ·refine .inl ⟨rfl, ?_⟩
  injection hv with e1 e2 e3
  exact List.length_eq_zero_iff.1 e2.symm
 ·injection hv with e1 e2 e3
  subst e1
  subst e3
  refine .inr ⟨g, cap, rfl, ⟨⟨cur, hh⟩, fun i hi => ?_⟩, hg⟩
  obtain ⟨ad, e, x1, x2, x3, x4⟩ := at_T28 hC (i : Int) (by omega) (by omega)
  injection e with e
  subst e
  have e2 : rd_T28 L (i : Int) = L[i] := by simp [rd_T28, List.getD, hi]
  rw [e2] at x1 x2 x3 x4
  have ea : (⟨g, 0, none⟩ : Addr).add (i * 4) = ⟨g, i * 4, none⟩ := by rw [Addr.add_lit, Nat.zero_add]
  rw [Int.toNat_natCast, ea] at x1 x2 x3 x4
  exact ⟨x1, x2, x3, x4⟩
def z7 : Array Value := #[.int .i64 0, .int .i64 0, .int .i64 0, .string ⟨#[]⟩, .slice none 0 0, .slice none 0 0, .slice none 0 0]
structure RW (bc b4 br bp bm B : Nat) (vc : Array Value) (x : Cd) (st : Ls) (vC vO vI : Value) (w0 w : World) : Prop where
 rs : RS br bp B x st.1 st.2.1 st.2.2 vC vO vI w0 w
 m : w.heap[bm]? = some (poMap bp)
 c : w.heap[bc]? = some (.cells vc 36 (0, 0))
 z : w.heap[b4]? = some (.cells z7 42 (0, 0))
 ne : b4 ≠ br
 l4 : B ≤ b4
section
variable {bc b4 br bp bm B : Nat} {vc : Array Value} {x : Cd} {st : Ls} {vC vO vI : Value} {w0 w w1 : World}
theorem RS.step {C O I : List Int} (h : RS br bp B x C O I vC vO vI w0 w) (hb : Below w.heap.size w w1) : RS br bp B x C O I vC vO vI w0 w1 :=
 ⟨(hb.block _ (blk_lt h.r)).trans h.r, (hb.block _ (blk_lt h.p)).trans h.p, Kd.R_below h.hC hb, Kd.R_below h.hO hb, Kd.R_below h.hI hb, h.lr, h.below.trans (hb.mono h.room)⟩
theorem RW.step (h : RW bc b4 br bp bm B vc x st vC vO vI w0 w) (hb : Below w.heap.size w w1) : RW bc b4 br bp bm B vc x st vC vO vI w0 w1 :=
 ⟨h.rs.step hb, (hb.block _ (blk_lt h.m)).trans h.m, (hb.block _ (blk_lt h.c)).trans h.c, (hb.block _ (blk_lt h.z)).trans h.z, h.ne, h.l4⟩
theorem RW.cbr (h : RW bc b4 br bp bm B vc x st vC vO vI w0 w) : bc ≠ br := by
 intro e
 have h1 := h.c
 rw [e, h.rs.r] at h1
 injection h1 with h1
 injection h1 with h1 h2
 exact absurd h2 (by decide)
theorem RW.mbr (h : RW bc b4 br bp bm B vc x st vC vO vI w0 w) : bm ≠ br := by
 intro e
 have h1 := h.m
 rw [e, h.rs.r] at h1
 injection h1 with h1
 exact absurd h1 (by unfold poMap; intro e2; injection e2)
theorem RW.kept {st' : Ls} {vC' vO' vI' : Value} (h : RW bc b4 br bp bm B vc x st vC vO vI w0 w) (hk : Keeps br w w1) (hr : RS br bp B x st'.1 st'.2.1 st'.2.2 vC' vO' vI' w0 w1) : RW bc b4 br bp bm B vc x st' vC' vO' vI' w0 w1 :=
 ⟨hr, hk _ _ h.m h.mbr (fun _ e => by unfold poMap at e; injection e), hk _ _ h.c h.cbr (fun _ e => by injection e with _ e; exact absurd e (by decide)), hk _ _ h.z h.ne (fun _ e => by injection e with _ e; exact absurd e (by decide)), h.ne, h.l4⟩
def putP (br : Nat) (y : Cd) (w : World) : World := (((w.setCell ⟨br, 0, none⟩ (.int .i64 y.f0)).setCell ⟨br, 1, none⟩ (.int .i64 y.f1)).setCell ⟨br, 2, none⟩ (.int .i64 y.f2)).setCell ⟨br, 3, none⟩ (.string y.f3)
theorem putP_other (br : Nat) (y : Cd) (w : World) (k : Nat) (hk : k ≠ br) : (putP br y w).heap[k]? = w.heap[k]? := by
 unfold putP
 rw [Below.heap_setCell _ ⟨br, 3, none⟩ _ k hk, Below.heap_setCell _ ⟨br, 2, none⟩ _ k hk, Below.heap_setCell _ ⟨br, 1, none⟩ _ k hk, Below.heap_setCell _ ⟨br, 0, none⟩ _ k hk]
theorem R_put {α : Type} {d : Kd α} {e : Nat} {base : Nat} {ok : Nat → Prop} {v : Value} {xs : List α} (br : Nat) (y : Cd) (h : d.R e w base ok v xs) {cells : Array Value} {t : Nat} (hb : w.heap[br]? = some (.cells cells t (0, 0))) (ht : ∀ q, q ∈ e :: d.E → q ≠ t) : d.R e (putP br y w) base ok v xs :=
 Kd.R_mono (Kd.R_far (p := ⟨br, 3, none⟩) (Kd.R_far (p := ⟨br, 2, none⟩) (Kd.R_far (p := ⟨br, 1, none⟩) (Kd.R_far (p := ⟨br, 0, none⟩) (Kd.R_types h hb ht) (fun _ hk => hk.2) _) (fun _ hk => hk.2) _) (fun _ hk => hk.2) _) (fun _ hk => hk.2) _) (fun _ hk => hk.1)
theorem RW.put (h : RW bc b4 br bp bm B vc x st vC vO vI w0 w) (y : Cd) : RW bc b4 br bp bm B vc y st vC vO vI w0 (putP br y w) := by
 have hp := h.rs.ne
 refine ⟨⟨?_, ?_, R_put br y h.rs.hC h.rs.r (by decide), R_put br y h.rs.hO h.rs.r (by decide), R_put br y h.rs.hI h.rs.r (by decide), h.rs.lr, ?_⟩, ?_, ?_, ?_, h.ne, h.l4⟩
 ·unfold putP
  exact blk_put (blk_put (blk_put (blk_put h.rs.r 0 _ rfl) 1 _ rfl) 2 _ rfl) 3 _ rfl
 ·exact (putP_other br y w bp (fun e => hp e.symm)).trans h.rs.p
 ·have hl := h.rs.lr
  unfold putP
  exact (((h.rs.below.setCell (p := ⟨br, 0, none⟩) hl _).setCell (p := ⟨br, 1, none⟩) hl _).setCell (p := ⟨br, 2, none⟩) hl _).setCell (p := ⟨br, 3, none⟩) hl _
 ·exact (putP_other br y w bm h.mbr).trans h.m
 ·exact (putP_other br y w bc h.cbr).trans h.c
 ·exact (putP_other br y w b4 h.ne).trans h.z
end
theorem R_setC {α : Type} {d : Kd α} {e base g : Nat} {ok : Nat → Prop} {v : Value} {xs : List α} (hok : ∀ k, ok k → k ≠ g) : ∀ (vs : List Value) (o : Nat) (w : World), d.R e w base ok v xs → d.R e (w.setCells g o vs) base ok v xs
 | [], _, _, h => h
 | u :: vs, o, w, h => R_setC hok vs (o + 1) _ (Kd.R_far (p := ⟨g, o, none⟩) h hok u)
theorem RW.put7 {bc b4 br bp bm B : Nat} {vc : Array Value} {x : Cd} {st : Ls} {vC vO vI : Value} {w0 w : World} (h : RW bc b4 br bp bm B vc x st vC vO vI w0 w) (vs : List Value) (hv : vs.length = 7) :
  (w.setCells b4 0 vs).heap[b4]? = some (.cells vs.toArray 42 (0, 0)) ∧ (∀ {ok : Nat → Prop} {v : Value} {xs : List Int}, Kd.R (Kd.int .i64) 3 w B ok v xs → Kd.R (Kd.int .i64) 3 (w.setCells b4 0 vs) B ok v xs) ∧ Below B w0 (w.setCells b4 0 vs) := by
 obtain ⟨cur', e1, e2, e3, e4⟩ := heap_setCells_at b4 vs 0 w z7 _ h.z (by rw [hv]; exact Nat.le_refl _)
 refine ⟨?_, fun {ok} {v} {xs} hr => ?_, h.rs.below.trans ((setCells_other b4 vs 0 w).mono h.l4)⟩
 ·rw [e1]
  congr 2
  apply Array.ext_getElem?
  intro j
  by_cases hj : j < vs.length
  ·have := e3 j hj
   rw [Nat.zero_add] at this
   rw [this]
   simp
  ·rw [Array.getElem?_eq_none (by rw [e2]; show 7 ≤ j; omega), Array.getElem?_eq_none (by simp; omega)]
 ·exact Kd.R_mono (R_setC (fun _ hk => hk.2) vs 0 w (Kd.R_types hr h.z (by decide))) (fun _ hk => hk.1)
theorem made (w : World) (vc : Array Value) (w4 : World) (hw : w4 = ((((w.alloc (.cells vc 36)).alloc (.cells z7 42)).alloc (.cells z7 42)).alloc (.cells #[.pointer (some ⟨w.heap.size + 1 + 1, 0, none⟩)] 75)).alloc (poMap (w.heap.size + 1 + 1 + 1))) :
  RW w.heap.size (w.heap.size + 1) (w.heap.size + 1 + 1) (w.heap.size + 1 + 1 + 1) (w.heap.size + 1 + 1 + 1 + 1) w.heap.size vc z28 ([], [], []) (.slice none 0 0) (.slice none 0 0) (.slice none 0 0) w w4 := by
 obtain ⟨W1, h1⟩ : ∃ W1, W1 = w.alloc (.cells vc 36) := ⟨_, rfl⟩
 rw [← h1] at hw
 obtain ⟨W2, h2⟩ : ∃ W2, W2 = W1.alloc (.cells z7 42) := ⟨_, rfl⟩
 rw [← h2] at hw
 obtain ⟨W3, h3⟩ : ∃ W3, W3 = W2.alloc (.cells z7 42) := ⟨_, rfl⟩
 rw [← h3] at hw
 obtain ⟨W4, h4⟩ : ∃ W4, W4 = W3.alloc (.cells #[.pointer (some ⟨w.heap.size + 1 + 1, 0, none⟩)] 75) := ⟨_, rfl⟩
 rw [← h4] at hw
 have s1 : W1.heap.size = w.heap.size + 1 := by rw [h1]; simp
 have s2 : W2.heap.size = w.heap.size + 1 + 1 := by rw [h2]; simp [s1]
 have s3 : W3.heap.size = w.heap.size + 1 + 1 + 1 := by rw [h3]; simp [s2]
 have s4 : W4.heap.size = w.heap.size + 1 + 1 + 1 + 1 := by rw [h4]; simp [s3]
 have b1 : W1.heap[w.heap.size]? = some (.cells vc 36) := by rw [h1]; exact map_get w _
 have b2 : W2.heap[w.heap.size + 1]? = some (.cells z7 42) := by rw [h2, ← s1]; exact map_get W1 _
 have b3 : W3.heap[w.heap.size + 1 + 1]? = some (.cells z7 42) := by rw [h3, ← s2]; exact map_get W2 _
 have b4 : W4.heap[w.heap.size + 1 + 1 + 1]? = some (.cells #[.pointer (some ⟨w.heap.size + 1 + 1, 0, none⟩)] 75) := by rw [h4, ← s3]; exact map_get W3 _
 have b5 : w4.heap[w.heap.size + 1 + 1 + 1 + 1]? = some (poMap (w.heap.size + 1 + 1 + 1)) := by rw [hw, ← s4]; exact map_get W4 _
 have l1 : Below w.heap.size w W1 := by rw [h1]; exact (Below.refl _ _).alloc (Nat.le_refl _) _
 have l2 : Below w.heap.size w W2 := by rw [h2]; exact l1.alloc (by omega) _
 have l3 : Below w.heap.size w W3 := by rw [h3]; exact l2.alloc (by omega) _
 have l4 : Below w.heap.size w W4 := by rw [h4]; exact l3.alloc (by omega) _
 have l5 : Below w.heap.size w w4 := by rw [hw]; exact l4.alloc (by omega) _
 refine ⟨⟨?_, ?_, Kd.R_nil _ _ _ _ _, Kd.R_nil _ _ _ _ _, Kd.R_nil _ _ _ _ _, by omega, l5⟩, b5, ?_, ?_, by omega, by omega⟩
 ·rw [hw, h4]; exact blk_alloc (blk_alloc b3 _) _
 ·rw [hw]; exact blk_alloc b4 _
 ·rw [hw, h4, h3, h2]; exact blk_alloc (blk_alloc (blk_alloc (blk_alloc b1 _) _) _) _
 ·rw [hw, h4, h3]; exact blk_alloc (blk_alloc (blk_alloc b2 _) _) _
theorem keeps_cand {br bx : Nat} {w w1 : World} {cs : Array Value} (hk : Keeps br w w1) (h : w.heap[bx]? = some (.cells cs 28 (0, 0))) (hb : br < bx) : w1.heap[bx]? = some (.cells cs 28 (0, 0)) := hk bx _ h (Nat.ne_of_gt hb) (fun _ e => by injection e with _ e; exact absurd e (by decide))
theorem lt_of_cell {w : World} {g j : Nat} {v : Value} (h : w.cell? ⟨g, j, none⟩ = some v) : g < w.heap.size := World.block_lt_of_cell? w ⟨g, j, none⟩ h
theorem bnew (w : World) (o : Obj) : Below w.heap.size w (w.alloc o) := (Below.refl _ w).alloc (Nat.le_refl _) o
theorem head_at {s : List Cd} {x : Cd} (h : ∃ h, x = s[0]'h) : x = s.headD z28 := by
 obtain ⟨h, rfl⟩ := h
 cases s with
 | nil => simp at h
 | cons y s => rfl
def occurrence_Resolve.f (a0 : Int) (l1 : List S66) (l2 : List S68) (l : List Cd) : Option (Int × Int × Int × ByteArray × List Int × List Int × List Int) :=
 if l.length ≤ 100000 ∧ ((isort lessB l).drop 1).all (rOkB l2) = true then
  some (((isort lessB l).headD z28).f0, ((isort lessB l).headD z28).f1, ((isort lessB l).headD z28).f2, ((isort lessB l).headD z28).f3, (rAt l2 (isort lessB l) l.length).1, (rAt l2 (isort lessB l) l.length).2.1, (rAt l2 (isort lessB l) l.length).2.2)
 else none
theorem resolve_any (a0 : Int) (A1 : Option Addr) (c1 : Nat) (l1 : List S66) (A2 : Option Addr) (c2 n2 : Nat) (l2 : List S68) (A : Option Addr) (c n n1 : Nat) (l : List Cd) (w : World) (hn : n = l.length) (hn1 : n1 = l1.length) (hn2 : n2 = l2.length)
  (hr2 : Kd.C k68 w A2 n2 l2) (hr : Kd.C k28 w A n l) (hc : n ≤ c) (hl : n ≤ 100000) (s : List Cd) (hs : s = isort lessB l) (hok : ∀ i, 1 ≤ i → (h : i < s.length) → rOkB l2 s[i] = true) :
  Calls Try.prog 17 #[.agg #[.int .i64 a0, .slice A1 n1 c1, .slice A2 n2 c2], .slice A n c] w fun e w' => ∃ vC vO vI, e = .returned (.agg #[.int .i64 (s.headD z28).f0, .int .i64 (s.headD z28).f1, .int .i64 (s.headD z28).f2, .string (s.headD z28).f3, vC, vO, vI]) ∧
   Kd.R (Kd.int .i64) 3 w' w.heap.size (fun k => some k ≠ (vO : Value).ownBlock ∧ some k ≠ (vI : Value).ownBlock) vC (rAt l2 s n).1 ∧ Kd.R (Kd.int .i64) 3 w' w.heap.size (fun k => some k ≠ (vC : Value).ownBlock ∧ some k ≠ (vI : Value).ownBlock) vO (rAt l2 s n).2.1 ∧ Kd.R (Kd.int .i64) 3 w' w.heap.size (fun k => some k ≠ (vC : Value).ownBlock ∧ some k ≠ (vO : Value).ownBlock) vI (rAt l2 s n).2.2 ∧ Below w.heap.size w w' := by
 have hsl : s.length = n := by rw [hs, length_isort]; exact hn.symm
 have HS0 := am_ (show ∀ W, Below w.heap.size w W → Calls Try.prog 9 #[.slice A n c] W fun e W' => ∃ v, e = .returned v ∧ Kd.R k28 28 W' W.heap.size (fun _ => True) v s ∧ Below W.heap.size W W' from fun W hb => by
  subst hn
  rw [hs]
  exact precedence_Sort.calls A c l _ W (Kd.C_below hr hb) hc (by unfold precedence_Sort.f; rw [if_pos (by omega)]))
 have H2 := am_ (show ∀ W, Below w.heap.size w W → Kd.C k68 W A2 n2 l2 from fun W hb => Kd.C_below hr2 hb)
 have HN := am_ (And.intro hsl (And.intro hn2 hl))
 have HOK := am_ hok
 have hu1 := Try.underlying28
 have hu2 := Try.underlying42
 have hu3 := Try.underlying36
 have hu4 := Try.underlying68
 clear hn hn1 hn2 hr2 hr hc hl hs hok hsl
 go_enter Try.func17, Try.ntmps17
 go_wp2_with fail
 refine Calls.mono (policies_any _ _ _ rfl) ?_; rintro e w4 ⟨rfl, hw⟩
 have HW := am_ (made w #[.int .i64 a0, .slice A1 n1 c1, .slice A2 n2 c2] w4 (by rw [hw]; simp [z7]))
 clear hw
 go_wp2_with fail
 generalize w.heap.size + 1 + 1 + 1 + 1 = bm at HW ⊢
 generalize w.heap.size + 1 + 1 + 1 = bp at HW ⊢
 generalize w.heap.size + 1 + 1 = br at HW ⊢
 generalize w.heap.size + 1 = b4 at HW ⊢
 obtain ⟨B, hB⟩ : ∃ B, B = w.heap.size := ⟨_, rfl⟩
 obtain ⟨bc, hbc⟩ : ∃ B, B = w.heap.size := ⟨_, rfl⟩
 obtain ⟨vc, hvc⟩ : ∃ vc : Array Value, vc = #[.int .i64 a0, .slice A1 n1 c1, .slice A2 n2 c2] := ⟨_, rfl⟩
 have HW2 := am_ (show RW bc b4 br bp bm B vc z28 ([], [], []) (.slice none 0 0) (.slice none 0 0) (.slice none 0 0) w w4 from by rw [hB, hbc, hvc]; exact HW.out)
 have HVC := am_ (And.intro hvc hB)
 rw [← hbc]
 clear HW hB hbc hvc
 refine Calls.mono (HS0.out _ (by rw [← HVC.out.2]; exact HW2.out.rs.below)) ?_; rintro e w5 ⟨v, rfl, h1, h2⟩
 obtain ⟨g, As, cs, hv, hrow⟩ : ∃ g As cs, v = .slice As n cs ∧ (0 < n → As = some ⟨g, 0, none⟩ ∧ CRow g s w5 ∧ g ≠ br) := by
  rcases crow_of h1 with ⟨hv, hs⟩ | ⟨g, c, hv, hr, hg⟩
  ·have hn0 : n = 0 := by rw [← HN.out.1, hs]; rfl
   exact ⟨0, none, 0, by rw [hv, hn0], fun h => by omega⟩
  ·refine ⟨g, some ⟨g, 0, none⟩, c, by rw [hv, HN.out.1], fun _ => ⟨rfl, hr, ?_⟩⟩
   have := blk_lt HW2.out.rs.r
   omega
 subst hv
 have HR := am_ hrow
 have HW := am_ (HW2.out.step h2)
 clear h1 h2 hrow HW2 HS0
 go_wp2_with fail
 go_loopg [13] n (fun kq v13 w' => ∃ (i : Nat) (st : Ls) (vC vO vI : Value), v13 = .int .i64 i ∧ Aside0 (i + kq = n) ∧ Aside0 (st = rAt l2 s i) ∧ Aside0 (RW bc b4 br bp bm B vc (if i = 0 then z28 else s.headD z28) st vC vO vI w w') ∧ Aside0 (0 < n → As = some ⟨g, 0, none⟩ ∧ CRow g s w' ∧ g ≠ br))
 case atStart => exact ⟨0, _, _, _, _, rfl, ⟨by omega⟩, ⟨(rAt_small l2 s (by omega)).symm⟩, ⟨by rw [if_pos rfl]; exact HW.out⟩, HR⟩
 case round =>
  clear HW HR
  obtain ⟨i, st, vC, vO, vI, rfl, HI, HST, HW, HR⟩ := hrel
  have i1 := HI.out
  by_cases hin : i < n
  ·obtain ⟨k1, rfl⟩ : ∃ m, gk = m + 1 := ⟨gk - 1, by omega⟩
   obtain ⟨hA, hrow, hgne⟩ := HR.out (by omega)
   subst hA
   have hiL : i < s.length := by rw [HN.out.1]; exact hin
   obtain ⟨x1, x2, x3, x4⟩ := hrow.at_ i hiL
   obtain ⟨x, hx⟩ : ∃ x, x = s[i] := ⟨_, rfl⟩
   rw [← hx] at x1 x2 x3 x4
   have HX := am_ (show ∃ h, x = s[i]'h from ⟨hiL, hx⟩)
   have d5 : decide ((i : Int) < (n : Int)) = true := decide_eq_true (by omega)
   have d5b : decide (i < n) = true := decide_eq_true hin
   have b5 : (0 : Int) ≤ (i : Int) := by omega
   have b6 : (i : Int) < (n : Int) := by omega
   have b7 : n ≤ 100000 := HN.out.2.2
   have HG := am_ (And.intro hrow hgne)
   have lr := blk_lt HW.out.rs.r
   clear hx hiL hrow hgne HR
   by_cases hi0 : i = 0
   ·subst hi0
    have HW0 := am_ (show RW bc b4 br bp bm B vc z28 st vC vO vI w wr from by have := HW.out; rwa [if_pos rfl] at this)
    have r := HW0.out.rs.r
    have c0 : wr.cell? ⟨br, 0, none⟩ = some (.int .i64 0) := blkc_ r 0 _ rfl
    have c1 : wr.cell? ⟨br, 1, none⟩ = some (.int .i64 0) := blkc_ r 1 _ rfl
    have c2 : wr.cell? ⟨br, 2, none⟩ = some (.int .i64 0) := blkc_ r 2 _ rfl
    have c3 : wr.cell? ⟨br, 3, none⟩ = some (.string ⟨#[]⟩) := blkc_ r 3 _ rfl
    have f0 := blks_ r 0
    have f1 := blks_ r 1
    have f2 := blks_ r 2
    have f3 := blks_ r 3
    have HP1 := am_ ((HW0.out.put x).step (bnew (putP br x wr) (.cells #[.int .i64 x.f0, .int .i64 x.f1, .int .i64 x.f2, .string x.f3] 28)))
    have HP2 := am_ ((HG.out.1.move (putP_other br x wr g HG.out.2)).move (Below.heap_alloc (putP br x wr) (.cells #[.int .i64 x.f0, .int .i64 x.f1, .int .i64 x.f2, .string x.f3] 28) g (HG.out.1.move (putP_other br x wr g HG.out.2)).lt))
    unfold putP at HP1 HP2
    clear HW HW0 r
    go_wp2_with fail
    go_roundg k1
    case measure => omega
    case rel =>
     have e1 : st = rAt l2 s 1 := by rw [HST.out, rAt_small l2 s (by omega), rAt_small l2 s (by omega)]
     have e2 := head_at HX.out
     have e3 := HP1.out
     rw [e2] at e3
     exact ⟨1, st, vC, vO, vI, by go_num, ⟨by omega⟩, ⟨e1⟩, ⟨by rw [if_neg (by omega)]; rw [← e2] at e3 ⊢; exact e3⟩, ⟨fun _ => ⟨by first | rfl | trivial, HP2.out, HG.out.2⟩⟩⟩
   ·have HW0 := am_ (show RW bc b4 br bp bm B vc (s.headD z28) st vC vO vI w wr from by have := HW.out; rwa [if_neg hi0] at this)
    have HN1 := am_ (HW0.out.step (bnew wr (.cells #[.int .i64 x.f0, .int .i64 x.f1, .int .i64 x.f2, .string x.f3] 28)))
    have HN2 := am_ (HG.out.1.move (Below.heap_alloc wr (.cells #[.int .i64 x.f0, .int .i64 x.f1, .int .i64 x.f2, .string x.f3] 28) g HG.out.1.lt))
    have HRT := am_ (show rAt l2 s (i + 1) = rTake l2 st x from by obtain ⟨h, e⟩ := HX.out; rw [HST.out, e]; exact rAt_succ l2 s (by omega) h)
    have d6 : ((i : Int) == 0) = false := beq_eq_false_iff_ne.mpr (by omega)
    have d6b : (i == 0) = false := beq_eq_false_iff_ne.mpr hi0
    by_cases hk : x.f0 = 2
    ·have d7 : (x.f0 == 2) = true := beq_iff_eq.mpr hk
     obtain ⟨p0, p1, p2⟩ := rOkB_of (show rOkB l2 x = true from by obtain ⟨h, e⟩ := HX.out; rw [e]; exact HOK.out i (by omega) h) hk
     have h2r := H2.out w (Below.refl _ _)
     obtain ⟨ad, eA, y0, y1, y2, y3, y4, y5, y6, y7, y8⟩ := at_T68 h2r x.f1 p0 (by rw [HN.out.2.1]; exact p1)
     clear y0 y1 y3 y4 y5 y6 y7 y8 h2r
     subst eA
     obtain ⟨p, hp⟩ : ∃ p, p = (rd_T68 l2 x.f1).f2 := ⟨_, rfl⟩
     rw [← hp] at y2 p2
     have HP := am_ (And.intro hp (And.intro p2 hk))
     have HFe := am_ (show ∀ W : World, Below B w W → W.cell? ⟨(ad.add (x.f1.toNat * 9)).block, (ad.add (x.f1.toNat * 9)).off + 2, none⟩ = some (.int .i64 p) from fun W hb => (hb.cell (p := ⟨(ad.add (x.f1.toNat * 9)).block, (ad.add (x.f1.toNat * 9)).off + 2, none⟩) (by rw [HVC.out.2]; exact lt_of_cell y2)).trans y2)
     have p0t := eq_true p0
     have p1t : decide (x.f1 < (n2 : Int)) = true := decide_eq_true (by rw [HN.out.2.1]; exact p1)
     have p1u : x.f1 < (n2 : Int) := by rw [HN.out.2.1]; exact p1
     have e2 : wr.cell? ⟨bc, 2, none⟩ = some (.slice (some ad) n2 c2) := blkc_ HW0.out.c 2 _ (by rw [HVC.out.1]; rfl)
     have HM := am_ HW0.out.m
     have hcf := fun (args : Array Value) (W : World) => pol_enter p args W
     have hst := rAt_len l2 s i (by rw [HN.out.1]; omega)
     rw [← HST.out] at hst
     have HSL := am_ (show st.1.length ≤ 1000000 ∧ st.2.1.length ≤ 1000000 ∧ st.2.2.length ≤ 1000000 by omega)
     have HV2 := am_ (show vc[2]? = some (.slice (some ad) n2 c2) from by rw [HVC.out.1]; rfl)
     have HBR := am_ lr
     clear hp p1 p2 hk HW HW0 hst y2
     go_wp2_with fail
     obtain ⟨X, hX⟩ : ∃ X : Obj, X = .cells #[.int .i64 x.f0, .int .i64 x.f1, .int .i64 x.f2, .string x.f3] 28 := ⟨_, rfl⟩
     have hb8 := bnew wr X
     have k1_ : (wr.alloc X).cell? ⟨bc, 2, none⟩ = some (.slice (some ad) n2 c2) := (hb8.cell (lt_of_cell e2)).trans e2
     have k2_ : (wr.alloc X).cell? ⟨wr.heap.size, 1, none⟩ = some (.int .i64 x.f1) := by rw [hX, World.cell?_alloc_new]; rfl
     have k3_ : (wr.alloc X).cell? ⟨(ad.add (x.f1.toNat * 9)).block, (ad.add (x.f1.toNat * 9)).off + 2, none⟩ = some (.int .i64 p) := HFe.out _ (by rw [hX]; exact HN1.out.rs.below)
     have k4_ : (wr.alloc X).heap[bm]? = some (poMap bp) := blk_alloc HM.out X
     rw [← hX] at HN1 HN2 ⊢
     have kb : (wr.alloc X).heap[wr.heap.size]? = some (.cells #[.int .i64 x.f0, .int .i64 x.f1, .int .i64 x.f2, .string x.f3] 28 (0, 0)) := (map_get wr X).trans (congrArg some hX)
     have HKB := am_ kb
     obtain ⟨bx, hbx⟩ : ∃ bx, bx = wr.heap.size := ⟨_, rfl⟩
     rw [← hbx] at k2_ HBR HKB ⊢
     clear hb8 e2 lr kb x1 x2 x3 x4 hX hbx
     generalize wr.alloc X = W8 at HN1 HN2 HKB k1_ k2_ k3_ k4_ ⊢
     have HKK := am_ (And.intro k1_ (And.intro k2_ (And.intro k3_ k4_)))
     have hlk : ∀ W : World, W.heap[bm]? = some (poMap bp) → (Instr.lookup 73 (.map (some bm)) (.int .i64 p) false).run Try.prog W = .ok (.func (.func (polF p)) #[] #[.pointer (some ⟨bp, 0, none⟩)]) W := fun W hW => pol_look p HP.out.2.1 bm bp W hW
     have HLK := am_ hlk
     clear hlk
     go_region_held3 (fun w' => w'.cell? ⟨bc, 2, none⟩ = some (.slice (some ad) n2 c2) ∧ w'.cell? ⟨bx, 1, none⟩ = some (.int .i64 x.f1) ∧ w'.cell? ⟨(ad.add (x.f1.toNat * 9)).block, (ad.add (x.f1.toNat * 9)).off + 2, none⟩ = some (.int .i64 p) ∧ (Instr.lookup 73 (.map (some bm)) (.int .i64 p) false).run Try.prog w' = .ok (.func (.func (polF p)) #[] #[.pointer (some ⟨bp, 0, none⟩)]) w')
      (first | exact ⟨HKK.out.1, HKK.out.2.1, HKK.out.2.2.1, HLK.out _ HKK.out.2.2.2⟩ | exact HAFT.out)
      ((refine Calls.mono (pol_add p br bp B _ st.1 st.2.1 st.2.2 vC vO vI w W8.drew x.f1 (HN1.out.rs.step (Below.refl _ _).drew) HSL.out) ?_; rintro e w2 ⟨rfl, ⟨vC', vO', vI', h1⟩, h2⟩; have HN3 := am_ (show RW bc b4 br bp bm B vc (s.headD z28) (addTo p x.f1 (st.1, st.2.1, st.2.2)) vC' vO' vI' w w2 from (HN1.out.step (Below.refl _ _).drew).kept h2 h1); have HN4 := am_ (show CRow g s w2 from (HN2.out.move rfl).kept h2 HG.out.2); have HKB2 := am_ (keeps_cand h2 HKB.out HBR.out); clear h1 h2 HN1 HN2; have HAFT := am_ (And.intro (show w2.cell? ⟨bc, 2, none⟩ = some (.slice (some ad) n2 c2) from blkc_ HN3.out.c 2 _ HV2.out) (And.intro (show w2.cell? ⟨bx, 1, none⟩ = some (.int .i64 x.f1) from blkc_ HKB2.out 1 _ rfl) (And.intro (HFe.out _ HN3.out.rs.below) (HLK.out _ HN3.out.m))))))
     clear HAFT HKK HKB HKB2
     go_wp2_with fail
     go_roundg k1
     case measure => omega
     case rel => exact ⟨i + 1, _, vC', vO', vI', by go_num, ⟨by omega⟩, ⟨rfl⟩, ⟨by rw [if_neg (by omega), HRT.out]; unfold rTake; rw [if_pos HP.out.2.2, ← HP.out.1]; exact HN3.out⟩, ⟨fun _ => ⟨by first | rfl | trivial, HN4.out, HG.out.2⟩⟩⟩
    ·have d7 : (x.f0 == 2) = false := beq_eq_false_iff_ne.mpr hk
     clear HW HW0
     go_wp2_with fail
     go_roundg k1
     case measure => omega
     case rel => exact ⟨i + 1, st, vC, vO, vI, by go_num, ⟨by omega⟩, ⟨by rw [HRT.out]; unfold rTake; rw [if_neg hk]⟩, ⟨by rw [if_neg (by omega)]; exact HN1.out⟩, ⟨fun _ => ⟨by first | rfl | trivial, HN2.out, HG.out.2⟩⟩⟩
  ·have hin2 : i = n := by omega
   subst hin2
   have d5 : decide ((i : Int) < (i : Int)) = false := decide_eq_false (by omega)
   obtain ⟨y, hy⟩ : ∃ y, y = s.headD z28 := ⟨_, rfl⟩
   have HW0 := am_ (show RW bc b4 br bp bm B vc y st vC vO vI w wr from by
    have := HW.out
    by_cases h0 : i = 0
    ·have hs : s = [] := List.length_eq_zero_iff.1 (by rw [HN.out.1]; exact h0)
     rw [if_pos h0] at this
     rw [hy, hs]
     exact this
    ·rw [if_neg h0] at this
     rw [hy]
     exact this)
   have r := HW0.out.rs.r
   have z := HW0.out.z
   obtain ⟨A4, k4, eC⟩ := Kd.R_slice HW0.out.rs.hC
   obtain ⟨A5, k5, eO⟩ := Kd.R_slice HW0.out.rs.hO
   obtain ⟨A6, k6, eI⟩ := Kd.R_slice HW0.out.rs.hI
   subst eC
   subst eO
   subst eI
   have HF := am_ (And.intro r (And.intro z hy))
   have c0 : wr.cell? ⟨br, 0, none⟩ = some (.int .i64 y.f0) := blkc_ r 0 _ rfl
   have c1 : wr.cell? ⟨br, 1, none⟩ = some (.int .i64 y.f1) := blkc_ r 1 _ rfl
   have c2 : wr.cell? ⟨br, 2, none⟩ = some (.int .i64 y.f2) := blkc_ r 2 _ rfl
   have c3 : wr.cell? ⟨br, 3, none⟩ = some (.string y.f3) := blkc_ r 3 _ rfl
   have c4 : wr.cell? ⟨br, 4, none⟩ = some (.slice A4 st.1.length k4) := blkc_ r 4 _ rfl
   have c5 : wr.cell? ⟨br, 5, none⟩ = some (.slice A5 st.2.1.length k5) := blkc_ r 5 _ rfl
   have c6 : wr.cell? ⟨br, 6, none⟩ = some (.slice A6 st.2.2.length k6) := blkc_ r 6 _ rfl
   have g0 : wr.cell? ⟨b4, 0, none⟩ = some (.int .i64 0) := blkc_ z 0 _ rfl
   have g1 : wr.cell? ⟨b4, 1, none⟩ = some (.int .i64 0) := blkc_ z 1 _ rfl
   have g2 : wr.cell? ⟨b4, 2, none⟩ = some (.int .i64 0) := blkc_ z 2 _ rfl
   have g3 : wr.cell? ⟨b4, 3, none⟩ = some (.string ⟨#[]⟩) := blkc_ z 3 _ rfl
   have g4 : wr.cell? ⟨b4, 4, none⟩ = some (.slice none 0 0) := blkc_ z 4 _ rfl
   have g5 : wr.cell? ⟨b4, 5, none⟩ = some (.slice none 0 0) := blkc_ z 5 _ rfl
   have g6 : wr.cell? ⟨b4, 6, none⟩ = some (.slice none 0 0) := blkc_ z 6 _ rfl
   have f0 := blks_ z 0
   have f1 := blks_ z 1
   have f2 := blks_ z 2
   have f3 := blks_ z 3
   have f4 := blks_ z 4
   have f5 := blks_ z 5
   have f6 := blks_ z 6
   have hne := HW0.out.ne
   clear hy r z HR HW
   go_wp2_with fail
   obtain ⟨hb4, hrows, hbl⟩ := HW0.out.put7 [.int .i64 y.f0, .int .i64 y.f1, .int .i64 y.f2, .string y.f3, .slice A4 st.1.length k4, .slice A5 st.2.1.length k5, .slice A6 st.2.2.length k6] rfl
   refine bodyPost_ret (results_cell_row rfl _ _ b4 42 #[.int .i64 y.f0, .int .i64 y.f1, .int .i64 y.f2, .string y.f3, .slice A4 st.1.length k4, .slice A5 st.2.1.length k5, .slice A6 st.2.2.length k6] (0, 0) _ rfl hb4 Try.underlying42 rfl (by kernel_rfl)) rfl ?_
   rw [← HF.out.2.2, ← HST.out, ← HVC.out.2]
   exact ⟨_, _, _, rfl, hrows HW0.out.rs.hC, hrows HW0.out.rs.hO, hrows HW0.out.rs.hI, hbl⟩
theorem occurrence_Resolve.calls (a0_0 : Int) (A0_1 : Option Addr) (c0_1 : Nat) (l0_1 : List S66) (A0_2 : Option Addr) (c0_2 : Nat) (l0_2 : List S68) (A1 : Option Addr) (c1 : Nat) (l1 : List Cd) (r1 r2 r3 : Int) (r4 : ByteArray) (r5 r6 r7 : List Int) (w : World) (hr0_1 : Kd.C k66 w A0_1 l0_1.length l0_1) (hc0_1 : l0_1.length ≤ c0_1) (hr0_2 : Kd.C k68 w A0_2 l0_2.length l0_2) (hc0_2 : l0_2.length ≤ c0_2) (hr1 : Kd.C k28 w A1 l1.length l1) (hc1 : l1.length ≤ c1) (h : occurrence_Resolve.f a0_0 l0_1 l0_2 l1 = some (r1, r2, r3, r4, r5, r6, r7)) :
  Calls Try.prog 17 #[.agg #[.int .i64 a0_0, .slice A0_1 l0_1.length c0_1, .slice A0_2 l0_2.length c0_2], .slice A1 l1.length c1] w fun e w' => ∃ v4_ v5_ v6_ : Value, e = .returned (.agg #[.int .i64 r1, .int .i64 r2, .int .i64 r3, .string r4, v4_, v5_, v6_]) ∧ Kd.R (Kd.int .i64) 3 w' w.heap.size (fun k_ => some k_ ≠ (v5_ : Value).ownBlock ∧ some k_ ≠ (v6_ : Value).ownBlock) v4_ r5 ∧ Kd.R (Kd.int .i64) 3 w' w.heap.size (fun k_ => some k_ ≠ (v4_ : Value).ownBlock ∧ some k_ ≠ (v6_ : Value).ownBlock) v5_ r6 ∧ Kd.R (Kd.int .i64) 3 w' w.heap.size (fun k_ => some k_ ≠ (v4_ : Value).ownBlock ∧ some k_ ≠ (v5_ : Value).ownBlock) v6_ r7 ∧ Below w.heap.size w w' := by
 unfold occurrence_Resolve.f at h
 split at h
 ·rename_i hc
  simp only [Option.some.injEq, Prod.mk.injEq] at h
  obtain ⟨rfl, rfl, rfl, rfl, rfl, rfl, rfl⟩ := h
  exact resolve_any a0_0 A0_1 c0_1 l0_1 A0_2 c0_2 _ l0_2 A1 c1 _ _ l1 w rfl rfl rfl hr0_2 hr1 hc1 hc.1 _ rfl (fun i h0 hi => by
   have := List.all_eq_true.1 hc.2 (isort lessB l1)[i] (by
    obtain ⟨j, rfl⟩ : ∃ j, i = j + 1 := ⟨i - 1, by omega⟩
    have e : (isort lessB l1)[j + 1] = ((isort lessB l1).drop 1)[j]'(by rw [List.length_drop]; omega) := by rw [List.getElem_drop]; congr 1; omega
    rw [e]
    exact List.getElem_mem _)
   exact this)
 ·simp at h
end Go.Proofs.Ytopfjjdkffdjpaa.Q
end
section
namespace Go.Proofs.Ytopfjjdkffdjpaa.Q
open Go.RowKit Go.Proofs.YtopfjjdkffdjpaaW.PrintWords Go.Proofs.YtopfjjdkffdjpaaW.PrintLast Go.Proofs.YtopfjjdkffdjpaaW.PrintMore
attribute [local go_sem ↓] Go.wp_at_zero Go.wp_at_succ
structure DW (bo b4 bc b3 B : Nat) (vc vr : Array Value) (C O I : List Int) (vC vO vI : Value) (w0 w : World) : Prop where
 o : w.heap[bo]? = some (.cells #[.int .i64 0, .int .i64 0, .int .i64 0, .string ⟨#[]⟩, vC, vO, vI] 42 (0, 0))
 hC : Kd.R (Kd.int .i64) 3 w B (fun k => some k ≠ vO.ownBlock ∧ some k ≠ vI.ownBlock) vC C
 hO : Kd.R (Kd.int .i64) 3 w B (fun k => some k ≠ vC.ownBlock ∧ some k ≠ vI.ownBlock) vO O
 hI : Kd.R (Kd.int .i64) 3 w B (fun k => some k ≠ vC.ownBlock ∧ some k ≠ vO.ownBlock) vI I
 c : w.heap[bc]? = some (.cells vc 36 (0, 0))
 r : w.heap[b3]? = some (.cells vr 42 (0, 0))
 z : w.heap[b4]? = some (.cells z7 42 (0, 0))
 ne : b4 ≠ bo
 ne3 : b3 ≠ bo
 lo : B ≤ bo
 l4 : B ≤ b4
 below : Below B w0 w
theorem R_within {w : World} {base B : Nat} {v : Value} {l : List Int} (h : Kd.R (Kd.int .i64) 3 w base (fun _ => True) v l) (hB : B ≤ base) : Kd.R (Kd.int .i64) 3 w B (fun k => base ≤ k ∧ k < w.heap.size) v l :=
 Kd.R_mono (Kd.R_lower (Kd.R_bound h) hB) (fun k hk => ⟨hk.2.1, hk.2.2.1⟩)
theorem R_apart {w : World} {B a b c d c2 d2 : Nat} {v u t : Value} {l : List Int} (h : Kd.R (Kd.int .i64) 3 w B (fun k => a ≤ k ∧ k < b) v l) (hu : ∀ k, u.ownBlock = some k → c ≤ k ∧ k < d) (ht : ∀ k, t.ownBlock = some k → c2 ≤ k ∧ k < d2) (h1 : b ≤ c ∨ d ≤ a) (h2 : b ≤ c2 ∨ d2 ≤ a) :
  Kd.R (Kd.int .i64) 3 w B (fun k => some k ≠ u.ownBlock ∧ some k ≠ t.ownBlock) v l :=
 Kd.R_mono h (fun k hk => ⟨fun e => by have := hu k e.symm; omega, fun e => by have := ht k e.symm; omega⟩)
theorem made3 (w : World) (vc vr : Array Value) (W0 : World) (hw : W0 = ((w.alloc (.cells vc 36)).alloc (.cells vr 42)).alloc (.cells z7 42)) :
  W0.heap[w.heap.size]? = some (.cells vc 36 (0, 0)) ∧ W0.heap[w.heap.size + 1]? = some (.cells vr 42 (0, 0)) ∧ W0.heap[w.heap.size + 1 + 1]? = some (.cells z7 42 (0, 0)) ∧ Below w.heap.size w W0 := by
 obtain ⟨W1, h1⟩ : ∃ W1, W1 = w.alloc (.cells vc 36) := ⟨_, rfl⟩
 rw [← h1] at hw
 obtain ⟨W2, h2⟩ : ∃ W2, W2 = W1.alloc (.cells vr 42) := ⟨_, rfl⟩
 rw [← h2] at hw
 have s1 : W1.heap.size = w.heap.size + 1 := by rw [h1]; simp
 have s2 : W2.heap.size = w.heap.size + 1 + 1 := by rw [h2]; simp [s1]
 have b1 : W1.heap[w.heap.size]? = some (.cells vc 36) := by rw [h1]; exact map_get w _
 have b2 : W2.heap[w.heap.size + 1]? = some (.cells vr 42) := by rw [h2, ← s1]; exact map_get W1 _
 have b3 : W0.heap[w.heap.size + 1 + 1]? = some (.cells z7 42) := by rw [hw, ← s2]; exact map_get W2 _
 have l1 : Below w.heap.size w W1 := by rw [h1]; exact (Below.refl _ _).alloc (Nat.le_refl _) _
 have l2 : Below w.heap.size w W2 := by rw [h2]; exact l1.alloc (by omega) _
 refine ⟨?_, ?_, b3, by rw [hw]; exact l2.alloc (by omega) _⟩
 ·rw [hw, h2]; exact blk_alloc (blk_alloc b1 _) _
 ·rw [hw]; exact blk_alloc b2 _
theorem new_z (W0 W : World) (h : Below W0.heap.size W0 W) : (W.alloc (.cells z7 42)).heap[W.heap.size]? = some (.cells z7 42 (0, 0)) ∧ W0.heap.size ≤ W.heap.size := ⟨map_get W _, h.size⟩
theorem below_put7 {W0 W : World} {bo : Nat} {u0 u1 u2 u3 u4 u5 u6 : Value} (h : Below W0.heap.size W0 W) (hb : W0.heap.size ≤ bo) : Below W0.heap.size W0 (((((((W.setCell ⟨bo, 0, none⟩ u0).setCell ⟨bo, 1, none⟩ u1).setCell ⟨bo, 2, none⟩ u2).setCell ⟨bo, 3, none⟩ u3).setCell ⟨bo, 4, none⟩ u4).setCell ⟨bo, 5, none⟩ u5).setCell ⟨bo, 6, none⟩ u6) := h.trans ((setCells_other bo [u0, u1, u2, u3, u4, u5, u6] 0 W).mono hb)
theorem put7_gen {W : World} {bo : Nat} (z : W.heap[bo]? = some (.cells z7 42 (0, 0))) (vs : List Value) (hv : vs.length = 7) : (W.setCells bo 0 vs).heap[bo]? = some (.cells vs.toArray 42 (0, 0)) := by
 obtain ⟨cur', e1, e2, e3, e4⟩ := heap_setCells_at bo vs 0 W z7 _ z (by rw [hv]; exact Nat.le_refl _)
 rw [e1]
 congr 2
 apply Array.ext_getElem?
 intro j
 by_cases hj : j < vs.length
 ·have := e3 j hj
  rw [Nat.zero_add] at this
  rw [this]
  simp
 ·rw [Array.getElem?_eq_none (by rw [e2]; show 7 ≤ j; omega), Array.getElem?_eq_none (by simp; omega)]
theorem DW.fin {w W0 W : World} {bc b3 b4 bo : Nat} {vc vr : Array Value} {C O I : List Int} {A7 A8 A9 : Option Addr} {n4 n5 n6 c7 c8 c9 x1 y1 x2 y2 x3 y3 : Nat}
  (hM : W0.heap[bc]? = some (.cells vc 36 (0, 0)) ∧ W0.heap[b3]? = some (.cells vr 42 (0, 0)) ∧ W0.heap[b4]? = some (.cells z7 42 (0, 0)) ∧ Below w.heap.size w W0) (hBC : bc = w.heap.size ∧ b3 ≠ b4 ∧ w.heap.size ≤ b4)
  (hB : Below w.heap.size w W) (hG : Below W0.heap.size W0 W) (hZ : W.heap[bo]? = some (.cells z7 42 (0, 0)) ∧ W0.heap.size ≤ bo)
  (h1 : Kd.R (Kd.int .i64) 3 W w.heap.size (fun k => x1 ≤ k ∧ k < y1) (.slice A7 n4 c7) C) (h2 : Kd.R (Kd.int .i64) 3 W w.heap.size (fun k => x2 ≤ k ∧ k < y2) (.slice A8 n5 c8) O) (h3 : Kd.R (Kd.int .i64) 3 W w.heap.size (fun k => x3 ≤ k ∧ k < y3) (.slice A9 n6 c9) I) (hy1 : y1 ≤ x2) (hy2 : y2 ≤ x3) (hxy : x2 ≤ y2) :
  DW bo b4 bc b3 w.heap.size vc vr C O I (.slice A7 n4 c7) (.slice A8 n5 c8) (.slice A9 n6 c9) w (W.setCells bo 0 [.int .i64 0, .int .i64 0, .int .i64 0, .string ⟨#[]⟩, .slice A7 n4 c7, .slice A8 n5 c8, .slice A9 n6 c9]) := by
 obtain ⟨m1, m2, m3, m4⟩ := hM
 obtain ⟨z, hz⟩ := hZ
 have ho := setCells_meta bo [.int .i64 0, .int .i64 0, .int .i64 0, .string ⟨#[]⟩, .slice A7 n4 c7, .slice A8 n5 c8, .slice A9 n6 c9] 0 W
 have l1 := blk_lt m1
 have l2 := blk_lt m2
 have l3 := blk_lt m3
 have keep : ∀ k, k < W0.heap.size → (W.setCells bo 0 [.int .i64 0, .int .i64 0, .int .i64 0, .string ⟨#[]⟩, .slice A7 n4 c7, .slice A8 n5 c8, .slice A9 n6 c9]).heap[k]? = W0.heap[k]? := fun k hk => (ho.2.2.2.2 k (by omega)).trans (hG.block k hk)
 have own : ∀ {v : Value} {l : List Int} {x y : Nat}, Kd.R (Kd.int .i64) 3 W w.heap.size (fun k => x ≤ k ∧ k < y) v l → ∀ k, v.ownBlock = some k → x ≤ k ∧ k < y := fun h k hk => h.1 k hk
 have row : ∀ {ok : Nat → Prop} {v : Value} {l : List Int}, Kd.R (Kd.int .i64) 3 W w.heap.size ok v l → Kd.R (Kd.int .i64) 3 (W.setCells bo 0 [.int .i64 0, .int .i64 0, .int .i64 0, .string ⟨#[]⟩, .slice A7 n4 c7, .slice A8 n5 c8, .slice A9 n6 c9]) w.heap.size ok v l := fun h => Kd.R_mono (R_setC (fun _ hk => hk.2) _ 0 W (Kd.R_types h z (by decide))) (fun _ hk => hk.1)
 have hlo : w.heap.size ≤ bo := Nat.le_trans m4.size hz
 refine ⟨?_, R_apart (row h1) (own h2) (own h3) (.inl (by omega)) (.inl (by omega)), R_apart (row h2) (own h1) (own h3) (.inr (by omega)) (.inl (by omega)), R_apart (row h3) (own h1) (own h2) (.inr (by omega)) (.inr (by omega)), (keep bc l1).trans m1, (keep b3 l2).trans m2, (keep b4 l3).trans m3, by omega, by omega, hlo, hBC.2.2, hB.trans ((setCells_other bo _ 0 W).mono hlo)⟩
 exact put7_gen z _ rfl
section
variable {bo b4 bc b3 B : Nat} {vc vr : Array Value} {C O I : List Int} {vC vO vI : Value} {w0 w w1 : World}
theorem DW.alloc (h : DW bo b4 bc b3 B vc vr C O I vC vO vI w0 w) (o : Obj) : DW bo b4 bc b3 B vc vr C O I vC vO vI w0 (w.alloc o) :=
 ⟨blk_alloc h.o o, Kd.R_alloc h.hC o, Kd.R_alloc h.hO o, Kd.R_alloc h.hI o, blk_alloc h.c o, blk_alloc h.r o, blk_alloc h.z o, h.ne, h.ne3, h.lo, h.l4, h.below.alloc (Nat.le_trans h.lo (Nat.le_of_lt (blk_lt h.o))) o⟩
theorem DW.room (h : DW bo b4 bc b3 B vc vr C O I vC vO vI w0 w) : B ≤ w.heap.size := Nat.le_trans h.lo (Nat.le_of_lt (blk_lt h.o))
theorem DW.cbo (h : DW bo b4 bc b3 B vc vr C O I vC vO vI w0 w) : bc ≠ bo := by
 intro e
 have h1 := h.c
 rw [e, h.o] at h1
 injection h1 with h1
 injection h1 with h1 h2
 exact absurd h2 (by decide)
theorem DW.insO {y : List Int} {Ao : Option Addr} {co : Nat} (h : DW bo b4 bc b3 B vc vr C O I vC vO vI w0 w) (ho : Kd.R (Kd.int .i64) 3 w1 B (fun k => some k ≠ vC.ownBlock ∧ some k ≠ vI.ownBlock) (.slice Ao y.length co) y) (hb : Below B w0 w1) (hg : w.grownBy w1 vO.ownBlock) (hat : (Value.slice Ao y.length co).ownBlock = vO.ownBlock ∨ ∃ b, (Value.slice Ao y.length co).ownBlock = some b ∧ w.heap.size ≤ b) :
  DW bo b4 bc b3 B vc vr C y I vC (.slice Ao y.length co) vI w0 (w1.setCell ⟨bo, 5, none⟩ (.slice Ao y.length co)) := by
 have B1 := blk_grown h.o hg (Kd.R_ne h.hO h.o (by decide))
 have B2 := blk_grown h.c hg (Kd.R_ne h.hO h.c (by decide))
 have B3 := blk_grown h.r hg (Kd.R_ne h.hO h.r (by decide))
 have B4 := blk_grown h.z hg (Kd.R_ne h.hO h.z (by decide))
 have O1 := Kd.R_after (ok := fun k => some k ≠ (vI : Value).ownBlock) (Kd.R_mono h.hC (fun k hk => ⟨hk.2, hk.1⟩)) hg hat
 have O2 := Kd.R_after (ok := fun k => some k ≠ (vC : Value).ownBlock) (Kd.R_mono h.hI (fun k hk => ⟨hk.1, hk.2⟩)) hg hat
 exact ⟨blk_put B1 5 _ rfl, Kd.R_mono (Kd.R_far (p := ⟨bo, 5, none⟩) (Kd.R_types O1 B1 (by decide)) (fun _ hk => hk.2) _) (fun _ hk => ⟨hk.1.2, hk.1.1⟩), Kd.R_mono (Kd.R_far (p := ⟨bo, 5, none⟩) (Kd.R_types ho B1 (by decide)) (fun _ hk => hk.2) _) (fun _ hk => hk.1), Kd.R_mono (Kd.R_far (p := ⟨bo, 5, none⟩) (Kd.R_types O2 B1 (by decide)) (fun _ hk => hk.2) _) (fun _ hk => ⟨hk.1.1, hk.1.2⟩), blk_far B2 (p := ⟨bo, 5, none⟩) h.cbo _, blk_far B3 (p := ⟨bo, 5, none⟩) h.ne3 _, blk_far B4 (p := ⟨bo, 5, none⟩) h.ne _, h.ne, h.ne3, h.lo, h.l4, hb.setCell (p := ⟨bo, 5, none⟩) h.lo _⟩
theorem DW.insC {y : List Int} {Ao : Option Addr} {co : Nat} (h : DW bo b4 bc b3 B vc vr C O I vC vO vI w0 w) (ho : Kd.R (Kd.int .i64) 3 w1 B (fun k => some k ≠ vO.ownBlock ∧ some k ≠ vI.ownBlock) (.slice Ao y.length co) y) (hb : Below B w0 w1) (hg : w.grownBy w1 vC.ownBlock) (hat : (Value.slice Ao y.length co).ownBlock = vC.ownBlock ∨ ∃ b, (Value.slice Ao y.length co).ownBlock = some b ∧ w.heap.size ≤ b) :
  DW bo b4 bc b3 B vc vr y O I (.slice Ao y.length co) vO vI w0 (w1.setCell ⟨bo, 4, none⟩ (.slice Ao y.length co)) := by
 have B1 := blk_grown h.o hg (Kd.R_ne h.hC h.o (by decide))
 have B2 := blk_grown h.c hg (Kd.R_ne h.hC h.c (by decide))
 have B3 := blk_grown h.r hg (Kd.R_ne h.hC h.r (by decide))
 have B4 := blk_grown h.z hg (Kd.R_ne h.hC h.z (by decide))
 have O1 := Kd.R_after (ok := fun k => some k ≠ (vI : Value).ownBlock) (Kd.R_mono h.hO (fun k hk => ⟨hk.2, hk.1⟩)) hg hat
 have O2 := Kd.R_after (ok := fun k => some k ≠ (vO : Value).ownBlock) (Kd.R_mono h.hI (fun k hk => ⟨hk.2, hk.1⟩)) hg hat
 exact ⟨blk_put B1 4 _ rfl, Kd.R_mono (Kd.R_far (p := ⟨bo, 4, none⟩) (Kd.R_types ho B1 (by decide)) (fun _ hk => hk.2) _) (fun _ hk => hk.1), Kd.R_mono (Kd.R_far (p := ⟨bo, 4, none⟩) (Kd.R_types O1 B1 (by decide)) (fun _ hk => hk.2) _) (fun _ hk => ⟨hk.1.2, hk.1.1⟩), Kd.R_mono (Kd.R_far (p := ⟨bo, 4, none⟩) (Kd.R_types O2 B1 (by decide)) (fun _ hk => hk.2) _) (fun _ hk => ⟨hk.1.2, hk.1.1⟩), blk_far B2 (p := ⟨bo, 4, none⟩) h.cbo _, blk_far B3 (p := ⟨bo, 4, none⟩) h.ne3 _, blk_far B4 (p := ⟨bo, 4, none⟩) h.ne _, h.ne, h.ne3, h.lo, h.l4, hb.setCell (p := ⟨bo, 4, none⟩) h.lo _⟩
theorem DW.put7 (h : DW bo b4 bc b3 B vc vr C O I vC vO vI w0 w) (vs : List Value) (hv : vs.length = 7) :
  (w.setCells b4 0 vs).heap[b4]? = some (.cells vs.toArray 42 (0, 0)) ∧ (∀ {ok : Nat → Prop} {v : Value} {xs : List Int}, Kd.R (Kd.int .i64) 3 w B ok v xs → Kd.R (Kd.int .i64) 3 (w.setCells b4 0 vs) B ok v xs) ∧ Below B w0 (w.setCells b4 0 vs) :=
 ⟨put7_gen h.z vs hv, fun hr => Kd.R_mono (R_setC (fun _ hk => hk.2) vs 0 w (Kd.R_types hr h.z (by decide))) (fun _ hk => hk.1), h.below.trans ((setCells_other b4 vs 0 w).mono h.l4)⟩
end
def occurrence_Displace.f (a0 : Int) (l1 : List S66) (l2 : List S68) (p0 p1 p2 : Int) (p3 : ByteArray) (C O I : List Int) : Option (Int × Int × Int × ByteArray × List Int × List Int × List Int) :=
 if C.length ≤ 1000000 ∧ O.length ≤ 1000000 ∧ I.length ≤ 1000000 then
  (if p0 = 2 then
   (if 0 ≤ p1 ∧ p1 < (l2.length : Int) then
    (if (rd_T68 l2 p1).f2 = 3 then some (0, 0, 0, ⟨#[]⟩, C, p1 :: O, I) else some (0, 0, 0, ⟨#[]⟩, p1 :: C, O, I))
   else none)
  else some (0, 0, 0, ⟨#[]⟩, C, O, I))
 else none
theorem displace_any (a0 : Int) (A1 : Option Addr) (c1 n1 : Nat) (A2 : Option Addr) (c2 n2 : Nat) (l2 : List S68) (p0 p1 p2 : Int) (p3 : ByteArray) (A4 A5 A6 : Option Addr) (n4 k4 n5 k5 n6 k6 : Nat) (C O I : List Int) (w : World)
  (h2 : Kd.C k68 w A2 n2 l2 ∧ n2 = l2.length) (h4 : Kd.C (Kd.int .i64) w A4 n4 C ∧ n4 = C.length ∧ n4 ≤ k4 ∧ n4 ≤ 1000000) (h5 : Kd.C (Kd.int .i64) w A5 n5 O ∧ n5 = O.length ∧ n5 ≤ k5 ∧ n5 ≤ 1000000) (h6 : Kd.C (Kd.int .i64) w A6 n6 I ∧ n6 = I.length ∧ n6 ≤ k6 ∧ n6 ≤ 1000000)
  (R C' O' I' : _) (hok : p0 = 2 → 0 ≤ p1 ∧ p1 < (l2.length : Int)) (hR : R = (if p0 = 2 then (if (rd_T68 l2 p1).f2 = 3 then (C, p1 :: O, I) else (p1 :: C, O, I)) else (C, O, I))) (hR2 : R = (C', O', I')) :
  Calls Try.prog 22 #[.agg #[.int .i64 a0, .slice A1 n1 c1, .slice A2 n2 c2], .agg #[.int .i64 p0, .int .i64 p1, .int .i64 p2, .string p3, .slice A4 n4 k4, .slice A5 n5 k5, .slice A6 n6 k6]] w fun e w' => ∃ vC vO vI, e = .returned (.agg #[.int .i64 0, .int .i64 0, .int .i64 0, .string ⟨#[]⟩, vC, vO, vI]) ∧
   Kd.R (Kd.int .i64) 3 w' w.heap.size (fun k => some k ≠ (vO : Value).ownBlock ∧ some k ≠ (vI : Value).ownBlock) vC C' ∧ Kd.R (Kd.int .i64) 3 w' w.heap.size (fun k => some k ≠ (vC : Value).ownBlock ∧ some k ≠ (vI : Value).ownBlock) vO O' ∧ Kd.R (Kd.int .i64) 3 w' w.heap.size (fun k => some k ≠ (vC : Value).ownBlock ∧ some k ≠ (vO : Value).ownBlock) vI I' ∧ Below w.heap.size w w' := by
 have clone : ∀ (A : Option Addr) (k n : Nat) (l : List Int), Kd.C (Kd.int .i64) w A n l ∧ n = l.length ∧ n ≤ k ∧ n ≤ 1000000 → ∀ W, Below w.heap.size w W → Calls Try.prog 40 #[.slice A n k] W fun e W' => ∃ A' c', e = .returned (.slice A' n c') ∧ Kd.R (Kd.int .i64) 3 W' w.heap.size (fun k => W.heap.size ≤ k ∧ k < W'.heap.size) (.slice A' n c') l ∧ Below w.heap.size w W' ∧ Below W.heap.size W W' := by
  intro A k n l ⟨h1, h2, h3, h4⟩ W hb
  subst h2
  refine (slices_Clone_int_int.calls A k l l W (Kd.C_below h1 hb) h3 (by unfold slices_Clone_int_int.f; rw [if_pos (by omega)])).mono ?_
  rintro e W' ⟨v, rfl, hR, hb2⟩
  obtain ⟨A', c', rfl, _, _⟩ := Kd.R_reads hR
  exact ⟨A', c', rfl, R_within hR hb.size, hb.trans (hb2.mono hb.size), hb2⟩
 have HK1 := am_ (clone A4 k4 n4 C h4)
 have HK2 := am_ (clone A5 k5 n5 O h5)
 have HK3 := am_ (clone A6 k6 n6 I h6)
 have H2 := am_ h2
 have HN := am_ (And.intro h4.2 (And.intro h5.2 h6.2))
 have HOK := am_ hok
 have HRR := am_ (And.intro hR hR2)
 have hu2 := Try.underlying42
 have hu3 := Try.underlying36
 have hu4 := Try.underlying68
 have hu5 := Try.underlying28
 clear clone h2 h4 h5 h6 hok hR hR2
 go_enter Try.func22, Try.ntmps22
 go_upto_region 1 with fail
 have hM := made3 w #[.int .i64 a0, .slice A1 n1 c1, .slice A2 n2 c2] #[.int .i64 p0, .int .i64 p1, .int .i64 p2, .string p3, .slice A4 n4 k4, .slice A5 n5 k5, .slice A6 n6 k6] _ rfl
 obtain ⟨vc, hvc⟩ : ∃ vc : Array Value, vc = #[.int .i64 a0, .slice A1 n1 c1, .slice A2 n2 c2] := ⟨_, rfl⟩
 obtain ⟨vr, hvr⟩ : ∃ vr : Array Value, vr = #[.int .i64 p0, .int .i64 p1, .int .i64 p2, .string p3, .slice A4 n4 k4, .slice A5 n5 k5, .slice A6 n6 k6] := ⟨_, rfl⟩
 have HV := am_ (And.intro hvc hvr)
 obtain ⟨W0, hW0⟩ : ∃ W0, W0 = ((w.alloc (.cells #[.int .i64 a0, .slice A1 n1 c1, .slice A2 n2 c2] 36)).alloc (.cells #[.int .i64 p0, .int .i64 p1, .int .i64 p2, .string p3, .slice A4 n4 k4, .slice A5 n5 k5, .slice A6 n6 k6] 42)).alloc (.cells z7 42) := ⟨_, rfl⟩
 have hW0' := hW0
 unfold z7 at hW0'
 rw [← hW0]  at hM
 rw [← hW0']
 clear hW0 hW0'
 have hbb : w.heap.size + 1 ≠ w.heap.size + 1 + 1 := by omega
 have hB3 : w.heap.size ≤ w.heap.size + 1 + 1 := by omega
 generalize w.heap.size + 1 + 1 = b4 at hM hbb hB3 ⊢
 generalize w.heap.size + 1 = b3 at hM hbb ⊢
 obtain ⟨bc, hbc⟩ : ∃ bc, bc = w.heap.size := ⟨_, rfl⟩
 rw [← hbc]
 rw [← hvc, ← hvr, ← hbc] at hM
 have HBC := am_ (And.intro hbc (And.intro hbb hB3))
 obtain ⟨m1, m2, m3, m4⟩ := hM
 rw [hbc] at m4
 have cells : ∀ W : World, Below W0.heap.size W0 W → W.cell? ⟨b3, 4, none⟩ = some (.slice A4 n4 k4) ∧ W.cell? ⟨b3, 5, none⟩ = some (.slice A5 n5 k5) ∧ W.cell? ⟨b3, 6, none⟩ = some (.slice A6 n6 k6) := fun W hb => by
  have e : W.heap[b3]? = some (.cells vr 42 (0, 0)) := (hb.block _ (blk_lt m2)).trans m2
  exact ⟨blkc_ e 4 _ (by rw [hvr]; rfl), blkc_ e 5 _ (by rw [hvr]; rfl), blkc_ e 6 _ (by rw [hvr]; rfl)⟩
 have HCE := am_ cells
 have HM := am_ (And.intro m1 (And.intro m2 (And.intro m3 m4)))
 clear cells m1 m2 m3 m4 hvc hvr hbc hbb hB3
 go_cut [5] (fun v5 wx => ∃ bo vC vO vI, v5 = .pointer (some ⟨bo, 0, none⟩) ∧ Aside0 (DW bo b4 bc b3 w.heap.size vc vr C O I vC vO vI w wx))
 case first =>
  -- REGION begins
  refine wp_region_held_drew (S := (fun w' => w'.cell? ⟨b3, 4, none⟩ = some (.slice A4 n4 k4) ∧ w'.cell? ⟨b3, 5, none⟩ = some (.slice A5 n5 k5) ∧ w'.cell? ⟨b3, 6, none⟩ = some (.slice A6 n6 k6))) (by kernel_rfl) (HCE.out _ (Below.refl _ _).drew) (fun hHeld => ?_)
  have HB := am_ HM.out.2.2.2.drew
  have HG := am_ ((Below.refl W0.heap.size W0).drew)
  generalize W0.drew = W at HB HG hHeld ⊢
  refine wpAnyH_take (i := 0) (v := ?vX1) rfl (by kernel_rfl) (by kernel_rfl) (by kernel_rfl) (fun _ _ _ h => h) (Or.inl ⟨by rfl, ?hyX1⟩) (by assumption) ?restX1
  case hyX1 => (intro w hSw; (try dsimp only at hSw); go_simp; first | done | with_reducible rfl)
  try simp only [Act.put, sA_, sZ_, sS_]
  refine wpAnyH_take (i := 1) (v := ?vX2) rfl (by kernel_rfl) (by kernel_rfl) (by kernel_rfl) (fun _ _ _ h => h) (Or.inl ⟨by rfl, ?hyX2⟩) (by assumption) ?restX2
  case hyX2 => (intro w hSw; (try dsimp only at hSw); go_simp; first | done | with_reducible rfl)
  try simp only [Act.put, sA_, sZ_, sS_]
  refine wpAnyH_take (i := 3) (v := ?vX3) rfl (by kernel_rfl) (by kernel_rfl) (by kernel_rfl) (fun _ _ _ h => h) (Or.inl ⟨by rfl, ?hyX3⟩) (by assumption) ?restX3
  case hyX3 => (intro w hSw; (try dsimp only at hSw); go_simp; first | done | with_reducible rfl)
  try simp only [Act.put, sA_, sZ_, sS_]
  refine wpAnyH_take (i := 4) (v := ?vX4) rfl (by kernel_rfl) (by kernel_rfl) (by kernel_rfl) (fun _ _ _ h => h) (Or.inl ⟨by rfl, ?hyX4⟩) (by assumption) ?restX4
  case hyX4 => (intro w hSw; (try dsimp only at hSw); go_simp; first | done | with_reducible rfl)
  try simp only [Act.put, sA_, sZ_, sS_]
  refine wpAnyH_take (i := 6) (v := ?vX5) rfl (by kernel_rfl) (by kernel_rfl) (by kernel_rfl) (fun _ _ _ h => h) (Or.inl ⟨by rfl, ?hyX5⟩) (by assumption) ?restX5
  case hyX5 => (intro w hSw; (try dsimp only at hSw); go_simp; first | done | with_reducible rfl)
  try simp only [Act.put, sA_, sZ_, sS_]
  refine wpAnyH_take (i := 7) (v := ?vX6) rfl (by kernel_rfl) (by kernel_rfl) (by kernel_rfl) (fun _ _ _ h => h) (Or.inl ⟨by rfl, ?hyX6⟩) (by assumption) ?restX6
  case hyX6 => (intro w hSw; (try dsimp only at hSw); go_simp; first | done | with_reducible rfl)
  try simp only [Act.put, sA_, sZ_, sS_]
  refine wpAnyH_ready (rs := [2, 10]) (by kernel_rfl) (by simp) ?_
  refine AllReadyH.cons rfl (fun K hK => ?_) ?_
  ·go_simp
   (go_at_call 40; refine Calls.mono (HK1.out _ HB.out) ?_; rintro e W2 ⟨A7, c7, rfl, h1, h2, h3⟩; have HR1 := am_ h1; have HB2 := am_ h2; have HG2 := am_ (HG.out.trans (h3.mono HG.out.size)); have hs2 := h3.size; have HS1 := am_ hs2; clear h1 h2 h3 hs2)
   go_wp2_with fail
   refine hK.out _ _ (HCE.out _ HG2.out) (fun hHeld2 => ?_)
   clear hK K hHeld HB HG
   try simp only [Act.put, sA_, sZ_, sS_]
   have HB := HB2
   have HG := HG2
   have hHeld := hHeld2
   clear HB2 HG2 hHeld2
   obtain ⟨x1, hx1⟩ : ∃ s, s = W.heap.size := ⟨_, rfl⟩
   obtain ⟨y1, hy1⟩ : ∃ s, s = W2.heap.size := ⟨_, rfl⟩
   rw [← hx1, ← hy1] at HR1 HS1
   have HX1 := HS1
   have HY := am_ (show y1 ≤ W2.heap.size from by rw [hy1]; exact Nat.le_refl _)
   clear HS1 hx1 hy1 W
   obtain ⟨W, hWW⟩ : ∃ W, W = W2 := ⟨_, rfl⟩
   subst hWW
   refine wpAnyH_ready (rs := [5, 10]) (by kernel_rfl) (by simp) ?_
   refine AllReadyH.cons rfl (fun K hK => ?_) ?_
   ·go_simp
    (go_at_call 40; refine Calls.mono (HK2.out _ HB.out) ?_; rintro e W2 ⟨A8, c8, rfl, h1, h2, h3⟩; have HR2 := am_ h1; have HB2 := am_ h2; have HG2 := am_ (HG.out.trans (h3.mono HG.out.size)); have hs2 := h3.size; have HR12 := am_ (Kd.R_below HR1.out h3); have HS2 := am_ hs2; clear h1 h2 h3 hs2)
    go_wp2_with fail
    refine hK.out _ _ (HCE.out _ HG2.out) (fun hHeld2 => ?_)
    clear hK K hHeld HB HG HR1
    try simp only [Act.put, sA_, sZ_, sS_]
    have HB := HB2
    have HG := HG2
    have hHeld := hHeld2
    have HR1 := HR12
    clear HB2 HG2 hHeld2 HR12
    obtain ⟨x2, hx2⟩ : ∃ s, s = W.heap.size := ⟨_, rfl⟩
    obtain ⟨y2, hy2⟩ : ∃ s, s = W2.heap.size := ⟨_, rfl⟩
    rw [← hx2, ← hy2] at HR2 HS2
    have HX2 := HS2
    have HL2 := am_ (show y1 ≤ x2 from by rw [hx2]; exact HY.out)
    clear HY
    have HY := am_ (show y2 ≤ W2.heap.size from by rw [hy2]; exact Nat.le_refl _)
    clear HS2 hx2 hy2 W
    obtain ⟨W, hWW⟩ : ∃ W, W = W2 := ⟨_, rfl⟩
    subst hWW
    refine wpAnyH_ready (rs := [8, 10]) (by kernel_rfl) (by simp) ?_
    refine AllReadyH.cons rfl (fun K hK => ?_) ?_
    ·go_simp
     (go_at_call 40; refine Calls.mono (HK3.out _ HB.out) ?_; rintro e W2 ⟨A9, c9, rfl, h1, h2, h3⟩; have HR3 := am_ h1; have HB2 := am_ h2; have HG2 := am_ (HG.out.trans (h3.mono HG.out.size)); have hs2 := h3.size; have HR12 := am_ (Kd.R_below HR1.out h3); have HR22 := am_ (Kd.R_below HR2.out h3); have HS3 := am_ hs2; clear h1 h2 h3 hs2)
     go_wp2_with fail
     refine hK.out _ _ (HCE.out _ HG2.out) (fun hHeld2 => ?_)
     clear hK K hHeld HB HG HR1 HR2
     try simp only [Act.put, sA_, sZ_, sS_]
     have HB := HB2
     have HG := HG2
     have hHeld := hHeld2
     have HR1 := HR12
     have HR2 := HR22
     clear HB2 HG2 hHeld2 HR12 HR22
     obtain ⟨x3, hx3⟩ : ∃ s, s = W.heap.size := ⟨_, rfl⟩
     obtain ⟨y3, hy3⟩ : ∃ s, s = W2.heap.size := ⟨_, rfl⟩
     rw [← hx3, ← hy3] at HR3 HS3
     have HX3 := HS3
     have HL3 := am_ (show y2 ≤ x3 from by rw [hx3]; exact HY.out)
     clear HY
     have HY := am_ (show y3 ≤ W2.heap.size from by rw [hy3]; exact Nat.le_refl _)
     clear HS3 hx3 hy3 W
     obtain ⟨W, hWW⟩ : ∃ W, W = W2 := ⟨_, rfl⟩
     subst hWW
     refine wpAnyH_take (i := 9) (v := ?vX7) rfl (by kernel_rfl) (by kernel_rfl) (by kernel_rfl) (fun _ _ _ h => h) (Or.inl ⟨by rfl, ?hyX7⟩) (by assumption) ?restX7
     case hyX7 => (intro w hSw; (try dsimp only at hSw); go_simp; first | done | with_reducible rfl)
     try simp only [Act.put, sA_, sZ_, sS_]
     refine wpAnyH_ready (rs := [10]) (by kernel_rfl) (by simp) ?_
     refine AllReadyH.cons rfl (fun K hK => ?_) AllReadyH.nil
     go_simp
     have HZ2 := am_ (new_z W0 W HG.out)
     have HB2 := am_ (HB.out.alloc HB.out.size (.cells z7 42))
     have HG2 := am_ (HG.out.alloc HG.out.size (.cells z7 42))
     have HR12 := am_ (Kd.R_alloc HR1.out (.cells z7 42))
     have HR22 := am_ (Kd.R_alloc HR2.out (.cells z7 42))
     have HR32 := am_ (Kd.R_alloc HR3.out (.cells z7 42))
     have HYZ := am_ (Nat.le_trans HY.out (show W.heap.size ≤ (W.alloc (.cells z7 42)).heap.size from by simp))
     unfold z7 at HZ2 HB2 HG2 HR12 HR22 HR32 HYZ
     refine hK.out _ _ (HCE.out _ HG2.out) (fun hHeld2 => ?_)
     clear hK K hHeld HB HG HR1 HR2 HR3
     try simp only [Act.put, sA_, sZ_, sS_]
     generalize W.heap.size = bo at HZ2 ⊢
     generalize W.alloc (.cells #[.int .i64 0, .int .i64 0, .int .i64 0, .string ⟨#[]⟩, .slice none 0 0, .slice none 0 0, .slice none 0 0] 42) = W2 at HZ2 HB2 HG2 hHeld2 HR12 HR22 HR32 HYZ ⊢
     have HZ := am_ (show W2.heap[bo]? = some (.cells #[.int .i64 0, .int .i64 0, .int .i64 0, .string ⟨#[]⟩, .slice none 0 0, .slice none 0 0, .slice none 0 0] 42 (0, 0)) ∧ W0.heap.size ≤ bo from HZ2.out)
     have HB := HB2
     have HG := HG2
     have hHeld := hHeld2
     have HR1 := HR12
     have HR2 := HR22
     have HR3 := HR32
     clear HY
     have HY := HYZ
     clear HYZ
     clear HZ2 HB2 HG2 hHeld2 HR12 HR22 HR32
     clear W
     obtain ⟨W, hWW⟩ : ∃ W, W = W2 := ⟨_, rfl⟩
     subst hWW
     refine wpAnyH_ready (rs := [11]) (by kernel_rfl) (by simp) ?_
     refine AllReadyH.cons rfl (fun K hK => ?_) AllReadyH.nil
     have z := HZ.out.1
     have g0 : W.cell? ⟨bo, 0, none⟩ = some (.int .i64 0) := blkc_ z 0 _ rfl
     have g1 : W.cell? ⟨bo, 1, none⟩ = some (.int .i64 0) := blkc_ z 1 _ rfl
     have g2 : W.cell? ⟨bo, 2, none⟩ = some (.int .i64 0) := blkc_ z 2 _ rfl
     have g3 : W.cell? ⟨bo, 3, none⟩ = some (.string ⟨#[]⟩) := blkc_ z 3 _ rfl
     have g4 : W.cell? ⟨bo, 4, none⟩ = some (.slice none 0 0) := blkc_ z 4 _ rfl
     have g5 : W.cell? ⟨bo, 5, none⟩ = some (.slice none 0 0) := blkc_ z 5 _ rfl
     have g6 : W.cell? ⟨bo, 6, none⟩ = some (.slice none 0 0) := blkc_ z 6 _ rfl
     have f0 := blks_ z 0
     have f1 := blks_ z 1
     have f2 := blks_ z 2
     have f3 := blks_ z 3
     have f4 := blks_ z 4
     have f5 := blks_ z 5
     have f6 := blks_ z 6
     clear z
     go_simp
     clear g0 g1 g2 g3 g4 g5 g6 f0 f1 f2 f3 f4 f5 f6
     refine hK.out _ _ (HCE.out _ (below_put7 HG.out HZ.out.2)) (fun hHeld => ?_)
     clear hK K
     try simp only [Act.put, sA_, sZ_, sS_]
     refine wpAnyH_done (by kernel_rfl) ?_ _
     go_wp2_with fail
     go_meet
     case rel => exact ⟨bo, _, _, _, rfl, ⟨DW.fin HM.out HBC.out HB.out HG.out HZ.out HR1.out HR2.out HR3.out HL2.out HL3.out HX2.out⟩⟩
    refine AllReadyH.cons rfl (fun K hK => ?_) AllReadyH.nil
    go_simp
    have HZ2 := am_ (new_z W0 W HG.out)
    have HB2 := am_ (HB.out.alloc HB.out.size (.cells z7 42))
    have HG2 := am_ (HG.out.alloc HG.out.size (.cells z7 42))
    have HR12 := am_ (Kd.R_alloc HR1.out (.cells z7 42))
    have HR22 := am_ (Kd.R_alloc HR2.out (.cells z7 42))
    have HYZ := am_ (Nat.le_trans HY.out (show W.heap.size ≤ (W.alloc (.cells z7 42)).heap.size from by simp))
    unfold z7 at HZ2 HB2 HG2 HR12 HR22 HYZ
    refine hK.out _ _ (HCE.out _ HG2.out) (fun hHeld2 => ?_)
    clear hK K hHeld HB HG HR1 HR2
    try simp only [Act.put, sA_, sZ_, sS_]
    generalize W.heap.size = bo at HZ2 ⊢
    generalize W.alloc (.cells #[.int .i64 0, .int .i64 0, .int .i64 0, .string ⟨#[]⟩, .slice none 0 0, .slice none 0 0, .slice none 0 0] 42) = W2 at HZ2 HB2 HG2 hHeld2 HR12 HR22 HYZ ⊢
    have HZ := am_ (show W2.heap[bo]? = some (.cells #[.int .i64 0, .int .i64 0, .int .i64 0, .string ⟨#[]⟩, .slice none 0 0, .slice none 0 0, .slice none 0 0] 42 (0, 0)) ∧ W0.heap.size ≤ bo from HZ2.out)
    have HB := HB2
    have HG := HG2
    have hHeld := hHeld2
    have HR1 := HR12
    have HR2 := HR22
    clear HY
    have HY := HYZ
    clear HYZ
    clear HZ2 HB2 HG2 hHeld2 HR12 HR22
    clear W
    obtain ⟨W, hWW⟩ : ∃ W, W = W2 := ⟨_, rfl⟩
    subst hWW
    refine wpAnyH_ready (rs := [8]) (by kernel_rfl) (by simp) ?_
    refine AllReadyH.cons rfl (fun K hK => ?_) AllReadyH.nil
    go_simp
    (go_at_call 40; refine Calls.mono (HK3.out _ HB.out) ?_; rintro e W2 ⟨A9, c9, rfl, h1, h2, h3⟩; have HR3 := am_ h1; have HB2 := am_ h2; have HG2 := am_ (HG.out.trans (h3.mono HG.out.size)); have hs2 := h3.size; have HR12 := am_ (Kd.R_below HR1.out h3); have HR22 := am_ (Kd.R_below HR2.out h3); have HZ2 := am_ (And.intro ((h3.block _ (blk_lt HZ.out.1)).trans HZ.out.1) HZ.out.2); have HS3 := am_ hs2; clear h1 h2 h3 hs2)
    go_wp2_with fail
    refine hK.out _ _ (HCE.out _ HG2.out) (fun hHeld2 => ?_)
    clear hK K hHeld HB HG HR1 HR2 HZ
    try simp only [Act.put, sA_, sZ_, sS_]
    have HB := HB2
    have HG := HG2
    have hHeld := hHeld2
    have HR1 := HR12
    have HR2 := HR22
    have HZ := HZ2
    clear HB2 HG2 hHeld2 HR12 HR22 HZ2
    obtain ⟨x3, hx3⟩ : ∃ s, s = W.heap.size := ⟨_, rfl⟩
    obtain ⟨y3, hy3⟩ : ∃ s, s = W2.heap.size := ⟨_, rfl⟩
    rw [← hx3, ← hy3] at HR3 HS3
    have HX3 := HS3
    have HL3 := am_ (show y2 ≤ x3 from by rw [hx3]; exact HY.out)
    clear HY
    have HY := am_ (show y3 ≤ W2.heap.size from by rw [hy3]; exact Nat.le_refl _)
    clear HS3 hx3 hy3 W
    obtain ⟨W, hWW⟩ : ∃ W, W = W2 := ⟨_, rfl⟩
    subst hWW
    refine wpAnyH_take (i := 9) (v := ?vX8) rfl (by kernel_rfl) (by kernel_rfl) (by kernel_rfl) (fun _ _ _ h => h) (Or.inl ⟨by rfl, ?hyX8⟩) (by assumption) ?restX8
    case hyX8 => (intro w hSw; (try dsimp only at hSw); go_simp; first | done | with_reducible rfl)
    try simp only [Act.put, sA_, sZ_, sS_]
    refine wpAnyH_ready (rs := [11]) (by kernel_rfl) (by simp) ?_
    refine AllReadyH.cons rfl (fun K hK => ?_) AllReadyH.nil
    have z := HZ.out.1
    have g0 : W.cell? ⟨bo, 0, none⟩ = some (.int .i64 0) := blkc_ z 0 _ rfl
    have g1 : W.cell? ⟨bo, 1, none⟩ = some (.int .i64 0) := blkc_ z 1 _ rfl
    have g2 : W.cell? ⟨bo, 2, none⟩ = some (.int .i64 0) := blkc_ z 2 _ rfl
    have g3 : W.cell? ⟨bo, 3, none⟩ = some (.string ⟨#[]⟩) := blkc_ z 3 _ rfl
    have g4 : W.cell? ⟨bo, 4, none⟩ = some (.slice none 0 0) := blkc_ z 4 _ rfl
    have g5 : W.cell? ⟨bo, 5, none⟩ = some (.slice none 0 0) := blkc_ z 5 _ rfl
    have g6 : W.cell? ⟨bo, 6, none⟩ = some (.slice none 0 0) := blkc_ z 6 _ rfl
    have f0 := blks_ z 0
    have f1 := blks_ z 1
    have f2 := blks_ z 2
    have f3 := blks_ z 3
    have f4 := blks_ z 4
    have f5 := blks_ z 5
    have f6 := blks_ z 6
    clear z
    go_simp
    clear g0 g1 g2 g3 g4 g5 g6 f0 f1 f2 f3 f4 f5 f6
    refine hK.out _ _ (HCE.out _ (below_put7 HG.out HZ.out.2)) (fun hHeld => ?_)
    clear hK K
    try simp only [Act.put, sA_, sZ_, sS_]
    refine wpAnyH_done (by kernel_rfl) ?_ _
    go_wp2_with fail
    go_meet
    case rel => exact ⟨bo, _, _, _, rfl, ⟨DW.fin HM.out HBC.out HB.out HG.out HZ.out HR1.out HR2.out HR3.out HL2.out HL3.out HX2.out⟩⟩
   refine AllReadyH.cons rfl (fun K hK => ?_) AllReadyH.nil
   go_simp
   have HZ2 := am_ (new_z W0 W HG.out)
   have HB2 := am_ (HB.out.alloc HB.out.size (.cells z7 42))
   have HG2 := am_ (HG.out.alloc HG.out.size (.cells z7 42))
   have HR12 := am_ (Kd.R_alloc HR1.out (.cells z7 42))
   have HYZ := am_ (Nat.le_trans HY.out (show W.heap.size ≤ (W.alloc (.cells z7 42)).heap.size from by simp))
   unfold z7 at HZ2 HB2 HG2 HR12 HYZ
   refine hK.out _ _ (HCE.out _ HG2.out) (fun hHeld2 => ?_)
   clear hK K hHeld HB HG HR1
   try simp only [Act.put, sA_, sZ_, sS_]
   generalize W.heap.size = bo at HZ2 ⊢
   generalize W.alloc (.cells #[.int .i64 0, .int .i64 0, .int .i64 0, .string ⟨#[]⟩, .slice none 0 0, .slice none 0 0, .slice none 0 0] 42) = W2 at HZ2 HB2 HG2 hHeld2 HR12 HYZ ⊢
   have HZ := am_ (show W2.heap[bo]? = some (.cells #[.int .i64 0, .int .i64 0, .int .i64 0, .string ⟨#[]⟩, .slice none 0 0, .slice none 0 0, .slice none 0 0] 42 (0, 0)) ∧ W0.heap.size ≤ bo from HZ2.out)
   have HB := HB2
   have HG := HG2
   have hHeld := hHeld2
   have HR1 := HR12
   clear HY
   have HY := HYZ
   clear HYZ
   clear HZ2 HB2 HG2 hHeld2 HR12
   clear W
   obtain ⟨W, hWW⟩ : ∃ W, W = W2 := ⟨_, rfl⟩
   subst hWW
   refine wpAnyH_ready (rs := [5]) (by kernel_rfl) (by simp) ?_
   refine AllReadyH.cons rfl (fun K hK => ?_) AllReadyH.nil
   go_simp
   (go_at_call 40; refine Calls.mono (HK2.out _ HB.out) ?_; rintro e W2 ⟨A8, c8, rfl, h1, h2, h3⟩; have HR2 := am_ h1; have HB2 := am_ h2; have HG2 := am_ (HG.out.trans (h3.mono HG.out.size)); have hs2 := h3.size; have HR12 := am_ (Kd.R_below HR1.out h3); have HZ2 := am_ (And.intro ((h3.block _ (blk_lt HZ.out.1)).trans HZ.out.1) HZ.out.2); have HS2 := am_ hs2; clear h1 h2 h3 hs2)
   go_wp2_with fail
   refine hK.out _ _ (HCE.out _ HG2.out) (fun hHeld2 => ?_)
   clear hK K hHeld HB HG HR1 HZ
   try simp only [Act.put, sA_, sZ_, sS_]
   have HB := HB2
   have HG := HG2
   have hHeld := hHeld2
   have HR1 := HR12
   have HZ := HZ2
   clear HB2 HG2 hHeld2 HR12 HZ2
   obtain ⟨x2, hx2⟩ : ∃ s, s = W.heap.size := ⟨_, rfl⟩
   obtain ⟨y2, hy2⟩ : ∃ s, s = W2.heap.size := ⟨_, rfl⟩
   rw [← hx2, ← hy2] at HR2 HS2
   have HX2 := HS2
   have HL2 := am_ (show y1 ≤ x2 from by rw [hx2]; exact HY.out)
   clear HY
   have HY := am_ (show y2 ≤ W2.heap.size from by rw [hy2]; exact Nat.le_refl _)
   clear HS2 hx2 hy2 W
   obtain ⟨W, hWW⟩ : ∃ W, W = W2 := ⟨_, rfl⟩
   subst hWW
   refine wpAnyH_ready (rs := [8]) (by kernel_rfl) (by simp) ?_
   refine AllReadyH.cons rfl (fun K hK => ?_) AllReadyH.nil
   go_simp
   (go_at_call 40; refine Calls.mono (HK3.out _ HB.out) ?_; rintro e W2 ⟨A9, c9, rfl, h1, h2, h3⟩; have HR3 := am_ h1; have HB2 := am_ h2; have HG2 := am_ (HG.out.trans (h3.mono HG.out.size)); have hs2 := h3.size; have HR12 := am_ (Kd.R_below HR1.out h3); have HR22 := am_ (Kd.R_below HR2.out h3); have HZ2 := am_ (And.intro ((h3.block _ (blk_lt HZ.out.1)).trans HZ.out.1) HZ.out.2); have HS3 := am_ hs2; clear h1 h2 h3 hs2)
   go_wp2_with fail
   refine hK.out _ _ (HCE.out _ HG2.out) (fun hHeld2 => ?_)
   clear hK K hHeld HB HG HR1 HR2 HZ
   try simp only [Act.put, sA_, sZ_, sS_]
   have HB := HB2
   have HG := HG2
   have hHeld := hHeld2
   have HR1 := HR12
   have HR2 := HR22
   have HZ := HZ2
   clear HB2 HG2 hHeld2 HR12 HR22 HZ2
   obtain ⟨x3, hx3⟩ : ∃ s, s = W.heap.size := ⟨_, rfl⟩
   obtain ⟨y3, hy3⟩ : ∃ s, s = W2.heap.size := ⟨_, rfl⟩
   rw [← hx3, ← hy3] at HR3 HS3
   have HX3 := HS3
   have HL3 := am_ (show y2 ≤ x3 from by rw [hx3]; exact HY.out)
   clear HY
   have HY := am_ (show y3 ≤ W2.heap.size from by rw [hy3]; exact Nat.le_refl _)
   clear HS3 hx3 hy3 W
   obtain ⟨W, hWW⟩ : ∃ W, W = W2 := ⟨_, rfl⟩
   subst hWW
   refine wpAnyH_take (i := 9) (v := ?vX9) rfl (by kernel_rfl) (by kernel_rfl) (by kernel_rfl) (fun _ _ _ h => h) (Or.inl ⟨by rfl, ?hyX9⟩) (by assumption) ?restX9
   case hyX9 => (intro w hSw; (try dsimp only at hSw); go_simp; first | done | with_reducible rfl)
   try simp only [Act.put, sA_, sZ_, sS_]
   refine wpAnyH_ready (rs := [11]) (by kernel_rfl) (by simp) ?_
   refine AllReadyH.cons rfl (fun K hK => ?_) AllReadyH.nil
   have z := HZ.out.1
   have g0 : W.cell? ⟨bo, 0, none⟩ = some (.int .i64 0) := blkc_ z 0 _ rfl
   have g1 : W.cell? ⟨bo, 1, none⟩ = some (.int .i64 0) := blkc_ z 1 _ rfl
   have g2 : W.cell? ⟨bo, 2, none⟩ = some (.int .i64 0) := blkc_ z 2 _ rfl
   have g3 : W.cell? ⟨bo, 3, none⟩ = some (.string ⟨#[]⟩) := blkc_ z 3 _ rfl
   have g4 : W.cell? ⟨bo, 4, none⟩ = some (.slice none 0 0) := blkc_ z 4 _ rfl
   have g5 : W.cell? ⟨bo, 5, none⟩ = some (.slice none 0 0) := blkc_ z 5 _ rfl
   have g6 : W.cell? ⟨bo, 6, none⟩ = some (.slice none 0 0) := blkc_ z 6 _ rfl
   have f0 := blks_ z 0
   have f1 := blks_ z 1
   have f2 := blks_ z 2
   have f3 := blks_ z 3
   have f4 := blks_ z 4
   have f5 := blks_ z 5
   have f6 := blks_ z 6
   clear z
   go_simp
   clear g0 g1 g2 g3 g4 g5 g6 f0 f1 f2 f3 f4 f5 f6
   refine hK.out _ _ (HCE.out _ (below_put7 HG.out HZ.out.2)) (fun hHeld => ?_)
   clear hK K
   try simp only [Act.put, sA_, sZ_, sS_]
   refine wpAnyH_done (by kernel_rfl) ?_ _
   go_wp2_with fail
   go_meet
   case rel => exact ⟨bo, _, _, _, rfl, ⟨DW.fin HM.out HBC.out HB.out HG.out HZ.out HR1.out HR2.out HR3.out HL2.out HL3.out HX2.out⟩⟩
  refine AllReadyH.cons rfl (fun K hK => ?_) AllReadyH.nil
  go_simp
  have HZ2 := am_ (new_z W0 W HG.out)
  have HB2 := am_ (HB.out.alloc HB.out.size (.cells z7 42))
  have HG2 := am_ (HG.out.alloc HG.out.size (.cells z7 42))
  unfold z7 at HZ2 HB2 HG2
  refine hK.out _ _ (HCE.out _ HG2.out) (fun hHeld2 => ?_)
  clear hK K hHeld HB HG
  try simp only [Act.put, sA_, sZ_, sS_]
  generalize W.heap.size = bo at HZ2 ⊢
  generalize W.alloc (.cells #[.int .i64 0, .int .i64 0, .int .i64 0, .string ⟨#[]⟩, .slice none 0 0, .slice none 0 0, .slice none 0 0] 42) = W2 at HZ2 HB2 HG2 hHeld2 ⊢
  have HZ := am_ (show W2.heap[bo]? = some (.cells #[.int .i64 0, .int .i64 0, .int .i64 0, .string ⟨#[]⟩, .slice none 0 0, .slice none 0 0, .slice none 0 0] 42 (0, 0)) ∧ W0.heap.size ≤ bo from HZ2.out)
  have HB := HB2
  have HG := HG2
  have hHeld := hHeld2
  clear HZ2 HB2 HG2 hHeld2
  clear W
  obtain ⟨W, hWW⟩ : ∃ W, W = W2 := ⟨_, rfl⟩
  subst hWW
  refine wpAnyH_ready (rs := [2]) (by kernel_rfl) (by simp) ?_
  refine AllReadyH.cons rfl (fun K hK => ?_) AllReadyH.nil
  go_simp
  (go_at_call 40; refine Calls.mono (HK1.out _ HB.out) ?_; rintro e W2 ⟨A7, c7, rfl, h1, h2, h3⟩; have HR1 := am_ h1; have HB2 := am_ h2; have HG2 := am_ (HG.out.trans (h3.mono HG.out.size)); have hs2 := h3.size; have HZ2 := am_ (And.intro ((h3.block _ (blk_lt HZ.out.1)).trans HZ.out.1) HZ.out.2); have HS1 := am_ hs2; clear h1 h2 h3 hs2)
  go_wp2_with fail
  refine hK.out _ _ (HCE.out _ HG2.out) (fun hHeld2 => ?_)
  clear hK K hHeld HB HG HZ
  try simp only [Act.put, sA_, sZ_, sS_]
  have HB := HB2
  have HG := HG2
  have hHeld := hHeld2
  have HZ := HZ2
  clear HB2 HG2 hHeld2 HZ2
  obtain ⟨x1, hx1⟩ : ∃ s, s = W.heap.size := ⟨_, rfl⟩
  obtain ⟨y1, hy1⟩ : ∃ s, s = W2.heap.size := ⟨_, rfl⟩
  rw [← hx1, ← hy1] at HR1 HS1
  have HX1 := HS1
  have HY := am_ (show y1 ≤ W2.heap.size from by rw [hy1]; exact Nat.le_refl _)
  clear HS1 hx1 hy1 W
  obtain ⟨W, hWW⟩ : ∃ W, W = W2 := ⟨_, rfl⟩
  subst hWW
  refine wpAnyH_ready (rs := [5]) (by kernel_rfl) (by simp) ?_
  refine AllReadyH.cons rfl (fun K hK => ?_) AllReadyH.nil
  go_simp
  (go_at_call 40; refine Calls.mono (HK2.out _ HB.out) ?_; rintro e W2 ⟨A8, c8, rfl, h1, h2, h3⟩; have HR2 := am_ h1; have HB2 := am_ h2; have HG2 := am_ (HG.out.trans (h3.mono HG.out.size)); have hs2 := h3.size; have HR12 := am_ (Kd.R_below HR1.out h3); have HZ2 := am_ (And.intro ((h3.block _ (blk_lt HZ.out.1)).trans HZ.out.1) HZ.out.2); have HS2 := am_ hs2; clear h1 h2 h3 hs2)
  go_wp2_with fail
  refine hK.out _ _ (HCE.out _ HG2.out) (fun hHeld2 => ?_)
  clear hK K hHeld HB HG HR1 HZ
  try simp only [Act.put, sA_, sZ_, sS_]
  have HB := HB2
  have HG := HG2
  have hHeld := hHeld2
  have HR1 := HR12
  have HZ := HZ2
  clear HB2 HG2 hHeld2 HR12 HZ2
  obtain ⟨x2, hx2⟩ : ∃ s, s = W.heap.size := ⟨_, rfl⟩
  obtain ⟨y2, hy2⟩ : ∃ s, s = W2.heap.size := ⟨_, rfl⟩
  rw [← hx2, ← hy2] at HR2 HS2
  have HX2 := HS2
  have HL2 := am_ (show y1 ≤ x2 from by rw [hx2]; exact HY.out)
  clear HY
  have HY := am_ (show y2 ≤ W2.heap.size from by rw [hy2]; exact Nat.le_refl _)
  clear HS2 hx2 hy2 W
  obtain ⟨W, hWW⟩ : ∃ W, W = W2 := ⟨_, rfl⟩
  subst hWW
  refine wpAnyH_ready (rs := [8]) (by kernel_rfl) (by simp) ?_
  refine AllReadyH.cons rfl (fun K hK => ?_) AllReadyH.nil
  go_simp
  (go_at_call 40; refine Calls.mono (HK3.out _ HB.out) ?_; rintro e W2 ⟨A9, c9, rfl, h1, h2, h3⟩; have HR3 := am_ h1; have HB2 := am_ h2; have HG2 := am_ (HG.out.trans (h3.mono HG.out.size)); have hs2 := h3.size; have HR12 := am_ (Kd.R_below HR1.out h3); have HR22 := am_ (Kd.R_below HR2.out h3); have HZ2 := am_ (And.intro ((h3.block _ (blk_lt HZ.out.1)).trans HZ.out.1) HZ.out.2); have HS3 := am_ hs2; clear h1 h2 h3 hs2)
  go_wp2_with fail
  refine hK.out _ _ (HCE.out _ HG2.out) (fun hHeld2 => ?_)
  clear hK K hHeld HB HG HR1 HR2 HZ
  try simp only [Act.put, sA_, sZ_, sS_]
  have HB := HB2
  have HG := HG2
  have hHeld := hHeld2
  have HR1 := HR12
  have HR2 := HR22
  have HZ := HZ2
  clear HB2 HG2 hHeld2 HR12 HR22 HZ2
  obtain ⟨x3, hx3⟩ : ∃ s, s = W.heap.size := ⟨_, rfl⟩
  obtain ⟨y3, hy3⟩ : ∃ s, s = W2.heap.size := ⟨_, rfl⟩
  rw [← hx3, ← hy3] at HR3 HS3
  have HX3 := HS3
  have HL3 := am_ (show y2 ≤ x3 from by rw [hx3]; exact HY.out)
  clear HY
  have HY := am_ (show y3 ≤ W2.heap.size from by rw [hy3]; exact Nat.le_refl _)
  clear HS3 hx3 hy3 W
  obtain ⟨W, hWW⟩ : ∃ W, W = W2 := ⟨_, rfl⟩
  subst hWW
  refine wpAnyH_take (i := 9) (v := ?vX10) rfl (by kernel_rfl) (by kernel_rfl) (by kernel_rfl) (fun _ _ _ h => h) (Or.inl ⟨by rfl, ?hyX10⟩) (by assumption) ?restX10
  case hyX10 => (intro w hSw; (try dsimp only at hSw); go_simp; first | done | with_reducible rfl)
  try simp only [Act.put, sA_, sZ_, sS_]
  refine wpAnyH_ready (rs := [11]) (by kernel_rfl) (by simp) ?_
  refine AllReadyH.cons rfl (fun K hK => ?_) AllReadyH.nil
  have z := HZ.out.1
  have g0 : W.cell? ⟨bo, 0, none⟩ = some (.int .i64 0) := blkc_ z 0 _ rfl
  have g1 : W.cell? ⟨bo, 1, none⟩ = some (.int .i64 0) := blkc_ z 1 _ rfl
  have g2 : W.cell? ⟨bo, 2, none⟩ = some (.int .i64 0) := blkc_ z 2 _ rfl
  have g3 : W.cell? ⟨bo, 3, none⟩ = some (.string ⟨#[]⟩) := blkc_ z 3 _ rfl
  have g4 : W.cell? ⟨bo, 4, none⟩ = some (.slice none 0 0) := blkc_ z 4 _ rfl
  have g5 : W.cell? ⟨bo, 5, none⟩ = some (.slice none 0 0) := blkc_ z 5 _ rfl
  have g6 : W.cell? ⟨bo, 6, none⟩ = some (.slice none 0 0) := blkc_ z 6 _ rfl
  have f0 := blks_ z 0
  have f1 := blks_ z 1
  have f2 := blks_ z 2
  have f3 := blks_ z 3
  have f4 := blks_ z 4
  have f5 := blks_ z 5
  have f6 := blks_ z 6
  clear z
  go_simp
  clear g0 g1 g2 g3 g4 g5 g6 f0 f1 f2 f3 f4 f5 f6
  refine hK.out _ _ (HCE.out _ (below_put7 HG.out HZ.out.2)) (fun hHeld => ?_)
  clear hK K
  try simp only [Act.put, sA_, sZ_, sS_]
  refine wpAnyH_done (by kernel_rfl) ?_ _
  go_wp2_with fail
  go_meet
  case rel => exact ⟨bo, _, _, _, rfl, ⟨DW.fin HM.out HBC.out HB.out HG.out HZ.out HR1.out HR2.out HR3.out HL2.out HL3.out HX2.out⟩⟩
  -- REGION ends
 case rest =>
  obtain ⟨bo, vC, vO, vI, rfl, HD⟩ := hcut
  have cp0 : wc.cell? ⟨b3, 0, none⟩ = some (.int .i64 p0) := blkc_ HD.out.r 0 _ (by rw [HV.out.2]; rfl)
  have cp1 : wc.cell? ⟨b3, 1, none⟩ = some (.int .i64 p1) := blkc_ HD.out.r 1 _ (by rw [HV.out.2]; rfl)
  by_cases hp : p0 = 2
  ·have d1 : (p0 != 2) = false := bne_eq_false_iff_eq.mpr hp
   obtain ⟨i0, i1⟩ := HOK.out hp
   obtain ⟨ad, eA, y0, y1, y2, y3, y4, y5, y6, y7, y8⟩ := at_T68 H2.out.1 p1 i0 (by rw [H2.out.2]; exact i1)
   have y2w : wc.cell? ⟨(ad.add (p1.toNat * 9)).block, (ad.add (p1.toNat * 9)).off + 2, none⟩ = some (.int .i64 (rd_T68 l2 p1).f2) := (HD.out.below.cell (p := ⟨(ad.add (p1.toNat * 9)).block, (ad.add (p1.toNat * 9)).off + 2, none⟩) (lt_of_cell y2)).trans y2
   have cf : wc.cell? ⟨bc, 2, none⟩ = some (.slice A2 n2 c2) := blkc_ HD.out.c 2 _ (by rw [HV.out.1]; rfl)
   clear y0 y1 y2 y3 y4 y5 y6 y7 y8
   subst eA
   have HPP := am_ hp
   have i0t := eq_true i0
   have i1t : decide (p1 < (n2 : Int)) = true := decide_eq_true (by rw [H2.out.2]; exact i1)
   have i1u : p1 < (n2 : Int) := by rw [H2.out.2]; exact i1
   go_upto_if 31 with fail
   go_cut [] (fun wx => ∃ YC YO VC VO, Aside0 (C' = YC ∧ O' = YO ∧ I' = I) ∧ Aside0 (DW bo b4 bc b3 w.heap.size vc vr YC YO I VC VO vI w wx))
   case first =>
    by_cases hq : (rd_T68 l2 p1).f2 = 3
    ·have d2 : ((rd_T68 l2 p1).f2 == 3) = true := beq_iff_eq.mpr hq
     have HQ := am_ (show C' = C ∧ O' = p1 :: O ∧ I' = I from by have := HRR.out.1; rw [if_pos hp, if_pos hq, HRR.out.2] at this; injection this with a b; injection b with b c; exact ⟨a, b, c⟩)
     clear hp hq
     obtain ⟨Aq, kq, eC⟩ := Kd.R_slice HD.out.hO
     have HDA := am_ (HD.out.alloc (.cells #[.int .i64 p1] 3))
     have cO : wc.cell? ⟨bo, 5, none⟩ = some vO := blkc_ HD.out.o 5 _ rfl
     rw [eC] at cO
     have HCALL := am_ (show Calls Try.prog 41 #[vO, .int .i64 0, .slice (some ⟨wc.heap.size, 0, none⟩) 1 1] (wc.alloc (.cells #[.int .i64 p1] 3)) _ from insert0 w (wc.alloc (.cells #[.int .i64 p1] 3)) w.heap.size _ vO O p1 wc.heap.size HDA.out.hO HDA.out.below HDA.out.room (map_get wc _) (fun e => Nat.lt_irrefl _ (Kd.R_lt HD.out.hO _ e.symm)) (by have := HN.out; omega) (fun k hk => ⟨fun e => by have := Kd.R_lt HDA.out.hC k e.symm; omega, fun e => by have := Kd.R_lt HDA.out.hI k e.symm; omega⟩))
     have hlt : bo < wc.heap.size := blk_lt HD.out.o
     rw [eC] at HCALL
     have EC := am_ eC
     clear eC HD
     go_wp2_with (refine Calls.mono HCALL.out ?_; rintro e w2 ⟨v', rfl, h1, h2, h3, h4⟩; obtain ⟨A8, k8, e8⟩ := Kd.R_slice h1; subst e8; rw [← EC.out] at h3 h4; have HD2 := am_ (HDA.out.insO h1 h2 h3 h4); have cb := blk_grown HDA.out.o h3 (Kd.R_ne HDA.out.hO HDA.out.o (by decide)); have c9 : w2.cell? ⟨bo, 5, none⟩ = some vO := blkc_ cb 5 _ rfl; have f9 := blks_ cb 5; rw [EC.out] at c9; clear h1 h2 h3 h4 cb HDA HCALL)
     go_meet
     case rel => exact ⟨_, _, _, _, HQ, HD2⟩
    ·have d2 : ((rd_T68 l2 p1).f2 == 3) = false := beq_eq_false_iff_ne.mpr hq
     have HQ := am_ (show C' = p1 :: C ∧ O' = O ∧ I' = I from by have := HRR.out.1; rw [if_pos hp, if_neg hq, HRR.out.2] at this; injection this with a b; injection b with b c; exact ⟨a, b, c⟩)
     clear hp hq
     obtain ⟨Aq, kq, eC⟩ := Kd.R_slice HD.out.hC
     have HDA := am_ (HD.out.alloc (.cells #[.int .i64 p1] 3))
     have cO : wc.cell? ⟨bo, 4, none⟩ = some vC := blkc_ HD.out.o 4 _ rfl
     rw [eC] at cO
     have HCALL := am_ (show Calls Try.prog 41 #[vC, .int .i64 0, .slice (some ⟨wc.heap.size, 0, none⟩) 1 1] (wc.alloc (.cells #[.int .i64 p1] 3)) _ from insert0 w (wc.alloc (.cells #[.int .i64 p1] 3)) w.heap.size _ vC C p1 wc.heap.size HDA.out.hC HDA.out.below HDA.out.room (map_get wc _) (fun e => Nat.lt_irrefl _ (Kd.R_lt HD.out.hC _ e.symm)) (by have := HN.out; omega) (fun k hk => ⟨fun e => by have := Kd.R_lt HDA.out.hO k e.symm; omega, fun e => by have := Kd.R_lt HDA.out.hI k e.symm; omega⟩))
     have hlt : bo < wc.heap.size := blk_lt HD.out.o
     rw [eC] at HCALL
     have EC := am_ eC
     clear eC HD
     go_wp2_with (refine Calls.mono HCALL.out ?_; rintro e w2 ⟨v', rfl, h1, h2, h3, h4⟩; obtain ⟨A8, k8, e8⟩ := Kd.R_slice h1; subst e8; rw [← EC.out] at h3 h4; have HD2 := am_ (HDA.out.insC h1 h2 h3 h4); have cb := blk_grown HDA.out.o h3 (Kd.R_ne HDA.out.hC HDA.out.o (by decide)); have c9 : w2.cell? ⟨bo, 4, none⟩ = some vC := blkc_ cb 4 _ rfl; have f9 := blks_ cb 4; rw [EC.out] at c9; clear h1 h2 h3 h4 cb HDA HCALL)
     go_meet
     case rel => exact ⟨_, _, _, _, HQ, HD2⟩
   case rest =>
    obtain ⟨YC, YO, VC, VO, HQ, HD'⟩ := hcut
    clear HD cp0 cp1 y2w cf
    have HD := HD'
    clear HD'
    obtain ⟨A7, k7, eC⟩ := Kd.R_slice HD.out.hC
    obtain ⟨A8, k8, eO⟩ := Kd.R_slice HD.out.hO
    obtain ⟨A9, k9, eI⟩ := Kd.R_slice HD.out.hI
    subst eC
    subst eO
    subst eI
    have r := HD.out.o
    have z := HD.out.z
    have c0 : wc.cell? ⟨bo, 0, none⟩ = some (.int .i64 0) := blkc_ r 0 _ rfl
    have c1 : wc.cell? ⟨bo, 1, none⟩ = some (.int .i64 0) := blkc_ r 1 _ rfl
    have c2 : wc.cell? ⟨bo, 2, none⟩ = some (.int .i64 0) := blkc_ r 2 _ rfl
    have c3 : wc.cell? ⟨bo, 3, none⟩ = some (.string ⟨#[]⟩) := blkc_ r 3 _ rfl
    have c4 : wc.cell? ⟨bo, 4, none⟩ = some (.slice A7 YC.length k7) := blkc_ r 4 _ rfl
    have c5 : wc.cell? ⟨bo, 5, none⟩ = some (.slice A8 YO.length k8) := blkc_ r 5 _ rfl
    have c6 : wc.cell? ⟨bo, 6, none⟩ = some (.slice A9 I.length k9) := blkc_ r 6 _ rfl
    have g0 : wc.cell? ⟨b4, 0, none⟩ = some (.int .i64 0) := blkc_ z 0 _ rfl
    have g1 : wc.cell? ⟨b4, 1, none⟩ = some (.int .i64 0) := blkc_ z 1 _ rfl
    have g2 : wc.cell? ⟨b4, 2, none⟩ = some (.int .i64 0) := blkc_ z 2 _ rfl
    have g3 : wc.cell? ⟨b4, 3, none⟩ = some (.string ⟨#[]⟩) := blkc_ z 3 _ rfl
    have g4 : wc.cell? ⟨b4, 4, none⟩ = some (.slice none 0 0) := blkc_ z 4 _ rfl
    have g5 : wc.cell? ⟨b4, 5, none⟩ = some (.slice none 0 0) := blkc_ z 5 _ rfl
    have g6 : wc.cell? ⟨b4, 6, none⟩ = some (.slice none 0 0) := blkc_ z 6 _ rfl
    have f0 := blks_ z 0
    have f1 := blks_ z 1
    have f2 := blks_ z 2
    have f3 := blks_ z 3
    have f4 := blks_ z 4
    have f5 := blks_ z 5
    have f6 := blks_ z 6
    have hne := HD.out.ne
    clear r z
    go_wp2_with fail
    obtain ⟨hb4, hrows, hbl⟩ := HD.out.put7 [.int .i64 0, .int .i64 0, .int .i64 0, .string ⟨#[]⟩, .slice A7 YC.length k7, .slice A8 YO.length k8, .slice A9 I.length k9] rfl
    refine bodyPost_ret (results_cell_row rfl _ _ b4 42 #[.int .i64 0, .int .i64 0, .int .i64 0, .string ⟨#[]⟩, .slice A7 YC.length k7, .slice A8 YO.length k8, .slice A9 I.length k9] (0, 0) _ rfl hb4 Try.underlying42 rfl (by kernel_rfl)) rfl ?_
    obtain ⟨q1, q2, q3⟩ := HQ.out
    rw [q1, q2, q3]
    exact ⟨_, _, _, rfl, hrows HD.out.hC, hrows HD.out.hO, hrows HD.out.hI, hbl⟩
  ·have d1 : (p0 != 2) = true := bne_iff_ne.mpr hp
   have HQ := am_ (show C' = C ∧ O' = O ∧ I' = I from by have := HRR.out.1; rw [if_neg hp, HRR.out.2] at this; injection this with a b; injection b with b c; exact ⟨a, b, c⟩)
   obtain ⟨A7, k7, eC⟩ := Kd.R_slice HD.out.hC
   obtain ⟨A8, k8, eO⟩ := Kd.R_slice HD.out.hO
   obtain ⟨A9, k9, eI⟩ := Kd.R_slice HD.out.hI
   subst eC
   subst eO
   subst eI
   have r := HD.out.o
   have z := HD.out.z
   have c0 : wc.cell? ⟨bo, 0, none⟩ = some (.int .i64 0) := blkc_ r 0 _ rfl
   have c1 : wc.cell? ⟨bo, 1, none⟩ = some (.int .i64 0) := blkc_ r 1 _ rfl
   have c2 : wc.cell? ⟨bo, 2, none⟩ = some (.int .i64 0) := blkc_ r 2 _ rfl
   have c3 : wc.cell? ⟨bo, 3, none⟩ = some (.string ⟨#[]⟩) := blkc_ r 3 _ rfl
   have c4 : wc.cell? ⟨bo, 4, none⟩ = some (.slice A7 C.length k7) := blkc_ r 4 _ rfl
   have c5 : wc.cell? ⟨bo, 5, none⟩ = some (.slice A8 O.length k8) := blkc_ r 5 _ rfl
   have c6 : wc.cell? ⟨bo, 6, none⟩ = some (.slice A9 I.length k9) := blkc_ r 6 _ rfl
   have g0 : wc.cell? ⟨b4, 0, none⟩ = some (.int .i64 0) := blkc_ z 0 _ rfl
   have g1 : wc.cell? ⟨b4, 1, none⟩ = some (.int .i64 0) := blkc_ z 1 _ rfl
   have g2 : wc.cell? ⟨b4, 2, none⟩ = some (.int .i64 0) := blkc_ z 2 _ rfl
   have g3 : wc.cell? ⟨b4, 3, none⟩ = some (.string ⟨#[]⟩) := blkc_ z 3 _ rfl
   have g4 : wc.cell? ⟨b4, 4, none⟩ = some (.slice none 0 0) := blkc_ z 4 _ rfl
   have g5 : wc.cell? ⟨b4, 5, none⟩ = some (.slice none 0 0) := blkc_ z 5 _ rfl
   have g6 : wc.cell? ⟨b4, 6, none⟩ = some (.slice none 0 0) := blkc_ z 6 _ rfl
   have f0 := blks_ z 0
   have f1 := blks_ z 1
   have f2 := blks_ z 2
   have f3 := blks_ z 3
   have f4 := blks_ z 4
   have f5 := blks_ z 5
   have f6 := blks_ z 6
   have hne := HD.out.ne
   clear r z
   go_wp2_with fail
   obtain ⟨hb4, hrows, hbl⟩ := HD.out.put7 [.int .i64 0, .int .i64 0, .int .i64 0, .string ⟨#[]⟩, .slice A7 C.length k7, .slice A8 O.length k8, .slice A9 I.length k9] rfl
   refine bodyPost_ret (results_cell_row rfl _ _ b4 42 #[.int .i64 0, .int .i64 0, .int .i64 0, .string ⟨#[]⟩, .slice A7 C.length k7, .slice A8 O.length k8, .slice A9 I.length k9] (0, 0) _ rfl hb4 Try.underlying42 rfl (by kernel_rfl)) rfl ?_
   obtain ⟨q1, q2, q3⟩ := HQ.out
   rw [q1, q2, q3]
   exact ⟨_, _, _, rfl, hrows HD.out.hC, hrows HD.out.hO, hrows HD.out.hI, hbl⟩
theorem occurrence_Displace.calls (a0_0 : Int) (A0_1 : Option Addr) (c0_1 : Nat) (l0_1 : List S66) (A0_2 : Option Addr) (c0_2 : Nat) (l0_2 : List S68) (a1_0 a1_1 a1_2 : Int) (a1_3 : ByteArray) (A1_4 : Option Addr) (c1_4 : Nat) (l1_4 : List Int) (A1_5 : Option Addr) (c1_5 : Nat) (l1_5 : List Int) (A1_6 : Option Addr) (c1_6 : Nat) (l1_6 : List Int) (r1 r2 r3 : Int) (r4 : ByteArray) (r5 r6 r7 : List Int) (w : World) (hr0_1 : Kd.C k66 w A0_1 l0_1.length l0_1) (hc0_1 : l0_1.length ≤ c0_1) (hr0_2 : Kd.C k68 w A0_2 l0_2.length l0_2) (hc0_2 : l0_2.length ≤ c0_2) (hr1_4 : Kd.C (Kd.int .i64) w A1_4 l1_4.length l1_4) (hc1_4 : l1_4.length ≤ c1_4) (hr1_5 : Kd.C (Kd.int .i64) w A1_5 l1_5.length l1_5) (hc1_5 : l1_5.length ≤ c1_5) (hr1_6 : Kd.C (Kd.int .i64) w A1_6 l1_6.length l1_6) (hc1_6 : l1_6.length ≤ c1_6) (h : occurrence_Displace.f a0_0 l0_1 l0_2 a1_0 a1_1 a1_2 a1_3 l1_4 l1_5 l1_6 = some (r1, r2, r3, r4, r5, r6, r7)) :
  Calls Try.prog 22 #[.agg #[.int .i64 a0_0, .slice A0_1 l0_1.length c0_1, .slice A0_2 l0_2.length c0_2], .agg #[.int .i64 a1_0, .int .i64 a1_1, .int .i64 a1_2, .string a1_3, .slice A1_4 l1_4.length c1_4, .slice A1_5 l1_5.length c1_5, .slice A1_6 l1_6.length c1_6]] w fun e w' => ∃ v4_ v5_ v6_ : Value, e = .returned (.agg #[.int .i64 r1, .int .i64 r2, .int .i64 r3, .string r4, v4_, v5_, v6_]) ∧ Kd.R (Kd.int .i64) 3 w' w.heap.size (fun k_ => some k_ ≠ (v5_ : Value).ownBlock ∧ some k_ ≠ (v6_ : Value).ownBlock) v4_ r5 ∧ Kd.R (Kd.int .i64) 3 w' w.heap.size (fun k_ => some k_ ≠ (v4_ : Value).ownBlock ∧ some k_ ≠ (v6_ : Value).ownBlock) v5_ r6 ∧ Kd.R (Kd.int .i64) 3 w' w.heap.size (fun k_ => some k_ ≠ (v4_ : Value).ownBlock ∧ some k_ ≠ (v5_ : Value).ownBlock) v6_ r7 ∧ Below w.heap.size w w' := by
 unfold occurrence_Displace.f at h
 split at h
 ·rename_i hl
  have key := fun (R : Ls) (h1 : a1_0 = 2 → 0 ≤ a1_1 ∧ a1_1 < (l0_2.length : Int)) (h2 : R = (if a1_0 = 2 then (if (rd_T68 l0_2 a1_1).f2 = 3 then (l1_4, a1_1 :: l1_5, l1_6) else (a1_1 :: l1_4, l1_5, l1_6)) else (l1_4, l1_5, l1_6))) (h3 : R = (r5, r6, r7)) => displace_any a0_0 A0_1 c0_1 l0_1.length A0_2 c0_2 _ l0_2 a1_0 a1_1 a1_2 a1_3 A1_4 A1_5 A1_6 _ c1_4 _ c1_5 _ c1_6 l1_4 l1_5 l1_6 w ⟨hr0_2, rfl⟩ ⟨hr1_4, rfl, hc1_4, hl.1⟩ ⟨hr1_5, rfl, hc1_5, hl.2.1⟩ ⟨hr1_6, rfl, hc1_6, hl.2.2⟩ R r5 r6 r7 h1 h2 h3
  split at h
  ·rename_i hp
   split at h
   ·rename_i hi
    split at h
    ·rename_i hq
     simp only [Option.some.injEq, Prod.mk.injEq] at h
     obtain ⟨rfl, rfl, rfl, rfl, rfl, rfl, rfl⟩ := h
     exact key _ (fun _ => hi) rfl (by rw [if_pos hp, if_pos hq])
    ·rename_i hq
     simp only [Option.some.injEq, Prod.mk.injEq] at h
     obtain ⟨rfl, rfl, rfl, rfl, rfl, rfl, rfl⟩ := h
     exact key _ (fun _ => hi) rfl (by rw [if_pos hp, if_neg hq])
   ·simp at h
  ·rename_i hp
   simp only [Option.some.injEq, Prod.mk.injEq] at h
   obtain ⟨rfl, rfl, rfl, rfl, rfl, rfl, rfl⟩ := h
   exact key _ (fun h => absurd h hp) rfl (by rw [if_neg hp])
 ·simp at h
end Go.Proofs.Ytopfjjdkffdjpaa.Q
end
section
namespace Go.Proofs.Ytopfjjdkffdjpaa.Q
open Go.RowKit Go.Proofs.YtopfjjdkffdjpaaW.PrintWords Go.Proofs.YtopfjjdkffdjpaaW.PrintLast Go.Proofs.YtopfjjdkffdjpaaW.PrintMore
attribute [local go_sem] max2_int min2_int max_two min_two max_three min_three max_four min_four
section
attribute [local go_sem high] eqA28
def computuslaw21_awake.f (k : Nat)  : Option (Bool) := (some (([(⟨(⟨#[115]⟩ : ByteArray), 9, 9, (⟨1, 1, 1, 0, 0, 0⟩ : S64)⟩ : S66)] : List (S66)) : List (S66))).bind fun y155 => ((some (([(⟨(⟨#[97]⟩ : ByteArray), 1, 3, (⟨1, 1, 1, 0, 0, 0⟩ : S64)⟩ : S68), (⟨(⟨#[98]⟩ : ByteArray), 3, 1, (⟨1, 1, 1, 0, 0, 0⟩ : S64)⟩ : S68)] : List (S68)) : List (S68))).bind fun y158 => ((some (([(⟨1, 0, 9, (⟨#[115]⟩ : ByteArray)⟩ : S28), (⟨2, 0, 1, (⟨#[97]⟩ : ByteArray)⟩ : S28), (⟨2, 1, 3, (⟨#[98]⟩ : ByteArray)⟩ : S28)] : List (S28)) : List (S28))).bind fun y162 => ((occurrence_Resolve.f 2 y155 y158 y162).bind fun bt165 => ((occurrence_Displace.f 2 y155 y158 bt165.1 bt165.2.1 bt165.2.2.1 bt165.2.2.2.1 bt165.2.2.2.2.1 bt165.2.2.2.2.2.1 bt165.2.2.2.2.2.2).bind fun bt179 => (if 1 < (y162.length : Int) then (if (bt165.1 == ((rd_T28 y162 1).f0) && (bt165.2.1 == ((rd_T28 y162 1).f1) && (bt165.2.2.1 == ((rd_T28 y162 1).f2) && (bt165.2.2.2.1.toList == (((rd_T28 y162 1).f3).toList))))) = true then (if (bt165.2.2.2.2.1.length : Int) = 0 then (if (bt165.2.2.2.2.2.1.length : Int) = 0 then ((computusref08_Numbers.f k bt165.2.2.2.2.2.2 (([1] : List Int))).bind fun t197 => (if t197 = true then ((occurrence_Free.f 2 y155 y158 bt165.1 bt165.2.1 bt165.2.2.1 bt165.2.2.2.1 bt165.2.2.2.2.1 bt165.2.2.2.2.2.1 bt165.2.2.2.2.2.2).bind fun t198 => (if t198 = true then (none) else (if 1 ≤ (y162.length : Int) then ((occurrence_Resolve.f 2 y155 y158 (y162.take 1)).bind fun bt203 => ((occurrence_Free.f 2 y155 y158 bt203.1 bt203.2.1 bt203.2.2.1 bt203.2.2.2.1 bt203.2.2.2.2.1 bt203.2.2.2.2.2.1 bt203.2.2.2.2.2.2).bind fun t216 => (if t216 = true then (if (bt179.1 == 0 && (bt179.2.1 == 0 && (bt179.2.2.1 == 0 && (bt179.2.2.2.1.toList == ([] : List UInt8))))) = true then ((computusref08_Numbers.f k bt179.2.2.2.2.2.1 (([0] : List Int))).bind fun t220 => (some t220)) else (none)) else (none)))) else (none)))) else (none))) else (none)) else (none)) else (none)) else (none))))))
theorem computuslaw21_awake.mono : ∀ k, LeO (computuslaw21_awake.f k ) (computuslaw21_awake.f (k + 1) ) := by
 intro  k
 unfold computuslaw21_awake.f
 repeat' first | (with_reducible first | exact computusref08_Numbers.mono _ _ _ | exact lr_ _ | exact ln_ _ | refine li_ ?_ ?_ | refine lb_ ?_ fun _ => ?_) | exact ln_ _ | refine li_ ?_ ?_ | refine lb_ ?_ fun _ => ?_
def computuslaw21_awake.T6 : Bool × List (List Nat × List Nat) := (true, [([], []), ([0], [0]), ([], []), ([2], [2]), ([3], [3]), ([1, 4], [1, 4]), ([5], [5]), ([6], [6]), ([7, 6], [6, 7]), ([8, 6], [6, 8]), ([9, 6], [6, 9]), ([6, 10], [6, 10]), ([11, 6], [11]), ([12], [12]), ([13, 12], [12, 13]), ([14, 12], [12, 14]), ([15, 12], [12, 15]), ([12, 16], [12, 16]), ([17, 12], [17]), ([18], [18]), ([19, 18], [18, 19]), ([18], [18]), ([20, 21, 18, 18], [18, 20, 21]), ([18, 22], [18, 22]), ([23, 22], [23]), ([24], [24]), ([24], [24]), ([25, 26, 24, 24], [24, 25, 26]), ([27, 24], [24, 27]), ([24, 28], [24, 28]), ([29, 27], [29]), ([30], [30]), ([30], [30]), ([30], [30]), ([33, 30], [30, 33]), ([32, 34, 30, 30], [30, 32, 34]), ([31, 35, 35, 30], [30, 31, 35]), ([30, 36], [30, 36]), ([37, 36], [37]), ([38], [38]), ([39, 38], [38, 39]), ([38], [38]), ([40, 41, 38], [38, 40, 41]), ([38, 42], [38, 42]), ([43, 38], [43]), ([44], [44]), ([45, 44], [44, 45]), ([44], [44]), ([46, 47, 44, 44], [44, 46, 47]), ([44, 48], [44, 48]), ([49, 48, 0, 1, 2, 3, 4, 5, 6, 7, 8, 9, 10, 11, 12, 13, 14, 15, 16, 17, 18, 19, 20, 21, 22, 23, 24, 25, 26, 27, 28, 29, 30, 31, 32, 33, 34, 35, 36, 37, 38, 39, 40, 41, 42, 43, 44, 45, 46, 47, 48, 49], [49])])
def computuslaw21_awake.B6 : List Nat := [0, 1, 0, 4, 12, 31, 63, 127, 255, 511, 1023, 2047, 4095, 8191, 16383, 32767, 65535, 131071, 262143, 524287, 1048575, 524287, 4194303, 8388607, 16777215, 33554431, 33554431, 134217727, 268435455, 536870911, 1073741823, 2147483647, 2147483647, 2147483647, 10737418239, 32212254719, 68719476735, 137438953471, 274877906943, 549755813887, 1099511627775, 549755813887, 4398046511103, 8796093022207, 17592186044415, 35184372088831, 70368744177663, 35184372088831, 281474976710655, 562949953421311, 1125899906842623]
theorem computuslaw21_awake.tab6 : rtab .any (opsOf Try.f13 6) = computuslaw21_awake.T6 := by kernel_rfl
theorem computuslaw21_awake.bits6 : waitsOk computuslaw21_awake.T6.2 computuslaw21_awake.B6 = true := by kernel_rfl
theorem computuslaw21_awake.calls (k : Nat)  (r : Bool) (w : World) (h : computuslaw21_awake.f k  = some r) :
  Calls Try.prog 13 #[] w fun e w' => e = .returned (.bool r) ∧ Below w.heap.size w w' := by
 have hu64 := Try.underlying64
 have hu66 := Try.underlying66
 have hu68 := Try.underlying68
 have hu36 := Try.underlying36
 have hu28 := Try.underlying28
 have hu42 := Try.underlying42
 have HB := am_ (Below.refl w.heap.size w)
 have H := h
 clear h
 unfold computuslaw21_awake.f at H
 obtain ⟨y155, hy155⟩ : ∃ y_ : List (S66), y_ = (([(⟨(⟨#[115]⟩ : ByteArray), 9, 9, (⟨1, 1, 1, 0, 0, 0⟩ : S64)⟩ : S66)] : List (S66))) := ⟨_, rfl⟩
 replace H : ((some (([(⟨(⟨#[97]⟩ : ByteArray), 1, 3, (⟨1, 1, 1, 0, 0, 0⟩ : S64)⟩ : S68), (⟨(⟨#[98]⟩ : ByteArray), 3, 1, (⟨1, 1, 1, 0, 0, 0⟩ : S64)⟩ : S68)] : List (S68)) : List (S68))).bind fun y158 => ((some (([(⟨1, 0, 9, (⟨#[115]⟩ : ByteArray)⟩ : S28), (⟨2, 0, 1, (⟨#[97]⟩ : ByteArray)⟩ : S28), (⟨2, 1, 3, (⟨#[98]⟩ : ByteArray)⟩ : S28)] : List (S28)) : List (S28))).bind fun y162 => ((occurrence_Resolve.f 2 y155 y158 y162).bind fun bt165 => ((occurrence_Displace.f 2 y155 y158 bt165.1 bt165.2.1 bt165.2.2.1 bt165.2.2.2.1 bt165.2.2.2.2.1 bt165.2.2.2.2.2.1 bt165.2.2.2.2.2.2).bind fun bt179 => (if 1 < (y162.length : Int) then (if (bt165.1 == ((rd_T28 y162 1).f0) && (bt165.2.1 == ((rd_T28 y162 1).f1) && (bt165.2.2.1 == ((rd_T28 y162 1).f2) && (bt165.2.2.2.1.toList == (((rd_T28 y162 1).f3).toList))))) = true then (if (bt165.2.2.2.2.1.length : Int) = 0 then (if (bt165.2.2.2.2.2.1.length : Int) = 0 then ((computusref08_Numbers.f k bt165.2.2.2.2.2.2 (([1] : List Int))).bind fun t197 => (if t197 = true then ((occurrence_Free.f 2 y155 y158 bt165.1 bt165.2.1 bt165.2.2.1 bt165.2.2.2.1 bt165.2.2.2.2.1 bt165.2.2.2.2.2.1 bt165.2.2.2.2.2.2).bind fun t198 => (if t198 = true then (none) else (if 1 ≤ (y162.length : Int) then ((occurrence_Resolve.f 2 y155 y158 (y162.take 1)).bind fun bt203 => ((occurrence_Free.f 2 y155 y158 bt203.1 bt203.2.1 bt203.2.2.1 bt203.2.2.2.1 bt203.2.2.2.2.1 bt203.2.2.2.2.2.1 bt203.2.2.2.2.2.2).bind fun t216 => (if t216 = true then (if (bt179.1 == 0 && (bt179.2.1 == 0 && (bt179.2.2.1 == 0 && (bt179.2.2.2.1.toList == ([] : List UInt8))))) = true then ((computusref08_Numbers.f k bt179.2.2.2.2.2.1 (([0] : List Int))).bind fun t220 => (some t220)) else (none)) else (none)))) else (none)))) else (none))) else (none)) else (none)) else (none)) else (none)))))) = some r := by first | (rw [hy155]; with_reducible exact H) | (have H2_ := (Option.bind_some _ _).symm.trans H; rw [hy155]; with_reducible exact H2_) | (have H2_ := (Option.bind_some _ _).symm.trans H; with_reducible exact H2_) | with_reducible exact H | (rw [hy155]; exact H) | exact H
 have Ny155 := am_ hy155
 clear hy155
 obtain ⟨y158, hy158⟩ : ∃ y_ : List (S68), y_ = (([(⟨(⟨#[97]⟩ : ByteArray), 1, 3, (⟨1, 1, 1, 0, 0, 0⟩ : S64)⟩ : S68), (⟨(⟨#[98]⟩ : ByteArray), 3, 1, (⟨1, 1, 1, 0, 0, 0⟩ : S64)⟩ : S68)] : List (S68))) := ⟨_, rfl⟩
 replace H : ((some (([(⟨1, 0, 9, (⟨#[115]⟩ : ByteArray)⟩ : S28), (⟨2, 0, 1, (⟨#[97]⟩ : ByteArray)⟩ : S28), (⟨2, 1, 3, (⟨#[98]⟩ : ByteArray)⟩ : S28)] : List (S28)) : List (S28))).bind fun y162 => ((occurrence_Resolve.f 2 y155 y158 y162).bind fun bt165 => ((occurrence_Displace.f 2 y155 y158 bt165.1 bt165.2.1 bt165.2.2.1 bt165.2.2.2.1 bt165.2.2.2.2.1 bt165.2.2.2.2.2.1 bt165.2.2.2.2.2.2).bind fun bt179 => (if 1 < (y162.length : Int) then (if (bt165.1 == ((rd_T28 y162 1).f0) && (bt165.2.1 == ((rd_T28 y162 1).f1) && (bt165.2.2.1 == ((rd_T28 y162 1).f2) && (bt165.2.2.2.1.toList == (((rd_T28 y162 1).f3).toList))))) = true then (if (bt165.2.2.2.2.1.length : Int) = 0 then (if (bt165.2.2.2.2.2.1.length : Int) = 0 then ((computusref08_Numbers.f k bt165.2.2.2.2.2.2 (([1] : List Int))).bind fun t197 => (if t197 = true then ((occurrence_Free.f 2 y155 y158 bt165.1 bt165.2.1 bt165.2.2.1 bt165.2.2.2.1 bt165.2.2.2.2.1 bt165.2.2.2.2.2.1 bt165.2.2.2.2.2.2).bind fun t198 => (if t198 = true then (none) else (if 1 ≤ (y162.length : Int) then ((occurrence_Resolve.f 2 y155 y158 (y162.take 1)).bind fun bt203 => ((occurrence_Free.f 2 y155 y158 bt203.1 bt203.2.1 bt203.2.2.1 bt203.2.2.2.1 bt203.2.2.2.2.1 bt203.2.2.2.2.2.1 bt203.2.2.2.2.2.2).bind fun t216 => (if t216 = true then (if (bt179.1 == 0 && (bt179.2.1 == 0 && (bt179.2.2.1 == 0 && (bt179.2.2.2.1.toList == ([] : List UInt8))))) = true then ((computusref08_Numbers.f k bt179.2.2.2.2.2.1 (([0] : List Int))).bind fun t220 => (some t220)) else (none)) else (none)))) else (none)))) else (none))) else (none)) else (none)) else (none)) else (none))))) = some r := by first | (rw [hy158]; with_reducible exact H) | (have H2_ := (Option.bind_some _ _).symm.trans H; rw [hy158]; with_reducible exact H2_) | (have H2_ := (Option.bind_some _ _).symm.trans H; with_reducible exact H2_) | with_reducible exact H | (rw [hy158]; exact H) | exact H
 have Ny158 := am_ hy158
 clear hy158
 obtain ⟨y162, hy162⟩ : ∃ y_ : List (S28), y_ = (([(⟨1, 0, 9, (⟨#[115]⟩ : ByteArray)⟩ : S28), (⟨2, 0, 1, (⟨#[97]⟩ : ByteArray)⟩ : S28), (⟨2, 1, 3, (⟨#[98]⟩ : ByteArray)⟩ : S28)] : List (S28))) := ⟨_, rfl⟩
 replace H : ((occurrence_Resolve.f 2 y155 y158 y162).bind fun bt165 => ((occurrence_Displace.f 2 y155 y158 bt165.1 bt165.2.1 bt165.2.2.1 bt165.2.2.2.1 bt165.2.2.2.2.1 bt165.2.2.2.2.2.1 bt165.2.2.2.2.2.2).bind fun bt179 => (if 1 < (y162.length : Int) then (if (bt165.1 == ((rd_T28 y162 1).f0) && (bt165.2.1 == ((rd_T28 y162 1).f1) && (bt165.2.2.1 == ((rd_T28 y162 1).f2) && (bt165.2.2.2.1.toList == (((rd_T28 y162 1).f3).toList))))) = true then (if (bt165.2.2.2.2.1.length : Int) = 0 then (if (bt165.2.2.2.2.2.1.length : Int) = 0 then ((computusref08_Numbers.f k bt165.2.2.2.2.2.2 (([1] : List Int))).bind fun t197 => (if t197 = true then ((occurrence_Free.f 2 y155 y158 bt165.1 bt165.2.1 bt165.2.2.1 bt165.2.2.2.1 bt165.2.2.2.2.1 bt165.2.2.2.2.2.1 bt165.2.2.2.2.2.2).bind fun t198 => (if t198 = true then (none) else (if 1 ≤ (y162.length : Int) then ((occurrence_Resolve.f 2 y155 y158 (y162.take 1)).bind fun bt203 => ((occurrence_Free.f 2 y155 y158 bt203.1 bt203.2.1 bt203.2.2.1 bt203.2.2.2.1 bt203.2.2.2.2.1 bt203.2.2.2.2.2.1 bt203.2.2.2.2.2.2).bind fun t216 => (if t216 = true then (if (bt179.1 == 0 && (bt179.2.1 == 0 && (bt179.2.2.1 == 0 && (bt179.2.2.2.1.toList == ([] : List UInt8))))) = true then ((computusref08_Numbers.f k bt179.2.2.2.2.2.1 (([0] : List Int))).bind fun t220 => (some t220)) else (none)) else (none)))) else (none)))) else (none))) else (none)) else (none)) else (none)) else (none)))) = some r := by first | (rw [hy162]; with_reducible exact H) | (have H2_ := (Option.bind_some _ _).symm.trans H; rw [hy162]; with_reducible exact H2_) | (have H2_ := (Option.bind_some _ _).symm.trans H; with_reducible exact H2_) | with_reducible exact H | (rw [hy162]; exact H) | exact H
 have Ny162 := am_ hy162
 clear hy162
 obtain ⟨⟨t165, t166, t167, t168, t169, t172, t175⟩, A1, H⟩ := bs_ H
 dsimp only at H
 obtain ⟨⟨t179, t180, t181, t182, t183, t186, t189⟩, A2, H⟩ := bs_ H
 dsimp only at H
 by_cases c3 : 1 < (y162.length : Int)
 rotate_left
 ·rw [if_neg c3] at H
  exact absurd H (by simp)
 rw [if_pos c3] at H
 have c3b0 : decide (1 < (y162.length : Int)) = true := decide_eq_true c3
 have c3b1 : decide (1 < y162.length) = true := decide_eq_true (by omega)
 clear c3
 by_cases c4 : (t165 == ((rd_T28 y162 1).f0) && (t166 == ((rd_T28 y162 1).f1) && (t167 == ((rd_T28 y162 1).f2) && (t168.toList == (((rd_T28 y162 1).f3).toList))))) = true
 rotate_left
 ·rw [if_neg c4] at H
  exact absurd H (by simp)
 rw [if_pos c4] at H
 have c4b0 : (t165 == ((rd_T28 y162 1).f0) && (t166 == ((rd_T28 y162 1).f1) && (t167 == ((rd_T28 y162 1).f2) && (t168.toList == (((rd_T28 y162 1).f3).toList))))) = true := c4
 (try (have c4b1 : decide (t165 = ((rd_T28 y162 1).f0) && (t166 == ((rd_T28 y162 1).f1) && (t167 == ((rd_T28 y162 1).f2) && (t168.toList == (((rd_T28 y162 1).f3).toList))))) = true := by simpa using c4))
 (try (have c4b2 : (t165 == ((rd_T28 y162 1).f0) && (t166 == ((rd_T28 y162 1).f1) && (t167 == ((rd_T28 y162 1).f2) && (t168.toList == (((rd_T28 y162 1).f3).toList))))) = true := by simpa using c4))
 clear c4
 by_cases c5 : (t169.length : Int) = 0
 rotate_left
 ·rw [if_neg c5] at H
  exact absurd H (by simp)
 rw [if_pos c5] at H
 have c5b0 : ((t169.length : Int) == 0) = true := beq_iff_eq.mpr c5
 have c5b1 : ((t169.length : Int) != 0) = false := bne_eq_false_iff_eq.mpr c5
 clear c5
 by_cases c6 : (t172.length : Int) = 0
 rotate_left
 ·rw [if_neg c6] at H
  exact absurd H (by simp)
 rw [if_pos c6] at H
 have c6b0 : ((t172.length : Int) == 0) = true := beq_iff_eq.mpr c6
 have c6b1 : ((t172.length : Int) != 0) = false := bne_eq_false_iff_eq.mpr c6
 clear c6
 obtain ⟨y194, hy194⟩ : ∃ y_ : List Int, y_ = (([1] : List Int)) := ⟨_, rfl⟩
 replace H : ((computusref08_Numbers.f k t175 y194).bind fun t197 => (if t197 = true then ((occurrence_Free.f 2 y155 y158 t165 t166 t167 t168 t169 t172 t175).bind fun t198 => (if t198 = true then (none) else (if 1 ≤ (y162.length : Int) then ((occurrence_Resolve.f 2 y155 y158 (y162.take 1)).bind fun bt203 => ((occurrence_Free.f 2 y155 y158 bt203.1 bt203.2.1 bt203.2.2.1 bt203.2.2.2.1 bt203.2.2.2.2.1 bt203.2.2.2.2.2.1 bt203.2.2.2.2.2.2).bind fun t216 => (if t216 = true then (if (t179 == 0 && (t180 == 0 && (t181 == 0 && (t182.toList == ([] : List UInt8))))) = true then ((computusref08_Numbers.f k t186 (([0] : List Int))).bind fun t220 => (some t220)) else (none)) else (none)))) else (none)))) else (none))) = some r := by first | (rw [hy194]; with_reducible exact H) | (have H2_ := (Option.bind_some _ _).symm.trans H; rw [hy194]; with_reducible exact H2_) | (have H2_ := (Option.bind_some _ _).symm.trans H; with_reducible exact H2_) | with_reducible exact H | (rw [hy194]; exact H) | exact H
 have Ny194 := am_ hy194
 clear hy194
 obtain ⟨t197, A7, H⟩ := bs_ H
 by_cases c8 : t197 = true
 rotate_left
 ·replace c8 := Bool.eq_false_iff.mpr c8
  subst c8
  replace H := if_ H
  exact absurd H (by simp)
 subst c8
 replace H := it_ H
 obtain ⟨t198, A9, H⟩ := bs_ H
 by_cases c10 : t198 = true
 ·subst c10
  replace H := it_ H
  exact absurd H (by simp)
 replace c10 := Bool.eq_false_iff.mpr c10
 subst c10
 replace H := if_ H
 by_cases c11 : 1 ≤ (y162.length : Int)
 rotate_left
 ·rw [if_neg c11] at H
  exact absurd H (by simp)
 rw [if_pos c11] at H
 have c11b0 := eq_true c11
 have c11b1 : decide (1 ≤ (y162.length : Int)) = true := decide_eq_true c11
 clear c11
 obtain ⟨y199, hy199⟩ : ∃ y_ : List (S28), y_ = (y162.take 1) := ⟨_, rfl⟩
 replace H : ((occurrence_Resolve.f 2 y155 y158 y199).bind fun bt203 => ((occurrence_Free.f 2 y155 y158 bt203.1 bt203.2.1 bt203.2.2.1 bt203.2.2.2.1 bt203.2.2.2.2.1 bt203.2.2.2.2.2.1 bt203.2.2.2.2.2.2).bind fun t216 => (if t216 = true then (if (t179 == 0 && (t180 == 0 && (t181 == 0 && (t182.toList == ([] : List UInt8))))) = true then ((computusref08_Numbers.f k t186 (([0] : List Int))).bind fun t220 => (some t220)) else (none)) else (none)))) = some r := by first | (rw [hy199]; with_reducible exact H) | (have H2_ := (Option.bind_some _ _).symm.trans H; rw [hy199]; with_reducible exact H2_) | (have H2_ := (Option.bind_some _ _).symm.trans H; with_reducible exact H2_) | with_reducible exact H | (rw [hy199]; exact H) | exact H
 have Ny199 := am_ hy199
 clear hy199
 obtain ⟨⟨t203, t204, t205, t206, t207, t210, t213⟩, A12, H⟩ := bs_ H
 dsimp only at H
 obtain ⟨t216, A13, H⟩ := bs_ H
 by_cases c14 : t216 = true
 rotate_left
 ·replace c14 := Bool.eq_false_iff.mpr c14
  subst c14
  replace H := if_ H
  exact absurd H (by simp)
 subst c14
 replace H := it_ H
 by_cases c15 : (t179 == 0 && (t180 == 0 && (t181 == 0 && (t182.toList == ([] : List UInt8))))) = true
 rotate_left
 ·rw [if_neg c15] at H
  exact absurd H (by simp)
 rw [if_pos c15] at H
 have c15b0 : (t179 == 0 && (t180 == 0 && (t181 == 0 && (t182.toList == ([] : List UInt8))))) = true := c15
 (try (have c15b9 : ((t179 == 0 && (t180 == 0 && (t181 == 0 && (t182.toList.isEmpty))))) = true := by simpa using c15b0))
 (try (have c15b1 : decide (t179 = 0 && (t180 == 0 && (t181 == 0 && (t182.toList == ([] : List UInt8))))) = true := by simpa using c15))
 (try (have c15b2 : (t179 == 0 && (t180 == 0 && (t181 == 0 && (t182.toList == ([] : List UInt8))))) = true := by simpa using c15))
 clear c15
 obtain ⟨y217, hy217⟩ : ∃ y_ : List Int, y_ = (([0] : List Int)) := ⟨_, rfl⟩
 replace H : ((computusref08_Numbers.f k t186 y217).bind fun t220 => (some t220)) = some r := by first | (rw [hy217]; with_reducible exact H) | (have H2_ := (Option.bind_some _ _).symm.trans H; rw [hy217]; with_reducible exact H2_) | (have H2_ := (Option.bind_some _ _).symm.trans H; with_reducible exact H2_) | with_reducible exact H | (rw [hy217]; exact H) | exact H
 have Ny217 := am_ hy217
 clear hy217
 obtain ⟨t220, A16, H⟩ := bs_ H
 obtain rfl := Option.some.inj H
 go_enter Try.func13, Try.ntmps13
 try go_wp2_with (first | ((with_reducible refine gate_dst (N := 1) rfl ?_); (try (refine gate_guard (by rfl) ?_; dsimp only)); refine bx_ (w := w) (N := 1) (cs := #[.int .i64 0, .int .i64 0, .int .i64 0, .int .i64 0, .int .i64 0, .int .i64 0]) (t := 64) ?_; intro gb154 w17 BK154 n0_ GW154 GE154; clear HB; have HB := n0_; clear n0_; obtain ⟨hcz18_0, hcz18_1, hcz18_2, hcz18_3, hcz18_4, hcz18_5⟩ := cz6_ BK154.out; obtain ⟨hfz18_0, hfz18_1, hfz18_2, hfz18_3, hfz18_4, hfz18_5⟩ := fz6_ BK154.out) | ((with_reducible refine gate_dst (N := 9) rfl ?_); (try (refine gate_guard (by rfl) ?_; dsimp only)); refine Kd.R_lit k66 _ 66 ?hg (N := 9) ?hd (xs := ([(⟨(⟨#[115]⟩ : ByteArray), 9, 9, (⟨1, 1, 1, 0, 0, 0⟩ : S64)⟩ : S66)] : List (S66))) (inner := [.string (⟨#[115]⟩ : ByteArray), .int .i64 9, .int .i64 9, .int .i64 1, .int .i64 1, .int .i64 1, .int .i64 0, .int .i64 0, .int .i64 0]) (ok := fun _ => True) (okp := fun _ => True) ?hr ?hp (fun _ hk => hk) trivial (Below.refl _ _) (Nat.le_refl _) (by simp) ?_; (case hd => rfl); (case hg => rfl); (case hr => first | (go_simp; done) | (go_simp; rfl)); (case hp => exact (Reps.c9 (show Kd.M k66 _ _ _ (⟨(⟨#[115]⟩ : ByteArray), 9, 9, (⟨1, 1, 1, 0, 0, 0⟩ : S64)⟩ : S66) [.string (⟨#[115]⟩ : ByteArray), .int .i64 9, .int .i64 9, .int .i64 1, .int .i64 1, .int .i64 1, .int .i64 0, .int .i64 0, .int .i64 0] from (k66_mkM _ _ _ (⟨(⟨#[115]⟩ : ByteArray), 9, 9, (⟨1, 1, 1, 0, 0, 0⟩ : S64)⟩ : S66) )) (Reps.none _ _))); intro v156 w19 ho20 hb hg_ hnew_; clear hg_ hnew_; (first | rw [← Ny155.out] at ho20 | (simp only [Int.reduceToNat] at ho20; rw [← Ny155.out] at ho20)); have HO157 := am_ (Kd.R_lower ho20 bz_); replace BK154 := am_ (blk_below (g := gb154) (o := .cells #[.int .i64 1, .int .i64 1, .int .i64 1, .int .i64 0, .int .i64 0, .int .i64 0] 64 (0, 0)) (by refine bp_ ?_; refine blk_put (cs := #[.int .i64 1, .int .i64 1, .int .i64 1, .int .i64 0, .int .i64 0, .int .i64 0]) ?_ 5 _ rfl; refine bp_ ?_; refine blk_put (cs := #[.int .i64 1, .int .i64 1, .int .i64 1, .int .i64 0, .int .i64 0, .int .i64 0]) ?_ 4 _ rfl; refine bp_ ?_; refine blk_put (cs := #[.int .i64 1, .int .i64 1, .int .i64 1, .int .i64 0, .int .i64 0, .int .i64 0]) ?_ 3 _ rfl; refine bp_ ?_; refine blk_put (cs := #[.int .i64 1, .int .i64 1, .int .i64 0, .int .i64 0, .int .i64 0, .int .i64 0]) ?_ 2 _ rfl; refine bp_ ?_; refine blk_put (cs := #[.int .i64 1, .int .i64 0, .int .i64 0, .int .i64 0, .int .i64 0, .int .i64 0]) ?_ 1 _ rfl; refine bp_ ?_; refine blk_put (cs := #[.int .i64 0, .int .i64 0, .int .i64 0, .int .i64 0, .int .i64 0, .int .i64 0]) ?_ 0 _ rfl; exact bk_ BK154.out) hb); replace HB := bt_ hb; clear hb ho20; obtain ⟨hcz21_0, hcz21_1, hcz21_2, hcz21_3, hcz21_4, hcz21_5⟩ := cz6_ BK154.out; obtain ⟨hfz21_0, hfz21_1, hfz21_2, hfz21_3, hfz21_4, hfz21_5⟩ := fz6_ BK154.out) | ((with_reducible refine gate_dst (N := 14) rfl ?_); (try (refine gate_guard (by rfl) ?_; dsimp only)); refine Kd.R_lit k68 _ 68 ?hg (N := 14) ?hd (xs := ([(⟨(⟨#[97]⟩ : ByteArray), 1, 3, (⟨1, 1, 1, 0, 0, 0⟩ : S64)⟩ : S68), (⟨(⟨#[98]⟩ : ByteArray), 3, 1, (⟨1, 1, 1, 0, 0, 0⟩ : S64)⟩ : S68)] : List (S68))) (inner := [.string (⟨#[97]⟩ : ByteArray), .int .i64 1, .int .i64 3, .int .i64 1, .int .i64 1, .int .i64 1, .int .i64 0, .int .i64 0, .int .i64 0, .string (⟨#[98]⟩ : ByteArray), .int .i64 3, .int .i64 1, .int .i64 1, .int .i64 1, .int .i64 1, .int .i64 0, .int .i64 0, .int .i64 0]) (ok := fun _ => True) (okp := fun _ => True) ?hr ?hp (fun _ hk => hk) trivial (Below.refl _ _) (Nat.le_refl _) (by simp) ?_; (case hd => rfl); (case hg => rfl); (case hr => first | (go_simp; done) | (go_simp; rfl)); (case hp => exact (Reps.c9 (show Kd.M k68 _ _ _ (⟨(⟨#[97]⟩ : ByteArray), 1, 3, (⟨1, 1, 1, 0, 0, 0⟩ : S64)⟩ : S68) [.string (⟨#[97]⟩ : ByteArray), .int .i64 1, .int .i64 3, .int .i64 1, .int .i64 1, .int .i64 1, .int .i64 0, .int .i64 0, .int .i64 0] from (k68_mkM _ _ _ (⟨(⟨#[97]⟩ : ByteArray), 1, 3, (⟨1, 1, 1, 0, 0, 0⟩ : S64)⟩ : S68) )) (Reps.c9 (show Kd.M k68 _ _ _ (⟨(⟨#[98]⟩ : ByteArray), 3, 1, (⟨1, 1, 1, 0, 0, 0⟩ : S64)⟩ : S68) [.string (⟨#[98]⟩ : ByteArray), .int .i64 3, .int .i64 1, .int .i64 1, .int .i64 1, .int .i64 1, .int .i64 0, .int .i64 0, .int .i64 0] from (k68_mkM _ _ _ (⟨(⟨#[98]⟩ : ByteArray), 3, 1, (⟨1, 1, 1, 0, 0, 0⟩ : S64)⟩ : S68) )) (Reps.none _ _)))); intro v159 w22 ho23 hb hg_ hnew_; clear hg_ hnew_; (first | rw [← Ny158.out] at ho23 | (simp only [Int.reduceToNat] at ho23; rw [← Ny158.out] at ho23)); replace HO157 := rw_ HO157 hb; have HO160 := am_ (Kd.R_lower ho23 bz_); replace BK154 := bw_ BK154 hb; replace HB := bt_ hb; clear hb ho23; obtain ⟨Ao24, co24, eo24⟩ := Kd.R_slice HO160.out; subst eo24; obtain ⟨Ao25, co25, eo25⟩ := Kd.R_slice HO157.out; subst eo25) | ((with_reducible refine gate_dst (N := 2) rfl ?_); (try (refine gate_guard (by rfl) ?_; dsimp only)); refine be_ (N := 2) (cs := #[.int .i64 0, .slice none 0 0, .slice none 0 0]) (t := 36) ?_; intro gb161 hg w26 hbox hb; replace HO157 := rw_ HO157 hb; replace HO160 := rw_ HO160 hb; have BK161 := am_ (hbox); have GW161 := gw_ (w := w) hg; have GE161 := gw_ (w := w) hg; replace HB := bt_ hb; have NB154_161 := ne_ hg BK154; have NB161_154 := nf_ hg BK154; replace BK154 := bw_ BK154 hb; clear hb hbox hg; have hnb27 := NB161_154.out; have hnc27 := NB154_161.out; obtain ⟨hcz28_0, hcz28_1, hcz28_2⟩ := cz3_ BK161.out; obtain ⟨hfz28_0, hfz28_1, hfz28_2⟩ := fz3_ BK161.out) | ((with_reducible refine gate_dst (N := 19) rfl ?_); (try (refine gate_guard (by rfl) ?_; dsimp only)); refine Kd.R_lit k28 _ 28 ?hg (N := 19) ?hd (xs := ([(⟨1, 0, 9, (⟨#[115]⟩ : ByteArray)⟩ : S28), (⟨2, 0, 1, (⟨#[97]⟩ : ByteArray)⟩ : S28), (⟨2, 1, 3, (⟨#[98]⟩ : ByteArray)⟩ : S28)] : List (S28))) (inner := [.int .i64 1, .int .i64 0, .int .i64 9, .string (⟨#[115]⟩ : ByteArray), .int .i64 2, .int .i64 0, .int .i64 1, .string (⟨#[97]⟩ : ByteArray), .int .i64 2, .int .i64 1, .int .i64 3, .string (⟨#[98]⟩ : ByteArray)]) (ok := fun _ => True) (okp := fun _ => True) ?hr ?hp (fun _ hk => hk) trivial (Below.refl _ _) (Nat.le_refl _) (by simp) ?_; (case hd => rfl); (case hg => rfl); (case hr => first | (go_simp; done) | (go_simp; rfl)); (case hp => exact (Reps.c4 (show Kd.M k28 _ _ _ (⟨1, 0, 9, (⟨#[115]⟩ : ByteArray)⟩ : S28) [.int .i64 1, .int .i64 0, .int .i64 9, .string (⟨#[115]⟩ : ByteArray)] from (k28_mkM _ _ _ (⟨1, 0, 9, (⟨#[115]⟩ : ByteArray)⟩ : S28) )) (Reps.c4 (show Kd.M k28 _ _ _ (⟨2, 0, 1, (⟨#[97]⟩ : ByteArray)⟩ : S28) [.int .i64 2, .int .i64 0, .int .i64 1, .string (⟨#[97]⟩ : ByteArray)] from (k28_mkM _ _ _ (⟨2, 0, 1, (⟨#[97]⟩ : ByteArray)⟩ : S28) )) (Reps.c4 (show Kd.M k28 _ _ _ (⟨2, 1, 3, (⟨#[98]⟩ : ByteArray)⟩ : S28) [.int .i64 2, .int .i64 1, .int .i64 3, .string (⟨#[98]⟩ : ByteArray)] from (k28_mkM _ _ _ (⟨2, 1, 3, (⟨#[98]⟩ : ByteArray)⟩ : S28) )) (Reps.none _ _))))); intro v163 w29 ho30 hb hg_ hnew_; clear hg_ hnew_; (first | rw [← Ny162.out] at ho30 | (simp only [Int.reduceToNat] at ho30; rw [← Ny162.out] at ho30)); replace HO157 := am_ (Kd.R_below (fa_ HO157 BK161) hb); replace HO160 := am_ (Kd.R_below (fa_ HO160 BK161) hb); have HO164 := am_ (Kd.R_lower ho30 bz_); replace BK154 := am_ (blk_below (g := gb154) (o := .cells #[.int .i64 1, .int .i64 1, .int .i64 1, .int .i64 0, .int .i64 0, .int .i64 0] 64 (0, 0)) (by refine bp_ ?_; refine blk_far ?_ NB154_161.out _; refine bp_ ?_; refine blk_far ?_ NB154_161.out _; refine bp_ ?_; refine blk_far ?_ NB154_161.out _; exact bk_ BK154.out) hb); replace BK161 := am_ (blk_below (g := gb161) (o := .cells #[.int .i64 2, .slice Ao25 y155.length co25, .slice Ao24 y158.length co24] 36 (0, 0)) (by refine bp_ ?_; refine blk_put (cs := #[.int .i64 2, .slice Ao25 y155.length co25, .slice none 0 0]) ?_ 2 _ rfl; refine bp_ ?_; refine blk_put (cs := #[.int .i64 2, .slice none 0 0, .slice none 0 0]) ?_ 1 _ rfl; refine bp_ ?_; refine blk_put (cs := #[.int .i64 0, .slice none 0 0, .slice none 0 0]) ?_ 0 _ rfl; exact bk_ BK161.out) hb); replace HB := bt_ hb; clear hb ho30; obtain ⟨hcz31_0, hcz31_1, hcz31_2⟩ := cz3_ BK161.out; obtain ⟨hfz31_0, hfz31_1, hfz31_2⟩ := fz3_ BK161.out; obtain ⟨Ao32, co32, eo32⟩ := Kd.R_slice HO164.out; subst eo32) | ((with_reducible refine gate_callee (f := 17) rfl ?_); refine gl_ (some 22) Try.func17 #[.agg #[.int .i64 2, .slice Ao25 y155.length co25, .slice Ao24 y158.length co24], .slice Ao32 y162.length co32] ?_; (with_reducible refine (occurrence_Resolve.calls 2 _ _ y155 _ _ y158 _ _ y162 t165 t166 t167 t168 t169 t172 t175 _ ?side1 ?side2 ?side3 ?side4 ?side5 ?side6 A1.out).mono ?_); (case side1 => exact ck_ (Kd.R_reads' HO157.out).2.2); (case side2 => exact (Kd.R_reads' HO157.out).2.1); (case side3 => exact ck_ (Kd.R_reads' HO160.out).2.2); (case side4 => exact (Kd.R_reads' HO160.out).2.1); (case side5 => exact ck_ (Kd.R_reads' HO164.out).2.2); (case side6 => exact (Kd.R_reads' HO164.out).2.1); rintro e w33 ⟨v170, v173, v176, rfl, ho0, ho1, ho2, hb⟩; refine ⟨_, rfl, ?_⟩; replace HO157 := rw_ HO157 hb; replace HO160 := rw_ HO160 hb; replace HO164 := rw_ HO164 hb; have HO171 := am_ (Kd.R_lower ho0 bz_); have HO174 := am_ (Kd.R_lower ho1 bz_); have HO177 := am_ (Kd.R_lower ho2 bz_); replace BK154 := bw_ BK154 hb; replace BK161 := bw_ BK161 hb; replace HB := bt_ hb; (try clear hb); (try clear hk); (try clear ho0); (try clear ho1); (try clear ho2)) | ((with_reducible refine gate_dst (N := 4) rfl ?_); (try (refine gate_guard (by rfl) ?_; dsimp only)); refine be_ (N := 4) (cs := #[.int .i64 0, .int .i64 0, .int .i64 0, .string (⟨#[]⟩ : ByteArray), .slice none 0 0, .slice none 0 0, .slice none 0 0]) (t := 42) ?_; intro gb178 hg w34 hbox hb; replace HO157 := rw_ HO157 hb; replace HO160 := rw_ HO160 hb; replace HO164 := rw_ HO164 hb; replace HO171 := rw_ HO171 hb; replace HO174 := rw_ HO174 hb; replace HO177 := rw_ HO177 hb; have BK178 := am_ (hbox); have GW178 := gw_ (w := w) hg; have GE178 := gw_ (w := w) hg; replace HB := bt_ hb; have NB154_178 := ne_ hg BK154; have NB178_154 := nf_ hg BK154; replace BK154 := bw_ BK154 hb; have NB161_178 := ne_ hg BK161; have NB178_161 := nf_ hg BK161; replace BK161 := bw_ BK161 hb; clear hb hbox hg; have hnb35 := NB178_154.out; have hnc35 := NB154_178.out; have hnb36 := NB178_161.out; have hnc36 := NB161_178.out; obtain ⟨hcz37_0, hcz37_1, hcz37_2, hcz37_3, hcz37_4, hcz37_5, hcz37_6⟩ := cz7_ BK178.out; obtain ⟨hfz37_0, hfz37_1, hfz37_2, hfz37_3, hfz37_4, hfz37_5, hfz37_6⟩ := fz7_ BK178.out; obtain ⟨Ao38, co38, eo38⟩ := Kd.R_slice HO171.out; subst eo38; obtain ⟨Ao39, co39, eo39⟩ := Kd.R_slice HO174.out; subst eo39; obtain ⟨Ao40, co40, eo40⟩ := Kd.R_slice HO177.out; subst eo40; obtain ⟨hcz41_0, hcz41_1, hcz41_2⟩ := cz3_ BK161.out; obtain ⟨hfz41_0, hfz41_1, hfz41_2⟩ := fz3_ BK161.out) | ((with_reducible refine gate_callee (f := 22) rfl ?_); refine gl_ (some 25) Try.func22 #[.agg #[.int .i64 2, .slice Ao25 y155.length co25, .slice Ao24 y158.length co24], .agg #[.int .i64 t165, .int .i64 t166, .int .i64 t167, .string t168, .slice Ao38 t169.length co38, .slice Ao39 t172.length co39, .slice Ao40 t175.length co40]] ?_; (with_reducible refine (occurrence_Displace.calls 2 _ _ y155 _ _ y158 t165 t166 t167 t168 _ _ t169 _ _ t172 _ _ t175 t179 t180 t181 t182 t183 t186 t189 _ ?side1 ?side2 ?side3 ?side4 ?side5 ?side6 ?side7 ?side8 ?side9 ?side10 A2.out).mono ?_); (case side1 => refine (Kd.R_reads' (e := 66) (base := w.heap.size) (ok := fun k_ => True) (n := y155.length) (c := co25) ?_).2.2; exact (fa_ HO157 BK178)); (case side2 => exact (Kd.R_reads' HO157.out).2.1); (case side3 => refine (Kd.R_reads' (e := 68) (base := w.heap.size) (ok := fun k_ => True) (n := y158.length) (c := co24) ?_).2.2; exact (fa_ HO160 BK178)); (case side4 => exact (Kd.R_reads' HO160.out).2.1); (case side5 => refine (Kd.R_reads' (e := 3) (base := w.heap.size) (ok := fun k_ => (some k_ ≠ (.slice Ao39 t172.length co39 : Value).ownBlock ∧ some k_ ≠ (.slice Ao40 t175.length co40 : Value).ownBlock)) (n := t169.length) (c := co38) ?_).2.2; exact (fa_ HO171 BK178)); (case side6 => exact (Kd.R_reads' HO171.out).2.1); (case side7 => refine (Kd.R_reads' (e := 3) (base := w.heap.size) (ok := fun k_ => (some k_ ≠ (.slice Ao38 t169.length co38 : Value).ownBlock ∧ some k_ ≠ (.slice Ao40 t175.length co40 : Value).ownBlock)) (n := t172.length) (c := co39) ?_).2.2; exact (fa_ HO174 BK178)); (case side8 => exact (Kd.R_reads' HO174.out).2.1); (case side9 => refine (Kd.R_reads' (e := 3) (base := w.heap.size) (ok := fun k_ => (some k_ ≠ (.slice Ao38 t169.length co38 : Value).ownBlock ∧ some k_ ≠ (.slice Ao39 t172.length co39 : Value).ownBlock)) (n := t175.length) (c := co40) ?_).2.2; exact (fa_ HO177 BK178)); (case side10 => exact (Kd.R_reads' HO177.out).2.1); rintro e w42 ⟨v184, v187, v190, rfl, ho0, ho1, ho2, hb⟩; refine ⟨_, rfl, ?_⟩; replace HO157 := am_ (Kd.R_below (fa_ HO157 BK178) hb); replace HO160 := am_ (Kd.R_below (fa_ HO160 BK178) hb); replace HO164 := am_ (Kd.R_below (fa_ HO164 BK178) hb); have HO185 := am_ (Kd.R_lower (Kd.R_new' (Kd.R_new' (Kd.R_new' ho0 (Kd.R_lt (fa_ HO171 BK178))) (Kd.R_lt (fa_ HO174 BK178))) (Kd.R_lt (fa_ HO177 BK178))) bz_); have HO188 := am_ (Kd.R_lower (Kd.R_new' (Kd.R_new' (Kd.R_new' ho1 (Kd.R_lt (fa_ HO171 BK178))) (Kd.R_lt (fa_ HO174 BK178))) (Kd.R_lt (fa_ HO177 BK178))) bz_); have HO191 := am_ (Kd.R_lower (Kd.R_new' (Kd.R_new' (Kd.R_new' ho2 (Kd.R_lt (fa_ HO171 BK178))) (Kd.R_lt (fa_ HO174 BK178))) (Kd.R_lt (fa_ HO177 BK178))) bz_); replace HO171 := am_ (Kd.R_mono (Kd.R_told (Kd.R_told (Kd.R_told (Kd.R_old (fa_ HO171 BK178) hb) (Kd.R_base ho0)) (Kd.R_base ho1)) (Kd.R_base ho2)) (fun _ h_ => h_.1)); replace HO174 := am_ (Kd.R_mono (Kd.R_told (Kd.R_told (Kd.R_told (Kd.R_old (fa_ HO174 BK178) hb) (Kd.R_base ho0)) (Kd.R_base ho1)) (Kd.R_base ho2)) (fun _ h_ => h_.1)); replace HO177 := am_ (Kd.R_mono (Kd.R_told (Kd.R_told (Kd.R_told (Kd.R_old (fa_ HO177 BK178) hb) (Kd.R_base ho0)) (Kd.R_base ho1)) (Kd.R_base ho2)) (fun _ h_ => h_.1)); replace BK154 := am_ (blk_below (g := gb154) (o := .cells #[.int .i64 1, .int .i64 1, .int .i64 1, .int .i64 0, .int .i64 0, .int .i64 0] 64 (0, 0)) (by refine bp_ ?_; refine blk_far ?_ NB154_178.out _; refine bp_ ?_; refine blk_far ?_ NB154_178.out _; refine bp_ ?_; refine blk_far ?_ NB154_178.out _; refine bp_ ?_; refine blk_far ?_ NB154_178.out _; refine bp_ ?_; refine blk_far ?_ NB154_178.out _; refine bp_ ?_; refine blk_far ?_ NB154_178.out _; refine bp_ ?_; refine blk_far ?_ NB154_178.out _; exact bk_ BK154.out) hb); replace BK161 := am_ (blk_below (g := gb161) (o := .cells #[.int .i64 2, .slice Ao25 y155.length co25, .slice Ao24 y158.length co24] 36 (0, 0)) (by refine bp_ ?_; refine blk_far ?_ NB161_178.out _; refine bp_ ?_; refine blk_far ?_ NB161_178.out _; refine bp_ ?_; refine blk_far ?_ NB161_178.out _; refine bp_ ?_; refine blk_far ?_ NB161_178.out _; refine bp_ ?_; refine blk_far ?_ NB161_178.out _; refine bp_ ?_; refine blk_far ?_ NB161_178.out _; refine bp_ ?_; refine blk_far ?_ NB161_178.out _; exact bk_ BK161.out) hb); replace BK178 := am_ (blk_below (g := gb178) (o := .cells #[.int .i64 t165, .int .i64 t166, .int .i64 t167, .string t168, .slice Ao38 t169.length co38, .slice Ao39 t172.length co39, .slice Ao40 t175.length co40] 42 (0, 0)) (by refine bp_ ?_; refine blk_put (cs := #[.int .i64 t165, .int .i64 t166, .int .i64 t167, .string t168, .slice Ao38 t169.length co38, .slice Ao39 t172.length co39, .slice none 0 0]) ?_ 6 _ rfl; refine bp_ ?_; refine blk_put (cs := #[.int .i64 t165, .int .i64 t166, .int .i64 t167, .string t168, .slice Ao38 t169.length co38, .slice none 0 0, .slice none 0 0]) ?_ 5 _ rfl; refine bp_ ?_; refine blk_put (cs := #[.int .i64 t165, .int .i64 t166, .int .i64 t167, .string t168, .slice none 0 0, .slice none 0 0, .slice none 0 0]) ?_ 4 _ rfl; refine bp_ ?_; refine blk_put (cs := #[.int .i64 t165, .int .i64 t166, .int .i64 t167, .string (⟨#[]⟩ : ByteArray), .slice none 0 0, .slice none 0 0, .slice none 0 0]) ?_ 3 _ rfl; refine bp_ ?_; refine blk_put (cs := #[.int .i64 t165, .int .i64 t166, .int .i64 0, .string (⟨#[]⟩ : ByteArray), .slice none 0 0, .slice none 0 0, .slice none 0 0]) ?_ 2 _ rfl; refine bp_ ?_; refine blk_put (cs := #[.int .i64 t165, .int .i64 0, .int .i64 0, .string (⟨#[]⟩ : ByteArray), .slice none 0 0, .slice none 0 0, .slice none 0 0]) ?_ 1 _ rfl; refine bp_ ?_; refine blk_put (cs := #[.int .i64 0, .int .i64 0, .int .i64 0, .string (⟨#[]⟩ : ByteArray), .slice none 0 0, .slice none 0 0, .slice none 0 0]) ?_ 0 _ rfl; exact bk_ BK178.out) hb); replace HB := bt_ hb; (try clear hb); (try clear hk); (try clear ho0); (try clear ho1); (try clear ho2)) | ((with_reducible refine gate_dst (N := 5) rfl ?_); (try (refine gate_guard (by rfl) ?_; dsimp only)); refine be_ (N := 5) (cs := #[.int .i64 0, .int .i64 0, .int .i64 0, .string (⟨#[]⟩ : ByteArray), .slice none 0 0, .slice none 0 0, .slice none 0 0]) (t := 42) ?_; intro gb192 hg w43 hbox hb; replace HO157 := rw_ HO157 hb; replace HO160 := rw_ HO160 hb; replace HO164 := rw_ HO164 hb; replace HO171 := rw_ HO171 hb; replace HO174 := rw_ HO174 hb; replace HO177 := rw_ HO177 hb; replace HO185 := rw_ HO185 hb; replace HO188 := rw_ HO188 hb; replace HO191 := rw_ HO191 hb; have BK192 := am_ (hbox); have GW192 := gw_ (w := w) hg; have GE192 := gw_ (w := w) hg; replace HB := bt_ hb; have NB154_192 := ne_ hg BK154; have NB192_154 := nf_ hg BK154; replace BK154 := bw_ BK154 hb; have NB161_192 := ne_ hg BK161; have NB192_161 := nf_ hg BK161; replace BK161 := bw_ BK161 hb; have NB178_192 := ne_ hg BK178; have NB192_178 := nf_ hg BK178; replace BK178 := bw_ BK178 hb; clear hb hbox hg; have hnb44 := NB192_154.out; have hnc44 := NB154_192.out; have hnb45 := NB192_161.out; have hnc45 := NB161_192.out; have hnb46 := NB192_178.out; have hnc46 := NB178_192.out; obtain ⟨hcz47_0, hcz47_1, hcz47_2, hcz47_3, hcz47_4, hcz47_5, hcz47_6⟩ := cz7_ BK192.out; obtain ⟨hfz47_0, hfz47_1, hfz47_2, hfz47_3, hfz47_4, hfz47_5, hfz47_6⟩ := fz7_ BK192.out; obtain ⟨Ao48, co48, eo48⟩ := Kd.R_slice HO185.out; subst eo48; obtain ⟨Ao49, co49, eo49⟩ := Kd.R_slice HO188.out; subst eo49; obtain ⟨Ao50, co50, eo50⟩ := Kd.R_slice HO191.out; subst eo50))
 have n0_ : Aside0 (Kd.R k66 66 (((((((w43.setCell ⟨gb192, 0, none⟩ (.int .i64 t179)).setCell ⟨gb192, 1, none⟩ (.int .i64 t180)).setCell ⟨gb192, 2, none⟩ (.int .i64 t181)).setCell ⟨gb192, 3, none⟩ (.string t182)).setCell ⟨gb192, 4, none⟩ (.slice Ao48 t183.length co48)).setCell ⟨gb192, 5, none⟩ (.slice Ao49 t186.length co49)).setCell ⟨gb192, 6, none⟩ (.slice Ao50 t189.length co50)) w.heap.size (fun _ => True) (.slice Ao25 y155.length co25) y155) := ⟨fa_ HO157 BK192⟩
 have n1_ : Aside0 (Kd.R k68 68 (((((((w43.setCell ⟨gb192, 0, none⟩ (.int .i64 t179)).setCell ⟨gb192, 1, none⟩ (.int .i64 t180)).setCell ⟨gb192, 2, none⟩ (.int .i64 t181)).setCell ⟨gb192, 3, none⟩ (.string t182)).setCell ⟨gb192, 4, none⟩ (.slice Ao48 t183.length co48)).setCell ⟨gb192, 5, none⟩ (.slice Ao49 t186.length co49)).setCell ⟨gb192, 6, none⟩ (.slice Ao50 t189.length co50)) w.heap.size (fun _ => True) (.slice Ao24 y158.length co24) y158) := ⟨fa_ HO160 BK192⟩
 have n2_ : Aside0 (Kd.R k28 28 (((((((w43.setCell ⟨gb192, 0, none⟩ (.int .i64 t179)).setCell ⟨gb192, 1, none⟩ (.int .i64 t180)).setCell ⟨gb192, 2, none⟩ (.int .i64 t181)).setCell ⟨gb192, 3, none⟩ (.string t182)).setCell ⟨gb192, 4, none⟩ (.slice Ao48 t183.length co48)).setCell ⟨gb192, 5, none⟩ (.slice Ao49 t186.length co49)).setCell ⟨gb192, 6, none⟩ (.slice Ao50 t189.length co50)) w.heap.size (fun _ => True) (.slice Ao32 y162.length co32) y162) := ⟨fa_ HO164 BK192⟩
 have n3_ : Aside0 (Kd.R (Kd.int .i64) 3 (((((((w43.setCell ⟨gb192, 0, none⟩ (.int .i64 t179)).setCell ⟨gb192, 1, none⟩ (.int .i64 t180)).setCell ⟨gb192, 2, none⟩ (.int .i64 t181)).setCell ⟨gb192, 3, none⟩ (.string t182)).setCell ⟨gb192, 4, none⟩ (.slice Ao48 t183.length co48)).setCell ⟨gb192, 5, none⟩ (.slice Ao49 t186.length co49)).setCell ⟨gb192, 6, none⟩ (.slice Ao50 t189.length co50)) w.heap.size (fun k_ => some k_ ≠ (.slice Ao39 t172.length co39 : Value).ownBlock ∧ some k_ ≠ (.slice Ao40 t175.length co40 : Value).ownBlock ∧ some k_ ≠ (.slice Ao48 t183.length co48 : Value).ownBlock ∧ some k_ ≠ (.slice Ao49 t186.length co49 : Value).ownBlock ∧ some k_ ≠ (.slice Ao50 t189.length co50 : Value).ownBlock) (.slice Ao38 t169.length co38) t169) := ⟨fa_ HO171 BK192⟩
 have n4_ : Aside0 (Kd.R (Kd.int .i64) 3 (((((((w43.setCell ⟨gb192, 0, none⟩ (.int .i64 t179)).setCell ⟨gb192, 1, none⟩ (.int .i64 t180)).setCell ⟨gb192, 2, none⟩ (.int .i64 t181)).setCell ⟨gb192, 3, none⟩ (.string t182)).setCell ⟨gb192, 4, none⟩ (.slice Ao48 t183.length co48)).setCell ⟨gb192, 5, none⟩ (.slice Ao49 t186.length co49)).setCell ⟨gb192, 6, none⟩ (.slice Ao50 t189.length co50)) w.heap.size (fun k_ => some k_ ≠ (.slice Ao38 t169.length co38 : Value).ownBlock ∧ some k_ ≠ (.slice Ao40 t175.length co40 : Value).ownBlock ∧ some k_ ≠ (.slice Ao48 t183.length co48 : Value).ownBlock ∧ some k_ ≠ (.slice Ao49 t186.length co49 : Value).ownBlock ∧ some k_ ≠ (.slice Ao50 t189.length co50 : Value).ownBlock) (.slice Ao39 t172.length co39) t172) := ⟨fa_ HO174 BK192⟩
 have n5_ : Aside0 (Kd.R (Kd.int .i64) 3 (((((((w43.setCell ⟨gb192, 0, none⟩ (.int .i64 t179)).setCell ⟨gb192, 1, none⟩ (.int .i64 t180)).setCell ⟨gb192, 2, none⟩ (.int .i64 t181)).setCell ⟨gb192, 3, none⟩ (.string t182)).setCell ⟨gb192, 4, none⟩ (.slice Ao48 t183.length co48)).setCell ⟨gb192, 5, none⟩ (.slice Ao49 t186.length co49)).setCell ⟨gb192, 6, none⟩ (.slice Ao50 t189.length co50)) w.heap.size (fun k_ => some k_ ≠ (.slice Ao38 t169.length co38 : Value).ownBlock ∧ some k_ ≠ (.slice Ao39 t172.length co39 : Value).ownBlock ∧ some k_ ≠ (.slice Ao48 t183.length co48 : Value).ownBlock ∧ some k_ ≠ (.slice Ao49 t186.length co49 : Value).ownBlock ∧ some k_ ≠ (.slice Ao50 t189.length co50 : Value).ownBlock) (.slice Ao40 t175.length co40) t175) := ⟨fa_ HO177 BK192⟩
 have n6_ : Aside0 (Kd.R (Kd.int .i64) 3 (((((((w43.setCell ⟨gb192, 0, none⟩ (.int .i64 t179)).setCell ⟨gb192, 1, none⟩ (.int .i64 t180)).setCell ⟨gb192, 2, none⟩ (.int .i64 t181)).setCell ⟨gb192, 3, none⟩ (.string t182)).setCell ⟨gb192, 4, none⟩ (.slice Ao48 t183.length co48)).setCell ⟨gb192, 5, none⟩ (.slice Ao49 t186.length co49)).setCell ⟨gb192, 6, none⟩ (.slice Ao50 t189.length co50)) w.heap.size (fun k_ => some k_ ≠ (.slice Ao38 t169.length co38 : Value).ownBlock ∧ some k_ ≠ (.slice Ao39 t172.length co39 : Value).ownBlock ∧ some k_ ≠ (.slice Ao40 t175.length co40 : Value).ownBlock ∧ some k_ ≠ (.slice Ao49 t186.length co49 : Value).ownBlock ∧ some k_ ≠ (.slice Ao50 t189.length co50 : Value).ownBlock) (.slice Ao48 t183.length co48) t183) := ⟨fa_ HO185 BK192⟩
 have n7_ : Aside0 (Kd.R (Kd.int .i64) 3 (((((((w43.setCell ⟨gb192, 0, none⟩ (.int .i64 t179)).setCell ⟨gb192, 1, none⟩ (.int .i64 t180)).setCell ⟨gb192, 2, none⟩ (.int .i64 t181)).setCell ⟨gb192, 3, none⟩ (.string t182)).setCell ⟨gb192, 4, none⟩ (.slice Ao48 t183.length co48)).setCell ⟨gb192, 5, none⟩ (.slice Ao49 t186.length co49)).setCell ⟨gb192, 6, none⟩ (.slice Ao50 t189.length co50)) w.heap.size (fun k_ => some k_ ≠ (.slice Ao38 t169.length co38 : Value).ownBlock ∧ some k_ ≠ (.slice Ao39 t172.length co39 : Value).ownBlock ∧ some k_ ≠ (.slice Ao40 t175.length co40 : Value).ownBlock ∧ some k_ ≠ (.slice Ao48 t183.length co48 : Value).ownBlock ∧ some k_ ≠ (.slice Ao50 t189.length co50 : Value).ownBlock) (.slice Ao49 t186.length co49) t186) := ⟨fa_ HO188 BK192⟩
 have n8_ : Aside0 (Kd.R (Kd.int .i64) 3 (((((((w43.setCell ⟨gb192, 0, none⟩ (.int .i64 t179)).setCell ⟨gb192, 1, none⟩ (.int .i64 t180)).setCell ⟨gb192, 2, none⟩ (.int .i64 t181)).setCell ⟨gb192, 3, none⟩ (.string t182)).setCell ⟨gb192, 4, none⟩ (.slice Ao48 t183.length co48)).setCell ⟨gb192, 5, none⟩ (.slice Ao49 t186.length co49)).setCell ⟨gb192, 6, none⟩ (.slice Ao50 t189.length co50)) w.heap.size (fun k_ => some k_ ≠ (.slice Ao38 t169.length co38 : Value).ownBlock ∧ some k_ ≠ (.slice Ao39 t172.length co39 : Value).ownBlock ∧ some k_ ≠ (.slice Ao40 t175.length co40 : Value).ownBlock ∧ some k_ ≠ (.slice Ao48 t183.length co48 : Value).ownBlock ∧ some k_ ≠ (.slice Ao49 t186.length co49 : Value).ownBlock) (.slice Ao50 t189.length co50) t189) := ⟨fa_ HO191 BK192⟩
 have n9_ : Aside0 ((((((((w43.setCell ⟨gb192, 0, none⟩ (.int .i64 t179)).setCell ⟨gb192, 1, none⟩ (.int .i64 t180)).setCell ⟨gb192, 2, none⟩ (.int .i64 t181)).setCell ⟨gb192, 3, none⟩ (.string t182)).setCell ⟨gb192, 4, none⟩ (.slice Ao48 t183.length co48)).setCell ⟨gb192, 5, none⟩ (.slice Ao49 t186.length co49)).setCell ⟨gb192, 6, none⟩ (.slice Ao50 t189.length co50)).heap[gb154]? = some (.cells #[.int .i64 1, .int .i64 1, .int .i64 1, .int .i64 0, .int .i64 0, .int .i64 0] 64 (0, 0))) := ⟨bf1_ NB154_192 BK154⟩
 have n10_ : Aside0 ((((((((w43.setCell ⟨gb192, 0, none⟩ (.int .i64 t179)).setCell ⟨gb192, 1, none⟩ (.int .i64 t180)).setCell ⟨gb192, 2, none⟩ (.int .i64 t181)).setCell ⟨gb192, 3, none⟩ (.string t182)).setCell ⟨gb192, 4, none⟩ (.slice Ao48 t183.length co48)).setCell ⟨gb192, 5, none⟩ (.slice Ao49 t186.length co49)).setCell ⟨gb192, 6, none⟩ (.slice Ao50 t189.length co50)).heap[gb161]? = some (.cells #[.int .i64 2, .slice Ao25 y155.length co25, .slice Ao24 y158.length co24] 36 (0, 0))) := ⟨bf1_ NB161_192 BK161⟩
 have n11_ : Aside0 ((((((((w43.setCell ⟨gb192, 0, none⟩ (.int .i64 t179)).setCell ⟨gb192, 1, none⟩ (.int .i64 t180)).setCell ⟨gb192, 2, none⟩ (.int .i64 t181)).setCell ⟨gb192, 3, none⟩ (.string t182)).setCell ⟨gb192, 4, none⟩ (.slice Ao48 t183.length co48)).setCell ⟨gb192, 5, none⟩ (.slice Ao49 t186.length co49)).setCell ⟨gb192, 6, none⟩ (.slice Ao50 t189.length co50)).heap[gb178]? = some (.cells #[.int .i64 t165, .int .i64 t166, .int .i64 t167, .string t168, .slice Ao38 t169.length co38, .slice Ao39 t172.length co39, .slice Ao40 t175.length co40] 42 (0, 0))) := ⟨bf1_ NB178_192 BK178⟩
 have n12_ : Aside0 ((((((((w43.setCell ⟨gb192, 0, none⟩ (.int .i64 t179)).setCell ⟨gb192, 1, none⟩ (.int .i64 t180)).setCell ⟨gb192, 2, none⟩ (.int .i64 t181)).setCell ⟨gb192, 3, none⟩ (.string t182)).setCell ⟨gb192, 4, none⟩ (.slice Ao48 t183.length co48)).setCell ⟨gb192, 5, none⟩ (.slice Ao49 t186.length co49)).setCell ⟨gb192, 6, none⟩ (.slice Ao50 t189.length co50)).heap[gb192]? = some (.cells #[.int .i64 t179, .int .i64 t180, .int .i64 t181, .string t182, .slice Ao48 t183.length co48, .slice Ao49 t186.length co49, .slice Ao50 t189.length co50] 42 (0, 0))) := ⟨by refine bp_ ?_; refine blk_put (cs := #[.int .i64 t179, .int .i64 t180, .int .i64 t181, .string t182, .slice Ao48 t183.length co48, .slice Ao49 t186.length co49, .slice none 0 0]) ?_ 6 _ rfl; refine bp_ ?_; refine blk_put (cs := #[.int .i64 t179, .int .i64 t180, .int .i64 t181, .string t182, .slice Ao48 t183.length co48, .slice none 0 0, .slice none 0 0]) ?_ 5 _ rfl; refine bp_ ?_; refine blk_put (cs := #[.int .i64 t179, .int .i64 t180, .int .i64 t181, .string t182, .slice none 0 0, .slice none 0 0, .slice none 0 0]) ?_ 4 _ rfl; refine bp_ ?_; refine blk_put (cs := #[.int .i64 t179, .int .i64 t180, .int .i64 t181, .string (⟨#[]⟩ : ByteArray), .slice none 0 0, .slice none 0 0, .slice none 0 0]) ?_ 3 _ rfl; refine bp_ ?_; refine blk_put (cs := #[.int .i64 t179, .int .i64 t180, .int .i64 0, .string (⟨#[]⟩ : ByteArray), .slice none 0 0, .slice none 0 0, .slice none 0 0]) ?_ 2 _ rfl; refine bp_ ?_; refine blk_put (cs := #[.int .i64 t179, .int .i64 0, .int .i64 0, .string (⟨#[]⟩ : ByteArray), .slice none 0 0, .slice none 0 0, .slice none 0 0]) ?_ 1 _ rfl; refine bp_ ?_; refine blk_put (cs := #[.int .i64 0, .int .i64 0, .int .i64 0, .string (⟨#[]⟩ : ByteArray), .slice none 0 0, .slice none 0 0, .slice none 0 0]) ?_ 0 _ rfl; exact bk_ BK192.out⟩
 have n13_ : Aside0 (Below w.heap.size w (((((((w43.setCell ⟨gb192, 0, none⟩ (.int .i64 t179)).setCell ⟨gb192, 1, none⟩ (.int .i64 t180)).setCell ⟨gb192, 2, none⟩ (.int .i64 t181)).setCell ⟨gb192, 3, none⟩ (.string t182)).setCell ⟨gb192, 4, none⟩ (.slice Ao48 t183.length co48)).setCell ⟨gb192, 5, none⟩ (.slice Ao49 t186.length co49)).setCell ⟨gb192, 6, none⟩ (.slice Ao50 t189.length co50))) := ⟨bh_⟩
 (try clear HO157)
 (try clear HO160)
 (try clear HO164)
 (try clear HO171)
 (try clear HO174)
 (try clear HO177)
 (try clear HO185)
 (try clear HO188)
 (try clear HO191)
 (try clear BK154)
 (try clear BK161)
 (try clear BK178)
 (try clear BK192)
 (try clear HB)
 generalize (((((((w43.setCell ⟨gb192, 0, none⟩ (.int .i64 t179)).setCell ⟨gb192, 1, none⟩ (.int .i64 t180)).setCell ⟨gb192, 2, none⟩ (.int .i64 t181)).setCell ⟨gb192, 3, none⟩ (.string t182)).setCell ⟨gb192, 4, none⟩ (.slice Ao48 t183.length co48)).setCell ⟨gb192, 5, none⟩ (.slice Ao49 t186.length co49)).setCell ⟨gb192, 6, none⟩ (.slice Ao50 t189.length co50)) = w51 at n0_ n1_ n2_ n3_ n4_ n5_ n6_ n7_ n8_ n9_ n10_ n11_ n12_ n13_ ⊢
 have HO157 := n0_
 have HO160 := n1_
 have HO164 := n2_
 have HO171 := n3_
 have HO174 := n4_
 have HO177 := n5_
 have HO185 := n6_
 have HO188 := n7_
 have HO191 := n8_
 have BK154 := n9_
 have BK161 := n10_
 have BK178 := n11_
 have BK192 := n12_
 have HB := n13_
 clear n0_ n1_ n2_ n3_ n4_ n5_ n6_ n7_ n8_ n9_ n10_ n11_ n12_ n13_
 replace HO157 := am_ (Kd.R_drew HO157.out)
 replace HO160 := am_ (Kd.R_drew HO160.out)
 replace HO164 := am_ (Kd.R_drew HO164.out)
 replace HO171 := am_ (Kd.R_drew HO171.out)
 replace HO174 := am_ (Kd.R_drew HO174.out)
 replace HO177 := am_ (Kd.R_drew HO177.out)
 replace HO185 := am_ (Kd.R_drew HO185.out)
 replace HO188 := am_ (Kd.R_drew HO188.out)
 replace HO191 := am_ (Kd.R_drew HO191.out)
 replace BK154 := am_ (blk_drew BK154.out)
 replace BK161 := am_ (blk_drew BK161.out)
 replace BK178 := am_ (blk_drew BK178.out)
 replace BK192 := am_ (blk_drew BK192.out)
 replace HB := am_ (below_drew1 HB.out)
 have p193 : 0 ≤ (1 : Int) := (by omega)
 have q193 : 1 < (y162.length : Int) := of_decide_eq_true as_
 obtain ⟨ad193, e193, hx193_0, hx193_1, hx193_2, hx193_3⟩ := at_T28 (Kd.R_reads' HO164.out).2.2 1 p193 q193
 cases e193
 (try simp only [show (1 : Int).toNat = 1 from rfl, Nat.reduceMul, Nat.reduceEqDiff, Go.Addr.add, ↓reduceIte] at hx193_0)
 (try simp only [show (1 : Int).toNat = 1 from rfl, Nat.reduceMul, Nat.reduceEqDiff, Go.Addr.add, ↓reduceIte] at hx193_1)
 (try simp only [show (1 : Int).toNat = 1 from rfl, Nat.reduceMul, Nat.reduceEqDiff, Go.Addr.add, ↓reduceIte] at hx193_2)
 (try simp only [show (1 : Int).toNat = 1 from rfl, Nat.reduceMul, Nat.reduceEqDiff, Go.Addr.add, ↓reduceIte] at hx193_3)
 have qi193 : (1 < y162.length) = True := eq_true (by omega)
 (try rw [show ((1 : Int)).toNat = 1 from rfl] at hx193_0)
 (try rw [show 1 * 4 = 4 from rfl] at hx193_0)
 (try rw [show ((1 : Int)).toNat = 1 from rfl] at hx193_1)
 (try rw [show 1 * 4 = 4 from rfl] at hx193_1)
 (try rw [show ((1 : Int)).toNat = 1 from rfl] at hx193_2)
 (try rw [show 1 * 4 = 4 from rfl] at hx193_2)
 (try rw [show ((1 : Int)).toNat = 1 from rfl] at hx193_3)
 (try rw [show 1 * 4 = 4 from rfl] at hx193_3)
 replace p193 := eq_true p193
 replace q193 := eq_true q193
 refine start_ (n := 51) (S := fun w' => w'.cell? ⟨gb178, 0, none⟩ = some (.int .i64 t165) ∧ w'.cell? ⟨gb178, 1, none⟩ = some (.int .i64 t166) ∧ w'.cell? ⟨gb178, 2, none⟩ = some (.int .i64 t167) ∧ w'.cell? ⟨gb178, 3, none⟩ = some (.string t168) ∧ w'.cell? ⟨gb178, 4, none⟩ = some (.slice Ao38 t169.length co38) ∧ w'.cell? ⟨gb178, 5, none⟩ = some (.slice Ao39 t172.length co39) ∧ w'.cell? ⟨gb178, 6, none⟩ = some (.slice Ao40 t175.length co40) ∧ w'.cell? ⟨gb161, 0, none⟩ = some (.int .i64 2) ∧ w'.cell? ⟨gb161, 1, none⟩ = some (.slice Ao25 y155.length co25) ∧ w'.cell? ⟨gb161, 2, none⟩ = some (.slice Ao24 y158.length co24) ∧ w'.cell? ⟨gb192, 0, none⟩ = some (.int .i64 t179) ∧ w'.cell? ⟨gb192, 1, none⟩ = some (.int .i64 t180) ∧ w'.cell? ⟨gb192, 2, none⟩ = some (.int .i64 t181) ∧ w'.cell? ⟨gb192, 3, none⟩ = some (.string t182) ∧ w'.cell? ⟨gb192, 4, none⟩ = some (.slice Ao48 t183.length co48) ∧ w'.cell? ⟨gb192, 5, none⟩ = some (.slice Ao49 t186.length co49) ∧ w'.cell? ⟨gb192, 6, none⟩ = some (.slice Ao50 t189.length co50) ∧ w'.cell? ⟨ad193.block, ad193.off + 4, none⟩ = some (.int .i64 ((rd_T28 y162 1).f0)) ∧ w'.cell? ⟨ad193.block, ad193.off + 4 + 1, none⟩ = some (.int .i64 ((rd_T28 y162 1).f1)) ∧ w'.cell? ⟨ad193.block, ad193.off + 4 + 2, none⟩ = some (.int .i64 ((rd_T28 y162 1).f2)) ∧ w'.cell? ⟨ad193.block, ad193.off + 4 + 3, none⟩ = some (.string ((rd_T28 y162 1).f3))) (ds := []) (bf_ 51 0) (by kernel_rfl) rfl rfl ⟨(blk_cell BK178.out 0).trans rfl, (blk_cell BK178.out 1).trans rfl, (blk_cell BK178.out 2).trans rfl, (blk_cell BK178.out 3).trans rfl, (blk_cell BK178.out 4).trans rfl, (blk_cell BK178.out 5).trans rfl, (blk_cell BK178.out 6).trans rfl, (blk_cell BK161.out 0).trans rfl, (blk_cell BK161.out 1).trans rfl, (blk_cell BK161.out 2).trans rfl, (blk_cell BK192.out 0).trans rfl, (blk_cell BK192.out 1).trans rfl, (blk_cell BK192.out 2).trans rfl, (blk_cell BK192.out 3).trans rfl, (blk_cell BK192.out 4).trans rfl, (blk_cell BK192.out 5).trans rfl, (blk_cell BK192.out 6).trans rfl, hx193_0, hx193_1, hx193_2, hx193_3⟩ (fun hHeld => ?_); refine with_tabW computuslaw21_awake.tab6 computuslaw21_awake.bits6 (fun HT_ HW_ => ?_)
 generalize w51.drew = w52 at HO157 HO160 HO164 HO171 HO174 HO177 HO185 HO188 HO191 BK154 BK161 BK178 BK192 HB hx193_0 hx193_1 hx193_2 hx193_3 hHeld ⊢
 refine pu_ 0 (some 26) (bf_ 51 1) HT_.out ?_
 refine pu_ 2 (some 28) (bf_ 51 5) HT_.out ?_
 refine pu_ 3 (some 29) (bf_ 51 13) HT_.out ?_
 refine ta_ 1 (some 27) (bf_ 51 15) HT_.out HW_.out hHeld ?_
 refine ta_ 4 (some 30) (bf_ 51 31) HT_.out HW_.out hHeld ?_
 refine pu_ 5 (some 31) (bf_ 51 63) HT_.out ?_
 refine pu_ 6 (some 32) (bf_ 51 127) HT_.out ?_
 refine pu_ 7 (some 33) (bf_ 51 255) HT_.out ?_
 refine ta_ 8 (some 34) (bf_ 51 511) HT_.out HW_.out hHeld ?_
 refine pu_ 9 (some 35) (bf_ 51 1023) HT_.out ?_
 refine pu_ 10 (some 36) (bf_ 51 2047) HT_.out ?_
 refine pu_ 11 (some 37) (bf_ 51 4095) HT_.out ?_
 refine pu_ 12 (some 38) (bf_ 51 8191) HT_.out ?_
 refine pu_ 13 (some 39) (bf_ 51 16383) HT_.out ?_
 refine ta_ 14 (some 40) (bf_ 51 32767) HT_.out HW_.out hHeld ?_
 refine pu_ 15 (some 41) (bf_ 51 65535) HT_.out ?_
 refine pu_ 16 (some 42) (bf_ 51 131071) HT_.out ?_
 refine pu_ 17 (some 43) (bf_ 51 262143) HT_.out ?_
 refine pu_ 18 (some 44) (bf_ 51 524287) HT_.out ?_
 refine pu_ 19 (some 45) (bf_ 51 1048575) HT_.out ?_
 refine ta_ 20 (some 46) (bf_ 51 2097151) HT_.out HW_.out hHeld ?_
 refine one_ (i := 21) (N := some 47) (bf_ 51 4194303) rfl rfl (one_of HT_.out (by kernel_rfl)) (by decide) (fun K hK => ?_)
 refine Kd.R_lit_step (Kd.int .i64) _ 3 ?hg (N := 47) ?hd (xs := ([1] : List Int)) (inner := [.int .i64 1]) (ok := fun _ => True) (okp := fun _ => True) ?hr ?hp (fun _ hk => hk) trivial (Below.refl _ _) (Nat.le_refl _) (by simp) ?_; (case hd => rfl); (case hg => rfl); (case hr => first | (go_simp; done) | (go_simp; rfl)); (case hp => exact (Reps.one (show Kd.M (Kd.int .i64) _ _ _ 1 [.int .i64 1] from rfl) (Reps.none _ _)))
 intro v195 w53 ho54 hb hg_ hnew_
 have HS17_ := (hb.cell (World.block_lt_of_cell? _ _ (hHeld.2.2.2.2.2.2.2.2.2.2.2.2.2.2.2.2.2.1))).trans (hHeld.2.2.2.2.2.2.2.2.2.2.2.2.2.2.2.2.2.1)
 have HS18_ := (hb.cell (World.block_lt_of_cell? _ _ (hHeld.2.2.2.2.2.2.2.2.2.2.2.2.2.2.2.2.2.2.1))).trans (hHeld.2.2.2.2.2.2.2.2.2.2.2.2.2.2.2.2.2.2.1)
 have HS19_ := (hb.cell (World.block_lt_of_cell? _ _ (hHeld.2.2.2.2.2.2.2.2.2.2.2.2.2.2.2.2.2.2.2.1))).trans (hHeld.2.2.2.2.2.2.2.2.2.2.2.2.2.2.2.2.2.2.2.1)
 have HS20_ := (hb.cell (World.block_lt_of_cell? _ _ (hHeld.2.2.2.2.2.2.2.2.2.2.2.2.2.2.2.2.2.2.2.2))).trans (hHeld.2.2.2.2.2.2.2.2.2.2.2.2.2.2.2.2.2.2.2.2)
 clear hg_ hnew_
 (first | rw [← Ny194.out] at ho54 | (simp only [Int.reduceToNat] at ho54; rw [← Ny194.out] at ho54))
 replace HO157 := rw_ HO157 hb
 replace HO160 := rw_ HO160 hb
 replace HO164 := rw_ HO164 hb
 have HO196 := am_ (Kd.R_lower (Kd.R_new' (Kd.R_new' (Kd.R_new' (Kd.R_new' (Kd.R_new' (Kd.R_new' ho54 (Kd.R_lt (rk_ HO171.out))) (Kd.R_lt (rk_ HO174.out))) (Kd.R_lt (rk_ HO177.out))) (Kd.R_lt (rk_ HO185.out))) (Kd.R_lt (rk_ HO188.out))) (Kd.R_lt (rk_ HO191.out))) bz_)
 replace HO171 := am_ (Kd.R_elder' (rk_ HO171.out) (Kd.R_base ho54) hb)
 replace HO174 := am_ (Kd.R_elder' (rk_ HO174.out) (Kd.R_base ho54) hb)
 replace HO177 := am_ (Kd.R_elder' (rk_ HO177.out) (Kd.R_base ho54) hb)
 replace HO185 := am_ (Kd.R_elder' (rk_ HO185.out) (Kd.R_base ho54) hb)
 replace HO188 := am_ (Kd.R_elder' (rk_ HO188.out) (Kd.R_base ho54) hb)
 replace HO191 := am_ (Kd.R_elder' (rk_ HO191.out) (Kd.R_base ho54) hb)
 replace BK154 := bw_ BK154 hb
 replace BK161 := bw_ BK161 hb
 replace BK178 := bw_ BK178 hb
 replace BK192 := bw_ BK192 hb
 replace HB := bt_ hb
 clear hb ho54
 obtain ⟨Ao55, co55, eo55⟩ := Kd.R_slice HO196.out
 (first | subst eo55 | (injection eo55 with f1_ f2_ f3_; have f4_ := f1_.symm; have f5_ := f3_.symm; clear f1_ f2_ f3_; subst f4_; subst f5_))
 refine hK.out _ _ (by first | exact ⟨(blk_cell BK178.out 0).trans rfl, (blk_cell BK178.out 1).trans rfl, (blk_cell BK178.out 2).trans rfl, (blk_cell BK178.out 3).trans rfl, (blk_cell BK178.out 4).trans rfl, (blk_cell BK178.out 5).trans rfl, (blk_cell BK178.out 6).trans rfl, (blk_cell BK161.out 0).trans rfl, (blk_cell BK161.out 1).trans rfl, (blk_cell BK161.out 2).trans rfl, (blk_cell BK192.out 0).trans rfl, (blk_cell BK192.out 1).trans rfl, (blk_cell BK192.out 2).trans rfl, (blk_cell BK192.out 3).trans rfl, (blk_cell BK192.out 4).trans rfl, (blk_cell BK192.out 5).trans rfl, (blk_cell BK192.out 6).trans rfl, HS17_, HS18_, HS19_, HS20_⟩ | exact hHeld) (fun hHeld => ?_)
 clear hK K
 refine norm_ (a' := ?_) ?_ ?_
 rotate_left
 ·show Act.put _ (some 47) _ = _
  simp only [Act.put, sA_, sZ_, sS_, i64_w, i32_w]
  rfl
 refine one_ (i := 22) (N := some 48) (bf_ 51 8388607) rfl rfl (one_of HT_.out (by kernel_rfl)) (by decide) (fun K hK => ?_)
 refine gs_ Try.func27 #[.slice Ao40 t175.length co40, .slice Ao55 y194.length co55] ?_
 with_reducible refine (computusref08_Numbers.calls k _ _ t175 _ _ y194 true _ ?side1 ?side2 ?side3 ?side4 A7.out).mono ?_
 (case side1 => exact ck_ (Kd.R_reads' HO177.out).2.2)
 (case side2 => exact (Kd.R_reads' HO177.out).2.1)
 (case side3 => exact ck_ (Kd.R_reads' HO196.out).2.2)
 (case side4 => exact (Kd.R_reads' HO196.out).2.1)
 rintro e w' ⟨rfl, ⟨nd, rfl⟩⟩
 refine ⟨_, rfl, ?_⟩
 refine hK.out _ _ (by first | exact ⟨(blk_cell BK178.out 0).trans rfl, (blk_cell BK178.out 1).trans rfl, (blk_cell BK178.out 2).trans rfl, (blk_cell BK178.out 3).trans rfl, (blk_cell BK178.out 4).trans rfl, (blk_cell BK178.out 5).trans rfl, (blk_cell BK178.out 6).trans rfl, (blk_cell BK161.out 0).trans rfl, (blk_cell BK161.out 1).trans rfl, (blk_cell BK161.out 2).trans rfl, (blk_cell BK192.out 0).trans rfl, (blk_cell BK192.out 1).trans rfl, (blk_cell BK192.out 2).trans rfl, (blk_cell BK192.out 3).trans rfl, (blk_cell BK192.out 4).trans rfl, (blk_cell BK192.out 5).trans rfl, (blk_cell BK192.out 6).trans rfl, hHeld.2.2.2.2.2.2.2.2.2.2.2.2.2.2.2.2.2.1, hHeld.2.2.2.2.2.2.2.2.2.2.2.2.2.2.2.2.2.2.1, hHeld.2.2.2.2.2.2.2.2.2.2.2.2.2.2.2.2.2.2.2.1, hHeld.2.2.2.2.2.2.2.2.2.2.2.2.2.2.2.2.2.2.2.2⟩ | exact hHeld) (fun hHeld => ?_)
 clear hK K
 refine norm_ (a' := ?_) ?_ ?_
 rotate_left
 ·show Act.put _ (some 48) _ = _
  simp only [Act.put, sA_, sZ_, sS_, i64_w, i32_w]
  rfl
 refine pu_ 23 (some 49) (bf_ 51 16777215) HT_.out ?_
 refine pu_ 24 (some 50) (bf_ 51 33554431) HT_.out ?_
 refine ta_ 25 (some 51) (bf_ 51 67108863) HT_.out HW_.out hHeld ?_
 refine ta_ 26 (some 52) (bf_ 51 134217727) HT_.out HW_.out hHeld ?_
 refine one_ (i := 27) (N := some 53) (bf_ 51 268435455) rfl rfl (one_of HT_.out (by kernel_rfl)) (by decide) (fun K hK => ?_)
 refine gs_ Try.func21 #[.agg #[.int .i64 2, .slice Ao25 y155.length co25, .slice Ao24 y158.length co24], .agg #[.int .i64 t165, .int .i64 t166, .int .i64 t167, .string t168, .slice Ao38 t169.length co38, .slice Ao39 t172.length co39, .slice Ao40 t175.length co40]] ?_
 with_reducible refine (occurrence_Free.calls 2 _ _ y155 _ _ y158 t165 t166 t167 t168 _ _ t169 _ _ t172 _ _ t175 false _ ?side1 ?side2 ?side3 ?side4 ?side5 ?side6 ?side7 ?side8 ?side9 ?side10 A9.out).mono ?_
 (case side1 => exact ck_ (Kd.R_reads' HO157.out).2.2)
 (case side2 => exact (Kd.R_reads' HO157.out).2.1)
 (case side3 => exact ck_ (Kd.R_reads' HO160.out).2.2)
 (case side4 => exact (Kd.R_reads' HO160.out).2.1)
 (case side5 => exact ck_ (Kd.R_reads' HO171.out).2.2)
 (case side6 => exact (Kd.R_reads' HO171.out).2.1)
 (case side7 => exact ck_ (Kd.R_reads' HO174.out).2.2)
 (case side8 => exact (Kd.R_reads' HO174.out).2.1)
 (case side9 => exact ck_ (Kd.R_reads' HO177.out).2.2)
 (case side10 => exact (Kd.R_reads' HO177.out).2.1)
 rintro e w56 ⟨rfl, hb⟩
 have HS17_ := (hb.cell (World.block_lt_of_cell? _ _ (hHeld.2.2.2.2.2.2.2.2.2.2.2.2.2.2.2.2.2.1))).trans (hHeld.2.2.2.2.2.2.2.2.2.2.2.2.2.2.2.2.2.1)
 have HS18_ := (hb.cell (World.block_lt_of_cell? _ _ (hHeld.2.2.2.2.2.2.2.2.2.2.2.2.2.2.2.2.2.2.1))).trans (hHeld.2.2.2.2.2.2.2.2.2.2.2.2.2.2.2.2.2.2.1)
 have HS19_ := (hb.cell (World.block_lt_of_cell? _ _ (hHeld.2.2.2.2.2.2.2.2.2.2.2.2.2.2.2.2.2.2.2.1))).trans (hHeld.2.2.2.2.2.2.2.2.2.2.2.2.2.2.2.2.2.2.2.1)
 have HS20_ := (hb.cell (World.block_lt_of_cell? _ _ (hHeld.2.2.2.2.2.2.2.2.2.2.2.2.2.2.2.2.2.2.2.2))).trans (hHeld.2.2.2.2.2.2.2.2.2.2.2.2.2.2.2.2.2.2.2.2)
 refine ⟨_, rfl, ?_⟩
 replace HO157 := rw_ HO157 hb
 replace HO160 := rw_ HO160 hb
 replace HO164 := rw_ HO164 hb
 replace HO171 := rw_ HO171 hb
 replace HO174 := rw_ HO174 hb
 replace HO177 := rw_ HO177 hb
 replace HO185 := rw_ HO185 hb
 replace HO188 := rw_ HO188 hb
 replace HO191 := rw_ HO191 hb
 replace HO196 := rw_ HO196 hb
 replace BK154 := bw_ BK154 hb
 replace BK161 := bw_ BK161 hb
 replace BK178 := bw_ BK178 hb
 replace BK192 := bw_ BK192 hb
 replace HB := bt_ hb
 (try clear hb)
 (try clear hb2)
 (try clear hk)
 (try clear hi)
 have q57 : (1 : Int) ≤ ((y162.length : Int) : Int) := of_decide_eq_true as_
 obtain ⟨i057, hi057, _, hsz57, _⟩ := info_parts info28
 have hroom57 : y162.length ≤ co32 := (Kd.R_reads' HO164.out).2.1
 have hC57 : Kd.C k28 _ (some ad193) y162.length y162 := (Kd.R_reads' HO164.out).2.2
 have hcut57 := cut_to (P := Try.prog) 24 28 .i64 Try.underlying24 hi057 (some ad193) y162.length co32 1 (by omega) q57 hroom57
 have hr57 := Kd.C_take (m := 1) hC57 (by omega)
 have hy57 : y199.length = (1 : Int).toNat := (by rw [Ny199.out, List.length_take]; omega)
 rw [← Ny199.out] at hr57
 rw [← hy57] at hcut57
 have HR202 := am_ hr57
 have HC202 := am_ (show y199.length ≤ co32 from by omega)
 clear hr57 hC57 hroom57 hi057 hsz57
 have KY57 := am_ hy57
 clear hy57
 have KL57 := am_ (show 1 ≤ y162.length from by omega)
 replace q57 := eq_true q57
 refine hK.out _ _ (by first | exact ⟨(blk_cell BK178.out 0).trans rfl, (blk_cell BK178.out 1).trans rfl, (blk_cell BK178.out 2).trans rfl, (blk_cell BK178.out 3).trans rfl, (blk_cell BK178.out 4).trans rfl, (blk_cell BK178.out 5).trans rfl, (blk_cell BK178.out 6).trans rfl, (blk_cell BK161.out 0).trans rfl, (blk_cell BK161.out 1).trans rfl, (blk_cell BK161.out 2).trans rfl, (blk_cell BK192.out 0).trans rfl, (blk_cell BK192.out 1).trans rfl, (blk_cell BK192.out 2).trans rfl, (blk_cell BK192.out 3).trans rfl, (blk_cell BK192.out 4).trans rfl, (blk_cell BK192.out 5).trans rfl, (blk_cell BK192.out 6).trans rfl, HS17_, HS18_, HS19_, HS20_⟩ | exact hHeld) (fun hHeld => ?_)
 clear hK K
 refine norm_ (a' := ?_) ?_ ?_
 rotate_left
 ·show Act.put _ (some 53) _ = _
  simp only [Act.put, sA_, sZ_, sS_, i64_w, i32_w]
  rfl
 refine pu_ 28 (some 54) (bf_ 51 536870911) HT_.out ?_
 refine pu_ 29 (some 55) (bf_ 51 1073741823) HT_.out ?_
 refine pu_ 30 (some 56) (bf_ 51 2147483647) HT_.out ?_
 refine pu_ 33 (some 59) (bf_ 51 10737418239) HT_.out ?_
 refine pu_ 34 (some 60) (bf_ 51 27917287423) HT_.out ?_
 refine ta_ 31 (some 57) (bf_ 51 30064771071) HT_.out HW_.out hHeld ?_
 refine ta_ 32 (some 58) (bf_ 51 34359738367) HT_.out HW_.out hHeld ?_
 refine one_ (i := 35) (N := some 61) (bf_ 51 68719476735) rfl rfl (one_of HT_.out (by kernel_rfl)) (by decide) (fun K hK => ?_)
 refine gs_ Try.func17 #[.agg #[.int .i64 2, .slice Ao25 y155.length co25, .slice Ao24 y158.length co24], .slice (some ad193) y199.length co32] ?_
 with_reducible refine (occurrence_Resolve.calls 2 _ _ y155 _ _ y158 _ _ y199 t203 t204 t205 t206 t207 t210 t213 _ ?side1 ?side2 ?side3 ?side4 ?side5 ?side6 A12.out).mono ?_
 (case side1 => exact ck_ (Kd.R_reads' HO157.out).2.2)
 (case side2 => exact (Kd.R_reads' HO157.out).2.1)
 (case side3 => exact ck_ (Kd.R_reads' HO160.out).2.2)
 (case side4 => exact (Kd.R_reads' HO160.out).2.1)
 (case side5 => repeat (first | exact (by repeat (first | (with_reducible exact HR202.out) | (with_reducible refine Kd.C_alloc ?_ _) | (with_reducible refine Kd.C_drewN ?_ _) | (with_reducible refine Kd.C_drew ?_) | exact HR202.out)) | (with_reducible refine Kd.C_alloc ?_ _) | (with_reducible refine Kd.C_drewN ?_ _) | (with_reducible refine Kd.C_drew ?_)))
 (case side6 => exact HC202.out)
 rintro e w58 ⟨v208, v211, v214, rfl, ho0, ho1, ho2, hb⟩
 have HS17_ := (hb.cell (World.block_lt_of_cell? _ _ (hHeld.2.2.2.2.2.2.2.2.2.2.2.2.2.2.2.2.2.1))).trans (hHeld.2.2.2.2.2.2.2.2.2.2.2.2.2.2.2.2.2.1)
 have HS18_ := (hb.cell (World.block_lt_of_cell? _ _ (hHeld.2.2.2.2.2.2.2.2.2.2.2.2.2.2.2.2.2.2.1))).trans (hHeld.2.2.2.2.2.2.2.2.2.2.2.2.2.2.2.2.2.2.1)
 have HS19_ := (hb.cell (World.block_lt_of_cell? _ _ (hHeld.2.2.2.2.2.2.2.2.2.2.2.2.2.2.2.2.2.2.2.1))).trans (hHeld.2.2.2.2.2.2.2.2.2.2.2.2.2.2.2.2.2.2.2.1)
 have HS20_ := (hb.cell (World.block_lt_of_cell? _ _ (hHeld.2.2.2.2.2.2.2.2.2.2.2.2.2.2.2.2.2.2.2.2))).trans (hHeld.2.2.2.2.2.2.2.2.2.2.2.2.2.2.2.2.2.2.2.2)
 refine ⟨_, rfl, ?_⟩
 replace HO157 := rw_ HO157 hb
 replace HO160 := rw_ HO160 hb
 replace HO164 := rw_ HO164 hb
 have HO209 := am_ (Kd.R_lower (Kd.R_new' (Kd.R_new' (Kd.R_new' (Kd.R_new' (Kd.R_new' (Kd.R_new' (Kd.R_new' ho0 (Kd.R_lt (rk_ HO171.out))) (Kd.R_lt (rk_ HO174.out))) (Kd.R_lt (rk_ HO177.out))) (Kd.R_lt (rk_ HO185.out))) (Kd.R_lt (rk_ HO188.out))) (Kd.R_lt (rk_ HO191.out))) (Kd.R_lt (rk_ HO196.out))) bz_)
 have HO212 := am_ (Kd.R_lower (Kd.R_new' (Kd.R_new' (Kd.R_new' (Kd.R_new' (Kd.R_new' (Kd.R_new' (Kd.R_new' ho1 (Kd.R_lt (rk_ HO171.out))) (Kd.R_lt (rk_ HO174.out))) (Kd.R_lt (rk_ HO177.out))) (Kd.R_lt (rk_ HO185.out))) (Kd.R_lt (rk_ HO188.out))) (Kd.R_lt (rk_ HO191.out))) (Kd.R_lt (rk_ HO196.out))) bz_)
 have HO215 := am_ (Kd.R_lower (Kd.R_new' (Kd.R_new' (Kd.R_new' (Kd.R_new' (Kd.R_new' (Kd.R_new' (Kd.R_new' ho2 (Kd.R_lt (rk_ HO171.out))) (Kd.R_lt (rk_ HO174.out))) (Kd.R_lt (rk_ HO177.out))) (Kd.R_lt (rk_ HO185.out))) (Kd.R_lt (rk_ HO188.out))) (Kd.R_lt (rk_ HO191.out))) (Kd.R_lt (rk_ HO196.out))) bz_)
 replace HO171 := am_ (Kd.R_mono (Kd.R_told (Kd.R_told (Kd.R_told (Kd.R_old (rk_ HO171.out) hb) (Kd.R_base ho0)) (Kd.R_base ho1)) (Kd.R_base ho2)) (fun _ h_ => h_.1))
 replace HO174 := am_ (Kd.R_mono (Kd.R_told (Kd.R_told (Kd.R_told (Kd.R_old (rk_ HO174.out) hb) (Kd.R_base ho0)) (Kd.R_base ho1)) (Kd.R_base ho2)) (fun _ h_ => h_.1))
 replace HO177 := am_ (Kd.R_mono (Kd.R_told (Kd.R_told (Kd.R_told (Kd.R_old (rk_ HO177.out) hb) (Kd.R_base ho0)) (Kd.R_base ho1)) (Kd.R_base ho2)) (fun _ h_ => h_.1))
 replace HO185 := am_ (Kd.R_mono (Kd.R_told (Kd.R_told (Kd.R_told (Kd.R_old (rk_ HO185.out) hb) (Kd.R_base ho0)) (Kd.R_base ho1)) (Kd.R_base ho2)) (fun _ h_ => h_.1))
 replace HO188 := am_ (Kd.R_mono (Kd.R_told (Kd.R_told (Kd.R_told (Kd.R_old (rk_ HO188.out) hb) (Kd.R_base ho0)) (Kd.R_base ho1)) (Kd.R_base ho2)) (fun _ h_ => h_.1))
 replace HO191 := am_ (Kd.R_mono (Kd.R_told (Kd.R_told (Kd.R_told (Kd.R_old (rk_ HO191.out) hb) (Kd.R_base ho0)) (Kd.R_base ho1)) (Kd.R_base ho2)) (fun _ h_ => h_.1))
 replace HO196 := am_ (Kd.R_mono (Kd.R_told (Kd.R_told (Kd.R_told (Kd.R_old (rk_ HO196.out) hb) (Kd.R_base ho0)) (Kd.R_base ho1)) (Kd.R_base ho2)) (fun _ h_ => h_.1))
 replace BK154 := bw_ BK154 hb
 replace BK161 := bw_ BK161 hb
 replace BK178 := bw_ BK178 hb
 replace BK192 := bw_ BK192 hb
 replace HR202 := am_ (Kd.C_below (by repeat (first | (with_reducible exact HR202.out) | (with_reducible refine Kd.C_alloc ?_ _) | (with_reducible refine Kd.C_drewN ?_ _) | (with_reducible refine Kd.C_drew ?_) | exact HR202.out)) hb)
 replace HB := bt_ hb
 (try clear hb)
 (try clear hb2)
 (try clear hk)
 (try clear hi)
 (try clear ho0)
 (try clear ho1)
 (try clear ho2)
 obtain ⟨Ao59, co59, eo59⟩ := Kd.R_slice HO209.out
 (first | subst eo59 | (injection eo59 with f1_ f2_ f3_; have f4_ := f1_.symm; have f5_ := f3_.symm; clear f1_ f2_ f3_; subst f4_; subst f5_))
 obtain ⟨Ao60, co60, eo60⟩ := Kd.R_slice HO212.out
 (first | subst eo60 | (injection eo60 with f1_ f2_ f3_; have f4_ := f1_.symm; have f5_ := f3_.symm; clear f1_ f2_ f3_; subst f4_; subst f5_))
 obtain ⟨Ao61, co61, eo61⟩ := Kd.R_slice HO215.out
 (first | subst eo61 | (injection eo61 with f1_ f2_ f3_; have f4_ := f1_.symm; have f5_ := f3_.symm; clear f1_ f2_ f3_; subst f4_; subst f5_))
 refine hK.out _ _ (by first | exact ⟨(blk_cell BK178.out 0).trans rfl, (blk_cell BK178.out 1).trans rfl, (blk_cell BK178.out 2).trans rfl, (blk_cell BK178.out 3).trans rfl, (blk_cell BK178.out 4).trans rfl, (blk_cell BK178.out 5).trans rfl, (blk_cell BK178.out 6).trans rfl, (blk_cell BK161.out 0).trans rfl, (blk_cell BK161.out 1).trans rfl, (blk_cell BK161.out 2).trans rfl, (blk_cell BK192.out 0).trans rfl, (blk_cell BK192.out 1).trans rfl, (blk_cell BK192.out 2).trans rfl, (blk_cell BK192.out 3).trans rfl, (blk_cell BK192.out 4).trans rfl, (blk_cell BK192.out 5).trans rfl, (blk_cell BK192.out 6).trans rfl, HS17_, HS18_, HS19_, HS20_⟩ | exact hHeld) (fun hHeld => ?_)
 clear hK K
 refine norm_ (a' := ?_) ?_ ?_
 rotate_left
 ·show Act.put _ (some 61) _ = _
  simp only [Act.put, sA_, sZ_, sS_, i64_w, i32_w]
  rfl
 refine one_ (i := 36) (N := some 62) (bf_ 51 137438953471) rfl rfl (one_of HT_.out (by kernel_rfl)) (by decide) (fun K hK => ?_)
 refine gs_ Try.func21 #[.agg #[.int .i64 2, .slice Ao25 y155.length co25, .slice Ao24 y158.length co24], .agg #[.int .i64 t203, .int .i64 t204, .int .i64 t205, .string t206, .slice Ao59 t207.length co59, .slice Ao60 t210.length co60, .slice Ao61 t213.length co61]] ?_
 with_reducible refine (occurrence_Free.calls 2 _ _ y155 _ _ y158 t203 t204 t205 t206 _ _ t207 _ _ t210 _ _ t213 true _ ?side1 ?side2 ?side3 ?side4 ?side5 ?side6 ?side7 ?side8 ?side9 ?side10 A13.out).mono ?_
 (case side1 => exact ck_ (Kd.R_reads' HO157.out).2.2)
 (case side2 => exact (Kd.R_reads' HO157.out).2.1)
 (case side3 => exact ck_ (Kd.R_reads' HO160.out).2.2)
 (case side4 => exact (Kd.R_reads' HO160.out).2.1)
 (case side5 => exact ck_ (Kd.R_reads' HO209.out).2.2)
 (case side6 => exact (Kd.R_reads' HO209.out).2.1)
 (case side7 => exact ck_ (Kd.R_reads' HO212.out).2.2)
 (case side8 => exact (Kd.R_reads' HO212.out).2.1)
 (case side9 => exact ck_ (Kd.R_reads' HO215.out).2.2)
 (case side10 => exact (Kd.R_reads' HO215.out).2.1)
 rintro e w62 ⟨rfl, hb⟩
 have HS17_ := (hb.cell (World.block_lt_of_cell? _ _ (hHeld.2.2.2.2.2.2.2.2.2.2.2.2.2.2.2.2.2.1))).trans (hHeld.2.2.2.2.2.2.2.2.2.2.2.2.2.2.2.2.2.1)
 have HS18_ := (hb.cell (World.block_lt_of_cell? _ _ (hHeld.2.2.2.2.2.2.2.2.2.2.2.2.2.2.2.2.2.2.1))).trans (hHeld.2.2.2.2.2.2.2.2.2.2.2.2.2.2.2.2.2.2.1)
 have HS19_ := (hb.cell (World.block_lt_of_cell? _ _ (hHeld.2.2.2.2.2.2.2.2.2.2.2.2.2.2.2.2.2.2.2.1))).trans (hHeld.2.2.2.2.2.2.2.2.2.2.2.2.2.2.2.2.2.2.2.1)
 have HS20_ := (hb.cell (World.block_lt_of_cell? _ _ (hHeld.2.2.2.2.2.2.2.2.2.2.2.2.2.2.2.2.2.2.2.2))).trans (hHeld.2.2.2.2.2.2.2.2.2.2.2.2.2.2.2.2.2.2.2.2)
 refine ⟨_, rfl, ?_⟩
 replace HO157 := rw_ HO157 hb
 replace HO160 := rw_ HO160 hb
 replace HO164 := rw_ HO164 hb
 replace HO171 := rw_ HO171 hb
 replace HO174 := rw_ HO174 hb
 replace HO177 := rw_ HO177 hb
 replace HO185 := rw_ HO185 hb
 replace HO188 := rw_ HO188 hb
 replace HO191 := rw_ HO191 hb
 replace HO196 := rw_ HO196 hb
 replace HO209 := rw_ HO209 hb
 replace HO212 := rw_ HO212 hb
 replace HO215 := rw_ HO215 hb
 replace BK154 := bw_ BK154 hb
 replace BK161 := bw_ BK161 hb
 replace BK178 := bw_ BK178 hb
 replace BK192 := bw_ BK192 hb
 replace HR202 := am_ (Kd.C_below (by repeat (first | (with_reducible exact HR202.out) | (with_reducible refine Kd.C_alloc ?_ _) | (with_reducible refine Kd.C_drewN ?_ _) | (with_reducible refine Kd.C_drew ?_) | exact HR202.out)) hb)
 replace HB := bt_ hb
 (try clear hb)
 (try clear hb2)
 (try clear hk)
 (try clear hi)
 refine hK.out _ _ (by first | exact ⟨(blk_cell BK178.out 0).trans rfl, (blk_cell BK178.out 1).trans rfl, (blk_cell BK178.out 2).trans rfl, (blk_cell BK178.out 3).trans rfl, (blk_cell BK178.out 4).trans rfl, (blk_cell BK178.out 5).trans rfl, (blk_cell BK178.out 6).trans rfl, (blk_cell BK161.out 0).trans rfl, (blk_cell BK161.out 1).trans rfl, (blk_cell BK161.out 2).trans rfl, (blk_cell BK192.out 0).trans rfl, (blk_cell BK192.out 1).trans rfl, (blk_cell BK192.out 2).trans rfl, (blk_cell BK192.out 3).trans rfl, (blk_cell BK192.out 4).trans rfl, (blk_cell BK192.out 5).trans rfl, (blk_cell BK192.out 6).trans rfl, HS17_, HS18_, HS19_, HS20_⟩ | exact hHeld) (fun hHeld => ?_)
 clear hK K
 refine norm_ (a' := ?_) ?_ ?_
 rotate_left
 ·show Act.put _ (some 62) _ = _
  simp only [Act.put, sA_, sZ_, sS_, i64_w, i32_w]
  rfl
 refine pu_ 37 (some 63) (bf_ 51 274877906943) HT_.out ?_
 refine pu_ 38 (some 64) (bf_ 51 549755813887) HT_.out ?_
 refine pu_ 39 (some 65) (bf_ 51 1099511627775) HT_.out ?_
 refine pu_ 41 (some 67) (bf_ 51 3298534883327) HT_.out ?_
 refine ta_ 40 (some 66) (bf_ 51 4398046511103) HT_.out HW_.out hHeld ?_
 refine pu_ 42 (some 68) (bf_ 51 8796093022207) HT_.out ?_
 refine pu_ 43 (some 69) (bf_ 51 17592186044415) HT_.out ?_
 refine pu_ 44 (some 70) (bf_ 51 35184372088831) HT_.out ?_
 refine pu_ 45 (some 71) (bf_ 51 70368744177663) HT_.out ?_
 refine ta_ 46 (some 72) (bf_ 51 140737488355327) HT_.out HW_.out hHeld ?_
 refine one_ (i := 47) (N := some 73) (bf_ 51 281474976710655) rfl rfl (one_of HT_.out (by kernel_rfl)) (by decide) (fun K hK => ?_)
 refine Kd.R_lit_step (Kd.int .i64) _ 3 ?hg (N := 73) ?hd (xs := ([0] : List Int)) (inner := [.int .i64 0]) (ok := fun _ => True) (okp := fun _ => True) ?hr ?hp (fun _ hk => hk) trivial (Below.refl _ _) (Nat.le_refl _) (by simp) ?_; (case hd => rfl); (case hg => rfl); (case hr => first | (go_simp; done) | (go_simp; rfl)); (case hp => exact (Reps.one (show Kd.M (Kd.int .i64) _ _ _ 0 [.int .i64 0] from rfl) (Reps.none _ _)))
 intro v218 w63 ho64 hb hg_ hnew_
 have HS17_ := (hb.cell (World.block_lt_of_cell? _ _ (hHeld.2.2.2.2.2.2.2.2.2.2.2.2.2.2.2.2.2.1))).trans (hHeld.2.2.2.2.2.2.2.2.2.2.2.2.2.2.2.2.2.1)
 have HS18_ := (hb.cell (World.block_lt_of_cell? _ _ (hHeld.2.2.2.2.2.2.2.2.2.2.2.2.2.2.2.2.2.2.1))).trans (hHeld.2.2.2.2.2.2.2.2.2.2.2.2.2.2.2.2.2.2.1)
 have HS19_ := (hb.cell (World.block_lt_of_cell? _ _ (hHeld.2.2.2.2.2.2.2.2.2.2.2.2.2.2.2.2.2.2.2.1))).trans (hHeld.2.2.2.2.2.2.2.2.2.2.2.2.2.2.2.2.2.2.2.1)
 have HS20_ := (hb.cell (World.block_lt_of_cell? _ _ (hHeld.2.2.2.2.2.2.2.2.2.2.2.2.2.2.2.2.2.2.2.2))).trans (hHeld.2.2.2.2.2.2.2.2.2.2.2.2.2.2.2.2.2.2.2.2)
 clear hg_ hnew_
 (first | rw [← Ny217.out] at ho64 | (simp only [Int.reduceToNat] at ho64; rw [← Ny217.out] at ho64))
 replace HO157 := rw_ HO157 hb
 replace HO160 := rw_ HO160 hb
 replace HO164 := rw_ HO164 hb
 have HO219 := am_ (Kd.R_lower (Kd.R_new' (Kd.R_new' (Kd.R_new' (Kd.R_new' (Kd.R_new' (Kd.R_new' (Kd.R_new' (Kd.R_new' (Kd.R_new' (Kd.R_new' ho64 (Kd.R_lt (rk_ HO171.out))) (Kd.R_lt (rk_ HO174.out))) (Kd.R_lt (rk_ HO177.out))) (Kd.R_lt (rk_ HO185.out))) (Kd.R_lt (rk_ HO188.out))) (Kd.R_lt (rk_ HO191.out))) (Kd.R_lt (rk_ HO196.out))) (Kd.R_lt (rk_ HO209.out))) (Kd.R_lt (rk_ HO212.out))) (Kd.R_lt (rk_ HO215.out))) bz_)
 replace HO171 := am_ (Kd.R_elder' (rk_ HO171.out) (Kd.R_base ho64) hb)
 replace HO174 := am_ (Kd.R_elder' (rk_ HO174.out) (Kd.R_base ho64) hb)
 replace HO177 := am_ (Kd.R_elder' (rk_ HO177.out) (Kd.R_base ho64) hb)
 replace HO185 := am_ (Kd.R_elder' (rk_ HO185.out) (Kd.R_base ho64) hb)
 replace HO188 := am_ (Kd.R_elder' (rk_ HO188.out) (Kd.R_base ho64) hb)
 replace HO191 := am_ (Kd.R_elder' (rk_ HO191.out) (Kd.R_base ho64) hb)
 replace HO196 := am_ (Kd.R_elder' (rk_ HO196.out) (Kd.R_base ho64) hb)
 replace HO209 := am_ (Kd.R_elder' (rk_ HO209.out) (Kd.R_base ho64) hb)
 replace HO212 := am_ (Kd.R_elder' (rk_ HO212.out) (Kd.R_base ho64) hb)
 replace HO215 := am_ (Kd.R_elder' (rk_ HO215.out) (Kd.R_base ho64) hb)
 replace BK154 := bw_ BK154 hb
 replace BK161 := bw_ BK161 hb
 replace BK178 := bw_ BK178 hb
 replace BK192 := bw_ BK192 hb
 replace HR202 := am_ (Kd.C_below (by repeat (first | (with_reducible exact HR202.out) | (with_reducible refine Kd.C_alloc ?_ _) | (with_reducible refine Kd.C_drewN ?_ _) | (with_reducible refine Kd.C_drew ?_) | exact HR202.out)) hb)
 replace HB := bt_ hb
 clear hb ho64
 obtain ⟨Ao65, co65, eo65⟩ := Kd.R_slice HO219.out
 (first | subst eo65 | (injection eo65 with f1_ f2_ f3_; have f4_ := f1_.symm; have f5_ := f3_.symm; clear f1_ f2_ f3_; subst f4_; subst f5_))
 refine hK.out _ _ (by first | exact ⟨(blk_cell BK178.out 0).trans rfl, (blk_cell BK178.out 1).trans rfl, (blk_cell BK178.out 2).trans rfl, (blk_cell BK178.out 3).trans rfl, (blk_cell BK178.out 4).trans rfl, (blk_cell BK178.out 5).trans rfl, (blk_cell BK178.out 6).trans rfl, (blk_cell BK161.out 0).trans rfl, (blk_cell BK161.out 1).trans rfl, (blk_cell BK161.out 2).trans rfl, (blk_cell BK192.out 0).trans rfl, (blk_cell BK192.out 1).trans rfl, (blk_cell BK192.out 2).trans rfl, (blk_cell BK192.out 3).trans rfl, (blk_cell BK192.out 4).trans rfl, (blk_cell BK192.out 5).trans rfl, (blk_cell BK192.out 6).trans rfl, HS17_, HS18_, HS19_, HS20_⟩ | exact hHeld) (fun hHeld => ?_)
 clear hK K
 refine norm_ (a' := ?_) ?_ ?_
 rotate_left
 ·show Act.put _ (some 73) _ = _
  simp only [Act.put, sA_, sZ_, sS_, i64_w, i32_w]
  rfl
 refine one_ (i := 48) (N := some 74) (bf_ 51 562949953421311) rfl rfl (one_of HT_.out (by kernel_rfl)) (by decide) (fun K hK => ?_)
 refine gs_ Try.func27 #[.slice Ao49 t186.length co49, .slice Ao65 y217.length co65] ?_
 with_reducible refine (computusref08_Numbers.calls k _ _ t186 _ _ y217 t220 _ ?side1 ?side2 ?side3 ?side4 A16.out).mono ?_
 (case side1 => exact ck_ (Kd.R_reads' HO188.out).2.2)
 (case side2 => exact (Kd.R_reads' HO188.out).2.1)
 (case side3 => exact ck_ (Kd.R_reads' HO219.out).2.2)
 (case side4 => exact (Kd.R_reads' HO219.out).2.1)
 rintro e w' ⟨rfl, ⟨nd, rfl⟩⟩
 refine ⟨_, rfl, ?_⟩
 refine hK.out _ _ (by first | exact ⟨(blk_cell BK178.out 0).trans rfl, (blk_cell BK178.out 1).trans rfl, (blk_cell BK178.out 2).trans rfl, (blk_cell BK178.out 3).trans rfl, (blk_cell BK178.out 4).trans rfl, (blk_cell BK178.out 5).trans rfl, (blk_cell BK178.out 6).trans rfl, (blk_cell BK161.out 0).trans rfl, (blk_cell BK161.out 1).trans rfl, (blk_cell BK161.out 2).trans rfl, (blk_cell BK192.out 0).trans rfl, (blk_cell BK192.out 1).trans rfl, (blk_cell BK192.out 2).trans rfl, (blk_cell BK192.out 3).trans rfl, (blk_cell BK192.out 4).trans rfl, (blk_cell BK192.out 5).trans rfl, (blk_cell BK192.out 6).trans rfl, hHeld.2.2.2.2.2.2.2.2.2.2.2.2.2.2.2.2.2.1, hHeld.2.2.2.2.2.2.2.2.2.2.2.2.2.2.2.2.2.2.1, hHeld.2.2.2.2.2.2.2.2.2.2.2.2.2.2.2.2.2.2.2.1, hHeld.2.2.2.2.2.2.2.2.2.2.2.2.2.2.2.2.2.2.2.2⟩ | exact hHeld) (fun hHeld => ?_)
 clear hK K
 refine norm_ (a' := ?_) ?_ ?_
 rotate_left
 ·show Act.put _ (some 74) _ = _
  simp only [Act.put, sA_, sZ_, sS_, i64_w, i32_w]
  rfl
 refine pu_ 49 (some 75) (bf_ 51 1125899906842623) HT_.out ?_
 refine pu_ 50 (some 0) (bf_ 51 2251799813685247) HT_.out ?_
 refine done_ (done_of HT_.out (by kernel_rfl)) ?_
 try go_wp2
 go_ret
 exact rt_
end
def computusref17_Few.f (a0_0 : Int) (l0_1 : List (S66)) (l0_2 : List (S68)) : Option (Bool) := if (l0_1.length : Int) ≤ 8 then (some (decide ((l0_2.length : Int) ≤ 30))) else (some false)
theorem computusref17_Few.calls (a0_0 : Int) (A0_1 : Option Addr) (c0_1 : Nat) (l0_1 : List (S66)) (A0_2 : Option Addr) (c0_2 : Nat) (l0_2 : List (S68)) (r : Bool) (w : World) (hr0_1 : Kd.C k66 w A0_1 l0_1.length l0_1) (hc0_1 : l0_1.length ≤ c0_1) (hr0_2 : Kd.C k68 w A0_2 l0_2.length l0_2) (hc0_2 : l0_2.length ≤ c0_2) (h : computusref17_Few.f a0_0 l0_1 l0_2 = some r) :
  Calls Try.prog 31 #[.agg #[.int .i64 a0_0, .slice A0_1 l0_1.length c0_1, .slice A0_2 l0_2.length c0_2]] w fun e w' => e = .returned (.bool r) ∧ Below w.heap.size w w' := by
 have hu36 := Try.underlying36
 have HR0_1 := am_ hr0_1
 have HC0_1 := am_ hc0_1
 clear hr0_1 hc0_1
 have HR0_2 := am_ hr0_2
 have HC0_2 := am_ hc0_2
 clear hr0_2 hc0_2
 have HB := am_ (Below.refl w.heap.size w)
 have H := h
 clear h
 unfold computusref17_Few.f at H
 by_cases c2 : (l0_1.length : Int) ≤ 8
 ·rw [if_pos c2] at H
  have c2b0 : decide ((l0_1.length : Int) ≤ 8) = true := decide_eq_true c2
  have c2b1 : decide (l0_1.length ≤ 8) = true := decide_eq_true (by omega)
  clear c2
  obtain rfl := Option.some.inj H
  go_enter Try.func31, Try.ntmps31
  go_wp2_with (first | ((with_reducible refine gate_dst (N := 1) rfl ?_); (try (refine gate_guard (by rfl) ?_; dsimp only)); refine bx_ (w := w) (N := 1) (cs := #[.int .i64 a0_0, .slice A0_1 l0_1.length c0_1, .slice A0_2 l0_2.length c0_2]) (t := 36) ?_; intro gb221 w3 BK221 n0_ GW221 GE221; clear HB; have HB := n0_; clear n0_; obtain ⟨hcz4_0, hcz4_1, hcz4_2⟩ := cz3_ BK221.out; obtain ⟨hfz4_0, hfz4_1, hfz4_2⟩ := fz3_ BK221.out))
  go_ret
  exact rt_
 rw [if_neg c2] at H
 have c2b0 : decide ((l0_1.length : Int) ≤ 8) = false := decide_eq_false c2
 have c2b1 : decide (l0_1.length ≤ 8) = false := decide_eq_false (by omega)
 clear c2
 obtain rfl := Option.some.inj H
 go_enter Try.func31, Try.ntmps31
 go_wp2_with (first | ((with_reducible refine gate_dst (N := 1) rfl ?_); (try (refine gate_guard (by rfl) ?_; dsimp only)); refine bx_ (w := w) (N := 1) (cs := #[.int .i64 a0_0, .slice A0_1 l0_1.length c0_1, .slice A0_2 l0_2.length c0_2]) (t := 36) ?_; intro gb221 w5 BK221 n0_ GW221 GE221; clear HB; have HB := n0_; clear n0_; obtain ⟨hcz6_0, hcz6_1, hcz6_2⟩ := cz3_ BK221.out; obtain ⟨hfz6_0, hfz6_1, hfz6_2⟩ := fz3_ BK221.out))
 go_ret
 exact rt_
mutual
def computusref17_Identifier.j0 : Nat → ByteArray → Bool → Option (Bool)
 | 0, _, _ => none
 | k + 1, x0, x12 => if x12 = true then (some false) else (computusref17_Identifier.l0 k x0 0)
def computusref17_Identifier.l0 : Nat → ByteArray → Int → Option (Bool)
 | 0, _, _ => none
 | k + 1, x0, x3 => if x3 < (x0.size : Int) then (if 0 ≤ x3 then (if (bt x0 x3) ≥ 97 then (computusref17_Identifier.j2 k x0 x3 (bt x0 x3) (decide ((bt x0 x3) ≤ 122))) else (computusref17_Identifier.j2 k x0 x3 (bt x0 x3) false)) else (none)) else (some true)
def computusref17_Identifier.j2 : Nat → ByteArray → Int → Int → Bool → Option (Bool)
 | 0, _, _, _, _ => none
 | k + 1, x0, x3, x4, x27 => if x27 = true then (computusref17_Identifier.l0 k x0 (wrap64 (x3 + 1))) else (if x4 ≥ 48 then (if x4 ≤ 57 then (computusref17_Identifier.j3 k x0 x3 x4 (decide (x3 > 0))) else (computusref17_Identifier.j3 k x0 x3 x4 false)) else (computusref17_Identifier.j3 k x0 x3 x4 false))
def computusref17_Identifier.j3 : Nat → ByteArray → Int → Int → Bool → Option (Bool)
 | 0, _, _, _, _ => none
 | k + 1, x0, x3, x4, x37 => if x37 = true then (computusref17_Identifier.l0 k x0 (wrap64 (x3 + 1))) else (if x4 = 45 then (if x3 = 0 then (some false) else (if x3 = (wrap64 ((x0.size : Int) - 1)) then (some false) else (if 0 ≤ (wrap64 (x3 - 1)) then (if (wrap64 (x3 - 1)) < (x0.size : Int) then (if (bt x0 (wrap64 (x3 - 1))) = 45 then (some false) else (computusref17_Identifier.l0 k x0 (wrap64 (x3 + 1)))) else (none)) else (none)))) else (some false))
end
def computusref17_Identifier.f (k : Nat) (a0 : ByteArray) : Option (Bool) := if (a0.size : Int) < 1 then (computusref17_Identifier.j0 k a0 true) else (computusref17_Identifier.j0 k a0 (decide ((a0.size : Int) > 40)))
theorem computusref17_Identifier.calls (k : Nat) (a0 : ByteArray) (r : Bool) (w : World) (h : computusref17_Identifier.f k a0 = some r) :
  Calls Try.prog 56 #[.string a0] w fun e w' => e = .returned (.bool r) ∧ Drawn0 w w' := by
 have H := h
 clear h
 unfold computusref17_Identifier.f at H
 have HC2 := am_ H
 clear H
 go_enter Try.func56, Try.ntmps56
 go_upto_region 1 with (fail)
 go_cut [12] (fun v12 wc => ∃ (kq : Nat) (x12_1 : Bool), v12 = .bool x12_1 ∧ Aside0 (computusref17_Identifier.j0 kq a0 x12_1 = some r) ∧ Aside0 (kq ≤ k) ∧ Drawn0 w wc)
 case first =>
  have H := HC2.out
  clear HC2
  by_cases c3 : (a0.size : Int) < 1
  ·rw [if_pos c3] at H
   have c3b0 : decide ((a0.size : Int) < 1) = true := decide_eq_true c3
   have c3b1 : decide (a0.size < 1) = true := decide_eq_true (by omega)
   clear c3
   (first | rw [c3b0] | (simp only [i64_w, i32_w]; rw [c3b0]) | skip)
   have H' := am_ H
   clear H
   go_wp2
   go_meet
   case rel => exact ⟨_, (true), rs_, H', ⟨by first | omega | exact Nat.le_refl _⟩, by repeat (first | exact Drawn0.refl _ | apply Drawn0.step)⟩
  rw [if_neg c3] at H
  have c3b0 : decide ((a0.size : Int) < 1) = false := decide_eq_false c3
  have c3b1 : decide (a0.size < 1) = false := decide_eq_false (by omega)
  clear c3
  (first | rw [c3b0] | (simp only [i64_w, i32_w]; rw [c3b0]) | skip)
  have H' := am_ H
  clear H
  go_wp2
  go_meet
  case rel => exact ⟨_, (decide ((a0.size : Int) > 40)), rs_, H', ⟨by first | omega | exact Nat.le_refl _⟩, by repeat (first | exact Drawn0.refl _ | apply Drawn0.step)⟩
 case rest =>
  clear HC2
  obtain ⟨kq, x12_1, rfl, HA, HJ1, ⟨mc1, rfl⟩⟩ := hcut
  cases kq with
  | zero => exact absurd HA.out (by simp [computusref17_Identifier.j0])
  | succ kj1 =>
   have H := HA.out
   clear HA
   simp only [computusref17_Identifier.j0] at H
   by_cases c4 : x12_1 = true
   ·subst c4
    replace H := it_ H
    obtain rfl := Option.some.inj H
    go_wp2
    go_ret
    exact ⟨by first | rfl | (simp; done) | (simp [*]; done), by repeat (first | exact Drawn0.refl _ | apply Drawn0.step)⟩
   replace c4 := Bool.eq_false_iff.mpr c4
   subst c4
   replace H := if_ H
   have H' := am_ H
   clear H
   go_wp2
   go_loopg [3] kj1 (fun kq v3 w' => ∃ (x3_2 : Int), v3 = .int .i64 x3_2 ∧ Aside0 (computusref17_Identifier.l0 kq a0 x3_2 = some r) ∧ Aside0 (kq ≤ kj1) ∧ Drawn0 w w')
   case atStart => exact ⟨(0), rs_, H', ⟨Nat.le_refl _⟩, by repeat (first | exact Drawn0.refl _ | apply Drawn0.step)⟩
   case round =>
    clear H'
    obtain ⟨x3_2, rfl, HA, HK2, ⟨m2, rfl⟩⟩ := hrel
    cases gk with
    | zero => exact absurd HA.out (by simp [computusref17_Identifier.l0])
    | succ k2 =>
     have H := HA.out
     clear HA
     simp only [computusref17_Identifier.l0] at H
     by_cases c5 : x3_2 < (a0.size : Int)
     rotate_left
     ·rw [if_neg c5] at H
      have c5b0 : decide (x3_2 < (a0.size : Int)) = false := decide_eq_false c5
      clear c5
      obtain rfl := Option.some.inj H
      go_wp2
      go_ret
      exact ⟨by first | rfl | (simp; done) | (simp [*]; done), by repeat (first | exact Drawn0.refl _ | apply Drawn0.step)⟩
     rw [if_pos c5] at H
     have c5b0 : decide (x3_2 < (a0.size : Int)) = true := decide_eq_true c5
     clear c5
     by_cases c6 : 0 ≤ x3_2
     rotate_left
     ·rw [if_neg c6] at H
      exact absurd H (by simp)
     rw [if_pos c6] at H
     have c6b0 : decide (0 ≤ x3_2) = true := decide_eq_true c6
     clear c6
     have HC8 := am_ H
     clear H
     have p7 : 0 ≤ (x3_2 : Int) := of_decide_eq_true as_
     have q7 : x3_2 < (a0.size : Int) := of_decide_eq_true as_
     have hx7 := bt_at a0 x3_2
     replace p7 := eq_true p7
     replace q7 := eq_true q7
     go_upto_region 7 with (fail)
     go_cut [27] (fun v27 wc => ∃ (kq : Nat) (x27_7 : Bool), v27 = .bool x27_7 ∧ Aside0 (computusref17_Identifier.j2 kq a0 x3_2 (bt a0 x3_2) x27_7 = some r) ∧ Aside0 (kq ≤ k2) ∧ Drawn0 w wc)
     case first =>
      have H := HC8.out
      clear HC8
      by_cases c9 : (bt a0 x3_2) ≥ 97
      rotate_left
      ·rw [if_neg c9] at H
       have c9b0 : decide (97 ≤ (bt a0 x3_2)) = false := decide_eq_false c9
       clear c9
       (first | rw [c9b0] | (simp only [i64_w, i32_w]; rw [c9b0]) | skip)
       have H' := am_ H
       clear H
       go_wp2
       go_meet
       case rel => exact ⟨_, (false), rs_, H', ⟨by have := HJ1.out; have := HK2.out; first | omega | exact Nat.le_refl _⟩, by repeat (first | exact Drawn0.refl _ | apply Drawn0.step)⟩
      rw [if_pos c9] at H
      have c9b0 : decide (97 ≤ (bt a0 x3_2)) = true := decide_eq_true c9
      clear c9
      (first | rw [c9b0] | (simp only [i64_w, i32_w]; rw [c9b0]) | skip)
      have H' := am_ H
      clear H
      go_wp2
      go_meet
      case rel => exact ⟨_, (decide ((bt a0 x3_2) ≤ 122)), rs_, H', ⟨by have := HJ1.out; have := HK2.out; first | omega | exact Nat.le_refl _⟩, by repeat (first | exact Drawn0.refl _ | apply Drawn0.step)⟩
     case rest =>
      clear HC8
      obtain ⟨kq, x27_7, rfl, HA, HJ7, ⟨mc7, rfl⟩⟩ := hcut
      cases kq with
      | zero => exact absurd HA.out (by simp [computusref17_Identifier.j2])
      | succ kj7 =>
       have H := HA.out
       clear HA
       simp only [computusref17_Identifier.j2] at H
       by_cases c10 : x27_7 = true
       ·subst c10
        replace H := it_ H
        have H' := am_ H
        clear H
        go_wp2
        go_roundg kj7
        case measure => have := HJ1.out; have := HK2.out; have := HJ7.out; omega
        case rel => exact ⟨(wrap64 (x3_2 + 1)), rs_, H', ⟨by have := HJ1.out; have := HK2.out; have := HJ7.out; omega⟩, by repeat (first | exact Drawn0.refl _ | apply Drawn0.step)⟩
       replace c10 := Bool.eq_false_iff.mpr c10
       subst c10
       replace H := if_ H
       have HC11 := am_ H
       clear H
       go_upto_region 8 with (fail)
       go_cut [37] (fun v37 wc => ∃ (kq : Nat) (x37_10 : Bool), v37 = .bool x37_10 ∧ Aside0 (computusref17_Identifier.j3 kq a0 x3_2 (bt a0 x3_2) x37_10 = some r) ∧ Aside0 (kq ≤ kj7) ∧ Drawn0 w wc)
       case first =>
        have H := HC11.out
        clear HC11
        by_cases c12 : (bt a0 x3_2) ≥ 48
        rotate_left
        ·rw [if_neg c12] at H
         have c12b0 : decide (48 ≤ (bt a0 x3_2)) = false := decide_eq_false c12
         clear c12
         (first | rw [c12b0] | (simp only [i64_w, i32_w]; rw [c12b0]) | skip)
         have H' := am_ H
         clear H
         go_wp2
         go_meet
         case rel => exact ⟨_, (false), rs_, H', ⟨by have := HJ1.out; have := HK2.out; have := HJ7.out; first | omega | exact Nat.le_refl _⟩, by repeat (first | exact Drawn0.refl _ | apply Drawn0.step)⟩
        rw [if_pos c12] at H
        have c12b0 : decide (48 ≤ (bt a0 x3_2)) = true := decide_eq_true c12
        clear c12
        (first | rw [c12b0] | (simp only [i64_w, i32_w]; rw [c12b0]) | skip)
        by_cases c13 : (bt a0 x3_2) ≤ 57
        rotate_left
        ·rw [if_neg c13] at H
         have c13b0 : decide ((bt a0 x3_2) ≤ 57) = false := decide_eq_false c13
         clear c13
         have H' := am_ H
         clear H
         go_wp2
         go_meet
         case rel => exact ⟨_, (false), rs_, H', ⟨by have := HJ1.out; have := HK2.out; have := HJ7.out; first | omega | exact Nat.le_refl _⟩, by repeat (first | exact Drawn0.refl _ | apply Drawn0.step)⟩
        rw [if_pos c13] at H
        have c13b0 : decide ((bt a0 x3_2) ≤ 57) = true := decide_eq_true c13
        clear c13
        have H' := am_ H
        clear H
        go_wp2
        go_meet
        case rel => exact ⟨_, (decide (x3_2 > 0)), rs_, H', ⟨by have := HJ1.out; have := HK2.out; have := HJ7.out; first | omega | exact Nat.le_refl _⟩, by repeat (first | exact Drawn0.refl _ | apply Drawn0.step)⟩
       case rest =>
        clear HC11
        obtain ⟨kq, x37_10, rfl, HA, HJ10, ⟨mc10, rfl⟩⟩ := hcut
        cases kq with
        | zero => exact absurd HA.out (by simp [computusref17_Identifier.j3])
        | succ kj10 =>
         have H := HA.out
         clear HA
         simp only [computusref17_Identifier.j3] at H
         by_cases c14 : x37_10 = true
         ·subst c14
          replace H := it_ H
          have H' := am_ H
          clear H
          go_wp2
          go_roundg kj10
          case measure => have := HJ1.out; have := HK2.out; have := HJ7.out; have := HJ10.out; omega
          case rel => exact ⟨(wrap64 (x3_2 + 1)), rs_, H', ⟨by have := HJ1.out; have := HK2.out; have := HJ7.out; have := HJ10.out; omega⟩, by repeat (first | exact Drawn0.refl _ | apply Drawn0.step)⟩
         replace c14 := Bool.eq_false_iff.mpr c14
         subst c14
         replace H := if_ H
         by_cases c15 : (bt a0 x3_2) = 45
         rotate_left
         ·rw [if_neg c15] at H
          have c15b0 : ((bt a0 x3_2) == 45) = false := beq_eq_false_iff_ne.mpr c15
          have c15b1 : ((bt a0 x3_2) != 45) = true := bne_iff_ne.mpr c15
          obtain rfl := Option.some.inj H
          go_wp2
          go_ret
          exact ⟨by first | rfl | (simp; done) | (simp [*]; done), by repeat (first | exact Drawn0.refl _ | apply Drawn0.step)⟩
         rw [if_pos c15] at H
         have c15b0 : ((bt a0 x3_2) == 45) = true := beq_iff_eq.mpr c15
         have c15b1 : ((bt a0 x3_2) != 45) = false := bne_eq_false_iff_eq.mpr c15
         clear c15
         by_cases c16 : x3_2 = 0
         ·rw [if_pos c16] at H
          have c16b0 : (x3_2 == 0) = true := beq_iff_eq.mpr c16
          have c16b1 : (x3_2 != 0) = false := bne_eq_false_iff_eq.mpr c16
          clear c16
          obtain rfl := Option.some.inj H
          go_wp2
          go_ret
          exact ⟨by first | rfl | (simp; done) | (simp [*]; done), by repeat (first | exact Drawn0.refl _ | apply Drawn0.step)⟩
         rw [if_neg c16] at H
         have c16b0 : (x3_2 == 0) = false := beq_eq_false_iff_ne.mpr c16
         have c16b1 : (x3_2 != 0) = true := bne_iff_ne.mpr c16
         by_cases c17 : x3_2 = (wrap64 ((a0.size : Int) - 1))
         ·rw [if_pos c17] at H
          have c17b0 : (x3_2 == (wrap64 ((a0.size : Int) - 1))) = true := beq_iff_eq.mpr c17
          have c17b1 : (x3_2 != (wrap64 ((a0.size : Int) - 1))) = false := bne_eq_false_iff_eq.mpr c17
          clear c17
          obtain rfl := Option.some.inj H
          go_wp2
          go_ret
          exact ⟨by first | rfl | (simp; done) | (simp [*]; done), by repeat (first | exact Drawn0.refl _ | apply Drawn0.step)⟩
         rw [if_neg c17] at H
         have c17b0 : (x3_2 == (wrap64 ((a0.size : Int) - 1))) = false := beq_eq_false_iff_ne.mpr c17
         have c17b1 : (x3_2 != (wrap64 ((a0.size : Int) - 1))) = true := bne_iff_ne.mpr c17
         obtain ⟨ji18, hji18⟩ : ∃ j_ : Int, (wrap64 (x3_2 - 1)) = j_ := ⟨_, rfl⟩
         replace H : (if 0 ≤ (ji18) then (if (ji18) < (a0.size : Int) then (if (bt a0 (ji18)) = 45 then (some false) else (computusref17_Identifier.l0 kj10 a0 (wrap64 (x3_2 + 1)))) else (none)) else (none)) = some r := by first | (rw [hji18] at H; exact H) | (simp only [hji18] at H ⊢; exact H)
         have hji18w : (IntKind.i64.wrap (x3_2 - 1)) = ji18 := (i64_w _).trans hji18
         by_cases c19 : 0 ≤ (ji18)
         rotate_left
         ·rw [if_neg c19] at H
          exact absurd H (by simp)
         rw [if_pos c19] at H
         have c19b0 : decide (0 ≤ (ji18)) = true := decide_eq_true c19
         clear c19
         by_cases c20 : (ji18) < (a0.size : Int)
         rotate_left
         ·rw [if_neg c20] at H
          exact absurd H (by simp)
         rw [if_pos c20] at H
         have c20b0 : decide ((ji18) < (a0.size : Int)) = true := decide_eq_true c20
         clear c20
         by_cases c22 : (bt a0 (ji18)) = 45
         ·rw [if_pos c22] at H
          have c22b0 : ((bt a0 (ji18)) == 45) = true := beq_iff_eq.mpr c22
          have c22b1 : ((bt a0 (ji18)) != 45) = false := bne_eq_false_iff_eq.mpr c22
          clear c22
          obtain rfl := Option.some.inj H
          have p21 : 0 ≤ ((ji18) : Int) := of_decide_eq_true as_
          have q21 : (ji18) < (a0.size : Int) := of_decide_eq_true as_
          have hx21 := bt_at a0 (ji18)
          replace p21 := eq_true p21
          replace q21 := eq_true q21
          go_wp2
          go_ret
          exact ⟨by first | rfl | (simp; done) | (simp only [← hji18] <;> (first | rfl | simp)) | (simp [*]; done), by repeat (first | exact Drawn0.refl _ | apply Drawn0.step)⟩
         rw [if_neg c22] at H
         have c22b0 : ((bt a0 (ji18)) == 45) = false := beq_eq_false_iff_ne.mpr c22
         have c22b1 : ((bt a0 (ji18)) != 45) = true := bne_iff_ne.mpr c22
         have H' := am_ H
         clear H
         have p21 : 0 ≤ ((ji18) : Int) := of_decide_eq_true as_
         have q21 : (ji18) < (a0.size : Int) := of_decide_eq_true as_
         have hx21 := bt_at a0 (ji18)
         replace p21 := eq_true p21
         replace q21 := eq_true q21
         go_wp2
         go_roundg kj10
         case measure => have := HJ1.out; have := HK2.out; have := HJ7.out; have := HJ10.out; omega
         case rel => exact ⟨(wrap64 (x3_2 + 1)), rs_, H', ⟨by have := HJ1.out; have := HK2.out; have := HJ7.out; have := HJ10.out; omega⟩, by repeat (first | exact Drawn0.refl _ | apply Drawn0.step)⟩
mutual
def computusref02_Length.j0 : Nat → Bool → Int → Bool → Option (Int)
 | 0, _, _, _ => none
 | k + 1, x0, x5, x6 => if x6 = true then (some 31) else (if x5 = 4 then (computusref02_Length.j1 k x0 x5 (x5 == 4)) else (if x5 = 6 then (computusref02_Length.j1 k x0 x5 (x5 == 6)) else (if x5 = 9 then (computusref02_Length.j1 k x0 x5 (x5 == 9)) else (computusref02_Length.j1 k x0 x5 (x5 == 11)))))
def computusref02_Length.j1 : Nat → Bool → Int → Bool → Option (Int)
 | 0, _, _, _ => none
 | k + 1, x0, x5, x14 => if x14 = true then (some 30) else (if x5 = 2 then (if x0 = true then (some 29) else (some 28)) else (some 0))
end
def computusref02_Length.f (k : Nat) (a0 : Bool) (a1 : Int) : Option (Int) := if a1 = 1 then (computusref02_Length.j0 k a0 a1 (a1 == 1)) else (if a1 = 3 then (computusref02_Length.j0 k a0 a1 (a1 == 3)) else (if a1 = 5 then (computusref02_Length.j0 k a0 a1 (a1 == 5)) else (if a1 = 7 then (computusref02_Length.j0 k a0 a1 (a1 == 7)) else (if a1 = 8 then (computusref02_Length.j0 k a0 a1 (a1 == 8)) else (if a1 = 10 then (computusref02_Length.j0 k a0 a1 (a1 == 10)) else (computusref02_Length.j0 k a0 a1 (a1 == 12)))))))
theorem computusref02_Length.mono_l : ∀ k, (∀ y0 y1 y2, LeO (computusref02_Length.j0 k y0 y1 y2) (computusref02_Length.j0 (k + 1) y0 y1 y2)) ∧ (∀ y0 y1 y2, LeO (computusref02_Length.j1 k y0 y1 y2) (computusref02_Length.j1 (k + 1) y0 y1 y2))
 | 0 => ⟨fun _ _ _ r h => by simp [computusref02_Length.j0] at h, fun _ _ _ r h => by simp [computusref02_Length.j1] at h⟩
 | k + 1 => by
  obtain ⟨ih0, ih1⟩ := computusref02_Length.mono_l k
  refine ⟨?_, ?_⟩
  ·intro y0 y1 y2
   unfold computusref02_Length.j0
   repeat' first | (with_reducible first | exact ih0 _ _ _ | exact ih1 _ _ _ | exact lr_ _ | exact ln_ _ | refine li_ ?_ ?_ | refine lb_ ?_ fun _ => ?_) | exact ln_ _ | refine li_ ?_ ?_ | refine lb_ ?_ fun _ => ?_
  ·intro y0 y1 y2
   unfold computusref02_Length.j1
   repeat' first | (with_reducible first | exact ih0 _ _ _ | exact ih1 _ _ _ | exact lr_ _ | exact ln_ _ | refine li_ ?_ ?_ | refine lb_ ?_ fun _ => ?_) | exact ln_ _ | refine li_ ?_ ?_ | refine lb_ ?_ fun _ => ?_
theorem computusref02_Length.mono : ∀ a0 a1 k, LeO (computusref02_Length.f k a0 a1) (computusref02_Length.f (k + 1) a0 a1) := by
 intro a0 a1 k
 obtain ⟨ih0, ih1⟩ := computusref02_Length.mono_l k
 unfold computusref02_Length.f
 repeat' first | (with_reducible first | exact ih0 _ _ _ | exact ih1 _ _ _ | exact lr_ _ | exact ln_ _ | refine li_ ?_ ?_ | refine lb_ ?_ fun _ => ?_) | exact ln_ _ | refine li_ ?_ ?_ | refine lb_ ?_ fun _ => ?_
theorem computusref02_Length.calls (k : Nat) (a0 : Bool) (a1 : Int) (r : Int) (w : World) (h : computusref02_Length.f k a0 a1 = some r) :
  Calls Try.prog 71 #[.bool a0, .int .i64 a1] w fun e w' => e = .returned (.int .i64 r) ∧ Drawn0 w w' := by
 have H := h
 clear h
 unfold computusref02_Length.f at H
 have HC3 := am_ H
 clear H
 go_enter Try.func71, Try.ntmps71
 go_upto_if 6 with (fail)
 go_cut [6] (fun v6 wc => ∃ (kq : Nat) (x6_2 : Bool), v6 = .bool x6_2 ∧ Aside0 (computusref02_Length.j0 kq a0 a1 x6_2 = some r) ∧ Aside0 (kq ≤ k) ∧ Drawn0 w wc)
 case first =>
  have H := HC3.out
  clear HC3
  by_cases c4 : a1 = 1
  ·rw [if_pos c4] at H
   have c4b0 : (a1 == 1) = true := beq_iff_eq.mpr c4
   have c4b1 : (a1 != 1) = false := bne_eq_false_iff_eq.mpr c4
   clear c4
   (first | rw [c4b0] | (simp only [i64_w, i32_w]; rw [c4b0]) | skip)
   have H' := am_ H
   clear H
   go_wp2
   go_meet
   case rel => exact ⟨_, ((a1 == 1)), rs_, H', ⟨by first | omega | exact Nat.le_refl _⟩, by repeat (first | exact Drawn0.refl _ | apply Drawn0.step)⟩
  rw [if_neg c4] at H
  have c4b0 : (a1 == 1) = false := beq_eq_false_iff_ne.mpr c4
  have c4b1 : (a1 != 1) = true := bne_iff_ne.mpr c4
  (first | rw [c4b0] | (simp only [i64_w, i32_w]; rw [c4b0]) | skip)
  by_cases c5 : a1 = 3
  ·rw [if_pos c5] at H
   have c5b0 : (a1 == 3) = true := beq_iff_eq.mpr c5
   have c5b1 : (a1 != 3) = false := bne_eq_false_iff_eq.mpr c5
   clear c5
   have H' := am_ H
   clear H
   go_wp2
   go_meet
   case rel => exact ⟨_, ((a1 == 3)), rs_, H', ⟨by first | omega | exact Nat.le_refl _⟩, by repeat (first | exact Drawn0.refl _ | apply Drawn0.step)⟩
  rw [if_neg c5] at H
  have c5b0 : (a1 == 3) = false := beq_eq_false_iff_ne.mpr c5
  have c5b1 : (a1 != 3) = true := bne_iff_ne.mpr c5
  by_cases c6 : a1 = 5
  ·rw [if_pos c6] at H
   have c6b0 : (a1 == 5) = true := beq_iff_eq.mpr c6
   have c6b1 : (a1 != 5) = false := bne_eq_false_iff_eq.mpr c6
   clear c6
   have H' := am_ H
   clear H
   go_wp2
   go_meet
   case rel => exact ⟨_, ((a1 == 5)), rs_, H', ⟨by first | omega | exact Nat.le_refl _⟩, by repeat (first | exact Drawn0.refl _ | apply Drawn0.step)⟩
  rw [if_neg c6] at H
  have c6b0 : (a1 == 5) = false := beq_eq_false_iff_ne.mpr c6
  have c6b1 : (a1 != 5) = true := bne_iff_ne.mpr c6
  by_cases c7 : a1 = 7
  ·rw [if_pos c7] at H
   have c7b0 : (a1 == 7) = true := beq_iff_eq.mpr c7
   have c7b1 : (a1 != 7) = false := bne_eq_false_iff_eq.mpr c7
   clear c7
   have H' := am_ H
   clear H
   go_wp2
   go_meet
   case rel => exact ⟨_, ((a1 == 7)), rs_, H', ⟨by first | omega | exact Nat.le_refl _⟩, by repeat (first | exact Drawn0.refl _ | apply Drawn0.step)⟩
  rw [if_neg c7] at H
  have c7b0 : (a1 == 7) = false := beq_eq_false_iff_ne.mpr c7
  have c7b1 : (a1 != 7) = true := bne_iff_ne.mpr c7
  by_cases c8 : a1 = 8
  ·rw [if_pos c8] at H
   have c8b0 : (a1 == 8) = true := beq_iff_eq.mpr c8
   have c8b1 : (a1 != 8) = false := bne_eq_false_iff_eq.mpr c8
   clear c8
   have H' := am_ H
   clear H
   go_wp2
   go_meet
   case rel => exact ⟨_, ((a1 == 8)), rs_, H', ⟨by first | omega | exact Nat.le_refl _⟩, by repeat (first | exact Drawn0.refl _ | apply Drawn0.step)⟩
  rw [if_neg c8] at H
  have c8b0 : (a1 == 8) = false := beq_eq_false_iff_ne.mpr c8
  have c8b1 : (a1 != 8) = true := bne_iff_ne.mpr c8
  by_cases c9 : a1 = 10
  rotate_left
  ·rw [if_neg c9] at H
   have c9b0 : (a1 == 10) = false := beq_eq_false_iff_ne.mpr c9
   have c9b1 : (a1 != 10) = true := bne_iff_ne.mpr c9
   have H' := am_ H
   clear H
   go_wp2
   go_meet
   case rel => exact ⟨_, ((a1 == 12)), rs_, H', ⟨by first | omega | exact Nat.le_refl _⟩, by repeat (first | exact Drawn0.refl _ | apply Drawn0.step)⟩
  rw [if_pos c9] at H
  have c9b0 : (a1 == 10) = true := beq_iff_eq.mpr c9
  have c9b1 : (a1 != 10) = false := bne_eq_false_iff_eq.mpr c9
  clear c9
  have H' := am_ H
  clear H
  go_wp2
  go_meet
  case rel => exact ⟨_, ((a1 == 10)), rs_, H', ⟨by first | omega | exact Nat.le_refl _⟩, by repeat (first | exact Drawn0.refl _ | apply Drawn0.step)⟩
 case rest =>
  clear HC3
  obtain ⟨kq, x6_2, rfl, HA, HJ2, ⟨mc2, rfl⟩⟩ := hcut
  cases kq with
  | zero => exact absurd HA.out (by simp [computusref02_Length.j0])
  | succ kj2 =>
   have H := HA.out
   clear HA
   simp only [computusref02_Length.j0] at H
   by_cases c10 : x6_2 = true
   ·subst c10
    replace H := it_ H
    obtain rfl := Option.some.inj H
    go_wp2
    go_ret
    exact ⟨by first | rfl | (simp; done) | (simp [*]; done), by repeat (first | exact Drawn0.refl _ | apply Drawn0.step)⟩
   replace c10 := Bool.eq_false_iff.mpr c10
   subst c10
   replace H := if_ H
   have HC11 := am_ H
   clear H
   go_upto_if 14 with (fail)
   go_cut [14] (fun v14 wc => ∃ (kq : Nat) (x14_10 : Bool), v14 = .bool x14_10 ∧ Aside0 (computusref02_Length.j1 kq a0 a1 x14_10 = some r) ∧ Aside0 (kq ≤ kj2) ∧ Drawn0 w wc)
   case first =>
    have H := HC11.out
    clear HC11
    by_cases c12 : a1 = 4
    ·rw [if_pos c12] at H
     have c12b0 : (a1 == 4) = true := beq_iff_eq.mpr c12
     have c12b1 : (a1 != 4) = false := bne_eq_false_iff_eq.mpr c12
     clear c12
     (first | rw [c12b0] | (simp only [i64_w, i32_w]; rw [c12b0]) | skip)
     have H' := am_ H
     clear H
     go_wp2
     go_meet
     case rel => exact ⟨_, ((a1 == 4)), rs_, H', ⟨by have := HJ2.out; first | omega | exact Nat.le_refl _⟩, by repeat (first | exact Drawn0.refl _ | apply Drawn0.step)⟩
    rw [if_neg c12] at H
    have c12b0 : (a1 == 4) = false := beq_eq_false_iff_ne.mpr c12
    have c12b1 : (a1 != 4) = true := bne_iff_ne.mpr c12
    (first | rw [c12b0] | (simp only [i64_w, i32_w]; rw [c12b0]) | skip)
    by_cases c13 : a1 = 6
    ·rw [if_pos c13] at H
     have c13b0 : (a1 == 6) = true := beq_iff_eq.mpr c13
     have c13b1 : (a1 != 6) = false := bne_eq_false_iff_eq.mpr c13
     clear c13
     have H' := am_ H
     clear H
     go_wp2
     go_meet
     case rel => exact ⟨_, ((a1 == 6)), rs_, H', ⟨by have := HJ2.out; first | omega | exact Nat.le_refl _⟩, by repeat (first | exact Drawn0.refl _ | apply Drawn0.step)⟩
    rw [if_neg c13] at H
    have c13b0 : (a1 == 6) = false := beq_eq_false_iff_ne.mpr c13
    have c13b1 : (a1 != 6) = true := bne_iff_ne.mpr c13
    by_cases c14 : a1 = 9
    rotate_left
    ·rw [if_neg c14] at H
     have c14b0 : (a1 == 9) = false := beq_eq_false_iff_ne.mpr c14
     have c14b1 : (a1 != 9) = true := bne_iff_ne.mpr c14
     have H' := am_ H
     clear H
     go_wp2
     go_meet
     case rel => exact ⟨_, ((a1 == 11)), rs_, H', ⟨by have := HJ2.out; first | omega | exact Nat.le_refl _⟩, by repeat (first | exact Drawn0.refl _ | apply Drawn0.step)⟩
    rw [if_pos c14] at H
    have c14b0 : (a1 == 9) = true := beq_iff_eq.mpr c14
    have c14b1 : (a1 != 9) = false := bne_eq_false_iff_eq.mpr c14
    clear c14
    have H' := am_ H
    clear H
    go_wp2
    go_meet
    case rel => exact ⟨_, ((a1 == 9)), rs_, H', ⟨by have := HJ2.out; first | omega | exact Nat.le_refl _⟩, by repeat (first | exact Drawn0.refl _ | apply Drawn0.step)⟩
   case rest =>
    clear HC11
    obtain ⟨kq, x14_10, rfl, HA, HJ10, ⟨mc10, rfl⟩⟩ := hcut
    cases kq with
    | zero => exact absurd HA.out (by simp [computusref02_Length.j1])
    | succ kj10 =>
     have H := HA.out
     clear HA
     simp only [computusref02_Length.j1] at H
     by_cases c15 : x14_10 = true
     ·subst c15
      replace H := it_ H
      obtain rfl := Option.some.inj H
      go_wp2
      go_ret
      exact ⟨by first | rfl | (simp; done) | (simp [*]; done), by repeat (first | exact Drawn0.refl _ | apply Drawn0.step)⟩
     replace c15 := Bool.eq_false_iff.mpr c15
     subst c15
     replace H := if_ H
     by_cases c16 : a1 = 2
     rotate_left
     ·rw [if_neg c16] at H
      have c16b0 : (a1 == 2) = false := beq_eq_false_iff_ne.mpr c16
      have c16b1 : (a1 != 2) = true := bne_iff_ne.mpr c16
      obtain rfl := Option.some.inj H
      go_wp2
      go_ret
      exact ⟨by first | rfl | (simp; done) | (simp [*]; done), by repeat (first | exact Drawn0.refl _ | apply Drawn0.step)⟩
     rw [if_pos c16] at H
     have c16b0 : (a1 == 2) = true := beq_iff_eq.mpr c16
     have c16b1 : (a1 != 2) = false := bne_eq_false_iff_eq.mpr c16
     clear c16
     by_cases c17 : a0 = true
     ·subst c17
      replace H := it_ H
      obtain rfl := Option.some.inj H
      go_wp2
      go_ret
      exact ⟨by first | rfl | (simp; done) | (simp [*]; done), by repeat (first | exact Drawn0.refl _ | apply Drawn0.step)⟩
     replace c17 := Bool.eq_false_iff.mpr c17
     subst c17
     replace H := if_ H
     obtain rfl := Option.some.inj H
     go_wp2
     go_ret
     exact ⟨by first | rfl | (simp; done) | (simp [*]; done), by repeat (first | exact Drawn0.refl _ | apply Drawn0.step)⟩
def computusref08_Exists.f (k : Nat) (a0 : Int) (a1 : Int) : Option (Bool) := if a1 ≥ 1 then ((computusref02_Length.f k false a0).bind fun t222 => (some (decide (a1 ≤ t222)))) else (some false)
theorem computusref08_Exists.mono : ∀ a0 a1 k, LeO (computusref08_Exists.f k a0 a1) (computusref08_Exists.f (k + 1) a0 a1) := by
 intro a0 a1 k
 unfold computusref08_Exists.f
 repeat' first | (with_reducible first | exact computusref02_Length.mono _ _ _ | exact lr_ _ | exact ln_ _ | refine li_ ?_ ?_ | refine lb_ ?_ fun _ => ?_) | exact ln_ _ | refine li_ ?_ ?_ | refine lb_ ?_ fun _ => ?_
theorem computusref08_Exists.calls (k : Nat) (a0 : Int) (a1 : Int) (r : Bool) (w : World) (h : computusref08_Exists.f k a0 a1 = some r) :
  Calls Try.prog 64 #[.int .i64 a0, .int .i64 a1] w fun e w' => e = .returned (.bool r) ∧ Drawn0 w w' := by
 have H := h
 clear h
 unfold computusref08_Exists.f at H
 by_cases c3 : a1 ≥ 1
 rotate_left
 ·rw [if_neg c3] at H
  have c3b0 : decide (1 ≤ a1) = false := decide_eq_false c3
  clear c3
  obtain rfl := Option.some.inj H
  go_enter Try.func64, Try.ntmps64
  go_wp2
  go_ret
  exact ⟨by first | rfl | (simp; done) | (simp [*]; done), by repeat (first | exact Drawn0.refl _ | apply Drawn0.step)⟩
 rw [if_pos c3] at H
 have c3b0 : decide (1 ≤ a1) = true := decide_eq_true c3
 clear c3
 obtain ⟨t222, A4, H⟩ := bs_ H
 obtain rfl := Option.some.inj H
 go_enter Try.func64, Try.ntmps64
 go_wp2_with (first | (go_at_call 71; (with_reducible refine (computusref02_Length.calls k false a0 t222 _ A4.out).mono ?_); rintro e w' ⟨rfl, ⟨nd, rfl⟩⟩))
 go_ret
 exact ⟨by first | rfl | (simp; done) | (simp [*]; done), by repeat (first | exact Drawn0.refl _ | apply Drawn0.step)⟩
def computusref03_First.f (a0 : Int) : Option (Int) := some (wrap64 ((wrap64 ((wrap64 ((wrap64 ((wrap64 (365 * (wrap64 (a0 - 1)))) + (wrap64 (Int.tdiv (wrap64 (a0 - 1)) 4)))) - (wrap64 (Int.tdiv (wrap64 (a0 - 1)) 100)))) + (wrap64 (Int.tdiv (wrap64 (a0 - 1)) 400)))) + 1))
theorem computusref03_First.calls (a0 : Int) (r : Int) (w : World) (h : computusref03_First.f a0 = some r) :
  Calls Try.prog 34 #[.int .i64 a0] w fun e w' => e = .returned (.int .i64 r) ∧ Drawn0 w w' := by
 have H := h
 clear h
 unfold computusref03_First.f at H
 obtain rfl := Option.some.inj H
 go_enter Try.func34, Try.ntmps34
 go_wp2
 go_ret
 exact ⟨by first | rfl | (simp; done) | (simp [*]; done), by repeat (first | exact Drawn0.refl _ | apply Drawn0.step)⟩
def computusref02_In.f (a0 : Int) : Option (Bool) := if a0 ≥ 1 then (some (decide (a0 ≤ 1000000000))) else (some false)
theorem computusref02_In.calls (a0 : Int) (r : Bool) (w : World) (h : computusref02_In.f a0 = some r) :
  Calls Try.prog 69 #[.int .i64 a0] w fun e w' => e = .returned (.bool r) ∧ Drawn0 w w' := by
 have H := h
 clear h
 unfold computusref02_In.f at H
 by_cases c2 : a0 ≥ 1
 ·rw [if_pos c2] at H
  have c2b0 : decide (1 ≤ a0) = true := decide_eq_true c2
  clear c2
  obtain rfl := Option.some.inj H
  go_enter Try.func69, Try.ntmps69
  go_wp2
  go_ret
  exact ⟨by first | rfl | (simp; done) | (simp [*]; done), by repeat (first | exact Drawn0.refl _ | apply Drawn0.step)⟩
 rw [if_neg c2] at H
 have c2b0 : decide (1 ≤ a0) = false := decide_eq_false c2
 clear c2
 obtain rfl := Option.some.inj H
 go_enter Try.func69, Try.ntmps69
 go_wp2
 go_ret
 exact ⟨by first | rfl | (simp; done) | (simp [*]; done), by repeat (first | exact Drawn0.refl _ | apply Drawn0.step)⟩
def computusref01_Div.f (a0 : Int) (a1 : Int) : Option (Int) := if a1 = 0 then (none) else (if (wrap64 ((wrap64 (Int.tdiv a0 a1)) * a1)) = a0 then (some (wrap64 (Int.tdiv a0 a1))) else (if ((decide (a0 < 0)) != (decide (a1 < 0))) = true then (some (wrap64 ((wrap64 (Int.tdiv a0 a1)) - 1))) else (some (wrap64 (Int.tdiv a0 a1)))))
theorem computusref01_Div.calls (a0 : Int) (a1 : Int) (r : Int) (w : World) (h : computusref01_Div.f a0 a1 = some r) :
  Calls Try.prog 66 #[.int .i64 a0, .int .i64 a1] w fun e w' => e = .returned (.int .i64 r) ∧ Drawn0 w w' := by
 have H := h
 clear h
 unfold computusref01_Div.f at H
 by_cases c3 : a1 = 0
 ·rw [if_pos c3] at H
  exact absurd H (by simp)
 rw [if_neg c3] at H
 have c3b0 : (a1 == 0) = false := beq_eq_false_iff_ne.mpr c3
 have c3b1 : (a1 != 0) = true := bne_iff_ne.mpr c3
 by_cases c4 : (wrap64 ((wrap64 (Int.tdiv a0 a1)) * a1)) = a0
 ·rw [if_pos c4] at H
  have c4b0 : ((wrap64 ((wrap64 (Int.tdiv a0 a1)) * a1)) == a0) = true := beq_iff_eq.mpr c4
  have c4b1 : ((wrap64 ((wrap64 (Int.tdiv a0 a1)) * a1)) != a0) = false := bne_eq_false_iff_eq.mpr c4
  clear c4
  obtain rfl := Option.some.inj H
  go_enter Try.func66, Try.ntmps66
  go_wp2
  all_goals (first | (exfalso; simp_all; done) | (exfalso; simp_all; omega) | (go_ret; exact ⟨by first | rfl | (simp; done) | (simp [*]; done), by repeat (first | exact Drawn0.refl _ | apply Drawn0.step)⟩))
 rw [if_neg c4] at H
 have c4b0 : ((wrap64 ((wrap64 (Int.tdiv a0 a1)) * a1)) == a0) = false := beq_eq_false_iff_ne.mpr c4
 have c4b1 : ((wrap64 ((wrap64 (Int.tdiv a0 a1)) * a1)) != a0) = true := bne_iff_ne.mpr c4
 by_cases c5 : ((decide (a0 < 0)) != (decide (a1 < 0))) = true
 rotate_left
 ·rw [if_neg c5] at H
  have c5b0 : ((decide (a0 < 0)) != (decide (a1 < 0))) = false := by simpa using c5
  (try (have c5b1 : decide ((decide (a0 < 0)) = (decide (a1 < 0))) = true := by simpa using c5))
  (try (have c5b2 : ((decide (a0 < 0)) == (decide (a1 < 0))) = true := by simpa using c5))
  clear c5
  obtain rfl := Option.some.inj H
  go_enter Try.func66, Try.ntmps66
  go_wp2
  all_goals (first | (exfalso; simp_all; done) | (exfalso; simp_all; omega) | (go_ret; exact ⟨by first | rfl | (simp; done) | (simp [*]; done), by repeat (first | exact Drawn0.refl _ | apply Drawn0.step)⟩))
 rw [if_pos c5] at H
 have c5b0 : ((decide (a0 < 0)) != (decide (a1 < 0))) = true := c5
 (try (have c5b1 : decide ((decide (a0 < 0)) = (decide (a1 < 0))) = false := by simpa using c5))
 (try (have c5b2 : ((decide (a0 < 0)) == (decide (a1 < 0))) = false := by simpa using c5))
 (try (have c5b3 : ¬ ((decide (a0 < 0)) = (decide (a1 < 0))) := by simpa using c5))
 clear c5
 obtain rfl := Option.some.inj H
 go_enter Try.func66, Try.ntmps66
 go_wp2
 all_goals (first | (exfalso; simp_all; done) | (exfalso; simp_all; omega) | (go_ret; exact ⟨by first | rfl | (simp; done) | (simp [*]; done), by repeat (first | exact Drawn0.refl _ | apply Drawn0.step)⟩))
def computusref01_Mod.f (a0 : Int) (a1 : Int) : Option (Int) := (computusref01_Div.f a0 a1).bind fun t223 => (some (wrap64 (a0 - (wrap64 (a1 * t223)))))
theorem computusref01_Mod.calls (a0 : Int) (a1 : Int) (r : Int) (w : World) (h : computusref01_Mod.f a0 a1 = some r) :
  Calls Try.prog 58 #[.int .i64 a0, .int .i64 a1] w fun e w' => e = .returned (.int .i64 r) ∧ Drawn0 w w' := by
 have H := h
 clear h
 unfold computusref01_Mod.f at H
 obtain ⟨t223, A3, H⟩ := bs_ H
 obtain rfl := Option.some.inj H
 go_enter Try.func58, Try.ntmps58
 go_wp2_with (first | ((with_reducible refine gate_callee (f := 66) rfl ?_); refine gl_ (some 9) Try.func66 #[.int .i64 a0, .int .i64 a1] ?_; (with_reducible refine (computusref01_Div.calls a0 a1 t223 _ A3.out).mono ?_); rintro e w' ⟨rfl, ⟨nd, rfl⟩⟩; refine ⟨_, rfl, ?_⟩))
 all_goals (first | (exfalso; simp_all; done) | (exfalso; simp_all; omega) | (go_ret; exact ⟨by first | rfl | (simp; done) | (simp [*]; done), by repeat (first | exact Drawn0.refl _ | apply Drawn0.step)⟩))
def computusref03_Leap.f (a0 : Int) : Option (Bool) := (computusref01_Mod.f a0 400).bind fun t224 => (if t224 = 0 then (some true) else ((computusref01_Mod.f a0 4).bind fun t225 => (if t225 = 0 then ((computusref01_Mod.f a0 100).bind fun t226 => (some (t226 != 0))) else (some false))))
theorem computusref03_Leap.calls (a0 : Int) (r : Bool) (w : World) (h : computusref03_Leap.f a0 = some r) :
  Calls Try.prog 72 #[.int .i64 a0] w fun e w' => e = .returned (.bool r) ∧ Drawn0 w w' := by
 have H := h
 clear h
 unfold computusref03_Leap.f at H
 obtain ⟨t224, A2, H⟩ := bs_ H
 by_cases c3 : t224 = 0
 ·rw [if_pos c3] at H
  have c3b0 : (t224 == 0) = true := beq_iff_eq.mpr c3
  have c3b1 : (t224 != 0) = false := bne_eq_false_iff_eq.mpr c3
  clear c3
  obtain rfl := Option.some.inj H
  go_enter Try.func72, Try.ntmps72
  go_wp2_with (first | ((with_reducible refine gate_callee (f := 58) rfl ?_); refine gl_ (some 4) Try.func58 #[.int .i64 a0, .int .i64 400] ?_; (with_reducible refine (computusref01_Mod.calls a0 400 t224 _ A2.out).mono ?_); rintro e w' ⟨rfl, ⟨nd, rfl⟩⟩; refine ⟨_, rfl, ?_⟩))
  go_ret
  exact ⟨by first | rfl | (simp; done) | (simp [*]; done), by repeat (first | exact Drawn0.refl _ | apply Drawn0.step)⟩
 rw [if_neg c3] at H
 have c3b0 : (t224 == 0) = false := beq_eq_false_iff_ne.mpr c3
 have c3b1 : (t224 != 0) = true := bne_iff_ne.mpr c3
 obtain ⟨t225, A4, H⟩ := bs_ H
 by_cases c5 : t225 = 0
 rotate_left
 ·rw [if_neg c5] at H
  have c5b0 : (t225 == 0) = false := beq_eq_false_iff_ne.mpr c5
  have c5b1 : (t225 != 0) = true := bne_iff_ne.mpr c5
  obtain rfl := Option.some.inj H
  go_enter Try.func72, Try.ntmps72
  go_wp2_with (first | ((with_reducible refine gate_callee (f := 58) rfl ?_); refine gl_ (some 4) Try.func58 #[.int .i64 a0, .int .i64 400] ?_; (with_reducible refine (computusref01_Mod.calls a0 400 t224 _ A2.out).mono ?_); rintro e w' ⟨rfl, ⟨nd, rfl⟩⟩; refine ⟨_, rfl, ?_⟩) | ((with_reducible refine gate_callee (f := 58) rfl ?_); refine gl_ (some 7) Try.func58 #[.int .i64 a0, .int .i64 4] ?_; (with_reducible refine (computusref01_Mod.calls a0 4 t225 _ A4.out).mono ?_); rintro e w' ⟨rfl, ⟨nd, rfl⟩⟩; refine ⟨_, rfl, ?_⟩))
  go_ret
  exact ⟨by first | rfl | (simp; done) | (simp [*]; done), by repeat (first | exact Drawn0.refl _ | apply Drawn0.step)⟩
 rw [if_pos c5] at H
 have c5b0 : (t225 == 0) = true := beq_iff_eq.mpr c5
 have c5b1 : (t225 != 0) = false := bne_eq_false_iff_eq.mpr c5
 clear c5
 obtain ⟨t226, A6, H⟩ := bs_ H
 obtain rfl := Option.some.inj H
 go_enter Try.func72, Try.ntmps72
 go_wp2_with (first | ((with_reducible refine gate_callee (f := 58) rfl ?_); refine gl_ (some 4) Try.func58 #[.int .i64 a0, .int .i64 400] ?_; (with_reducible refine (computusref01_Mod.calls a0 400 t224 _ A2.out).mono ?_); rintro e w' ⟨rfl, ⟨nd, rfl⟩⟩; refine ⟨_, rfl, ?_⟩) | ((with_reducible refine gate_callee (f := 58) rfl ?_); refine gl_ (some 7) Try.func58 #[.int .i64 a0, .int .i64 4] ?_; (with_reducible refine (computusref01_Mod.calls a0 4 t225 _ A4.out).mono ?_); rintro e w' ⟨rfl, ⟨nd, rfl⟩⟩; refine ⟨_, rfl, ?_⟩) | (go_at_call 58; (with_reducible refine (computusref01_Mod.calls a0 100 t226 _ A6.out).mono ?_); rintro e w' ⟨rfl, ⟨nd, rfl⟩⟩))
 go_ret
 exact ⟨by first | rfl | (simp; done) | (simp [*]; done), by repeat (first | exact Drawn0.refl _ | apply Drawn0.step)⟩
end Go.Proofs.Ytopfjjdkffdjpaa.Q
end
