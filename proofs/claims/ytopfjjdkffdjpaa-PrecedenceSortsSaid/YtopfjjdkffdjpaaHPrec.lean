/- What is proved: the methods of precedence.order (Len, Less, Swap), over a slice of candidates of the call's own. -/
import Derived.Test.YtopfjjdkffdjpaaHStable
import Derived.Deep.RegionHeld3
import Derived.Deep.DrawnRows
import Derived.Deep.MidRow
import Derived.Test.YtopfjjdkffdjpaaQx3
namespace Go.Proofs.Ytopfjjdkffdjpaa.Q
open Go.RowKit Go.Proofs.YtopfjjdkffdjpaaW.PrintWords Go.Proofs.YtopfjjdkffdjpaaW.PrintLast Go.Proofs.YtopfjjdkffdjpaaW.PrintMore Go.Proofs.Ytopfjjdkffdjpaa.Srt
set_option linter.unusedVariables false
set_option linter.unusedSimpArgs false

attribute [local go_sem ↓] Go.wp_at_zero Go.wp_at_succ
abbrev Cd := S28
/-- The cells of a candidate. -/
def cand (x : Cd) : List Value := [.int .i64 x.f0, .int .i64 x.f1, .int .i64 x.f2, .string x.f3]
/-- The block g holds the candidates of L, and nothing below B has turned since w0. -/
structure PSt (g c B n : Nat) (w0 : World) (L : List Cd) (w : World) : Prop where
  blk : ∃ cur, w.heap[g]? = some (.cells cur 28 (0, 0)) ∧ cur.size = c * 4 ∧ ∀ (i : Nat) (x : Cd), L[i]? = some x → cur[i * 4]? = some (.int .i64 x.f0) ∧ cur[i * 4 + 1]? = some (.int .i64 x.f1) ∧ cur[i * 4 + 2]? = some (.int .i64 x.f2) ∧ cur[i * 4 + 3]? = some (.string x.f3)
  len : L.length = n
  cap : n ≤ c
  big : c ≤ maxLen
  low : B ≤ g
  below : Below B w0 w

variable {g c B n : Nat} {w0 : World}
theorem PSt.cells {L : List Cd} {w : World} (h : PSt g c B n w0 L w) (i : Nat) (hi : i < L.length) :
    w.cell? ⟨g, i * 4, none⟩ = some (.int .i64 (L.getD i z28).f0) ∧ w.cell? ⟨g, i * 4 + 1, none⟩ = some (.int .i64 (L.getD i z28).f1) ∧ w.cell? ⟨g, i * 4 + 2, none⟩ = some (.int .i64 (L.getD i z28).f2) ∧ w.cell? ⟨g, i * 4 + 3, none⟩ = some (.string (L.getD i z28).f3) := by
  obtain ⟨cur, hb, hs, hc⟩ := h.blk
  have := hc i (L.getD i z28) (by rw [getD_get _ _ _ hi, List.getElem?_eq_getElem hi])
  have e : ∀ j u, cur[j]? = some u → w.cell? ⟨g, j, none⟩ = some u := fun j u hj => by simp [World.cell?, World.cells?, hb, hj]
  exact ⟨e _ _ this.1, e _ _ this.2.1, e _ _ this.2.2.1, e _ _ this.2.2.2⟩

theorem PSt.drew {L : List Cd} {w : World} (h : PSt g c B n w0 L w) : PSt g c B n w0 L w.drew := ⟨h.blk, h.len, h.cap, h.big, h.low, h.below.drew⟩
theorem PSt.lt {L : List Cd} {w : World} (h : PSt g c B n w0 L w) : g < w.heap.size := by
  obtain ⟨cur, hb, _⟩ := h.blk
  exact (Array.getElem?_eq_some_iff.1 hb).1
theorem PSt.step {L : List Cd} {w w1 : World} (h : PSt g c B n w0 L w) (hb : Below w.heap.size w w1) (hw : B ≤ w.heap.size) : PSt g c B n w0 L w1 := by
  obtain ⟨cur, hb2, hs, hc⟩ := h.blk
  exact ⟨⟨cur, (hb.block g h.lt).trans hb2, hs, hc⟩, h.len, h.cap, h.big, h.low, h.below.trans (hb.mono hw)⟩
theorem PSt.room {L : List Cd} {w : World} (h : PSt g c B n w0 L w) : B ≤ w.heap.size := Nat.le_trans h.low (Nat.le_of_lt h.lt)

theorem PSt.soft {L : List Cd} {w : World} (h : PSt g c B n w0 L w) (j : Nat) : w.frozen? ⟨g, j, none⟩ = false := by
  obtain ⟨cur, hb, _⟩ := h.blk
  simp [World.frozen?, hb]

def lessB (x y : Cd) : Bool := if x.f2 = y.f2 then (if x.f0 = y.f0 then decide (x.f1 < y.f1) else decide (x.f0 < y.f0)) else decide (x.f2 < y.f2)
theorem less_f (x y : Cd) : precedence_Precedes.f x.f0 x.f1 x.f2 x.f3 y.f0 y.f1 y.f2 y.f3 = some (lessB x y) := by
  unfold precedence_Precedes.f lessB
  repeat' split
  all_goals rfl
theorem len_order (L : List Cd) (w : World) (h : PSt g c B n w0 L w) : Calls Try.prog 111 #[.slice (some ⟨g, 0, none⟩) n c] w fun e w' => e = .returned (.int .i64 L.length) ∧ PSt g c B n w0 L w' := by
  have H := Aside0.mk h
  have hl : L.length = n := h.len
  clear h
  go_enter Try.func111, Try.ntmps111
  go_wp2_with fail
  go_ret
  exact ⟨by rw [hl]; rfl, H.out⟩
set_option maxHeartbeats 4000000 in
set_option maxRecDepth 100000 in
theorem less_order (L : List Cd) (w : World) (i k : Nat) (vi vk : Int) (h : PSt g c B n w0 L w) (hi : i < L.length) (hk : k < L.length) (ei : vi = i) (ek : vk = k) :
    Calls Try.prog 112 #[.slice (some ⟨g, 0, none⟩) n c, .int .i64 vi, .int .i64 vk] w fun e w' => e = .returned (.bool (lessB (L.getD i z28) (L.getD k z28))) ∧ PSt g c B n w0 L w' := by
  subst ei
  subst ek
  have H := Aside0.mk h
  have hu := Try.underlying28
  obtain ⟨x, hx⟩ : ∃ x, x = L.getD i z28 := ⟨_, rfl⟩
  obtain ⟨y, hy⟩ : ∃ y, y = L.getD k z28 := ⟨_, rfl⟩
  have cx := h.cells i hi
  have cy := h.cells k hk
  rw [← hx] at cx ⊢
  rw [← hy] at cy ⊢
  have b1 : (0 : Int) ≤ (i : Int) := by omega
  have b2 : (i : Int) < (n : Int) := by have := h.len; omega
  have b3 : (0 : Int) ≤ (k : Int) := by omega
  have b4 : (k : Int) < (n : Int) := by have := h.len; omega
  have CX := Aside0.mk cx
  have CY := Aside0.mk cy
  clear h cx cy hx hy hi hk
  go_enter Try.func112, Try.ntmps112
  go_wp2_with fail
  have D := Aside0.mk H.out.drew
  obtain ⟨x1, x2, x3, x4⟩ := CX.out
  obtain ⟨y1, y2, y3, y4⟩ := CY.out
  clear CX CY H
  go_region_held3 (fun w' => w'.cell? ⟨g, i * 4, none⟩ = some (.int .i64 x.f0) ∧ w'.cell? ⟨g, i * 4 + 1, none⟩ = some (.int .i64 x.f1) ∧ w'.cell? ⟨g, i * 4 + 2, none⟩ = some (.int .i64 x.f2) ∧ w'.cell? ⟨g, i * 4 + 3, none⟩ = some (.string x.f3) ∧ w'.cell? ⟨g, k * 4, none⟩ = some (.int .i64 y.f0) ∧ w'.cell? ⟨g, k * 4 + 1, none⟩ = some (.int .i64 y.f1) ∧ w'.cell? ⟨g, k * 4 + 2, none⟩ = some (.int .i64 y.f2) ∧ w'.cell? ⟨g, k * 4 + 3, none⟩ = some (.string y.f3)) (first | go_keep | (refine ⟨?_, ?_, ?_, ?_, ?_, ?_, ?_, ?_⟩ <;> exact (hb.cell (World.block_lt_of_cell? _ _ (by assumption))).trans (by assumption)))
    ((go_at_call 12; refine (precedence_Precedes.calls _ _ _ _ _ _ _ _ _ _ (less_f x y)).mono ?_; rintro e w' ⟨rfl, hb⟩))
  have H2 := Aside0.mk (D.out.step hb D.out.room)
  clear D hb
  go_wp2_with fail
  go_ret
  exact ⟨rfl, H2.out⟩
theorem PSt.there {L : List Cd} {w : World} (h : PSt g c B n w0 L w) (i : Nat) (hi : i < L.length) : w.there g (i * 4) 4 := by
  intro j hj
  refine ⟨?_, h.soft _⟩
  obtain ⟨x1, x2, x3, x4⟩ := h.cells i hi
  rcases (show j = 0 ∨ j = 1 ∨ j = 2 ∨ j = 3 from by omega) with e | e | e | e <;> subst e
  · rw [show i * 4 + 0 = i * 4 from rfl, x1]; rfl
  · rw [x2]; rfl
  · rw [x3]; rfl
  · rw [x4]; rfl
theorem heap_setCells_at (g : Nat) : ∀ (vs : List Value) (o : Nat) (w : World) (cur : Array Value) (t : TypeId), w.heap[g]? = some (.cells cur t (0, 0)) → o + vs.length ≤ cur.size →
    ∃ cur', (w.setCells g o vs).heap[g]? = some (.cells cur' t (0, 0)) ∧ cur'.size = cur.size ∧ (∀ j, j < vs.length → cur'[o + j]? = vs[j]?) ∧ (∀ j, j < o ∨ o + vs.length ≤ j → cur'[j]? = cur[j]?)
  | [], o, w, cur, t, h, _ => ⟨cur, h, rfl, fun j hj => by simp at hj, fun _ _ => rfl⟩
  | v :: vs, o, w, cur, t, h, hl => by
    have hlt : g < w.heap.size := (Array.getElem?_eq_some_iff.1 h).1
    have h1 : (w.setCell ⟨g, o, none⟩ v).heap[g]? = some (.cells (cur.setIfInBounds o v) t (0, 0)) := by
      simp only [World.setCell, Array.getElem?_modify, if_true, h, Option.map_some]
      rfl
    obtain ⟨cur', e1, e2, e3, e4⟩ := heap_setCells_at g vs (o + 1) (w.setCell ⟨g, o, none⟩ v) _ t h1 (by simp at hl ⊢; omega)
    simp at hl
    refine ⟨cur', e1, by rw [e2, Array.size_setIfInBounds], fun j hj => ?_, fun j hj => ?_⟩
    · cases j with
      | zero =>
        rw [Nat.add_zero, e4 o (.inl (by omega)), Array.getElem?_setIfInBounds_self_of_lt (by omega)]
        rfl
      | succ j =>
        rw [show o + (j + 1) = o + 1 + j by omega, e3 j (by simpa using hj)]
        rfl
    · simp at hj
      rw [e4 j (by omega), Array.getElem?_setIfInBounds_ne (by omega)]
theorem setCells_other (g : Nat) : ∀ (vs : List Value) (o : Nat) (w : World), Below g w (w.setCells g o vs)
  | [], o, w => Below.refl _ _
  | v :: vs, o, w => ((Below.refl g w).setCell (p := ⟨g, o, none⟩) (Nat.le_refl _) v).trans (setCells_other g vs (o + 1) _)
theorem PSt.put {L : List Cd} {w : World} (h : PSt g c B n w0 L w) (i : Nat) (hi : i < L.length) (y : Cd) : PSt g c B n w0 (L.set i y) (w.setCells g (i * 4) [.int .i64 y.f0, .int .i64 y.f1, .int .i64 y.f2, .string y.f3]) := by
  obtain ⟨cur, hb, hs, hc⟩ := h.blk
  have hcap := h.cap
  have hlen := h.len
  obtain ⟨cur', e1, e2, e3, e4⟩ := heap_setCells_at g [.int .i64 y.f0, .int .i64 y.f1, .int .i64 y.f2, .string y.f3] (i * 4) w cur _ hb (by simp; omega)
  refine ⟨⟨cur', e1, e2.trans hs, fun k x hx => ?_⟩, by rw [List.length_set]; exact hlen, hcap, h.big, h.low, h.below.trans ((setCells_other g _ _ w).mono h.low)⟩
  by_cases hk : k = i
  · subst hk
    rw [List.getElem?_set_self hi] at hx
    obtain rfl := Option.some.inj hx
    exact ⟨e3 0 (by simp), e3 1 (by simp), e3 2 (by simp), e3 3 (by simp)⟩
  · rw [List.getElem?_set_ne (by omega)] at hx
    have hc2 := hc k x hx
    rw [e4 (k * 4) (by simp; omega), e4 (k * 4 + 1) (by simp; omega), e4 (k * 4 + 2) (by simp; omega), e4 (k * 4 + 3) (by simp; omega)]
    exact hc2

set_option maxHeartbeats 4000000 in
set_option maxRecDepth 100000 in
theorem swap_order (L : List Cd) (w : World) (i k : Nat) (vi vk : Int) (h : PSt g c B n w0 L w) (hi : i < L.length) (hk : k < L.length) (ei : vi = i) (ek : vk = k) :
    Calls Try.prog 113 #[.slice (some ⟨g, 0, none⟩) n c, .int .i64 vi, .int .i64 vk] w fun e w' => e = .returned (.tuple #[]) ∧ PSt g c B n w0 (swp z28 L i k) w' := by
  subst ei
  subst ek
  have hsz : (Try.prog.info? 28).map (·.size) = some 4 := by kernel_rfl
  obtain ⟨x, hx⟩ : ∃ x, x = L.getD i z28 := ⟨_, rfl⟩
  obtain ⟨y, hy⟩ : ∃ y, y = L.getD k z28 := ⟨_, rfl⟩
  have cx := h.cells i hi
  have cy := h.cells k hk
  rw [← hx] at cx
  rw [← hy] at cy
  have hsw : swp z28 L i k = (L.set i y).set k x := by rw [hx, hy]; rfl
  rw [hsw]
  have H1 := h.drew.put i hi y
  have H2 := Aside0.mk (H1.put k (by rw [List.length_set]; exact hk) x)
  have HT1 := Aside0.mk (h.drew.there i hi)
  have HT2 := Aside0.mk (H1.there k (by rw [List.length_set]; exact hk))
  have b1 : (0 : Int) ≤ (i : Int) := by omega
  have b2 : (i : Int) < (n : Int) := by have := h.len; omega
  have b3 : (0 : Int) ≤ (k : Int) := by omega
  have b4 : (k : Int) < (n : Int) := by have := h.len; omega
  have HC := Aside0.mk (And.intro cx cy)
  have hu := Try.underlying28
  clear h hx hy hi hk hsw H1 cx cy
  go_enter Try.func113, Try.ntmps113
  go_wp2_with fail
  refine start_ (n := 16) (S := fun w' => w'.cell? ⟨g, i * 4, none⟩ = some (.int .i64 x.f0) ∧ w'.cell? ⟨g, i * 4 + 1, none⟩ = some (.int .i64 x.f1) ∧ w'.cell? ⟨g, i * 4 + 2, none⟩ = some (.int .i64 x.f2) ∧ w'.cell? ⟨g, i * 4 + 3, none⟩ = some (.string x.f3) ∧ w'.cell? ⟨g, k * 4, none⟩ = some (.int .i64 y.f0) ∧ w'.cell? ⟨g, k * 4 + 1, none⟩ = some (.int .i64 y.f1) ∧ w'.cell? ⟨g, k * 4 + 2, none⟩ = some (.int .i64 y.f2) ∧ w'.cell? ⟨g, k * 4 + 3, none⟩ = some (.string y.f3)) (ds := [13, 15]) #[false, false, false, false, false, false, false, false, false, false, false, false, false, false, false, false] (by kernel_rfl) rfl rfl ⟨HC.out.1.1, HC.out.1.2.1, HC.out.1.2.2.1, HC.out.1.2.2.2, HC.out.2.1, HC.out.2.2.1, HC.out.2.2.2.1, HC.out.2.2.2.2⟩ (fun hHeld => ?_)
  refine pure_ (i := 0) (N := some 6) (v := ?_) (a' := ?_) #[true, false, false, false, false, false, false, false, false, false, false, false, false, false, false, false] rfl rfl (by kernel_rfl) (fun _ _ _ h => h) (Or.inl ⟨by rfl, ?_⟩) ?_ ?_
  rotate_left
  · intro w'
    go_simp
    with_reducible rfl
  rotate_left
  · simp only [Act.put, List.setIfInBounds_toArray, List.set_cons_zero, List.set_cons_succ, i64_w, i32_w]
    rfl
  refine pure_ (i := 1) (N := some 7) (v := ?_) (a' := ?_) #[true, true, false, false, false, false, false, false, false, false, false, false, false, false, false, false] rfl rfl (by kernel_rfl) (fun _ _ _ h => h) (Or.inl ⟨by rfl, ?_⟩) ?_ ?_
  rotate_left
  · intro w'
    go_simp
    with_reducible rfl
  rotate_left
  · simp only [Act.put, List.setIfInBounds_toArray, List.set_cons_zero, List.set_cons_succ, i64_w, i32_w]
    rfl
  refine pure_ (i := 2) (N := some 8) (v := ?_) (a' := ?_) #[true, true, true, false, false, false, false, false, false, false, false, false, false, false, false, false] rfl rfl (by kernel_rfl) (fun _ _ _ h => h) (Or.inl ⟨by rfl, ?_⟩) ?_ ?_
  rotate_left
  · intro w'
    go_simp
    with_reducible rfl
  rotate_left
  · simp only [Act.put, List.setIfInBounds_toArray, List.set_cons_zero, List.set_cons_succ, i64_w, i32_w]
    rfl
  refine pure_ (i := 3) (N := some 9) (v := ?_) (a' := ?_) #[true, true, true, true, false, false, false, false, false, false, false, false, false, false, false, false] rfl rfl (by kernel_rfl) (fun _ _ _ h => h) (Or.inl ⟨by rfl, ?_⟩) ?_ ?_
  rotate_left
  · intro w'
    go_simp
    with_reducible rfl
  rotate_left
  · simp only [Act.put, List.setIfInBounds_toArray, List.set_cons_zero, List.set_cons_succ, i64_w, i32_w]
    rfl
  refine pure_ (i := 4) (N := some 10) (v := ?_) (a' := ?_) #[true, true, true, true, true, false, false, false, false, false, false, false, false, false, false, false] rfl rfl (by kernel_rfl) (fun _ _ _ h => h) (Or.inl ⟨by rfl, ?_⟩) ?_ ?_
  rotate_left
  · intro w'
    go_simp
    with_reducible rfl
  rotate_left
  · simp only [Act.put, List.setIfInBounds_toArray, List.set_cons_zero, List.set_cons_succ, i64_w, i32_w]
    rfl
  refine pure_ (i := 5) (N := some 11) (v := ?_) (a' := ?_) #[true, true, true, true, true, true, false, false, false, false, false, false, false, false, false, false] rfl rfl (by kernel_rfl) (fun _ _ _ h => h) (Or.inl ⟨by rfl, ?_⟩) ?_ ?_
  rotate_left
  · intro w'
    go_simp
    with_reducible rfl
  rotate_left
  · simp only [Act.put, List.setIfInBounds_toArray, List.set_cons_zero, List.set_cons_succ, i64_w, i32_w]
    rfl
  refine pure_ (i := 6) (N := some 12) (v := ?_) (a' := ?_) #[true, true, true, true, true, true, true, false, false, false, false, false, false, false, false, false] rfl rfl (by kernel_rfl) (fun _ _ _ h => h) (Or.inl ⟨by rfl, ?_⟩) ?_ ?_
  rotate_left
  · intro w'
    go_simp
    with_reducible rfl
  rotate_left
  · simp only [Act.put, List.setIfInBounds_toArray, List.set_cons_zero, List.set_cons_succ, i64_w, i32_w]
    rfl
  refine pure_ (i := 8) (N := some 14) (v := ?_) (a' := ?_) #[true, true, true, true, true, true, true, false, true, false, false, false, false, false, false, false] rfl rfl (by kernel_rfl) (fun _ _ _ h => h) (Or.inl ⟨by rfl, ?_⟩) ?_ ?_
  rotate_left
  · intro w'
    go_simp
    with_reducible rfl
  rotate_left
  · simp only [Act.put, List.setIfInBounds_toArray, List.set_cons_zero, List.set_cons_succ, i64_w, i32_w]
    rfl
  refine pure_ (i := 9) (N := some 15) (v := ?_) (a' := ?_) #[true, true, true, true, true, true, true, false, true, true, false, false, false, false, false, false] rfl rfl (by kernel_rfl) (fun _ _ _ h => h) (Or.inl ⟨by rfl, ?_⟩) ?_ ?_
  rotate_left
  · intro w'
    go_simp
    with_reducible rfl
  rotate_left
  · simp only [Act.put, List.setIfInBounds_toArray, List.set_cons_zero, List.set_cons_succ, i64_w, i32_w]
    rfl
  refine pure_ (i := 10) (N := some 16) (v := ?_) (a' := ?_) #[true, true, true, true, true, true, true, false, true, true, true, false, false, false, false, false] rfl rfl (by kernel_rfl) (fun _ _ _ h => h) (Or.inl ⟨by rfl, ?_⟩) ?_ ?_
  rotate_left
  · intro w'
    go_simp
    with_reducible rfl
  rotate_left
  · simp only [Act.put, List.setIfInBounds_toArray, List.set_cons_zero, List.set_cons_succ, i64_w, i32_w]
    rfl
  refine take_ (i := 7) (N := some 13) (v := ?_) (a' := ?_) #[true, true, true, true, true, true, true, true, true, true, true, false, false, false, false, false] rfl rfl (by kernel_rfl) (fun _ _ _ h => h) (Or.inl ⟨by rfl, ?_⟩) hHeld ?_ ?_
  rotate_left
  · rintro w' ⟨s0, s1, s2, s3, s4, s5, s6, s7⟩
    go_simp
    with_reducible rfl
  rotate_left
  · simp only [Act.put, List.setIfInBounds_toArray, List.set_cons_zero, List.set_cons_succ, i64_w, i32_w]
    rfl
  refine take_ (i := 11) (N := some 17) (v := ?_) (a' := ?_) #[true, true, true, true, true, true, true, true, true, true, true, true, false, false, false, false] rfl rfl (by kernel_rfl) (fun _ _ _ h => h) (Or.inl ⟨by rfl, ?_⟩) hHeld ?_ ?_
  rotate_left
  · rintro w' ⟨s0, s1, s2, s3, s4, s5, s6, s7⟩
    go_simp
    with_reducible rfl
  rotate_left
  · simp only [Act.put, List.setIfInBounds_toArray, List.set_cons_zero, List.set_cons_succ, i64_w, i32_w]
    rfl
  refine pure_ (i := 12) (N := some 18) (v := ?_) (a' := ?_) #[true, true, true, true, true, true, true, true, true, true, true, true, true, false, false, false] rfl rfl (by kernel_rfl) (fun _ _ _ h => h) (Or.inl ⟨by rfl, ?_⟩) ?_ ?_
  rotate_left
  · intro w'
    go_simp
    with_reducible rfl
  rotate_left
  · simp only [Act.put, List.setIfInBounds_toArray, List.set_cons_zero, List.set_cons_succ, i64_w, i32_w]
    rfl
  refine last_ (i := 13) (N := none) #[true, true, true, true, true, true, true, true, true, true, true, true, true, true, false, false] rfl rfl (by kernel_rfl) (by decide) (fun K hK => ?_)
  rw [if_pos (by rfl)]
  refine wp_store_mid 28 _ _ rfl g (i * 4) #[.int .i64 y.f0, .int .i64 y.f1, .int .i64 y.f2, .string y.f3] rfl rfl HT1.out hsz (by simp [Value.oneCell']) ?_
  refine hK.out _ _ ?_
  clear hK K
  simp only [Act.put]
  refine pure_ (i := 14) (N := some 19) (v := ?_) (a' := ?_) #[true, true, true, true, true, true, true, true, true, true, true, true, true, true, true, false] rfl rfl (by kernel_rfl) (fun _ _ _ h => h) (Or.inl ⟨by rfl, ?_⟩) ?_ ?_
  rotate_left
  · intro w'
    go_simp
    with_reducible rfl
  rotate_left
  · simp only [Act.put, List.setIfInBounds_toArray, List.set_cons_zero, List.set_cons_succ, i64_w, i32_w]
    rfl
  refine last_ (i := 15) (N := none) #[true, true, true, true, true, true, true, true, true, true, true, true, true, true, true, true] rfl rfl (by kernel_rfl) (by decide) (fun K hK => ?_)
  rw [if_pos (by rfl)]
  refine wp_store_mid 28 _ _ rfl g (k * 4) #[.int .i64 x.f0, .int .i64 x.f1, .int .i64 x.f2, .string x.f3] rfl rfl HT2.out hsz (by simp [Value.oneCell']) ?_
  refine hK.out _ _ ?_
  clear hK K
  simp only [Act.put]
  refine done_ (by kernel_rfl) ?_
  go_end0
  exact ⟨rfl, H2.out⟩
end Go.Proofs.Ytopfjjdkffdjpaa.Q
