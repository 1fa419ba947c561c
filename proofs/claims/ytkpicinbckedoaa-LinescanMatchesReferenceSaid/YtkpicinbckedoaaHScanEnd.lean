/- What is proved: contracts of the scanner's End, Peek, Offset, Err. -/
import Derived.Test.YtkpicinbckedoaaHScanWord
namespace Go.Proofs.Ytkpicinbckedoaa.Q
open Go.RowKit Go.Proofs.YtkpicinbckedoaaW.PrintWords Go.Proofs.YtkpicinbckedoaaW.PrintLast Go.Proofs.YtkpicinbckedoaaW.PrintMore
set_option linter.unusedVariables false
set_option linter.unusedSimpArgs false

set_option maxHeartbeats 4000000 in
set_option maxRecDepth 100000 in
theorem end1 (W : World) (g bx : Nat) (s : ByteArray) (i : Nat) (ok : Bool) (hx : W.cell? ⟨bx, 0, none⟩ = some (.pointer (some ⟨g, 0, none⟩))) (h0 : W.cell? ⟨g, 0, none⟩ = some (.string s)) (h1 : W.cell? ⟨g, 1, none⟩ = some (.int .i64 i)) (hok : ok = decide (s.size ≤ i)) :
    Calls Try.prog 54 #[.pointer (some ⟨bx, 0, none⟩)] W fun e W' => e = (if ok then .returned (.tuple #[]) else .panicked scFail) ∧ ∃ m, W' = W.drewN m := by
  have hu := Try.underlying84
  by_cases h : i < s.size
  · have hk : ok = false := by rw [hok]; exact decide_eq_false (by omega)
    subst hk
    clear hok
    go_enter Try.func54, Try.ntmps54
    go_wp2_with fail
    go_quiet (fail)
    go_wp2
    exact ⟨rfl, rfl, _, rfl⟩
  · have hk : ok = true := by rw [hok]; exact decide_eq_true (by omega)
    subst hk
    clear hok
    go_enter Try.func54, Try.ntmps54
    go_wp2_with fail
    go_quiet (fail)
    go_wp2
    go_end0
    exact ⟨rfl, _, rfl⟩

set_option maxHeartbeats 4000000 in
set_option maxRecDepth 100000 in
theorem end_any (w0 w : World) (g : Nat) (s : ByteArray) (i : Nat) (hI : IsS72 w0 w g s (i : Int) false) (hB : Below w0.heap.size w0 w) :
    Calls Try.prog 22 #[.pointer (some ⟨g, 0, none⟩)] w fun e w' => e = .returned (.tuple #[]) ∧ IsS72 w0 w' g s (i : Int) (!decide (s.size ≤ i)) ∧ Below w0.heap.size w0 w' ∧ KeepBut w w' g none := by
  have hmf : ∀ (fn : Fn) (first cap : Array Value) (w : World), (Instr.makeFunc fn first cap).run Try.prog w = .ok (.func fn first cap) w := fun _ _ _ _ => rfl
  obtain ⟨w2, hw2⟩ : ∃ w2, w2 = w.alloc (.cells #[.pointer (some ⟨g, 0, none⟩)] 41) := ⟨_, rfl⟩
  have hb2 : Below w.heap.size w w2 := by rw [hw2]; exact (Below.refl _ w).alloc (Nat.le_refl _) _
  have hx2 : w2.heap[w.heap.size]? = some (.cells #[.pointer (some ⟨g, 0, none⟩)] 41 (0, 0)) := by rw [hw2]; exact blk_new w _
  have hI2 := hI.below hb2
  have hB2 := below_weaken hB hB.size hb2
  have HG := Aside0.mk (guard_any w0 w2 g s (i : Int) (i : Int) 54 #[.pointer (some ⟨w.heap.size, 0, none⟩)] (decide (s.size ≤ i)) (fun W' => ∃ W, Below w2.heap.size w2 W ∧ ∃ m, W' = W.drewN m) hI2 hB2
    ⟨fun _ _ => rfl, fun W hW => (end1 W g w.heap.size s i _ (blk_cell ((hW.block _ (blk_lt hx2)).trans hx2) 0) (cellS72_0 ((hW.block _ (blk_lt hI2.1)).trans hI2.1)) (cellS72_1 ((hW.block _ (blk_lt hI2.1)).trans hI2.1)) rfl).mono (fun e W' ⟨he, m, hm⟩ => by subst hm; exact ⟨he, Nat.le_refl _, fun _ _ _ => rfl, W, hW, m, rfl⟩)⟩
    (fun W' ⟨W, hW, m, hm⟩ => by subst hm; exact ⟨(hI2.below hW).drewN m, pw_below_drewN (below_weaken hB2 hB2.size hW) m⟩))
  have HH : ∀ (e : Ending) (w' : World), (e = .returned (.bool (decide (s.size ≤ i))) ∧ IsS72 w0 w' g s (i : Int) (!decide (s.size ≤ i)) ∧ Below w0.heap.size w0 w' ∧ w2.heap.size ≤ w'.heap.size ∧ ∃ W1, (∃ W, Below w2.heap.size w2 W ∧ ∃ m, W1 = W.drewN m) ∧ ∀ k, k < w2.heap.size → k ≠ g → w'.heap[k]? = W1.heap[k]?) →
      e = .returned (.bool (decide (s.size ≤ i))) ∧ IsS72 w0 w' g s (i : Int) (!decide (s.size ≤ i)) ∧ Below w0.heap.size w0 w' ∧ KeepBut w w' g none := fun e w' ⟨h1, h2, h3, h4, W1, ⟨W, hW, m, hm⟩, h5⟩ => by
    subst hm
    have hz := hb2.size
    exact ⟨h1, h2, h3, by omega, fun k hk hg _ => by rw [h5 k (by omega) hg]; exact (hW.block k (by omega)).trans (hb2.block k hk)⟩
  have HG2 := Aside0.mk (HG.out.mono HH)
  have HW2 := Aside0.mk hw2
  clear HG HH hw2 hb2 hx2 hI2 hB2 hI hB
  go_enter Try.func22, Try.ntmps22
  go_wp2_with (rw [← HW2.out]; refine Calls.mono HG2.out ?_; rintro e w3 ⟨rfl, hI3, hB3, hK3⟩; have HI := Aside0.mk hI3; have HB := Aside0.mk hB3; have HK := Aside0.mk hK3; clear HG2 hI3 hB3 hK3)
  go_end0
  exact ⟨rfl, HI.out, HB.out, HK.out⟩

set_option maxHeartbeats 4000000 in
set_option maxRecDepth 100000 in
theorem offset_any (w : World) (g : Nat) (i : Int) (h1 : w.cell? ⟨g, 1, none⟩ = some (.int .i64 i)) :
    Calls Try.prog 24 #[.pointer (some ⟨g, 0, none⟩)] w fun e w' => e = .returned (.int .i64 i) ∧ w' = w := by
  go_enter Try.func24, Try.ntmps24
  go_wp2
  go_ret
  exact ⟨rfl, rfl⟩

set_option maxHeartbeats 4000000 in
set_option maxRecDepth 100000 in
theorem err_any (w : World) (g : Nat) (bad : Bool) (h1 : w.cell? ⟨g, 2, none⟩ = some (.bool bad)) :
    Calls Try.prog 25 #[.pointer (some ⟨g, 0, none⟩)] w fun e w' => e = .returned (.int .i64 (if bad then 6 else 0)) ∧ w' = w := by
  cases bad <;> (
    go_enter Try.func25, Try.ntmps25
    go_wp2
    go_ret
    exact ⟨by simp, rfl⟩)

set_option maxHeartbeats 4000000 in
set_option maxRecDepth 100000 in
theorem err_nil (w : World) : Calls Try.prog 25 #[.pointer none] w fun e w' => e = .returned (.int .i64 6) ∧ w' = w := by
  go_enter Try.func25, Try.ntmps25
  go_wp2
  go_ret
  exact ⟨rfl, rfl⟩

set_option maxHeartbeats 4000000 in
set_option maxRecDepth 100000 in
theorem peek_any (w0 w : World) (g : Nat) (s : ByteArray) (i : Nat) (bad : Bool) (hI : IsS72 w0 w g s (i : Int) bad) (hB : Below w0.heap.size w0 w) (hs : s.size ≤ 4611686018427387904) :
    Calls Try.prog 21 #[.pointer (some ⟨g, 0, none⟩)] w fun e w' => e = .returned (.int .u8 (if bad then 0 else if i < s.size then bt s i else 0)) ∧ IsS72 w0 w' g s (i : Int) bad ∧ Below w0.heap.size w0 w' ∧ KeepBut w w' g none := by
  have h1 := cellS72_2 hI.1
  have HI := Aside0.mk hI
  have HB := Aside0.mk hB
  clear hI hB
  cases bad with
  | true =>
    go_enter Try.func21, Try.ntmps21
    go_wp2_with fail
    go_ret
    exact ⟨by simp, HI.out, HB.out, KeepBut.refl _ _ _⟩
  | false =>
    by_cases h : i < s.size
    · have hn := Aside0.mk (next_some s i false h)
      have hb0 := bt_range s i
      go_enter Try.func21, Try.ntmps21
      go_wp2_with (go_at_call 53; refine (linescan_Scanner_next.calls g s (i : Int) false _ _ _ _ _ w0 _ HI.out HB.out hn.out).mono ?_; rintro e w1 ⟨rfl, hI1, hB1, hK1⟩; have n0_ := Aside0.mk hI1; have n1_ := Aside0.mk hB1; have n2_ := Aside0.mk hK1; clear HI HB hI1 hB1 hK1; have HI := n0_; have HB := n1_; have HK := n2_; clear n0_ n1_ n2_)
      go_ret
      exact ⟨by simp [h], HI.out, HB.out, HK.out⟩
    · have hn := Aside0.mk (next_none s i false h)
      go_enter Try.func21, Try.ntmps21
      go_wp2_with (go_at_call 53; refine (linescan_Scanner_next.calls g s (i : Int) false _ _ _ _ _ w0 _ HI.out HB.out hn.out).mono ?_; rintro e w1 ⟨rfl, hI1, hB1, hK1⟩; have n0_ := Aside0.mk hI1; have n1_ := Aside0.mk hB1; have n2_ := Aside0.mk hK1; clear HI HB hI1 hB1 hK1; have HI := n0_; have HB := n1_; have HK := n2_; clear n0_ n1_ n2_)
      go_ret
      exact ⟨by simp [h], HI.out, HB.out, HK.out⟩
end Go.Proofs.Ytkpicinbckedoaa.Q
