/- What is proved: contracts of the scanner's Identifier. -/
import Derived.Test.YtkpicinbckedoaaHScanId
namespace Go.Proofs.Ytkpicinbckedoaa.Q
open Go.RowKit Go.Proofs.YtkpicinbckedoaaW.PrintWords Go.Proofs.YtkpicinbckedoaaW.PrintLast Go.Proofs.YtkpicinbckedoaaW.PrintMore
set_option linter.unusedVariables false
set_option linter.unusedSimpArgs false

theorem scIdLoop_spec (s : ByteArray) (i : Nat) : ∀ (k j : Nat), j ≤ s.size → j ≤ (scIdLoop s i k j).2 ∧ (scIdLoop s i k j).2 ≤ s.size
  | 0, j, h => ⟨Nat.le_refl _, h⟩
  | k + 1, j, h => by
    rw [scIdLoop]
    split
    · split
      · rename_i h2
        have h3 := scTake_lt h2
        have h4 := scIdLoop_spec s i k (j + 1) h3
        exact ⟨by omega, h4.2⟩
      · split
        · rename_i h2
          have h3 := scTake_lt h2.2
          split
          · rename_i h5
            have h6 := scTake_lt h5
            have h4 := scIdLoop_spec s i k (j + 2) h6
            exact ⟨by omega, h4.2⟩
          · exact ⟨by show j ≤ j + 1; omega, h3⟩
        · exact ⟨Nat.le_refl _, h⟩
    · exact ⟨Nat.le_refl _, h⟩
theorem scIdent_spec (s : ByteArray) (i : Nat) (h : i ≤ s.size) : i ≤ (scIdent s i).2 ∧ (scIdent s i).2 ≤ s.size := by
  rw [scIdent]
  split
  · rename_i h2
    have h3 := scTake_lt h2
    have h4 := scIdLoop_spec s i 39 (i + 1) h3
    exact ⟨by omega, h4.2⟩
  · exact ⟨Nat.le_refl _, h⟩

set_option maxHeartbeats 4000000 in
set_option maxRecDepth 100000 in
theorem ident_ok (w0 w : World) (g : Nat) (s : ByteArray) (i : Nat) (hI : IsS72 w0 w g s (i : Int) false) (hB : Below w0.heap.size w0 w) (hs : s.size ≤ 4611686018427387904) (his : i ≤ s.size) :
    Calls Try.prog 19 #[.pointer (some ⟨g, 0, none⟩)] w fun e w' => e = .returned (.string (if (scIdent s i).1 then s.extract i (scIdent s i).2 else ⟨#[]⟩)) ∧ IsS72 w0 w' g s ((scIdent s i).2 : Int) (!(scIdent s i).1) ∧ Below w0.heap.size w0 w' ∧ KeepBut w w' g none := by
  have hmf : ∀ (fn : Fn) (first cap : Array Value) (w : World), (Instr.makeFunc fn first cap).run Try.prog w = .ok (.func fn first cap) w := fun _ _ _ _ => rfl
  obtain ⟨w2, hw2⟩ : ∃ w2, w2 = (w.alloc (.cells #[.pointer (some ⟨g, 0, none⟩)] 41)).alloc (.cells #[.int .i64 0] 3) := ⟨_, rfl⟩
  have hz2 : w2.heap.size = w.heap.size + 2 := by rw [hw2]; simp
  have lg := blk_lt hI.1
  have hz0 := hB.size
  have hSC : SC w0 w2 w2 w2 g w.heap.size (w.heap.size + 1) s (i : Int) (.int .i64 0) := by
    refine ⟨by rw [hw2]; exact (hI.alloc _).alloc _, by rw [hw2]; exact (hB.alloc hz0 _).alloc (by rw [World.size_alloc]; omega) _, by rw [hw2]; exact blk_alloc (blk_new w _) _, ?_, ⟨Nat.le_refl _, fun _ _ _ _ => rfl⟩, by omega⟩
    have h := blk_new (w.alloc (.cells #[.pointer (some ⟨g, 0, none⟩)] 41)) (.cells #[.int .i64 0] 3)
    rw [World.size_alloc] at h
    rw [hw2]
    exact h
  have HG := Aside0.mk (guard_sc (j := ((scIdent s i).2 : Int)) (v1 := .int .i64 (i : Int)) (ok := (scIdent s i).1) (f := 49) (cap := #[.pointer (some ⟨w.heap.size, 0, none⟩), .pointer (some ⟨w.heap.size + 1, 0, none⟩)]) hSC (by omega) (fun _ _ => rfl) (fun W hW hS => ident1 w0 w2 W W g _ _ s i 0 hs hS))
  obtain ⟨r, hr⟩ : ∃ r, r = scIdent s i := ⟨_, rfl⟩
  rw [← hr] at HG
  rw [← hr]
  have HK0 := Aside0.mk (show ∀ k, k < w.heap.size → w2.heap[k]? = w.heap[k]? from fun k hk => by rw [hw2, Below.heap_alloc _ _ _ (by rw [World.size_alloc]; omega), Below.heap_alloc _ _ _ hk])
  have HW2 := Aside0.mk hw2
  have HZ2 := Aside0.mk hz2
  have hj := scIdent_spec s i his
  rw [← hr] at hj
  have hcs0 : ∀ W : World, IsS72 w0 W g s (r.2 : Int) (!r.1) → W.cell? ⟨g, 0, none⟩ = some (.string s) ∧ W.cell? ⟨g, 1, none⟩ = some (.int .i64 r.2) := fun W h => ⟨cellS72_0 h.1, cellS72_1 h.1⟩
  clear hI hB hSC hr hw2 hz2
  obtain ⟨ok, j⟩ := r
  have HH : ∀ (e : Ending) (w' : World), (e = .returned (.bool ok) ∧ IsS72 w0 w' g s (j : Int) (!ok) ∧ Below w0.heap.size w0 w' ∧ w2.heap.size ≤ w'.heap.size ∧ w'.heap[w.heap.size + 1]? = some (.cells #[.int .i64 (i : Int)] 3 (0, 0)) ∧ w'.heap[w.heap.size]? = some (.cells #[.pointer (some ⟨g, 0, none⟩)] 41 (0, 0)) ∧ ∀ k, k < w2.heap.size → k ≠ g → k ≠ w.heap.size + 1 → w'.heap[k]? = w2.heap[k]?) →
      e = .returned (.bool ok) ∧ IsS72 w0 w' g s (j : Int) (!ok) ∧ Below w0.heap.size w0 w' ∧ KeepBut w w' g none ∧ w'.cell? ⟨w.heap.size + 1, 0, none⟩ = some (.int .i64 (i : Int)) ∧ w'.cell? ⟨w.heap.size, 0, none⟩ = some (.pointer (some ⟨g, 0, none⟩)) := fun e w' ⟨h1, h2, h3, h4, h5, h6, h7⟩ =>
    ⟨h1, h2, h3, ⟨by have := HZ2.out; omega, fun k hk hg _ => (h7 k (by have := HZ2.out; omega) hg (by omega)).trans (HK0.out k hk)⟩, blk_cell h5 0, blk_cell h6 0⟩
  have HG2 := Aside0.mk (HG.out.mono HH)
  clear HG HH HK0 HZ2
  cases ok with
  | true =>
    go_enter Try.func19, Try.ntmps19
    go_wp2_with (rw [← HW2.out]; refine Calls.mono HG2.out ?_; rintro e w3 ⟨rfl, hI3, hB3, hK3, hcn, hcx⟩; have HI := Aside0.mk hI3; have HB := Aside0.mk hB3; have HK := Aside0.mk hK3; have hc0 := (hcs0 _ hI3).1; have hc1 := (hcs0 _ hI3).2; clear HG2 hI3 hB3 hK3)
    have c1 : (0 : Int) ≤ (i : Int) := Int.natCast_nonneg _
    have c2 : (i : Int) ≤ (j : Int) := by have := hj.1; omega
    have c3 : (0 : Int) ≤ (j : Int) := Int.natCast_nonneg _
    have c4 : (j : Int) ≤ (s.size : Int) := by have := hj.2; omega
    go_quiet (fail)
    go_wp2_with fail
    go_ret
    exact ⟨by simp, HI.out.drewN _, pw_below_drewN HB.out _, HK.out⟩
  | false =>
    go_enter Try.func19, Try.ntmps19
    go_wp2_with (rw [← HW2.out]; refine Calls.mono HG2.out ?_; rintro e w3 ⟨rfl, hI3, hB3, hK3, hcn, hcx⟩; have HI := Aside0.mk hI3; have HB := Aside0.mk hB3; have HK := Aside0.mk hK3; clear HG2 hI3 hB3 hK3)
    go_ret
    exact ⟨by simp, HI.out, HB.out, HK.out⟩

set_option maxHeartbeats 4000000 in
set_option maxRecDepth 100000 in
theorem ident_bad (w0 w : World) (g : Nat) (s : ByteArray) (i : Int) (hI : IsS72 w0 w g s i true) (hB : Below w0.heap.size w0 w) :
    Calls Try.prog 19 #[.pointer (some ⟨g, 0, none⟩)] w fun e w' => e = .returned (.string ⟨#[]⟩) ∧ IsS72 w0 w' g s i true ∧ Below w0.heap.size w0 w' ∧ KeepBut w w' g none := by
  have hmf : ∀ (fn : Fn) (first cap : Array Value) (w : World), (Instr.makeFunc fn first cap).run Try.prog w = .ok (.func fn first cap) w := fun _ _ _ _ => rfl
  obtain ⟨w2, hw2⟩ : ∃ w2, w2 = (w.alloc (.cells #[.pointer (some ⟨g, 0, none⟩)] 41)).alloc (.cells #[.int .i64 0] 3) := ⟨_, rfl⟩
  have hb2 : Below w.heap.size w w2 := by rw [hw2]; exact ((Below.refl _ w).alloc (Nat.le_refl _) _).alloc (Nat.le_of_lt (by rw [World.size_alloc]; exact Nat.lt_succ_self _)) _
  have HG := Aside0.mk (guard_failed w0 w2 g s i 49 #[.pointer (some ⟨w.heap.size, 0, none⟩), .pointer (some ⟨w.heap.size + 1, 0, none⟩)] (hI.below hb2) (below_weaken hB hB.size hb2))
  have HW2 := Aside0.mk hw2
  have HB2 := Aside0.mk hb2
  clear hI hB hw2 hb2
  go_enter Try.func19, Try.ntmps19
  go_wp2_with (rw [← HW2.out]; refine Calls.mono HG.out ?_; rintro e w3 ⟨rfl, hI3, hB3, hK3⟩; have HI := Aside0.mk hI3; have HB := Aside0.mk hB3; have HK := Aside0.mk (KeepBut.of_below (below_then HB2.out HB2.out.size hK3) g none); clear HG hI3 hB3 hK3)
  go_ret
  exact ⟨rfl, HI.out, HB.out, HK.out⟩
end Go.Proofs.Ytkpicinbckedoaa.Q
