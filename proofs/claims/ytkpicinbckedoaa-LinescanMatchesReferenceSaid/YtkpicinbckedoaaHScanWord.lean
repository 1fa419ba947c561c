/- What is proved: contracts of the scanner's Word. -/
import Derived.Test.YtkpicinbckedoaaHScanX
namespace Go.Proofs.Ytkpicinbckedoaa.Q
open Go.RowKit Go.Proofs.YtkpicinbckedoaaW.PrintWords Go.Proofs.YtkpicinbckedoaaW.PrintLast Go.Proofs.YtkpicinbckedoaaW.PrintMore
set_option linter.unusedVariables false
set_option linter.unusedSimpArgs false

set_option maxHeartbeats 4000000 in
set_option maxRecDepth 100000 in
theorem word_any (w0 w : World) (g : Nat) (s : ByteArray) (i : Nat) (A : Option Addr) (cap : Nat) (l : List ByteArray) (hI : IsS72 w0 w g s (i : Int) false) (hB : Below w0.heap.size w0 w) (hs : s.size ≤ 4611686018427387904) (his : i ≤ s.size) (hrow : Kd.string.C w A l.length l) (hA : ∀ ad, A = some ad → 0 < l.length → ad.block ≠ g) :
    Calls Try.prog 14 #[.pointer (some ⟨g, 0, none⟩), .slice A l.length cap] w fun e w' => e = .returned (.int .i64 (if (scWord s i l).1 then (scWord s i l).2.2 else -1)) ∧ IsS72 w0 w' g s ((scWord s i l).2.1 : Int) (!(scWord s i l).1) ∧ Below w0.heap.size w0 w' ∧ KeepBut w w' g none := by
  have hmf : ∀ (fn : Fn) (first cap : Array Value) (w : World), (Instr.makeFunc fn first cap).run Try.prog w = .ok (.func fn first cap) w := fun _ _ _ _ => rfl
  obtain ⟨w2, hw2⟩ : ∃ w2, w2 = ((w.alloc (.cells #[.pointer (some ⟨g, 0, none⟩)] 41)).alloc (.cells #[.slice A l.length cap] 28)).alloc (.cells #[.int .i64 (-1)] 3) := ⟨_, rfl⟩
  have hz2 : w2.heap.size = w.heap.size + 3 := by rw [hw2]; simp
  have lg := blk_lt hI.1
  have hz0 := hB.size
  have hSC : SC w0 w2 w2 w2 g w.heap.size (w.heap.size + 2) s (i : Int) (.int .i64 (-1)) := by
    refine ⟨by rw [hw2]; exact ((hI.alloc _).alloc _).alloc _, by rw [hw2]; exact ((hB.alloc hz0 _).alloc (by rw [World.size_alloc]; omega) _).alloc (by rw [World.size_alloc, World.size_alloc]; omega) _, by rw [hw2]; exact blk_alloc (blk_alloc (blk_new w _) _) _, ?_, ⟨Nat.le_refl _, fun _ _ _ _ => rfl⟩, by omega⟩
    have h := blk_new ((w.alloc (.cells #[.pointer (some ⟨g, 0, none⟩)] 41)).alloc (.cells #[.slice A l.length cap] 28)) (.cells #[.int .i64 (-1)] 3)
    rw [World.size_alloc, World.size_alloc] at h
    rw [hw2]
    exact h
  have hbw : w2.heap[w.heap.size + 1]? = some (.cells #[.slice A l.length cap] 28 (0, 0)) := by
    have h := blk_new (w.alloc (.cells #[.pointer (some ⟨g, 0, none⟩)] 41)) (.cells #[.slice A l.length cap] 28)
    rw [World.size_alloc] at h
    rw [hw2]
    exact blk_alloc h _
  have hk0 : ∀ k, k < w.heap.size → w2.heap[k]? = w.heap[k]? := fun k hk => by rw [hw2, Below.heap_alloc _ _ _ (by rw [World.size_alloc, World.size_alloc]; omega), Below.heap_alloc _ _ _ (by rw [World.size_alloc]; omega), Below.heap_alloc _ _ _ hk]
  have hWA0 : WordsAt w A l := ⟨hrow.2.1, fun k hk => by
    obtain ⟨ad, he, hc⟩ := Kd.at_string hrow (k : Int) (by omega) (by omega)
    exact ⟨ad, he, by simpa [rdOf] using hc⟩⟩
  have hlt : ∀ ad, A = some ad → 0 < l.length → ad.block < w.heap.size := fun ad e hl => by
    obtain ⟨ad', he, hc⟩ := hWA0.2 0 hl
    rw [e] at he
    obtain rfl := Option.some.inj he
    exact World.block_lt_of_cell? w (ad.add 0) hc
  have hWA : WordsAt w2 A l := hWA0.keep (g := w.heap.size) (fun k h1 _ => hk0 k h1) (fun ad e hl => by have := hlt ad e hl; omega)
  have HG := Aside0.mk (guard_sc (j := ((scWord s i l).2.1 : Int)) (v1 := .int .i64 (scWord s i l).2.2) (ok := (scWord s i l).1) (f := 38) (cap := #[.pointer (some ⟨w.heap.size, 0, none⟩), .pointer (some ⟨w.heap.size + 2, 0, none⟩), .pointer (some ⟨w.heap.size + 1, 0, none⟩)]) hSC (by omega) (fun _ _ => rfl) (fun W hW hS => word1 w0 w2 W W g _ _ (w.heap.size + 1) s i A cap l hs his hS ((hW.block _ (blk_lt hbw)).trans hbw) (hWA.keep (g := w2.heap.size) (fun k h1 _ => hW.block k h1) (fun ad e hl => by have := hlt ad e hl; omega)) ⟨by omega, by omega, fun ad e hl => ⟨hA ad e hl, by have := hlt ad e hl; omega⟩⟩ rfl))
  obtain ⟨r, hr⟩ : ∃ r, r = scWord s i l := ⟨_, rfl⟩
  rw [← hr] at HG
  rw [← hr]
  have HK0 := Aside0.mk hk0
  have HW2 := Aside0.mk hw2
  have HZ2 := Aside0.mk hz2
  clear hI hB hSC hr hw2 hz2 hbw hk0 hWA0 hlt hWA hrow hA
  obtain ⟨ok, j, v⟩ := r
  have HH : ∀ (e : Ending) (w' : World), (e = .returned (.bool ok) ∧ IsS72 w0 w' g s (j : Int) (!ok) ∧ Below w0.heap.size w0 w' ∧ w2.heap.size ≤ w'.heap.size ∧ w'.heap[w.heap.size + 2]? = some (.cells #[.int .i64 v] 3 (0, 0)) ∧ w'.heap[w.heap.size]? = some (.cells #[.pointer (some ⟨g, 0, none⟩)] 41 (0, 0)) ∧ ∀ k, k < w2.heap.size → k ≠ g → k ≠ w.heap.size + 2 → w'.heap[k]? = w2.heap[k]?) →
      e = .returned (.bool ok) ∧ IsS72 w0 w' g s (j : Int) (!ok) ∧ Below w0.heap.size w0 w' ∧ KeepBut w w' g none ∧ w'.cell? ⟨w.heap.size + 2, 0, none⟩ = some (.int .i64 v) ∧ w'.cell? ⟨w.heap.size, 0, none⟩ = some (.pointer (some ⟨g, 0, none⟩)) := fun e w' ⟨h1, h2, h3, h4, h5, h6, h7⟩ =>
    ⟨h1, h2, h3, ⟨by have := HZ2.out; omega, fun k hk hg _ => (h7 k (by have := HZ2.out; omega) hg (by omega)).trans (HK0.out k hk)⟩, blk_cell h5 0, blk_cell h6 0⟩
  have HG2 := Aside0.mk (HG.out.mono HH)
  clear HG HH HK0 HZ2
  cases ok with
  | true =>
    go_enter Try.func14, Try.ntmps14
    go_wp2_with (rw [← HW2.out]; refine Calls.mono HG2.out ?_; rintro e w3 ⟨rfl, hI3, hB3, hK3, hcn, hcx⟩; have HI := Aside0.mk hI3; have HB := Aside0.mk hB3; have HK := Aside0.mk hK3; clear HG2 hI3 hB3 hK3)
    go_ret
    exact ⟨by simp, HI.out, HB.out, HK.out⟩
  | false =>
    go_enter Try.func14, Try.ntmps14
    go_wp2_with (rw [← HW2.out]; refine Calls.mono HG2.out ?_; rintro e w3 ⟨rfl, hI3, hB3, hK3, hcn, hcx⟩; have HI := Aside0.mk hI3; have HB := Aside0.mk hB3; have HK := Aside0.mk hK3; clear HG2 hI3 hB3 hK3)
    go_ret
    exact ⟨by simp, HI.out, HB.out, HK.out⟩

set_option maxHeartbeats 4000000 in
set_option maxRecDepth 100000 in
theorem word_bad (w0 w : World) (g : Nat) (s : ByteArray) (i : Int) (A : Option Addr) (cap : Nat) (l : List ByteArray) (hI : IsS72 w0 w g s i true) (hB : Below w0.heap.size w0 w) :
    Calls Try.prog 14 #[.pointer (some ⟨g, 0, none⟩), .slice A l.length cap] w fun e w' => e = .returned (.int .i64 (-1)) ∧ IsS72 w0 w' g s i true ∧ Below w0.heap.size w0 w' ∧ KeepBut w w' g none := by
  have hmf : ∀ (fn : Fn) (first cap : Array Value) (w : World), (Instr.makeFunc fn first cap).run Try.prog w = .ok (.func fn first cap) w := fun _ _ _ _ => rfl
  obtain ⟨w2, hw2⟩ : ∃ w2, w2 = ((w.alloc (.cells #[.pointer (some ⟨g, 0, none⟩)] 41)).alloc (.cells #[.slice A l.length cap] 28)).alloc (.cells #[.int .i64 (-1)] 3) := ⟨_, rfl⟩
  have hb2 : Below w.heap.size w w2 := by rw [hw2]; exact (((Below.refl _ w).alloc (Nat.le_refl _) _).alloc (by rw [World.size_alloc]; omega) _).alloc (by rw [World.size_alloc, World.size_alloc]; omega) _
  have HG := Aside0.mk (guard_failed w0 w2 g s i 38 #[.pointer (some ⟨w.heap.size, 0, none⟩), .pointer (some ⟨w.heap.size + 2, 0, none⟩), .pointer (some ⟨w.heap.size + 1, 0, none⟩)] (hI.below hb2) (below_weaken hB hB.size hb2))
  have HW2 := Aside0.mk hw2
  have HB2 := Aside0.mk hb2
  clear hI hB hw2 hb2
  go_enter Try.func14, Try.ntmps14
  go_wp2_with (rw [← HW2.out]; refine Calls.mono HG.out ?_; rintro e w3 ⟨rfl, hI3, hB3, hK3⟩; have HI := Aside0.mk hI3; have HB := Aside0.mk hB3; have HK := Aside0.mk (KeepBut.of_below (below_then HB2.out HB2.out.size hK3) g none); clear HG hI3 hB3 hK3)
  go_ret
  exact ⟨rfl, HI.out, HB.out, HK.out⟩
end Go.Proofs.Ytkpicinbckedoaa.Q
