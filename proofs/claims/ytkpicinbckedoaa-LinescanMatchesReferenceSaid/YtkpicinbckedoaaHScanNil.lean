/- What is proved: Word on a nil pointer. -/
import Derived.Test.YtkpicinbckedoaaHScanEnd
namespace Go.Proofs.Ytkpicinbckedoaa.Q
open Go.RowKit Go.Proofs.YtkpicinbckedoaaW.PrintWords Go.Proofs.YtkpicinbckedoaaW.PrintLast Go.Proofs.YtkpicinbckedoaaW.PrintMore
set_option linter.unusedVariables false
set_option linter.unusedSimpArgs false

set_option maxHeartbeats 4000000 in
set_option maxRecDepth 100000 in
theorem word_nil (w : World) (A : Option Addr) (cap : Nat) (l : List ByteArray) :
    Calls Try.prog 14 #[.pointer none, .slice A l.length cap] w fun e w' => e = .returned (.int .i64 (-1)) ∧ Below w.heap.size w w' := by
  have hmf : ∀ (fn : Fn) (first cap : Array Value) (w : World), (Instr.makeFunc fn first cap).run Try.prog w = .ok (.func fn first cap) w := fun _ _ _ _ => rfl
  obtain ⟨w2, hw2⟩ : ∃ w2, w2 = ((w.alloc (.cells #[.pointer none] 41)).alloc (.cells #[.slice A l.length cap] 28)).alloc (.cells #[.int .i64 (-1)] 3) := ⟨_, rfl⟩
  have hb2 : Below w.heap.size w w2 := by rw [hw2]; exact (((Below.refl _ w).alloc (Nat.le_refl _) _).alloc (by rw [World.size_alloc]; omega) _).alloc (by rw [World.size_alloc, World.size_alloc]; omega) _
  have HG := Aside0.mk (guard_nil w2 38 #[.pointer (some ⟨w.heap.size, 0, none⟩), .pointer (some ⟨w.heap.size + 2, 0, none⟩), .pointer (some ⟨w.heap.size + 1, 0, none⟩)])
  have HW2 := Aside0.mk hw2
  have HB2 := Aside0.mk hb2
  clear hw2 hb2
  go_enter Try.func14, Try.ntmps14
  go_wp2_with (rw [← HW2.out]; refine Calls.mono HG.out ?_; rintro e w3 ⟨rfl, hK3⟩; have HK := Aside0.mk (below_then HB2.out HB2.out.size hK3); clear HG hK3)
  go_ret
  exact ⟨rfl, HK.out⟩

set_option maxHeartbeats 4000000 in
set_option maxRecDepth 100000 in
theorem end_bad (w0 w : World) (g : Nat) (s : ByteArray) (i : Int) (hI : IsS72 w0 w g s i true) (hB : Below w0.heap.size w0 w) :
    Calls Try.prog 22 #[.pointer (some ⟨g, 0, none⟩)] w fun e w' => e = .returned (.tuple #[]) ∧ IsS72 w0 w' g s i true ∧ Below w0.heap.size w0 w' ∧ KeepBut w w' g none := by
  have hmf : ∀ (fn : Fn) (first cap : Array Value) (w : World), (Instr.makeFunc fn first cap).run Try.prog w = .ok (.func fn first cap) w := fun _ _ _ _ => rfl
  obtain ⟨w2, hw2⟩ : ∃ w2, w2 = w.alloc (.cells #[.pointer (some ⟨g, 0, none⟩)] 41) := ⟨_, rfl⟩
  have hb2 : Below w.heap.size w w2 := by rw [hw2]; exact (Below.refl _ w).alloc (Nat.le_refl _) _
  have HG := Aside0.mk (guard_failed w0 w2 g s i 54 #[.pointer (some ⟨w.heap.size, 0, none⟩)] (hI.below hb2) (below_weaken hB hB.size hb2))
  have HW2 := Aside0.mk hw2
  have HB2 := Aside0.mk hb2
  clear hI hB hw2 hb2
  go_enter Try.func22, Try.ntmps22
  go_wp2_with (rw [← HW2.out]; refine Calls.mono HG.out ?_; rintro e w3 ⟨rfl, hI3, hB3, hK3⟩; have HI := Aside0.mk hI3; have HB := Aside0.mk hB3; have HK := Aside0.mk (KeepBut.of_below (below_then HB2.out HB2.out.size hK3) g none); clear HG hI3 hB3 hK3)
  go_end0
  exact ⟨rfl, HI.out, HB.out, HK.out⟩
end Go.Proofs.Ytkpicinbckedoaa.Q
