/- What is proved: awake (layer 25) answers true. -/
import Derived.Test.YtkpicinbckedoaaHTwo
namespace Go.Proofs.Ytkpicinbckedoaa.Q
open Go.RowKit Go.Proofs.YtkpicinbckedoaaW.PrintWords Go.Proofs.YtkpicinbckedoaaW.PrintLast Go.Proofs.YtkpicinbckedoaaW.PrintMore
set_option linter.unusedVariables false
set_option linter.unusedSimpArgs false

def tFixed12 : ByteArray := ⟨#[102, 105, 120, 101, 100, 32, 49, 50]⟩
def tFex : ByteArray := ⟨#[102, 101, 120]⟩
def lFeast : List ByteArray := [⟨#[102, 101, 97, 115, 116]⟩, ⟨#[102, 105, 120, 101, 100]⟩]
theorem aw1 : linescan_Scanner_Word.f ⟨#[102, 105, 120, 101, 100, 32, 49, 50]⟩ 0 false [⟨#[102, 101, 97, 115, 116]⟩, ⟨#[102, 105, 120, 101, 100]⟩] = some (1, ⟨#[102, 105, 120, 101, 100, 32, 49, 50]⟩, 5, false) := by decide +kernel
theorem aw2 : linescan_Scanner_Word.f ⟨#[102, 105, 120, 101, 100, 32, 49, 50]⟩ 5 false [⟨#[32]⟩] = some (0, ⟨#[102, 105, 120, 101, 100, 32, 49, 50]⟩, 6, false) := by decide +kernel
theorem aw3 : linescan_Scanner_Number.f ⟨#[102, 105, 120, 101, 100, 32, 49, 50]⟩ 6 false = some (12, ⟨#[102, 105, 120, 101, 100, 32, 49, 50]⟩, 8, false) := by decide +kernel
theorem aw4 : linescan_Scanner_End.f ⟨#[102, 105, 120, 101, 100, 32, 49, 50]⟩ 8 false = some (⟨#[102, 105, 120, 101, 100, 32, 49, 50]⟩, 8, false) := by decide +kernel
theorem aw5 : linescan_Scanner_Word.f ⟨#[102, 101, 120]⟩ 0 false [⟨#[102, 101, 97, 115, 116]⟩, ⟨#[102, 105, 120, 101, 100]⟩] = some (-1, ⟨#[102, 101, 120]⟩, 2, true) := by decide +kernel

def computuslaw25_awake.f : Option Bool := some true
set_option maxHeartbeats 4000000 in
set_option maxRecDepth 100000 in
theorem computuslaw25_awake.calls (r : Bool) (w : World) (h : computuslaw25_awake.f = some r) : Calls Try.prog 12 #[] w fun e w' => e = .returned (.bool r) ∧ Below w.heap.size w w' := by
  obtain rfl : r = true := by unfold computuslaw25_awake.f at h; simpa using h.symm
  clear h
  have H0 := Aside0.mk (Two.made w ⟨#[102, 105, 120, 101, 100, 32, 49, 50]⟩ ⟨#[102, 101, 120]⟩)
  go_enter Try.func12, Try.ntmps12
  go_wp2_with fail
  refine (new_any _ _).mono ?_; rintro e w1 ⟨rfl, rfl⟩
  go_wp2_with fail
  refine (new_any _ _).mono ?_; rintro e w1 ⟨rfl, rfl⟩
  obtain ⟨W, hW⟩ : ∃ W, W = (w.alloc (.cells #[.string ⟨#[102, 105, 120, 101, 100, 32, 49, 50]⟩, .int .i64 0, .bool false] 72)).alloc (.cells #[.string ⟨#[102, 101, 120]⟩, .int .i64 0, .bool false] 72) := ⟨_, rfl⟩
  rw [← hW] at H0
  rw [← hW]
  clear hW
  go_wp2_with fail
  refine Calls.mono (H0.out.words (l1 := [⟨#[102, 101, 97, 115, 116]⟩, ⟨#[102, 105, 120, 101, 100]⟩]) (cs := #[.string ⟨#[102, 101, 97, 115, 116]⟩, .string ⟨#[102, 105, 120, 101, 100]⟩]) (n := 2) rfl (by decide) rfl aw1) ?_; rintro e w1 ⟨rfl, h1⟩; have H1 := Aside0.mk h1; clear H0 h1
  go_wp2_with fail
  refine Calls.mono (H1.out.words (l1 := [⟨#[32]⟩]) (cs := #[.string ⟨#[32]⟩]) (n := 1) rfl (by decide) rfl aw2) ?_; rintro e w2 ⟨rfl, h1⟩; have H2 := Aside0.mk h1; clear H1 h1
  go_wp2_with fail
  refine Calls.mono (H2.out.number aw3) ?_; rintro e w3 ⟨rfl, h1⟩; have H3 := Aside0.mk h1; clear H2 h1
  go_wp2_with fail
  refine Calls.mono (H3.out.end_ aw4) ?_; rintro e w4 ⟨rfl, h1⟩; have H4 := Aside0.mk h1; clear H3 h1
  go_wp2_with fail
  refine Calls.mono (H4.out.swap.words (l1 := [⟨#[102, 101, 97, 115, 116]⟩, ⟨#[102, 105, 120, 101, 100]⟩]) (cs := #[.string ⟨#[102, 101, 97, 115, 116]⟩, .string ⟨#[102, 105, 120, 101, 100]⟩]) (n := 2) rfl (by decide) rfl aw5) ?_; rintro e w5 ⟨rfl, h1⟩; have H5 := Aside0.mk h1; clear H4 h1
  go_wp2_with fail
  refine Calls.mono H5.out.swap.err ?_; rintro e w6 ⟨rfl, rfl⟩
  go_wp2_with fail
  refine Calls.mono H5.out.swap.offset ?_; rintro e w6 ⟨rfl, rfl⟩
  go_wp2_with fail
  refine Calls.mono H5.out.err ?_; rintro e w6 ⟨rfl, rfl⟩
  go_wp2_with fail
  refine Calls.mono H5.out.offset ?_; rintro e w6 ⟨rfl, rfl⟩
  go_wp2_with fail
  refine Calls.mono (err_nil _) ?_; rintro e w6 ⟨rfl, rfl⟩
  go_wp2_with fail
  refine Calls.mono (word_nil _ _ _ [⟨#[97]⟩]) ?_; rintro e w7 ⟨rfl, hb7⟩
  have HB := Aside0.mk (H5.out.alloc (.cells #[.string ⟨#[97]⟩] 9)).B
  have HB7 := Aside0.mk hb7
  clear hb7
  go_wp2_with fail
  go_ret
  exact ⟨rfl, below_weaken HB.out HB.out.size HB7.out⟩
end Go.Proofs.Ytkpicinbckedoaa.Q
