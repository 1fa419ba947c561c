/- What is proved: the conditions on bytes that the scanner's scans use (digit, letter, is, ..), as function values. -/
import Derived.Test.YtkpicinbckedoaaHScan
import Derived.Deep.RegionHeld3
namespace Go.Proofs.Ytkpicinbckedoaa.Q
open Go.RowKit Go.Proofs.YtkpicinbckedoaaW.PrintWords Go.Proofs.YtkpicinbckedoaaW.PrintLast Go.Proofs.YtkpicinbckedoaaW.PrintMore
set_option linter.unusedVariables false
set_option linter.unusedSimpArgs false

def pLeading (c : Int) : Bool := decide (48 < c) && decide (c ≤ 57)
def pDigit (c : Int) : Bool := decide (48 ≤ c) && decide (c ≤ 57)
def pLetter (c : Int) : Bool := decide (97 ≤ c) && decide (c ≤ 122)
def pPart (c : Int) : Bool := pLetter c || pDigit c
def pIs (k c : Int) : Bool := c == k

set_option maxHeartbeats 4000000 in
set_option maxRecDepth 100000 in
theorem leading_calls (w : World) (c : Int) : Calls Try.prog 46 #[.int .u8 c] w fun e w' => e = .returned (.bool (pLeading c)) ∧ w' = w := by
  by_cases h1 : 48 < c
  · by_cases h2 : c ≤ 57
    · have hp : pLeading c = true := by simp [pLeading, h1, h2]
      rw [hp]
      go_enter Try.func46, Try.ntmps46
      go_wp2
      go_ret
      exact ⟨rfl, rfl⟩
    · have hp : pLeading c = false := by simp [pLeading, h1, h2]
      rw [hp]
      go_enter Try.func46, Try.ntmps46
      go_wp2
      go_ret
      exact ⟨rfl, rfl⟩
  · have hp : pLeading c = false := by simp [pLeading, h1]
    rw [hp]
    go_enter Try.func46, Try.ntmps46
    go_wp2
    go_ret
    exact ⟨rfl, rfl⟩

theorem leading_ok (w0 w : World) (g : Nat) (s : ByteArray) (i : Int) (bad : Bool) : PredOk w0 w g s i bad 46 #[] pLeading :=
  ⟨fun _ _ => rfl, fun W hK hI hB c _ _ => (leading_calls W c).mono (fun e W' ⟨he, hw⟩ => by subst hw; exact ⟨he, hI, hB, KeepBut.refl _ _ _⟩)⟩

set_option maxHeartbeats 4000000 in
set_option maxRecDepth 100000 in
theorem digit_calls (w : World) (c : Int) : Calls Try.prog 47 #[.int .u8 c] w fun e w' => e = .returned (.bool (pDigit c)) ∧ w' = w := by
  by_cases h1 : 48 ≤ c
  · by_cases h2 : c ≤ 57
    · have hp : pDigit c = true := by simp [pDigit, h1, h2]
      rw [hp]
      go_enter Try.func47, Try.ntmps47
      go_wp2
      go_ret
      exact ⟨rfl, rfl⟩
    · have hp : pDigit c = false := by simp [pDigit, h1, h2]
      rw [hp]
      go_enter Try.func47, Try.ntmps47
      go_wp2
      go_ret
      exact ⟨rfl, rfl⟩
  · have hp : pDigit c = false := by simp [pDigit, h1]
    rw [hp]
    go_enter Try.func47, Try.ntmps47
    go_wp2
    go_ret
    exact ⟨rfl, rfl⟩

theorem digit_ok (w0 w : World) (g : Nat) (s : ByteArray) (i : Int) (bad : Bool) : PredOk w0 w g s i bad 47 #[] pDigit :=
  ⟨fun _ _ => rfl, fun W hK hI hB c _ _ => (digit_calls W c).mono (fun e W' ⟨he, hw⟩ => by subst hw; exact ⟨he, hI, hB, KeepBut.refl _ _ _⟩)⟩

set_option maxHeartbeats 4000000 in
set_option maxRecDepth 100000 in
theorem letter_calls (w : World) (c : Int) : Calls Try.prog 50 #[.int .u8 c] w fun e w' => e = .returned (.bool (pLetter c)) ∧ w' = w := by
  by_cases h1 : 97 ≤ c
  · by_cases h2 : c ≤ 122
    · have hp : pLetter c = true := by simp [pLetter, h1, h2]
      rw [hp]
      go_enter Try.func50, Try.ntmps50
      go_wp2
      go_ret
      exact ⟨rfl, rfl⟩
    · have hp : pLetter c = false := by simp [pLetter, h1, h2]
      rw [hp]
      go_enter Try.func50, Try.ntmps50
      go_wp2
      go_ret
      exact ⟨rfl, rfl⟩
  · have hp : pLetter c = false := by simp [pLetter, h1]
    rw [hp]
    go_enter Try.func50, Try.ntmps50
    go_wp2
    go_ret
    exact ⟨rfl, rfl⟩

theorem letter_ok (w0 w : World) (g : Nat) (s : ByteArray) (i : Int) (bad : Bool) : PredOk w0 w g s i bad 50 #[] pLetter :=
  ⟨fun _ _ => rfl, fun W hK hI hB c _ _ => (letter_calls W c).mono (fun e W' ⟨he, hw⟩ => by subst hw; exact ⟨he, hI, hB, KeepBut.refl _ _ _⟩)⟩

set_option maxHeartbeats 4000000 in
set_option maxRecDepth 100000 in
theorem part_calls (w : World) (c : Int) : Calls Try.prog 51 #[.int .u8 c] w fun e w' => e = .returned (.bool (pPart c)) ∧ w' = w := by
  obtain ⟨b1, hb1⟩ : ∃ b, pLetter c = b := ⟨_, rfl⟩
  obtain ⟨b2, hb2⟩ : ∃ b, pDigit c = b := ⟨_, rfl⟩
  have hp : pPart c = (b1 || b2) := by rw [pPart, hb1, hb2]
  rw [hp]
  have H1 := Aside0.mk hb1
  have H2 := Aside0.mk hb2
  clear hp hb1 hb2
  cases b1 <;> cases b2 <;> (
    go_enter Try.func51, Try.ntmps51
    go_wp2_with (first | (go_at_call 50; refine (letter_calls _ c).mono ?_; rintro e w1 ⟨rfl, rfl⟩; rw [H1.out]) | (go_at_call 47; refine (digit_calls _ c).mono ?_; rintro e w1 ⟨rfl, rfl⟩; rw [H2.out]))
    go_ret
    exact ⟨rfl, rfl⟩)

theorem part_ok (w0 w : World) (g : Nat) (s : ByteArray) (i : Int) (bad : Bool) : PredOk w0 w g s i bad 51 #[] pPart :=
  ⟨fun _ _ => rfl, fun W hK hI hB c _ _ => (part_calls W c).mono (fun e W' ⟨he, hw⟩ => by subst hw; exact ⟨he, hI, hB, KeepBut.refl _ _ _⟩)⟩

set_option maxHeartbeats 4000000 in
set_option maxRecDepth 100000 in
theorem is1_calls (w : World) (b : Nat) (k c : Int) (hb : w.heap[b]? = some (.cells #[.int .u8 k] 5 (0, 0))) : Calls Try.prog 61 #[.int .u8 c, .pointer (some ⟨b, 0, none⟩)] w fun e w' => e = .returned (.bool (pIs k c)) ∧ w' = w := by
  have hc : w.cell? ⟨b, 0, none⟩ = some (.int .u8 k) := blk_cell hb 0
  go_enter Try.func61, Try.ntmps61
  go_wp2
  go_ret
  exact ⟨rfl, rfl⟩

set_option maxHeartbeats 4000000 in
set_option maxRecDepth 100000 in
theorem is_calls (w : World) (k : Int) : Calls Try.prog 45 #[.int .u8 k] w fun e w' => e = .returned (.func (.func 61) #[] #[.pointer (some ⟨w.heap.size, 0, none⟩)]) ∧ w' = w.alloc (.cells #[.int .u8 k] 5) := by
  have hmf : ∀ (fn : Fn) (first cap : Array Value) (w : World), (Instr.makeFunc fn first cap).run Try.prog w = .ok (.func fn first cap) w := fun _ _ _ _ => rfl
  go_enter Try.func45, Try.ntmps45
  go_wp2
  go_ret
  exact ⟨rfl, rfl⟩

theorem is_ok (w0 w : World) (g : Nat) (s : ByteArray) (i : Int) (bad : Bool) (b : Nat) (k : Int) (hb : w.heap[b]? = some (.cells #[.int .u8 k] 5 (0, 0))) (hg : b ≠ g) : PredOk w0 w g s i bad 61 #[.pointer (some ⟨b, 0, none⟩)] (pIs k) :=
  ⟨fun _ _ => rfl, fun W hK hI hB c _ _ => (is1_calls W b k c (hK.blk hb hg (by simp))).mono (fun e W' ⟨he, hw⟩ => by subst hw; exact ⟨he, hI, hB, KeepBut.refl _ _ _⟩)⟩
end Go.Proofs.Ytkpicinbckedoaa.Q
