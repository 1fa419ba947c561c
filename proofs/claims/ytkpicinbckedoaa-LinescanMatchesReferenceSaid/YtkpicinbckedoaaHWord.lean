/- What is proved: the scanner's methods in the print's form: each one as a plain function of the scanner's state. -/
import Derived.Test.YtkpicinbckedoaaHScanNew
namespace Go.Proofs.Ytkpicinbckedoaa.Q
open Go.RowKit Go.Proofs.YtkpicinbckedoaaW.PrintWords Go.Proofs.YtkpicinbckedoaaW.PrintLast Go.Proofs.YtkpicinbckedoaaW.PrintMore
set_option linter.unusedVariables false
set_option linter.unusedSimpArgs false

def linescan_Scanner_Word.f (s0_0 : ByteArray) (s0_1 : Int) (s0_2 : Bool) (l1 : List ByteArray) : Option (Int × ByteArray × Int × Bool) :=
  if s0_2 = true then some (-1, s0_0, s0_1, s0_2)
  else if 0 ≤ s0_1 ∧ s0_1 ≤ (s0_0.size : Int) ∧ s0_0.size ≤ 4611686018427387904 then
    some (if (scWord s0_0 s0_1.toNat l1).1 then (scWord s0_0 s0_1.toNat l1).2.2 else -1, s0_0, ((scWord s0_0 s0_1.toNat l1).2.1 : Int), !(scWord s0_0 s0_1.toNat l1).1)
  else none
theorem linescan_Scanner_Word.calls (g : Nat) (s0_0 : ByteArray) (s0_1 : Int) (s0_2 : Bool) (A1 : Option Addr) (c1 : Nat) (l1 : List ByteArray) (r1 : Int) (r2 : ByteArray) (r3 : Int) (r4 : Bool) (w0 w : World) (hI : IsS72 w0 w g s0_0 s0_1 s0_2) (hB : Below w0.heap.size w0 w) (hr1 : Kd.string.C w A1 l1.length l1) (hc1 : l1.length ≤ c1) (hf1 : ∀ ad, A1 = some ad → 0 < l1.length → ad.block ≠ g) (h : linescan_Scanner_Word.f s0_0 s0_1 s0_2 l1 = some (r1, r2, r3, r4)) :
    Calls Try.prog 14 #[.pointer (some ⟨g, 0, none⟩), .slice A1 l1.length c1] w fun e w' => e = .returned (.int .i64 r1) ∧ IsS72 w0 w' g r2 r3 r4 ∧ Below w0.heap.size w0 w' ∧ KeepBut w w' g none := by
  unfold linescan_Scanner_Word.f at h
  cases s0_2 with
  | true =>
    rw [if_pos rfl] at h
    obtain ⟨rfl, rfl, rfl, rfl⟩ : -1 = r1 ∧ s0_0 = r2 ∧ s0_1 = r3 ∧ true = r4 := by simpa using h
    exact word_bad w0 w g _ _ A1 c1 l1 hI hB
  | false =>
    rw [if_neg (by simp)] at h
    by_cases hc : 0 ≤ s0_1 ∧ s0_1 ≤ (s0_0.size : Int) ∧ s0_0.size ≤ 4611686018427387904
    · rw [if_pos hc] at h
      obtain ⟨i, rfl⟩ : ∃ i : Nat, s0_1 = (i : Int) := ⟨s0_1.toNat, by omega⟩
      rw [Int.toNat_natCast] at h
      simp only [Option.some.injEq, Prod.mk.injEq] at h
      obtain ⟨rfl, rfl, rfl, rfl⟩ := h
      exact word_any w0 w g _ i A1 c1 l1 hI hB hc.2.2 (by omega) hr1 hf1
    · rw [if_neg hc] at h
      exact absurd h (by simp)

def linescan_Scanner_Number.f (s0_0 : ByteArray) (s0_1 : Int) (s0_2 : Bool) : Option (Int × ByteArray × Int × Bool) :=
  if s0_2 = true then some (0, s0_0, s0_1, s0_2)
  else if 0 ≤ s0_1 ∧ s0_0.size ≤ 4611686018427387904 then
    some (if (scNum s0_0 s0_1.toNat).1 then (scNum s0_0 s0_1.toNat).2.2 else 0, s0_0, ((scNum s0_0 s0_1.toNat).2.1 : Int), !(scNum s0_0 s0_1.toNat).1)
  else none
theorem linescan_Scanner_Number.calls (g : Nat) (s0_0 : ByteArray) (s0_1 : Int) (s0_2 : Bool) (r1 : Int) (r2 : ByteArray) (r3 : Int) (r4 : Bool) (w0 w : World) (hI : IsS72 w0 w g s0_0 s0_1 s0_2) (hB : Below w0.heap.size w0 w) (h : linescan_Scanner_Number.f s0_0 s0_1 s0_2 = some (r1, r2, r3, r4)) :
    Calls Try.prog 17 #[.pointer (some ⟨g, 0, none⟩)] w fun e w' => e = .returned (.int .i64 r1) ∧ IsS72 w0 w' g r2 r3 r4 ∧ Below w0.heap.size w0 w' ∧ KeepBut w w' g none := by
  unfold linescan_Scanner_Number.f at h
  cases s0_2 with
  | true =>
    rw [if_pos rfl] at h
    obtain ⟨rfl, rfl, rfl, rfl⟩ : 0 = r1 ∧ s0_0 = r2 ∧ s0_1 = r3 ∧ true = r4 := by simpa using h
    exact number_bad w0 w g _ _ hI hB
  | false =>
    rw [if_neg (by simp)] at h
    by_cases hc : 0 ≤ s0_1 ∧ s0_0.size ≤ 4611686018427387904
    · rw [if_pos hc] at h
      obtain ⟨i, rfl⟩ : ∃ i : Nat, s0_1 = (i : Int) := ⟨s0_1.toNat, by omega⟩
      rw [Int.toNat_natCast] at h
      simp only [Option.some.injEq, Prod.mk.injEq] at h
      obtain ⟨rfl, rfl, rfl, rfl⟩ := h
      exact number_ok w0 w g _ i hI hB hc.2
    · rw [if_neg hc] at h
      exact absurd h (by simp)

def linescan_Scanner_Identifier.f (s0_0 : ByteArray) (s0_1 : Int) (s0_2 : Bool) : Option (ByteArray × ByteArray × Int × Bool) :=
  if s0_2 = true then some (⟨#[]⟩, s0_0, s0_1, s0_2)
  else if 0 ≤ s0_1 ∧ s0_1 ≤ (s0_0.size : Int) ∧ s0_0.size ≤ 4611686018427387904 then
    some (if (scIdent s0_0 s0_1.toNat).1 then s0_0.extract s0_1.toNat (scIdent s0_0 s0_1.toNat).2 else ⟨#[]⟩, s0_0, ((scIdent s0_0 s0_1.toNat).2 : Int), !(scIdent s0_0 s0_1.toNat).1)
  else none
theorem linescan_Scanner_Identifier.calls (g : Nat) (s0_0 : ByteArray) (s0_1 : Int) (s0_2 : Bool) (r1 : ByteArray) (r2 : ByteArray) (r3 : Int) (r4 : Bool) (w0 w : World) (hI : IsS72 w0 w g s0_0 s0_1 s0_2) (hB : Below w0.heap.size w0 w) (h : linescan_Scanner_Identifier.f s0_0 s0_1 s0_2 = some (r1, r2, r3, r4)) :
    Calls Try.prog 19 #[.pointer (some ⟨g, 0, none⟩)] w fun e w' => e = .returned (.string r1) ∧ IsS72 w0 w' g r2 r3 r4 ∧ Below w0.heap.size w0 w' ∧ KeepBut w w' g none := by
  unfold linescan_Scanner_Identifier.f at h
  cases s0_2 with
  | true =>
    rw [if_pos rfl] at h
    obtain ⟨rfl, rfl, rfl, rfl⟩ : ⟨#[]⟩ = r1 ∧ s0_0 = r2 ∧ s0_1 = r3 ∧ true = r4 := by simpa using h
    exact ident_bad w0 w g _ _ hI hB
  | false =>
    rw [if_neg (by simp)] at h
    by_cases hc : 0 ≤ s0_1 ∧ s0_1 ≤ (s0_0.size : Int) ∧ s0_0.size ≤ 4611686018427387904
    · rw [if_pos hc] at h
      obtain ⟨i, rfl⟩ : ∃ i : Nat, s0_1 = (i : Int) := ⟨s0_1.toNat, by omega⟩
      rw [Int.toNat_natCast] at h
      simp only [Option.some.injEq, Prod.mk.injEq] at h
      obtain ⟨rfl, rfl, rfl, rfl⟩ := h
      exact ident_ok w0 w g _ i hI hB hc.2.2 (by omega)
    · rw [if_neg hc] at h
      exact absurd h (by simp)

def linescan_Scanner_Peek.f (s0_0 : ByteArray) (s0_1 : Int) (s0_2 : Bool) : Option (Int × ByteArray × Int × Bool) :=
  if 0 ≤ s0_1 ∧ s0_0.size ≤ 4611686018427387904 then some (if s0_2 = true then 0 else if s0_1.toNat < s0_0.size then bt s0_0 s0_1 else 0, s0_0, s0_1, s0_2)
  else none
theorem linescan_Scanner_Peek.calls (g : Nat) (s0_0 : ByteArray) (s0_1 : Int) (s0_2 : Bool) (r1 : Int) (r2 : ByteArray) (r3 : Int) (r4 : Bool) (w0 w : World) (hI : IsS72 w0 w g s0_0 s0_1 s0_2) (hB : Below w0.heap.size w0 w) (h : linescan_Scanner_Peek.f s0_0 s0_1 s0_2 = some (r1, r2, r3, r4)) :
    Calls Try.prog 21 #[.pointer (some ⟨g, 0, none⟩)] w fun e w' => e = .returned (.int .u8 r1) ∧ IsS72 w0 w' g r2 r3 r4 ∧ Below w0.heap.size w0 w' ∧ KeepBut w w' g none := by
  unfold linescan_Scanner_Peek.f at h
  by_cases hc : 0 ≤ s0_1 ∧ s0_0.size ≤ 4611686018427387904
  · rw [if_pos hc] at h
    obtain ⟨i, rfl⟩ : ∃ i : Nat, s0_1 = (i : Int) := ⟨s0_1.toNat, by omega⟩
    rw [Int.toNat_natCast] at h
    simp only [Option.some.injEq, Prod.mk.injEq] at h
    obtain ⟨rfl, rfl, rfl, rfl⟩ := h
    exact peek_any w0 w g _ i _ hI hB hc.2
  · rw [if_neg hc] at h
    exact absurd h (by simp)

def linescan_Scanner_End.f (s0_0 : ByteArray) (s0_1 : Int) (s0_2 : Bool) : Option (ByteArray × Int × Bool) :=
  if s0_2 = true then some (s0_0, s0_1, s0_2)
  else if 0 ≤ s0_1 then some (s0_0, s0_1, !decide ((s0_0.size : Int) ≤ s0_1))
  else none
theorem linescan_Scanner_End.calls (g : Nat) (s0_0 : ByteArray) (s0_1 : Int) (s0_2 : Bool) (r1 : ByteArray) (r2 : Int) (r3 : Bool) (w0 w : World) (hI : IsS72 w0 w g s0_0 s0_1 s0_2) (hB : Below w0.heap.size w0 w) (h : linescan_Scanner_End.f s0_0 s0_1 s0_2 = some (r1, r2, r3)) :
    Calls Try.prog 22 #[.pointer (some ⟨g, 0, none⟩)] w fun e w' => e = .returned (.tuple #[]) ∧ IsS72 w0 w' g r1 r2 r3 ∧ Below w0.heap.size w0 w' ∧ KeepBut w w' g none := by
  unfold linescan_Scanner_End.f at h
  cases s0_2 with
  | true =>
    rw [if_pos rfl] at h
    obtain ⟨rfl, rfl, rfl⟩ : s0_0 = r1 ∧ s0_1 = r2 ∧ true = r3 := by simpa using h
    exact end_bad w0 w g _ _ hI hB
  | false =>
    rw [if_neg (by simp)] at h
    by_cases hc : 0 ≤ s0_1
    · rw [if_pos hc] at h
      obtain ⟨i, rfl⟩ : ∃ i : Nat, s0_1 = (i : Int) := ⟨s0_1.toNat, by omega⟩
      simp only [Option.some.injEq, Prod.mk.injEq] at h
      obtain ⟨rfl, rfl, rfl⟩ := h
      have e : decide ((s0_0.size : Int) ≤ (i : Int)) = decide (s0_0.size ≤ i) := by rw [decide_eq_decide]; omega
      rw [e]
      exact end_any w0 w g _ i hI hB
    · rw [if_neg hc] at h
      exact absurd h (by simp)

def linescan_Scanner_Offset.f (s0_0 : ByteArray) (s0_1 : Int) (s0_2 : Bool) : Option (Int × ByteArray × Int × Bool) := some (s0_1, s0_0, s0_1, s0_2)
theorem linescan_Scanner_Offset.calls (g : Nat) (s0_0 : ByteArray) (s0_1 : Int) (s0_2 : Bool) (r1 : Int) (r2 : ByteArray) (r3 : Int) (r4 : Bool) (w0 w : World) (hI : IsS72 w0 w g s0_0 s0_1 s0_2) (hB : Below w0.heap.size w0 w) (h : linescan_Scanner_Offset.f s0_0 s0_1 s0_2 = some (r1, r2, r3, r4)) :
    Calls Try.prog 24 #[.pointer (some ⟨g, 0, none⟩)] w fun e w' => e = .returned (.int .i64 r1) ∧ IsS72 w0 w' g r2 r3 r4 ∧ Below w0.heap.size w0 w' ∧ KeepBut w w' g none := by
  unfold linescan_Scanner_Offset.f at h
  simp only [Option.some.injEq, Prod.mk.injEq] at h
  obtain ⟨rfl, rfl, rfl, rfl⟩ := h
  exact (offset_any w g _ (cellS72_1 hI.1)).mono fun e w' ⟨he, hw⟩ => by subst hw; exact ⟨he, hI, hB, KeepBut.refl _ _ _⟩

def linescan_Scanner_Err.f (s0_0 : ByteArray) (s0_1 : Int) (s0_2 : Bool) : Option (Int × ByteArray × Int × Bool) := some (if s0_2 = true then 6 else 0, s0_0, s0_1, s0_2)
theorem linescan_Scanner_Err.calls (g : Nat) (s0_0 : ByteArray) (s0_1 : Int) (s0_2 : Bool) (r1 : Int) (r2 : ByteArray) (r3 : Int) (r4 : Bool) (w0 w : World) (hI : IsS72 w0 w g s0_0 s0_1 s0_2) (hB : Below w0.heap.size w0 w) (h : linescan_Scanner_Err.f s0_0 s0_1 s0_2 = some (r1, r2, r3, r4)) :
    Calls Try.prog 25 #[.pointer (some ⟨g, 0, none⟩)] w fun e w' => e = .returned (.int .i64 r1) ∧ IsS72 w0 w' g r2 r3 r4 ∧ Below w0.heap.size w0 w' ∧ KeepBut w w' g none := by
  unfold linescan_Scanner_Err.f at h
  simp only [Option.some.injEq, Prod.mk.injEq] at h
  obtain ⟨rfl, rfl, rfl, rfl⟩ := h
  exact (err_any w g _ (cellS72_2 hI.1)).mono fun e w' ⟨he, hw⟩ => by subst hw; exact ⟨he, hI, hB, KeepBut.refl _ _ _⟩
end Go.Proofs.Ytkpicinbckedoaa.Q
