/- What is proved: the reference's Number and Identifier in the print's form. -/
import Derived.Test.YtkpicinbckedoaaHRef25
namespace Go.Proofs.Ytkpicinbckedoaa.Q
open Go.RowKit Go.Proofs.YtkpicinbckedoaaW.PrintWords Go.Proofs.YtkpicinbckedoaaW.PrintLast Go.Proofs.YtkpicinbckedoaaW.PrintMore
set_option linter.unusedVariables false
set_option linter.unusedSimpArgs false

set_option maxHeartbeats 4000000 in
set_option maxRecDepth 100000 in
theorem r25_number_bad (s : ByteArray) (a : Int) (w : World) :
    Calls Try.prog 18 #[.agg #[.string s, .int .i64 a, .bool true]] w fun e w' => e = .returned (.tuple #[.agg #[.string s, .int .i64 a, .bool true], .int .i64 0]) ∧ Below w.heap.size w w' := by
  go_enter Try.func18, Try.ntmps18
  go_wp2
  exact bodyPost_ret (v := .tuple #[.agg #[.string s, .int .i64 a, .bool true], .int .i64 0]) (by simp [results, Try.results18, go_sem]) rfl ⟨rfl, ((Below.refl _ _).alloc (Nat.le_refl _) _).alloc (by simp) _⟩
set_option maxHeartbeats 4000000 in
set_option maxRecDepth 100000 in
theorem r25_ident_bad (s : ByteArray) (a : Int) (w : World) :
    Calls Try.prog 20 #[.agg #[.string s, .int .i64 a, .bool true]] w fun e w' => e = .returned (.tuple #[.agg #[.string s, .int .i64 a, .bool true], .string ⟨#[]⟩]) ∧ Below w.heap.size w w' := by
  go_enter Try.func20, Try.ntmps20
  go_wp2
  exact bodyPost_ret (v := .tuple #[.agg #[.string s, .int .i64 a, .bool true], .string ⟨#[]⟩]) (by simp [results, Try.results20, go_sem]) rfl ⟨rfl, ((Below.refl _ _).alloc (Nat.le_refl _) _).alloc (by simp) _⟩

def computusref25_Number.f (a0_0 : ByteArray) (a0_1 : Int) (a0_2 : Bool) : Option (ByteArray × Int × Bool × Int) :=
  if a0_2 = true then some (a0_0, a0_1, a0_2, 0)
  else if 0 ≤ a0_1 ∧ a0_0.size ≤ 4611686018427387904 then some (a0_0, ((scNum a0_0 a0_1.toNat).2.1 : Int), !(scNum a0_0 a0_1.toNat).1, if (scNum a0_0 a0_1.toNat).1 then (scNum a0_0 a0_1.toNat).2.2 else 0)
  else none
theorem computusref25_Number.calls (a0_0 : ByteArray) (a0_1 : Int) (a0_2 : Bool) (r1 : ByteArray) (r2 : Int) (r3 : Bool) (r4 : Int) (w : World) (h : computusref25_Number.f a0_0 a0_1 a0_2 = some (r1, r2, r3, r4)) :
    Calls Try.prog 18 #[.agg #[.string a0_0, .int .i64 a0_1, .bool a0_2]] w fun e w' => e = .returned (.tuple #[.agg #[.string r1, .int .i64 r2, .bool r3], .int .i64 r4]) ∧ Below w.heap.size w w' := by
  unfold computusref25_Number.f at h
  cases a0_2 with
  | true =>
    rw [if_pos rfl] at h
    obtain ⟨rfl, rfl, rfl, rfl⟩ : a0_0 = r1 ∧ a0_1 = r2 ∧ true = r3 ∧ 0 = r4 := by simpa using h
    exact r25_number_bad _ _ w
  | false =>
    rw [if_neg (by simp)] at h
    by_cases hc : 0 ≤ a0_1 ∧ a0_0.size ≤ 4611686018427387904
    · rw [if_pos hc] at h
      obtain ⟨i, rfl⟩ : ∃ i : Nat, a0_1 = (i : Int) := ⟨a0_1.toNat, by omega⟩
      rw [Int.toNat_natCast] at h
      simp only [Option.some.injEq, Prod.mk.injEq] at h
      obtain ⟨rfl, rfl, rfl, rfl⟩ := h
      exact r25_number a0_0 i w hc.2 _ _ _ rfl rfl rfl
    · rw [if_neg hc] at h
      exact absurd h (by simp)
def computusref25_Identifier.f (a0_0 : ByteArray) (a0_1 : Int) (a0_2 : Bool) : Option (ByteArray × Int × Bool × ByteArray) :=
  if a0_2 = true then some (a0_0, a0_1, a0_2, ⟨#[]⟩)
  else if 0 ≤ a0_1 ∧ a0_0.size ≤ 4611686018427387904 then some (a0_0, ((scIdent a0_0 a0_1.toNat).2 : Int), !(scIdent a0_0 a0_1.toNat).1, if (scIdent a0_0 a0_1.toNat).1 then a0_0.extract a0_1.toNat (scIdent a0_0 a0_1.toNat).2 else ⟨#[]⟩)
  else none
theorem computusref25_Identifier.calls (a0_0 : ByteArray) (a0_1 : Int) (a0_2 : Bool) (r1 : ByteArray) (r2 : Int) (r3 : Bool) (r4 : ByteArray) (w : World) (h : computusref25_Identifier.f a0_0 a0_1 a0_2 = some (r1, r2, r3, r4)) :
    Calls Try.prog 20 #[.agg #[.string a0_0, .int .i64 a0_1, .bool a0_2]] w fun e w' => e = .returned (.tuple #[.agg #[.string r1, .int .i64 r2, .bool r3], .string r4]) ∧ Below w.heap.size w w' := by
  unfold computusref25_Identifier.f at h
  cases a0_2 with
  | true =>
    rw [if_pos rfl] at h
    obtain ⟨rfl, rfl, rfl, rfl⟩ : a0_0 = r1 ∧ a0_1 = r2 ∧ true = r3 ∧ ⟨#[]⟩ = r4 := by simpa using h
    exact r25_ident_bad _ _ w
  | false =>
    rw [if_neg (by simp)] at h
    by_cases hc : 0 ≤ a0_1 ∧ a0_0.size ≤ 4611686018427387904
    · rw [if_pos hc] at h
      obtain ⟨i, rfl⟩ : ∃ i : Nat, a0_1 = (i : Int) := ⟨a0_1.toNat, by omega⟩
      rw [Int.toNat_natCast] at h
      simp only [Option.some.injEq, Prod.mk.injEq] at h
      obtain ⟨rfl, rfl, rfl, rfl⟩ := h
      exact r25_ident a0_0 i w hc.2 _ _ _ rfl rfl rfl
    · rw [if_neg hc] at h
      exact absurd h (by simp)
end Go.Proofs.Ytkpicinbckedoaa.Q
