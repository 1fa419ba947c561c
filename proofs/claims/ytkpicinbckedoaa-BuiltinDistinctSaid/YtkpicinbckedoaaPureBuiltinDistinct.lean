/- What is proved: the plain statement of BuiltinDistinct. -/
import Derived.Test.YtkpicinbckedoaaQx8
namespace Go.Proofs.Ytkpicinbckedoaa.Q
open Go.RowKit Go.Proofs.YtkpicinbckedoaaW.PrintWords Go.Proofs.YtkpicinbckedoaaW.PrintLast
set_option linter.unusedVariables false
set_option linter.unusedSimpArgs false
def chk (i j : Nat) : Bool := (computusref17_Identifier.f 100 (rdOf ByteArray.empty bNames (i : Int)) == some true) && (((rdOf ByteArray.empty bNames (i : Int)).toList == (rdOf ByteArray.empty bNames (j : Int)).toList) == ((i : Int) == (j : Int)))
set_option maxRecDepth 100000 in
theorem chk_all : (List.range 33).all (fun i => (List.range 33).all (chk i)) = true := by decide +kernel
theorem chk_ok {i j : Nat} (hi : i < 33) (hj : j < 33) : computusref17_Identifier.f 100 (rdOf ByteArray.empty bNames (i : Int)) = some true ∧ (((rdOf ByteArray.empty bNames (i : Int)).toList == (rdOf ByteArray.empty bNames (j : Int)).toList) == ((i : Int) == (j : Int))) = true := by
  have h := List.all_eq_true.1 (List.all_eq_true.1 chk_all i (List.mem_range.2 hi)) j (List.mem_range.2 hj)
  unfold chk at h
  rw [Bool.and_eq_true] at h
  exact ⟨eq_of_beq h.1, h.2⟩
theorem mod33 {a : Int} (h : (Lit.int .u8 a).wf = true) : ∃ i : Nat, i < 33 ∧ Int.tmod (wrap64 a) 33 = (i : Int) := by
  have h2 : 0 ≤ a ∧ a ≤ 255 := by
    have h3 := h
    simp only [Lit.wf, Bool.and_eq_true, decide_eq_true_eq] at h3
    have e1 : IntKind.u8.min = 0 := by decide
    have e2 : IntKind.u8.max = 255 := by decide
    omega
  have e : wrap64 a = a := by unfold wrap64; omega
  rw [e]
  refine ⟨(a.tmod 33).toNat, ?_, ?_⟩ <;> rw [Int.tmod_eq_emod_of_nonneg h2.1] <;> omega
end Go.Proofs.Ytkpicinbckedoaa.Q
namespace Go.Proofs.Ytkpicinbckedoaa.Pure
open Go.RowKit Go.Proofs.YtkpicinbckedoaaW.PrintWords Go.Proofs.YtkpicinbckedoaaW.PrintLast Go.Proofs.Ytkpicinbckedoaa.Q
theorem BuiltinDistinct : Q.computuslaw24_BuiltinDistinct.Pure := by
  intro a b ha hb
  refine ⟨100, ?_⟩
  obtain ⟨i, hi, ei⟩ := mod33 ha
  obtain ⟨j, hj, ej⟩ := mod33 hb
  obtain ⟨h1, h2⟩ := chk_ok hi hj
  have hl : (bNames.length : Int) = 33 := rfl
  unfold computuslaw24_BuiltinDistinct.f
  rw [ei, ej]
  simp only [computuslaw24_awake.f, builtin_Names.f, Option.bind_some, if_true]
  rw [hl, if_pos (by omega), if_pos (by omega), h1]
  simp only [Option.bind_some, if_true]
  rw [if_pos (by omega), if_pos (by omega), h2]
end Go.Proofs.Ytkpicinbckedoaa.Pure
