/- What is proved: what Number reads in a decimal text. -/
import Derived.Test.YtkpicinbckedoaaPL1
namespace Go.Proofs.Ytkpicinbckedoaa.Q
open Go.RowKit Go.Proofs.YtkpicinbckedoaaW.PrintWords Go.Proofs.YtkpicinbckedoaaW.PrintLast Go.Proofs.YtkpicinbckedoaaW.PrintMore
set_option linter.unusedVariables false
set_option linter.unusedSimpArgs false

theorem bt_append_left {a b : ByteArray} {i : Nat} (h : i < a.size) : bt (a ++ b) (i : Int) = bt a (i : Int) := by
  have h1 : i < (a ++ b).size := by simp; omega
  exact (bt_inj h1 h).2 (by rw [ByteArray.getElem_append_left h])
theorem bt_append_right {a b : ByteArray} {i : Nat} (h : i < b.size) : bt (a ++ b) ((a.size + i : Nat) : Int) = bt b (i : Int) := by
  have h1 : a.size + i < (a ++ b).size := by simp; omega
  exact (bt_inj h1 h).2 (by rw [ByteArray.getElem_append_right (by omega)]; simp)

theorem scRun_at (p : Int → Bool) (s : ByteArray) : ∀ (k d j : Nat), d ≤ k → (∀ i, i < d → scTake s (j + i) p = true) → (d < k → scTake s (j + d) p = false) → scRun p s k j = j + d
  | 0, d, j, h1, h2, h3 => by obtain rfl : d = 0 := by omega
                              rfl
  | k + 1, 0, j, h1, h2, h3 => by
    rw [scRun, if_neg (by have := h3 (by omega); rw [Nat.add_zero] at this; rw [this]; simp)]
    rfl
  | k + 1, d + 1, j, h1, h2, h3 => by
    rw [scRun, if_pos (by have := h2 0 (by omega); rwa [Nat.add_zero] at this), scRun_at p s k d (j + 1) (by omega) (fun i hi => by have := h2 (i + 1) (by omega); rwa [show j + 1 + i = j + (i + 1) by omega]) (fun h => by have := h3 (by omega); rwa [show j + 1 + d = j + (d + 1) by omega])]
    omega
theorem scVal_congr {s t : ByteArray} : ∀ (k o j : Nat) (acc : Int), (∀ i, i < k → bt s ((o + i : Nat) : Int) = bt t ((j + i : Nat) : Int)) → scVal s k o acc = scVal t k j acc
  | 0, o, j, acc, h => rfl
  | k + 1, o, j, acc, h => by
    rw [scVal, scVal, scVal_congr k (o + 1) (j + 1) _ (fun i hi => by have := h (i + 1) (by omega); rwa [show o + 1 + i = o + (i + 1) by omega, show j + 1 + i = j + (i + 1) by omega]), show bt s (o : Int) = bt t (j : Int) from by have := h 0 (by omega); rwa [Nat.add_zero, Nat.add_zero] at this]
theorem scVal_snoc {s : ByteArray} : ∀ (k o : Nat) (acc : Int), scVal s (k + 1) o acc = 10 * scVal s k o acc + (bt s ((o + k : Nat) : Int) - 48)
  | 0, o, acc => rfl
  | k + 1, o, acc => by
    rw [scVal, scVal_snoc k (o + 1), show scVal s (k + 1) o acc = scVal s k (o + 1) (10 * acc + (bt s (o : Int) - 48)) from rfl, show o + 1 + k = o + (k + 1) by omega]

/-- t is the decimal text of m. -/
structure IsDec (t : ByteArray) (m : Nat) : Prop where
  pos : 0 < t.size
  dig : ∀ i, i < t.size → 48 ≤ bt t (i : Int) ∧ bt t (i : Int) ≤ 57
  val : scVal t t.size 0 0 = (m : Int)
  lead : 0 < m → 49 ≤ bt t 0
  zero : m = 0 → t.size = 1 ∧ bt t 0 = 48
/-- The digit's text. -/
def dgt (d : Nat) : ByteArray := (⟨#[48, 49, 50, 51, 52, 53, 54, 55, 56, 57]⟩ : ByteArray).extract d (d + 1)
theorem dgt_spec : ∀ d, d < 10 → (dgt d).size = 1 ∧ bt (dgt d) ((0 : Nat) : Int) = 48 + (d : Int) := by decide +kernel
theorem IsDec.one {d : Nat} (h : d < 10) : IsDec (dgt d) d := by
  obtain ⟨h1, h2⟩ := dgt_spec d h
  refine ⟨by omega, fun i hi => ?_, ?_, fun h3 => ?_, fun h3 => ?_⟩
  · obtain rfl : i = 0 := by omega
    omega
  · rw [h1]
    show 10 * 0 + (bt (dgt d) ((0 : Nat) : Int) - 48) = _
    omega
  · have : bt (dgt d) 0 = bt (dgt d) ((0 : Nat) : Int) := rfl
    omega
  · have : bt (dgt d) 0 = bt (dgt d) ((0 : Nat) : Int) := rfl
    exact ⟨h1, by omega⟩
theorem IsDec.more {t : ByteArray} {m d : Nat} (h : IsDec t m) (hm : 0 < m) (hd : d < 10) : IsDec (t ++ dgt d) (10 * m + d) := by
  obtain ⟨h1, h2⟩ := dgt_spec d hd
  have hz : (t ++ dgt d).size = t.size + 1 := by simp [h1]
  have hl : bt (t ++ dgt d) ((t.size : Nat) : Int) = 48 + (d : Int) := by
    have := bt_append_right (a := t) (b := dgt d) (i := 0) (by omega)
    rw [Nat.add_zero] at this
    rw [this, h2]
  refine ⟨by omega, fun i hi => ?_, ?_, fun _ => ?_, fun h3 => by omega⟩
  · rcases Nat.lt_or_ge i t.size with h3 | h3
    · rw [bt_append_left h3]
      exact h.dig i h3
    · obtain rfl : i = t.size := by omega
      omega
  · rw [hz, scVal_snoc, scVal_congr (s := t ++ dgt d) (t := t) t.size 0 0 0 (fun i hi => by rw [Nat.zero_add]; exact bt_append_left hi), h.val, Nat.zero_add, hl]
    omega
  · have e : bt (t ++ dgt d) 0 = bt t 0 := bt_append_left (i := 0) h.pos
    rw [e]
    exact h.lead hm
/-- The decimal text of m, of at most f + 1 digits. -/
def decF : Nat → Nat → ByteArray
  | 0, m => dgt m
  | f + 1, m => if m < 10 then dgt m else decF f (m / 10) ++ dgt (m % 10)
theorem decF_spec : ∀ (f m : Nat), m < 10 ^ (f + 1) → IsDec (decF f m) m ∧ (decF f m).size ≤ f + 1 ∧ (∀ g, g < f + 1 → m < 10 ^ g → (decF f m).size ≤ g ∨ m = 0) ∧ (∀ g, 10 ^ g ≤ m → g < (decF f m).size)
  | 0, m, h => by
    obtain ⟨h1, h2⟩ := dgt_spec m (by simpa using h)
    refine ⟨IsDec.one (by simpa using h), by simp only [decF]; omega, fun g hg h3 => ?_, fun g hg => ?_⟩
    · obtain rfl : g = 0 := by omega
      simp at h3
      exact .inr h3
    · rcases Nat.eq_zero_or_pos g with rfl | h3
      · simp only [decF]; omega
      · have := Nat.pow_le_pow_right (n := 10) (by omega) h3
        simp at h; omega
  | f + 1, m, h => by
    rw [decF]
    split
    · rename_i h9
      obtain ⟨h1, h2⟩ := dgt_spec m h9
      refine ⟨IsDec.one h9, by omega, fun g hg h3 => ?_, fun g hg => ?_⟩
      · rcases Nat.eq_zero_or_pos g with rfl | h4
        · simp at h3; exact .inr h3
        · exact .inl (by omega)
      · rcases Nat.eq_zero_or_pos g with rfl | h3
        · omega
        · have := Nat.pow_le_pow_right (n := 10) (by omega) h3
          omega
    · rename_i h9
      have hp : m / 10 < 10 ^ (f + 1) := by rw [Nat.pow_succ] at h; omega
      obtain ⟨h1, h2, h3, h4⟩ := decF_spec f (m / 10) hp
      obtain ⟨h5, h6⟩ := dgt_spec (m % 10) (by omega)
      have hz : (decF f (m / 10) ++ dgt (m % 10)).size = (decF f (m / 10)).size + 1 := by simp [h5]
      refine ⟨?_, by omega, fun g hg h7 => ?_, fun g hg => ?_⟩
      · have := h1.more (d := m % 10) (by omega) (by omega)
        rwa [show 10 * (m / 10) + m % 10 = m by omega] at this
      · rcases Nat.eq_zero_or_pos g with rfl | h8
        · simp at h7; omega
        · obtain ⟨g, rfl⟩ : ∃ q, g = q + 1 := ⟨g - 1, by omega⟩
          rw [Nat.pow_succ] at h7
          rcases h3 g (by omega) (by omega) with h10 | h10
          · exact .inl (by omega)
          · omega
      · rcases Nat.eq_zero_or_pos g with rfl | h8
        · omega
        · obtain ⟨g, rfl⟩ : ∃ q, g = q + 1 := ⟨g - 1, by omega⟩
          rw [Nat.pow_succ] at hg
          have := h4 g (by omega)
          omega

/-- A scan over a text that holds, from o on, the digits of m, then c. -/
theorem run_dec {s t : ByteArray} {o m : Nat} {c : Int} (ht : IsDec t m) (hm : 0 < m) (hL : t.size ≤ 10) (hz : s.size = o + t.size + 1) (hb : ∀ i, i < t.size → bt s ((o + i : Nat) : Int) = bt t (i : Int)) (hc : bt s ((o + t.size : Nat) : Int) = c) :
    scTake s o pLeading = true ∧ scRun pDigit s 9 (o + 1) = o + (if t.size ≤ 9 ∧ pDigit c = true then t.size + 1 else t.size) ∧ scVal s (scRun pDigit s 9 (o + 1) - o) o 0 = if t.size ≤ 9 ∧ pDigit c = true then 10 * (m : Int) + (c - 48) else m := by
  have h0 := ht.pos
  have hd : ∀ i, i < t.size → scTake s (o + i) pDigit = true := by
    intro i hi
    have := ht.dig i hi
    simp only [scTake, pDigit, Bool.and_eq_true, decide_eq_true_iff]
    rw [hb i hi]
    exact ⟨by omega, by omega, by omega⟩
  have hv : scVal s t.size o 0 = (m : Int) := by
    rw [← ht.val]
    exact scVal_congr t.size o 0 0 (fun i hi => by rw [Nat.zero_add]; exact hb i hi)
  refine ⟨?_, ?_⟩
  · have h1 := ht.lead hm
    have h2 := ht.dig 0 h0
    have h3 := hb 0 h0
    rw [Nat.add_zero] at h3
    simp only [scTake, pLeading, Bool.and_eq_true, decide_eq_true_iff]
    rw [h3]
    exact ⟨by omega, by have : bt t ((0 : Nat) : Int) = bt t 0 := rfl; omega, h2.2⟩
  · by_cases h : t.size ≤ 9 ∧ pDigit c = true
    · rw [if_pos h, if_pos h]
      have e : scRun pDigit s 9 (o + 1) = o + (t.size + 1) := by
        rw [scRun_at pDigit s 9 t.size (o + 1) h.1 (fun i hi => ?_) (fun hlt => ?_)]
        · omega
        · rcases Nat.lt_or_ge (i + 1) t.size with h1 | h1
          · have := hd (i + 1) h1
            rwa [show o + 1 + i = o + (i + 1) by omega]
          · rw [show o + 1 + i = o + t.size by omega]
            simp only [scTake, Bool.and_eq_true, decide_eq_true_iff]
            rw [hc]
            exact ⟨by omega, h.2⟩
        · simp [scTake]
          omega
      rw [e]
      refine ⟨rfl, ?_⟩
      rw [show o + (t.size + 1) - o = t.size + 1 by omega, scVal_snoc, hv, hc]
    · rw [if_neg h, if_neg h]
      have e : scRun pDigit s 9 (o + 1) = o + t.size := by
        rw [scRun_at pDigit s 9 (t.size - 1) (o + 1) (by omega) (fun i hi => ?_) (fun hlt => ?_)]
        · omega
        · have := hd (i + 1) (by omega)
          rwa [show o + 1 + i = o + (i + 1) by omega]
        · rw [show o + 1 + (t.size - 1) = o + t.size by omega]
          unfold scTake
          rw [hc]
          have h2 : ¬ pDigit c = true := fun h2 => h ⟨by omega, h2⟩
          simp only [Bool.and_eq_false_iff]
          exact .inr (by simpa using h2)
      rw [e]
      refine ⟨rfl, ?_⟩
      rw [show o + t.size - o = t.size by omega, hv]
end Go.Proofs.Ytkpicinbckedoaa.Q
