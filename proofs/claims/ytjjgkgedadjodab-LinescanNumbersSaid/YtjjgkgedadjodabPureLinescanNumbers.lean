/- What is proved: the plain statement of LinescanNumbers. -/
import Derived.Test.YtjjgkgedadjodabQx5
import Derived.Test.YtjjgkgedadjodabPL2
namespace Go.Proofs.Ytjjgkgedadjodab.Q
open Go.RowKit Go.Proofs.YtjjgkgedadjodabW.PrintWords Go.Proofs.YtjjgkgedadjodabW.PrintLast
set_option linter.unusedVariables false
set_option linter.unusedSimpArgs false

theorem dec_size {f m : Nat} (h : m < 10 ^ (f + 1)) (hf : f ≤ 9) : (decF f m).size ≤ 10 := by have := (decF_spec f m h).2.1; omega
theorem dgt_ext (d : Nat) : (⟨#[48, 49, 50, 51, 52, 53, 54, 55, 56, 57]⟩ : ByteArray).extract ((d : Nat) : Int).toNat ((d : Int) + 1).toNat = dgt d := by
  unfold dgt
  congr 1
theorem dec_ev : ∀ (f m : Nat), m < 10 ^ (f + 1) → f ≤ 9 → Ev (fun k => computuslaw25_decimal.f k (m : Int)) (decF f m)
  | 0, m, h, hf => by
    have h9 : m < 10 := by simpa using h
    refine Ev.step (fun k => ?_) (Ev.now _)
    simp only [computuslaw25_decimal.f]
    have e : (m : Int).tmod 10 = (m : Int) := by rw [Int.tmod_eq_emod_of_nonneg (by omega)]; omega
    have e2 : wrap64 ((m : Int) + 1) = (m : Int) + 1 := by unfold wrap64; omega
    rw [if_neg (by omega), e, e2, if_pos (by omega), if_pos (by omega), if_pos (by omega), if_pos (by omega), dgt_ext]
    rfl
  | f + 1, m, h, hf => by
    have hp : m / 10 < 10 ^ (f + 1) := by rw [Nat.pow_succ] at h; omega
    have h10 : m < 10 ^ 11 := Nat.lt_of_lt_of_le h (Nat.pow_le_pow_right (by omega) (by omega))
    have e : (m : Int).tmod 10 = ((m % 10 : Nat) : Int) := by rw [Int.tmod_eq_emod_of_nonneg (by omega)]; omega
    have e2 : wrap64 (((m % 10 : Nat) : Int) + 1) = ((m % 10 : Nat) : Int) + 1 := by unfold wrap64; omega
    by_cases h9 : m < 10
    · refine Ev.step (fun k => ?_) (Ev.now _)
      simp only [computuslaw25_decimal.f]
      rw [if_neg (by omega), e, e2, if_pos (by omega), if_pos (by omega), if_pos (by omega), if_pos (by omega), dgt_ext, decF, if_pos h9, Nat.mod_eq_of_lt h9]
    · have ih := dec_ev f (m / 10) hp (by omega)
      have hz := dec_size hp (by omega)
      have hz1 := (dgt_spec (m % 10) (by omega)).1
      refine Ev.step (fun k => ?_) (Ev.bind ih (f := fun _ t => if t.size + (dgt (m % 10)).size ≤ 9223372036854775807 then some (t ++ dgt (m % 10)) else none) (Ev.congr (fun k => ?_) (Ev.now _)))
      · simp only [computuslaw25_decimal.f]
        rw [if_neg (by omega), e, e2, if_pos (by omega), if_pos (by omega), if_pos (by omega), if_neg (by omega), dgt_ext]
        have e3 : wrap64 ((m : Int).tdiv 10) = ((m / 10 : Nat) : Int) := by
          rw [Int.tdiv_eq_ediv_of_nonneg (by omega)]
          unfold wrap64
          omega
        rw [e3]
      · rw [if_pos (by omega), decF, if_neg h9]
/-- The text of a number. -/
def decZ (n : Int) : ByteArray := if n < 0 then (⟨#[45]⟩ : ByteArray) ++ decF 9 n.natAbs else decF 9 n.natAbs
theorem decZ_ev (n : Int) (h1 : -10000000000 < n) (h2 : n < 10000000000) : Ev (fun k => computuslaw25_decimal.f k n) (decZ n) := by
  have hb : n.natAbs < 10 ^ (9 + 1) := by omega
  have hz := dec_size hb (by omega)
  have h := dec_ev 9 n.natAbs hb (by omega)
  unfold decZ
  by_cases hn : n < 0
  · rw [if_pos hn]
    refine Ev.step (fun k => ?_) (Ev.bind h (f := fun _ t => if 1 + t.size ≤ 9223372036854775807 then some ((⟨#[45]⟩ : ByteArray) ++ t) else none) (Ev.congr (fun k => ?_) (Ev.now _)))
    · simp only [computuslaw25_decimal.f]
      have e3 : wrap64 (-n) = (n.natAbs : Int) := by unfold wrap64; omega
      rw [if_pos hn, e3]
    · rw [if_pos (by omega)]
  · rw [if_neg hn]
    rwa [show ((n.natAbs : Nat) : Int) = n by omega] at h

theorem one_size (c : Int) : (strOfNums [c]).size = 1 := by simp [strOfNums, ByteArray.size]
theorem one_bt {c : Int} (h0 : 0 ≤ c) (h1 : c ≤ 255) : bt (strOfNums [c]) ((0 : Nat) : Int) = c := by
  have e : strOfNums [c] = ⟨#[UInt8.ofNat c.toNat]⟩ := rfl
  have hlt : (((0 : Nat) : Int)).toNat < (ByteArray.mk #[UInt8.ofNat c.toNat]).size := Nat.zero_lt_one
  rw [e, bt, dif_pos hlt]
  show ((UInt8.ofNat c.toNat).toNat : Int) = c
  rw [UInt8.toNat_ofNat']
  omega

/-- What Number reads. -/
theorem num_dec (n c : Int) (h1 : -10000000000 < n) (h2 : n < 10000000000) (hc0 : 0 ≤ c) (hc1 : c ≤ 255) :
    scNum (decZ n ++ strOfNums [c]) 0 = if pDigit c = true ∧ n ≠ 0 ∧ -1000000000 < n ∧ n < 1000000000 then (true, (decZ n).size + 1, if n < 0 then -(10 * (n.natAbs : Int) + (c - 48)) else 10 * n + (c - 48)) else (true, (decZ n).size, n) := by
  have hb : n.natAbs < 10 ^ (9 + 1) := by omega
  obtain ⟨ht, hz10, hu, hl⟩ := decF_spec 9 n.natAbs hb
  obtain ⟨t, htt⟩ : ∃ t, t = decF 9 n.natAbs := ⟨_, rfl⟩
  rw [← htt] at ht hz10 hu hl
  have hp := ht.pos
  have h9 : n ≠ 0 → ((-1000000000 < n ∧ n < 1000000000) ↔ t.size ≤ 9) := by
    intro hn0
    constructor
    · intro h
      rcases hu 9 (by omega) (by omega) with h3 | h3
      · exact h3
      · omega
    · intro h
      have h3 : ¬ 10 ^ 9 ≤ n.natAbs := fun h3 => by have := hl 9 h3; omega
      omega
  by_cases hn : n < 0
  · have e : decZ n = (⟨#[45]⟩ : ByteArray) ++ t := by rw [htt]; simp [decZ, hn]
    have e45 : (ByteArray.mk #[45]).size = 1 := rfl
    have ez : (decZ n).size = t.size + 1 := by rw [e, ByteArray.size_append, e45]; omega
    obtain ⟨s, hs⟩ : ∃ s, s = decZ n ++ strOfNums [c] := ⟨_, rfl⟩
    rw [← hs]
    have hz : s.size = 1 + t.size + 1 := by rw [hs]; simp [one_size]; omega
    have hb0 : bt s ((0 : Nat) : Int) = 45 := by
      rw [hs, bt_append_left (by omega), e, bt_append_left (by decide)]
      decide +kernel
    have hb1 : ∀ i, i < t.size → bt s ((1 + i : Nat) : Int) = bt t (i : Int) := by
      intro i hi
      rw [hs, bt_append_left (by omega), e]
      exact bt_append_right (a := (⟨#[45]⟩ : ByteArray)) hi
    have hbc : bt s ((1 + t.size : Nat) : Int) = c := by
      rw [hs, show 1 + t.size = (decZ n).size + 0 by omega, bt_append_right (by rw [one_size]; omega), one_bt hc0 hc1]
    obtain ⟨r1, r2, r3⟩ := run_dec (o := 1) ht (by omega) hz10 hz hb1 hbc
    unfold scNum
    have t0 : scTake s 0 (pIs 48) = false := by simp only [scTake, pIs, Bool.and_eq_false_iff]; right; rw [hb0]; decide
    have t1 : scTake s 0 (pIs 45) = true := by simp only [scTake, pIs, Bool.and_eq_true, decide_eq_true_iff]; exact ⟨by omega, by rw [hb0]; decide⟩
    rw [if_neg (by rw [t0]; simp), if_pos t1, if_pos (by rw [Nat.zero_add]; exact r1)]
    simp only [Nat.zero_add]
    rw [r3, r2]
    by_cases h : pDigit c = true ∧ n ≠ 0 ∧ -1000000000 < n ∧ n < 1000000000
    · rw [if_pos h]
      have h3 := (h9 (by omega)).1 h.2.2
      rw [if_pos ⟨h3, h.1⟩, if_pos ⟨h3, h.1⟩, if_pos hn, ez]
      congr 2
      omega
    · rw [if_neg h]
      have h3 : ¬ (t.size ≤ 9 ∧ pDigit c = true) := fun h3 => h ⟨h3.2, by omega, (h9 (by omega)).2 h3.1⟩
      rw [if_neg h3, if_neg h3, ez]
      congr 2 <;> omega
  · have e : decZ n = t := by rw [htt]; simp [decZ, hn]
    obtain ⟨s, hs⟩ : ∃ s, s = decZ n ++ strOfNums [c] := ⟨_, rfl⟩
    rw [← hs]
    rw [e] at hs ⊢
    have hz : s.size = 0 + t.size + 1 := by rw [hs]; simp [one_size]
    have hb1 : ∀ i, i < t.size → bt s ((0 + i : Nat) : Int) = bt t (i : Int) := by
      intro i hi
      rw [hs, Nat.zero_add, bt_append_left hi]
    have hbc : bt s ((0 + t.size : Nat) : Int) = c := by
      rw [hs, show 0 + t.size = t.size + 0 by omega, bt_append_right (by rw [one_size]; omega), one_bt hc0 hc1]
    have hd0 := hb1 0 hp
    rw [Nat.add_zero] at hd0
    have hd1 := ht.dig 0 hp
    rcases Nat.eq_zero_or_pos n.natAbs with h0 | h0
    · have h3 := ht.zero h0
      have h4 : bt s ((0 : Nat) : Int) = 48 := by rw [hd0]; exact h3.2
      unfold scNum
      have t0 : scTake s 0 (pIs 48) = true := by simp only [scTake, pIs, Bool.and_eq_true, decide_eq_true_iff]; exact ⟨by omega, by rw [h4]; decide⟩
      rw [if_pos t0, if_neg (by omega)]
      congr 2 <;> omega
    · obtain ⟨r1, r2, r3⟩ := run_dec (o := 0) ht h0 hz10 hz hb1 hbc
      have h3 := ht.lead h0
      have h4 : 49 ≤ bt s ((0 : Nat) : Int) := by rw [hd0]; exact h3
      unfold scNum
      have t0 : scTake s 0 (pIs 48) = false := by simp only [scTake, pIs, Bool.and_eq_false_iff]; right; rw [beq_eq_false_iff_ne]; omega
      have t1 : scTake s 0 (pIs 45) = false := by simp only [scTake, pIs, Bool.and_eq_false_iff]; right; rw [beq_eq_false_iff_ne]; omega
      rw [if_neg (by rw [t0]; simp), if_neg (by rw [t1]; simp), if_pos r1, r3, r2]
      simp only [Nat.zero_add]
      by_cases h : pDigit c = true ∧ n ≠ 0 ∧ -1000000000 < n ∧ n < 1000000000
      · rw [if_pos h]
        have h3 := (h9 (by omega)).1 h.2.2
        rw [if_pos ⟨h3, h.1⟩, if_pos ⟨h3, h.1⟩, if_neg hn]
        congr 2
        omega
      · rw [if_neg h]
        have h3 : ¬ (t.size ≤ 9 ∧ pDigit c = true) := fun h3 => h ⟨h3.2, by omega, (h9 (by omega)).2 h3.1⟩
        rw [if_neg h3, if_neg h3]
        congr 2
        omega

theorem num_j1 (x1 N : Int) (t s : ByteArray) (v p : Int) (b : Bool) (hb : b = false) (h : if (pDigit x1 = true ∧ N ≠ 0 ∧ -1000000000 < N ∧ N < 1000000000) then (v ≠ N ∧ p = (t.size : Int) + 1) else (v = N ∧ p = (t.size : Int) ∧ s.size = t.size + 1 ∧ bt s (t.size : Int) = x1)) (ht : t.size ≤ 100) :
    ∀ x44 : Bool, x44 = decide (pDigit x1 = true ∧ N ≠ 0 ∧ -1000000000 < N ∧ N < 1000000000) → Ev (fun k => computuslaw25_LinescanNumbers.j1 k x1 N t v x44 s p b) true := by
  intro x44 hx
  subst hb
  refine Ev.step (fun k => ?_) (Ev.now true)
  simp only [computuslaw25_LinescanNumbers.j1, linescan_Scanner_Err.f, linescan_Scanner_Offset.f, Option.bind_some]
  by_cases hc : pDigit x1 = true ∧ N ≠ 0 ∧ -1000000000 < N ∧ N < 1000000000
  · rw [if_pos hc] at h
    rw [hx, decide_eq_true hc, if_pos rfl, if_pos (by simp), if_neg h.1]
    have e : wrap64 ((t.size : Int) + 1) = (t.size : Int) + 1 := by unfold wrap64; omega
    rw [e, h.2, beq_self_eq_true]
  · rw [if_neg hc] at h
    obtain ⟨h1, h2, h3, h4⟩ := h
    rw [hx, decide_eq_false hc, if_neg (by simp), if_pos (by simp), if_pos h1, if_pos h2, h2]
    simp only [linescan_Scanner_Peek.f]
    rw [if_pos ⟨by omega, by omega⟩, if_neg (by simp), if_pos (by omega), h4]
    simp
theorem num_j0 (x1 N : Int) (t s : ByteArray) (v p : Int) (b : Bool) (hb : b = false) (h : if (pDigit x1 = true ∧ N ≠ 0 ∧ -1000000000 < N ∧ N < 1000000000) then (v ≠ N ∧ p = (t.size : Int) + 1) else (v = N ∧ p = (t.size : Int) ∧ s.size = t.size + 1 ∧ bt s (t.size : Int) = x1)) (ht : t.size ≤ 100) :
    Ev (fun k => computuslaw25_LinescanNumbers.j0 k x1 N t v (pDigit x1) s p b) true := by
  have H := num_j1 x1 N t s v p b hb h ht
  by_cases h1 : pDigit x1 = true
  · by_cases h2 : N = 0
    · refine Ev.step (fun k => ?_) (H false (by simp [h2]))
      simp only [computuslaw25_LinescanNumbers.j0]
      rw [if_pos h1, if_pos h2]
    · by_cases h3 : N > -1000000000
      · refine Ev.step (fun k => ?_) (H (decide (N < 1000000000)) ?_)
        · simp only [computuslaw25_LinescanNumbers.j0]
          rw [if_pos h1, if_neg h2, if_pos h3]
        · rw [decide_eq_decide]
          exact ⟨fun h4 => ⟨h1, h2, h3, h4⟩, fun h4 => h4.2.2.2⟩
      · refine Ev.step (fun k => ?_) (H false ?_)
        · simp only [computuslaw25_LinescanNumbers.j0]
          rw [if_pos h1, if_neg h2, if_neg h3]
        · exact (decide_eq_false (fun h4 => h3 h4.2.2.1)).symm
  · refine Ev.step (fun k => ?_) (H false ?_)
    · simp only [computuslaw25_LinescanNumbers.j0]
      rw [if_neg h1]
    · exact (decide_eq_false (fun h4 => h1 h4.1)).symm
theorem aw_ev : Ev (fun _ => computuslaw25_awake.f) true := Ev.now true
end Go.Proofs.Ytjjgkgedadjodab.Q
namespace Go.Proofs.Ytjjgkgedadjodab.Pure
open Go.RowKit Go.Proofs.YtjjgkgedadjodabW.PrintWords Go.Proofs.YtjjgkgedadjodabW.PrintLast Go.Proofs.Ytjjgkgedadjodab.Q
theorem LinescanNumbers : Q.computuslaw25_LinescanNumbers.Pure := by
  intro a c ha hc
  have hc2 : 0 ≤ c ∧ c ≤ 255 := by
    have h := hc
    simp [Lit.wf] at h
    have e1 : IntKind.u8.min = 0 := by decide
    have e2 : IntKind.u8.max = 255 := by decide
    omega
  obtain ⟨N, hN⟩ : ∃ N, N = Int.tmod a 10000000000 := ⟨_, rfl⟩
  have hN1 : -10000000000 < N ∧ N < 10000000000 := by
    have h1 := Int.tmod_lt_of_pos a (b := 10000000000) (by omega)
    have h2 := Int.lt_tmod_of_pos a (b := 10000000000) (by omega)
    omega
  have hd := decZ_ev N hN1.1 hN1.2
  have hr := num_dec N c hN1.1 hN1.2 hc2.1 hc2.2
  have hzt : (decZ N).size ≤ 11 := by
    have hb : N.natAbs < 10 ^ (9 + 1) := by omega
    have hz := dec_size hb (by omega)
    unfold decZ
    split
    · simp [ByteArray.size_append]
      have : (ByteArray.mk #[45]).size = 1 := rfl
      omega
    · omega
  have hsz : (decZ N ++ strOfNums [c]).size = (decZ N).size + 1 := by simp [one_size]
  have hbc : bt (decZ N ++ strOfNums [c]) ((decZ N).size : Int) = c := by
    have := bt_append_right (a := decZ N) (b := strOfNums [c]) (i := 0) (by rw [one_size]; omega)
    rw [Nat.add_zero] at this
    rw [this, one_bt hc2.1 hc2.2]
  have hj := num_j0 c N (decZ N) (decZ N ++ strOfNums [c]) (scNum (decZ N ++ strOfNums [c]) 0).2.2 ((scNum (decZ N ++ strOfNums [c]) 0).2.1 : Int) false rfl (by
    rw [hr]
    by_cases h : pDigit c = true ∧ N ≠ 0 ∧ -1000000000 < N ∧ N < 1000000000
    · rw [if_pos h, if_pos h]
      have h5 : 48 ≤ c ∧ c ≤ 57 := by have := h.1; simp only [pDigit, Bool.and_eq_true, decide_eq_true_iff] at this; exact this
      refine ⟨?_, by simp⟩
      by_cases hn : N < 0
      · simp only [if_pos hn]; omega
      · simp only [if_neg hn]; omega
    · rw [if_neg h, if_neg h]
      exact ⟨rfl, rfl, hsz, hbc⟩) (by omega)
  have hok : (scNum (decZ N ++ strOfNums [c]) 0).1 = true := by rw [hr]; split <;> rfl
  refine Ev.rounds (Ev.congr (fun k => ?_) (Ev.bind hd (f := fun k t => (some [c]).bind fun y150 => (if t.size + (strOfNums y150).size ≤ 9223372036854775807 then ((linescan_New.f (t ++ (strOfNums y150))).bind fun bt153 => ((linescan_Scanner_Number.f bt153.1 bt153.2.1 bt153.2.2).bind fun bt157 => (if c ≥ 48 then (computuslaw25_LinescanNumbers.j0 k c N t bt157.1 (decide (c ≤ 57)) bt157.2.1 bt157.2.2.1 bt157.2.2.2) else (computuslaw25_LinescanNumbers.j0 k c N t bt157.1 false bt157.2.1 bt157.2.2.1 bt157.2.2.2)))) else (none))) (Ev.congr (fun k => ?_) hj)))
  · rw [hN]
    rfl
  · simp only [Option.bind_some, linescan_New.f]
    rw [if_pos (by rw [one_size]; omega)]
    simp only [linescan_Scanner_Number.f]
    rw [if_neg (by simp), if_pos ⟨by omega, by omega⟩]
    simp only [Option.bind_some, Int.toNat_zero]
    rw [hok, if_pos rfl]
    by_cases h : c ≥ 48
    · rw [if_pos h, show decide (c ≤ 57) = pDigit c by simp [pDigit, h]]
      rfl
    · rw [if_neg h, show false = pDigit c by simp [pDigit, h]]
      simp [pDigit, h]
end Go.Proofs.Ytjjgkgedadjodab.Pure
