/- What is proved: what Identifier accepts, and the reference's identifiers. -/
import Derived.Test.YtjjgkgedadjodabQx6
import Derived.Test.YtjjgkgedadjodabPL2
import Derived.Test.YtjjgkgedadjodabHScanIde
namespace Go.Proofs.Ytjjgkgedadjodab.Q
open Go.RowKit Go.Proofs.YtjjgkgedadjodabW.PrintWords Go.Proofs.YtjjgkgedadjodabW.PrintLast Go.Proofs.YtjjgkgedadjodabW.PrintMore
set_option linter.unusedVariables false
set_option linter.unusedSimpArgs false

theorem take_iff {s : ByteArray} {i : Nat} {p : Int → Bool} : scTake s i p = true ↔ i < s.size ∧ p (bt s (i : Int)) = true := by simp [scTake]
theorem pIs_iff {k c : Int} : pIs k c = true ↔ c = k := by simp [pIs]
theorem part_not {c : Int} (h : pPart c = true) : c ≠ 45 ∧ c ≠ 32 := by
  simp only [pPart, pLetter, pDigit, Bool.or_eq_true, Bool.and_eq_true, decide_eq_true_iff] at h
  omega
theorem letter_part {c : Int} (h : pLetter c = true) : pPart c = true := by simp [pPart, h]
/-- From i to j the text holds an identifier. -/
def IdAt (s : ByteArray) (i j : Nat) : Prop := i < j ∧ j ≤ s.size ∧ j ≤ i + 40 ∧ pLetter (bt s (i : Int)) = true ∧ ∀ q, i < q → q < j → pPart (bt s (q : Int)) = true ∨ (bt s (q : Int) = 45 ∧ q + 1 < j ∧ pPart (bt s ((q + 1 : Nat) : Int)) = true)
theorem idLoop {s : ByteArray} {i : Nat} : ∀ (k j : Nat), i + 40 ≤ j + k → IdAt s i j →
    (∃ J, scIdLoop s i k j = (true, J) ∧ IdAt s i J ∧ (J = i + 40 ∨ (scTake s J pPart = false ∧ ¬ (J < i + 39 ∧ scTake s J (pIs 45) = true)))) ∨ (∃ J, scIdLoop s i k j = (false, J + 1) ∧ i < J ∧ scTake s J (pIs 45) = true ∧ scTake s (J + 1) pPart = false) := by
  intro k
  induction k using Nat.strongRecOn with
  | _ k ih =>
  intro j hk h
  obtain ⟨h1, h2, h3, h4, h5⟩ := h
  by_cases h40 : j < i + 40
  · obtain ⟨k, rfl⟩ : ∃ e, k = e + 1 := ⟨k - 1, by omega⟩
    rw [scIdLoop, if_pos h40]
    by_cases hp : scTake s j pPart = true
    · rw [if_pos hp]
      have hp2 := take_iff.1 hp
      refine ih k (by omega) (j + 1) (by omega) ⟨by omega, hp2.1, by omega, h4, fun q hq1 hq2 => ?_⟩
      rcases Nat.lt_or_ge q j with hq | hq
      · rcases h5 q hq1 hq with h6 | ⟨h6, h7, h8⟩
        · exact .inl h6
        · exact .inr ⟨h6, by omega, h8⟩
      · obtain rfl : q = j := by omega
        exact .inl hp2.2
    · rw [if_neg hp]
      by_cases hy : j < i + 39 ∧ scTake s j (pIs 45) = true
      · rw [if_pos hy]
        have hy2 := take_iff.1 hy.2
        by_cases hp1 : scTake s (j + 1) pPart = true
        · rw [if_pos hp1]
          have hp2 := take_iff.1 hp1
          refine ih k (by omega) (j + 2) (by omega) ⟨by omega, hp2.1, by omega, h4, fun q hq1 hq2 => ?_⟩
          rcases Nat.lt_or_ge q j with hq | hq
          · rcases h5 q hq1 hq with h6 | ⟨h6, h7, h8⟩
            · exact .inl h6
            · exact .inr ⟨h6, by omega, h8⟩
          · by_cases e : q = j
            · subst e
              exact .inr ⟨pIs_iff.1 hy2.2, by omega, hp2.2⟩
            · obtain rfl : q = j + 1 := by omega
              exact .inl hp2.2
        · rw [if_neg hp1]
          exact .inr ⟨j, rfl, h1, hy.2, by simpa using hp1⟩
      · rw [if_neg hy]
        exact .inl ⟨j, rfl, ⟨h1, h2, h3, h4, h5⟩, .inr ⟨by simpa using hp, hy⟩⟩
  · rw [scIdLoop_stop h40]
    exact .inl ⟨j, rfl, ⟨h1, h2, h3, h4, h5⟩, .inl (by omega)⟩
theorem ident_spec {s : ByteArray} {i : Nat} : (∃ J, scIdent s i = (true, J) ∧ IdAt s i J ∧ (J = i + 40 ∨ (scTake s J pPart = false ∧ ¬ (J < i + 39 ∧ scTake s J (pIs 45) = true)))) ∨ (∃ J, scIdent s i = (false, J) ∧ ((scTake s i pLetter = false) ∨ ∃ q, J = q + 1 ∧ i < q ∧ scTake s q (pIs 45) = true ∧ scTake s (q + 1) pPart = false)) := by
  unfold scIdent
  by_cases h : scTake s i pLetter = true
  · rw [if_pos h]
    have h2 := take_iff.1 h
    rcases idLoop (s := s) (i := i) 39 (i + 1) (by omega) ⟨by omega, h2.1, by omega, h2.2, fun q _ _ => by omega⟩ with h3 | ⟨J, h3, h4⟩
    · exact .inl h3
    · exact .inr ⟨J + 1, h3, .inr ⟨J, rfl, h4⟩⟩
  · rw [if_neg h]
    exact .inr ⟨i, rfl, .inl (by simpa using h)⟩

/-! ### The reference's identifiers -/
def okc (t : ByteArray) (q : Nat) : Bool := pLetter (bt t (q : Int)) || (pDigit (bt t (q : Int)) && decide (0 < q)) || (bt t (q : Int) == 45 && decide (0 < q ∧ q + 1 < t.size) && !(bt t ((q - 1 : Nat) : Int) == 45))
def idFrom (t : ByteArray) : Nat → Nat → Bool
  | 0, _ => true
  | d + 1, i => okc t i && idFrom t d (i + 1)
theorem idFrom_iff {t : ByteArray} : ∀ (d i : Nat), idFrom t d i = true ↔ ∀ q, i ≤ q → q < i + d → okc t q = true
  | 0, i => by simp only [idFrom, true_iff]; intro q h1 h2; omega
  | d + 1, i => by
    rw [idFrom, Bool.and_eq_true, idFrom_iff d (i + 1)]
    constructor
    · intro ⟨h1, h2⟩ q h3 h4
      by_cases e : q = i
      · rw [e]; exact h1
      · exact h2 q (by omega) (by omega)
    · intro h
      exact ⟨h i (by omega) (by omega), fun q h1 h2 => h q (by omega) (by omega)⟩
def idB (t : ByteArray) : Bool := decide (1 ≤ t.size ∧ t.size ≤ 40) && idFrom t t.size 0
theorem idB_iff {t : ByteArray} : idB t = true ↔ IdAt t 0 t.size := by
  unfold idB
  rw [Bool.and_eq_true, decide_eq_true_iff, idFrom_iff]
  constructor
  · intro ⟨h1, h2⟩
    have h3 := h2 0 (by omega) (by omega)
    refine ⟨by omega, by omega, by omega, ?_, fun q hq1 hq2 => ?_⟩
    · simpa [okc] using h3
    · have h4 := h2 q (by omega) (by omega)
      unfold okc at h4
      rw [Bool.or_eq_true, Bool.or_eq_true] at h4
      rcases h4 with (h4 | h4) | h4
      · exact .inl (letter_part h4)
      · rw [Bool.and_eq_true] at h4
        exact .inl (by simp [pPart, h4.1])
      · rw [Bool.and_eq_true, Bool.and_eq_true, decide_eq_true_iff, beq_iff_eq] at h4
        have h5 := h2 (q + 1) (by omega) (by omega)
        unfold okc at h5
        rw [Bool.or_eq_true, Bool.or_eq_true] at h5
        refine .inr ⟨h4.1.1, by omega, ?_⟩
        rcases h5 with (h5 | h5) | h5
        · exact letter_part h5
        · rw [Bool.and_eq_true] at h5
          unfold pPart
          rw [h5.1, Bool.or_true]
        · rw [Bool.and_eq_true] at h5
          have h6 := h5.2
          rw [Nat.add_sub_cancel, h4.1.1] at h6
          exact absurd h6 (by decide)
  · intro ⟨h1, h2, h3, h4, h5⟩
    refine ⟨by omega, fun q hq1 hq2 => ?_⟩
    unfold okc
    rw [Bool.or_eq_true, Bool.or_eq_true]
    by_cases e : q = 0
    · subst e; exact .inl (.inl h4)
    · rcases h5 q (by omega) (by omega) with h6 | ⟨h6, h7, h8⟩
      · unfold pPart at h6
        rw [Bool.or_eq_true] at h6
        rcases h6 with h6 | h6
        · exact .inl (.inl h6)
        · exact .inl (.inr (by rw [Bool.and_eq_true, decide_eq_true_iff]; exact ⟨h6, by omega⟩))
      · refine .inr ?_
        rw [Bool.and_eq_true, Bool.and_eq_true, decide_eq_true_iff, beq_iff_eq]
        refine ⟨⟨h6, by omega⟩, ?_⟩
        have hne : bt t ((q - 1 : Nat) : Int) ≠ 45 := by
          by_cases e1 : q - 1 = 0
          · rw [e1]; exact (part_not (letter_part h4)).1
          · rcases h5 (q - 1) (by omega) (by omega) with h9 | ⟨h9, h10, h11⟩
            · exact (part_not h9).1
            · rw [show q - 1 + 1 = q by omega, h6] at h11
              exact absurd h11 (by decide)
        simpa using hne
theorem wN3 (n : Nat) (h : n ≤ 4611686018427387904) : wrap64 ((n : Int) + 1) = ((n + 1 : Nat) : Int) := by unfold wrap64; omega
theorem id_l0 {t : ByteArray} (ht : t.size ≤ 40) : ∀ (d i : Nat), i + d = t.size → Ev (fun k => computusref17_Identifier.l0 k t (i : Int)) (idFrom t d i)
  | 0, i, hi => by
    refine Ev.step (fun k => ?_) (Ev.now _)
    simp only [computusref17_Identifier.l0]
    rw [if_neg (by omega)]
    rfl
  | d + 1, i, hi => by
    have ih := id_l0 ht d (i + 1) (by omega)
    have e1 : wrap64 ((t.size : Int) - 1) = (t.size : Int) - 1 := by unfold wrap64; omega
    have e2 : wrap64 ((i : Int) - 1) = (i : Int) - 1 := by unfold wrap64; omega
    have hj3 : ∀ b : Bool, (b = true → okc t i = true) → (b = false → pLetter (bt t (i : Int)) = false ∧ (pDigit (bt t (i : Int)) && decide (0 < i)) = false) → Ev (fun k => computusref17_Identifier.j3 k t (i : Int) (bt t (i : Int)) b) (idFrom t (d + 1) i) := by
      intro b hb1 hb2
      cases b with
      | true =>
        rw [idFrom, hb1 rfl, Bool.true_and]
        refine Ev.step (fun k => ?_) ih
        simp only [computusref17_Identifier.j3]
        rw [if_pos trivial, wN3 i (by omega)]
      | false =>
        obtain ⟨h1, h2⟩ := hb2 rfl
        have ho : okc t i = (bt t (i : Int) == 45 && decide (0 < i ∧ i + 1 < t.size) && !(bt t ((i - 1 : Nat) : Int) == 45)) := by unfold okc; rw [h1, h2]; rfl
        have hno : okc t i = false → Ev (fun _ : Nat => some false) (idFrom t (d + 1) i) := fun h => by rw [idFrom, h, Bool.false_and]; exact Ev.now _
        by_cases h45 : bt t (i : Int) = 45
        · by_cases h0 : i = 0
          · refine Ev.step (fun k => ?_) (hno (by rw [ho, decide_eq_false (by omega)]; simp))
            simp only [computusref17_Identifier.j3]
            rw [if_neg (by simp), if_pos h45, if_pos (by omega)]
          · by_cases hl : i + 1 = t.size
            · refine Ev.step (fun k => ?_) (hno (by rw [ho, decide_eq_false (by omega)]; simp))
              simp only [computusref17_Identifier.j3]
              rw [if_neg (by simp), if_pos h45, if_neg (by omega), e1, if_pos (by omega)]
            · have e3 : (i : Int) - 1 = ((i - 1 : Nat) : Int) := by omega
              by_cases hp : bt t ((i - 1 : Nat) : Int) = 45
              · refine Ev.step (fun k => ?_) (hno (by rw [ho, hp]; simp))
                simp only [computusref17_Identifier.j3]
                rw [if_neg (by simp), if_pos h45, if_neg (by omega), e1, if_neg (by omega), e2, if_pos (by omega), if_pos (by omega), e3, if_pos hp]
              · rw [idFrom, ho, h45, decide_eq_true (by omega), show (bt t ((i - 1 : Nat) : Int) == 45) = false from by simpa using hp]
                refine Ev.step (fun k => ?_) ih
                simp only [computusref17_Identifier.j3]
                rw [if_neg (by simp), if_pos trivial, if_neg (by omega), e1, if_neg (by omega), e2, if_pos (by omega), if_pos (by omega), e3, if_neg hp, wN3 i (by omega)]
        · refine Ev.step (fun k => ?_) (hno (by rw [ho, show (bt t (i : Int) == 45) = false from by simpa using h45]; simp))
          simp only [computusref17_Identifier.j3]
          rw [if_neg (by simp), if_neg h45]
    have hj2 : ∀ b : Bool, b = pLetter (bt t (i : Int)) → Ev (fun k => computusref17_Identifier.j2 k t (i : Int) (bt t (i : Int)) b) (idFrom t (d + 1) i) := by
      intro b hb
      cases b with
      | true =>
        rw [idFrom, show okc t i = true from by unfold okc; rw [← hb]; rfl, Bool.true_and]
        refine Ev.step (fun k => ?_) ih
        simp only [computusref17_Identifier.j2]
        rw [if_pos trivial, wN3 i (by omega)]
      | false =>
        by_cases h48 : bt t (i : Int) ≥ 48
        · by_cases h57 : bt t (i : Int) ≤ 57
          · have hd : pDigit (bt t (i : Int)) = true := by simp [pDigit]; omega
            refine Ev.step (fun k => ?_) (hj3 (decide ((i : Int) > 0)) (fun h => ?_) (fun h => ?_))
            · simp only [computusref17_Identifier.j2]
              rw [if_neg (by simp), if_pos h48, if_pos h57]
            · unfold okc; rw [hd, decide_eq_true (by simpa using h)]; simp
            · refine ⟨hb.symm, ?_⟩
              rw [hd, decide_eq_false (by simpa using h)]; rfl
          · refine Ev.step (fun k => ?_) (hj3 false (fun h => by simp at h) (fun _ => ⟨hb.symm, ?_⟩))
            · simp only [computusref17_Identifier.j2]
              rw [if_neg (by simp), if_pos h48, if_neg h57]
            · rw [show pDigit (bt t (i : Int)) = false from by simp [pDigit, h57]]; rfl
        · refine Ev.step (fun k => ?_) (hj3 false (fun h => by simp at h) (fun _ => ⟨hb.symm, ?_⟩))
          · simp only [computusref17_Identifier.j2]
            rw [if_neg (by simp), if_neg h48]
          · rw [show pDigit (bt t (i : Int)) = false from by simp [pDigit]; omega]; rfl
    by_cases h97 : bt t (i : Int) ≥ 97
    · refine Ev.step (fun k => ?_) (hj2 (decide (bt t (i : Int) ≤ 122)) (by simp [pLetter]; omega))
      simp only [computusref17_Identifier.l0]
      rw [if_pos (by omega), if_pos (by omega), if_pos h97]
    · refine Ev.step (fun k => ?_) (hj2 false (by simp [pLetter]; omega))
      simp only [computusref17_Identifier.l0]
      rw [if_pos (by omega), if_pos (by omega), if_neg h97]
theorem id_ev (t : ByteArray) : Ev (fun k => computusref17_Identifier.f k t) (idB t) := by
  unfold computusref17_Identifier.f idB
  by_cases h1 : t.size < 1
  · rw [show decide (1 ≤ t.size ∧ t.size ≤ 40) = false from decide_eq_false (by omega), Bool.false_and]
    refine Ev.congr (fun k => by rw [if_pos (by omega)]) (Ev.step (fun k => ?_) (Ev.now _))
    simp only [computusref17_Identifier.j0]
    rw [if_pos trivial]
  · by_cases h2 : t.size ≤ 40
    · rw [show decide (1 ≤ t.size ∧ t.size ≤ 40) = true from decide_eq_true (by omega), Bool.true_and]
      refine Ev.congr (fun k => by rw [if_neg (by omega), decide_eq_false (by omega)]) (Ev.step (fun k => ?_) (id_l0 h2 t.size 0 (by omega)))
      simp only [computusref17_Identifier.j0]
      rw [if_neg (by simp)]
      rfl
    · rw [show decide (1 ≤ t.size ∧ t.size ≤ 40) = false from decide_eq_false (by omega), Bool.false_and]
      refine Ev.congr (fun k => by rw [if_neg (by omega), decide_eq_true (by omega)]) (Ev.step (fun k => ?_) (Ev.now _))
      simp only [computusref17_Identifier.j0]
      rw [if_pos trivial]

/-! ### An identifier and a space; a prefix that is an identifier -/
theorem id_space {t s : ByteArray} (hz : s.size = t.size + 1) (hb : ∀ i, i < t.size → bt s (i : Int) = bt t (i : Int)) (hl : bt s (t.size : Int) = 32) : IdAt t 0 t.size ↔ scIdent s 0 = (true, t.size) := by
  have hcon : ∀ J, J ≤ t.size → (IdAt s 0 J ↔ IdAt t 0 J) := by
    intro J hJ
    unfold IdAt
    constructor
    · intro ⟨h1, h2, h3, h4, h5⟩
      refine ⟨h1, hJ, h3, by rwa [← hb 0 (by omega)], fun q hq1 hq2 => ?_⟩
      rw [← hb q (by omega)]
      rcases h5 q hq1 hq2 with h6 | ⟨h6, h7, h8⟩
      · exact .inl h6
      · exact .inr ⟨h6, h7, by rwa [← hb (q + 1) (by omega)]⟩
    · intro ⟨h1, h2, h3, h4, h5⟩
      refine ⟨h1, by omega, h3, by rwa [hb 0 (by omega)], fun q hq1 hq2 => ?_⟩
      rw [hb q (by omega)]
      rcases h5 q hq1 hq2 with h6 | ⟨h6, h7, h8⟩
      · exact .inl h6
      · exact .inr ⟨h6, h7, by rwa [hb (q + 1) (by omega)]⟩
  constructor
  · intro h
    have hs := (hcon t.size (Nat.le_refl _)).2 h
    obtain ⟨h1, h2, h3, h4, h5⟩ := hs
    rcases ident_spec (s := s) (i := 0) with ⟨J, e, hJ, hm⟩ | ⟨J, e, hm⟩
    · rw [e]
      congr 1
      have hle : J ≤ t.size := by
        rcases Nat.lt_or_ge t.size J with h6 | h6
        · exfalso
          have h7 := hJ.2.2.2.2 t.size h1 h6
          rw [hl] at h7
          rcases h7 with h7 | ⟨h7, _⟩
          · exact absurd h7 (by decide)
          · omega
        · exact h6
      rcases Nat.lt_or_ge J t.size with h6 | h6
      · exfalso
        rcases hm with hm | ⟨hm1, hm2⟩
        · omega
        · have hJ0 := hJ.1
          rcases h5 J hJ0 h6 with h7 | ⟨h7, h8, h9⟩
          · rw [take_iff.2 ⟨by omega, h7⟩] at hm1
            exact absurd hm1 (by simp)
          · exact hm2 ⟨by omega, take_iff.2 ⟨by omega, pIs_iff.2 h7⟩⟩
      · omega
    · exfalso
      rcases hm with hm | ⟨q, e2, hq0, hq1, hq2⟩
      · rw [take_iff.2 ⟨by omega, h4⟩] at hm
        exact absurd hm (by simp)
      · have hq3 := take_iff.1 hq1
        have hq4 := pIs_iff.1 hq3.2
        have hqt : q < t.size := by
          rcases Nat.lt_or_ge q t.size with h6 | h6
          · exact h6
          · obtain rfl : q = t.size := by omega
            rw [hl] at hq4
            omega
        rcases h5 q hq0 hqt with h7 | ⟨h7, h8, h9⟩
        · exact (part_not h7).1 hq4
        · rw [take_iff.2 ⟨by omega, h9⟩] at hq2
          exact absurd hq2 (by simp)
  · intro h
    rcases ident_spec (s := s) (i := 0) with ⟨J, e, hJ, hm⟩ | ⟨J, e, hm⟩
    · rw [e] at h
      injection h with _ h
      subst h
      exact (hcon _ (Nat.le_refl _)).1 hJ
    · rw [e] at h
      injection h with h _
      exact absurd h (by simp)
theorem id_prefix {s : ByteArray} {J : Nat} (h : IdAt s 0 J) : (s.extract 0 J).size = J ∧ IdAt (s.extract 0 J) 0 (s.extract 0 J).size := by
  obtain ⟨h1, h2, h3, h4, h5⟩ := h
  have hz : (s.extract 0 J).size = J := by simp; omega
  have hb : ∀ m, m < J → bt (s.extract 0 J) (m : Int) = bt s (m : Int) := fun m hm => by rw [bt_extract h2 (by omega), Nat.zero_add]
  refine ⟨hz, ?_⟩
  rw [hz]
  refine ⟨h1, by omega, h3, by rwa [hb 0 h1], fun q hq1 hq2 => ?_⟩
  rw [hb q hq2]
  rcases h5 q hq1 hq2 with h6 | ⟨h6, h7, h8⟩
  · exact .inl h6
  · exact .inr ⟨h6, h7, by rwa [hb (q + 1) h7]⟩
end Go.Proofs.Ytjjgkgedadjodab.Q
