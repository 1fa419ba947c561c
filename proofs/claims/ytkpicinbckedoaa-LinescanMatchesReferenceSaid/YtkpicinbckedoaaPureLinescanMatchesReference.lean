/- What is proved: the plain statement of LinescanMatchesReference. -/
import Derived.Test.YtkpicinbckedoaaQx9
import Derived.Test.YtkpicinbckedoaaQx8
import Derived.Test.YtkpicinbckedoaaPL4
namespace Go.Proofs.Ytkpicinbckedoaa.Q
open Go.RowKit Go.Proofs.YtkpicinbckedoaaW.PrintWords Go.Proofs.YtkpicinbckedoaaW.PrintLast
set_option linter.unusedVariables false
set_option linter.unusedSimpArgs false

theorem scNum_le {s : ByteArray} {F : Nat} (hF : F ≤ s.size) : (scNum s F).2.1 ≤ s.size := by
  unfold scNum
  split
  · rename_i h; have := scTake_lt h; exact this
  · split
    · rename_i h
      have h1 := scTake_lt h
      split
      · rename_i h2
        exact (scRun_spec pDigit s 9 (F + 1 + 1) (scTake_lt h2)).2.1
      · exact h1
    · split
      · rename_i h2
        exact (scRun_spec pDigit s 9 (F + 1) (scTake_lt h2)).2.1
      · exact hF
theorem scIdLoop_le {s : ByteArray} {i : Nat} : ∀ (k j : Nat), j ≤ s.size → (scIdLoop s i k j).2 ≤ s.size
  | 0, j, h => h
  | k + 1, j, h => by
    rw [scIdLoop]
    split
    · split
      · rename_i h2
        exact scIdLoop_le k (j + 1) (scTake_lt h2)
      · split
        · rename_i h2
          have h3 := scTake_lt h2.2
          split
          · rename_i h4
            exact scIdLoop_le k (j + 2) (scTake_lt h4)
          · exact h3
        · exact h
    · exact h
theorem scIdent_le {s : ByteArray} {F : Nat} (hF : F ≤ s.size) : (scIdent s F).2 ≤ s.size := by
  unfold scIdent
  split
  · rename_i h
    exact scIdLoop_le 39 (F + 1) (scTake_lt h)
  · exact hF

theorem law_j5 {s : ByteArray} {l1 : List S46} {i : Nat} (hi : i < 1000) {F : Nat} {b : Bool} (h : Ev (fun k => computuslaw25_LinescanMatchesReference.l0 k s l1 ((i + 1 : Nat) : Int) s (F : Int) b s (F : Int) b) true) : Ev (fun k => computuslaw25_LinescanMatchesReference.j5 k s l1 (i : Int) s (F : Int) b s (F : Int) b) true := by
  refine Ev.step (fun k => ?_) h
  simp only [computuslaw25_LinescanMatchesReference.j5, linescan_Scanner_Offset.f, linescan_Scanner_Err.f, Option.bind_some]
  rw [if_pos trivial, wN i (by omega)]
  cases b <;> simp
theorem bind_ev {α : Type} {g : Nat → Option α} {f : α → Nat → Option Bool} {a : α} (h : Ev g a) (k : Ev (f a) true) : Ev (fun n => (g n).bind fun x => f x n) true := Ev.bind (f := fun n x => f x n) h k
theorem law_j3 {s : ByteArray} {l1 : List S46} (hs : s.size ≤ 1000) (hl : l1.length ≤ 60) {i : Nat} (hi : i < l1.length) (x8 : Int) {F : Nat} (hF : F ≤ s.size) {b : Bool} (ih : ∀ (F : Nat) (b : Bool), F ≤ s.size → Ev (fun k => computuslaw25_LinescanMatchesReference.l0 k s l1 ((i + 1 : Nat) : Int) s (F : Int) b s (F : Int) b) true) :
    Ev (fun k => computuslaw25_LinescanMatchesReference.j3 k s l1 (i : Int) x8 s (F : Int) b s (F : Int) b) true := by
  have go : ∀ (F : Nat) (b : Bool), F ≤ s.size → Ev (fun k => computuslaw25_LinescanMatchesReference.j5 k s l1 (i : Int) s (F : Int) b s (F : Int) b) true := fun F b hF => law_j5 (by omega) (ih F b hF)
  by_cases h0 : (rd_T46 l1 (i : Int)).f0 = 0
  · obtain ⟨W, hW, hfree, hne, hlen⟩ := words_ok x8
    obtain ⟨v, F', b', h1, h2, h3⟩ := word_step hs hF b hfree hne hlen
    refine Ev.step (fun k => ?_) (bind_ev (f := fun bt148 k => if v = bt148.2.2.2 then computuslaw25_LinescanMatchesReference.j5 k s l1 (i : Int) s (F' : Int) b' bt148.1 bt148.2.1 bt148.2.2.1 else none) h3 (Ev.congr (fun k => ?_) (go F' b' h2)))
    · simp only [computuslaw25_LinescanMatchesReference.j3]
      rw [if_pos (by omega), if_pos (by omega), if_pos h0, hW, Option.bind_some, h1, Option.bind_some, Option.bind_some]
    · rw [if_pos rfl]
  · by_cases h1 : (rd_T46 l1 (i : Int)).f0 = 1
    · cases b with
      | true =>
        refine Ev.step (fun k => ?_) (go F true hF)
        simp only [computuslaw25_LinescanMatchesReference.j3]
        rw [if_pos (by omega), if_pos (by omega), if_neg h0, if_pos h1]
        rfl
      | false =>
        refine Ev.step (fun k => ?_) (go (scNum s F).2.1 (!(scNum s F).1) (scNum_le hF))
        simp only [computuslaw25_LinescanMatchesReference.j3]
        rw [if_pos (by omega), if_pos (by omega), if_neg h0, if_pos h1]
        unfold linescan_Scanner_Number.f computusref25_Number.f
        rw [if_neg (by simp), if_pos ⟨by omega, by omega⟩, Option.bind_some, if_neg (by simp), if_pos ⟨by omega, by omega⟩, Option.bind_some, Int.toNat_natCast, if_pos rfl]
    · by_cases h2 : (rd_T46 l1 (i : Int)).f0 = 2
      · cases b with
        | true =>
          refine Ev.step (fun k => ?_) (go F true hF)
          simp only [computuslaw25_LinescanMatchesReference.j3]
          rw [if_pos (by omega), if_pos (by omega), if_neg h0, if_neg h1, if_pos h2]
          unfold linescan_Scanner_Identifier.f computusref25_Identifier.f
          rw [if_pos rfl, Option.bind_some, if_pos rfl, Option.bind_some]
          exact if_pos rfl
        | false =>
          refine Ev.step (fun k => ?_) (go (scIdent s F).2 (!(scIdent s F).1) (scIdent_le hF))
          simp only [computuslaw25_LinescanMatchesReference.j3]
          rw [if_pos (by omega), if_pos (by omega), if_neg h0, if_neg h1, if_pos h2]
          unfold linescan_Scanner_Identifier.f computusref25_Identifier.f
          rw [if_neg (by simp), if_pos ⟨by omega, by omega, by omega⟩, Option.bind_some, if_neg (by simp), if_pos ⟨by omega, by omega⟩, Option.bind_some, Int.toNat_natCast, if_pos rfl]
      · by_cases h3 : (rd_T46 l1 (i : Int)).f0 = 3
        · have hpk : linescan_Scanner_Peek.f s (F : Int) b = some (if b = true then 0 else if F < s.size then bt s (F : Int) else 0, s, (F : Int), b) := by
            unfold linescan_Scanner_Peek.f
            rw [if_pos ⟨by omega, by omega⟩, Int.toNat_natCast]
          have hno : (b = true ∨ ¬ F < s.size) → Ev (fun k => computuslaw25_LinescanMatchesReference.j4 k s l1 (i : Int) 0 false s (F : Int) b s (F : Int) b) true := by
            intro hb
            refine Ev.step (fun k => ?_) (go F b hF)
            simp only [computuslaw25_LinescanMatchesReference.j4]
            rw [if_neg (by simp), hpk, Option.bind_some]
            rcases hb with rfl | hb
            · rw [if_pos rfl, if_pos rfl]
            · rw [if_neg hb]
              cases b <;> exact if_pos rfl
          cases b with
          | true =>
            refine Ev.step (fun k => ?_) (hno (.inl rfl))
            simp only [computuslaw25_LinescanMatchesReference.j3]
            rw [if_pos (by omega), if_pos (by omega), if_neg h0, if_neg h1, if_neg h2, if_pos h3, if_pos trivial]
          | false =>
            by_cases hlt : F < s.size
            · refine Ev.step (fun k => ?_) (f := fun k => computuslaw25_LinescanMatchesReference.j4 k s l1 (i : Int) 0 true s (F : Int) false s (F : Int) false) (Ev.step (fun k => ?_) (go F false hF))
              · simp only [computuslaw25_LinescanMatchesReference.j3]
                rw [if_pos (by omega), if_pos (by omega), if_neg h0, if_neg h1, if_neg h2, if_pos h3, if_neg (by simp), decide_eq_true (by omega)]
              · simp only [computuslaw25_LinescanMatchesReference.j4]
                rw [if_pos trivial, if_pos (by omega), if_pos (by omega), hpk, Option.bind_some]
                simp only [Bool.false_eq_true, if_false, if_pos hlt, if_true]
            · refine Ev.step (fun k => ?_) (hno (.inr hlt))
              simp only [computuslaw25_LinescanMatchesReference.j3]
              rw [if_pos (by omega), if_pos (by omega), if_neg h0, if_neg h1, if_neg h2, if_pos h3, if_neg (by simp), decide_eq_false (by omega)]
        · by_cases h4 : (rd_T46 l1 (i : Int)).f0 = 4
          · have hend : ∃ b', linescan_Scanner_End.f s (F : Int) b = some (s, (F : Int), b') ∧ computusref25_End.f s (F : Int) b = some (s, (F : Int), b') := by
              unfold linescan_Scanner_End.f computusref25_End.f computusref25_fail.f
              cases b with
              | true => exact ⟨true, rfl, rfl⟩
              | false =>
                by_cases hlt : F < s.size
                · refine ⟨true, ?_, ?_⟩
                  · rw [if_neg (by simp), if_pos (by omega), decide_eq_false (by omega)]; rfl
                  · rw [if_neg (by simp), if_pos (by omega)]; rfl
                · refine ⟨false, ?_, ?_⟩
                  · rw [if_neg (by simp), if_pos (by omega), decide_eq_true (by omega)]; rfl
                  · rw [if_neg (by simp), if_neg (by omega)]
            obtain ⟨b', e1, e2⟩ := hend
            refine Ev.step (fun k => ?_) (go F b' hF)
            simp only [computuslaw25_LinescanMatchesReference.j3]
            rw [if_pos (by omega), if_pos (by omega), if_neg h0, if_neg h1, if_neg h2, if_neg h3, if_pos h4, e1, Option.bind_some, e2, Option.bind_some]
          · refine Ev.step (fun k => ?_) (go F b hF)
            simp only [computuslaw25_LinescanMatchesReference.j3]
            rw [if_pos (by omega), if_pos (by omega), if_neg h0, if_neg h1, if_neg h2, if_neg h3, if_neg h4]
theorem law_l0 {s : ByteArray} {l1 : List S46} (hs : s.size ≤ 1000) (hl : l1.length ≤ 60) : ∀ (d i : Nat), i + d = l1.length → ∀ (F : Nat) (b : Bool), F ≤ s.size → Ev (fun k => computuslaw25_LinescanMatchesReference.l0 k s l1 (i : Int) s (F : Int) b s (F : Int) b) true
  | 0, i, h, F, b, hF => by
    refine Ev.step (fun k => ?_) (Ev.now _)
    simp only [computuslaw25_LinescanMatchesReference.l0]
    rw [if_neg (by omega)]
  | d + 1, i, h, F, b, hF => by
    have j3 := fun x8 => law_j3 (s := s) (l1 := l1) hs hl (i := i) (by omega) x8 hF (b := b) (law_l0 hs hl d (i + 1) (by omega))
    have j2 : ∀ (x8 : Int) (c : Bool), Ev (fun k => computuslaw25_LinescanMatchesReference.j2 k s l1 (i : Int) x8 c s (F : Int) b s (F : Int) b) true := by
      intro x8 c
      cases c with
      | true =>
        refine Ev.step (fun k => ?_) (j3 0)
        simp only [computuslaw25_LinescanMatchesReference.j2]
        rw [if_pos trivial]
      | false =>
        refine Ev.step (fun k => ?_) (j3 x8)
        simp only [computuslaw25_LinescanMatchesReference.j2]
        rw [if_neg (by simp)]
    by_cases h1 : (rd_T46 l1 (i : Int)).f1 < 0
    · refine Ev.step (fun k => ?_) (j2 (rd_T46 l1 (i : Int)).f1 true)
      simp only [computuslaw25_LinescanMatchesReference.l0]
      rw [if_pos (by omega), if_pos (by omega), if_pos h1]
    · refine Ev.step (fun k => ?_) (j2 (rd_T46 l1 (i : Int)).f1 (decide ((rd_T46 l1 (i : Int)).f1 > 1000)))
      simp only [computuslaw25_LinescanMatchesReference.l0]
      rw [if_pos (by omega), if_pos (by omega), if_neg h1]
theorem law_f (s : ByteArray) (l1 : List S46) : Ev (fun k => computuslaw25_LinescanMatchesReference.f k s l1) true := by
  have hj : ∀ c : Bool, (c = false → s.size ≤ 1000 ∧ l1.length ≤ 60) → Ev (fun k => computuslaw25_LinescanMatchesReference.j0 k s l1 c) true := by
    intro c hc
    cases c with
    | true =>
      refine Ev.step (fun k => ?_) (Ev.now _)
      simp only [computuslaw25_LinescanMatchesReference.j0]
      rw [if_pos trivial]
      rfl
    | false =>
      have h := hc rfl
      refine Ev.step (fun k => ?_) (law_l0 h.1 h.2 l1.length 0 (by omega) 0 false (by omega))
      simp only [computuslaw25_LinescanMatchesReference.j0]
      rw [if_neg (by simp)]
      rfl
  unfold computuslaw25_LinescanMatchesReference.f
  by_cases h1 : (s.size : Int) > 1000
  · refine Ev.congr (fun k => ?_) (hj true (by simp))
    rw [show computuslaw25_awake.f = some true from rfl, Option.bind_some, if_pos rfl, if_pos h1]
  · refine Ev.congr (fun k => ?_) (hj (decide ((l1.length : Int) > 60)) (fun h => ⟨by omega, by have := of_decide_eq_false h; omega⟩))
    rw [show computuslaw25_awake.f = some true from rfl, Option.bind_some, if_pos rfl, if_neg h1]
end Go.Proofs.Ytkpicinbckedoaa.Q
namespace Go.Proofs.Ytkpicinbckedoaa.Pure
theorem LinescanMatchesReference : Q.computuslaw25_LinescanMatchesReference.Pure := by
  intro a0 l1 _ _ _
  exact (Q.law_f a0 l1).rounds
end Go.Proofs.Ytkpicinbckedoaa.Pure
