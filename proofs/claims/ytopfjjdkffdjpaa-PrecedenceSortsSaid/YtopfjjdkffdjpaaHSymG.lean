/- What is proved: sort.symMerge merges two sorted parts of a list, whatever their lengths. -/
import Derived.Test.YtopfjjdkffdjpaaHSym
namespace Go.Proofs.Ytopfjjdkffdjpaa.Q
open Go.RowKit Go.Proofs.YtopfjjdkffdjpaaW.PrintWords Go.Proofs.YtopfjjdkffdjpaaW.PrintLast Go.Proofs.YtopfjjdkffdjpaaW.PrintMore Go.Proofs.Ytopfjjdkffdjpaa.Srt
set_option linter.unusedVariables false
set_option linter.unusedSimpArgs false

section
variable {α : Type} {d : α} {p : α → α → Bool} {T : TypeId} {rv : Value} {gl gs : Nat} {St : List α → World → Prop} (S : Sorter d p T rv gl gs St)
include S

omit S in
/-- The halves that the search finds may be merged by themselves. -/
theorem halves (W : Wo p) (A B : List α) (u v : Nat) (hA : Srtd p A) (hB : Srtd p B) (hu : u ≤ A.length) (hv : v ≤ B.length)
    (h1 : u = 0 ∨ v = B.length ∨ p (B.getD v d) (A.getD (u - 1) d) = false) (h2 : u = A.length ∨ v = 0 ∨ p (B.getD (v - 1) d) (A.getD u d) = true) :
    mrg p A B = mrg p (A.take u) (B.take v) ++ mrg p (A.drop u) (B.drop v) := by
  have := mrg_split (p := p) (A.take u) (B.take v) (A.drop u) (B.drop v) (fun a ha b hb => by
    obtain ⟨q, q1, q2, rfl⟩ := mem_take_getD d A u ha
    obtain ⟨r, r1, r2, rfl⟩ := mem_drop_getD d B v hb
    rcases h1 with h1 | h1 | h1
    · omega
    · omega
    · have e1 : p (B.getD r d) (A.getD (u - 1) d) = false := by
        by_cases hr : v < r
        · exact W.neg _ _ _ (srtd_get d hB hr r2) h1
        · rw [show r = v by omega]; exact h1
      by_cases hq : q < u - 1
      · exact W.neg _ _ _ e1 (srtd_get d hA hq (by omega))
      · rw [show q = u - 1 by omega]; exact e1) (fun a ha b hb => by
    obtain ⟨q, q1, q2, rfl⟩ := mem_drop_getD d A u ha
    obtain ⟨r, r1, r2, rfl⟩ := mem_take_getD d B v hb
    rcases h2 with h2 | h2 | h2
    · omega
    · omega
    · have e1 : p (B.getD r d) (A.getD u d) = true := by
        by_cases hr : r < v - 1
        · cases hc : p (B.getD r d) (A.getD u d) with
          | true => rfl
          | false => exact absurd (W.neg _ _ _ (srtd_get d hB hr (by omega)) hc) (by rw [h2]; simp)
        · rw [show r = v - 1 by omega]; exact h2
      by_cases hq : u < q
      · cases hc : p (B.getD r d) (A.getD q d) with
        | true => rfl
        | false => exact absurd (W.neg _ _ _ hc (srtd_get d hA hq q2)) (by rw [e1]; simp)
      · rw [show q = u by omega]; exact e1)
  rwa [List.take_append_drop, List.take_append_drop] at this

set_option maxHeartbeats 8000000 in
set_option maxRecDepth 100000 in
theorem symMerge_any (W : Wo p) : ∀ (N : Nat) (P A B Q : List α) (w : World) (a m b : Nat), A.length + B.length ≤ N → St (P ++ (A ++ (B ++ Q))) w → a = P.length → m = a + A.length → b = m + B.length → 0 < A.length → 0 < B.length → Srtd p A → Srtd p B → (P ++ (A ++ (B ++ Q))).length ≤ 1000000000 →
    Calls Try.prog 55 #[.iface T rv, .int .i64 a, .int .i64 m, .int .i64 b] w fun e w' => e = .returned (.tuple #[]) ∧ St (P ++ (mrg p A B ++ Q)) w' := by
  intro N
  induction N with
  | zero => intro P A B Q w a m b hn h ha hm hb hA hB hs ht hz; omega
  | succ N IH =>
  intro P A B Q w a m b hn h ha hm hb hA hB hs ht hz
  by_cases hA1 : A.length = 1
  · obtain ⟨x, rfl⟩ := List.length_eq_one_iff.1 hA1
    exact sym_left S W P B Q x w a m b (by simpa using h) ha (by simpa using hm) hb hB ht (by simpa using hz)
  by_cases hB1 : B.length = 1
  · obtain ⟨x, rfl⟩ := List.length_eq_one_iff.1 hB1
    exact sym_right S W P A Q x w a m b (by simpa using h) ha hm (by simpa using hb) (by omega) hs (by simpa using hz)
  have hz2 : b ≤ 1000000000 ∧ a < m ∧ m < b := by simp at hz; omega
  obtain ⟨z1, z2, z3⟩ := hz2
  have F := Aside0.mk (And.intro ha (And.intro hm (And.intro hb (And.intro hn hz))))
  have H := Aside0.mk h
  have HS := Aside0.mk (And.intro hs ht)
  have mL := S.mL
  have eL := S.eL
  have mS := S.mS
  have eS := S.eS
  have SW := Aside0.mk S
  have IHA := Aside0.mk IH
  have e0 : ((m : Int) - (a : Int) == 1) = false := by rw [beq_eq_false_iff_ne]; omega
  have e1 : ((b : Int) - (m : Int) == 1) = false := by rw [beq_eq_false_iff_ne]; omega
  obtain ⟨mid, hmid, hm1, hm2⟩ : ∃ mid : Nat, ((a : Int) + (b : Int)) / 2 = (mid : Int) ∧ mid = (a + b) / 2 ∧ a + b - 1 ≤ mid + mid := ⟨(a + b) / 2, by omega, rfl, by omega⟩
  have HM := Aside0.mk (And.intro hm1 hm2)
  have hm3 : a < mid ∧ mid < b := by omega
  obtain ⟨hm3, hm4⟩ := hm3
  obtain ⟨s0, r0, G⟩ : ∃ s0 r0 : Nat, Aside0 (a ≤ s0 ∧ s0 ≤ r0 ∧ r0 ≤ m ∧ r0 ≤ mid ∧ mid + m ≤ b + s0 ∧ (s0 = a ∨ mid + m = b + s0) ∧ (r0 = m ∨ r0 = mid)) ∧ ((mid < m ∧ decide (mid < m) = true ∧ Aside0 ((mid : Int) + (m : Int) - (b : Int) = (s0 : Int) ∧ (mid : Int) = (r0 : Int))) ∨ (¬ mid < m ∧ decide (mid < m) = false ∧ Aside0 ((a : Int) = (s0 : Int) ∧ (m : Int) = (r0 : Int)))) := by
    by_cases h : mid < m
    · exact ⟨mid + m - b, mid, ⟨by omega⟩, .inl ⟨h, decide_eq_true h, ⟨by omega, rfl⟩⟩⟩
    · exact ⟨a, m, ⟨by omega⟩, .inr ⟨h, decide_eq_false h, ⟨rfl, rfl⟩⟩⟩
  obtain ⟨HG, G⟩ := G
  obtain ⟨R, hR⟩ : ∃ R, R = mrg p A B := ⟨_, rfl⟩
  rw [← hR]
  have HRR := Aside0.mk hR
  clear h ha hb hz S hs hm ht hn IH hA hB hA1 hB1 hm1 hm2 hR
  go_enter Try.func55, Try.ntmps55
  rcases G with ⟨c0, c0b, HSR⟩ | ⟨c0, c0b, HSR⟩
  all_goals
    go_wp2_with fail
    clear e0 e1 c0b c0
    go_loopg [18, 19, 21] (r0 - s0) (fun kq v18 v19 v21 w' => ∃ i j : Nat, v18 = .int .i64 i ∧ v19 = .int .i64 j ∧ Aside0 (s0 ≤ i ∧ i ≤ j ∧ j ≤ r0 ∧ j ≤ i + kq) ∧ Aside0 ((i = s0 ∨ p (B.getD (mid - i) d) (A.getD (i - 1 - a) d) = false) ∧ (j = r0 ∨ p (B.getD (mid - 1 - j) d) (A.getD (j - a) d) = true)) ∧ Aside0 (St (P ++ (A ++ (B ++ Q))) w'))
    case atStart => exact ⟨s0, r0, by have := HSR.out; first | rfl | (congr 1; omega), by have := HSR.out; first | rfl | (congr 1; omega), ⟨by have := HG.out; omega⟩, ⟨.inl rfl, .inl rfl⟩, H⟩
    case round =>
      clear H
      obtain ⟨i, j, rfl, rfl, HI, HQ, H⟩ := hrel
      obtain ⟨i1, i2, i3, i4⟩ := HI.out
      obtain ⟨g1, g2, g3, g4, g5, g6, g7⟩ := HG.out
      by_cases hij : i < j
      · obtain ⟨k1, rfl⟩ : ∃ m, gk = m + 1 := ⟨gk - 1, by omega⟩
        have c1 : decide ((i : Int) < (j : Int)) = true := decide_eq_true (by omega)
        have c1b : decide (i < j) = true := decide_eq_true hij
        obtain ⟨c, hh, hq1, hq2⟩ : ∃ c : Nat, ((i : Int) + (j : Int)) / 2 = (c : Int) ∧ i ≤ c ∧ c < j := ⟨(i + j) / 2, by omega, by omega, by omega⟩
        have HL : Aside0 (Calls Try.prog gl #[rv, .int .i64 ((mid : Int) + (m : Int) - 1 - (c : Int)), .int .i64 (c : Int)] wr fun e w' => e = .returned (.bool (p (B.getD (mid - 1 - c) d) (A.getD (c - a) d))) ∧ St (P ++ (A ++ (B ++ Q))) w') := ⟨by
          obtain ⟨f1, f2, f3, f4⟩ := F.out
          have hmm := HM.out.2
          have := SW.out.less _ wr (P.length + (A.length + (mid - 1 - c))) (P.length + (c - a)) ((mid : Int) + (m : Int) - 1 - (c : Int)) (c : Int) H.out (by simp; omega) (by simp; omega) (by omega) (by omega)
          have e2 := getD_app d P (A ++ (B ++ Q)) (A.length + (mid - 1 - c))
          rw [getD_app d A, getD_lt d B Q _ (by omega)] at e2
          have e3 := getD_app d P (A ++ (B ++ Q)) (c - a)
          rw [getD_lt d A (B ++ Q) _ (by omega)] at e3
          rwa [e2, e3] at this⟩
        obtain ⟨r, hr⟩ : ∃ r, r = p (B.getD (mid - 1 - c) d) (A.getD (c - a) d) := ⟨_, rfl⟩
        rw [← hr] at HL
        have HR := Aside0.mk (And.intro hr.symm (And.intro hq1 hq2))
        have hq3 : (c : Int) < 1000000000 := by omega
        have hq4 : (c : Int) < (mid : Int) := by omega
        clear hr H hq1 hq2 g1 g2 g3 g4 g5 g6 g7 i1 i2 i3 i4
        cases r with
        | true =>
          go_wp2_with (refine Calls.mono HL.out ?_; rintro e w2 ⟨rfl, h2⟩; have H := Aside0.mk h2; clear h2 HL)
          go_roundg k1
          case measure => omega
          case rel => exact ⟨i, c, rfl, by go_num, ⟨by have := HR.out; have := HI.out; omega⟩, ⟨HQ.out.1, .inr HR.out.1⟩, H⟩
        | false =>
          go_wp2_with (refine Calls.mono HL.out ?_; rintro e w2 ⟨rfl, h2⟩; have H := Aside0.mk h2; clear h2 HL)
          go_roundg k1
          case measure => omega
          case rel => exact ⟨c + 1, j, by go_num, rfl, ⟨by have := HR.out; have := HI.out; omega⟩, ⟨.inr (by
            have hp := HR.out.1
            rwa [show mid - (c + 1) = mid - 1 - c by omega, show c + 1 - 1 - a = c - a by omega]), HQ.out.2⟩, H⟩
      · have c1 : decide ((i : Int) < (j : Int)) = false := decide_eq_false (by omega)
        have c1b : decide (i < j) = false := decide_eq_false hij
        obtain rfl : i = j := by omega
        obtain ⟨A1, A2, B1, B2, hA, hB, lA, lB, hM⟩ : ∃ A1 A2 B1 B2 : List α, A = A1 ++ A2 ∧ B = B1 ++ B2 ∧ A1.length = i - a ∧ B1.length = mid - i ∧ mrg p A B = mrg p A1 B1 ++ mrg p A2 B2 := by
          obtain ⟨f1, f2, f3, f4⟩ := F.out
          refine ⟨A.take (i - a), A.drop (i - a), B.take (mid - i), B.drop (mid - i), (List.take_append_drop _ _).symm, (List.take_append_drop _ _).symm, by rw [List.length_take]; omega, by rw [List.length_take]; omega, halves (d := d) W A B (i - a) (mid - i) HS.out.1 HS.out.2 (by omega) (by omega) ?_ ?_⟩
          · rcases HQ.out.1 with h | h
            · rcases g6 with h6 | h6
              · exact .inl (by omega)
              · exact .inr (.inl (by omega))
            · exact .inr (.inr (by rwa [show i - a - 1 = i - 1 - a by omega]))
          · rcases HQ.out.2 with h | h
            · rcases g7 with h6 | h6
              · exact .inl (by omega)
              · exact .inr (.inl (by omega))
            · exact .inr (.inr (by rwa [show mid - i - 1 = mid - 1 - i by omega]))
        rw [← HRR.out] at hM
        clear HRR
        subst hA
        subst hB
        obtain ⟨f1, f2, f3, f4, f5⟩ := F.out
        rw [List.length_append] at f2 f3
        rw [List.length_append, List.length_append] at f4
        simp only [List.length_append] at f5
        obtain ⟨sA1, sA2, -⟩ := List.pairwise_append.1 HS.out.1
        obtain ⟨sB1, sB2, -⟩ := List.pairwise_append.1 HS.out.2
        have hmm := HM.out.2
        have T1 : Aside0 (¬ (i < m ∧ m < mid + m - i) → ∀ w', St (P ++ ((A1 ++ A2) ++ ((B1 ++ B2) ++ Q))) w' → St (P ++ (A1 ++ (B1 ++ (A2 ++ (B2 ++ Q))))) w') := ⟨by
          intro h w' hw
          rcases (show A2 = [] ∨ B1 = [] from by
            by_cases h2 : i < m
            · exact .inr (List.length_eq_zero_iff.1 (by omega))
            · exact .inl (List.length_eq_zero_iff.1 (by omega))) with e | e <;> subst e <;> simpa using hw⟩
        have T2 : Aside0 (¬ (a < i ∧ i < mid) → ∀ w', St (P ++ (A1 ++ (B1 ++ (A2 ++ (B2 ++ Q))))) w' → St (P ++ (mrg p A1 B1 ++ (A2 ++ (B2 ++ Q)))) w') := ⟨by
          intro h w' hw
          rcases (show A1 = [] ∨ B1 = [] from by
            by_cases h2 : a < i
            · exact .inr (List.length_eq_zero_iff.1 (by omega))
            · exact .inl (List.length_eq_zero_iff.1 (by omega))) with e | e
          · subst e; rw [nil_mrg]; simpa using hw
          · subst e; rw [mrg_nil]; simpa using hw⟩
        have T3 : Aside0 (¬ (mid < mid + m - i ∧ mid + m - i < b) → ∀ w', St (P ++ (mrg p A1 B1 ++ (A2 ++ (B2 ++ Q)))) w' → St (P ++ (R ++ Q)) w') := ⟨by
          intro h w' hw
          rw [hM]
          rcases (show A2 = [] ∨ B2 = [] from by
            by_cases h2 : mid < mid + m - i
            · exact .inr (List.length_eq_zero_iff.1 (by omega))
            · exact .inl (List.length_eq_zero_iff.1 (by omega))) with e | e
          · subst e; rw [nil_mrg]; simpa using hw
          · subst e; rw [mrg_nil]; simpa using hw⟩
        have HX : Aside0 (i < m → m < mid + m - i → ∀ w', St (P ++ ((A1 ++ A2) ++ ((B1 ++ B2) ++ Q))) w' → Calls Try.prog 63 #[.iface T rv, .int .i64 i, .int .i64 m, .int .i64 ((mid : Int) + (m : Int) - (i : Int))] w' fun e w'' => e = .returned (.tuple #[]) ∧ St (P ++ (A1 ++ (B1 ++ (A2 ++ (B2 ++ Q))))) w'') := ⟨by
          intro q1 q2 w' hw
          have := rotate_any SW.out (P ++ A1) A2 B1 (B2 ++ Q) w' i m (mid + m - i) (by simpa using hw) (by simp; omega) (by simp; omega) (by simp; omega) (by omega) (by omega) (by simp; omega)
          rw [show ((mid + m - i : Nat) : Int) = (mid : Int) + (m : Int) - (i : Int) by omega] at this
          refine this.mono ?_
          rintro e w2 ⟨he, h2⟩
          exact ⟨he, by simpa using h2⟩⟩
        have HY : Aside0 (a < i → i < mid → ∀ w', St (P ++ (A1 ++ (B1 ++ (A2 ++ (B2 ++ Q))))) w' → Calls Try.prog 55 #[.iface T rv, .int .i64 a, .int .i64 i, .int .i64 mid] w' fun e w'' => e = .returned (.tuple #[]) ∧ St (P ++ (mrg p A1 B1 ++ (A2 ++ (B2 ++ Q)))) w'') := ⟨by
          intro q1 q2 w' hw
          exact IHA.out P A1 B1 (A2 ++ (B2 ++ Q)) w' a i mid (by omega) hw f1 (by omega) (by omega) (by omega) (by omega) sA1 sB1 (by simp; omega)⟩
        have HZ : Aside0 (mid < mid + m - i → mid + m - i < b → ∀ w', St (P ++ (mrg p A1 B1 ++ (A2 ++ (B2 ++ Q)))) w' → Calls Try.prog 55 #[.iface T rv, .int .i64 mid, .int .i64 ((mid : Int) + (m : Int) - (i : Int)), .int .i64 b] w' fun e w'' => e = .returned (.tuple #[]) ∧ St (P ++ (R ++ Q)) w'') := ⟨by
          intro q1 q2 w' hw
          have hl := length_mrg (p := p) A1 B1
          have := IHA.out (P ++ mrg p A1 B1) A2 B2 Q w' mid (mid + m - i) b (by omega) (by simpa using hw) (by simp; omega) (by omega) (by omega) (by omega) (by omega) sA2 sB2 (by simp; omega)
          rw [show ((mid + m - i : Nat) : Int) = (mid : Int) + (m : Int) - (i : Int) by omega] at this
          refine this.mono ?_
          rintro e w2 ⟨he, h2⟩
          exact ⟨he, by rw [hM]; simpa using h2⟩⟩
        have him : (i : Int) ≤ (mid : Int) ∧ (i : Int) ≤ (m : Int) ∧ (a : Int) ≤ (i : Int) := by omega
        obtain ⟨him, him2, him3⟩ := him
        clear hM sA1 sA2 sB1 sB2 f1 f2 f3 f4 f5 lA lB hmm g1 g2 g3 g4 g5 g6 g7 i1 i2 i3 i4 HI HQ HG HSR IHA HS F hij
        go_wp2_with (first | (with_reducible refine Calls.mono (HX.out (by omega) (by omega) _ H.out) ?_; rintro e w2 ⟨rfl, h2⟩; have H1 := Aside0.mk h2; clear h2 H) | (with_reducible refine Calls.mono (HY.out (by omega) (by omega) _ (by first | exact H1.out | exact T1.out (by omega) _ H.out)) ?_; rintro e w3 ⟨rfl, h2⟩; have H2 := Aside0.mk h2; clear h2) | (with_reducible refine Calls.mono (HZ.out (by omega) (by omega) _ (by first | exact H2.out | exact T2.out (by omega) _ H1.out | exact T2.out (by omega) _ (T1.out (by omega) _ H.out))) ?_; rintro e w4 ⟨rfl, h2⟩; have H3 := Aside0.mk h2; clear h2))
        all_goals (go_end0; exact ⟨rfl, by first | exact H3.out | exact T3.out (by omega) _ H2.out | exact T3.out (by omega) _ (T2.out (by omega) _ H1.out) | exact T3.out (by omega) _ (T2.out (by omega) _ (T1.out (by omega) _ H.out))⟩)
end
end Go.Proofs.Ytopfjjdkffdjpaa.Q
