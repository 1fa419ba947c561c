/- What is proved: the reference's digit, letter, Number and Identifier answer as the scans of the program do. -/
import Derived.Test.YtkpicinbckedoaaHScanIde
import Derived.Deep.RegionHeld3
import Derived.LoopTactic
namespace Go.Proofs.Ytkpicinbckedoaa.Q
open Go.RowKit Go.Proofs.YtkpicinbckedoaaW.PrintWords Go.Proofs.YtkpicinbckedoaaW.PrintLast Go.Proofs.YtkpicinbckedoaaW.PrintMore
set_option linter.unusedVariables false
set_option linter.unusedSimpArgs false

set_option maxHeartbeats 4000000 in
set_option maxRecDepth 100000 in
theorem r25_digit0 (s : ByteArray) (a : Int) (w : World) (r : Bool) (h0 : 0 ≤ a) (hr : (decide (a < (s.size : Int)) && pDigit (bt s a)) = r) : Calls Try.prog 48 #[.string s, .int .i64 a] w fun e w' => e = .returned (.bool r) ∧ w = w' := by
  by_cases h : a < (s.size : Int)
  · have c1 : decide (a < (s.size : Int)) = true := decide_eq_true h
    have hx := bt_at s a
    rw [c1, Bool.true_and] at hr
    unfold pDigit at hr
    replace h0 := eq_true h0
    replace h := eq_true h
    by_cases h2 : 48 ≤ bt s a
    · have c2 : decide (48 ≤ bt s a) = true := decide_eq_true h2
      rw [c2, Bool.true_and] at hr
      subst hr
      clear h2
      go_enter Try.func48, Try.ntmps48
      go_wp2
      go_ret
      exact ⟨rfl, rfl⟩
    · have c2 : decide (48 ≤ bt s a) = false := decide_eq_false h2
      rw [c2, Bool.false_and] at hr
      subst hr
      clear h2
      go_enter Try.func48, Try.ntmps48
      go_wp2
      go_ret
      exact ⟨rfl, rfl⟩
  · have c1 : decide (a < (s.size : Int)) = false := decide_eq_false h
    rw [c1, Bool.false_and] at hr
    subst hr
    clear h
    go_enter Try.func48, Try.ntmps48
    go_wp2
    go_ret
    exact ⟨rfl, rfl⟩
theorem r25_digit (s : ByteArray) (i : Nat) (w : World) (r : Bool) (hr : scTake s i pDigit = r) : Calls Try.prog 48 #[.string s, .int .i64 i] w fun e w' => e = .returned (.bool r) ∧ w = w' :=
  r25_digit0 s i w r (by omega) (by rw [← hr, scTake]; congr 1; rw [decide_eq_decide]; omega)
set_option maxHeartbeats 4000000 in
set_option maxRecDepth 100000 in
theorem r25_letter0 (s : ByteArray) (a : Int) (w : World) (r : Bool) (h0 : 0 ≤ a) (hr : (decide (a < (s.size : Int)) && pLetter (bt s a)) = r) : Calls Try.prog 52 #[.string s, .int .i64 a] w fun e w' => e = .returned (.bool r) ∧ w = w' := by
  by_cases h : a < (s.size : Int)
  · have c1 : decide (a < (s.size : Int)) = true := decide_eq_true h
    have hx := bt_at s a
    rw [c1, Bool.true_and] at hr
    unfold pLetter at hr
    replace h0 := eq_true h0
    replace h := eq_true h
    by_cases h2 : 97 ≤ bt s a
    · have c2 : decide (97 ≤ bt s a) = true := decide_eq_true h2
      rw [c2, Bool.true_and] at hr
      subst hr
      clear h2
      go_enter Try.func52, Try.ntmps52
      go_wp2
      go_ret
      exact ⟨rfl, rfl⟩
    · have c2 : decide (97 ≤ bt s a) = false := decide_eq_false h2
      rw [c2, Bool.false_and] at hr
      subst hr
      clear h2
      go_enter Try.func52, Try.ntmps52
      go_wp2
      go_ret
      exact ⟨rfl, rfl⟩
  · have c1 : decide (a < (s.size : Int)) = false := decide_eq_false h
    rw [c1, Bool.false_and] at hr
    subst hr
    clear h
    go_enter Try.func52, Try.ntmps52
    go_wp2
    go_ret
    exact ⟨rfl, rfl⟩
theorem r25_letter (s : ByteArray) (i : Nat) (w : World) (r : Bool) (hr : scTake s i pLetter = r) : Calls Try.prog 52 #[.string s, .int .i64 i] w fun e w' => e = .returned (.bool r) ∧ w = w' :=
  r25_letter0 s i w r (by omega) (by rw [← hr, scTake]; congr 1; rw [decide_eq_decide]; omega)
set_option maxHeartbeats 4000000 in
set_option maxRecDepth 100000 in
theorem r25_fail (s : ByteArray) (F : Int) (b : Bool) (i : Int) (w : World) : Calls Try.prog 42 #[.agg #[.string s, .int .i64 F, .bool b], .int .i64 i] w fun e w' => e = .returned (.agg #[.string s, .int .i64 i, .bool true]) ∧ w' = (w.alloc (.cells #[.string s, .int .i64 F, .bool b] 44)).alloc (.cells #[.string s, .int .i64 i, .bool true] 44) := by
  go_enter Try.func42, Try.ntmps42
  go_wp2
  exact bodyPost_ret (v := .agg #[.string s, .int .i64 i, .bool true]) (by simp [results, Try.results42, go_sem]) rfl ⟨rfl, rfl⟩

/-- What Number's first tests tell of the text at a. -/
theorem r25_at {s : ByteArray} {a : Int} {F : Nat} (ha : a = (F : Int)) (p : Int → Bool) : scTake s F p = (decide (a < (s.size : Int)) && p (bt s a)) := by
  subst ha
  simp only [scTake]
  congr 1
  rw [decide_eq_decide]; omega
/-- Where Number's digits begin. -/
def nNeg (s : ByteArray) (F : Nat) : Bool := scTake s F (pIs 45)
def nAt (s : ByteArray) (F : Nat) : Nat := if nNeg s F then F + 1 else F
theorem scNum_no {s : ByteArray} {F : Nat} (h0 : scTake s F (pIs 48) = false) (h : scTake s (nAt s F) pLeading = false) : scNum s F = (false, nAt s F, 0) := by
  unfold nAt nNeg at *
  rw [scNum, if_neg (by rw [h0]; simp)]
  by_cases h1 : scTake s F (pIs 45) = true
  · rw [if_pos h1] at h
    rw [if_pos h1, if_neg (by rw [h]; simp), if_pos h1]
  · rw [if_neg h1] at h
    rw [if_neg h1, if_neg (by rw [h]; simp), if_neg h1]
theorem scNum_yes {s : ByteArray} {F : Nat} (h0 : scTake s F (pIs 48) = false) (h : scTake s (nAt s F) pLeading = true) : scNum s F = (true, scRun pDigit s 9 (nAt s F + 1), if nNeg s F then -(scVal s (scRun pDigit s 9 (nAt s F + 1) - nAt s F) (nAt s F) 0) else scVal s (scRun pDigit s 9 (nAt s F + 1) - nAt s F) (nAt s F) 0) := by
  unfold nAt nNeg at *
  rw [scNum, if_neg (by rw [h0]; simp)]
  by_cases h1 : scTake s F (pIs 45) = true
  · rw [if_pos h1] at h
    simp only [if_pos h1, if_pos h]
  · rw [if_neg h1] at h
    simp only [if_neg h1, if_pos h]
theorem lead_dig {s : ByteArray} {i : Nat} : scTake s i pLeading = (scTake s i pDigit && !(bt s (i : Int) == 48)) := by
  unfold scTake pLeading pDigit
  rw [Bool.eq_iff_iff]
  simp only [Bool.and_eq_true, decide_eq_true_iff, Bool.not_eq_true', beq_eq_false_iff_ne]
  constructor
  · intro ⟨h1, h2, h3⟩; exact ⟨⟨h1, by omega, h3⟩, by omega⟩
  · intro ⟨⟨h1, h2, h3⟩, h4⟩; exact ⟨h1, by omega, h3⟩
set_option maxHeartbeats 4000000 in
set_option maxRecDepth 100000 in
theorem r25_number (s : ByteArray) (F : Nat) (w : World) (hs : s.size ≤ 4611686018427387904) (J : Int) (B : Bool) (V : Int) (hJ : J = ((scNum s F).2.1 : Int)) (hB : (scNum s F).1 = B) (hV : V = if (scNum s F).1 then (scNum s F).2.2 else 0) :
    Calls Try.prog 18 #[.agg #[.string s, .int .i64 F, .bool false]] w fun e w' => e = .returned (.tuple #[.agg #[.string s, .int .i64 J, .bool (!B)], .int .i64 V]) ∧ Below w.heap.size w w' := by
  obtain ⟨a, ha⟩ : ∃ a : Int, a = (F : Int) := ⟨_, rfl⟩
  have h48 := r25_at (s := s) ha (pIs 48)
  have h45 := r25_at (s := s) ha (pIs 45)
  have ha0 : 0 ≤ a := by omega
  rw [← ha]
  have HHS := Aside0.mk hs
  have HA := Aside0.mk ha
  have HJ := Aside0.mk hJ
  have HBB := Aside0.mk hB
  have HV := Aside0.mk hV
  clear hJ hB hV
  -- behind the sign: digits from j on
  have hrest : ∀ (N : Bool) (j : Int), Aside0 (scTake s F (pIs 48) = false) → Aside0 (nNeg s F = N) → Aside0 (j = (nAt s F : Int)) → Aside0 (N = N) := fun _ _ _ _ _ => ⟨rfl⟩
  clear hrest
  have hz : (decide (a < (s.size : Int)) && (bt s a == 48)) = true ∨ (decide (a < (s.size : Int)) && (bt s a == 48)) = false := by cases (decide (a < (s.size : Int)) && (bt s a == 48)) <;> simp
  rcases hz with hz | hz
  · have e : scNum s F = (true, F + 1, 0) := by rw [scNum, if_pos (by rw [h48]; exact hz)]
    have hJ := HJ.out
    have hB := HBB.out
    have hV := HV.out
    rw [e] at hJ hB hV
    simp only [if_true] at hV
    obtain rfl : J = a + 1 := by rw [hJ, ha]; rfl
    subst hB hV
    simp only [Bool.and_eq_true, decide_eq_true_eq] at hz
    have hlt := hz.1
    have h9 := hz.2
    have c1 : decide (a < (s.size : Int)) = true := decide_eq_true hlt
    have hx := bt_at s a
    have hw1 : IntKind.i64.wrap (a + 1) = a + 1 := IntWalk.i64_in _ (by omega)
    clear hJ e h48 h45 hs hz ha HJ HBB HV
    replace ha0 := eq_true ha0
    replace hlt := eq_true hlt
    go_enter Try.func18, Try.ntmps18
    go_wp2
    exact bodyPost_ret (v := .tuple #[.agg #[.string s, .int .i64 (a + 1), .bool (!true)], .int .i64 0]) (by simp [results, Try.results18, go_sem]) rfl ⟨rfl, ((Below.refl _ _).alloc (Nat.le_refl _) _).alloc (by simp) _⟩
  · have h0 : scTake s F (pIs 48) = false := by rw [h48]; exact hz
    have H0 := Aside0.mk h0
    obtain ⟨N, hN⟩ : ∃ N, N = nNeg s F := ⟨_, rfl⟩
    obtain ⟨j, hj⟩ : ∃ j : Int, j = (nAt s F : Int) := ⟨_, rfl⟩
    have HN := Aside0.mk hN
    have HJJ := Aside0.mk hj
    have hN2 : N = (decide (a < (s.size : Int)) && (bt s a == 45)) := by rw [hN, nNeg, h45]; rfl
    have hj2 : j = if N then a + 1 else a := by rw [hj, nAt, ← hN, ha]; cases N <;> rfl
    have hjb : 0 ≤ j ∧ (j ≤ (s.size : Int) ∨ j = a) := by
      rw [hj2]; cases N with
      | false => exact ⟨ha0, .inr rfl⟩
      | true =>
        have h3 := hN2.symm
        rw [Bool.and_eq_true, decide_eq_true_eq] at h3
        exact ⟨by simp; omega, .inl (by simp; omega)⟩
    clear hN hj h0 h48 h45 ha
    go_enter Try.func18, Try.ntmps18
    go_upto_region 4 with (fail)
    go_cut [24] (fun v24 wc => v24 = .bool false ∧ wc = ((w.alloc (.cells #[.string s, .int .i64 a, .bool false] 44)).alloc (.cells #[.string ⟨#[]⟩, .int .i64 0, .bool false] 44)))
    case first =>
      clear hj2 hN2 hjb
      by_cases hlt : a < (s.size : Int)
      · have c1 : decide (a < (s.size : Int)) = true := decide_eq_true hlt
        rw [c1, Bool.true_and] at hz
        have hx := bt_at s a
        clear hs
        replace ha0 := eq_true ha0
        replace hlt := eq_true hlt
        go_wp2
        go_meet
        case rel => exact ⟨rfl, rfl⟩
      · have c1 : decide (a < (s.size : Int)) = false := decide_eq_false hlt
        clear hs hlt hz
        go_wp2
        go_meet
        case rel => exact ⟨rfl, rfl⟩
    case rest =>
      obtain ⟨rfl, rfl⟩ := hcut
      clear hz
      go_upto_region 6 with (fail)
      go_cut [5] (fun v5 wc => v5 = .bool N ∧ wc = ((w.alloc (.cells #[.string s, .int .i64 a, .bool false] 44)).alloc (.cells #[.string ⟨#[]⟩, .int .i64 0, .bool false] 44)))
      case first =>
        clear hj2 hjb
        by_cases hlt : a < (s.size : Int)
        · have c1 : decide (a < (s.size : Int)) = true := decide_eq_true hlt
          rw [c1, Bool.true_and] at hN2
          have hx := bt_at s a
          clear hs
          replace ha0 := eq_true ha0
          replace hlt := eq_true hlt
          have hN3 := hN2.symm
          clear hN2
          go_wp2
          go_meet
          case rel => exact ⟨rfl, rfl⟩
        · have c1 : decide (a < (s.size : Int)) = false := decide_eq_false hlt
          rw [c1, Bool.false_and] at hN2
          subst hN2
          clear hs hlt
          go_wp2
          go_meet
          case rel => exact ⟨rfl, rfl⟩
      case rest =>
        obtain ⟨rfl, rfl⟩ := hcut
        go_upto_if 42 with (fail)
        go_cut [4] (fun v4 wc => v4 = .int .i64 j ∧ wc = ((w.alloc (.cells #[.string s, .int .i64 a, .bool false] 44)).alloc (.cells #[.string ⟨#[]⟩, .int .i64 0, .bool false] 44)))
        case first =>
          cases N with
          | true =>
            simp only [if_true] at hj2
            have hw1 : IntKind.i64.wrap (a + 1) = a + 1 := IntWalk.i64_in _ (by omega)
            subst hj2
            clear hN2 hjb hs
            go_wp2
            go_meet
            case rel => exact ⟨rfl, rfl⟩
          | false =>
            simp only [Bool.false_eq_true, if_false] at hj2
            subst hj2
            clear hN2 hjb hs
            go_wp2
            go_meet
            case rel => exact ⟨rfl, rfl⟩
        case rest =>
          obtain ⟨rfl, rfl⟩ := hcut
          have HJ0 := Aside0.mk hjb.1
          have HD : Aside0 ((decide (j < (s.size : Int)) && pDigit (bt s j)) = scTake s (nAt s F) pDigit) := ⟨(r25_at HJJ.out pDigit).symm⟩
          have hld := lead_dig (s := s) (i := nAt s F)
          rw [← HJJ.out] at hld
          obtain ⟨D, hD⟩ : ∃ D, D = scTake s (nAt s F) pDigit := ⟨_, rfl⟩
          rw [← hD] at HD hld
          have HDD := Aside0.mk hD
          have HHL := Aside0.mk hld
          clear hD hld hj2 hN2
          cases D with
          | false =>
            have e := scNum_no H0.out (by rw [HHL.out]; rfl)
            have hJ := HJ.out
            have hB := HBB.out
            have hV := HV.out
            rw [e] at hJ hB hV
            have hJ2 : J = j := by rw [hJ, HJJ.out]
            subst hB hV
            subst hJ2
            clear hJ e hs hjb HV HBB HJ ha0
            go_wp2_with (first | (go_at_call 48; (with_reducible refine (r25_digit0 _ _ _ false HJ0.out HD.out).mono ?_); rintro e w1 ⟨rfl, rfl⟩) | (go_at_call 42; (with_reducible refine (r25_fail _ _ _ _ _).mono ?_); rintro e w1 ⟨rfl, rfl⟩))
            exact bodyPost_ret (v := .tuple #[.agg #[.string s, .int .i64 J, .bool true], .int .i64 0]) (by simp [results, Try.results18, go_sem]) rfl ⟨rfl, ((((Below.refl _ _).alloc (Nat.le_refl _) _).alloc (by simp) _).alloc (by simp; omega) _).alloc (by simp; omega) _⟩
          | true =>
            have hjs : j < (s.size : Int) := by have h3 := HD.out; rw [Bool.and_eq_true, decide_eq_true_eq] at h3; exact h3.1
            have hx := bt_at s j
            have hj0 := eq_true HJ0.out
            have hjl := eq_true hjs
            obtain ⟨Z, hZ⟩ : ∃ Z, Z = (bt s j == 48) := ⟨_, rfl⟩
            rw [← hZ] at HHL
            cases Z with
            | true =>
              have e := scNum_no H0.out (by rw [HHL.out]; rfl)
              have hJ := HJ.out
              have hB := HBB.out
              have hV := HV.out
              rw [e] at hJ hB hV
              have hJ2 : J = j := by rw [hJ, HJJ.out]
              subst hB hV
              subst hJ2
              have hZ2 := hZ.symm
              clear hJ e hs hjb HV HBB HJ ha0 hZ hjs
              go_wp2_with (first | (go_at_call 48; (with_reducible refine (r25_digit0 _ _ _ true HJ0.out HD.out).mono ?_); rintro e w1 ⟨rfl, rfl⟩) | (go_at_call 42; (with_reducible refine (r25_fail _ _ _ _ _).mono ?_); rintro e w1 ⟨rfl, rfl⟩))
              exact bodyPost_ret (v := .tuple #[.agg #[.string s, .int .i64 J, .bool true], .int .i64 0]) (by simp [results, Try.results18, go_sem]) rfl ⟨rfl, ((((Below.refl _ _).alloc (Nat.le_refl _) _).alloc (by simp) _).alloc (by simp; omega) _).alloc (by simp; omega) _⟩
            | false =>
              have e := scNum_yes H0.out (by rw [HHL.out]; rfl)
              have hJ := HJ.out
              have hB := HBB.out
              have hV := HV.out
              rw [e] at hJ hB hV
              subst hB
              simp only [if_true] at hJ hV
              have hZ2 := hZ.symm
              obtain ⟨R, hR⟩ : ∃ R, R = scRun pDigit s 9 (nAt s F + 1) := ⟨_, rfl⟩
              rw [← hR] at hJ hV
              rw [← HN.out] at hV
              obtain ⟨VV, hVV⟩ : ∃ VV, VV = scVal s (R - nAt s F) (nAt s F) 0 := ⟨_, rfl⟩
              rw [← hVV] at hV
              have HRR : Aside0 (scRun pDigit s 10 j.toNat = R) := ⟨by rw [HJJ.out, Int.toNat_natCast, scRun, if_pos HDD.out.symm, hR]⟩
              have HVV : Aside0 (scVal s (R - j.toNat) j.toNat 0 = VV) := ⟨by rw [HJJ.out, Int.toNat_natCast, hVV]⟩
              have HJJ2 := Aside0.mk hJ
              have HV2 := Aside0.mk hV
              have HJS := Aside0.mk hjs
              clear hJ e hs hjb HV HBB HJ ha0 hZ hjs hR hVV hV
              go_wp2_with (first | (go_at_call 48; (with_reducible refine (r25_digit0 _ _ _ true HJ0.out HD.out).mono ?_); rintro e w1 ⟨rfl, rfl⟩))
              clear hx hj0 hjl hZ2
              go_loopg [4, 6, 7] 10 (fun kq v4 v6 v7 w' => ∃ (jj acc c : Int), v4 = .int .i64 jj ∧ v6 = .int .i64 acc ∧ v7 = .int .i64 c ∧ Aside0 ((c + kq = 10 ∧ 0 ≤ c) ∧ 0 ≤ jj ∧ jj ≤ s.size ∧ 0 ≤ acc ∧ acc < 10 ^ (10 - kq)) ∧ Aside0 (scRun pDigit s kq jj.toNat = R) ∧ Aside0 (scVal s (R - jj.toNat) jj.toNat acc = VV) ∧ w' = ((w.alloc (.cells #[.string s, .int .i64 a, .bool false] 44)).alloc (.cells #[.string ⟨#[]⟩, .int .i64 0, .bool false] 44)))
              case atStart => exact ⟨j, 0, 0, rfl, rfl, rfl, ⟨⟨by omega, by omega⟩, HJ0.out, by have := HJS.out; omega, by omega, by decide⟩, HRR, HVV, rfl⟩
              case round =>
                clear HRR HVV
                obtain ⟨jj, acc, c, rfl, rfl, rfl, HC, HRR, HVV, rfl⟩ := hrel
                have HJJ0 : Aside0 (0 ≤ jj) := ⟨HC.out.2.1⟩
                cases gk with
                | zero =>
                  have hc10 : c = 10 := by have := HC.out.1; omega
                  subst hc10
                  have hacb : acc ≤ 9999999999 := by have := HC.out.2.2.2.2; simp at this; omega
                  have eR : R = jj.toNat := HRR.out.symm
                  have eV : VV = acc := by rw [← HVV.out, eR, Nat.sub_self]; rfl
                  have hJ2 : J = jj := by rw [HJJ2.out, eR]; have := HJJ0.out; omega
                  have hac : 0 ≤ acc := HC.out.2.2.2.1
                  have hac2 : acc ≤ 9999999999 := hacb
                  have hng : IntKind.i64.wrap (-acc) = -acc := IntWalk.i64_in _ (by omega)
                  have hV2 := HV2.out
                  rw [eV] at hV2
                  subst hJ2
                  clear eR eV HJJ2 HV2 HRR HVV hacb HJJ HC HHL HDD
                  cases N with
                  | true =>
                    simp only [if_true] at hV2
                    subst hV2
                    go_wp2_with (fail)
                    exact bodyPost_ret (v := .tuple #[.agg #[.string s, .int .i64 J, .bool false], .int .i64 (-acc)]) (by simp [results, Try.results18, go_sem]) rfl ⟨rfl, ((Below.refl _ _).alloc (Nat.le_refl _) _).alloc (by simp) _⟩
                  | false =>
                    simp only [Bool.false_eq_true, if_false] at hV2
                    subst hV2
                    go_wp2_with (fail)
                    exact bodyPost_ret (v := .tuple #[.agg #[.string s, .int .i64 J, .bool false], .int .i64 V]) (by simp [results, Try.results18, go_sem]) rfl ⟨rfl, ((Below.refl _ _).alloc (Nat.le_refl _) _).alloc (by simp) _⟩
                | succ gk =>
                  have hclt : decide (c < 10) = true := decide_eq_true (by have := HC.out.1; omega)
                  have hpw : acc ≤ 999999999 := by
                    have h3 := HC.out.2.2.2.2
                    have h4 : (10 : Int) ^ (10 - (gk + 1)) ≤ 10 ^ 9 := by exact_mod_cast Nat.pow_le_pow_right (n := 10) (by decide) (by omega : 10 - (gk + 1) ≤ 9)
                    have h5 : (10 : Int) ^ 9 = 1000000000 := by decide
                    omega
                  have HPW := Aside0.mk hpw
                  have hjn : jj = (jj.toNat : Int) := by have := HJJ0.out; omega
                  obtain ⟨D, hD⟩ : ∃ D, D = scTake s jj.toNat pDigit := ⟨_, rfl⟩
                  have HDG : Aside0 ((decide (jj < (s.size : Int)) && pDigit (bt s jj)) = D) := ⟨by rw [hD]; exact (r25_at hjn pDigit).symm⟩
                  have HD2 := Aside0.mk hD
                  clear hD hjn
                  cases D with
                  | false =>
                    have eR : R = jj.toNat := by rw [← HRR.out, scRun, if_neg (by rw [← HD2.out]; simp)]
                    have eV : VV = acc := by rw [← HVV.out, eR, Nat.sub_self]; rfl
                    have hacb : acc ≤ 9999999999 := by omega
                    clear hpw
                    have hJ2 : J = jj := by rw [HJJ2.out, eR]; have := HJJ0.out; omega
                    have hac : 0 ≤ acc := HC.out.2.2.2.1
                    have hac2 : acc ≤ 9999999999 := hacb
                    have hng : IntKind.i64.wrap (-acc) = -acc := IntWalk.i64_in _ (by omega)
                    have hV2 := HV2.out
                    rw [eV] at hV2
                    subst hJ2
                    clear eR eV HJJ2 HV2 HRR HVV hacb HJJ HC HHL HDD
                    cases N with
                    | true =>
                      simp only [if_true] at hV2
                      subst hV2
                      go_wp2_with (go_at_call 48; (with_reducible refine (r25_digit0 _ _ _ false HJJ0.out HDG.out).mono ?_); rintro e w1 ⟨rfl, rfl⟩)
                      exact bodyPost_ret (v := .tuple #[.agg #[.string s, .int .i64 J, .bool false], .int .i64 (-acc)]) (by simp [results, Try.results18, go_sem]) rfl ⟨rfl, ((Below.refl _ _).alloc (Nat.le_refl _) _).alloc (by simp) _⟩
                    | false =>
                      simp only [Bool.false_eq_true, if_false] at hV2
                      subst hV2
                      go_wp2_with (go_at_call 48; (with_reducible refine (r25_digit0 _ _ _ false HJJ0.out HDG.out).mono ?_); rintro e w1 ⟨rfl, rfl⟩)
                      exact bodyPost_ret (v := .tuple #[.agg #[.string s, .int .i64 J, .bool false], .int .i64 V]) (by simp [results, Try.results18, go_sem]) rfl ⟨rfl, ((Below.refl _ _).alloc (Nat.le_refl _) _).alloc (by simp) _⟩
                  | true =>
                    have hjs : jj < (s.size : Int) := by have h3 := HDG.out; rw [Bool.and_eq_true, decide_eq_true_eq] at h3; exact h3.1
                    have hdd : 48 ≤ bt s jj ∧ bt s jj ≤ 57 := by have h3 := HDG.out; simp only [pDigit, Bool.and_eq_true, decide_eq_true_eq] at h3; exact h3.2
                    have b1 := hdd.1
                    have b2 := hdd.2
                    have hj0 := HJJ0.out
                    have hac : 0 ≤ acc := HC.out.2.2.2.1
                    have hss := HHS.out
                    have hc0 := HC.out.1
                    have q1 : IntKind.i64.wrap (10 * acc) = 10 * acc := IntWalk.i64_in _ (by omega)
                    have q2 : IntKind.i64.wrap (bt s jj) = bt s jj := IntWalk.i64_in _ (by omega)
                    have q3 : IntKind.i64.wrap (10 * acc + bt s jj) = 10 * acc + bt s jj := IntWalk.i64_in _ (by omega)
                    have q4 : IntKind.i64.wrap (10 * acc + bt s jj - 48) = 10 * acc + bt s jj - 48 := IntWalk.i64_in _ (by omega)
                    have q5 : IntKind.i64.wrap (jj + 1) = jj + 1 := IntWalk.i64_in _ (by omega)
                    have q6 : IntKind.i64.wrap (c + 1) = c + 1 := IntWalk.i64_in _ (by omega)
                    have hx := bt_at s jj
                    have HJL := Aside0.mk hjs
                    have HB12 := Aside0.mk hdd
                    replace hj0 := eq_true hj0
                    replace hjs := eq_true hjs
                    clear hpw hdd hss hc0 b1 b2 hac
                    go_wp2_with (go_at_call 48; (with_reducible refine (r25_digit0 _ _ _ true HJJ0.out HDG.out).mono ?_); rintro e w1 ⟨rfl, rfl⟩)
                    go_roundg gk
                    case measure => omega
                    case rel =>
                      have hj1 : (jj + 1).toNat = jj.toNat + 1 := by have := HJJ0.out; omega
                      have h2 := HRR.out
                      rw [scRun, if_pos HD2.out.symm] at h2
                      refine ⟨jj + 1, 10 * acc + bt s jj - 48, c + 1, rfl, rfl, rfl, ⟨⟨by have := HC.out.1; omega, by have := HC.out.1; omega⟩, by have := HJJ0.out; omega, by have := HJL.out; omega, by have := HB12.out; have := HC.out.2.2.2.1; omega, ?_⟩, ⟨by rw [hj1]; exact h2⟩, ⟨?_⟩, rfl⟩
                      · have h3 := HC.out.2.2.2.2
                        have hg : gk + 1 ≤ 10 := by have := HC.out.1; omega
                        rw [show 10 - gk = (10 - (gk + 1)) + 1 by omega, Int.pow_succ]
                        have := HB12.out
                        omega
                      · rw [← HVV.out, hj1]
                        have hge := (scRun_spec pDigit s gk (jj.toNat + 1) (by have := HJL.out; have := HJJ0.out; omega)).1
                        rw [h2] at hge
                        rw [show R - jj.toNat = (R - (jj.toNat + 1)) + 1 by omega, scVal, show ((jj.toNat : Nat) : Int) = jj by have := HJJ0.out; omega, show 10 * acc + (bt s jj - 48) = 10 * acc + bt s jj - 48 by omega]
set_option maxHeartbeats 4000000 in
set_option maxRecDepth 100000 in
theorem r25_ident (s : ByteArray) (F : Nat) (w : World) (hs : s.size ≤ 4611686018427387904) (J : Int) (B : Bool) (X : ByteArray) (hJ : J = ((scIdent s F).2 : Int)) (hB : (scIdent s F).1 = B) (hX : X = if B then s.extract F (scIdent s F).2 else ⟨#[]⟩) :
    Calls Try.prog 20 #[.agg #[.string s, .int .i64 F, .bool false]] w fun e w' => e = .returned (.tuple #[.agg #[.string s, .int .i64 J, .bool (!B)], .string X]) ∧ Below w.heap.size w w' := by
  obtain ⟨a, ha⟩ : ∃ a : Int, a = (F : Int) := ⟨_, rfl⟩
  rw [← ha]
  have HHS := Aside0.mk hs
  have HA := Aside0.mk ha
  have HA0 : Aside0 (0 ≤ a) := ⟨by omega⟩
  obtain ⟨L0, hL0⟩ : ∃ L, L = scTake s F pLetter := ⟨_, rfl⟩
  have HL0 : Aside0 ((decide (a < (s.size : Int)) && pLetter (bt s a)) = L0) := ⟨by rw [hL0]; exact (r25_at ha pLetter).symm⟩
  cases L0 with
  | false =>
    have e : scIdent s F = (false, F) := by rw [scIdent, if_neg (by rw [← hL0]; simp)]
    rw [e] at hJ hB hX
    subst hB
    simp only [Bool.false_eq_true, if_false] at hX
    have hJ2 : J = a := by rw [hJ, ha]
    subst hJ2 hX
    clear hJ e hs ha hL0
    go_enter Try.func20, Try.ntmps20
    go_wp2_with (first | (go_at_call 52; (with_reducible refine (r25_letter0 _ _ _ false HA0.out HL0.out).mono ?_); rintro e w1 ⟨rfl, rfl⟩) | (go_at_call 42; (with_reducible refine (r25_fail _ _ _ _ _).mono ?_); rintro e w1 ⟨rfl, rfl⟩))
    exact bodyPost_ret (v := .tuple #[.agg #[.string s, .int .i64 J, .bool true], .string ⟨#[]⟩]) (by simp [results, Try.results20, go_sem]) rfl ⟨rfl, ((((Below.refl _ _).alloc (Nat.le_refl _) _).alloc (by simp) _).alloc (by simp; omega) _).alloc (by simp; omega) _⟩
  | true =>
    obtain ⟨R, hR⟩ : ∃ R, R = scIdLoop s F 39 (F + 1) := ⟨_, rfl⟩
    have e : scIdent s F = R := by rw [scIdent, if_pos hL0.symm, hR]
    rw [e] at hJ hB hX
    have HJJ := Aside0.mk hJ
    have HBB := Aside0.mk hB
    have HX := Aside0.mk hX
    have hlt0 := scTake_lt hL0.symm
    have HLT := Aside0.mk hlt0
    have ha1 : IntKind.i64.wrap (a + 1) = a + 1 := IntWalk.i64_in _ (by omega)
    have HRR : Aside0 (scIdLoop s F 39 (a + 1).toNat = R) := ⟨by rw [hR, ha]; rfl⟩
    clear hJ hB hX e hR hL0 hlt0 hs ha
    go_enter Try.func20, Try.ntmps20
    go_wp2_with (first | (go_at_call 52; (with_reducible refine (r25_letter0 _ _ _ true HA0.out HL0.out).mono ?_); rintro e w1 ⟨rfl, rfl⟩))
    clear ha1
    go_loopg [4] 39 (fun kq v4 w' => ∃ (jj : Int), v4 = .int .i64 jj ∧ Aside0 (a + 40 ≤ jj + kq ∧ a < jj ∧ jj ≤ s.size) ∧ Aside0 (scIdLoop s F kq jj.toNat = R) ∧ w' = ((w.alloc (.cells #[.string s, .int .i64 a, .bool false] 44)).alloc (.cells #[.string ⟨#[]⟩, .int .i64 0, .bool false] 44)))
    case atStart => exact ⟨a + 1, rfl, ⟨by omega, by omega, by have := HLT.out; have := HA.out; omega⟩, HRR, rfl⟩
    case round =>
      clear HRR HLT
      obtain ⟨jj, rfl, HC, HR, rfl⟩ := hrel
      have HJ0 : Aside0 (0 ≤ jj) := ⟨by have := HA0.out; have := HC.out.2.1; omega⟩
      have hw1 : IntKind.i64.wrap (jj - a) = jj - a := IntWalk.i64_in _ (by have := HA0.out; have := HC.out; have := HHS.out; omega)
      have hw2 : IntKind.i64.wrap (jj + 1) = jj + 1 := IntWalk.i64_in _ (by have := HA0.out; have := HC.out; have := HHS.out; omega)
      have hjn : jj = (jj.toNat : Int) := by have := HJ0.out; omega
      have HJN := Aside0.mk hjn
      by_cases h40 : jj - a < 40
      · have c40 : decide (jj - a < 40) = true := decide_eq_true h40
        obtain ⟨kq, rfl⟩ : ∃ k, gk = k + 1 := ⟨gk - 1, by have := HC.out.1; omega⟩
        have hR2 := HR.out
        rw [scIdLoop, if_pos (show jj.toNat < F + 40 by have := HA.out; omega)] at hR2
        by_cases hlt : jj < (s.size : Int)
        · have cl : decide (jj < (s.size : Int)) = true := decide_eq_true hlt
          obtain ⟨L, hL⟩ : ∃ L, L = scTake s jj.toNat pLetter := ⟨_, rfl⟩
          have HL : Aside0 ((decide (jj < (s.size : Int)) && pLetter (bt s jj)) = L) := ⟨by rw [hL]; exact (r25_at hjn pLetter).symm⟩
          obtain ⟨D, hD⟩ : ∃ D, D = scTake s jj.toNat pDigit := ⟨_, rfl⟩
          have HD : Aside0 ((decide (jj < (s.size : Int)) && pDigit (bt s jj)) = D) := ⟨by rw [hD]; exact (r25_at hjn pDigit).symm⟩
          have hP : scTake s jj.toNat pPart = (L || D) := by rw [hL, hD]; simp only [scTake, pPart]; cases decide (jj.toNat < s.size) <;> simp
          rw [hP] at hR2
          have hx := bt_at s jj
          have hj0 := eq_true HJ0.out
          have HLT := Aside0.mk hlt
          have hjl := eq_true hlt
          clear hlt hjn hP h40
          have hcase : L = true ∨ (L = false ∧ D = true) ∨ (L = false ∧ D = false) := by cases L <;> cases D <;> simp
          rcases hcase with rfl | ⟨rfl, rfl⟩ | ⟨rfl, rfl⟩
          · have HR2 : Aside0 (scIdLoop s F kq (jj.toNat + 1) = R) := ⟨by rw [if_pos (by rfl)] at hR2; exact hR2⟩
            clear hL hD hx
            clear hR2
            go_wp2_with (first | (go_at_call 52; (with_reducible refine (r25_letter0 _ _ _ true HJ0.out HL.out).mono ?_); rintro e w1 ⟨rfl, rfl⟩))
            go_roundg kq
            case measure => omega
            case rel => exact ⟨jj + 1, rfl, ⟨by have := HC.out; omega, by have := HC.out; omega, by have := HLT.out; omega⟩, ⟨by rw [show (jj + 1).toNat = jj.toNat + 1 by have := HJ0.out; omega]; exact HR2.out⟩, rfl⟩
          · have HR2 : Aside0 (scIdLoop s F kq (jj.toNat + 1) = R) := ⟨by rw [if_pos (by rfl)] at hR2; exact hR2⟩
            clear hL hD hx
            clear hR2
            go_wp2_with (first | (go_at_call 52; (with_reducible refine (r25_letter0 _ _ _ false HJ0.out HL.out).mono ?_); rintro e w1 ⟨rfl, rfl⟩) | (go_at_call 48; (with_reducible refine (r25_digit0 _ _ _ true HJ0.out HD.out).mono ?_); rintro e w1 ⟨rfl, rfl⟩))
            go_roundg kq
            case measure => omega
            case rel => exact ⟨jj + 1, rfl, ⟨by have := HC.out; omega, by have := HC.out; omega, by have := HLT.out; omega⟩, ⟨by rw [show (jj + 1).toNat = jj.toNat + 1 by have := HJ0.out; omega]; exact HR2.out⟩, rfl⟩
          · rw [if_neg (by simp)] at hR2
            clear hL hD
            have h45 := r25_at (s := s) HJN.out (pIs 45)
            rw [cl, Bool.true_and] at h45
            obtain ⟨Z, hZ⟩ : ∃ Z, Z = (bt s jj == 45) := ⟨_, rfl⟩
            have hZ2 := hZ.symm
            have hZ3 : (bt s jj != 45) = !Z := by rw [hZ]; rfl
            have h45' : scTake s jj.toNat (pIs 45) = Z := by rw [h45, hZ]; rfl
            rw [h45'] at hR2
            clear h45 h45' hZ
            by_cases h39 : jj - a < 39
            · have c39 : (jj - a == 39) = false := by rw [beq_eq_false_iff_ne]; omega
              have h39' : jj.toNat < F + 39 := by have := HA.out; have := HJ0.out; omega
              cases Z with
              | true =>
                rw [if_pos ⟨h39', rfl⟩] at hR2
                have HJ1 : Aside0 (0 ≤ jj + 1) := ⟨by have := HJ0.out; omega⟩
                have hjn1 : jj + 1 = ((jj.toNat + 1 : Nat) : Int) := by have := HJ0.out; omega
                obtain ⟨L1, hL1⟩ : ∃ L, L = scTake s (jj.toNat + 1) pLetter := ⟨_, rfl⟩
                have HL1 : Aside0 ((decide (jj + 1 < (s.size : Int)) && pLetter (bt s (jj + 1))) = L1) := ⟨by rw [hL1]; exact (r25_at hjn1 pLetter).symm⟩
                obtain ⟨D1, hD1⟩ : ∃ D, D = scTake s (jj.toNat + 1) pDigit := ⟨_, rfl⟩
                have HD1 : Aside0 ((decide (jj + 1 < (s.size : Int)) && pDigit (bt s (jj + 1))) = D1) := ⟨by rw [hD1]; exact (r25_at hjn1 pDigit).symm⟩
                have hP1 : scTake s (jj.toNat + 1) pPart = (L1 || D1) := by rw [hL1, hD1]; simp only [scTake, pPart]; cases decide (jj.toNat + 1 < s.size) <;> simp
                rw [hP1] at hR2
                have HLL : Aside0 ((L1 || D1) = true → jj + 1 < (s.size : Int)) := ⟨fun h => by rw [← hP1] at h; have := scTake_lt h; omega⟩
                have hw3 : IntKind.i64.wrap (jj + 1 + 1) = jj + 1 + 1 := IntWalk.i64_in _ (by have := HA0.out; have := HC.out; have := HHS.out; omega)
                clear hL1 hD1 hP1 hjn1 h39 h39'
                have hcase : L1 = true ∨ (L1 = false ∧ D1 = true) ∨ (L1 = false ∧ D1 = false) := by cases L1 <;> cases D1 <;> simp
                rcases hcase with rfl | ⟨rfl, rfl⟩ | ⟨rfl, rfl⟩
                · have HR2 : Aside0 (scIdLoop s F kq (jj.toNat + 2) = R) := ⟨by rw [if_pos (by rfl)] at hR2; exact hR2⟩
                  have HLT : Aside0 (jj + 1 < (s.size : Int)) := ⟨HLL.out rfl⟩
                  clear hR2
                  go_wp2_with (first | (go_at_call 52; (with_reducible refine (r25_letter0 _ _ _ false HJ0.out HL.out).mono ?_); rintro e w1 ⟨rfl, rfl⟩) | (go_at_call 48; (with_reducible refine (r25_digit0 _ _ _ false HJ0.out HD.out).mono ?_); rintro e w1 ⟨rfl, rfl⟩) | (go_at_call 52; (with_reducible refine (r25_letter0 _ _ _ true HJ1.out HL1.out).mono ?_); rintro e w1 ⟨rfl, rfl⟩))
                  go_roundg kq
                  case measure => omega
                  case rel => exact ⟨jj + 1 + 1, rfl, ⟨by have := HC.out; omega, by have := HC.out; omega, by have := HLT.out; omega⟩, ⟨by rw [show (jj + 1 + 1).toNat = jj.toNat + 2 by have := HJ0.out; omega]; exact HR2.out⟩, rfl⟩
                · have HR2 : Aside0 (scIdLoop s F kq (jj.toNat + 2) = R) := ⟨by rw [if_pos (by rfl)] at hR2; exact hR2⟩
                  have HLT : Aside0 (jj + 1 < (s.size : Int)) := ⟨HLL.out rfl⟩
                  clear hR2
                  go_wp2_with (first | (go_at_call 52; (with_reducible refine (r25_letter0 _ _ _ false HJ0.out HL.out).mono ?_); rintro e w1 ⟨rfl, rfl⟩) | (go_at_call 48; (with_reducible refine (r25_digit0 _ _ _ false HJ0.out HD.out).mono ?_); rintro e w1 ⟨rfl, rfl⟩) | (go_at_call 52; (with_reducible refine (r25_letter0 _ _ _ false HJ1.out HL1.out).mono ?_); rintro e w1 ⟨rfl, rfl⟩) | (go_at_call 48; (with_reducible refine (r25_digit0 _ _ _ true HJ1.out HD1.out).mono ?_); rintro e w1 ⟨rfl, rfl⟩))
                  go_roundg kq
                  case measure => omega
                  case rel => exact ⟨jj + 1 + 1, rfl, ⟨by have := HC.out; omega, by have := HC.out; omega, by have := HLT.out; omega⟩, ⟨by rw [show (jj + 1 + 1).toNat = jj.toNat + 2 by have := HJ0.out; omega]; exact HR2.out⟩, rfl⟩
                · rw [if_neg (by simp)] at hR2
                  have eR : R = (false, jj.toNat + 1) := hR2.symm
                  clear hR2
                  have hJ2 : J = jj + 1 := by rw [HJJ.out, eR]; have := HJ0.out; show ((jj.toNat + 1 : Nat) : Int) = jj + 1; omega
                  have hB2 : B = false := by rw [← HBB.out, eR]
                  have hX2 : X = ⟨#[]⟩ := by rw [HX.out, hB2]; rfl
                  subst hB2 hX2
                  clear eR HR HX HBB HJJ
                  go_wp2_with (first | (go_at_call 52; (with_reducible refine (r25_letter0 _ _ _ false HJ0.out HL.out).mono ?_); rintro e w1 ⟨rfl, rfl⟩) | (go_at_call 48; (with_reducible refine (r25_digit0 _ _ _ false HJ0.out HD.out).mono ?_); rintro e w1 ⟨rfl, rfl⟩) | (go_at_call 52; (with_reducible refine (r25_letter0 _ _ _ false HJ1.out HL1.out).mono ?_); rintro e w1 ⟨rfl, rfl⟩) | (go_at_call 48; (with_reducible refine (r25_digit0 _ _ _ false HJ1.out HD1.out).mono ?_); rintro e w1 ⟨rfl, rfl⟩) | (go_at_call 42; (with_reducible refine (r25_fail _ _ _ _ _).mono ?_); rintro e w1 ⟨rfl, rfl⟩))
                  exact bodyPost_ret (v := .tuple #[.agg #[.string s, .int .i64 (jj + 1), .bool true], .string ⟨#[]⟩]) (by simp [results, Try.results20, go_sem]) rfl ⟨by rw [hJ2]; rfl, ((((Below.refl _ _).alloc (Nat.le_refl _) _).alloc (by simp) _).alloc (by simp; omega) _).alloc (by simp; omega) _⟩
              | false =>
                rw [if_neg (fun h => absurd h.2 (by simp))] at hR2
                have eR : R = (true, jj.toNat) := hR2.symm
                clear hR2 h39 h39'
                have hJ2 : J = jj := by rw [HJJ.out, eR]; have := HJ0.out; show ((jj.toNat : Nat) : Int) = jj; omega
                have hB2 : B = true := by rw [← HBB.out, eR]
                have hX2 : X = s.extract a.toNat jj.toNat := by rw [HX.out, ← HBB.out, eR, if_pos rfl, HA.out]; rfl
                subst hB2 hX2
                have k1 := HA0.out
                have k2 := HJ0.out
                have k3 : a ≤ jj := by have := HC.out.2.1; omega
                have k4 : jj ≤ (s.size : Int) := HC.out.2.2
                clear eR HR HX HBB HJJ
                go_wp2_with (first | (go_at_call 52; (with_reducible refine (r25_letter0 _ _ _ false HJ0.out HL.out).mono ?_); rintro e w1 ⟨rfl, rfl⟩) | (go_at_call 48; (with_reducible refine (r25_digit0 _ _ _ false HJ0.out HD.out).mono ?_); rintro e w1 ⟨rfl, rfl⟩))
                go_region_held3 (fun w' => w'.cell? ⟨w.heap.size, 0, none⟩ = some (.string s) ∧ w'.cell? ⟨w.heap.size, 1, none⟩ = some (.int .i64 a)) (go_keep) (fail)
                go_wp2
                exact bodyPost_ret (v := .tuple #[.agg #[.string s, .int .i64 jj, .bool false], .string (s.extract a.toNat jj.toNat)]) (by simp [results, Try.results20, go_sem]) rfl ⟨by rw [hJ2]; rfl, (((Below.refl _ _).alloc (Nat.le_refl _) _).alloc (by simp) _).drew⟩
            · have eR : R = (true, jj.toNat) := by rw [if_neg (fun h => h39 (by have := HA.out; have := HJ0.out; omega))] at hR2; exact hR2.symm
              have c39 : (jj - a == 39) = true := by rw [beq_iff_eq]; have := of_decide_eq_true c40; omega
              clear hR2 h39
              cases Z with
              | true =>
                have hJ2 : J = jj := by rw [HJJ.out, eR]; have := HJ0.out; show ((jj.toNat : Nat) : Int) = jj; omega
                have hB2 : B = true := by rw [← HBB.out, eR]
                have hX2 : X = s.extract a.toNat jj.toNat := by rw [HX.out, ← HBB.out, eR, if_pos rfl, HA.out]; rfl
                subst hB2 hX2
                have k1 := HA0.out
                have k2 := HJ0.out
                have k3 : a ≤ jj := by have := HC.out.2.1; omega
                have k4 : jj ≤ (s.size : Int) := HC.out.2.2
                clear eR HR HX HBB HJJ
                go_wp2_with (first | (go_at_call 52; (with_reducible refine (r25_letter0 _ _ _ false HJ0.out HL.out).mono ?_); rintro e w1 ⟨rfl, rfl⟩) | (go_at_call 48; (with_reducible refine (r25_digit0 _ _ _ false HJ0.out HD.out).mono ?_); rintro e w1 ⟨rfl, rfl⟩))
                go_region_held3 (fun w' => w'.cell? ⟨w.heap.size, 0, none⟩ = some (.string s) ∧ w'.cell? ⟨w.heap.size, 1, none⟩ = some (.int .i64 a)) (go_keep) (fail)
                go_wp2
                exact bodyPost_ret (v := .tuple #[.agg #[.string s, .int .i64 jj, .bool false], .string (s.extract a.toNat jj.toNat)]) (by simp [results, Try.results20, go_sem]) rfl ⟨by rw [hJ2]; rfl, (((Below.refl _ _).alloc (Nat.le_refl _) _).alloc (by simp) _).drew⟩
              | false =>
                have hJ2 : J = jj := by rw [HJJ.out, eR]; have := HJ0.out; show ((jj.toNat : Nat) : Int) = jj; omega
                have hB2 : B = true := by rw [← HBB.out, eR]
                have hX2 : X = s.extract a.toNat jj.toNat := by rw [HX.out, ← HBB.out, eR, if_pos rfl, HA.out]; rfl
                subst hB2 hX2
                have k1 := HA0.out
                have k2 := HJ0.out
                have k3 : a ≤ jj := by have := HC.out.2.1; omega
                have k4 : jj ≤ (s.size : Int) := HC.out.2.2
                clear eR HR HX HBB HJJ
                go_wp2_with (first | (go_at_call 52; (with_reducible refine (r25_letter0 _ _ _ false HJ0.out HL.out).mono ?_); rintro e w1 ⟨rfl, rfl⟩) | (go_at_call 48; (with_reducible refine (r25_digit0 _ _ _ false HJ0.out HD.out).mono ?_); rintro e w1 ⟨rfl, rfl⟩))
                go_region_held3 (fun w' => w'.cell? ⟨w.heap.size, 0, none⟩ = some (.string s) ∧ w'.cell? ⟨w.heap.size, 1, none⟩ = some (.int .i64 a)) (go_keep) (fail)
                go_wp2
                exact bodyPost_ret (v := .tuple #[.agg #[.string s, .int .i64 jj, .bool false], .string (s.extract a.toNat jj.toNat)]) (by simp [results, Try.results20, go_sem]) rfl ⟨by rw [hJ2]; rfl, (((Below.refl _ _).alloc (Nat.le_refl _) _).alloc (by simp) _).drew⟩
        · have cl : decide (jj < (s.size : Int)) = false := decide_eq_false hlt
          have hn : ∀ p, scTake s jj.toNat p = false := fun p => by unfold scTake; rw [decide_eq_false (by omega), Bool.false_and]
          rw [hn, if_neg (by simp), if_neg (fun h => by have := h.2; rw [hn] at this; exact absurd this (by simp))] at hR2
          have eR : R = (true, jj.toNat) := hR2.symm
          clear hR2 hn hjn h40 hlt
          have hJ2 : J = jj := by rw [HJJ.out, eR]; have := HJ0.out; show ((jj.toNat : Nat) : Int) = jj; omega
          have hB2 : B = true := by rw [← HBB.out, eR]
          have hX2 : X = s.extract a.toNat jj.toNat := by rw [HX.out, ← HBB.out, eR, if_pos rfl, HA.out]; rfl
          subst hB2 hX2
          have k1 := HA0.out
          have k2 := HJ0.out
          have k3 : a ≤ jj := by have := HC.out.2.1; omega
          have k4 : jj ≤ (s.size : Int) := HC.out.2.2
          clear eR HR HX HBB HJJ
          go_wp2_with (fail)
          go_region_held3 (fun w' => w'.cell? ⟨w.heap.size, 0, none⟩ = some (.string s) ∧ w'.cell? ⟨w.heap.size, 1, none⟩ = some (.int .i64 a)) (go_keep) (fail)
          go_wp2
          exact bodyPost_ret (v := .tuple #[.agg #[.string s, .int .i64 jj, .bool false], .string (s.extract a.toNat jj.toNat)]) (by simp [results, Try.results20, go_sem]) rfl ⟨by rw [hJ2]; rfl, (((Below.refl _ _).alloc (Nat.le_refl _) _).alloc (by simp) _).drew⟩
      · have c40 : decide (jj - a < 40) = false := decide_eq_false h40
        have eR : R = (true, jj.toNat) := by rw [← HR.out, scIdLoop_stop (by have := HA.out; omega)]
        clear hjn h40
        have hJ2 : J = jj := by rw [HJJ.out, eR]; have := HJ0.out; show ((jj.toNat : Nat) : Int) = jj; omega
        have hB2 : B = true := by rw [← HBB.out, eR]
        have hX2 : X = s.extract a.toNat jj.toNat := by rw [HX.out, ← HBB.out, eR, if_pos rfl, HA.out]; rfl
        subst hB2 hX2
        have k1 := HA0.out
        have k2 := HJ0.out
        have k3 : a ≤ jj := by have := HC.out.2.1; omega
        have k4 : jj ≤ (s.size : Int) := HC.out.2.2
        clear eR HR HX HBB HJJ
        go_wp2_with (fail)
        go_region_held3 (fun w' => w'.cell? ⟨w.heap.size, 0, none⟩ = some (.string s) ∧ w'.cell? ⟨w.heap.size, 1, none⟩ = some (.int .i64 a)) (go_keep) (fail)
        go_wp2
        exact bodyPost_ret (v := .tuple #[.agg #[.string s, .int .i64 jj, .bool false], .string (s.extract a.toNat jj.toNat)]) (by simp [results, Try.results20, go_sem]) rfl ⟨by rw [hJ2]; rfl, (((Below.refl _ _).alloc (Nat.le_refl _) _).alloc (by simp) _).drew⟩
end Go.Proofs.Ytkpicinbckedoaa.Q
