/- What is proved: what the statement CattextAcceptedSaid needs, part 7 of 11; the last part proves the statement. No condition. -/
import Derived.Test.YtlfokdbnbmebiaaDoorZCAd5
import Derived.Maps.Keyed
import Derived.Maps.OwnOps
import Derived.WideMake
import Derived.LoopTactic
set_option maxHeartbeats 8000000
set_option maxRecDepth 100000
set_option linter.unusedVariables false
set_option linter.unusedSimpArgs false
section
namespace Go.Proofs.YtlfokdbnbmebiaaDoor.Q
open Go.RowKit
section
variable {P : Program} {t kt et : TypeId}
theorem map_get (w : World) (o : Obj) : (w.alloc o).heap[w.heap.size]? = some o := by
 show (w.heap.push o)[w.heap.size]? = some o
 simp
theorem map_set (w : World) (o o' : Obj) : ({ w.alloc o with heap := (w.alloc o).heap.setIfInBounds w.heap.size o' } : World) = w.alloc o' := by
 show ({ w with heap := (w.heap.push o).setIfInBounds w.heap.size o' } : World) = { w with heap := w.heap.push o' }
 congr 1
 apply Array.ext_getElem?
 intro i
 rw [Array.getElem?_setIfInBounds, Array.getElem?_push, Array.getElem?_push]
 by_cases h : w.heap.size = i
 ·subst h; simp
 ·rw [if_neg h]
  rw [if_neg (fun e => h e.symm), if_neg (fun e => h e.symm)]
theorem run_ins (K : Maps.Keyed P kt) (hT : P.underlying t = some (.map kt et)) (w : World) (es : Array MapEntry) (c : Nat) (x v : Value) {lx : Lit} (hx : keyOf P kt x = some lx) (hes : ∀ e ∈ es.toList, ∃ l, keyOf P kt e.key = some l) (hn : ∀ e ∈ es.toList, e.key ≠ x) :
  (Instr.mapUpdate t (.map (some w.heap.size)) x v).run P (w.alloc (.map es c)) = .ok () (w.alloc (.map (es.push { key := x, val := v, born := c }) (c + 1))) := by
 have hf : (Instr.findKey kt x es.toList).run P (w.alloc (.map es c)) = .ok none (w.alloc (.map es c)) := by
  rcases K.find (w.alloc (.map es c)) hx es.toList hes with h | ⟨j, e, h1, h2, h3⟩
  ·exact h.1
  ·exact absurd h3 (hn e (List.mem_of_getElem? h2))
 have hg := map_get w (.map es c)
 have h2 : (Instr.mapUpdate t (.map (some w.heap.size)) x v).run P (w.alloc (.map es c)) = .ok () ({ w.alloc (.map es c) with heap := (w.alloc (.map es c)).heap.setIfInBounds w.heap.size (.map (es.push { key := x, val := v, born := c }) (c + 1)) } : World) := by
  generalize hW : w.alloc (.map es c) = W at hg hf ⊢
  simp [Instr.mapUpdate, run_underlying hT, MapKept.run_getObj_map hg, K.check W false hx, hf, MapKept.run_setObj_map _ hg, Result.andThen]
 rw [h2, map_set]
end
end Go.Proofs.YtlfokdbnbmebiaaDoor.Q
end
section
namespace Go.Proofs.YtlfokdbnbmebiaaDoor.Q
open Go.RowKit Go.Proofs.YtlfokdbnbmebiaaDoorW.PrintWords Go.Proofs.YtlfokdbnbmebiaaDoorW.PrintLast Go.Proofs.YtlfokdbnbmebiaaDoorW.PrintMore
theorem r25_digit0 (s : ByteArray) (a : Int) (w : World) (r : Bool) (h0 : 0 ≤ a) (hr : (decide (a < (s.size : Int)) && pDigit (bt s a)) = r) : Calls Tryd.prog 61 #[.string s, .int .i64 a] w fun e w' => e = .returned (.bool r) ∧ w = w' := by
 by_cases h : a < (s.size : Int)
 ·have c1 : decide (a < (s.size : Int)) = true := decide_eq_true h
  have hx := bt_at s a
  rw [c1, Bool.true_and] at hr
  unfold pDigit at hr
  replace h0 := eq_true h0
  replace h := eq_true h
  by_cases h2 : 48 ≤ bt s a
  ·have c2 : decide (48 ≤ bt s a) = true := decide_eq_true h2
   rw [c2, Bool.true_and] at hr
   subst hr
   clear h2
   go_enter Tryd.func61, Tryd.ntmps61
   go_wp2
   go_ret
   exact ⟨rfl, rfl⟩
  ·have c2 : decide (48 ≤ bt s a) = false := decide_eq_false h2
   rw [c2, Bool.false_and] at hr
   subst hr
   clear h2
   go_enter Tryd.func61, Tryd.ntmps61
   go_wp2
   go_ret
   exact ⟨rfl, rfl⟩
 ·have c1 : decide (a < (s.size : Int)) = false := decide_eq_false h
  rw [c1, Bool.false_and] at hr
  subst hr
  clear h
  go_enter Tryd.func61, Tryd.ntmps61
  go_wp2
  go_ret
  exact ⟨rfl, rfl⟩
theorem r25_letter0 (s : ByteArray) (a : Int) (w : World) (r : Bool) (h0 : 0 ≤ a) (hr : (decide (a < (s.size : Int)) && pLetter (bt s a)) = r) : Calls Tryd.prog 62 #[.string s, .int .i64 a] w fun e w' => e = .returned (.bool r) ∧ w = w' := by
 by_cases h : a < (s.size : Int)
 ·have c1 : decide (a < (s.size : Int)) = true := decide_eq_true h
  have hx := bt_at s a
  rw [c1, Bool.true_and] at hr
  unfold pLetter at hr
  replace h0 := eq_true h0
  replace h := eq_true h
  by_cases h2 : 97 ≤ bt s a
  ·have c2 : decide (97 ≤ bt s a) = true := decide_eq_true h2
   rw [c2, Bool.true_and] at hr
   subst hr
   clear h2
   go_enter Tryd.func62, Tryd.ntmps62
   go_wp2
   go_ret
   exact ⟨rfl, rfl⟩
  ·have c2 : decide (97 ≤ bt s a) = false := decide_eq_false h2
   rw [c2, Bool.false_and] at hr
   subst hr
   clear h2
   go_enter Tryd.func62, Tryd.ntmps62
   go_wp2
   go_ret
   exact ⟨rfl, rfl⟩
 ·have c1 : decide (a < (s.size : Int)) = false := decide_eq_false h
  rw [c1, Bool.false_and] at hr
  subst hr
  clear h
  go_enter Tryd.func62, Tryd.ntmps62
  go_wp2
  go_ret
  exact ⟨rfl, rfl⟩
theorem r25_fail (s : ByteArray) (F : Int) (b : Bool) (i : Int) (w : World) : Calls Tryd.prog 43 #[.agg #[.string s, .int .i64 F, .bool b], .int .i64 i] w fun e w' => e = .returned (.agg #[.string s, .int .i64 i, .bool true]) ∧ w' = (w.alloc (.cells #[.string s, .int .i64 F, .bool b] 52)).alloc (.cells #[.string s, .int .i64 i, .bool true] 52) := by
 go_enter Tryd.func43, Tryd.ntmps43
 go_wp2
 exact bodyPost_ret (v := .agg #[.string s, .int .i64 i, .bool true]) (by simp [results, Tryd.results43, go_sem]) rfl ⟨rfl, rfl⟩
theorem r25_at {s : ByteArray} {a : Int} {F : Nat} (ha : a = (F : Int)) (p : Int → Bool) : scTake s F p = (decide (a < (s.size : Int)) && p (bt s a)) := by
 subst ha
 simp only [scTake]
 congr 1
 rw [decide_eq_decide]; omega
def nNeg (s : ByteArray) (F : Nat) : Bool := scTake s F (pIs 45)
def nAt (s : ByteArray) (F : Nat) : Nat := if nNeg s F then F + 1 else F
theorem scNum_no {s : ByteArray} {F : Nat} (h0 : scTake s F (pIs 48) = false) (h : scTake s (nAt s F) pLeading = false) : scNum s F = (false, nAt s F, 0) := by
 unfold nAt nNeg at *
 rw [scNum, if_neg (by rw [h0]; simp)]
 by_cases h1 : scTake s F (pIs 45) = true
 ·rw [if_pos h1] at h
  rw [if_pos h1, if_neg (by rw [h]; simp), if_pos h1]
 ·rw [if_neg h1] at h
  rw [if_neg h1, if_neg (by rw [h]; simp), if_neg h1]
theorem scNum_yes {s : ByteArray} {F : Nat} (h0 : scTake s F (pIs 48) = false) (h : scTake s (nAt s F) pLeading = true) : scNum s F = (true, scRun pDigit s 9 (nAt s F + 1), if nNeg s F then -(scVal s (scRun pDigit s 9 (nAt s F + 1) - nAt s F) (nAt s F) 0) else scVal s (scRun pDigit s 9 (nAt s F + 1) - nAt s F) (nAt s F) 0) := by
 unfold nAt nNeg at *
 rw [scNum, if_neg (by rw [h0]; simp)]
 by_cases h1 : scTake s F (pIs 45) = true
 ·rw [if_pos h1] at h
  simp only [if_pos h1, if_pos h]
 ·rw [if_neg h1] at h
  simp only [if_neg h1, if_pos h]
theorem lead_dig {s : ByteArray} {i : Nat} : scTake s i pLeading = (scTake s i pDigit && !(bt s (i : Int) == 48)) := by
 unfold scTake pLeading pDigit
 rw [Bool.eq_iff_iff]
 simp only [Bool.and_eq_true, decide_eq_true_iff, Bool.not_eq_true', beq_eq_false_iff_ne]
 constructor
 ·intro ⟨h1, h2, h3⟩; exact ⟨⟨h1, by omega, h3⟩, by omega⟩
 ·intro ⟨⟨h1, h2, h3⟩, h4⟩; exact ⟨h1, by omega, h3⟩
theorem r25_number (s : ByteArray) (F : Nat) (w : World) (hs : s.size ≤ 4611686018427387904) (J : Int) (B : Bool) (V : Int) (hJ : J = ((scNum s F).2.1 : Int)) (hB : (scNum s F).1 = B) (hV : V = if (scNum s F).1 then (scNum s F).2.2 else 0) :
  Calls Tryd.prog 44 #[.agg #[.string s, .int .i64 F, .bool false]] w fun e w' => e = .returned (.tuple #[.agg #[.string s, .int .i64 J, .bool (!B)], .int .i64 V]) ∧ Below w.heap.size w w' := by
 obtain ⟨a, ha⟩ : ∃ a : Int, a = (F : Int) := ⟨_, rfl⟩
 have h48 := r25_at (s := s) ha (pIs 48)
 have h45 := r25_at (s := s) ha (pIs 45)
 have ha0 : 0 ≤ a := by omega
 rw [← ha]
 have HHS := Aside0.mk hs
 have HA := Aside0.mk ha
 have HJ := Aside0.mk hJ
 have HBB := Aside0.mk hB
 have HV := Aside0.mk hV
 clear hJ hB hV
 -- behind the sign: digits from j on
 have hrest : ∀ (N : Bool) (j : Int), Aside0 (scTake s F (pIs 48) = false) → Aside0 (nNeg s F = N) → Aside0 (j = (nAt s F : Int)) → Aside0 (N = N) := fun _ _ _ _ _ => ⟨rfl⟩
 clear hrest
 have hz : (decide (a < (s.size : Int)) && (bt s a == 48)) = true ∨ (decide (a < (s.size : Int)) && (bt s a == 48)) = false := by cases (decide (a < (s.size : Int)) && (bt s a == 48)) <;> simp
 rcases hz with hz | hz
 ·have e : scNum s F = (true, F + 1, 0) := by rw [scNum, if_pos (by rw [h48]; exact hz)]
  have hJ := HJ.out
  have hB := HBB.out
  have hV := HV.out
  rw [e] at hJ hB hV
  simp only [if_true] at hV
  obtain rfl : J = a + 1 := by rw [hJ, ha]; rfl
  subst hB hV
  simp only [Bool.and_eq_true, decide_eq_true_eq] at hz
  have hlt := hz.1
  have h9 := hz.2
  have c1 : decide (a < (s.size : Int)) = true := decide_eq_true hlt
  have hx := bt_at s a
  have hw1 : IntKind.i64.wrap (a + 1) = a + 1 := IntWalk.i64_in _ (by omega)
  clear hJ e h48 h45 hs hz ha HJ HBB HV
  replace ha0 := eq_true ha0
  replace hlt := eq_true hlt
  go_enter Tryd.func44, Tryd.ntmps44
  go_wp2
  exact bodyPost_ret (v := .tuple #[.agg #[.string s, .int .i64 (a + 1), .bool (!true)], .int .i64 0]) (by simp [results, Tryd.results44, go_sem]) rfl ⟨rfl, ((Below.refl _ _).alloc (Nat.le_refl _) _).alloc (by simp) _⟩
 ·have h0 : scTake s F (pIs 48) = false := by rw [h48]; exact hz
  have H0 := Aside0.mk h0
  obtain ⟨N, hN⟩ : ∃ N, N = nNeg s F := ⟨_, rfl⟩
  obtain ⟨j, hj⟩ : ∃ j : Int, j = (nAt s F : Int) := ⟨_, rfl⟩
  have HN := Aside0.mk hN
  have HJJ := Aside0.mk hj
  have hN2 : N = (decide (a < (s.size : Int)) && (bt s a == 45)) := by rw [hN, nNeg, h45]; rfl
  have hj2 : j = if N then a + 1 else a := by rw [hj, nAt, ← hN, ha]; cases N <;> rfl
  have hjb : 0 ≤ j ∧ (j ≤ (s.size : Int) ∨ j = a) := by
   rw [hj2]; cases N with
   | false => exact ⟨ha0, .inr rfl⟩
   | true =>
    have h3 := hN2.symm
    rw [Bool.and_eq_true, decide_eq_true_eq] at h3
    exact ⟨by simp; omega, .inl (by simp; omega)⟩
  clear hN hj h0 h48 h45 ha
  go_enter Tryd.func44, Tryd.ntmps44
  go_upto_region 4 with (fail)
  go_cut [24] (fun v24 wc => v24 = .bool false ∧ wc = ((w.alloc (.cells #[.string s, .int .i64 a, .bool false] 52)).alloc (.cells #[.string ⟨#[]⟩, .int .i64 0, .bool false] 52)))
  case first =>
   clear hj2 hN2 hjb
   by_cases hlt : a < (s.size : Int)
   ·have c1 : decide (a < (s.size : Int)) = true := decide_eq_true hlt
    rw [c1, Bool.true_and] at hz
    have hx := bt_at s a
    clear hs
    replace ha0 := eq_true ha0
    replace hlt := eq_true hlt
    go_wp2
    go_meet
    case rel => exact ⟨rfl, rfl⟩
   ·have c1 : decide (a < (s.size : Int)) = false := decide_eq_false hlt
    clear hs hlt hz
    go_wp2
    go_meet
    case rel => exact ⟨rfl, rfl⟩
  case rest =>
   obtain ⟨rfl, rfl⟩ := hcut
   clear hz
   go_upto_region 6 with (fail)
   go_cut [5] (fun v5 wc => v5 = .bool N ∧ wc = ((w.alloc (.cells #[.string s, .int .i64 a, .bool false] 52)).alloc (.cells #[.string ⟨#[]⟩, .int .i64 0, .bool false] 52)))
   case first =>
    clear hj2 hjb
    by_cases hlt : a < (s.size : Int)
    ·have c1 : decide (a < (s.size : Int)) = true := decide_eq_true hlt
     rw [c1, Bool.true_and] at hN2
     have hx := bt_at s a
     clear hs
     replace ha0 := eq_true ha0
     replace hlt := eq_true hlt
     have hN3 := hN2.symm
     clear hN2
     go_wp2
     go_meet
     case rel => exact ⟨rfl, rfl⟩
    ·have c1 : decide (a < (s.size : Int)) = false := decide_eq_false hlt
     rw [c1, Bool.false_and] at hN2
     subst hN2
     clear hs hlt
     go_wp2
     go_meet
     case rel => exact ⟨rfl, rfl⟩
   case rest =>
    obtain ⟨rfl, rfl⟩ := hcut
    go_upto_if 42 with (fail)
    go_cut [4] (fun v4 wc => v4 = .int .i64 j ∧ wc = ((w.alloc (.cells #[.string s, .int .i64 a, .bool false] 52)).alloc (.cells #[.string ⟨#[]⟩, .int .i64 0, .bool false] 52)))
    case first =>
     cases N with
     | true =>
      simp only [if_true] at hj2
      have hw1 : IntKind.i64.wrap (a + 1) = a + 1 := IntWalk.i64_in _ (by omega)
      subst hj2
      clear hN2 hjb hs
      go_wp2
      go_meet
      case rel => exact ⟨rfl, rfl⟩
     | false =>
      simp only [Bool.false_eq_true, if_false] at hj2
      subst hj2
      clear hN2 hjb hs
      go_wp2
      go_meet
      case rel => exact ⟨rfl, rfl⟩
    case rest =>
     obtain ⟨rfl, rfl⟩ := hcut
     have HJ0 := Aside0.mk hjb.1
     have HD : Aside0 ((decide (j < (s.size : Int)) && pDigit (bt s j)) = scTake s (nAt s F) pDigit) := ⟨(r25_at HJJ.out pDigit).symm⟩
     have hld := lead_dig (s := s) (i := nAt s F)
     rw [← HJJ.out] at hld
     obtain ⟨D, hD⟩ : ∃ D, D = scTake s (nAt s F) pDigit := ⟨_, rfl⟩
     rw [← hD] at HD hld
     have HDD := Aside0.mk hD
     have HHL := Aside0.mk hld
     clear hD hld hj2 hN2
     cases D with
     | false =>
      have e := scNum_no H0.out (by rw [HHL.out]; rfl)
      have hJ := HJ.out
      have hB := HBB.out
      have hV := HV.out
      rw [e] at hJ hB hV
      have hJ2 : J = j := by rw [hJ, HJJ.out]
      subst hB hV
      subst hJ2
      clear hJ e hs hjb HV HBB HJ ha0
      go_wp2_with (first | (go_at_call 61; (with_reducible refine (r25_digit0 _ _ _ false HJ0.out HD.out).mono ?_); rintro e w1 ⟨rfl, rfl⟩) | (go_at_call 43; (with_reducible refine (r25_fail _ _ _ _ _).mono ?_); rintro e w1 ⟨rfl, rfl⟩))
      exact bodyPost_ret (v := .tuple #[.agg #[.string s, .int .i64 J, .bool true], .int .i64 0]) (by simp [results, Tryd.results44, go_sem]) rfl ⟨rfl, ((((Below.refl _ _).alloc (Nat.le_refl _) _).alloc (by simp) _).alloc (by simp; omega) _).alloc (by simp; omega) _⟩
     | true =>
      have hjs : j < (s.size : Int) := by have h3 := HD.out; rw [Bool.and_eq_true, decide_eq_true_eq] at h3; exact h3.1
      have hx := bt_at s j
      have hj0 := eq_true HJ0.out
      have hjl := eq_true hjs
      obtain ⟨Z, hZ⟩ : ∃ Z, Z = (bt s j == 48) := ⟨_, rfl⟩
      rw [← hZ] at HHL
      cases Z with
      | true =>
       have e := scNum_no H0.out (by rw [HHL.out]; rfl)
       have hJ := HJ.out
       have hB := HBB.out
       have hV := HV.out
       rw [e] at hJ hB hV
       have hJ2 : J = j := by rw [hJ, HJJ.out]
       subst hB hV
       subst hJ2
       have hZ2 := hZ.symm
       clear hJ e hs hjb HV HBB HJ ha0 hZ hjs
       go_wp2_with (first | (go_at_call 61; (with_reducible refine (r25_digit0 _ _ _ true HJ0.out HD.out).mono ?_); rintro e w1 ⟨rfl, rfl⟩) | (go_at_call 43; (with_reducible refine (r25_fail _ _ _ _ _).mono ?_); rintro e w1 ⟨rfl, rfl⟩))
       exact bodyPost_ret (v := .tuple #[.agg #[.string s, .int .i64 J, .bool true], .int .i64 0]) (by simp [results, Tryd.results44, go_sem]) rfl ⟨rfl, ((((Below.refl _ _).alloc (Nat.le_refl _) _).alloc (by simp) _).alloc (by simp; omega) _).alloc (by simp; omega) _⟩
      | false =>
       have e := scNum_yes H0.out (by rw [HHL.out]; rfl)
       have hJ := HJ.out
       have hB := HBB.out
       have hV := HV.out
       rw [e] at hJ hB hV
       subst hB
       simp only [if_true] at hJ hV
       have hZ2 := hZ.symm
       obtain ⟨R, hR⟩ : ∃ R, R = scRun pDigit s 9 (nAt s F + 1) := ⟨_, rfl⟩
       rw [← hR] at hJ hV
       rw [← HN.out] at hV
       obtain ⟨VV, hVV⟩ : ∃ VV, VV = scVal s (R - nAt s F) (nAt s F) 0 := ⟨_, rfl⟩
       rw [← hVV] at hV
       have HRR : Aside0 (scRun pDigit s 10 j.toNat = R) := ⟨by rw [HJJ.out, Int.toNat_natCast, scRun, if_pos HDD.out.symm, hR]⟩
       have HVV : Aside0 (scVal s (R - j.toNat) j.toNat 0 = VV) := ⟨by rw [HJJ.out, Int.toNat_natCast, hVV]⟩
       have HJJ2 := Aside0.mk hJ
       have HV2 := Aside0.mk hV
       have HJS := Aside0.mk hjs
       clear hJ e hs hjb HV HBB HJ ha0 hZ hjs hR hVV hV
       go_wp2_with (first | (go_at_call 61; (with_reducible refine (r25_digit0 _ _ _ true HJ0.out HD.out).mono ?_); rintro e w1 ⟨rfl, rfl⟩))
       clear hx hj0 hjl hZ2
       go_loopg [4, 6, 7] 10 (fun kq v4 v6 v7 w' => ∃ (jj acc c : Int), v4 = .int .i64 jj ∧ v6 = .int .i64 acc ∧ v7 = .int .i64 c ∧ Aside0 ((c + kq = 10 ∧ 0 ≤ c) ∧ 0 ≤ jj ∧ jj ≤ s.size ∧ 0 ≤ acc ∧ acc < 10 ^ (10 - kq)) ∧ Aside0 (scRun pDigit s kq jj.toNat = R) ∧ Aside0 (scVal s (R - jj.toNat) jj.toNat acc = VV) ∧ w' = ((w.alloc (.cells #[.string s, .int .i64 a, .bool false] 52)).alloc (.cells #[.string ⟨#[]⟩, .int .i64 0, .bool false] 52)))
       case atStart => exact ⟨j, 0, 0, rfl, rfl, rfl, ⟨⟨by omega, by omega⟩, HJ0.out, by have := HJS.out; omega, by omega, by decide⟩, HRR, HVV, rfl⟩
       case round =>
        clear HRR HVV
        obtain ⟨jj, acc, c, rfl, rfl, rfl, HC, HRR, HVV, rfl⟩ := hrel
        have HJJ0 : Aside0 (0 ≤ jj) := ⟨HC.out.2.1⟩
        cases gk with
        | zero =>
         have hc10 : c = 10 := by have := HC.out.1; omega
         subst hc10
         have hacb : acc ≤ 9999999999 := by have := HC.out.2.2.2.2; simp at this; omega
         have eR : R = jj.toNat := HRR.out.symm
         have eV : VV = acc := by rw [← HVV.out, eR, Nat.sub_self]; rfl
         have hJ2 : J = jj := by rw [HJJ2.out, eR]; have := HJJ0.out; omega
         have hac : 0 ≤ acc := HC.out.2.2.2.1
         have hac2 : acc ≤ 9999999999 := hacb
         have hng : IntKind.i64.wrap (-acc) = -acc := IntWalk.i64_in _ (by omega)
         have hV2 := HV2.out
         rw [eV] at hV2
         subst hJ2
         clear eR eV HJJ2 HV2 HRR HVV hacb HJJ HC HHL HDD
         cases N with
         | true =>
          simp only [if_true] at hV2
          subst hV2
          go_wp2_with (fail)
          exact bodyPost_ret (v := .tuple #[.agg #[.string s, .int .i64 J, .bool false], .int .i64 (-acc)]) (by simp [results, Tryd.results44, go_sem]) rfl ⟨rfl, ((Below.refl _ _).alloc (Nat.le_refl _) _).alloc (by simp) _⟩
         | false =>
          simp only [Bool.false_eq_true, if_false] at hV2
          subst hV2
          go_wp2_with (fail)
          exact bodyPost_ret (v := .tuple #[.agg #[.string s, .int .i64 J, .bool false], .int .i64 V]) (by simp [results, Tryd.results44, go_sem]) rfl ⟨rfl, ((Below.refl _ _).alloc (Nat.le_refl _) _).alloc (by simp) _⟩
        | succ gk =>
         have hclt : decide (c < 10) = true := decide_eq_true (by have := HC.out.1; omega)
         have hpw : acc ≤ 999999999 := by
          have h3 := HC.out.2.2.2.2
          have h4 : (10 : Int) ^ (10 - (gk + 1)) ≤ 10 ^ 9 := by exact_mod_cast Nat.pow_le_pow_right (n := 10) (by decide) (by omega : 10 - (gk + 1) ≤ 9)
          have h5 : (10 : Int) ^ 9 = 1000000000 := by decide
          omega
         have HPW := Aside0.mk hpw
         have hjn : jj = (jj.toNat : Int) := by have := HJJ0.out; omega
         obtain ⟨D, hD⟩ : ∃ D, D = scTake s jj.toNat pDigit := ⟨_, rfl⟩
         have HDG : Aside0 ((decide (jj < (s.size : Int)) && pDigit (bt s jj)) = D) := ⟨by rw [hD]; exact (r25_at hjn pDigit).symm⟩
         have HD2 := Aside0.mk hD
         clear hD hjn
         cases D with
         | false =>
          have eR : R = jj.toNat := by rw [← HRR.out, scRun, if_neg (by rw [← HD2.out]; simp)]
          have eV : VV = acc := by rw [← HVV.out, eR, Nat.sub_self]; rfl
          have hacb : acc ≤ 9999999999 := by omega
          clear hpw
          have hJ2 : J = jj := by rw [HJJ2.out, eR]; have := HJJ0.out; omega
          have hac : 0 ≤ acc := HC.out.2.2.2.1
          have hac2 : acc ≤ 9999999999 := hacb
          have hng : IntKind.i64.wrap (-acc) = -acc := IntWalk.i64_in _ (by omega)
          have hV2 := HV2.out
          rw [eV] at hV2
          subst hJ2
          clear eR eV HJJ2 HV2 HRR HVV hacb HJJ HC HHL HDD
          cases N with
          | true =>
           simp only [if_true] at hV2
           subst hV2
           go_wp2_with (go_at_call 61; (with_reducible refine (r25_digit0 _ _ _ false HJJ0.out HDG.out).mono ?_); rintro e w1 ⟨rfl, rfl⟩)
           exact bodyPost_ret (v := .tuple #[.agg #[.string s, .int .i64 J, .bool false], .int .i64 (-acc)]) (by simp [results, Tryd.results44, go_sem]) rfl ⟨rfl, ((Below.refl _ _).alloc (Nat.le_refl _) _).alloc (by simp) _⟩
          | false =>
           simp only [Bool.false_eq_true, if_false] at hV2
           subst hV2
           go_wp2_with (go_at_call 61; (with_reducible refine (r25_digit0 _ _ _ false HJJ0.out HDG.out).mono ?_); rintro e w1 ⟨rfl, rfl⟩)
           exact bodyPost_ret (v := .tuple #[.agg #[.string s, .int .i64 J, .bool false], .int .i64 V]) (by simp [results, Tryd.results44, go_sem]) rfl ⟨rfl, ((Below.refl _ _).alloc (Nat.le_refl _) _).alloc (by simp) _⟩
         | true =>
          have hjs : jj < (s.size : Int) := by have h3 := HDG.out; rw [Bool.and_eq_true, decide_eq_true_eq] at h3; exact h3.1
          have hdd : 48 ≤ bt s jj ∧ bt s jj ≤ 57 := by have h3 := HDG.out; simp only [pDigit, Bool.and_eq_true, decide_eq_true_eq] at h3; exact h3.2
          have b1 := hdd.1
          have b2 := hdd.2
          have hj0 := HJJ0.out
          have hac : 0 ≤ acc := HC.out.2.2.2.1
          have hss := HHS.out
          have hc0 := HC.out.1
          have q1 : IntKind.i64.wrap (10 * acc) = 10 * acc := IntWalk.i64_in _ (by omega)
          have q2 : IntKind.i64.wrap (bt s jj) = bt s jj := IntWalk.i64_in _ (by omega)
          have q3 : IntKind.i64.wrap (10 * acc + bt s jj) = 10 * acc + bt s jj := IntWalk.i64_in _ (by omega)
          have q4 : IntKind.i64.wrap (10 * acc + bt s jj - 48) = 10 * acc + bt s jj - 48 := IntWalk.i64_in _ (by omega)
          have q5 : IntKind.i64.wrap (jj + 1) = jj + 1 := IntWalk.i64_in _ (by omega)
          have q6 : IntKind.i64.wrap (c + 1) = c + 1 := IntWalk.i64_in _ (by omega)
          have hx := bt_at s jj
          have HJL := Aside0.mk hjs
          have HB12 := Aside0.mk hdd
          replace hj0 := eq_true hj0
          replace hjs := eq_true hjs
          clear hpw hdd hss hc0 b1 b2 hac
          go_wp2_with (go_at_call 61; (with_reducible refine (r25_digit0 _ _ _ true HJJ0.out HDG.out).mono ?_); rintro e w1 ⟨rfl, rfl⟩)
          go_roundg gk
          case measure => omega
          case rel =>
           have hj1 : (jj + 1).toNat = jj.toNat + 1 := by have := HJJ0.out; omega
           have h2 := HRR.out
           rw [scRun, if_pos HD2.out.symm] at h2
           refine ⟨jj + 1, 10 * acc + bt s jj - 48, c + 1, rfl, rfl, rfl, ⟨⟨by have := HC.out.1; omega, by have := HC.out.1; omega⟩, by have := HJJ0.out; omega, by have := HJL.out; omega, by have := HB12.out; have := HC.out.2.2.2.1; omega, ?_⟩, ⟨by rw [hj1]; exact h2⟩, ⟨?_⟩, rfl⟩
           ·have h3 := HC.out.2.2.2.2
            have hg : gk + 1 ≤ 10 := by have := HC.out.1; omega
            rw [show 10 - gk = (10 - (gk + 1)) + 1 by omega, Int.pow_succ]
            have := HB12.out
            omega
           ·rw [← HVV.out, hj1]
            have hge := (scRun_spec pDigit s gk (jj.toNat + 1) (by have := HJL.out; have := HJJ0.out; omega)).1
            rw [h2] at hge
            rw [show R - jj.toNat = (R - (jj.toNat + 1)) + 1 by omega, scVal, show ((jj.toNat : Nat) : Int) = jj by have := HJJ0.out; omega, show 10 * acc + (bt s jj - 48) = 10 * acc + bt s jj - 48 by omega]
theorem r25_ident (s : ByteArray) (F : Nat) (w : World) (hs : s.size ≤ 4611686018427387904) (J : Int) (B : Bool) (X : ByteArray) (hJ : J = ((scIdent s F).2 : Int)) (hB : (scIdent s F).1 = B) (hX : X = if B then s.extract F (scIdent s F).2 else ⟨#[]⟩) :
  Calls Tryd.prog 45 #[.agg #[.string s, .int .i64 F, .bool false]] w fun e w' => e = .returned (.tuple #[.agg #[.string s, .int .i64 J, .bool (!B)], .string X]) ∧ Below w.heap.size w w' := by
 obtain ⟨a, ha⟩ : ∃ a : Int, a = (F : Int) := ⟨_, rfl⟩
 rw [← ha]
 have HHS := Aside0.mk hs
 have HA := Aside0.mk ha
 have HA0 : Aside0 (0 ≤ a) := ⟨by omega⟩
 obtain ⟨L0, hL0⟩ : ∃ L, L = scTake s F pLetter := ⟨_, rfl⟩
 have HL0 : Aside0 ((decide (a < (s.size : Int)) && pLetter (bt s a)) = L0) := ⟨by rw [hL0]; exact (r25_at ha pLetter).symm⟩
 cases L0 with
 | false =>
  have e : scIdent s F = (false, F) := by rw [scIdent, if_neg (by rw [← hL0]; simp)]
  rw [e] at hJ hB hX
  subst hB
  simp only [Bool.false_eq_true, if_false] at hX
  have hJ2 : J = a := by rw [hJ, ha]
  subst hJ2 hX
  clear hJ e hs ha hL0
  go_enter Tryd.func45, Tryd.ntmps45
  go_wp2_with (first | (go_at_call 62; (with_reducible refine (r25_letter0 _ _ _ false HA0.out HL0.out).mono ?_); rintro e w1 ⟨rfl, rfl⟩) | (go_at_call 43; (with_reducible refine (r25_fail _ _ _ _ _).mono ?_); rintro e w1 ⟨rfl, rfl⟩))
  exact bodyPost_ret (v := .tuple #[.agg #[.string s, .int .i64 J, .bool true], .string ⟨#[]⟩]) (by simp [results, Tryd.results45, go_sem]) rfl ⟨rfl, ((((Below.refl _ _).alloc (Nat.le_refl _) _).alloc (by simp) _).alloc (by simp; omega) _).alloc (by simp; omega) _⟩
 | true =>
  obtain ⟨R, hR⟩ : ∃ R, R = scIdLoop s F 39 (F + 1) := ⟨_, rfl⟩
  have e : scIdent s F = R := by rw [scIdent, if_pos hL0.symm, hR]
  rw [e] at hJ hB hX
  have HJJ := Aside0.mk hJ
  have HBB := Aside0.mk hB
  have HX := Aside0.mk hX
  have hlt0 := scTake_lt hL0.symm
  have HLT := Aside0.mk hlt0
  have ha1 : IntKind.i64.wrap (a + 1) = a + 1 := IntWalk.i64_in _ (by omega)
  have HRR : Aside0 (scIdLoop s F 39 (a + 1).toNat = R) := ⟨by rw [hR, ha]; rfl⟩
  clear hJ hB hX e hR hL0 hlt0 hs ha
  go_enter Tryd.func45, Tryd.ntmps45
  go_wp2_with (first | (go_at_call 62; (with_reducible refine (r25_letter0 _ _ _ true HA0.out HL0.out).mono ?_); rintro e w1 ⟨rfl, rfl⟩))
  clear ha1
  go_loopg [4] 39 (fun kq v4 w' => ∃ (jj : Int), v4 = .int .i64 jj ∧ Aside0 (a + 40 ≤ jj + kq ∧ a < jj ∧ jj ≤ s.size) ∧ Aside0 (scIdLoop s F kq jj.toNat = R) ∧ w' = ((w.alloc (.cells #[.string s, .int .i64 a, .bool false] 52)).alloc (.cells #[.string ⟨#[]⟩, .int .i64 0, .bool false] 52)))
  case atStart => exact ⟨a + 1, rfl, ⟨by omega, by omega, by have := HLT.out; have := HA.out; omega⟩, HRR, rfl⟩
  case round =>
   clear HRR HLT
   obtain ⟨jj, rfl, HC, HR, rfl⟩ := hrel
   have HJ0 : Aside0 (0 ≤ jj) := ⟨by have := HA0.out; have := HC.out.2.1; omega⟩
   have hw1 : IntKind.i64.wrap (jj - a) = jj - a := IntWalk.i64_in _ (by have := HA0.out; have := HC.out; have := HHS.out; omega)
   have hw2 : IntKind.i64.wrap (jj + 1) = jj + 1 := IntWalk.i64_in _ (by have := HA0.out; have := HC.out; have := HHS.out; omega)
   have hjn : jj = (jj.toNat : Int) := by have := HJ0.out; omega
   have HJN := Aside0.mk hjn
   by_cases h40 : jj - a < 40
   ·have c40 : decide (jj - a < 40) = true := decide_eq_true h40
    obtain ⟨kq, rfl⟩ : ∃ k, gk = k + 1 := ⟨gk - 1, by have := HC.out.1; omega⟩
    have hR2 := HR.out
    rw [scIdLoop, if_pos (show jj.toNat < F + 40 by have := HA.out; omega)] at hR2
    by_cases hlt : jj < (s.size : Int)
    ·have cl : decide (jj < (s.size : Int)) = true := decide_eq_true hlt
     obtain ⟨L, hL⟩ : ∃ L, L = scTake s jj.toNat pLetter := ⟨_, rfl⟩
     have HL : Aside0 ((decide (jj < (s.size : Int)) && pLetter (bt s jj)) = L) := ⟨by rw [hL]; exact (r25_at hjn pLetter).symm⟩
     obtain ⟨D, hD⟩ : ∃ D, D = scTake s jj.toNat pDigit := ⟨_, rfl⟩
     have HD : Aside0 ((decide (jj < (s.size : Int)) && pDigit (bt s jj)) = D) := ⟨by rw [hD]; exact (r25_at hjn pDigit).symm⟩
     have hP : scTake s jj.toNat pPart = (L || D) := by rw [hL, hD]; simp only [scTake, pPart]; cases decide (jj.toNat < s.size) <;> simp
     rw [hP] at hR2
     have hx := bt_at s jj
     have hj0 := eq_true HJ0.out
     have HLT := Aside0.mk hlt
     have hjl := eq_true hlt
     clear hlt hjn hP h40
     have hcase : L = true ∨ (L = false ∧ D = true) ∨ (L = false ∧ D = false) := by cases L <;> cases D <;> simp
     rcases hcase with rfl | ⟨rfl, rfl⟩ | ⟨rfl, rfl⟩
     ·have HR2 : Aside0 (scIdLoop s F kq (jj.toNat + 1) = R) := ⟨by rw [if_pos (by rfl)] at hR2; exact hR2⟩
      clear hL hD hx
      clear hR2
      go_wp2_with (first | (go_at_call 62; (with_reducible refine (r25_letter0 _ _ _ true HJ0.out HL.out).mono ?_); rintro e w1 ⟨rfl, rfl⟩))
      go_roundg kq
      case measure => omega
      case rel => exact ⟨jj + 1, rfl, ⟨by have := HC.out; omega, by have := HC.out; omega, by have := HLT.out; omega⟩, ⟨by rw [show (jj + 1).toNat = jj.toNat + 1 by have := HJ0.out; omega]; exact HR2.out⟩, rfl⟩
     ·have HR2 : Aside0 (scIdLoop s F kq (jj.toNat + 1) = R) := ⟨by rw [if_pos (by rfl)] at hR2; exact hR2⟩
      clear hL hD hx
      clear hR2
      go_wp2_with (first | (go_at_call 62; (with_reducible refine (r25_letter0 _ _ _ false HJ0.out HL.out).mono ?_); rintro e w1 ⟨rfl, rfl⟩) | (go_at_call 61; (with_reducible refine (r25_digit0 _ _ _ true HJ0.out HD.out).mono ?_); rintro e w1 ⟨rfl, rfl⟩))
      go_roundg kq
      case measure => omega
      case rel => exact ⟨jj + 1, rfl, ⟨by have := HC.out; omega, by have := HC.out; omega, by have := HLT.out; omega⟩, ⟨by rw [show (jj + 1).toNat = jj.toNat + 1 by have := HJ0.out; omega]; exact HR2.out⟩, rfl⟩
     ·rw [if_neg (by simp)] at hR2
      clear hL hD
      have h45 := r25_at (s := s) HJN.out (pIs 45)
      rw [cl, Bool.true_and] at h45
      obtain ⟨Z, hZ⟩ : ∃ Z, Z = (bt s jj == 45) := ⟨_, rfl⟩
      have hZ2 := hZ.symm
      have hZ3 : (bt s jj != 45) = !Z := by rw [hZ]; rfl
      have h45' : scTake s jj.toNat (pIs 45) = Z := by rw [h45, hZ]; rfl
      rw [h45'] at hR2
      clear h45 h45' hZ
      by_cases h39 : jj - a < 39
      ·have c39 : (jj - a == 39) = false := by rw [beq_eq_false_iff_ne]; omega
       have h39' : jj.toNat < F + 39 := by have := HA.out; have := HJ0.out; omega
       cases Z with
       | true =>
        rw [if_pos ⟨h39', rfl⟩] at hR2
        have HJ1 : Aside0 (0 ≤ jj + 1) := ⟨by have := HJ0.out; omega⟩
        have hjn1 : jj + 1 = ((jj.toNat + 1 : Nat) : Int) := by have := HJ0.out; omega
        obtain ⟨L1, hL1⟩ : ∃ L, L = scTake s (jj.toNat + 1) pLetter := ⟨_, rfl⟩
        have HL1 : Aside0 ((decide (jj + 1 < (s.size : Int)) && pLetter (bt s (jj + 1))) = L1) := ⟨by rw [hL1]; exact (r25_at hjn1 pLetter).symm⟩
        obtain ⟨D1, hD1⟩ : ∃ D, D = scTake s (jj.toNat + 1) pDigit := ⟨_, rfl⟩
        have HD1 : Aside0 ((decide (jj + 1 < (s.size : Int)) && pDigit (bt s (jj + 1))) = D1) := ⟨by rw [hD1]; exact (r25_at hjn1 pDigit).symm⟩
        have hP1 : scTake s (jj.toNat + 1) pPart = (L1 || D1) := by rw [hL1, hD1]; simp only [scTake, pPart]; cases decide (jj.toNat + 1 < s.size) <;> simp
        rw [hP1] at hR2
        have HLL : Aside0 ((L1 || D1) = true → jj + 1 < (s.size : Int)) := ⟨fun h => by rw [← hP1] at h; have := scTake_lt h; omega⟩
        have hw3 : IntKind.i64.wrap (jj + 1 + 1) = jj + 1 + 1 := IntWalk.i64_in _ (by have := HA0.out; have := HC.out; have := HHS.out; omega)
        clear hL1 hD1 hP1 hjn1 h39 h39'
        have hcase : L1 = true ∨ (L1 = false ∧ D1 = true) ∨ (L1 = false ∧ D1 = false) := by cases L1 <;> cases D1 <;> simp
        rcases hcase with rfl | ⟨rfl, rfl⟩ | ⟨rfl, rfl⟩
        ·have HR2 : Aside0 (scIdLoop s F kq (jj.toNat + 2) = R) := ⟨by rw [if_pos (by rfl)] at hR2; exact hR2⟩
         have HLT : Aside0 (jj + 1 < (s.size : Int)) := ⟨HLL.out rfl⟩
         clear hR2
         go_wp2_with (first | (go_at_call 62; (with_reducible refine (r25_letter0 _ _ _ false HJ0.out HL.out).mono ?_); rintro e w1 ⟨rfl, rfl⟩) | (go_at_call 61; (with_reducible refine (r25_digit0 _ _ _ false HJ0.out HD.out).mono ?_); rintro e w1 ⟨rfl, rfl⟩) | (go_at_call 62; (with_reducible refine (r25_letter0 _ _ _ true HJ1.out HL1.out).mono ?_); rintro e w1 ⟨rfl, rfl⟩))
         go_roundg kq
         case measure => omega
         case rel => exact ⟨jj + 1 + 1, rfl, ⟨by have := HC.out; omega, by have := HC.out; omega, by have := HLT.out; omega⟩, ⟨by rw [show (jj + 1 + 1).toNat = jj.toNat + 2 by have := HJ0.out; omega]; exact HR2.out⟩, rfl⟩
        ·have HR2 : Aside0 (scIdLoop s F kq (jj.toNat + 2) = R) := ⟨by rw [if_pos (by rfl)] at hR2; exact hR2⟩
         have HLT : Aside0 (jj + 1 < (s.size : Int)) := ⟨HLL.out rfl⟩
         clear hR2
         go_wp2_with (first | (go_at_call 62; (with_reducible refine (r25_letter0 _ _ _ false HJ0.out HL.out).mono ?_); rintro e w1 ⟨rfl, rfl⟩) | (go_at_call 61; (with_reducible refine (r25_digit0 _ _ _ false HJ0.out HD.out).mono ?_); rintro e w1 ⟨rfl, rfl⟩) | (go_at_call 62; (with_reducible refine (r25_letter0 _ _ _ false HJ1.out HL1.out).mono ?_); rintro e w1 ⟨rfl, rfl⟩) | (go_at_call 61; (with_reducible refine (r25_digit0 _ _ _ true HJ1.out HD1.out).mono ?_); rintro e w1 ⟨rfl, rfl⟩))
         go_roundg kq
         case measure => omega
         case rel => exact ⟨jj + 1 + 1, rfl, ⟨by have := HC.out; omega, by have := HC.out; omega, by have := HLT.out; omega⟩, ⟨by rw [show (jj + 1 + 1).toNat = jj.toNat + 2 by have := HJ0.out; omega]; exact HR2.out⟩, rfl⟩
        ·rw [if_neg (by simp)] at hR2
         have eR : R = (false, jj.toNat + 1) := hR2.symm
         clear hR2
         have hJ2 : J = jj + 1 := by rw [HJJ.out, eR]; have := HJ0.out; show ((jj.toNat + 1 : Nat) : Int) = jj + 1; omega
         have hB2 : B = false := by rw [← HBB.out, eR]
         have hX2 : X = ⟨#[]⟩ := by rw [HX.out, hB2]; rfl
         subst hB2 hX2
         clear eR HR HX HBB HJJ
         go_wp2_with (first | (go_at_call 62; (with_reducible refine (r25_letter0 _ _ _ false HJ0.out HL.out).mono ?_); rintro e w1 ⟨rfl, rfl⟩) | (go_at_call 61; (with_reducible refine (r25_digit0 _ _ _ false HJ0.out HD.out).mono ?_); rintro e w1 ⟨rfl, rfl⟩) | (go_at_call 62; (with_reducible refine (r25_letter0 _ _ _ false HJ1.out HL1.out).mono ?_); rintro e w1 ⟨rfl, rfl⟩) | (go_at_call 61; (with_reducible refine (r25_digit0 _ _ _ false HJ1.out HD1.out).mono ?_); rintro e w1 ⟨rfl, rfl⟩) | (go_at_call 43; (with_reducible refine (r25_fail _ _ _ _ _).mono ?_); rintro e w1 ⟨rfl, rfl⟩))
         exact bodyPost_ret (v := .tuple #[.agg #[.string s, .int .i64 (jj + 1), .bool true], .string ⟨#[]⟩]) (by simp [results, Tryd.results45, go_sem]) rfl ⟨by rw [hJ2]; rfl, ((((Below.refl _ _).alloc (Nat.le_refl _) _).alloc (by simp) _).alloc (by simp; omega) _).alloc (by simp; omega) _⟩
       | false =>
        rw [if_neg (fun h => absurd h.2 (by simp))] at hR2
        have eR : R = (true, jj.toNat) := hR2.symm
        clear hR2 h39 h39'
        have hJ2 : J = jj := by rw [HJJ.out, eR]; have := HJ0.out; show ((jj.toNat : Nat) : Int) = jj; omega
        have hB2 : B = true := by rw [← HBB.out, eR]
        have hX2 : X = s.extract a.toNat jj.toNat := by rw [HX.out, ← HBB.out, eR, if_pos rfl, HA.out]; rfl
        subst hB2 hX2
        have k1 := HA0.out
        have k2 := HJ0.out
        have k3 : a ≤ jj := by have := HC.out.2.1; omega
        have k4 : jj ≤ (s.size : Int) := HC.out.2.2
        clear eR HR HX HBB HJJ
        go_wp2_with (first | (go_at_call 62; (with_reducible refine (r25_letter0 _ _ _ false HJ0.out HL.out).mono ?_); rintro e w1 ⟨rfl, rfl⟩) | (go_at_call 61; (with_reducible refine (r25_digit0 _ _ _ false HJ0.out HD.out).mono ?_); rintro e w1 ⟨rfl, rfl⟩))
        go_region_held3 (fun w' => w'.cell? ⟨w.heap.size, 0, none⟩ = some (.string s) ∧ w'.cell? ⟨w.heap.size, 1, none⟩ = some (.int .i64 a)) (go_keep) (fail)
        go_wp2
        exact bodyPost_ret (v := .tuple #[.agg #[.string s, .int .i64 jj, .bool false], .string (s.extract a.toNat jj.toNat)]) (by simp [results, Tryd.results45, go_sem]) rfl ⟨by rw [hJ2]; rfl, (((Below.refl _ _).alloc (Nat.le_refl _) _).alloc (by simp) _).drew⟩
      ·have eR : R = (true, jj.toNat) := by rw [if_neg (fun h => h39 (by have := HA.out; have := HJ0.out; omega))] at hR2; exact hR2.symm
       have c39 : (jj - a == 39) = true := by rw [beq_iff_eq]; have := of_decide_eq_true c40; omega
       clear hR2 h39
       cases Z with
       | true =>
        have hJ2 : J = jj := by rw [HJJ.out, eR]; have := HJ0.out; show ((jj.toNat : Nat) : Int) = jj; omega
        have hB2 : B = true := by rw [← HBB.out, eR]
        have hX2 : X = s.extract a.toNat jj.toNat := by rw [HX.out, ← HBB.out, eR, if_pos rfl, HA.out]; rfl
        subst hB2 hX2
        have k1 := HA0.out
        have k2 := HJ0.out
        have k3 : a ≤ jj := by have := HC.out.2.1; omega
        have k4 : jj ≤ (s.size : Int) := HC.out.2.2
        clear eR HR HX HBB HJJ
        go_wp2_with (first | (go_at_call 62; (with_reducible refine (r25_letter0 _ _ _ false HJ0.out HL.out).mono ?_); rintro e w1 ⟨rfl, rfl⟩) | (go_at_call 61; (with_reducible refine (r25_digit0 _ _ _ false HJ0.out HD.out).mono ?_); rintro e w1 ⟨rfl, rfl⟩))
        go_region_held3 (fun w' => w'.cell? ⟨w.heap.size, 0, none⟩ = some (.string s) ∧ w'.cell? ⟨w.heap.size, 1, none⟩ = some (.int .i64 a)) (go_keep) (fail)
        go_wp2
        exact bodyPost_ret (v := .tuple #[.agg #[.string s, .int .i64 jj, .bool false], .string (s.extract a.toNat jj.toNat)]) (by simp [results, Tryd.results45, go_sem]) rfl ⟨by rw [hJ2]; rfl, (((Below.refl _ _).alloc (Nat.le_refl _) _).alloc (by simp) _).drew⟩
       | false =>
        have hJ2 : J = jj := by rw [HJJ.out, eR]; have := HJ0.out; show ((jj.toNat : Nat) : Int) = jj; omega
        have hB2 : B = true := by rw [← HBB.out, eR]
        have hX2 : X = s.extract a.toNat jj.toNat := by rw [HX.out, ← HBB.out, eR, if_pos rfl, HA.out]; rfl
        subst hB2 hX2
        have k1 := HA0.out
        have k2 := HJ0.out
        have k3 : a ≤ jj := by have := HC.out.2.1; omega
        have k4 : jj ≤ (s.size : Int) := HC.out.2.2
        clear eR HR HX HBB HJJ
        go_wp2_with (first | (go_at_call 62; (with_reducible refine (r25_letter0 _ _ _ false HJ0.out HL.out).mono ?_); rintro e w1 ⟨rfl, rfl⟩) | (go_at_call 61; (with_reducible refine (r25_digit0 _ _ _ false HJ0.out HD.out).mono ?_); rintro e w1 ⟨rfl, rfl⟩))
        go_region_held3 (fun w' => w'.cell? ⟨w.heap.size, 0, none⟩ = some (.string s) ∧ w'.cell? ⟨w.heap.size, 1, none⟩ = some (.int .i64 a)) (go_keep) (fail)
        go_wp2
        exact bodyPost_ret (v := .tuple #[.agg #[.string s, .int .i64 jj, .bool false], .string (s.extract a.toNat jj.toNat)]) (by simp [results, Tryd.results45, go_sem]) rfl ⟨by rw [hJ2]; rfl, (((Below.refl _ _).alloc (Nat.le_refl _) _).alloc (by simp) _).drew⟩
    ·have cl : decide (jj < (s.size : Int)) = false := decide_eq_false hlt
     have hn : ∀ p, scTake s jj.toNat p = false := fun p => by unfold scTake; rw [decide_eq_false (by omega), Bool.false_and]
     rw [hn, if_neg (by simp), if_neg (fun h => by have := h.2; rw [hn] at this; exact absurd this (by simp))] at hR2
     have eR : R = (true, jj.toNat) := hR2.symm
     clear hR2 hn hjn h40 hlt
     have hJ2 : J = jj := by rw [HJJ.out, eR]; have := HJ0.out; show ((jj.toNat : Nat) : Int) = jj; omega
     have hB2 : B = true := by rw [← HBB.out, eR]
     have hX2 : X = s.extract a.toNat jj.toNat := by rw [HX.out, ← HBB.out, eR, if_pos rfl, HA.out]; rfl
     subst hB2 hX2
     have k1 := HA0.out
     have k2 := HJ0.out
     have k3 : a ≤ jj := by have := HC.out.2.1; omega
     have k4 : jj ≤ (s.size : Int) := HC.out.2.2
     clear eR HR HX HBB HJJ
     go_wp2_with (fail)
     go_region_held3 (fun w' => w'.cell? ⟨w.heap.size, 0, none⟩ = some (.string s) ∧ w'.cell? ⟨w.heap.size, 1, none⟩ = some (.int .i64 a)) (go_keep) (fail)
     go_wp2
     exact bodyPost_ret (v := .tuple #[.agg #[.string s, .int .i64 jj, .bool false], .string (s.extract a.toNat jj.toNat)]) (by simp [results, Tryd.results45, go_sem]) rfl ⟨by rw [hJ2]; rfl, (((Below.refl _ _).alloc (Nat.le_refl _) _).alloc (by simp) _).drew⟩
   ·have c40 : decide (jj - a < 40) = false := decide_eq_false h40
    have eR : R = (true, jj.toNat) := by rw [← HR.out, scIdLoop_stop (by have := HA.out; omega)]
    clear hjn h40
    have hJ2 : J = jj := by rw [HJJ.out, eR]; have := HJ0.out; show ((jj.toNat : Nat) : Int) = jj; omega
    have hB2 : B = true := by rw [← HBB.out, eR]
    have hX2 : X = s.extract a.toNat jj.toNat := by rw [HX.out, ← HBB.out, eR, if_pos rfl, HA.out]; rfl
    subst hB2 hX2
    have k1 := HA0.out
    have k2 := HJ0.out
    have k3 : a ≤ jj := by have := HC.out.2.1; omega
    have k4 : jj ≤ (s.size : Int) := HC.out.2.2
    clear eR HR HX HBB HJJ
    go_wp2_with (fail)
    go_region_held3 (fun w' => w'.cell? ⟨w.heap.size, 0, none⟩ = some (.string s) ∧ w'.cell? ⟨w.heap.size, 1, none⟩ = some (.int .i64 a)) (go_keep) (fail)
    go_wp2
    exact bodyPost_ret (v := .tuple #[.agg #[.string s, .int .i64 jj, .bool false], .string (s.extract a.toNat jj.toNat)]) (by simp [results, Tryd.results45, go_sem]) rfl ⟨by rw [hJ2]; rfl, (((Below.refl _ _).alloc (Nat.le_refl _) _).alloc (by simp) _).drew⟩
end Go.Proofs.YtlfokdbnbmebiaaDoor.Q
end
section
namespace Go.Proofs.YtlfokdbnbmebiaaDoor.Q
open Go.RowKit Go.Proofs.YtlfokdbnbmebiaaDoorW.PrintWords Go.Proofs.YtlfokdbnbmebiaaDoorW.PrintLast Go.Proofs.YtlfokdbnbmebiaaDoorW.PrintMore
theorem r25_number_bad (s : ByteArray) (a : Int) (w : World) :
  Calls Tryd.prog 44 #[.agg #[.string s, .int .i64 a, .bool true]] w fun e w' => e = .returned (.tuple #[.agg #[.string s, .int .i64 a, .bool true], .int .i64 0]) ∧ Below w.heap.size w w' := by
 go_enter Tryd.func44, Tryd.ntmps44
 go_wp2
 exact bodyPost_ret (v := .tuple #[.agg #[.string s, .int .i64 a, .bool true], .int .i64 0]) (by simp [results, Tryd.results44, go_sem]) rfl ⟨rfl, ((Below.refl _ _).alloc (Nat.le_refl _) _).alloc (by simp) _⟩
theorem r25_ident_bad (s : ByteArray) (a : Int) (w : World) :
  Calls Tryd.prog 45 #[.agg #[.string s, .int .i64 a, .bool true]] w fun e w' => e = .returned (.tuple #[.agg #[.string s, .int .i64 a, .bool true], .string ⟨#[]⟩]) ∧ Below w.heap.size w w' := by
 go_enter Tryd.func45, Tryd.ntmps45
 go_wp2
 exact bodyPost_ret (v := .tuple #[.agg #[.string s, .int .i64 a, .bool true], .string ⟨#[]⟩]) (by simp [results, Tryd.results45, go_sem]) rfl ⟨rfl, ((Below.refl _ _).alloc (Nat.le_refl _) _).alloc (by simp) _⟩
def computusref25_Number.f (a0_0 : ByteArray) (a0_1 : Int) (a0_2 : Bool) : Option (ByteArray × Int × Bool × Int) :=
 if a0_2 = true then some (a0_0, a0_1, a0_2, 0)
 else if 0 ≤ a0_1 ∧ a0_0.size ≤ 4611686018427387904 then some (a0_0, ((scNum a0_0 a0_1.toNat).2.1 : Int), !(scNum a0_0 a0_1.toNat).1, if (scNum a0_0 a0_1.toNat).1 then (scNum a0_0 a0_1.toNat).2.2 else 0)
 else none
theorem computusref25_Number.calls (a0_0 : ByteArray) (a0_1 : Int) (a0_2 : Bool) (r1 : ByteArray) (r2 : Int) (r3 : Bool) (r4 : Int) (w : World) (h : computusref25_Number.f a0_0 a0_1 a0_2 = some (r1, r2, r3, r4)) :
  Calls Tryd.prog 44 #[.agg #[.string a0_0, .int .i64 a0_1, .bool a0_2]] w fun e w' => e = .returned (.tuple #[.agg #[.string r1, .int .i64 r2, .bool r3], .int .i64 r4]) ∧ Below w.heap.size w w' := by
 unfold computusref25_Number.f at h
 cases a0_2 with
 | true =>
  rw [if_pos rfl] at h
  obtain ⟨rfl, rfl, rfl, rfl⟩ : a0_0 = r1 ∧ a0_1 = r2 ∧ true = r3 ∧ 0 = r4 := by simpa using h
  exact r25_number_bad _ _ w
 | false =>
  rw [if_neg (by simp)] at h
  by_cases hc : 0 ≤ a0_1 ∧ a0_0.size ≤ 4611686018427387904
  ·rw [if_pos hc] at h
   obtain ⟨i, rfl⟩ : ∃ i : Nat, a0_1 = (i : Int) := ⟨a0_1.toNat, by omega⟩
   rw [Int.toNat_natCast] at h
   simp only [Option.some.injEq, Prod.mk.injEq] at h
   obtain ⟨rfl, rfl, rfl, rfl⟩ := h
   exact r25_number a0_0 i w hc.2 _ _ _ rfl rfl rfl
  ·rw [if_neg hc] at h
   exact absurd h (by simp)
def computusref25_Identifier.f (a0_0 : ByteArray) (a0_1 : Int) (a0_2 : Bool) : Option (ByteArray × Int × Bool × ByteArray) :=
 if a0_2 = true then some (a0_0, a0_1, a0_2, ⟨#[]⟩)
 else if 0 ≤ a0_1 ∧ a0_0.size ≤ 4611686018427387904 then some (a0_0, ((scIdent a0_0 a0_1.toNat).2 : Int), !(scIdent a0_0 a0_1.toNat).1, if (scIdent a0_0 a0_1.toNat).1 then a0_0.extract a0_1.toNat (scIdent a0_0 a0_1.toNat).2 else ⟨#[]⟩)
 else none
theorem computusref25_Identifier.calls (a0_0 : ByteArray) (a0_1 : Int) (a0_2 : Bool) (r1 : ByteArray) (r2 : Int) (r3 : Bool) (r4 : ByteArray) (w : World) (h : computusref25_Identifier.f a0_0 a0_1 a0_2 = some (r1, r2, r3, r4)) :
  Calls Tryd.prog 45 #[.agg #[.string a0_0, .int .i64 a0_1, .bool a0_2]] w fun e w' => e = .returned (.tuple #[.agg #[.string r1, .int .i64 r2, .bool r3], .string r4]) ∧ Below w.heap.size w w' := by
 unfold computusref25_Identifier.f at h
 cases a0_2 with
 | true =>
  rw [if_pos rfl] at h
  obtain ⟨rfl, rfl, rfl, rfl⟩ : a0_0 = r1 ∧ a0_1 = r2 ∧ true = r3 ∧ ⟨#[]⟩ = r4 := by simpa using h
  exact r25_ident_bad _ _ w
 | false =>
  rw [if_neg (by simp)] at h
  by_cases hc : 0 ≤ a0_1 ∧ a0_0.size ≤ 4611686018427387904
  ·rw [if_pos hc] at h
   obtain ⟨i, rfl⟩ : ∃ i : Nat, a0_1 = (i : Int) := ⟨a0_1.toNat, by omega⟩
   rw [Int.toNat_natCast] at h
   simp only [Option.some.injEq, Prod.mk.injEq] at h
   obtain ⟨rfl, rfl, rfl, rfl⟩ := h
   exact r25_ident a0_0 i w hc.2 _ _ _ rfl rfl rfl
  ·rw [if_neg hc] at h
   exact absurd h (by simp)
end Go.Proofs.YtlfokdbnbmebiaaDoor.Q
end
section
namespace Go.Proofs.YtlfokdbnbmebiaaDoor.Q
open Go.RowKit Go.Proofs.YtlfokdbnbmebiaaDoorW.PrintWords Go.Proofs.YtlfokdbnbmebiaaDoorW.PrintLast Go.Proofs.YtlfokdbnbmebiaaDoorW.PrintMore
attribute [local go_sem] max2_int min2_int max_two min_two max_three min_three max_four min_four
def computusref26_Number.f (k : Nat) (a0_0 : ByteArray) (a0_1 : Int) (a0_2 : Bool) : Option (ByteArray × Int × Bool × Int) := (computusref25_Word.f k a0_0 a0_1 a0_2 (([(⟨#[32]⟩ : ByteArray)] : List ByteArray))).bind fun bt150 => ((computusref25_Number.f bt150.1 bt150.2.1 bt150.2.2.1).bind fun bt155 => (some (bt155.1, bt155.2.1, bt155.2.2.1, bt155.2.2.2)))
theorem computusref26_Number.calls (k : Nat) (a0_0 : ByteArray) (a0_1 : Int) (a0_2 : Bool) (r1 : ByteArray) (r2 : Int) (r3 : Bool) (r4 : Int) (w : World) (h : computusref26_Number.f k a0_0 a0_1 a0_2 = some (r1, r2, r3, r4)) :
  Calls Tryd.prog 21 #[.agg #[.string a0_0, .int .i64 a0_1, .bool a0_2]] w fun e w' => e = .returned (.tuple #[.agg #[.string r1, .int .i64 r2, .bool r3], .int .i64 r4]) ∧ Below w.heap.size w w' := by
 have hu52 := Tryd.underlying52
 have HB := am_ (Below.refl w.heap.size w)
 have H := h
 clear h
 unfold computusref26_Number.f at H
 obtain ⟨y147, hy147⟩ : ∃ y_ : List ByteArray, y_ = (([(⟨#[32]⟩ : ByteArray)] : List ByteArray)) := ⟨_, rfl⟩
 replace H : ((computusref25_Word.f k a0_0 a0_1 a0_2 y147).bind fun bt150 => ((computusref25_Number.f bt150.1 bt150.2.1 bt150.2.2.1).bind fun bt155 => (some (bt155.1, bt155.2.1, bt155.2.2.1, bt155.2.2.2)))) = some (r1, r2, r3, r4) := by first | (rw [hy147]; with_reducible exact H) | (have H2_ := (Option.bind_some _ _).symm.trans H; rw [hy147]; with_reducible exact H2_) | (have H2_ := (Option.bind_some _ _).symm.trans H; with_reducible exact H2_) | with_reducible exact H | (rw [hy147]; exact H) | exact H
 have Ny147 := am_ hy147
 clear hy147
 obtain ⟨⟨t150, t151, t152, t153⟩, A2, H⟩ := bs_ H
 dsimp only at H
 obtain ⟨⟨t155, t156, t157, t158⟩, A3, H⟩ := bs_ H
 dsimp only at H
 simp only [Option.some.injEq, Prod.mk.injEq] at H
 obtain ⟨rfl, rfl, rfl, rfl⟩ := H
 go_enter Tryd.func21, Tryd.ntmps21
 go_wp2_with (first | ((with_reducible refine gate_dst (N := 1) rfl ?_); refine bx_ (w := w) (N := 1) (cs := #[.string a0_0, .int .i64 a0_1, .bool a0_2]) (t := 52) ?_; intro gb145 w4 BK145 n0_ GW145 GE145; clear HB; have HB := n0_; clear n0_) | ((with_reducible refine gate_dst (N := 2) rfl ?_); refine be_ (N := 2) (cs := #[.string (⟨#[]⟩ : ByteArray), .int .i64 0, .bool false]) (t := 52) ?_; intro gb146 hg w5 hbox hb; have BK146 := am_ (hbox); have GW146 := gw_ (w := w) hg; have GE146 := gw_ (w := w) hg; replace HB := bt_ hb; have NB145_146 := ne_ hg BK145; have NB146_145 := nf_ hg BK145; replace BK145 := bw_ BK145 hb; clear hb hbox hg; have hnb6 := NB145_146.out; have hnc6 := NB146_145.out; obtain ⟨hcz7_0, hcz7_1, hcz7_2⟩ := cz3_ BK145.out; obtain ⟨hfz7_0, hfz7_1, hfz7_2⟩ := fz3_ BK145.out) | ((with_reducible refine gate_dst (N := 8) rfl ?_); refine Kd.R_lit Kd.string _ 9 ?hg (N := 8) ?hd (xs := ([(⟨#[32]⟩ : ByteArray)] : List ByteArray)) (inner := [.string (⟨#[32]⟩ : ByteArray)]) (ok := fun _ => True) (okp := fun _ => True) ?hr ?hp (fun _ hk => hk) trivial (Below.refl _ _) (Nat.le_refl _) (by simp) ?_; (case hd => rfl); (case hg => rfl); (case hr => first | (go_simp; done) | (go_simp; rfl)); (case hp => exact (Reps.one (show Kd.M Kd.string _ _ _ (⟨#[32]⟩ : ByteArray) [.string (⟨#[32]⟩ : ByteArray)] from rfl) (Reps.none _ _))); intro v148 w8 ho9 hb hg_ hnew_; clear hg_ hnew_; (first | rw [← Ny147.out] at ho9 | (simp only [Int.reduceToNat] at ho9; rw [← Ny147.out] at ho9)); have HO149 := am_ (Kd.R_lower ho9 bz_); replace BK145 := bw_ BK145 hb; replace BK146 := bw_ BK146 hb; replace HB := bt_ hb; clear hb ho9; obtain ⟨Ao10, co10, eo10⟩ := Kd.R_slice HO149.out; subst eo10) | ((with_reducible refine gate_callee (f := 20) rfl ?_); refine goesL_ (some 9) rfl rfl Tryd.func20 (by kernel_rfl) rfl #[.agg #[.string a0_0, .int .i64 a0_1, .bool a0_2], .slice Ao10 y147.length co10] rfl (by (try simp only [List.map_toArray, List.map_cons, List.map_nil]); first | done | rfl | (simp only [List.length_drop, List.length_take]; rfl)) ?_; (with_reducible refine (computusref25_Word.calls k a0_0 a0_1 a0_2 _ _ y147 t150 t151 t152 t153 _ ?side1 ?side2 A2.out).mono ?_); (case side1 => exact ck_ (Kd.R_reads' HO149.out).2.2); (case side2 => exact (Kd.R_reads' HO149.out).2.1); rintro e w11 ⟨rfl, hb⟩; refine ⟨_, rfl, ?_⟩; replace HO149 := rw_ HO149 hb; replace BK145 := bw_ BK145 hb; replace BK146 := bw_ BK146 hb; replace HB := bt_ hb; (try clear hb); (try clear hk); (try clear hi)) | ((with_reducible refine gate_dst (N := 4) rfl ?_); refine be_ (N := 4) (cs := #[.string (⟨#[]⟩ : ByteArray), .int .i64 0, .bool false]) (t := 52) ?_; intro gb154 hg w12 hbox hb; replace HO149 := rw_ HO149 hb; have BK154 := am_ (hbox); have GW154 := gw_ (w := w) hg; have GE154 := gw_ (w := w) hg; replace HB := bt_ hb; have NB145_154 := ne_ hg BK145; have NB154_145 := nf_ hg BK145; replace BK145 := bw_ BK145 hb; have NB146_154 := ne_ hg BK146; have NB154_146 := nf_ hg BK146; replace BK146 := bw_ BK146 hb; clear hb hbox hg; have hnb13 := NB154_145.out; have hnc13 := NB145_154.out; have hnb14 := NB154_146.out; have hnc14 := NB146_154.out; obtain ⟨hcz15_0, hcz15_1, hcz15_2⟩ := cz3_ BK154.out; obtain ⟨hfz15_0, hfz15_1, hfz15_2⟩ := fz3_ BK154.out) | ((with_reducible refine gate_callee (f := 44) rfl ?_); refine goesL_ (some 13) rfl rfl Tryd.func44 (by kernel_rfl) rfl #[.agg #[.string t150, .int .i64 t151, .bool t152]] rfl (by (try simp only [List.map_toArray, List.map_cons, List.map_nil]); first | done | rfl | (simp only [List.length_drop, List.length_take]; rfl)) ?_; (with_reducible refine (computusref25_Number.calls t150 t151 t152 t155 t156 t157 t158 _ A3.out).mono ?_); rintro e w16 ⟨rfl, hb⟩; refine ⟨_, rfl, ?_⟩; replace HO149 := am_ (Kd.R_below (fa_ HO149 BK154) hb); replace BK145 := am_ (blk_below (g := gb145) (o := .cells #[.string a0_0, .int .i64 a0_1, .bool a0_2] 52 (0, 0)) (by refine bp_ ?_; refine blk_far ?_ NB145_154.out _; refine bp_ ?_; refine blk_far ?_ NB145_154.out _; refine bp_ ?_; refine blk_far ?_ NB145_154.out _; exact bk_ BK145.out) hb); replace BK146 := am_ (blk_below (g := gb146) (o := .cells #[.string (⟨#[]⟩ : ByteArray), .int .i64 0, .bool false] 52 (0, 0)) (by refine bp_ ?_; refine blk_far ?_ NB146_154.out _; refine bp_ ?_; refine blk_far ?_ NB146_154.out _; refine bp_ ?_; refine blk_far ?_ NB146_154.out _; exact bk_ BK146.out) hb); replace BK154 := am_ (blk_below (g := gb154) (o := .cells #[.string t150, .int .i64 t151, .bool t152] 52 (0, 0)) (by refine bp_ ?_; refine blk_put (cs := #[.string t150, .int .i64 t151, .bool false]) ?_ 2 _ rfl; refine bp_ ?_; refine blk_put (cs := #[.string t150, .int .i64 0, .bool false]) ?_ 1 _ rfl; refine bp_ ?_; refine blk_put (cs := #[.string (⟨#[]⟩ : ByteArray), .int .i64 0, .bool false]) ?_ 0 _ rfl; exact bk_ BK154.out) hb); replace HB := bt_ hb; (try clear hb); (try clear hk); obtain ⟨hcz17_0, hcz17_1, hcz17_2⟩ := cz3_ BK146.out; obtain ⟨hfz17_0, hfz17_1, hfz17_2⟩ := fz3_ BK146.out))
 refine bodyPost_ret (results_ct rfl _ _ gb146 52 #[.string t155, .int .i64 t156, .bool t157] (0, 0) _ rfl (by refine bp_ ?_; refine blk_put (cs := #[.string t155, .int .i64 t156, .bool false]) ?_ 2 _ rfl; refine bp_ ?_; refine blk_put (cs := #[.string t155, .int .i64 0, .bool false]) ?_ 1 _ rfl; refine bp_ ?_; refine blk_put (cs := #[.string (⟨#[]⟩ : ByteArray), .int .i64 0, .bool false]) ?_ 0 _ rfl; exact bk_ BK146.out) Tryd.underlying52 rfl (by kernel_rfl)) rfl ?_
 exact rt_
def computusref26_Identifier.f (k : Nat) (a0_0 : ByteArray) (a0_1 : Int) (a0_2 : Bool) : Option (ByteArray × Int × Bool × ByteArray) := (computusref25_Word.f k a0_0 a0_1 a0_2 (([(⟨#[32]⟩ : ByteArray)] : List ByteArray))).bind fun bt169 => ((computusref25_Identifier.f bt169.1 bt169.2.1 bt169.2.2.1).bind fun bt174 => (some (bt174.1, bt174.2.1, bt174.2.2.1, bt174.2.2.2)))
theorem computusref26_Identifier.calls (k : Nat) (a0_0 : ByteArray) (a0_1 : Int) (a0_2 : Bool) (r1 : ByteArray) (r2 : Int) (r3 : Bool) (r4 : ByteArray) (w : World) (h : computusref26_Identifier.f k a0_0 a0_1 a0_2 = some (r1, r2, r3, r4)) :
  Calls Tryd.prog 23 #[.agg #[.string a0_0, .int .i64 a0_1, .bool a0_2]] w fun e w' => e = .returned (.tuple #[.agg #[.string r1, .int .i64 r2, .bool r3], .string r4]) ∧ Below w.heap.size w w' := by
 have hu52 := Tryd.underlying52
 have HB := am_ (Below.refl w.heap.size w)
 have H := h
 clear h
 unfold computusref26_Identifier.f at H
 obtain ⟨y166, hy166⟩ : ∃ y_ : List ByteArray, y_ = (([(⟨#[32]⟩ : ByteArray)] : List ByteArray)) := ⟨_, rfl⟩
 replace H : ((computusref25_Word.f k a0_0 a0_1 a0_2 y166).bind fun bt169 => ((computusref25_Identifier.f bt169.1 bt169.2.1 bt169.2.2.1).bind fun bt174 => (some (bt174.1, bt174.2.1, bt174.2.2.1, bt174.2.2.2)))) = some (r1, r2, r3, r4) := by first | (rw [hy166]; with_reducible exact H) | (have H2_ := (Option.bind_some _ _).symm.trans H; rw [hy166]; with_reducible exact H2_) | (have H2_ := (Option.bind_some _ _).symm.trans H; with_reducible exact H2_) | with_reducible exact H | (rw [hy166]; exact H) | exact H
 have Ny166 := am_ hy166
 clear hy166
 obtain ⟨⟨t169, t170, t171, t172⟩, A2, H⟩ := bs_ H
 dsimp only at H
 obtain ⟨⟨t174, t175, t176, t177⟩, A3, H⟩ := bs_ H
 dsimp only at H
 simp only [Option.some.injEq, Prod.mk.injEq] at H
 obtain ⟨rfl, rfl, rfl, rfl⟩ := H
 go_enter Tryd.func23, Tryd.ntmps23
 go_wp2_with (first | ((with_reducible refine gate_dst (N := 1) rfl ?_); refine bx_ (w := w) (N := 1) (cs := #[.string a0_0, .int .i64 a0_1, .bool a0_2]) (t := 52) ?_; intro gb164 w4 BK164 n0_ GW164 GE164; clear HB; have HB := n0_; clear n0_) | ((with_reducible refine gate_dst (N := 2) rfl ?_); refine be_ (N := 2) (cs := #[.string (⟨#[]⟩ : ByteArray), .int .i64 0, .bool false]) (t := 52) ?_; intro gb165 hg w5 hbox hb; have BK165 := am_ (hbox); have GW165 := gw_ (w := w) hg; have GE165 := gw_ (w := w) hg; replace HB := bt_ hb; have NB164_165 := ne_ hg BK164; have NB165_164 := nf_ hg BK164; replace BK164 := bw_ BK164 hb; clear hb hbox hg; have hnb6 := NB164_165.out; have hnc6 := NB165_164.out; obtain ⟨hcz7_0, hcz7_1, hcz7_2⟩ := cz3_ BK164.out; obtain ⟨hfz7_0, hfz7_1, hfz7_2⟩ := fz3_ BK164.out) | ((with_reducible refine gate_dst (N := 8) rfl ?_); refine Kd.R_lit Kd.string _ 9 ?hg (N := 8) ?hd (xs := ([(⟨#[32]⟩ : ByteArray)] : List ByteArray)) (inner := [.string (⟨#[32]⟩ : ByteArray)]) (ok := fun _ => True) (okp := fun _ => True) ?hr ?hp (fun _ hk => hk) trivial (Below.refl _ _) (Nat.le_refl _) (by simp) ?_; (case hd => rfl); (case hg => rfl); (case hr => first | (go_simp; done) | (go_simp; rfl)); (case hp => exact (Reps.one (show Kd.M Kd.string _ _ _ (⟨#[32]⟩ : ByteArray) [.string (⟨#[32]⟩ : ByteArray)] from rfl) (Reps.none _ _))); intro v167 w8 ho9 hb hg_ hnew_; clear hg_ hnew_; (first | rw [← Ny166.out] at ho9 | (simp only [Int.reduceToNat] at ho9; rw [← Ny166.out] at ho9)); have HO168 := am_ (Kd.R_lower ho9 bz_); replace BK164 := bw_ BK164 hb; replace BK165 := bw_ BK165 hb; replace HB := bt_ hb; clear hb ho9; obtain ⟨Ao10, co10, eo10⟩ := Kd.R_slice HO168.out; subst eo10) | ((with_reducible refine gate_callee (f := 20) rfl ?_); refine goesL_ (some 9) rfl rfl Tryd.func20 (by kernel_rfl) rfl #[.agg #[.string a0_0, .int .i64 a0_1, .bool a0_2], .slice Ao10 y166.length co10] rfl (by (try simp only [List.map_toArray, List.map_cons, List.map_nil]); first | done | rfl | (simp only [List.length_drop, List.length_take]; rfl)) ?_; (with_reducible refine (computusref25_Word.calls k a0_0 a0_1 a0_2 _ _ y166 t169 t170 t171 t172 _ ?side1 ?side2 A2.out).mono ?_); (case side1 => exact ck_ (Kd.R_reads' HO168.out).2.2); (case side2 => exact (Kd.R_reads' HO168.out).2.1); rintro e w11 ⟨rfl, hb⟩; refine ⟨_, rfl, ?_⟩; replace HO168 := rw_ HO168 hb; replace BK164 := bw_ BK164 hb; replace BK165 := bw_ BK165 hb; replace HB := bt_ hb; (try clear hb); (try clear hk); (try clear hi)) | ((with_reducible refine gate_dst (N := 4) rfl ?_); refine be_ (N := 4) (cs := #[.string (⟨#[]⟩ : ByteArray), .int .i64 0, .bool false]) (t := 52) ?_; intro gb173 hg w12 hbox hb; replace HO168 := rw_ HO168 hb; have BK173 := am_ (hbox); have GW173 := gw_ (w := w) hg; have GE173 := gw_ (w := w) hg; replace HB := bt_ hb; have NB164_173 := ne_ hg BK164; have NB173_164 := nf_ hg BK164; replace BK164 := bw_ BK164 hb; have NB165_173 := ne_ hg BK165; have NB173_165 := nf_ hg BK165; replace BK165 := bw_ BK165 hb; clear hb hbox hg; have hnb13 := NB173_164.out; have hnc13 := NB164_173.out; have hnb14 := NB173_165.out; have hnc14 := NB165_173.out; obtain ⟨hcz15_0, hcz15_1, hcz15_2⟩ := cz3_ BK173.out; obtain ⟨hfz15_0, hfz15_1, hfz15_2⟩ := fz3_ BK173.out) | ((with_reducible refine gate_callee (f := 45) rfl ?_); refine goesL_ (some 13) rfl rfl Tryd.func45 (by kernel_rfl) rfl #[.agg #[.string t169, .int .i64 t170, .bool t171]] rfl (by (try simp only [List.map_toArray, List.map_cons, List.map_nil]); first | done | rfl | (simp only [List.length_drop, List.length_take]; rfl)) ?_; (with_reducible refine (computusref25_Identifier.calls t169 t170 t171 t174 t175 t176 t177 _ A3.out).mono ?_); rintro e w16 ⟨rfl, hb⟩; refine ⟨_, rfl, ?_⟩; replace HO168 := am_ (Kd.R_below (fa_ HO168 BK173) hb); replace BK164 := am_ (blk_below (g := gb164) (o := .cells #[.string a0_0, .int .i64 a0_1, .bool a0_2] 52 (0, 0)) (by refine bp_ ?_; refine blk_far ?_ NB164_173.out _; refine bp_ ?_; refine blk_far ?_ NB164_173.out _; refine bp_ ?_; refine blk_far ?_ NB164_173.out _; exact bk_ BK164.out) hb); replace BK165 := am_ (blk_below (g := gb165) (o := .cells #[.string (⟨#[]⟩ : ByteArray), .int .i64 0, .bool false] 52 (0, 0)) (by refine bp_ ?_; refine blk_far ?_ NB165_173.out _; refine bp_ ?_; refine blk_far ?_ NB165_173.out _; refine bp_ ?_; refine blk_far ?_ NB165_173.out _; exact bk_ BK165.out) hb); replace BK173 := am_ (blk_below (g := gb173) (o := .cells #[.string t169, .int .i64 t170, .bool t171] 52 (0, 0)) (by refine bp_ ?_; refine blk_put (cs := #[.string t169, .int .i64 t170, .bool false]) ?_ 2 _ rfl; refine bp_ ?_; refine blk_put (cs := #[.string t169, .int .i64 0, .bool false]) ?_ 1 _ rfl; refine bp_ ?_; refine blk_put (cs := #[.string (⟨#[]⟩ : ByteArray), .int .i64 0, .bool false]) ?_ 0 _ rfl; exact bk_ BK173.out) hb); replace HB := bt_ hb; (try clear hb); (try clear hk); obtain ⟨hcz17_0, hcz17_1, hcz17_2⟩ := cz3_ BK165.out; obtain ⟨hfz17_0, hfz17_1, hfz17_2⟩ := fz3_ BK165.out))
 refine bodyPost_ret (results_ct rfl _ _ gb165 52 #[.string t174, .int .i64 t175, .bool t176] (0, 0) _ rfl (by refine bp_ ?_; refine blk_put (cs := #[.string t174, .int .i64 t175, .bool false]) ?_ 2 _ rfl; refine bp_ ?_; refine blk_put (cs := #[.string t174, .int .i64 0, .bool false]) ?_ 1 _ rfl; refine bp_ ?_; refine blk_put (cs := #[.string (⟨#[]⟩ : ByteArray), .int .i64 0, .bool false]) ?_ 0 _ rfl; exact bk_ BK165.out) Tryd.underlying52 rfl (by kernel_rfl)) rfl ?_
 exact rt_
mutual
def computusref26_readAnchor.j0 : Nat → Int → ByteArray → Int → Bool → Int → Int → Int → Int → Int → Int → Option (ByteArray × Int × Bool × Int × Int × Int × Int × Int × Int)
 | 0, _, _, _, _, _, _, _, _, _, _ => none
 | k + 1, x5, x197000, x197001, x197002, x200000, x200001, x200002, x200003, x200004, x200005 => if x5 = 2 then ((computusref26_Weekdays.f k).bind fun t211 => ((computusref26_Choice.f k x197000 x197001 x197002 t211).bind fun bt214 => ((computusref26_Number.f k bt214.1 bt214.2.1 bt214.2.2.1).bind fun bt218 => (computusref26_readAnchor.j1 k x5 bt218.1 bt218.2.1 bt218.2.2.1 x200000 x200001 x200002 x200003 bt214.2.2.2 bt218.2.2.2)))) else (computusref26_readAnchor.j1 k x5 x197000 x197001 x197002 x200000 x200001 x200002 x200003 x200004 x200005)
def computusref26_readAnchor.j1 : Nat → Int → ByteArray → Int → Bool → Int → Int → Int → Int → Int → Int → Option (ByteArray × Int × Bool × Int × Int × Int × Int × Int × Int)
 | 0, _, _, _, _, _, _, _, _, _, _ => none
 | k + 1, x5, x197000, x197001, x197002, x200000, x200001, x200002, x200003, x200004, x200005 => if x5 = 1 then ((computusref25_Word.f k x197000 x197001 x197002 (([(⟨#[10]⟩ : ByteArray)] : List ByteArray))).bind fun bt225 => (some (bt225.1, bt225.2.1, bt225.2.2.1, x200000, x200001, x200002, x200003, x200004, x200005))) else ((computusref26_Number.f k x197000 x197001 x197002).bind fun bt229 => ((computusref26_Number.f k bt229.1 bt229.2.1 bt229.2.2.1).bind fun bt233 => ((computusref25_Word.f k bt233.1 bt233.2.1 bt233.2.2.1 (([(⟨#[10]⟩ : ByteArray)] : List ByteArray))).bind fun bt240 => (some (bt240.1, bt240.2.1, bt240.2.2.1, x200000, bt229.2.2.2, bt233.2.2.2, x200003, x200004, x200005)))))
end
def computusref26_readAnchor.f (k : Nat) (a0_0 : ByteArray) (a0_1 : Int) (a0_2 : Bool) : Option (ByteArray × Int × Bool × Int × Int × Int × Int × Int × Int) := (computusref26_Choice.f k a0_0 a0_1 a0_2 (([(⟨#[102, 105, 120, 101, 100]⟩ : ByteArray), (⟨#[101, 97, 115, 116, 101, 114]⟩ : ByteArray), (⟨#[110, 116, 104]⟩ : ByteArray)] : List ByteArray))).bind fun bt203 => (if bt203.2.2.2 = 1 then ((computusref26_Number.f k bt203.1 bt203.2.1 bt203.2.2.1).bind fun bt207 => (computusref26_readAnchor.j0 k bt203.2.2.2 bt207.1 bt207.2.1 bt207.2.2.1 (wrap64 (bt203.2.2.2 + 1)) 0 0 bt207.2.2.2 0 0)) else (computusref26_readAnchor.j0 k bt203.2.2.2 bt203.1 bt203.2.1 bt203.2.2.1 (wrap64 (bt203.2.2.2 + 1)) 0 0 0 0 0))
def computusref26_readAnchor.T8 : Bool × List (List Nat × List Nat) := (true, [([], []), ([], []), ([0, 1, 1], [0, 1]), ([2], [2]), ([3], [3]), ([3], [3]), ([4, 2, 0, 1, 2, 3, 4], [4]), ([0, 1, 2, 3, 4, 5, 6], []), ([7, 5, 6, 0, 1, 2, 3, 4, 5, 6], [5, 7])])
def computusref26_readAnchor.B8 : List Nat := [0, 0, 3, 7, 15, 15, 31, 127, 255]
theorem computusref26_readAnchor.tab8 : rtab .any (opsOf Tryd.f25 8) = computusref26_readAnchor.T8 := by kernel_rfl
theorem computusref26_readAnchor.bits8 : waitsOk computusref26_readAnchor.T8.2 computusref26_readAnchor.B8 = true := by kernel_rfl
theorem computusref26_readAnchor.calls (k : Nat) (a0_0 : ByteArray) (a0_1 : Int) (a0_2 : Bool) (r1 : ByteArray) (r2 : Int) (r3 : Bool) (r4 : Int) (r5 : Int) (r6 : Int) (r7 : Int) (r8 : Int) (r9 : Int) (w : World) (h : computusref26_readAnchor.f k a0_0 a0_1 a0_2 = some (r1, r2, r3, r4, r5, r6, r7, r8, r9)) :
  Calls Tryd.prog 25 #[.agg #[.string a0_0, .int .i64 a0_1, .bool a0_2]] w fun e w' => e = .returned (.tuple #[.agg #[.string r1, .int .i64 r2, .bool r3], .agg #[.int .i64 r4, .int .i64 r5, .int .i64 r6, .int .i64 r7, .int .i64 r8, .int .i64 r9]]) ∧ Below w.heap.size w w' := by
 have hu52 := Tryd.underlying52
 have hu39 := Tryd.underlying39
 have HB := am_ (Below.refl w.heap.size w)
 have H := h
 clear h
 unfold computusref26_readAnchor.f at H
 obtain ⟨y200, hy200⟩ : ∃ y_ : List ByteArray, y_ = (([(⟨#[102, 105, 120, 101, 100]⟩ : ByteArray), (⟨#[101, 97, 115, 116, 101, 114]⟩ : ByteArray), (⟨#[110, 116, 104]⟩ : ByteArray)] : List ByteArray)) := ⟨_, rfl⟩
 replace H : ((computusref26_Choice.f k a0_0 a0_1 a0_2 y200).bind fun bt203 => (if bt203.2.2.2 = 1 then ((computusref26_Number.f k bt203.1 bt203.2.1 bt203.2.2.1).bind fun bt207 => (computusref26_readAnchor.j0 k bt203.2.2.2 bt207.1 bt207.2.1 bt207.2.2.1 (wrap64 (bt203.2.2.2 + 1)) 0 0 bt207.2.2.2 0 0)) else (computusref26_readAnchor.j0 k bt203.2.2.2 bt203.1 bt203.2.1 bt203.2.2.1 (wrap64 (bt203.2.2.2 + 1)) 0 0 0 0 0))) = some (r1, r2, r3, r4, r5, r6, r7, r8, r9) := by first | (rw [hy200]; with_reducible exact H) | (have H2_ := (Option.bind_some _ _).symm.trans H; rw [hy200]; with_reducible exact H2_) | (have H2_ := (Option.bind_some _ _).symm.trans H; with_reducible exact H2_) | with_reducible exact H | (rw [hy200]; exact H) | exact H
 have Ny200 := am_ hy200
 clear hy200
 obtain ⟨⟨t203, t204, t205, t206⟩, A2, H⟩ := bs_ H
 dsimp only at H
 have HC3 := am_ H
 clear H
 go_enter Tryd.func25, Tryd.ntmps25
 go_upto_if 16 with (first | ((with_reducible refine gate_dst (N := 1) rfl ?_); refine bx_ (w := w) (N := 1) (cs := #[.string a0_0, .int .i64 a0_1, .bool a0_2]) (t := 52) ?_; intro gb196 w4 BK196 n0_ GW196 GE196; clear HB; have HB := n0_; clear n0_) | ((with_reducible refine gate_dst (N := 2) rfl ?_); refine be_ (N := 2) (cs := #[.string (⟨#[]⟩ : ByteArray), .int .i64 0, .bool false]) (t := 52) ?_; intro gb197 hg w5 hbox hb; have BK197 := am_ (hbox); have GW197 := gw_ (w := w) hg; have GE197 := gw_ (w := w) hg; replace HB := bt_ hb; have NB196_197 := ne_ hg BK196; have NB197_196 := nf_ hg BK196; replace BK196 := bw_ BK196 hb; clear hb hbox hg) | ((with_reducible refine gate_dst (N := 3) rfl ?_); refine be_ (N := 3) (cs := #[.int .i64 0, .int .i64 0, .int .i64 0, .int .i64 0, .int .i64 0, .int .i64 0]) (t := 39) ?_; intro gb198 hg w6 hbox hb; have BK198 := am_ (hbox); have GW198 := gw_ (w := w) hg; have GE198 := gw_ (w := w) hg; replace HB := bt_ hb; have NB196_198 := ne_ hg BK196; have NB198_196 := nf_ hg BK196; replace BK196 := bw_ BK196 hb; have NB197_198 := ne_ hg BK197; have NB198_197 := nf_ hg BK197; replace BK197 := bw_ BK197 hb; clear hb hbox hg) | ((with_reducible refine gate_dst (N := 4) rfl ?_); refine be_ (N := 4) (cs := #[.int .i64 0, .int .i64 0, .int .i64 0, .int .i64 0, .int .i64 0, .int .i64 0]) (t := 39) ?_; intro gb199 hg w7 hbox hb; have BK199 := am_ (hbox); have GW199 := gw_ (w := w) hg; have GE199 := gw_ (w := w) hg; replace HB := bt_ hb; have NB196_199 := ne_ hg BK196; have NB199_196 := nf_ hg BK196; replace BK196 := bw_ BK196 hb; have NB197_199 := ne_ hg BK197; have NB199_197 := nf_ hg BK197; replace BK197 := bw_ BK197 hb; have NB198_199 := ne_ hg BK198; have NB199_198 := nf_ hg BK198; replace BK198 := bw_ BK198 hb; clear hb hbox hg; have hnb8 := NB196_197.out; have hnc8 := NB197_196.out; have hnb9 := NB196_198.out; have hnc9 := NB198_196.out; have hnb10 := NB196_199.out; have hnc10 := NB199_196.out; obtain ⟨hcz11_0, hcz11_1, hcz11_2⟩ := cz3_ BK196.out; obtain ⟨hfz11_0, hfz11_1, hfz11_2⟩ := fz3_ BK196.out) | ((with_reducible refine gate_dst (N := 8) rfl ?_); refine Kd.R_lit Kd.string _ 9 ?hg (N := 8) ?hd (xs := ([(⟨#[102, 105, 120, 101, 100]⟩ : ByteArray), (⟨#[101, 97, 115, 116, 101, 114]⟩ : ByteArray), (⟨#[110, 116, 104]⟩ : ByteArray)] : List ByteArray)) (inner := [.string (⟨#[102, 105, 120, 101, 100]⟩ : ByteArray), .string (⟨#[101, 97, 115, 116, 101, 114]⟩ : ByteArray), .string (⟨#[110, 116, 104]⟩ : ByteArray)]) (ok := fun _ => True) (okp := fun _ => True) ?hr ?hp (fun _ hk => hk) trivial (Below.refl _ _) (Nat.le_refl _) (by simp) ?_; (case hd => rfl); (case hg => rfl); (case hr => first | (go_simp; done) | (go_simp; rfl)); (case hp => exact (Reps.one (show Kd.M Kd.string _ _ _ (⟨#[102, 105, 120, 101, 100]⟩ : ByteArray) [.string (⟨#[102, 105, 120, 101, 100]⟩ : ByteArray)] from rfl) (Reps.one (show Kd.M Kd.string _ _ _ (⟨#[101, 97, 115, 116, 101, 114]⟩ : ByteArray) [.string (⟨#[101, 97, 115, 116, 101, 114]⟩ : ByteArray)] from rfl) (Reps.one (show Kd.M Kd.string _ _ _ (⟨#[110, 116, 104]⟩ : ByteArray) [.string (⟨#[110, 116, 104]⟩ : ByteArray)] from rfl) (Reps.none _ _))))); intro v201 w12 ho13 hb hg_ hnew_; clear hg_ hnew_; (first | rw [← Ny200.out] at ho13 | (simp only [Int.reduceToNat] at ho13; rw [← Ny200.out] at ho13)); have HO202 := am_ (Kd.R_lower ho13 bz_); replace BK196 := bw_ BK196 hb; replace BK197 := bw_ BK197 hb; replace BK198 := bw_ BK198 hb; replace BK199 := bw_ BK199 hb; replace HB := bt_ hb; clear hb ho13; obtain ⟨Ao14, co14, eo14⟩ := Kd.R_slice HO202.out; subst eo14) | ((with_reducible refine gate_callee (f := 24) rfl ?_); refine goesL_ (some 9) rfl rfl Tryd.func24 (by kernel_rfl) rfl #[.agg #[.string a0_0, .int .i64 a0_1, .bool a0_2], .slice Ao14 y200.length co14] rfl (by (try simp only [List.map_toArray, List.map_cons, List.map_nil]); first | done | rfl | (simp only [List.length_drop, List.length_take]; rfl)) ?_; (with_reducible refine (computusref26_Choice.calls k a0_0 a0_1 a0_2 _ _ y200 t203 t204 t205 t206 _ ?side1 ?side2 A2.out).mono ?_); (case side1 => exact ck_ (Kd.R_reads' HO202.out).2.2); (case side2 => exact (Kd.R_reads' HO202.out).2.1); rintro e w15 ⟨rfl, hb⟩; refine ⟨_, rfl, ?_⟩; replace HO202 := rw_ HO202 hb; replace BK196 := bw_ BK196 hb; replace BK197 := bw_ BK197 hb; replace BK198 := bw_ BK198 hb; replace BK199 := bw_ BK199 hb; replace HB := bt_ hb; (try clear hb); (try clear hk); obtain ⟨hcz16_0, hcz16_1, hcz16_2⟩ := cz3_ BK196.out; obtain ⟨hfz16_0, hfz16_1, hfz16_2⟩ := fz3_ BK196.out; have hnb17 := NB199_197.out; have hnc17 := NB197_199.out; have hnb18 := NB199_198.out; have hnc18 := NB198_199.out; obtain ⟨hcz19_0, hcz19_1, hcz19_2, hcz19_3, hcz19_4, hcz19_5⟩ := cz6_ BK199.out; obtain ⟨hfz19_0, hfz19_1, hfz19_2, hfz19_3, hfz19_4, hfz19_5⟩ := fz6_ BK199.out))
 (try simp only [Act.put, sA_, sZ_, sS_])
 go_cut [] (fun wc => ∃ (kq : Nat) (x197000_2 : ByteArray) (x197001_2 : Int) (x197002_2 : Bool) (x200003_2 : Int), Aside0 (computusref26_readAnchor.j0 kq t206 x197000_2 x197001_2 x197002_2 (wrap64 (t206 + 1)) 0 0 x200003_2 0 0 = some (r1, r2, r3, r4, r5, r6, r7, r8, r9)) ∧ Aside0 (kq ≤ k) ∧ Aside0 (wc.heap[gb196]? = some (.cells #[.string x197000_2, .int .i64 x197001_2, .bool x197002_2] 52 (0, 0))) ∧ Aside0 (wc.heap[gb197]? = some (.cells #[.string (⟨#[]⟩ : ByteArray), .int .i64 0, .bool false] 52 (0, 0))) ∧ Aside0 (wc.heap[gb198]? = some (.cells #[.int .i64 0, .int .i64 0, .int .i64 0, .int .i64 0, .int .i64 0, .int .i64 0] 39 (0, 0))) ∧ Aside0 (wc.heap[gb199]? = some (.cells #[.int .i64 (wrap64 (t206 + 1)), .int .i64 0, .int .i64 0, .int .i64 x200003_2, .int .i64 0, .int .i64 0] 39 (0, 0))) ∧ Aside0 (Below w.heap.size w wc))
 case first =>
  have H := HC3.out
  clear HC3
  by_cases c20 : t206 = 1
  rotate_left
  ·rw [if_neg c20] at H
   have c20b0 : (t206 == 1) = false := beq_eq_false_iff_ne.mpr c20
   have c20b1 : (t206 != 1) = true := bne_iff_ne.mpr c20
   (first | rw [c20b0] | (simp only [i64_w, i32_w]; rw [c20b0]) | skip)
   have H' := am_ H
   clear H
   go_wp2
   go_meet
   case rel => exact ⟨_, (t203), (t204), (t205), (0), H', ⟨by first | omega | exact Nat.le_refl _⟩, ⟨by refine bp_ ?_; refine blk_far ?_ NB196_199.out _; refine bp_ ?_; refine blk_put (cs := #[.string t203, .int .i64 t204, .bool a0_2]) ?_ 2 _ rfl; refine bp_ ?_; refine blk_put (cs := #[.string t203, .int .i64 a0_1, .bool a0_2]) ?_ 1 _ rfl; refine bp_ ?_; refine blk_put (cs := #[.string a0_0, .int .i64 a0_1, .bool a0_2]) ?_ 0 _ rfl; exact bk_ BK196.out⟩, ⟨by refine bp_ ?_; refine blk_far ?_ NB197_199.out _; refine bp_ ?_; refine blk_far ?_ NB197_196.out _; refine bp_ ?_; refine blk_far ?_ NB197_196.out _; refine bp_ ?_; refine blk_far ?_ NB197_196.out _; exact bk_ BK197.out⟩, ⟨by refine bp_ ?_; refine blk_far ?_ NB198_199.out _; refine bp_ ?_; refine blk_far ?_ NB198_196.out _; refine bp_ ?_; refine blk_far ?_ NB198_196.out _; refine bp_ ?_; refine blk_far ?_ NB198_196.out _; exact bk_ BK198.out⟩, ⟨by refine bp_ ?_; refine blk_put (cs := #[.int .i64 0, .int .i64 0, .int .i64 0, .int .i64 0, .int .i64 0, .int .i64 0]) ?_ 0 _ rfl; refine bp_ ?_; refine blk_far ?_ NB199_196.out _; refine bp_ ?_; refine blk_far ?_ NB199_196.out _; refine bp_ ?_; refine blk_far ?_ NB199_196.out _; exact bk_ BK199.out⟩, ⟨bh_⟩⟩
  rw [if_pos c20] at H
  have c20b0 : (t206 == 1) = true := beq_iff_eq.mpr c20
  have c20b1 : (t206 != 1) = false := bne_eq_false_iff_eq.mpr c20
  clear c20
  (first | rw [c20b0] | (simp only [i64_w, i32_w]; rw [c20b0]) | skip)
  obtain ⟨⟨t207, t208, t209, t210⟩, A21, H⟩ := bs_ H
  dsimp only at H
  have H' := am_ H
  clear H
  have hnb22 := NB196_197.out
  have hnc22 := NB197_196.out
  have hnb23 := NB196_198.out
  have hnc23 := NB198_196.out
  have hnb24 := NB196_199.out
  have hnc24 := NB199_196.out
  obtain ⟨hcz25_0, hcz25_1, hcz25_2⟩ := cz3_ BK196.out
  obtain ⟨hfz25_0, hfz25_1, hfz25_2⟩ := fz3_ BK196.out
  go_wp2_with (first | ((with_reducible refine gate_callee (f := 21) rfl ?_); refine goesL_ (some 19) rfl rfl Tryd.func21 (by kernel_rfl) rfl #[.agg #[.string t203, .int .i64 t204, .bool t205]] rfl (by (try simp only [List.map_toArray, List.map_cons, List.map_nil]); first | done | rfl | (simp only [List.length_drop, List.length_take]; rfl)) ?_; (with_reducible refine (computusref26_Number.calls k t203 t204 t205 t207 t208 t209 t210 _ A21.out).mono ?_); rintro e w26 ⟨rfl, hb⟩; refine ⟨_, rfl, ?_⟩; replace HO202 := am_ (Kd.R_below (by (with_reducible repeat (first | apply Kd.R_alloc | apply Kd.R_drewN | apply Kd.R_drew)); exact (Kd.R_mono (Kd.R_mono (Kd.R_far (p := ⟨gb199, 0, none⟩) (Kd.R_far (p := ⟨gb196, 2, none⟩) (Kd.R_far (p := ⟨gb196, 1, none⟩) (Kd.R_far (p := ⟨gb196, 0, none⟩) (Kd.R_types (Kd.R_types HO202.out BK196.out (by decide)) BK199.out (by decide)) (fun _ hk => hk.1.2) (.string t203)) (fun _ hk => hk.1.2) (.int .i64 t204)) (fun _ hk => hk.1.2) (.bool t205)) (fun _ hk => hk.2) (.int .i64 (wrap64 (t206 + 1)))) (fun _ h_ => h_.1)) (fun _ h_ => h_.1))) hb); replace BK196 := am_ (blk_below (g := gb196) (o := .cells #[.string t203, .int .i64 t204, .bool t205] 52 (0, 0)) (by refine bp_ ?_; refine blk_far ?_ NB196_199.out _; refine bp_ ?_; refine blk_put (cs := #[.string t203, .int .i64 t204, .bool a0_2]) ?_ 2 _ rfl; refine bp_ ?_; refine blk_put (cs := #[.string t203, .int .i64 a0_1, .bool a0_2]) ?_ 1 _ rfl; refine bp_ ?_; refine blk_put (cs := #[.string a0_0, .int .i64 a0_1, .bool a0_2]) ?_ 0 _ rfl; exact bk_ BK196.out) hb); replace BK197 := am_ (blk_below (g := gb197) (o := .cells #[.string (⟨#[]⟩ : ByteArray), .int .i64 0, .bool false] 52 (0, 0)) (by refine bp_ ?_; refine blk_far ?_ NB197_199.out _; refine bp_ ?_; refine blk_far ?_ NB197_196.out _; refine bp_ ?_; refine blk_far ?_ NB197_196.out _; refine bp_ ?_; refine blk_far ?_ NB197_196.out _; exact bk_ BK197.out) hb); replace BK198 := am_ (blk_below (g := gb198) (o := .cells #[.int .i64 0, .int .i64 0, .int .i64 0, .int .i64 0, .int .i64 0, .int .i64 0] 39 (0, 0)) (by refine bp_ ?_; refine blk_far ?_ NB198_199.out _; refine bp_ ?_; refine blk_far ?_ NB198_196.out _; refine bp_ ?_; refine blk_far ?_ NB198_196.out _; refine bp_ ?_; refine blk_far ?_ NB198_196.out _; exact bk_ BK198.out) hb); replace BK199 := am_ (blk_below (g := gb199) (o := .cells #[.int .i64 (wrap64 (t206 + 1)), .int .i64 0, .int .i64 0, .int .i64 0, .int .i64 0, .int .i64 0] 39 (0, 0)) (by refine bp_ ?_; refine blk_put (cs := #[.int .i64 0, .int .i64 0, .int .i64 0, .int .i64 0, .int .i64 0, .int .i64 0]) ?_ 0 _ rfl; refine bp_ ?_; refine blk_far ?_ NB199_196.out _; refine bp_ ?_; refine blk_far ?_ NB199_196.out _; refine bp_ ?_; refine blk_far ?_ NB199_196.out _; exact bk_ BK199.out) hb); replace HB := bt_ hb; (try clear hb); (try clear hk); obtain ⟨hcz27_0, hcz27_1, hcz27_2⟩ := cz3_ BK196.out; obtain ⟨hfz27_0, hfz27_1, hfz27_2⟩ := fz3_ BK196.out; have hnb28 := NB199_197.out; have hnc28 := NB197_199.out; have hnb29 := NB199_198.out; have hnc29 := NB198_199.out; obtain ⟨hcz30_0, hcz30_1, hcz30_2, hcz30_3, hcz30_4, hcz30_5⟩ := cz6_ BK199.out; obtain ⟨hfz30_0, hfz30_1, hfz30_2, hfz30_3, hfz30_4, hfz30_5⟩ := fz6_ BK199.out))
  go_meet
  case rel => exact ⟨_, (t207), (t208), (t209), (t210), H', ⟨by first | omega | exact Nat.le_refl _⟩, ⟨by refine bp_ ?_; refine blk_far ?_ NB196_199.out _; refine bp_ ?_; refine blk_put (cs := #[.string t207, .int .i64 t208, .bool t205]) ?_ 2 _ rfl; refine bp_ ?_; refine blk_put (cs := #[.string t207, .int .i64 t204, .bool t205]) ?_ 1 _ rfl; refine bp_ ?_; refine blk_put (cs := #[.string t203, .int .i64 t204, .bool t205]) ?_ 0 _ rfl; exact bk_ BK196.out⟩, ⟨by refine bp_ ?_; refine blk_far ?_ NB197_199.out _; refine bp_ ?_; refine blk_far ?_ NB197_196.out _; refine bp_ ?_; refine blk_far ?_ NB197_196.out _; refine bp_ ?_; refine blk_far ?_ NB197_196.out _; exact bk_ BK197.out⟩, ⟨by refine bp_ ?_; refine blk_far ?_ NB198_199.out _; refine bp_ ?_; refine blk_far ?_ NB198_196.out _; refine bp_ ?_; refine blk_far ?_ NB198_196.out _; refine bp_ ?_; refine blk_far ?_ NB198_196.out _; exact bk_ BK198.out⟩, ⟨by refine bp_ ?_; refine blk_put (cs := #[.int .i64 (wrap64 (t206 + 1)), .int .i64 0, .int .i64 0, .int .i64 0, .int .i64 0, .int .i64 0]) ?_ 3 _ rfl; refine bp_ ?_; refine blk_far ?_ NB199_196.out _; refine bp_ ?_; refine blk_far ?_ NB199_196.out _; refine bp_ ?_; refine blk_far ?_ NB199_196.out _; exact bk_ BK199.out⟩, ⟨bh_⟩⟩
 case rest =>
  clear HC3
  obtain ⟨kq, x197000_2, x197001_2, x197002_2, x200003_2, HA, HJ2, BK196, BK197, BK198, BK199, HB⟩ := hcut
  cases kq with
  | zero => exact absurd HA.out (by simp [computusref26_readAnchor.j0])
  | succ kj2 =>
   have H := HA.out
   clear HA
   simp only [computusref26_readAnchor.j0] at H
   have HC31 := am_ H
   clear H
   go_upto_if 24 with (fail)
   go_cut [] (fun wc => ∃ (kq : Nat) (x197000_30 : ByteArray) (x197001_30 : Int) (x197002_30 : Bool) (x200004_30 : Int) (x200005_30 : Int), Aside0 (computusref26_readAnchor.j1 kq t206 x197000_30 x197001_30 x197002_30 (wrap64 (t206 + 1)) 0 0 x200003_2 x200004_30 x200005_30 = some (r1, r2, r3, r4, r5, r6, r7, r8, r9)) ∧ Aside0 (kq ≤ kj2) ∧ Aside0 (wc.heap[gb196]? = some (.cells #[.string x197000_30, .int .i64 x197001_30, .bool x197002_30] 52 (0, 0))) ∧ Aside0 (wc.heap[gb197]? = some (.cells #[.string (⟨#[]⟩ : ByteArray), .int .i64 0, .bool false] 52 (0, 0))) ∧ Aside0 (wc.heap[gb198]? = some (.cells #[.int .i64 0, .int .i64 0, .int .i64 0, .int .i64 0, .int .i64 0, .int .i64 0] 39 (0, 0))) ∧ Aside0 (wc.heap[gb199]? = some (.cells #[.int .i64 (wrap64 (t206 + 1)), .int .i64 0, .int .i64 0, .int .i64 x200003_2, .int .i64 x200004_30, .int .i64 x200005_30] 39 (0, 0))) ∧ Aside0 (Below w.heap.size w wc))
   case first =>
    have H := HC31.out
    clear HC31
    by_cases c32 : t206 = 2
    rotate_left
    ·rw [if_neg c32] at H
     have c32b0 : (t206 == 2) = false := beq_eq_false_iff_ne.mpr c32
     have c32b1 : (t206 != 2) = true := bne_iff_ne.mpr c32
     (first | rw [c32b0] | (simp only [i64_w, i32_w]; rw [c32b0]) | skip)
     have H' := am_ H
     clear H
     go_wp2
     go_meet
     case rel => exact ⟨_, (x197000_2), (x197001_2), (x197002_2), (0), (0), H', ⟨by have := HJ2.out; first | omega | exact Nat.le_refl _⟩, ⟨bk_ BK196.out⟩, ⟨bk_ BK197.out⟩, ⟨bk_ BK198.out⟩, ⟨bk_ BK199.out⟩, ⟨bh_⟩⟩
    rw [if_pos c32] at H
    have c32b0 : (t206 == 2) = true := beq_iff_eq.mpr c32
    have c32b1 : (t206 != 2) = false := bne_eq_false_iff_eq.mpr c32
    clear c32
    (first | rw [c32b0] | (simp only [i64_w, i32_w]; rw [c32b0]) | skip)
    obtain ⟨t211, A33, H⟩ := bs_ H
    obtain ⟨⟨t214, t215, t216, t217⟩, A34, H⟩ := bs_ H
    dsimp only at H
    obtain ⟨⟨t218, t219, t220, t221⟩, A35, H⟩ := bs_ H
    dsimp only at H
    have H' := am_ H
    clear H
    try go_wp2
    replace BK196 := am_ (blk_drew BK196.out)
    replace BK197 := am_ (blk_drew BK197.out)
    replace BK198 := am_ (blk_drew BK198.out)
    replace BK199 := am_ (blk_drew BK199.out)
    replace HB := am_ (below_drew1 HB.out)
    refine start_ (n := 9) (S := fun w' => w'.cell? ⟨gb196, 0, none⟩ = some (.string x197000_2) ∧ w'.cell? ⟨gb196, 1, none⟩ = some (.int .i64 x197001_2) ∧ w'.cell? ⟨gb196, 2, none⟩ = some (.bool x197002_2)) (ds := [6, 8]) (bf_ 9 0) (by kernel_rfl) rfl rfl (cz3_ BK196.out) (fun hHeld => ?_); refine with_tabW computusref26_readAnchor.tab8 computusref26_readAnchor.bits8 (fun HT_ HW_ => ?_)
    generalize wc.drew = w36 at BK196 BK197 BK198 BK199 HB hHeld ⊢
    refine ta_ 0 (some 26) (bf_ 9 1) HT_.out HW_.out hHeld ?_
    refine one_ (i := 1) (N := some 27) (bf_ 9 3) rfl rfl (one_of HT_.out (by kernel_rfl)) (by decide) (fun K hK => ?_)
    refine goes_ Tryd.func46 (by kernel_rfl) rfl #[] (by rfl) rfl rfl (by (try simp only [List.map_toArray, List.map_cons, List.map_nil]); first | done | rfl | (simp only [List.length_drop, List.length_take]; rfl)) ?_
    with_reducible refine (computusref26_Weekdays.calls kj2  t211 _ A33.out).mono ?_
    rintro e w37 ⟨v212, rfl, ho0, hb⟩
    refine ⟨_, rfl, ?_⟩
    have HO213 := am_ (Kd.R_lower ho0 bz_)
    replace BK196 := bw_ BK196 hb
    replace BK197 := bw_ BK197 hb
    replace BK198 := bw_ BK198 hb
    replace BK199 := bw_ BK199 hb
    replace HB := bt_ hb
    (try clear hb)
    (try clear hb2)
    (try clear hk)
    (try clear hi)
    (try clear ho0)
    obtain ⟨Ao38, co38, eo38⟩ := Kd.R_slice HO213.out
    (first | subst eo38 | (injection eo38 with f1_ f2_ f3_; have f4_ := f1_.symm; have f5_ := f3_.symm; clear f1_ f2_ f3_; subst f4_; subst f5_))
    refine hK.out _ _ (by first | exact (cz3_ BK196.out) | exact hHeld) (fun hHeld => ?_)
    clear hK K
    refine norm_ (a' := ?_) ?_ ?_
    rotate_left
    ·show Act.put _ (some 27) _ = _
     simp only [Act.put, sA_, sZ_, sS_, i64_w, i32_w]
     rfl
    refine one_ (i := 2) (N := some 28) (bf_ 9 7) rfl rfl (one_of HT_.out (by kernel_rfl)) (by decide) (fun K hK => ?_)
    refine goes_ Tryd.func24 (by kernel_rfl) rfl #[.agg #[.string x197000_2, .int .i64 x197001_2, .bool x197002_2], .slice Ao38 t211.length co38] (by rfl) rfl rfl (by (try simp only [List.map_toArray, List.map_cons, List.map_nil]); first | done | rfl | (simp only [List.length_drop, List.length_take]; rfl)) ?_
    with_reducible refine (computusref26_Choice.calls kj2 x197000_2 x197001_2 x197002_2 _ _ t211 t214 t215 t216 t217 _ ?side1 ?side2 A34.out).mono ?_
    (case side1 => exact ck_ (Kd.R_reads' HO213.out).2.2)
    (case side2 => exact (Kd.R_reads' HO213.out).2.1)
    rintro e w39 ⟨rfl, hb⟩
    refine ⟨_, rfl, ?_⟩
    replace HO213 := rw_ HO213 hb
    replace BK196 := bw_ BK196 hb
    replace BK197 := bw_ BK197 hb
    replace BK198 := bw_ BK198 hb
    replace BK199 := bw_ BK199 hb
    replace HB := bt_ hb
    (try clear hb)
    (try clear hb2)
    (try clear hk)
    (try clear hi)
    refine hK.out _ _ (by first | exact (cz3_ BK196.out) | exact hHeld) (fun hHeld => ?_)
    clear hK K
    refine norm_ (a' := ?_) ?_ ?_
    rotate_left
    ·show Act.put _ (some 28) _ = _
     simp only [Act.put, sA_, sZ_, sS_, i64_w, i32_w]
     rfl
    refine pu_ 3 (some 25) (bf_ 9 15) HT_.out ?_
    refine pu_ 4 (some 29) (bf_ 9 31) HT_.out ?_
    refine pu_ 5 (some 30) (bf_ 9 63) HT_.out ?_
    refine last_ (i := 6) (N := none) (bf_ 9 127) rfl rfl (one_of HT_.out (by kernel_rfl)) (by decide) (fun K hK => ?_)
    have hs40 : w39.cell? ⟨gb196, 0, none⟩ = some (.string x197000_2) := (blk_cell BK196.out 0).trans rfl
    have hfs40 := blk_frozen BK196.out 0
    have hns40_1 := NB197_196.out
    have hns40_2 := NB198_196.out
    have hns40_3 := NB199_196.out
    have hms40_1 := NB196_197.out
    have hms40_2 := NB196_198.out
    have hms40_3 := NB196_199.out
    have hs41 : w39.cell? ⟨gb196, 1, none⟩ = some (.int .i64 x197001_2) := (blk_cell BK196.out 1).trans rfl
    have hfs41 := blk_frozen BK196.out 1
    have hns41_1 := NB197_196.out
    have hns41_2 := NB198_196.out
    have hns41_3 := NB199_196.out
    have hms41_1 := NB196_197.out
    have hms41_2 := NB196_198.out
    have hms41_3 := NB196_199.out
    have hs42 : w39.cell? ⟨gb196, 2, none⟩ = some (.bool x197002_2) := (blk_cell BK196.out 2).trans rfl
    have hfs42 := blk_frozen BK196.out 2
    have hns42_1 := NB197_196.out
    have hns42_2 := NB198_196.out
    have hns42_3 := NB199_196.out
    have hms42_1 := NB196_197.out
    have hms42_2 := NB196_198.out
    have hms42_3 := NB196_199.out
    refine skip_ (w1 := ?_) (by rfl) rfl ?_ ?_
    rotate_left
    ·go_simp
     rfl
    refine hK.out _ _ ?_
    clear hK K
    refine pu_ 7 (some 31) (bf_ 9 255) HT_.out ?_
    refine last_ (i := 8) (N := none) (bf_ 9 511) rfl rfl (one_of HT_.out (by kernel_rfl)) (by decide) (fun K hK => ?_)
    have hs43 : w39.cell? ⟨gb199, 4, none⟩ = some (.int .i64 0) := (blk_cell BK199.out 4).trans rfl
    have hfs43 := blk_frozen BK199.out 4
    have hns43_0 := NB196_199.out
    have hns43_1 := NB197_199.out
    have hns43_2 := NB198_199.out
    have hms43_0 := NB199_196.out
    have hms43_1 := NB199_197.out
    have hms43_2 := NB199_198.out
    refine skip_ (w1 := ?_) (by rfl) rfl ?_ ?_
    rotate_left
    ·go_simp
     rfl
    refine hK.out _ _ ?_
    clear hK K
    refine done_ (done_of HT_.out (by kernel_rfl)) ?_
    have hnb44 := NB196_197.out
    have hnc44 := NB197_196.out
    have hnb45 := NB196_198.out
    have hnc45 := NB198_196.out
    have hnb46 := NB196_199.out
    have hnc46 := NB199_196.out
    obtain ⟨hcz47_0, hcz47_1, hcz47_2⟩ := cz3_ BK196.out
    obtain ⟨hfz47_0, hfz47_1, hfz47_2⟩ := fz3_ BK196.out
    try go_wp2_with (first | ((with_reducible refine gate_callee (f := 21) rfl ?_); refine goesL_ (some 34) rfl rfl Tryd.func21 (by kernel_rfl) rfl #[.agg #[.string t214, .int .i64 t215, .bool t216]] rfl (by (try simp only [List.map_toArray, List.map_cons, List.map_nil]); first | done | rfl | (simp only [List.length_drop, List.length_take]; rfl)) ?_; (with_reducible refine (computusref26_Number.calls kj2 t214 t215 t216 t218 t219 t220 t221 _ A35.out).mono ?_); rintro e w48 ⟨rfl, hb⟩; refine ⟨_, rfl, ?_⟩; replace HO213 := am_ (Kd.R_below (by (with_reducible repeat (first | apply Kd.R_alloc | apply Kd.R_drewN | apply Kd.R_drew)); exact (Kd.R_mono (Kd.R_mono (Kd.R_far (p := ⟨gb199, 4, none⟩) (Kd.R_far (p := ⟨gb196, 2, none⟩) (Kd.R_far (p := ⟨gb196, 1, none⟩) (Kd.R_far (p := ⟨gb196, 0, none⟩) (Kd.R_types (Kd.R_types HO213.out BK196.out (by decide)) BK199.out (by decide)) (fun _ hk => hk.1.2) (.string t214)) (fun _ hk => hk.1.2) (.int .i64 t215)) (fun _ hk => hk.1.2) (.bool t216)) (fun _ hk => hk.2) (.int .i64 t217)) (fun _ h_ => h_.1)) (fun _ h_ => h_.1))) hb); replace BK196 := am_ (blk_below (g := gb196) (o := .cells #[.string t214, .int .i64 t215, .bool t216] 52 (0, 0)) (by refine bp_ ?_; refine blk_far ?_ NB196_199.out _; refine bp_ ?_; refine blk_put (cs := #[.string t214, .int .i64 t215, .bool x197002_2]) ?_ 2 _ rfl; refine bp_ ?_; refine blk_put (cs := #[.string t214, .int .i64 x197001_2, .bool x197002_2]) ?_ 1 _ rfl; refine bp_ ?_; refine blk_put (cs := #[.string x197000_2, .int .i64 x197001_2, .bool x197002_2]) ?_ 0 _ rfl; exact bk_ BK196.out) hb); replace BK197 := am_ (blk_below (g := gb197) (o := .cells #[.string (⟨#[]⟩ : ByteArray), .int .i64 0, .bool false] 52 (0, 0)) (by refine bp_ ?_; refine blk_far ?_ NB197_199.out _; refine bp_ ?_; refine blk_far ?_ NB197_196.out _; refine bp_ ?_; refine blk_far ?_ NB197_196.out _; refine bp_ ?_; refine blk_far ?_ NB197_196.out _; exact bk_ BK197.out) hb); replace BK198 := am_ (blk_below (g := gb198) (o := .cells #[.int .i64 0, .int .i64 0, .int .i64 0, .int .i64 0, .int .i64 0, .int .i64 0] 39 (0, 0)) (by refine bp_ ?_; refine blk_far ?_ NB198_199.out _; refine bp_ ?_; refine blk_far ?_ NB198_196.out _; refine bp_ ?_; refine blk_far ?_ NB198_196.out _; refine bp_ ?_; refine blk_far ?_ NB198_196.out _; exact bk_ BK198.out) hb); replace BK199 := am_ (blk_below (g := gb199) (o := .cells #[.int .i64 (wrap64 (t206 + 1)), .int .i64 0, .int .i64 0, .int .i64 x200003_2, .int .i64 t217, .int .i64 0] 39 (0, 0)) (by refine bp_ ?_; refine blk_put (cs := #[.int .i64 (wrap64 (t206 + 1)), .int .i64 0, .int .i64 0, .int .i64 x200003_2, .int .i64 0, .int .i64 0]) ?_ 4 _ rfl; refine bp_ ?_; refine blk_far ?_ NB199_196.out _; refine bp_ ?_; refine blk_far ?_ NB199_196.out _; refine bp_ ?_; refine blk_far ?_ NB199_196.out _; exact bk_ BK199.out) hb); replace HB := bt_ hb; (try clear hb); (try clear hk); obtain ⟨hcz49_0, hcz49_1, hcz49_2⟩ := cz3_ BK196.out; obtain ⟨hfz49_0, hfz49_1, hfz49_2⟩ := fz3_ BK196.out; have hnb50 := NB199_197.out; have hnc50 := NB197_199.out; have hnb51 := NB199_198.out; have hnc51 := NB198_199.out; obtain ⟨hcz52_0, hcz52_1, hcz52_2, hcz52_3, hcz52_4, hcz52_5⟩ := cz6_ BK199.out; obtain ⟨hfz52_0, hfz52_1, hfz52_2, hfz52_3, hfz52_4, hfz52_5⟩ := fz6_ BK199.out))
    go_meet
    case rel => exact ⟨_, (t218), (t219), (t220), (t217), (t221), H', ⟨by have := HJ2.out; first | omega | exact Nat.le_refl _⟩, ⟨by refine bp_ ?_; refine blk_far ?_ NB196_199.out _; refine bp_ ?_; refine blk_put (cs := #[.string t218, .int .i64 t219, .bool t216]) ?_ 2 _ rfl; refine bp_ ?_; refine blk_put (cs := #[.string t218, .int .i64 t215, .bool t216]) ?_ 1 _ rfl; refine bp_ ?_; refine blk_put (cs := #[.string t214, .int .i64 t215, .bool t216]) ?_ 0 _ rfl; exact bk_ BK196.out⟩, ⟨by refine bp_ ?_; refine blk_far ?_ NB197_199.out _; refine bp_ ?_; refine blk_far ?_ NB197_196.out _; refine bp_ ?_; refine blk_far ?_ NB197_196.out _; refine bp_ ?_; refine blk_far ?_ NB197_196.out _; exact bk_ BK197.out⟩, ⟨by refine bp_ ?_; refine blk_far ?_ NB198_199.out _; refine bp_ ?_; refine blk_far ?_ NB198_196.out _; refine bp_ ?_; refine blk_far ?_ NB198_196.out _; refine bp_ ?_; refine blk_far ?_ NB198_196.out _; exact bk_ BK198.out⟩, ⟨by refine bp_ ?_; refine blk_put (cs := #[.int .i64 (wrap64 (t206 + 1)), .int .i64 0, .int .i64 0, .int .i64 x200003_2, .int .i64 t217, .int .i64 0]) ?_ 5 _ rfl; refine bp_ ?_; refine blk_far ?_ NB199_196.out _; refine bp_ ?_; refine blk_far ?_ NB199_196.out _; refine bp_ ?_; refine blk_far ?_ NB199_196.out _; exact bk_ BK199.out⟩, ⟨bh_⟩⟩
   case rest =>
    clear HC31
    obtain ⟨kq, x197000_30, x197001_30, x197002_30, x200004_30, x200005_30, HA, HJ30, BK196, BK197, BK198, BK199, HB⟩ := hcut
    cases kq with
    | zero => exact absurd HA.out (by simp [computusref26_readAnchor.j1])
    | succ kj30 =>
     have H := HA.out
     clear HA
     simp only [computusref26_readAnchor.j1] at H
     by_cases c53 : t206 = 1
     ·rw [if_pos c53] at H
      have c53b0 : (t206 == 1) = true := beq_iff_eq.mpr c53
      have c53b1 : (t206 != 1) = false := bne_eq_false_iff_eq.mpr c53
      clear c53
      obtain ⟨y222, hy222⟩ : ∃ y_ : List ByteArray, y_ = (([(⟨#[10]⟩ : ByteArray)] : List ByteArray)) := ⟨_, rfl⟩
      replace H : ((computusref25_Word.f kj30 x197000_30 x197001_30 x197002_30 y222).bind fun bt225 => (some (bt225.1, bt225.2.1, bt225.2.2.1, (wrap64 (t206 + 1)), 0, 0, x200003_2, x200004_30, x200005_30))) = some (r1, r2, r3, r4, r5, r6, r7, r8, r9) := by first | (rw [hy222]; with_reducible exact H) | (have H2_ := (Option.bind_some _ _).symm.trans H; rw [hy222]; with_reducible exact H2_) | (have H2_ := (Option.bind_some _ _).symm.trans H; with_reducible exact H2_) | with_reducible exact H | (rw [hy222]; exact H) | exact H
      have Ny222 := am_ hy222
      clear hy222
      obtain ⟨⟨t225, t226, t227, t228⟩, A54, H⟩ := bs_ H
      dsimp only at H
      simp only [Option.some.injEq, Prod.mk.injEq] at H
      obtain ⟨rfl, rfl, rfl, rfl, rfl, rfl, rfl, rfl, rfl⟩ := H
      have hnb55 := NB196_197.out
      have hnc55 := NB197_196.out
      have hnb56 := NB196_198.out
      have hnc56 := NB198_196.out
      have hnb57 := NB196_199.out
      have hnc57 := NB199_196.out
      obtain ⟨hcz58_0, hcz58_1, hcz58_2⟩ := cz3_ BK196.out
      obtain ⟨hfz58_0, hfz58_1, hfz58_2⟩ := fz3_ BK196.out
      try go_wp2_with (first | ((with_reducible refine gate_dst (N := 54) rfl ?_); refine Kd.R_lit Kd.string _ 9 ?hg (N := 54) ?hd (xs := ([(⟨#[10]⟩ : ByteArray)] : List ByteArray)) (inner := [.string (⟨#[10]⟩ : ByteArray)]) (ok := fun _ => True) (okp := fun _ => True) ?hr ?hp (fun _ hk => hk) trivial (Below.refl _ _) (Nat.le_refl _) (by simp) ?_; (case hd => rfl); (case hg => rfl); (case hr => first | (go_simp; done) | (go_simp; rfl)); (case hp => exact (Reps.one (show Kd.M Kd.string _ _ _ (⟨#[10]⟩ : ByteArray) [.string (⟨#[10]⟩ : ByteArray)] from rfl) (Reps.none _ _))); intro v223 w59 ho60 hb hg_ hnew_; clear hg_ hnew_; (first | rw [← Ny222.out] at ho60 | (simp only [Int.reduceToNat] at ho60; rw [← Ny222.out] at ho60)); have HO224 := am_ (Kd.R_lower ho60 bz_); replace BK196 := bw_ BK196 hb; replace BK197 := bw_ BK197 hb; replace BK198 := bw_ BK198 hb; replace BK199 := bw_ BK199 hb; replace HB := bt_ hb; clear hb ho60; obtain ⟨Ao61, co61, eo61⟩ := Kd.R_slice HO224.out; subst eo61) | ((with_reducible refine gate_callee (f := 20) rfl ?_); refine goesL_ (some 55) rfl rfl Tryd.func20 (by kernel_rfl) rfl #[.agg #[.string x197000_30, .int .i64 x197001_30, .bool x197002_30], .slice Ao61 y222.length co61] rfl (by (try simp only [List.map_toArray, List.map_cons, List.map_nil]); first | done | rfl | (simp only [List.length_drop, List.length_take]; rfl)) ?_; (with_reducible refine (computusref25_Word.calls kj30 x197000_30 x197001_30 x197002_30 _ _ y222 t225 t226 t227 t228 _ ?side1 ?side2 A54.out).mono ?_); (case side1 => exact ck_ (Kd.R_reads' HO224.out).2.2); (case side2 => exact (Kd.R_reads' HO224.out).2.1); rintro e w62 ⟨rfl, hb⟩; refine ⟨_, rfl, ?_⟩; replace HO224 := rw_ HO224 hb; replace BK196 := bw_ BK196 hb; replace BK197 := bw_ BK197 hb; replace BK198 := bw_ BK198 hb; replace BK199 := bw_ BK199 hb; replace HB := bt_ hb; (try clear hb); (try clear hk); obtain ⟨hcz63_0, hcz63_1, hcz63_2⟩ := cz3_ BK196.out; obtain ⟨hfz63_0, hfz63_1, hfz63_2⟩ := fz3_ BK196.out))
      have n0_ : Aside0 (Kd.R Kd.string 9 (((w62.setCell ⟨gb196, 0, none⟩ (.string t225)).setCell ⟨gb196, 1, none⟩ (.int .i64 t226)).setCell ⟨gb196, 2, none⟩ (.bool t227)) w.heap.size (fun _ => True) (.slice Ao61 y222.length co61) y222) := ⟨fa_ HO224 BK196⟩
      have n1_ : Aside0 ((((w62.setCell ⟨gb196, 0, none⟩ (.string t225)).setCell ⟨gb196, 1, none⟩ (.int .i64 t226)).setCell ⟨gb196, 2, none⟩ (.bool t227)).heap[gb196]? = some (.cells #[.string t225, .int .i64 t226, .bool t227] 52 (0, 0))) := ⟨by refine bp_ ?_; refine blk_put (cs := #[.string t225, .int .i64 t226, .bool x197002_30]) ?_ 2 _ rfl; refine bp_ ?_; refine blk_put (cs := #[.string t225, .int .i64 x197001_30, .bool x197002_30]) ?_ 1 _ rfl; refine bp_ ?_; refine blk_put (cs := #[.string x197000_30, .int .i64 x197001_30, .bool x197002_30]) ?_ 0 _ rfl; exact bk_ BK196.out⟩
      have n2_ : Aside0 ((((w62.setCell ⟨gb196, 0, none⟩ (.string t225)).setCell ⟨gb196, 1, none⟩ (.int .i64 t226)).setCell ⟨gb196, 2, none⟩ (.bool t227)).heap[gb197]? = some (.cells #[.string (⟨#[]⟩ : ByteArray), .int .i64 0, .bool false] 52 (0, 0))) := ⟨bf1_ NB197_196 BK197⟩
      have n3_ : Aside0 ((((w62.setCell ⟨gb196, 0, none⟩ (.string t225)).setCell ⟨gb196, 1, none⟩ (.int .i64 t226)).setCell ⟨gb196, 2, none⟩ (.bool t227)).heap[gb198]? = some (.cells #[.int .i64 0, .int .i64 0, .int .i64 0, .int .i64 0, .int .i64 0, .int .i64 0] 39 (0, 0))) := ⟨bf1_ NB198_196 BK198⟩
      have n4_ : Aside0 ((((w62.setCell ⟨gb196, 0, none⟩ (.string t225)).setCell ⟨gb196, 1, none⟩ (.int .i64 t226)).setCell ⟨gb196, 2, none⟩ (.bool t227)).heap[gb199]? = some (.cells #[.int .i64 (wrap64 (t206 + 1)), .int .i64 0, .int .i64 0, .int .i64 x200003_2, .int .i64 x200004_30, .int .i64 x200005_30] 39 (0, 0))) := ⟨bf1_ NB199_196 BK199⟩
      have n5_ : Aside0 (Below w.heap.size w (((w62.setCell ⟨gb196, 0, none⟩ (.string t225)).setCell ⟨gb196, 1, none⟩ (.int .i64 t226)).setCell ⟨gb196, 2, none⟩ (.bool t227))) := ⟨bh_⟩
      (try clear HO224)
      (try clear BK196)
      (try clear BK197)
      (try clear BK198)
      (try clear BK199)
      (try clear HB)
      generalize (((w62.setCell ⟨gb196, 0, none⟩ (.string t225)).setCell ⟨gb196, 1, none⟩ (.int .i64 t226)).setCell ⟨gb196, 2, none⟩ (.bool t227)) = w64 at n0_ n1_ n2_ n3_ n4_ n5_ ⊢
      have HO224 := n0_
      have BK196 := n1_
      have BK197 := n2_
      have BK198 := n3_
      have BK199 := n4_
      have HB := n5_
      clear n0_ n1_ n2_ n3_ n4_ n5_
      replace HO224 := am_ (Kd.R_drew HO224.out)
      replace BK196 := am_ (blk_drew BK196.out)
      replace BK197 := am_ (blk_drew BK197.out)
      replace BK198 := am_ (blk_drew BK198.out)
      replace BK199 := am_ (blk_drew BK199.out)
      replace HB := am_ (below_drew1 HB.out)
      refine start_ (n := 4) (S := fun w' => w'.cell? ⟨gb196, 0, none⟩ = some (.string t225) ∧ w'.cell? ⟨gb196, 1, none⟩ = some (.int .i64 t226) ∧ w'.cell? ⟨gb196, 2, none⟩ = some (.bool t227) ∧ w'.cell? ⟨gb199, 0, none⟩ = some (.int .i64 (wrap64 (t206 + 1))) ∧ w'.cell? ⟨gb199, 1, none⟩ = some (.int .i64 0) ∧ w'.cell? ⟨gb199, 2, none⟩ = some (.int .i64 0) ∧ w'.cell? ⟨gb199, 3, none⟩ = some (.int .i64 x200003_2) ∧ w'.cell? ⟨gb199, 4, none⟩ = some (.int .i64 x200004_30) ∧ w'.cell? ⟨gb199, 5, none⟩ = some (.int .i64 x200005_30)) (ds := []) (bf_ 4 0) (by kernel_rfl) rfl rfl ⟨(blk_cell BK196.out 0).trans rfl, (blk_cell BK196.out 1).trans rfl, (blk_cell BK196.out 2).trans rfl, (blk_cell BK199.out 0).trans rfl, (blk_cell BK199.out 1).trans rfl, (blk_cell BK199.out 2).trans rfl, (blk_cell BK199.out 3).trans rfl, (blk_cell BK199.out 4).trans rfl, (blk_cell BK199.out 5).trans rfl⟩ (fun hHeld => ?_)
      generalize w64.drew = w65 at HO224 BK196 BK197 BK198 BK199 HB hHeld ⊢
      refine take_ (i := 0) (N := some 58) (v := ?_) (a' := ?_) (bf_ 4 1) rfl rfl (by kernel_rfl) (fun _ _ _ h => h) (Or.inl ⟨by rfl, ?_⟩) hHeld ?_ ?_
      rotate_left
      ·rintro w' ⟨s0, s1, s2, s3, s4, s5, s6, s7, s8⟩
       go_simp
       with_reducible rfl
      rotate_left
      ·simp only [Act.put, sA_, sZ_, sS_, i64_w, i32_w]
       rfl
      refine take_ (i := 1) (N := some 59) (v := ?_) (a' := ?_) (bf_ 4 3) rfl rfl (by kernel_rfl) (fun _ _ _ h => h) (Or.inl ⟨by rfl, ?_⟩) hHeld ?_ ?_
      rotate_left
      ·rintro w' ⟨s0, s1, s2, s3, s4, s5, s6, s7, s8⟩
       go_simp
       with_reducible rfl
      rotate_left
      ·simp only [Act.put, sA_, sZ_, sS_, i64_w, i32_w]
       rfl
      refine one_ (i := 2) (N := none) (bf_ 4 7) rfl rfl (by kernel_rfl) (by decide) (fun K hK => ?_)
      have hs66 : w65.cell? ⟨gb197, 0, none⟩ = some (.string (⟨#[]⟩ : ByteArray)) := (blk_cell BK197.out 0).trans rfl
      have hfs66 := blk_frozen BK197.out 0
      have hns66_0 := NB196_197.out
      have hns66_2 := NB198_197.out
      have hns66_3 := NB199_197.out
      have hms66_0 := NB197_196.out
      have hms66_2 := NB197_198.out
      have hms66_3 := NB197_199.out
      have hs67 : w65.cell? ⟨gb197, 1, none⟩ = some (.int .i64 0) := (blk_cell BK197.out 1).trans rfl
      have hfs67 := blk_frozen BK197.out 1
      have hns67_0 := NB196_197.out
      have hns67_2 := NB198_197.out
      have hns67_3 := NB199_197.out
      have hms67_0 := NB197_196.out
      have hms67_2 := NB197_198.out
      have hms67_3 := NB197_199.out
      have hs68 : w65.cell? ⟨gb197, 2, none⟩ = some (.bool false) := (blk_cell BK197.out 2).trans rfl
      have hfs68 := blk_frozen BK197.out 2
      have hns68_0 := NB196_197.out
      have hns68_2 := NB198_197.out
      have hns68_3 := NB199_197.out
      have hms68_0 := NB197_196.out
      have hms68_2 := NB197_198.out
      have hms68_3 := NB197_199.out
      refine skip_ (w1 := ?_) (by rfl) rfl ?_ ?_
      rotate_left
      ·go_simp
       rfl
      refine hK.out _ _ ⟨((cell_far (p := ⟨gb197, _, none⟩) NB196_197.out _).trans (((cell_far (p := ⟨gb197, _, none⟩) NB196_197.out _).trans (((cell_far (p := ⟨gb197, _, none⟩) NB196_197.out _).trans (hHeld.1)))))), ((cell_far (p := ⟨gb197, _, none⟩) NB196_197.out _).trans (((cell_far (p := ⟨gb197, _, none⟩) NB196_197.out _).trans (((cell_far (p := ⟨gb197, _, none⟩) NB196_197.out _).trans (hHeld.2.1)))))), ((cell_far (p := ⟨gb197, _, none⟩) NB196_197.out _).trans (((cell_far (p := ⟨gb197, _, none⟩) NB196_197.out _).trans (((cell_far (p := ⟨gb197, _, none⟩) NB196_197.out _).trans (hHeld.2.2.1)))))), ((cell_far (p := ⟨gb197, _, none⟩) NB199_197.out _).trans (((cell_far (p := ⟨gb197, _, none⟩) NB199_197.out _).trans (((cell_far (p := ⟨gb197, _, none⟩) NB199_197.out _).trans (hHeld.2.2.2.1)))))), ((cell_far (p := ⟨gb197, _, none⟩) NB199_197.out _).trans (((cell_far (p := ⟨gb197, _, none⟩) NB199_197.out _).trans (((cell_far (p := ⟨gb197, _, none⟩) NB199_197.out _).trans (hHeld.2.2.2.2.1)))))), ((cell_far (p := ⟨gb197, _, none⟩) NB199_197.out _).trans (((cell_far (p := ⟨gb197, _, none⟩) NB199_197.out _).trans (((cell_far (p := ⟨gb197, _, none⟩) NB199_197.out _).trans (hHeld.2.2.2.2.2.1)))))), ((cell_far (p := ⟨gb197, _, none⟩) NB199_197.out _).trans (((cell_far (p := ⟨gb197, _, none⟩) NB199_197.out _).trans (((cell_far (p := ⟨gb197, _, none⟩) NB199_197.out _).trans (hHeld.2.2.2.2.2.2.1)))))), ((cell_far (p := ⟨gb197, _, none⟩) NB199_197.out _).trans (((cell_far (p := ⟨gb197, _, none⟩) NB199_197.out _).trans (((cell_far (p := ⟨gb197, _, none⟩) NB199_197.out _).trans (hHeld.2.2.2.2.2.2.2.1)))))), ((cell_far (p := ⟨gb197, _, none⟩) NB199_197.out _).trans (((cell_far (p := ⟨gb197, _, none⟩) NB199_197.out _).trans (((cell_far (p := ⟨gb197, _, none⟩) NB199_197.out _).trans (hHeld.2.2.2.2.2.2.2.2))))))⟩ (fun hHeld => ?_)
      clear hK K
      refine one_ (i := 3) (N := none) (bf_ 4 15) rfl rfl (by kernel_rfl) (by decide) (fun K hK => ?_)
      have hs69 : w65.cell? ⟨gb198, 0, none⟩ = some (.int .i64 0) := (blk_cell BK198.out 0).trans rfl
      have hfs69 := blk_frozen BK198.out 0
      have hns69_0 := NB196_198.out
      have hns69_1 := NB197_198.out
      have hns69_3 := NB199_198.out
      have hms69_0 := NB198_196.out
      have hms69_1 := NB198_197.out
      have hms69_3 := NB198_199.out
      have hs70 : w65.cell? ⟨gb198, 1, none⟩ = some (.int .i64 0) := (blk_cell BK198.out 1).trans rfl
      have hfs70 := blk_frozen BK198.out 1
      have hns70_0 := NB196_198.out
      have hns70_1 := NB197_198.out
      have hns70_3 := NB199_198.out
      have hms70_0 := NB198_196.out
      have hms70_1 := NB198_197.out
      have hms70_3 := NB198_199.out
      have hs71 : w65.cell? ⟨gb198, 2, none⟩ = some (.int .i64 0) := (blk_cell BK198.out 2).trans rfl
      have hfs71 := blk_frozen BK198.out 2
      have hns71_0 := NB196_198.out
      have hns71_1 := NB197_198.out
      have hns71_3 := NB199_198.out
      have hms71_0 := NB198_196.out
      have hms71_1 := NB198_197.out
      have hms71_3 := NB198_199.out
      have hs72 : w65.cell? ⟨gb198, 3, none⟩ = some (.int .i64 0) := (blk_cell BK198.out 3).trans rfl
      have hfs72 := blk_frozen BK198.out 3
      have hns72_0 := NB196_198.out
      have hns72_1 := NB197_198.out
      have hns72_3 := NB199_198.out
      have hms72_0 := NB198_196.out
      have hms72_1 := NB198_197.out
      have hms72_3 := NB198_199.out
      have hs73 : w65.cell? ⟨gb198, 4, none⟩ = some (.int .i64 0) := (blk_cell BK198.out 4).trans rfl
      have hfs73 := blk_frozen BK198.out 4
      have hns73_0 := NB196_198.out
      have hns73_1 := NB197_198.out
      have hns73_3 := NB199_198.out
      have hms73_0 := NB198_196.out
      have hms73_1 := NB198_197.out
      have hms73_3 := NB198_199.out
      have hs74 : w65.cell? ⟨gb198, 5, none⟩ = some (.int .i64 0) := (blk_cell BK198.out 5).trans rfl
      have hfs74 := blk_frozen BK198.out 5
      have hns74_0 := NB196_198.out
      have hns74_1 := NB197_198.out
      have hns74_3 := NB199_198.out
      have hms74_0 := NB198_196.out
      have hms74_1 := NB198_197.out
      have hms74_3 := NB198_199.out
      refine skip_ (w1 := ?_) (by rfl) rfl ?_ ?_
      rotate_left
      ·go_simp
       rfl
      refine hK.out _ _ ⟨((cell_far (p := ⟨gb198, _, none⟩) NB196_198.out _).trans (((cell_far (p := ⟨gb198, _, none⟩) NB196_198.out _).trans (((cell_far (p := ⟨gb198, _, none⟩) NB196_198.out _).trans (((cell_far (p := ⟨gb198, _, none⟩) NB196_198.out _).trans (((cell_far (p := ⟨gb198, _, none⟩) NB196_198.out _).trans (((cell_far (p := ⟨gb198, _, none⟩) NB196_198.out _).trans (hHeld.1)))))))))))), ((cell_far (p := ⟨gb198, _, none⟩) NB196_198.out _).trans (((cell_far (p := ⟨gb198, _, none⟩) NB196_198.out _).trans (((cell_far (p := ⟨gb198, _, none⟩) NB196_198.out _).trans (((cell_far (p := ⟨gb198, _, none⟩) NB196_198.out _).trans (((cell_far (p := ⟨gb198, _, none⟩) NB196_198.out _).trans (((cell_far (p := ⟨gb198, _, none⟩) NB196_198.out _).trans (hHeld.2.1)))))))))))), ((cell_far (p := ⟨gb198, _, none⟩) NB196_198.out _).trans (((cell_far (p := ⟨gb198, _, none⟩) NB196_198.out _).trans (((cell_far (p := ⟨gb198, _, none⟩) NB196_198.out _).trans (((cell_far (p := ⟨gb198, _, none⟩) NB196_198.out _).trans (((cell_far (p := ⟨gb198, _, none⟩) NB196_198.out _).trans (((cell_far (p := ⟨gb198, _, none⟩) NB196_198.out _).trans (hHeld.2.2.1)))))))))))), ((cell_far (p := ⟨gb198, _, none⟩) NB199_198.out _).trans (((cell_far (p := ⟨gb198, _, none⟩) NB199_198.out _).trans (((cell_far (p := ⟨gb198, _, none⟩) NB199_198.out _).trans (((cell_far (p := ⟨gb198, _, none⟩) NB199_198.out _).trans (((cell_far (p := ⟨gb198, _, none⟩) NB199_198.out _).trans (((cell_far (p := ⟨gb198, _, none⟩) NB199_198.out _).trans (hHeld.2.2.2.1)))))))))))), ((cell_far (p := ⟨gb198, _, none⟩) NB199_198.out _).trans (((cell_far (p := ⟨gb198, _, none⟩) NB199_198.out _).trans (((cell_far (p := ⟨gb198, _, none⟩) NB199_198.out _).trans (((cell_far (p := ⟨gb198, _, none⟩) NB199_198.out _).trans (((cell_far (p := ⟨gb198, _, none⟩) NB199_198.out _).trans (((cell_far (p := ⟨gb198, _, none⟩) NB199_198.out _).trans (hHeld.2.2.2.2.1)))))))))))), ((cell_far (p := ⟨gb198, _, none⟩) NB199_198.out _).trans (((cell_far (p := ⟨gb198, _, none⟩) NB199_198.out _).trans (((cell_far (p := ⟨gb198, _, none⟩) NB199_198.out _).trans (((cell_far (p := ⟨gb198, _, none⟩) NB199_198.out _).trans (((cell_far (p := ⟨gb198, _, none⟩) NB199_198.out _).trans (((cell_far (p := ⟨gb198, _, none⟩) NB199_198.out _).trans (hHeld.2.2.2.2.2.1)))))))))))), ((cell_far (p := ⟨gb198, _, none⟩) NB199_198.out _).trans (((cell_far (p := ⟨gb198, _, none⟩) NB199_198.out _).trans (((cell_far (p := ⟨gb198, _, none⟩) NB199_198.out _).trans (((cell_far (p := ⟨gb198, _, none⟩) NB199_198.out _).trans (((cell_far (p := ⟨gb198, _, none⟩) NB199_198.out _).trans (((cell_far (p := ⟨gb198, _, none⟩) NB199_198.out _).trans (hHeld.2.2.2.2.2.2.1)))))))))))), ((cell_far (p := ⟨gb198, _, none⟩) NB199_198.out _).trans (((cell_far (p := ⟨gb198, _, none⟩) NB199_198.out _).trans (((cell_far (p := ⟨gb198, _, none⟩) NB199_198.out _).trans (((cell_far (p := ⟨gb198, _, none⟩) NB199_198.out _).trans (((cell_far (p := ⟨gb198, _, none⟩) NB199_198.out _).trans (((cell_far (p := ⟨gb198, _, none⟩) NB199_198.out _).trans (hHeld.2.2.2.2.2.2.2.1)))))))))))), ((cell_far (p := ⟨gb198, _, none⟩) NB199_198.out _).trans (((cell_far (p := ⟨gb198, _, none⟩) NB199_198.out _).trans (((cell_far (p := ⟨gb198, _, none⟩) NB199_198.out _).trans (((cell_far (p := ⟨gb198, _, none⟩) NB199_198.out _).trans (((cell_far (p := ⟨gb198, _, none⟩) NB199_198.out _).trans (((cell_far (p := ⟨gb198, _, none⟩) NB199_198.out _).trans (hHeld.2.2.2.2.2.2.2.2))))))))))))⟩ (fun hHeld => ?_)
      clear hK K
      refine done_ (by kernel_rfl) ?_
      try go_wp2
      refine bodyPost_ret (results_cc rfl _ _ gb197 gb198 52 39 #[.string t225, .int .i64 t226, .bool t227] #[.int .i64 (wrap64 (t206 + 1)), .int .i64 0, .int .i64 0, .int .i64 x200003_2, .int .i64 x200004_30, .int .i64 x200005_30] (0, 0) (0, 0) _ _ rfl (by refine bp_ ?_; refine blk_far ?_ NB197_198.out _; refine bp_ ?_; refine blk_far ?_ NB197_198.out _; refine bp_ ?_; refine blk_far ?_ NB197_198.out _; refine bp_ ?_; refine blk_far ?_ NB197_198.out _; refine bp_ ?_; refine blk_far ?_ NB197_198.out _; refine bp_ ?_; refine blk_far ?_ NB197_198.out _; refine bp_ ?_; refine blk_put (cs := #[.string t225, .int .i64 t226, .bool false]) ?_ 2 _ rfl; refine bp_ ?_; refine blk_put (cs := #[.string t225, .int .i64 0, .bool false]) ?_ 1 _ rfl; refine bp_ ?_; refine blk_put (cs := #[.string (⟨#[]⟩ : ByteArray), .int .i64 0, .bool false]) ?_ 0 _ rfl; exact bk_ BK197.out) Tryd.underlying52 rfl (by kernel_rfl) rfl (by refine bp_ ?_; refine blk_put (cs := #[.int .i64 (wrap64 (t206 + 1)), .int .i64 0, .int .i64 0, .int .i64 x200003_2, .int .i64 x200004_30, .int .i64 0]) ?_ 5 _ rfl; refine bp_ ?_; refine blk_put (cs := #[.int .i64 (wrap64 (t206 + 1)), .int .i64 0, .int .i64 0, .int .i64 x200003_2, .int .i64 0, .int .i64 0]) ?_ 4 _ rfl; refine bp_ ?_; refine blk_put (cs := #[.int .i64 (wrap64 (t206 + 1)), .int .i64 0, .int .i64 0, .int .i64 0, .int .i64 0, .int .i64 0]) ?_ 3 _ rfl; refine bp_ ?_; refine blk_put (cs := #[.int .i64 (wrap64 (t206 + 1)), .int .i64 0, .int .i64 0, .int .i64 0, .int .i64 0, .int .i64 0]) ?_ 2 _ rfl; refine bp_ ?_; refine blk_put (cs := #[.int .i64 (wrap64 (t206 + 1)), .int .i64 0, .int .i64 0, .int .i64 0, .int .i64 0, .int .i64 0]) ?_ 1 _ rfl; refine bp_ ?_; refine blk_put (cs := #[.int .i64 0, .int .i64 0, .int .i64 0, .int .i64 0, .int .i64 0, .int .i64 0]) ?_ 0 _ rfl; refine bp_ ?_; refine blk_far ?_ NB198_197.out _; refine bp_ ?_; refine blk_far ?_ NB198_197.out _; refine bp_ ?_; refine blk_far ?_ NB198_197.out _; exact bk_ BK198.out) Tryd.underlying39 rfl (by kernel_rfl)) rfl ?_
      exact rt_
     rw [if_neg c53] at H
     have c53b0 : (t206 == 1) = false := beq_eq_false_iff_ne.mpr c53
     have c53b1 : (t206 != 1) = true := bne_iff_ne.mpr c53
     obtain ⟨⟨t229, t230, t231, t232⟩, A75, H⟩ := bs_ H
     dsimp only at H
     obtain ⟨⟨t233, t234, t235, t236⟩, A76, H⟩ := bs_ H
     dsimp only at H
     obtain ⟨y237, hy237⟩ : ∃ y_ : List ByteArray, y_ = (([(⟨#[10]⟩ : ByteArray)] : List ByteArray)) := ⟨_, rfl⟩
     replace H : ((computusref25_Word.f kj30 t233 t234 t235 y237).bind fun bt240 => (some (bt240.1, bt240.2.1, bt240.2.2.1, (wrap64 (t206 + 1)), t232, t236, x200003_2, x200004_30, x200005_30))) = some (r1, r2, r3, r4, r5, r6, r7, r8, r9) := by first | (rw [hy237]; with_reducible exact H) | (have H2_ := (Option.bind_some _ _).symm.trans H; rw [hy237]; with_reducible exact H2_) | (have H2_ := (Option.bind_some _ _).symm.trans H; with_reducible exact H2_) | with_reducible exact H | (rw [hy237]; exact H) | exact H
     have Ny237 := am_ hy237
     clear hy237
     obtain ⟨⟨t240, t241, t242, t243⟩, A77, H⟩ := bs_ H
     dsimp only at H
     simp only [Option.some.injEq, Prod.mk.injEq] at H
     obtain ⟨rfl, rfl, rfl, rfl, rfl, rfl, rfl, rfl, rfl⟩ := H
     have hnb78 := NB196_197.out
     have hnc78 := NB197_196.out
     have hnb79 := NB196_198.out
     have hnc79 := NB198_196.out
     have hnb80 := NB196_199.out
     have hnc80 := NB199_196.out
     obtain ⟨hcz81_0, hcz81_1, hcz81_2⟩ := cz3_ BK196.out
     obtain ⟨hfz81_0, hfz81_1, hfz81_2⟩ := fz3_ BK196.out
     try go_wp2_with (first | ((with_reducible refine gate_callee (f := 21) rfl ?_); refine goesL_ (some 42) rfl rfl Tryd.func21 (by kernel_rfl) rfl #[.agg #[.string x197000_30, .int .i64 x197001_30, .bool x197002_30]] rfl (by (try simp only [List.map_toArray, List.map_cons, List.map_nil]); first | done | rfl | (simp only [List.length_drop, List.length_take]; rfl)) ?_; (with_reducible refine (computusref26_Number.calls kj30 x197000_30 x197001_30 x197002_30 t229 t230 t231 t232 _ A75.out).mono ?_); rintro e w82 ⟨rfl, hb⟩; refine ⟨_, rfl, ?_⟩; replace BK196 := bw_ BK196 hb; replace BK197 := bw_ BK197 hb; replace BK198 := bw_ BK198 hb; replace BK199 := bw_ BK199 hb; replace HB := bt_ hb; (try clear hb); obtain ⟨hcz83_0, hcz83_1, hcz83_2⟩ := cz3_ BK196.out; obtain ⟨hfz83_0, hfz83_1, hfz83_2⟩ := fz3_ BK196.out; have hnb84 := NB199_197.out; have hnc84 := NB197_199.out; have hnb85 := NB199_198.out; have hnc85 := NB198_199.out; obtain ⟨hcz86_0, hcz86_1, hcz86_2, hcz86_3, hcz86_4, hcz86_5⟩ := cz6_ BK199.out; obtain ⟨hfz86_0, hfz86_1, hfz86_2, hfz86_3, hfz86_4, hfz86_5⟩ := fz6_ BK199.out) | ((with_reducible refine gate_callee (f := 21) rfl ?_); refine goesL_ (some 48) rfl rfl Tryd.func21 (by kernel_rfl) rfl #[.agg #[.string t229, .int .i64 t230, .bool t231]] rfl (by (try simp only [List.map_toArray, List.map_cons, List.map_nil]); first | done | rfl | (simp only [List.length_drop, List.length_take]; rfl)) ?_; (with_reducible refine (computusref26_Number.calls kj30 t229 t230 t231 t233 t234 t235 t236 _ A76.out).mono ?_); rintro e w87 ⟨rfl, hb⟩; refine ⟨_, rfl, ?_⟩; replace BK196 := am_ (blk_below (g := gb196) (o := .cells #[.string t229, .int .i64 t230, .bool t231] 52 (0, 0)) (by refine bp_ ?_; refine blk_far ?_ NB196_199.out _; refine bp_ ?_; refine blk_put (cs := #[.string t229, .int .i64 t230, .bool x197002_30]) ?_ 2 _ rfl; refine bp_ ?_; refine blk_put (cs := #[.string t229, .int .i64 x197001_30, .bool x197002_30]) ?_ 1 _ rfl; refine bp_ ?_; refine blk_put (cs := #[.string x197000_30, .int .i64 x197001_30, .bool x197002_30]) ?_ 0 _ rfl; exact bk_ BK196.out) hb); replace BK197 := am_ (blk_below (g := gb197) (o := .cells #[.string (⟨#[]⟩ : ByteArray), .int .i64 0, .bool false] 52 (0, 0)) (by refine bp_ ?_; refine blk_far ?_ NB197_199.out _; refine bp_ ?_; refine blk_far ?_ NB197_196.out _; refine bp_ ?_; refine blk_far ?_ NB197_196.out _; refine bp_ ?_; refine blk_far ?_ NB197_196.out _; exact bk_ BK197.out) hb); replace BK198 := am_ (blk_below (g := gb198) (o := .cells #[.int .i64 0, .int .i64 0, .int .i64 0, .int .i64 0, .int .i64 0, .int .i64 0] 39 (0, 0)) (by refine bp_ ?_; refine blk_far ?_ NB198_199.out _; refine bp_ ?_; refine blk_far ?_ NB198_196.out _; refine bp_ ?_; refine blk_far ?_ NB198_196.out _; refine bp_ ?_; refine blk_far ?_ NB198_196.out _; exact bk_ BK198.out) hb); replace BK199 := am_ (blk_below (g := gb199) (o := .cells #[.int .i64 (wrap64 (t206 + 1)), .int .i64 t232, .int .i64 0, .int .i64 x200003_2, .int .i64 x200004_30, .int .i64 x200005_30] 39 (0, 0)) (by refine bp_ ?_; refine blk_put (cs := #[.int .i64 (wrap64 (t206 + 1)), .int .i64 0, .int .i64 0, .int .i64 x200003_2, .int .i64 x200004_30, .int .i64 x200005_30]) ?_ 1 _ rfl; refine bp_ ?_; refine blk_far ?_ NB199_196.out _; refine bp_ ?_; refine blk_far ?_ NB199_196.out _; refine bp_ ?_; refine blk_far ?_ NB199_196.out _; exact bk_ BK199.out) hb); replace HB := bt_ hb; (try clear hb); obtain ⟨hcz88_0, hcz88_1, hcz88_2⟩ := cz3_ BK196.out; obtain ⟨hfz88_0, hfz88_1, hfz88_2⟩ := fz3_ BK196.out; obtain ⟨hcz89_0, hcz89_1, hcz89_2, hcz89_3, hcz89_4, hcz89_5⟩ := cz6_ BK199.out; obtain ⟨hfz89_0, hfz89_1, hfz89_2, hfz89_3, hfz89_4, hfz89_5⟩ := fz6_ BK199.out) | ((with_reducible refine gate_dst (N := 54) rfl ?_); refine Kd.R_lit Kd.string _ 9 ?hg (N := 54) ?hd (xs := ([(⟨#[10]⟩ : ByteArray)] : List ByteArray)) (inner := [.string (⟨#[10]⟩ : ByteArray)]) (ok := fun _ => True) (okp := fun _ => True) ?hr ?hp (fun _ hk => hk) trivial (Below.refl _ _) (Nat.le_refl _) (by simp) ?_; (case hd => rfl); (case hg => rfl); (case hr => first | (go_simp; done) | (go_simp; rfl)); (case hp => exact (Reps.one (show Kd.M Kd.string _ _ _ (⟨#[10]⟩ : ByteArray) [.string (⟨#[10]⟩ : ByteArray)] from rfl) (Reps.none _ _))); intro v238 w90 ho91 hb hg_ hnew_; clear hg_ hnew_; (first | rw [← Ny237.out] at ho91 | (simp only [Int.reduceToNat] at ho91; rw [← Ny237.out] at ho91)); have HO239 := am_ (Kd.R_lower ho91 bz_); replace BK196 := am_ (blk_below (g := gb196) (o := .cells #[.string t233, .int .i64 t234, .bool t235] 52 (0, 0)) (by refine bp_ ?_; refine blk_far ?_ NB196_199.out _; refine bp_ ?_; refine blk_put (cs := #[.string t233, .int .i64 t234, .bool t231]) ?_ 2 _ rfl; refine bp_ ?_; refine blk_put (cs := #[.string t233, .int .i64 t230, .bool t231]) ?_ 1 _ rfl; refine bp_ ?_; refine blk_put (cs := #[.string t229, .int .i64 t230, .bool t231]) ?_ 0 _ rfl; exact bk_ BK196.out) hb); replace BK197 := am_ (blk_below (g := gb197) (o := .cells #[.string (⟨#[]⟩ : ByteArray), .int .i64 0, .bool false] 52 (0, 0)) (by refine bp_ ?_; refine blk_far ?_ NB197_199.out _; refine bp_ ?_; refine blk_far ?_ NB197_196.out _; refine bp_ ?_; refine blk_far ?_ NB197_196.out _; refine bp_ ?_; refine blk_far ?_ NB197_196.out _; exact bk_ BK197.out) hb); replace BK198 := am_ (blk_below (g := gb198) (o := .cells #[.int .i64 0, .int .i64 0, .int .i64 0, .int .i64 0, .int .i64 0, .int .i64 0] 39 (0, 0)) (by refine bp_ ?_; refine blk_far ?_ NB198_199.out _; refine bp_ ?_; refine blk_far ?_ NB198_196.out _; refine bp_ ?_; refine blk_far ?_ NB198_196.out _; refine bp_ ?_; refine blk_far ?_ NB198_196.out _; exact bk_ BK198.out) hb); replace BK199 := am_ (blk_below (g := gb199) (o := .cells #[.int .i64 (wrap64 (t206 + 1)), .int .i64 t232, .int .i64 t236, .int .i64 x200003_2, .int .i64 x200004_30, .int .i64 x200005_30] 39 (0, 0)) (by refine bp_ ?_; refine blk_put (cs := #[.int .i64 (wrap64 (t206 + 1)), .int .i64 t232, .int .i64 0, .int .i64 x200003_2, .int .i64 x200004_30, .int .i64 x200005_30]) ?_ 2 _ rfl; refine bp_ ?_; refine blk_far ?_ NB199_196.out _; refine bp_ ?_; refine blk_far ?_ NB199_196.out _; refine bp_ ?_; refine blk_far ?_ NB199_196.out _; exact bk_ BK199.out) hb); replace HB := bt_ hb; clear hb ho91; obtain ⟨Ao92, co92, eo92⟩ := Kd.R_slice HO239.out; subst eo92) | ((with_reducible refine gate_callee (f := 20) rfl ?_); refine goesL_ (some 55) rfl rfl Tryd.func20 (by kernel_rfl) rfl #[.agg #[.string t233, .int .i64 t234, .bool t235], .slice Ao92 y237.length co92] rfl (by (try simp only [List.map_toArray, List.map_cons, List.map_nil]); first | done | rfl | (simp only [List.length_drop, List.length_take]; rfl)) ?_; (with_reducible refine (computusref25_Word.calls kj30 t233 t234 t235 _ _ y237 t240 t241 t242 t243 _ ?side1 ?side2 A77.out).mono ?_); (case side1 => exact ck_ (Kd.R_reads' HO239.out).2.2); (case side2 => exact (Kd.R_reads' HO239.out).2.1); rintro e w93 ⟨rfl, hb⟩; refine ⟨_, rfl, ?_⟩; replace HO239 := rw_ HO239 hb; replace BK196 := bw_ BK196 hb; replace BK197 := bw_ BK197 hb; replace BK198 := bw_ BK198 hb; replace BK199 := bw_ BK199 hb; replace HB := bt_ hb; (try clear hb); (try clear hk); obtain ⟨hcz94_0, hcz94_1, hcz94_2⟩ := cz3_ BK196.out; obtain ⟨hfz94_0, hfz94_1, hfz94_2⟩ := fz3_ BK196.out))
     have n0_ : Aside0 (Kd.R Kd.string 9 (((w93.setCell ⟨gb196, 0, none⟩ (.string t240)).setCell ⟨gb196, 1, none⟩ (.int .i64 t241)).setCell ⟨gb196, 2, none⟩ (.bool t242)) w.heap.size (fun _ => True) (.slice Ao92 y237.length co92) y237) := ⟨fa_ HO239 BK196⟩
     have n1_ : Aside0 ((((w93.setCell ⟨gb196, 0, none⟩ (.string t240)).setCell ⟨gb196, 1, none⟩ (.int .i64 t241)).setCell ⟨gb196, 2, none⟩ (.bool t242)).heap[gb196]? = some (.cells #[.string t240, .int .i64 t241, .bool t242] 52 (0, 0))) := ⟨by refine bp_ ?_; refine blk_put (cs := #[.string t240, .int .i64 t241, .bool t235]) ?_ 2 _ rfl; refine bp_ ?_; refine blk_put (cs := #[.string t240, .int .i64 t234, .bool t235]) ?_ 1 _ rfl; refine bp_ ?_; refine blk_put (cs := #[.string t233, .int .i64 t234, .bool t235]) ?_ 0 _ rfl; exact bk_ BK196.out⟩
     have n2_ : Aside0 ((((w93.setCell ⟨gb196, 0, none⟩ (.string t240)).setCell ⟨gb196, 1, none⟩ (.int .i64 t241)).setCell ⟨gb196, 2, none⟩ (.bool t242)).heap[gb197]? = some (.cells #[.string (⟨#[]⟩ : ByteArray), .int .i64 0, .bool false] 52 (0, 0))) := ⟨bf1_ NB197_196 BK197⟩
     have n3_ : Aside0 ((((w93.setCell ⟨gb196, 0, none⟩ (.string t240)).setCell ⟨gb196, 1, none⟩ (.int .i64 t241)).setCell ⟨gb196, 2, none⟩ (.bool t242)).heap[gb198]? = some (.cells #[.int .i64 0, .int .i64 0, .int .i64 0, .int .i64 0, .int .i64 0, .int .i64 0] 39 (0, 0))) := ⟨bf1_ NB198_196 BK198⟩
     have n4_ : Aside0 ((((w93.setCell ⟨gb196, 0, none⟩ (.string t240)).setCell ⟨gb196, 1, none⟩ (.int .i64 t241)).setCell ⟨gb196, 2, none⟩ (.bool t242)).heap[gb199]? = some (.cells #[.int .i64 (wrap64 (t206 + 1)), .int .i64 t232, .int .i64 t236, .int .i64 x200003_2, .int .i64 x200004_30, .int .i64 x200005_30] 39 (0, 0))) := ⟨bf1_ NB199_196 BK199⟩
     have n5_ : Aside0 (Below w.heap.size w (((w93.setCell ⟨gb196, 0, none⟩ (.string t240)).setCell ⟨gb196, 1, none⟩ (.int .i64 t241)).setCell ⟨gb196, 2, none⟩ (.bool t242))) := ⟨bh_⟩
     (try clear HO239)
     (try clear BK196)
     (try clear BK197)
     (try clear BK198)
     (try clear BK199)
     (try clear HB)
     generalize (((w93.setCell ⟨gb196, 0, none⟩ (.string t240)).setCell ⟨gb196, 1, none⟩ (.int .i64 t241)).setCell ⟨gb196, 2, none⟩ (.bool t242)) = w95 at n0_ n1_ n2_ n3_ n4_ n5_ ⊢
     have HO239 := n0_
     have BK196 := n1_
     have BK197 := n2_
     have BK198 := n3_
     have BK199 := n4_
     have HB := n5_
     clear n0_ n1_ n2_ n3_ n4_ n5_
     replace HO239 := am_ (Kd.R_drew HO239.out)
     replace BK196 := am_ (blk_drew BK196.out)
     replace BK197 := am_ (blk_drew BK197.out)
     replace BK198 := am_ (blk_drew BK198.out)
     replace BK199 := am_ (blk_drew BK199.out)
     replace HB := am_ (below_drew1 HB.out)
     refine start_ (n := 4) (S := fun w' => w'.cell? ⟨gb196, 0, none⟩ = some (.string t240) ∧ w'.cell? ⟨gb196, 1, none⟩ = some (.int .i64 t241) ∧ w'.cell? ⟨gb196, 2, none⟩ = some (.bool t242) ∧ w'.cell? ⟨gb199, 0, none⟩ = some (.int .i64 (wrap64 (t206 + 1))) ∧ w'.cell? ⟨gb199, 1, none⟩ = some (.int .i64 t232) ∧ w'.cell? ⟨gb199, 2, none⟩ = some (.int .i64 t236) ∧ w'.cell? ⟨gb199, 3, none⟩ = some (.int .i64 x200003_2) ∧ w'.cell? ⟨gb199, 4, none⟩ = some (.int .i64 x200004_30) ∧ w'.cell? ⟨gb199, 5, none⟩ = some (.int .i64 x200005_30)) (ds := []) (bf_ 4 0) (by kernel_rfl) rfl rfl ⟨(blk_cell BK196.out 0).trans rfl, (blk_cell BK196.out 1).trans rfl, (blk_cell BK196.out 2).trans rfl, (blk_cell BK199.out 0).trans rfl, (blk_cell BK199.out 1).trans rfl, (blk_cell BK199.out 2).trans rfl, (blk_cell BK199.out 3).trans rfl, (blk_cell BK199.out 4).trans rfl, (blk_cell BK199.out 5).trans rfl⟩ (fun hHeld => ?_)
     generalize w95.drew = w96 at HO239 BK196 BK197 BK198 BK199 HB hHeld ⊢
     refine take_ (i := 0) (N := some 58) (v := ?_) (a' := ?_) (bf_ 4 1) rfl rfl (by kernel_rfl) (fun _ _ _ h => h) (Or.inl ⟨by rfl, ?_⟩) hHeld ?_ ?_
     rotate_left
     ·rintro w' ⟨s0, s1, s2, s3, s4, s5, s6, s7, s8⟩
      go_simp
      with_reducible rfl
     rotate_left
     ·simp only [Act.put, sA_, sZ_, sS_, i64_w, i32_w]
      rfl
     refine take_ (i := 1) (N := some 59) (v := ?_) (a' := ?_) (bf_ 4 3) rfl rfl (by kernel_rfl) (fun _ _ _ h => h) (Or.inl ⟨by rfl, ?_⟩) hHeld ?_ ?_
     rotate_left
     ·rintro w' ⟨s0, s1, s2, s3, s4, s5, s6, s7, s8⟩
      go_simp
      with_reducible rfl
     rotate_left
     ·simp only [Act.put, sA_, sZ_, sS_, i64_w, i32_w]
      rfl
     refine one_ (i := 2) (N := none) (bf_ 4 7) rfl rfl (by kernel_rfl) (by decide) (fun K hK => ?_)
     have hs97 : w96.cell? ⟨gb197, 0, none⟩ = some (.string (⟨#[]⟩ : ByteArray)) := (blk_cell BK197.out 0).trans rfl
     have hfs97 := blk_frozen BK197.out 0
     have hns97_0 := NB196_197.out
     have hns97_2 := NB198_197.out
     have hns97_3 := NB199_197.out
     have hms97_0 := NB197_196.out
     have hms97_2 := NB197_198.out
     have hms97_3 := NB197_199.out
     have hs98 : w96.cell? ⟨gb197, 1, none⟩ = some (.int .i64 0) := (blk_cell BK197.out 1).trans rfl
     have hfs98 := blk_frozen BK197.out 1
     have hns98_0 := NB196_197.out
     have hns98_2 := NB198_197.out
     have hns98_3 := NB199_197.out
     have hms98_0 := NB197_196.out
     have hms98_2 := NB197_198.out
     have hms98_3 := NB197_199.out
     have hs99 : w96.cell? ⟨gb197, 2, none⟩ = some (.bool false) := (blk_cell BK197.out 2).trans rfl
     have hfs99 := blk_frozen BK197.out 2
     have hns99_0 := NB196_197.out
     have hns99_2 := NB198_197.out
     have hns99_3 := NB199_197.out
     have hms99_0 := NB197_196.out
     have hms99_2 := NB197_198.out
     have hms99_3 := NB197_199.out
     refine skip_ (w1 := ?_) (by rfl) rfl ?_ ?_
     rotate_left
     ·go_simp
      rfl
     refine hK.out _ _ ⟨((cell_far (p := ⟨gb197, _, none⟩) NB196_197.out _).trans (((cell_far (p := ⟨gb197, _, none⟩) NB196_197.out _).trans (((cell_far (p := ⟨gb197, _, none⟩) NB196_197.out _).trans (hHeld.1)))))), ((cell_far (p := ⟨gb197, _, none⟩) NB196_197.out _).trans (((cell_far (p := ⟨gb197, _, none⟩) NB196_197.out _).trans (((cell_far (p := ⟨gb197, _, none⟩) NB196_197.out _).trans (hHeld.2.1)))))), ((cell_far (p := ⟨gb197, _, none⟩) NB196_197.out _).trans (((cell_far (p := ⟨gb197, _, none⟩) NB196_197.out _).trans (((cell_far (p := ⟨gb197, _, none⟩) NB196_197.out _).trans (hHeld.2.2.1)))))), ((cell_far (p := ⟨gb197, _, none⟩) NB199_197.out _).trans (((cell_far (p := ⟨gb197, _, none⟩) NB199_197.out _).trans (((cell_far (p := ⟨gb197, _, none⟩) NB199_197.out _).trans (hHeld.2.2.2.1)))))), ((cell_far (p := ⟨gb197, _, none⟩) NB199_197.out _).trans (((cell_far (p := ⟨gb197, _, none⟩) NB199_197.out _).trans (((cell_far (p := ⟨gb197, _, none⟩) NB199_197.out _).trans (hHeld.2.2.2.2.1)))))), ((cell_far (p := ⟨gb197, _, none⟩) NB199_197.out _).trans (((cell_far (p := ⟨gb197, _, none⟩) NB199_197.out _).trans (((cell_far (p := ⟨gb197, _, none⟩) NB199_197.out _).trans (hHeld.2.2.2.2.2.1)))))), ((cell_far (p := ⟨gb197, _, none⟩) NB199_197.out _).trans (((cell_far (p := ⟨gb197, _, none⟩) NB199_197.out _).trans (((cell_far (p := ⟨gb197, _, none⟩) NB199_197.out _).trans (hHeld.2.2.2.2.2.2.1)))))), ((cell_far (p := ⟨gb197, _, none⟩) NB199_197.out _).trans (((cell_far (p := ⟨gb197, _, none⟩) NB199_197.out _).trans (((cell_far (p := ⟨gb197, _, none⟩) NB199_197.out _).trans (hHeld.2.2.2.2.2.2.2.1)))))), ((cell_far (p := ⟨gb197, _, none⟩) NB199_197.out _).trans (((cell_far (p := ⟨gb197, _, none⟩) NB199_197.out _).trans (((cell_far (p := ⟨gb197, _, none⟩) NB199_197.out _).trans (hHeld.2.2.2.2.2.2.2.2))))))⟩ (fun hHeld => ?_)
     clear hK K
     refine one_ (i := 3) (N := none) (bf_ 4 15) rfl rfl (by kernel_rfl) (by decide) (fun K hK => ?_)
     have hs100 : w96.cell? ⟨gb198, 0, none⟩ = some (.int .i64 0) := (blk_cell BK198.out 0).trans rfl
     have hfs100 := blk_frozen BK198.out 0
     have hns100_0 := NB196_198.out
     have hns100_1 := NB197_198.out
     have hns100_3 := NB199_198.out
     have hms100_0 := NB198_196.out
     have hms100_1 := NB198_197.out
     have hms100_3 := NB198_199.out
     have hs101 : w96.cell? ⟨gb198, 1, none⟩ = some (.int .i64 0) := (blk_cell BK198.out 1).trans rfl
     have hfs101 := blk_frozen BK198.out 1
     have hns101_0 := NB196_198.out
     have hns101_1 := NB197_198.out
     have hns101_3 := NB199_198.out
     have hms101_0 := NB198_196.out
     have hms101_1 := NB198_197.out
     have hms101_3 := NB198_199.out
     have hs102 : w96.cell? ⟨gb198, 2, none⟩ = some (.int .i64 0) := (blk_cell BK198.out 2).trans rfl
     have hfs102 := blk_frozen BK198.out 2
     have hns102_0 := NB196_198.out
     have hns102_1 := NB197_198.out
     have hns102_3 := NB199_198.out
     have hms102_0 := NB198_196.out
     have hms102_1 := NB198_197.out
     have hms102_3 := NB198_199.out
     have hs103 : w96.cell? ⟨gb198, 3, none⟩ = some (.int .i64 0) := (blk_cell BK198.out 3).trans rfl
     have hfs103 := blk_frozen BK198.out 3
     have hns103_0 := NB196_198.out
     have hns103_1 := NB197_198.out
     have hns103_3 := NB199_198.out
     have hms103_0 := NB198_196.out
     have hms103_1 := NB198_197.out
     have hms103_3 := NB198_199.out
     have hs104 : w96.cell? ⟨gb198, 4, none⟩ = some (.int .i64 0) := (blk_cell BK198.out 4).trans rfl
     have hfs104 := blk_frozen BK198.out 4
     have hns104_0 := NB196_198.out
     have hns104_1 := NB197_198.out
     have hns104_3 := NB199_198.out
     have hms104_0 := NB198_196.out
     have hms104_1 := NB198_197.out
     have hms104_3 := NB198_199.out
     have hs105 : w96.cell? ⟨gb198, 5, none⟩ = some (.int .i64 0) := (blk_cell BK198.out 5).trans rfl
     have hfs105 := blk_frozen BK198.out 5
     have hns105_0 := NB196_198.out
     have hns105_1 := NB197_198.out
     have hns105_3 := NB199_198.out
     have hms105_0 := NB198_196.out
     have hms105_1 := NB198_197.out
     have hms105_3 := NB198_199.out
     refine skip_ (w1 := ?_) (by rfl) rfl ?_ ?_
     rotate_left
     ·go_simp
      rfl
     refine hK.out _ _ ⟨((cell_far (p := ⟨gb198, _, none⟩) NB196_198.out _).trans (((cell_far (p := ⟨gb198, _, none⟩) NB196_198.out _).trans (((cell_far (p := ⟨gb198, _, none⟩) NB196_198.out _).trans (((cell_far (p := ⟨gb198, _, none⟩) NB196_198.out _).trans (((cell_far (p := ⟨gb198, _, none⟩) NB196_198.out _).trans (((cell_far (p := ⟨gb198, _, none⟩) NB196_198.out _).trans (hHeld.1)))))))))))), ((cell_far (p := ⟨gb198, _, none⟩) NB196_198.out _).trans (((cell_far (p := ⟨gb198, _, none⟩) NB196_198.out _).trans (((cell_far (p := ⟨gb198, _, none⟩) NB196_198.out _).trans (((cell_far (p := ⟨gb198, _, none⟩) NB196_198.out _).trans (((cell_far (p := ⟨gb198, _, none⟩) NB196_198.out _).trans (((cell_far (p := ⟨gb198, _, none⟩) NB196_198.out _).trans (hHeld.2.1)))))))))))), ((cell_far (p := ⟨gb198, _, none⟩) NB196_198.out _).trans (((cell_far (p := ⟨gb198, _, none⟩) NB196_198.out _).trans (((cell_far (p := ⟨gb198, _, none⟩) NB196_198.out _).trans (((cell_far (p := ⟨gb198, _, none⟩) NB196_198.out _).trans (((cell_far (p := ⟨gb198, _, none⟩) NB196_198.out _).trans (((cell_far (p := ⟨gb198, _, none⟩) NB196_198.out _).trans (hHeld.2.2.1)))))))))))), ((cell_far (p := ⟨gb198, _, none⟩) NB199_198.out _).trans (((cell_far (p := ⟨gb198, _, none⟩) NB199_198.out _).trans (((cell_far (p := ⟨gb198, _, none⟩) NB199_198.out _).trans (((cell_far (p := ⟨gb198, _, none⟩) NB199_198.out _).trans (((cell_far (p := ⟨gb198, _, none⟩) NB199_198.out _).trans (((cell_far (p := ⟨gb198, _, none⟩) NB199_198.out _).trans (hHeld.2.2.2.1)))))))))))), ((cell_far (p := ⟨gb198, _, none⟩) NB199_198.out _).trans (((cell_far (p := ⟨gb198, _, none⟩) NB199_198.out _).trans (((cell_far (p := ⟨gb198, _, none⟩) NB199_198.out _).trans (((cell_far (p := ⟨gb198, _, none⟩) NB199_198.out _).trans (((cell_far (p := ⟨gb198, _, none⟩) NB199_198.out _).trans (((cell_far (p := ⟨gb198, _, none⟩) NB199_198.out _).trans (hHeld.2.2.2.2.1)))))))))))), ((cell_far (p := ⟨gb198, _, none⟩) NB199_198.out _).trans (((cell_far (p := ⟨gb198, _, none⟩) NB199_198.out _).trans (((cell_far (p := ⟨gb198, _, none⟩) NB199_198.out _).trans (((cell_far (p := ⟨gb198, _, none⟩) NB199_198.out _).trans (((cell_far (p := ⟨gb198, _, none⟩) NB199_198.out _).trans (((cell_far (p := ⟨gb198, _, none⟩) NB199_198.out _).trans (hHeld.2.2.2.2.2.1)))))))))))), ((cell_far (p := ⟨gb198, _, none⟩) NB199_198.out _).trans (((cell_far (p := ⟨gb198, _, none⟩) NB199_198.out _).trans (((cell_far (p := ⟨gb198, _, none⟩) NB199_198.out _).trans (((cell_far (p := ⟨gb198, _, none⟩) NB199_198.out _).trans (((cell_far (p := ⟨gb198, _, none⟩) NB199_198.out _).trans (((cell_far (p := ⟨gb198, _, none⟩) NB199_198.out _).trans (hHeld.2.2.2.2.2.2.1)))))))))))), ((cell_far (p := ⟨gb198, _, none⟩) NB199_198.out _).trans (((cell_far (p := ⟨gb198, _, none⟩) NB199_198.out _).trans (((cell_far (p := ⟨gb198, _, none⟩) NB199_198.out _).trans (((cell_far (p := ⟨gb198, _, none⟩) NB199_198.out _).trans (((cell_far (p := ⟨gb198, _, none⟩) NB199_198.out _).trans (((cell_far (p := ⟨gb198, _, none⟩) NB199_198.out _).trans (hHeld.2.2.2.2.2.2.2.1)))))))))))), ((cell_far (p := ⟨gb198, _, none⟩) NB199_198.out _).trans (((cell_far (p := ⟨gb198, _, none⟩) NB199_198.out _).trans (((cell_far (p := ⟨gb198, _, none⟩) NB199_198.out _).trans (((cell_far (p := ⟨gb198, _, none⟩) NB199_198.out _).trans (((cell_far (p := ⟨gb198, _, none⟩) NB199_198.out _).trans (((cell_far (p := ⟨gb198, _, none⟩) NB199_198.out _).trans (hHeld.2.2.2.2.2.2.2.2))))))))))))⟩ (fun hHeld => ?_)
     clear hK K
     refine done_ (by kernel_rfl) ?_
     try go_wp2
     refine bodyPost_ret (results_cc rfl _ _ gb197 gb198 52 39 #[.string t240, .int .i64 t241, .bool t242] #[.int .i64 (wrap64 (t206 + 1)), .int .i64 t232, .int .i64 t236, .int .i64 x200003_2, .int .i64 x200004_30, .int .i64 x200005_30] (0, 0) (0, 0) _ _ rfl (by refine bp_ ?_; refine blk_far ?_ NB197_198.out _; refine bp_ ?_; refine blk_far ?_ NB197_198.out _; refine bp_ ?_; refine blk_far ?_ NB197_198.out _; refine bp_ ?_; refine blk_far ?_ NB197_198.out _; refine bp_ ?_; refine blk_far ?_ NB197_198.out _; refine bp_ ?_; refine blk_far ?_ NB197_198.out _; refine bp_ ?_; refine blk_put (cs := #[.string t240, .int .i64 t241, .bool false]) ?_ 2 _ rfl; refine bp_ ?_; refine blk_put (cs := #[.string t240, .int .i64 0, .bool false]) ?_ 1 _ rfl; refine bp_ ?_; refine blk_put (cs := #[.string (⟨#[]⟩ : ByteArray), .int .i64 0, .bool false]) ?_ 0 _ rfl; exact bk_ BK197.out) Tryd.underlying52 rfl (by kernel_rfl) rfl (by refine bp_ ?_; refine blk_put (cs := #[.int .i64 (wrap64 (t206 + 1)), .int .i64 t232, .int .i64 t236, .int .i64 x200003_2, .int .i64 x200004_30, .int .i64 0]) ?_ 5 _ rfl; refine bp_ ?_; refine blk_put (cs := #[.int .i64 (wrap64 (t206 + 1)), .int .i64 t232, .int .i64 t236, .int .i64 x200003_2, .int .i64 0, .int .i64 0]) ?_ 4 _ rfl; refine bp_ ?_; refine blk_put (cs := #[.int .i64 (wrap64 (t206 + 1)), .int .i64 t232, .int .i64 t236, .int .i64 0, .int .i64 0, .int .i64 0]) ?_ 3 _ rfl; refine bp_ ?_; refine blk_put (cs := #[.int .i64 (wrap64 (t206 + 1)), .int .i64 t232, .int .i64 0, .int .i64 0, .int .i64 0, .int .i64 0]) ?_ 2 _ rfl; refine bp_ ?_; refine blk_put (cs := #[.int .i64 (wrap64 (t206 + 1)), .int .i64 0, .int .i64 0, .int .i64 0, .int .i64 0, .int .i64 0]) ?_ 1 _ rfl; refine bp_ ?_; refine blk_put (cs := #[.int .i64 0, .int .i64 0, .int .i64 0, .int .i64 0, .int .i64 0, .int .i64 0]) ?_ 0 _ rfl; refine bp_ ?_; refine blk_far ?_ NB198_197.out _; refine bp_ ?_; refine blk_far ?_ NB198_197.out _; refine bp_ ?_; refine blk_far ?_ NB198_197.out _; exact bk_ BK198.out) Tryd.underlying39 rfl (by kernel_rfl)) rfl ?_
     exact rt_
mutual
def computusref26_Parse.l0 : Nat → List ByteArray → Int → List (S41) → List (S43) → ByteArray → Int → Bool → Option (Int × (List (S41)) × (List (S43)) × Int × Bool)
 | 0, _, _, _, _, _, _, _ => none
 | k + 1, x8, x246000, x246001, x246002, x254000, x254001, x254002 => if x254002 = true then (some (0, ([] : List (S41)), ([] : List (S43)), x254001, false)) else ((computusref25_Word.f k x254000 x254001 x254002 x8).bind fun bt268 => (if bt268.2.2.2 = 0 then ((computusref25_End.f bt268.1 bt268.2.1 bt268.2.2.1).bind fun bt272 => (if bt272.2.2 = true then (some (0, ([] : List (S41)), ([] : List (S43)), bt272.2.1, false)) else (some (x246000, x246001, x246002, 0, true)))) else (if bt268.2.2.2 = 1 then ((computusref26_Identifier.f k bt268.1 bt268.2.1 bt268.2.2.1).bind fun bt279 => ((computusref26_Number.f k bt279.1 bt279.2.1 bt279.2.2.1).bind fun bt283 => ((computusref26_Choice.f k bt283.1 bt283.2.1 bt283.2.2.1 (([(⟨#[116, 114, 97, 110, 115, 102, 101, 114]⟩ : ByteArray), (⟨#[99, 111, 109, 109, 101, 109, 111, 114, 97, 116, 101]⟩ : ByteArray), (⟨#[111, 109, 105, 116]⟩ : ByteArray)] : List ByteArray))).bind fun bt290 => ((computusref26_readAnchor.f k bt290.1 bt290.2.1 bt290.2.2.1).bind fun bt294 => (if x246002.length < 1759218604441 then (computusref26_Parse.j1 k (([(⟨#[101, 110, 100, 10]⟩ : ByteArray), (⟨#[102, 101, 97, 115, 116]⟩ : ByteArray)] : List ByteArray)) bt268.2.2.2 x246000 x246001 (x246002 ++ [(⟨bt279.2.2.2, bt283.2.2.2, wrap64 (bt290.2.2.2 + 1), (⟨bt294.2.2.2.1, bt294.2.2.2.2.1, bt294.2.2.2.2.2.1, bt294.2.2.2.2.2.2.1, bt294.2.2.2.2.2.2.2.1, bt294.2.2.2.2.2.2.2.2⟩ : S39)⟩ : S43)]) bt294.1 bt294.2.1 bt294.2.2.1) else (none)))))) else (computusref26_Parse.j1 k x8 bt268.2.2.2 x246000 x246001 x246002 bt268.1 bt268.2.1 bt268.2.2.1))))
def computusref26_Parse.j1 : Nat → List ByteArray → Int → Int → List (S41) → List (S43) → ByteArray → Int → Bool → Option (Int × (List (S41)) × (List (S43)) × Int × Bool)
 | 0, _, _, _, _, _, _, _, _ => none
 | k + 1, x8, x9, x246000, x246001, x246002, x254000, x254001, x254002 => if x9 = 2 then ((computusref26_Identifier.f k x254000 x254001 x254002).bind fun bt307 => ((computusref26_Number.f k bt307.1 bt307.2.1 bt307.2.2.1).bind fun bt311 => ((computusref26_Number.f k bt311.1 bt311.2.1 bt311.2.2.1).bind fun bt315 => ((computusref26_readAnchor.f k bt315.1 bt315.2.1 bt315.2.2.1).bind fun bt319 => (if x246001.length < 1759218604441 then (computusref26_Parse.l0 k x8 x246000 (x246001 ++ [(⟨bt307.2.2.2, bt311.2.2.2, bt315.2.2.2, (⟨bt319.2.2.2.1, bt319.2.2.2.2.1, bt319.2.2.2.2.2.1, bt319.2.2.2.2.2.2.1, bt319.2.2.2.2.2.2.2.1, bt319.2.2.2.2.2.2.2.2⟩ : S39)⟩ : S41)]) x246002 bt319.1 bt319.2.1 bt319.2.2.1) else (none)))))) else (computusref26_Parse.l0 k x8 x246000 x246001 x246002 x254000 x254001 x254002)
end
def computusref26_Parse.f (k : Nat) (a0 : ByteArray) : Option (Int × (List (S41)) × (List (S43)) × Int × Bool) := (computusref25_Word.f k a0 0 false (([(⟨#[99, 97, 116, 97, 108, 111, 103, 117, 101, 10, 102, 114, 101, 101]⟩ : ByteArray)] : List ByteArray))).bind fun bt249 => ((computusref26_Number.f k bt249.1 bt249.2.1 bt249.2.2.1).bind fun bt254 => ((computusref25_Word.f k bt254.1 bt254.2.1 bt254.2.2.1 (([(⟨#[10]⟩ : ByteArray)] : List ByteArray))).bind fun bt261 => (computusref26_Parse.l0 k (([(⟨#[101, 110, 100, 10]⟩ : ByteArray), (⟨#[102, 101, 97, 115, 116]⟩ : ByteArray), (⟨#[115, 101, 97, 115, 111, 110]⟩ : ByteArray)] : List ByteArray)) bt254.2.2.2 ([] : List (S41)) ([] : List (S43)) bt261.1 bt261.2.1 bt261.2.2.1)))
theorem computusref26_Parse.calls (k : Nat) (a0 : ByteArray) (r1 : Int) (r2 : List (S41)) (r3 : List (S43)) (r4 : Int) (r5 : Bool) (w : World) (h : computusref26_Parse.f k a0 = some (r1, r2, r3, r4, r5)) :
  Calls Tryd.prog 10 #[.string a0] w fun e w' => ∃ v1_ v2_ : Value, e = .returned (.tuple #[.agg #[.int .i64 r1, v1_, v2_], .int .i64 r4, .bool r5]) ∧ Kd.R k41 41 w' w.heap.size (fun _ => True) v1_ r2 ∧ Kd.R k43 43 w' w.heap.size (fun _ => True) v2_ r3 ∧ Below w.heap.size w w' := by
 have hu26 := Tryd.underlying26
 have hu52 := Tryd.underlying52
 have hu43 := Tryd.underlying43
 have hu39 := Tryd.underlying39
 have hu41 := Tryd.underlying41
 have HB := am_ (Below.refl w.heap.size w)
 have H := h
 clear h
 unfold computusref26_Parse.f at H
 obtain ⟨y246, hy246⟩ : ∃ y_ : List ByteArray, y_ = (([(⟨#[99, 97, 116, 97, 108, 111, 103, 117, 101, 10, 102, 114, 101, 101]⟩ : ByteArray)] : List ByteArray)) := ⟨_, rfl⟩
 replace H : ((computusref25_Word.f k a0 0 false y246).bind fun bt249 => ((computusref26_Number.f k bt249.1 bt249.2.1 bt249.2.2.1).bind fun bt254 => ((computusref25_Word.f k bt254.1 bt254.2.1 bt254.2.2.1 (([(⟨#[10]⟩ : ByteArray)] : List ByteArray))).bind fun bt261 => (computusref26_Parse.l0 k (([(⟨#[101, 110, 100, 10]⟩ : ByteArray), (⟨#[102, 101, 97, 115, 116]⟩ : ByteArray), (⟨#[115, 101, 97, 115, 111, 110]⟩ : ByteArray)] : List ByteArray)) bt254.2.2.2 ([] : List (S41)) ([] : List (S43)) bt261.1 bt261.2.1 bt261.2.2.1)))) = some (r1, r2, r3, r4, r5) := by first | (rw [hy246]; with_reducible exact H) | (have H2_ := (Option.bind_some _ _).symm.trans H; rw [hy246]; with_reducible exact H2_) | (have H2_ := (Option.bind_some _ _).symm.trans H; with_reducible exact H2_) | with_reducible exact H | (rw [hy246]; exact H) | exact H
 have Ny246 := am_ hy246
 clear hy246
 obtain ⟨⟨t249, t250, t251, t252⟩, A2, H⟩ := bs_ H
 dsimp only at H
 obtain ⟨⟨t254, t255, t256, t257⟩, A3, H⟩ := bs_ H
 dsimp only at H
 obtain ⟨y258, hy258⟩ : ∃ y_ : List ByteArray, y_ = (([(⟨#[10]⟩ : ByteArray)] : List ByteArray)) := ⟨_, rfl⟩
 replace H : ((computusref25_Word.f k t254 t255 t256 y258).bind fun bt261 => (computusref26_Parse.l0 k (([(⟨#[101, 110, 100, 10]⟩ : ByteArray), (⟨#[102, 101, 97, 115, 116]⟩ : ByteArray), (⟨#[115, 101, 97, 115, 111, 110]⟩ : ByteArray)] : List ByteArray)) t257 ([] : List (S41)) ([] : List (S43)) bt261.1 bt261.2.1 bt261.2.2.1)) = some (r1, r2, r3, r4, r5) := by first | (rw [hy258]; with_reducible exact H) | (have H2_ := (Option.bind_some _ _).symm.trans H; rw [hy258]; with_reducible exact H2_) | (have H2_ := (Option.bind_some _ _).symm.trans H; with_reducible exact H2_) | with_reducible exact H | (rw [hy258]; exact H) | exact H
 have Ny258 := am_ hy258
 clear hy258
 obtain ⟨⟨t261, t262, t263, t264⟩, A4, H⟩ := bs_ H
 dsimp only at H
 obtain ⟨y265, hy265⟩ : ∃ y_ : List ByteArray, y_ = (([(⟨#[101, 110, 100, 10]⟩ : ByteArray), (⟨#[102, 101, 97, 115, 116]⟩ : ByteArray), (⟨#[115, 101, 97, 115, 111, 110]⟩ : ByteArray)] : List ByteArray)) := ⟨_, rfl⟩
 replace H : (computusref26_Parse.l0 k y265 t257 ([] : List (S41)) ([] : List (S43)) t261 t262 t263) = some (r1, r2, r3, r4, r5) := by first | (rw [hy265]; with_reducible exact H) | (have H2_ := (Option.bind_some _ _).symm.trans H; rw [hy265]; with_reducible exact H2_) | (have H2_ := (Option.bind_some _ _).symm.trans H; with_reducible exact H2_) | with_reducible exact H | (rw [hy265]; exact H) | exact H
 have Ny265 := am_ hy265
 clear hy265
 have H' := am_ H
 clear H
 go_enter Tryd.func10, Tryd.ntmps10
 go_wp2_with (first | ((with_reducible refine gate_dst (N := 2) rfl ?_); refine bx_ (w := w) (N := 2) (cs := #[.int .i64 0, .slice none 0 0, .slice none 0 0]) (t := 26) ?_; intro gb244 w5 BK244 n0_ GW244 GE244; clear HB; have HB := n0_; clear n0_) | ((with_reducible refine gate_dst (N := 5) rfl ?_); refine be_ (N := 5) (cs := #[.int .i64 0, .slice none 0 0, .slice none 0 0]) (t := 26) ?_; intro gb245 hg w6 hbox hb; have BK245 := am_ (hbox); have GW245 := gw_ (w := w) hg; have GE245 := gw_ (w := w) hg; replace HB := bt_ hb; have NB244_245 := ne_ hg BK244; have NB245_244 := nf_ hg BK244; replace BK244 := bw_ BK244 hb; clear hb hbox hg) | ((with_reducible refine gate_dst (N := 15) rfl ?_); refine Kd.R_lit Kd.string _ 9 ?hg (N := 15) ?hd (xs := ([(⟨#[99, 97, 116, 97, 108, 111, 103, 117, 101, 10, 102, 114, 101, 101]⟩ : ByteArray)] : List ByteArray)) (inner := [.string (⟨#[99, 97, 116, 97, 108, 111, 103, 117, 101, 10, 102, 114, 101, 101]⟩ : ByteArray)]) (ok := fun _ => True) (okp := fun _ => True) ?hr ?hp (fun _ hk => hk) trivial (Below.refl _ _) (Nat.le_refl _) (by simp) ?_; (case hd => rfl); (case hg => rfl); (case hr => first | (go_simp; done) | (go_simp; rfl)); (case hp => exact (Reps.one (show Kd.M Kd.string _ _ _ (⟨#[99, 97, 116, 97, 108, 111, 103, 117, 101, 10, 102, 114, 101, 101]⟩ : ByteArray) [.string (⟨#[99, 97, 116, 97, 108, 111, 103, 117, 101, 10, 102, 114, 101, 101]⟩ : ByteArray)] from rfl) (Reps.none _ _))); intro v247 w7 ho8 hb hg_ hnew_; clear hg_ hnew_; (first | rw [← Ny246.out] at ho8 | (simp only [Int.reduceToNat] at ho8; rw [← Ny246.out] at ho8)); have HO248 := am_ (Kd.R_lower ho8 bz_); replace BK244 := bw_ BK244 hb; replace BK245 := bw_ BK245 hb; replace HB := bt_ hb; clear hb ho8; obtain ⟨Ao9, co9, eo9⟩ := Kd.R_slice HO248.out; subst eo9) | ((with_reducible refine gate_callee (f := 20) rfl ?_); refine goesL_ (some 16) rfl rfl Tryd.func20 (by kernel_rfl) rfl #[.agg #[.string a0, .int .i64 0, .bool false], .slice Ao9 y246.length co9] rfl (by (try simp only [List.map_toArray, List.map_cons, List.map_nil]); first | done | rfl | (simp only [List.length_drop, List.length_take]; rfl)) ?_; (with_reducible refine (computusref25_Word.calls k a0 0 false _ _ y246 t249 t250 t251 t252 _ ?side1 ?side2 A2.out).mono ?_); (case side1 => exact ck_ (Kd.R_reads' HO248.out).2.2); (case side2 => exact (Kd.R_reads' HO248.out).2.1); rintro e w10 ⟨rfl, hb⟩; refine ⟨_, rfl, ?_⟩; replace HO248 := rw_ HO248 hb; replace BK244 := bw_ BK244 hb; replace BK245 := bw_ BK245 hb; replace HB := bt_ hb; (try clear hb); (try clear hk); (try clear hi)) | ((with_reducible refine gate_dst (N := 6) rfl ?_); refine be_ (N := 6) (cs := #[.string (⟨#[]⟩ : ByteArray), .int .i64 0, .bool false]) (t := 52) ?_; intro gb253 hg w11 hbox hb; replace HO248 := rw_ HO248 hb; have BK253 := am_ (hbox); have GW253 := gw_ (w := w) hg; have GE253 := gw_ (w := w) hg; replace HB := bt_ hb; have NB244_253 := ne_ hg BK244; have NB253_244 := nf_ hg BK244; replace BK244 := bw_ BK244 hb; have NB245_253 := ne_ hg BK245; have NB253_245 := nf_ hg BK245; replace BK245 := bw_ BK245 hb; clear hb hbox hg; have hnb12 := NB253_244.out; have hnc12 := NB244_253.out; have hnb13 := NB253_245.out; have hnc13 := NB245_253.out; obtain ⟨hcz14_0, hcz14_1, hcz14_2⟩ := cz3_ BK253.out; obtain ⟨hfz14_0, hfz14_1, hfz14_2⟩ := fz3_ BK253.out) | ((with_reducible refine gate_callee (f := 21) rfl ?_); refine goesL_ (some 21) rfl rfl Tryd.func21 (by kernel_rfl) rfl #[.agg #[.string t249, .int .i64 t250, .bool t251]] rfl (by (try simp only [List.map_toArray, List.map_cons, List.map_nil]); first | done | rfl | (simp only [List.length_drop, List.length_take]; rfl)) ?_; (with_reducible refine (computusref26_Number.calls k t249 t250 t251 t254 t255 t256 t257 _ A3.out).mono ?_); rintro e w15 ⟨rfl, hb⟩; refine ⟨_, rfl, ?_⟩; replace HO248 := am_ (Kd.R_below (fa_ HO248 BK253) hb); replace BK244 := am_ (blk_below (g := gb244) (o := .cells #[.int .i64 0, .slice none 0 0, .slice none 0 0] 26 (0, 0)) (by refine bp_ ?_; refine blk_far ?_ NB244_253.out _; refine bp_ ?_; refine blk_far ?_ NB244_253.out _; refine bp_ ?_; refine blk_far ?_ NB244_253.out _; exact bk_ BK244.out) hb); replace BK245 := am_ (blk_below (g := gb245) (o := .cells #[.int .i64 0, .slice none 0 0, .slice none 0 0] 26 (0, 0)) (by refine bp_ ?_; refine blk_far ?_ NB245_253.out _; refine bp_ ?_; refine blk_far ?_ NB245_253.out _; refine bp_ ?_; refine blk_far ?_ NB245_253.out _; exact bk_ BK245.out) hb); replace BK253 := am_ (blk_below (g := gb253) (o := .cells #[.string t249, .int .i64 t250, .bool t251] 52 (0, 0)) (by refine bp_ ?_; refine blk_put (cs := #[.string t249, .int .i64 t250, .bool false]) ?_ 2 _ rfl; refine bp_ ?_; refine blk_put (cs := #[.string t249, .int .i64 0, .bool false]) ?_ 1 _ rfl; refine bp_ ?_; refine blk_put (cs := #[.string (⟨#[]⟩ : ByteArray), .int .i64 0, .bool false]) ?_ 0 _ rfl; exact bk_ BK253.out) hb); replace HB := bt_ hb; (try clear hb); (try clear hk); obtain ⟨hcz16_0, hcz16_1, hcz16_2⟩ := cz3_ BK253.out; obtain ⟨hfz16_0, hfz16_1, hfz16_2⟩ := fz3_ BK253.out; have hnb17 := NB245_244.out; have hnc17 := NB244_245.out; obtain ⟨hcz18_0, hcz18_1, hcz18_2⟩ := cz3_ BK245.out; obtain ⟨hfz18_0, hfz18_1, hfz18_2⟩ := fz3_ BK245.out) | ((with_reducible refine gate_dst (N := 27) rfl ?_); refine Kd.R_lit Kd.string _ 9 ?hg (N := 27) ?hd (xs := ([(⟨#[10]⟩ : ByteArray)] : List ByteArray)) (inner := [.string (⟨#[10]⟩ : ByteArray)]) (ok := fun _ => True) (okp := fun _ => True) ?hr ?hp (fun _ hk => hk) trivial (Below.refl _ _) (Nat.le_refl _) (by simp) ?_; (case hd => rfl); (case hg => rfl); (case hr => first | (go_simp; done) | (go_simp; rfl)); (case hp => exact (Reps.one (show Kd.M Kd.string _ _ _ (⟨#[10]⟩ : ByteArray) [.string (⟨#[10]⟩ : ByteArray)] from rfl) (Reps.none _ _))); intro v259 w19 ho20 hb hg_ hnew_; clear hg_ hnew_; (first | rw [← Ny258.out] at ho20 | (simp only [Int.reduceToNat] at ho20; rw [← Ny258.out] at ho20)); have HO260 := am_ (Kd.R_lower (Kd.R_new' ho20 (Kd.R_lt (by (with_reducible repeat (first | apply Kd.R_alloc | apply Kd.R_drewN | apply Kd.R_drew)); exact (Kd.R_mono (Kd.R_mono (Kd.R_far (p := ⟨gb245, 0, none⟩) (Kd.R_far (p := ⟨gb253, 2, none⟩) (Kd.R_far (p := ⟨gb253, 1, none⟩) (Kd.R_far (p := ⟨gb253, 0, none⟩) (Kd.R_types (Kd.R_types HO248.out BK253.out (by decide)) BK245.out (by decide)) (fun _ hk => hk.1.2) (.string t254)) (fun _ hk => hk.1.2) (.int .i64 t255)) (fun _ hk => hk.1.2) (.bool t256)) (fun _ hk => hk.2) (.int .i64 t257)) (fun _ h_ => h_.1)) (fun _ h_ => h_.1))))) bz_); replace HO248 := am_ (Kd.R_elder' (by (with_reducible repeat (first | apply Kd.R_alloc | apply Kd.R_drewN | apply Kd.R_drew)); exact (Kd.R_mono (Kd.R_mono (Kd.R_far (p := ⟨gb245, 0, none⟩) (Kd.R_far (p := ⟨gb253, 2, none⟩) (Kd.R_far (p := ⟨gb253, 1, none⟩) (Kd.R_far (p := ⟨gb253, 0, none⟩) (Kd.R_types (Kd.R_types HO248.out BK253.out (by decide)) BK245.out (by decide)) (fun _ hk => hk.1.2) (.string t254)) (fun _ hk => hk.1.2) (.int .i64 t255)) (fun _ hk => hk.1.2) (.bool t256)) (fun _ hk => hk.2) (.int .i64 t257)) (fun _ h_ => h_.1)) (fun _ h_ => h_.1))) (Kd.R_base ho20) hb); replace BK244 := am_ (blk_below (g := gb244) (o := .cells #[.int .i64 0, .slice none 0 0, .slice none 0 0] 26 (0, 0)) (by refine bp_ ?_; refine blk_far ?_ NB244_245.out _; refine bp_ ?_; refine blk_far ?_ NB244_253.out _; refine bp_ ?_; refine blk_far ?_ NB244_253.out _; refine bp_ ?_; refine blk_far ?_ NB244_253.out _; exact bk_ BK244.out) hb); replace BK245 := am_ (blk_below (g := gb245) (o := .cells #[.int .i64 t257, .slice none 0 0, .slice none 0 0] 26 (0, 0)) (by refine bp_ ?_; refine blk_put (cs := #[.int .i64 0, .slice none 0 0, .slice none 0 0]) ?_ 0 _ rfl; refine bp_ ?_; refine blk_far ?_ NB245_253.out _; refine bp_ ?_; refine blk_far ?_ NB245_253.out _; refine bp_ ?_; refine blk_far ?_ NB245_253.out _; exact bk_ BK245.out) hb); replace BK253 := am_ (blk_below (g := gb253) (o := .cells #[.string t254, .int .i64 t255, .bool t256] 52 (0, 0)) (by refine bp_ ?_; refine blk_far ?_ NB253_245.out _; refine bp_ ?_; refine blk_put (cs := #[.string t254, .int .i64 t255, .bool t251]) ?_ 2 _ rfl; refine bp_ ?_; refine blk_put (cs := #[.string t254, .int .i64 t250, .bool t251]) ?_ 1 _ rfl; refine bp_ ?_; refine blk_put (cs := #[.string t249, .int .i64 t250, .bool t251]) ?_ 0 _ rfl; exact bk_ BK253.out) hb); replace HB := bt_ hb; clear hb ho20; obtain ⟨Ao21, co21, eo21⟩ := Kd.R_slice HO260.out; subst eo21) | ((with_reducible refine gate_callee (f := 20) rfl ?_); refine goesL_ (some 28) rfl rfl Tryd.func20 (by kernel_rfl) rfl #[.agg #[.string t254, .int .i64 t255, .bool t256], .slice Ao21 y258.length co21] rfl (by (try simp only [List.map_toArray, List.map_cons, List.map_nil]); first | done | rfl | (simp only [List.length_drop, List.length_take]; rfl)) ?_; (with_reducible refine (computusref25_Word.calls k t254 t255 t256 _ _ y258 t261 t262 t263 t264 _ ?side1 ?side2 A4.out).mono ?_); (case side1 => exact ck_ (Kd.R_reads' HO260.out).2.2); (case side2 => exact (Kd.R_reads' HO260.out).2.1); rintro e w22 ⟨rfl, hb⟩; refine ⟨_, rfl, ?_⟩; replace HO248 := rw_ HO248 hb; replace HO260 := rw_ HO260 hb; replace BK244 := bw_ BK244 hb; replace BK245 := bw_ BK245 hb; replace BK253 := bw_ BK253 hb; replace HB := bt_ hb; (try clear hb); (try clear hk); obtain ⟨hcz23_0, hcz23_1, hcz23_2⟩ := cz3_ BK253.out; obtain ⟨hfz23_0, hfz23_1, hfz23_2⟩ := fz3_ BK253.out) | ((with_reducible refine gate_dst (N := 31) rfl ?_); refine Kd.R_lit Kd.string _ 9 ?hg (N := 31) ?hd (xs := ([(⟨#[101, 110, 100, 10]⟩ : ByteArray), (⟨#[102, 101, 97, 115, 116]⟩ : ByteArray), (⟨#[115, 101, 97, 115, 111, 110]⟩ : ByteArray)] : List ByteArray)) (inner := [.string (⟨#[101, 110, 100, 10]⟩ : ByteArray), .string (⟨#[102, 101, 97, 115, 116]⟩ : ByteArray), .string (⟨#[115, 101, 97, 115, 111, 110]⟩ : ByteArray)]) (ok := fun _ => True) (okp := fun _ => True) ?hr ?hp (fun _ hk => hk) trivial (Below.refl _ _) (Nat.le_refl _) (by simp) ?_; (case hd => rfl); (case hg => rfl); (case hr => first | (go_simp; done) | (go_simp; rfl)); (case hp => exact (Reps.one (show Kd.M Kd.string _ _ _ (⟨#[101, 110, 100, 10]⟩ : ByteArray) [.string (⟨#[101, 110, 100, 10]⟩ : ByteArray)] from rfl) (Reps.one (show Kd.M Kd.string _ _ _ (⟨#[102, 101, 97, 115, 116]⟩ : ByteArray) [.string (⟨#[102, 101, 97, 115, 116]⟩ : ByteArray)] from rfl) (Reps.one (show Kd.M Kd.string _ _ _ (⟨#[115, 101, 97, 115, 111, 110]⟩ : ByteArray) [.string (⟨#[115, 101, 97, 115, 111, 110]⟩ : ByteArray)] from rfl) (Reps.none _ _))))); intro v266 w24 ho25 hb hg_ hnew_; clear hg_ hnew_; (first | rw [← Ny265.out] at ho25 | (simp only [Int.reduceToNat] at ho25; rw [← Ny265.out] at ho25)); have HO267 := am_ (Kd.R_lower (Kd.R_new' (Kd.R_new' ho25 (Kd.R_lt (fa_ HO248 BK253))) (Kd.R_lt (fa_ HO260 BK253))) bz_); replace HO248 := am_ (Kd.R_elder' (fa_ HO248 BK253) (Kd.R_base ho25) hb); replace HO260 := am_ (Kd.R_elder' (fa_ HO260 BK253) (Kd.R_base ho25) hb); replace BK244 := am_ (blk_below (g := gb244) (o := .cells #[.int .i64 0, .slice none 0 0, .slice none 0 0] 26 (0, 0)) (by refine bp_ ?_; refine blk_far ?_ NB244_253.out _; refine bp_ ?_; refine blk_far ?_ NB244_253.out _; refine bp_ ?_; refine blk_far ?_ NB244_253.out _; exact bk_ BK244.out) hb); replace BK245 := am_ (blk_below (g := gb245) (o := .cells #[.int .i64 t257, .slice none 0 0, .slice none 0 0] 26 (0, 0)) (by refine bp_ ?_; refine blk_far ?_ NB245_253.out _; refine bp_ ?_; refine blk_far ?_ NB245_253.out _; refine bp_ ?_; refine blk_far ?_ NB245_253.out _; exact bk_ BK245.out) hb); replace BK253 := am_ (blk_below (g := gb253) (o := .cells #[.string t261, .int .i64 t262, .bool t263] 52 (0, 0)) (by refine bp_ ?_; refine blk_put (cs := #[.string t261, .int .i64 t262, .bool t256]) ?_ 2 _ rfl; refine bp_ ?_; refine blk_put (cs := #[.string t261, .int .i64 t255, .bool t256]) ?_ 1 _ rfl; refine bp_ ?_; refine blk_put (cs := #[.string t254, .int .i64 t255, .bool t256]) ?_ 0 _ rfl; exact bk_ BK253.out) hb); replace HB := bt_ hb; clear hb ho25))
 go_loopg [8] k (fun kq v8 w' => ∃ (x8_1 : List ByteArray) (x246001_1 : List (S41)) (x246002_1 : List (S43)) (x254000_1 : ByteArray) (x254001_1 : Int) (x254002_1 : Bool) (u246001 : Value) (u246002 : Value), Aside0 (computusref26_Parse.l0 kq x8_1 t257 x246001_1 x246002_1 x254000_1 x254001_1 x254002_1 = some (r1, r2, r3, r4, r5)) ∧ Aside0 (kq ≤ k) ∧ Aside0 (Kd.R Kd.string 9 w' w.heap.size (fun _ => True) v8 x8_1) ∧ Aside0 (Kd.R k41 41 w' w.heap.size (fun _ => True) u246001 x246001_1) ∧ Aside0 (Kd.R k43 43 w' w.heap.size (fun _ => True) u246002 x246002_1) ∧ Aside0 (w'.heap[gb244]? = some (.cells #[.int .i64 0, (.slice none 0 0), (.slice none 0 0)] 26 (0, 0))) ∧ Aside0 (w'.heap[gb245]? = some (.cells #[.int .i64 t257, u246001, u246002] 26 (0, 0))) ∧ Aside0 (w'.heap[gb253]? = some (.cells #[.string x254000_1, .int .i64 x254001_1, .bool x254002_1] 52 (0, 0))) ∧ Aside0 (Below w.heap.size w w'))
 case atStart => exact ⟨(y265), (([] : List (S41))), (([] : List (S43))), (t261), (t262), (t263), (.slice none 0 0), (.slice none 0 0), H', ⟨Nat.le_refl _⟩, ⟨by (with_reducible repeat (first | apply Kd.R_alloc | apply Kd.R_drewN | apply Kd.R_drew)); exact Kd.R_mono HO267.out (fun _ hk => trivial)⟩, ⟨nl_⟩, ⟨nl_⟩, ⟨bk_ BK244.out⟩, ⟨bk_ BK245.out⟩, ⟨bk_ BK253.out⟩, ⟨bh_⟩⟩
 case round =>
  clear H'
  obtain ⟨x8_1, x246001_1, x246002_1, x254000_1, x254001_1, x254002_1, u246001, u246002, HA, HK1, HO_8, HO_246001, HO_246002, BK244, BK245, BK253, HB⟩ := hrel
  cases gk with
  | zero => exact absurd HA.out (by simp [computusref26_Parse.l0])
  | succ k1 =>
   have H := HA.out
   clear HA
   simp only [computusref26_Parse.l0] at H
   by_cases c26 : x254002_1 = true
   ·subst c26
    replace H := it_ H
    simp only [Option.some.injEq, Prod.mk.injEq] at H
    obtain ⟨rfl, rfl, rfl, rfl, rfl⟩ := H
    have hnb27 := NB253_244.out
    have hnc27 := NB244_253.out
    have hnb28 := NB253_245.out
    have hnc28 := NB245_253.out
    obtain ⟨hcz29_0, hcz29_1, hcz29_2⟩ := cz3_ BK253.out
    obtain ⟨hfz29_0, hfz29_1, hfz29_2⟩ := fz3_ BK253.out
    try go_wp2
    replace HO_8 := am_ (Kd.R_drew HO_8.out)
    replace HO_246001 := am_ (Kd.R_drew HO_246001.out)
    replace HO_246002 := am_ (Kd.R_drew HO_246002.out)
    replace BK244 := am_ (blk_drew BK244.out)
    replace BK245 := am_ (blk_drew BK245.out)
    replace BK253 := am_ (blk_drew BK253.out)
    replace HB := am_ (below_drew1 HB.out)
    refine start_ (n := 6) (S := fun w' => w'.cell? ⟨gb253, 0, none⟩ = some (.string x254000_1) ∧ w'.cell? ⟨gb253, 1, none⟩ = some (.int .i64 x254001_1) ∧ w'.cell? ⟨gb253, 2, none⟩ = some (.bool true)) (ds := []) (bf_ 6 0) (by kernel_rfl) rfl rfl (cz3_ BK253.out) (fun hHeld => ?_)
    generalize wr.drew = w30 at HO_8 HO_246001 HO_246002 BK244 BK245 BK253 HB hHeld ⊢
    refine pure_ (i := 0) (N := some 117) (v := ?_) (a' := ?_) (bf_ 6 1) rfl rfl (by kernel_rfl) (fun _ _ _ h => h) (Or.inl ⟨by rfl, ?_⟩) ?_ ?_
    rotate_left
    ·intro w'
     go_simp
     with_reducible rfl
    rotate_left
    ·simp only [Act.put, sA_, sZ_, sS_, i64_w, i32_w]
     rfl
    refine pure_ (i := 1) (N := some 118) (v := ?_) (a' := ?_) (bf_ 6 3) rfl rfl (by kernel_rfl) (fun _ _ _ h => h) (Or.inl ⟨by rfl, ?_⟩) ?_ ?_
    rotate_left
    ·intro w'
     go_simp
     with_reducible rfl
    rotate_left
    ·simp only [Act.put, sA_, sZ_, sS_, i64_w, i32_w]
     rfl
    refine take_ (i := 2) (N := some 119) (v := ?_) (a' := ?_) (bf_ 6 7) rfl rfl (by kernel_rfl) (fun _ _ _ h => h) (Or.inl ⟨by rfl, ?_⟩) hHeld ?_ ?_
    rotate_left
    ·rintro w' ⟨s0, s1, s2⟩
     go_simp
     with_reducible rfl
    rotate_left
    ·simp only [Act.put, sA_, sZ_, sS_, i64_w, i32_w]
     rfl
    refine one_ (i := 3) (N := none) (bf_ 6 15) rfl rfl (by kernel_rfl) (by decide) (fun K hK => ?_)
    have hs31 : w30.cell? ⟨gb244, 0, none⟩ = some (.int .i64 0) := (blk_cell BK244.out 0).trans rfl
    have hfs31 := blk_frozen BK244.out 0
    have hns31_1 := NB245_244.out
    have hns31_2 := NB253_244.out
    have hms31_1 := NB244_245.out
    have hms31_2 := NB244_253.out
    have hs32 : w30.cell? ⟨gb244, 1, none⟩ = some (.slice none 0 0) := (blk_cell BK244.out 1).trans rfl
    have hfs32 := blk_frozen BK244.out 1
    have hns32_1 := NB245_244.out
    have hns32_2 := NB253_244.out
    have hms32_1 := NB244_245.out
    have hms32_2 := NB244_253.out
    have hs33 : w30.cell? ⟨gb244, 2, none⟩ = some (.slice none 0 0) := (blk_cell BK244.out 2).trans rfl
    have hfs33 := blk_frozen BK244.out 2
    have hns33_1 := NB245_244.out
    have hns33_2 := NB253_244.out
    have hms33_1 := NB244_245.out
    have hms33_2 := NB244_253.out
    refine skip_ (w1 := ?_) (by rfl) rfl ?_ ?_
    rotate_left
    ·go_simp
     rfl
    refine hK.out _ _ ⟨((cell_far (p := ⟨gb244, _, none⟩) NB253_244.out _).trans (((cell_far (p := ⟨gb244, _, none⟩) NB253_244.out _).trans (((cell_far (p := ⟨gb244, _, none⟩) NB253_244.out _).trans (hHeld.1)))))), ((cell_far (p := ⟨gb244, _, none⟩) NB253_244.out _).trans (((cell_far (p := ⟨gb244, _, none⟩) NB253_244.out _).trans (((cell_far (p := ⟨gb244, _, none⟩) NB253_244.out _).trans (hHeld.2.1)))))), ((cell_far (p := ⟨gb244, _, none⟩) NB253_244.out _).trans (((cell_far (p := ⟨gb244, _, none⟩) NB253_244.out _).trans (((cell_far (p := ⟨gb244, _, none⟩) NB253_244.out _).trans (hHeld.2.2))))))⟩ (fun hHeld => ?_)
    clear hK K
    refine pure_ (i := 4) (N := some 3) (v := ?_) (a' := ?_) (bf_ 6 31) rfl rfl (by kernel_rfl) (fun _ _ _ h => h) (Or.inl ⟨by rfl, ?_⟩) ?_ ?_
    rotate_left
    ·intro w'
     go_simp
     with_reducible rfl
    rotate_left
    ·simp only [Act.put, sA_, sZ_, sS_, i64_w, i32_w]
     rfl
    refine pure_ (i := 5) (N := some 4) (v := ?_) (a' := ?_) (bf_ 6 63) rfl rfl (by kernel_rfl) (fun _ _ _ h => h) (Or.inl ⟨by rfl, ?_⟩) ?_ ?_
    rotate_left
    ·intro w'
     go_simp
     with_reducible rfl
    rotate_left
    ·simp only [Act.put, sA_, sZ_, sS_, i64_w, i32_w]
     rfl
    refine done_ (by kernel_rfl) ?_
    try go_wp2
    refine bodyPost_ret (results_ctt rfl _ _ gb244 26 #[.int .i64 0, .slice none 0 0, .slice none 0 0] (0, 0) _ rfl (by refine bp_ ?_; refine blk_put (cs := #[.int .i64 0, .slice none 0 0, .slice none 0 0]) ?_ 2 _ rfl; refine bp_ ?_; refine blk_put (cs := #[.int .i64 0, .slice none 0 0, .slice none 0 0]) ?_ 1 _ rfl; refine bp_ ?_; refine blk_put (cs := #[.int .i64 0, .slice none 0 0, .slice none 0 0]) ?_ 0 _ rfl; exact bk_ BK244.out) Tryd.underlying26 rfl (by kernel_rfl)) rfl ?_
    exact ⟨_, _, by first | rfl | (simp [errW_none, errW_some] <;> rfl) | (simp [*, errW_none, errW_some] <;> rfl), by first | exact Kd.R_nil _ _ _ _ _ | exact Kd.N_nil _ _ _ _ _ | exact Kd.V_nil _ _ _ _ _ | exact Kd.Q_nil _ _ _ _ _ | exact Kd.S_nil _ _ _ _ _, by first | exact Kd.R_nil _ _ _ _ _ | exact Kd.N_nil _ _ _ _ _ | exact Kd.V_nil _ _ _ _ _ | exact Kd.Q_nil _ _ _ _ _ | exact Kd.S_nil _ _ _ _ _, bh_⟩
   replace c26 := Bool.eq_false_iff.mpr c26
   subst c26
   replace H := if_ H
   obtain ⟨⟨t268, t269, t270, t271⟩, A34, H⟩ := bs_ H
   dsimp only at H
   by_cases c35 : t271 = 0
   ·rw [if_pos c35] at H
    have c35b0 : (t271 == 0) = true := beq_iff_eq.mpr c35
    have c35b1 : (t271 != 0) = false := bne_eq_false_iff_eq.mpr c35
    clear c35
    obtain ⟨⟨t272, t273, t274⟩, A36, H⟩ := bs_ H
    dsimp only at H
    by_cases c37 : t274 = true
    rotate_left
    ·replace c37 := Bool.eq_false_iff.mpr c37
     subst c37
     replace H := if_ H
     simp only [Option.some.injEq, Prod.mk.injEq] at H
     obtain ⟨rfl, rfl, rfl, rfl, rfl⟩ := H
     have hnb51 := NB253_244.out
     have hnc51 := NB244_253.out
     have hnb52 := NB253_245.out
     have hnc52 := NB245_253.out
     obtain ⟨hcz53_0, hcz53_1, hcz53_2⟩ := cz3_ BK253.out
     obtain ⟨hfz53_0, hfz53_1, hfz53_2⟩ := fz3_ BK253.out
     obtain ⟨Ao54, co54, eo54⟩ := Kd.R_slice HO_8.out
     subst eo54
     go_wp2_with (first | ((with_reducible refine gate_callee (f := 20) rfl ?_); refine goesL_ (some 38) rfl rfl Tryd.func20 (by kernel_rfl) rfl #[.agg #[.string x254000_1, .int .i64 x254001_1, .bool false], .slice Ao54 x8_1.length co54] rfl (by (try simp only [List.map_toArray, List.map_cons, List.map_nil]); first | done | rfl | (simp only [List.length_drop, List.length_take]; rfl)) ?_; (with_reducible refine (computusref25_Word.calls k1 x254000_1 x254001_1 false _ _ x8_1 t268 t269 t270 t271 _ ?side1 ?side2 A34.out).mono ?_); (case side1 => exact ck_ (Kd.R_reads' HO_8.out).2.2); (case side2 => exact (Kd.R_reads' HO_8.out).2.1); rintro e w55 ⟨rfl, hb⟩; refine ⟨_, rfl, ?_⟩; replace HO_8 := am_ (Kd.R_below (rk_ HO_8.out) hb); replace HO_246001 := am_ (Kd.R_below (rk_ HO_246001.out) hb); replace HO_246002 := am_ (Kd.R_below (rk_ HO_246002.out) hb); replace BK244 := bw_ BK244 hb; replace BK245 := bw_ BK245 hb; replace BK253 := bw_ BK253 hb; replace HB := bt_ hb; (try clear hb); obtain ⟨hcz56_0, hcz56_1, hcz56_2⟩ := cz3_ BK253.out; obtain ⟨hfz56_0, hfz56_1, hfz56_2⟩ := fz3_ BK253.out) | ((with_reducible refine gate_callee (f := 22) rfl ?_); refine goesL_ (some 44) rfl rfl Tryd.func22 (by kernel_rfl) rfl #[.agg #[.string t268, .int .i64 t269, .bool t270]] rfl (by (try simp only [List.map_toArray, List.map_cons, List.map_nil]); first | done | rfl | (simp only [List.length_drop, List.length_take]; rfl)) ?_; (with_reducible refine (computusref25_End.calls t268 t269 t270 t272 t273 false _ A36.out).mono ?_); rintro e w57 ⟨rfl, hb⟩; refine ⟨_, rfl, ?_⟩; replace HO_8 := am_ (Kd.R_below (fa_ HO_8 BK253) hb); replace HO_246001 := am_ (Kd.R_below (fa_ HO_246001 BK253) hb); replace HO_246002 := am_ (Kd.R_below (fa_ HO_246002 BK253) hb); replace BK244 := am_ (blk_below (g := gb244) (o := .cells #[.int .i64 0, .slice none 0 0, .slice none 0 0] 26 (0, 0)) (by refine bp_ ?_; refine blk_far ?_ NB244_253.out _; refine bp_ ?_; refine blk_far ?_ NB244_253.out _; refine bp_ ?_; refine blk_far ?_ NB244_253.out _; exact bk_ BK244.out) hb); replace BK245 := am_ (blk_below (g := gb245) (o := .cells #[.int .i64 t257, u246001, u246002] 26 (0, 0)) (by refine bp_ ?_; refine blk_far ?_ NB245_253.out _; refine bp_ ?_; refine blk_far ?_ NB245_253.out _; refine bp_ ?_; refine blk_far ?_ NB245_253.out _; exact bk_ BK245.out) hb); replace BK253 := am_ (blk_below (g := gb253) (o := .cells #[.string t268, .int .i64 t269, .bool t270] 52 (0, 0)) (by refine bp_ ?_; refine blk_put (cs := #[.string t268, .int .i64 t269, .bool false]) ?_ 2 _ rfl; refine bp_ ?_; refine blk_put (cs := #[.string t268, .int .i64 x254001_1, .bool false]) ?_ 1 _ rfl; refine bp_ ?_; refine blk_put (cs := #[.string x254000_1, .int .i64 x254001_1, .bool false]) ?_ 0 _ rfl; exact bk_ BK253.out) hb); replace HB := bt_ hb; (try clear hb); obtain ⟨hcz58_0, hcz58_1, hcz58_2⟩ := cz3_ BK253.out; obtain ⟨hfz58_0, hfz58_1, hfz58_2⟩ := fz3_ BK253.out; have hnb59 := NB245_244.out; have hnc59 := NB244_245.out; obtain ⟨hcz60_0, hcz60_1, hcz60_2⟩ := cz3_ BK245.out; obtain ⟨hfz60_0, hfz60_1, hfz60_2⟩ := fz3_ BK245.out; obtain ⟨hcz61_0, hcz61_1, hcz61_2⟩ := cz3_ BK244.out; obtain ⟨hfz61_0, hfz61_1, hfz61_2⟩ := fz3_ BK244.out; obtain ⟨Ao62, co62, eo62⟩ := Kd.R_slice HO_246001.out; subst eo62; obtain ⟨Ao63, co63, eo63⟩ := Kd.R_slice HO_246002.out; subst eo63))
     refine bodyPost_ret (results_ctt rfl _ _ gb244 26 #[.int .i64 t257, .slice Ao62 x246001_1.length co62, .slice Ao63 x246002_1.length co63] (0, 0) _ rfl (by refine bp_ ?_; refine blk_put (cs := #[.int .i64 t257, .slice Ao62 x246001_1.length co62, .slice none 0 0]) ?_ 2 _ rfl; refine bp_ ?_; refine blk_put (cs := #[.int .i64 t257, .slice none 0 0, .slice none 0 0]) ?_ 1 _ rfl; refine bp_ ?_; refine blk_put (cs := #[.int .i64 0, .slice none 0 0, .slice none 0 0]) ?_ 0 _ rfl; refine bp_ ?_; refine blk_far ?_ NB244_253.out _; refine bp_ ?_; refine blk_far ?_ NB244_253.out _; refine bp_ ?_; refine blk_far ?_ NB244_253.out _; exact bk_ BK244.out) Tryd.underlying26 rfl (by kernel_rfl)) rfl ?_
     exact ⟨_, _, by first | rfl | (simp [errW_none, errW_some] <;> rfl) | (simp [*, errW_none, errW_some] <;> rfl), by (with_reducible repeat (first | apply Kd.R_alloc | apply Kd.R_drewN | apply Kd.R_drew)); exact Kd.R_mono (Kd.R_far (p := ⟨gb244, 2, none⟩) (Kd.R_far (p := ⟨gb244, 1, none⟩) (Kd.R_far (p := ⟨gb244, 0, none⟩) (Kd.R_far (p := ⟨gb253, 2, none⟩) (Kd.R_far (p := ⟨gb253, 1, none⟩) (Kd.R_far (p := ⟨gb253, 0, none⟩) (Kd.R_types (Kd.R_types HO_246001.out BK253.out (by decide)) BK244.out (by decide)) (fun _ hk => hk.1.2) (.string t272)) (fun _ hk => hk.1.2) (.int .i64 t273)) (fun _ hk => hk.1.2) (.bool false)) (fun _ hk => hk.2) (.int .i64 t257)) (fun _ hk => hk.2) (.slice Ao62 x246001_1.length co62)) (fun _ hk => hk.2) (.slice Ao63 x246002_1.length co63)) (fun _ hk => trivial), by (with_reducible repeat (first | apply Kd.R_alloc | apply Kd.R_drewN | apply Kd.R_drew)); exact Kd.R_mono (Kd.R_far (p := ⟨gb244, 2, none⟩) (Kd.R_far (p := ⟨gb244, 1, none⟩) (Kd.R_far (p := ⟨gb244, 0, none⟩) (Kd.R_far (p := ⟨gb253, 2, none⟩) (Kd.R_far (p := ⟨gb253, 1, none⟩) (Kd.R_far (p := ⟨gb253, 0, none⟩) (Kd.R_types (Kd.R_types HO_246002.out BK253.out (by decide)) BK244.out (by decide)) (fun _ hk => hk.1.2) (.string t272)) (fun _ hk => hk.1.2) (.int .i64 t273)) (fun _ hk => hk.1.2) (.bool false)) (fun _ hk => hk.2) (.int .i64 t257)) (fun _ hk => hk.2) (.slice Ao62 x246001_1.length co62)) (fun _ hk => hk.2) (.slice Ao63 x246002_1.length co63)) (fun _ hk => trivial), bh_⟩
    subst c37
    replace H := it_ H
    simp only [Option.some.injEq, Prod.mk.injEq] at H
    obtain ⟨rfl, rfl, rfl, rfl, rfl⟩ := H
    have hnb38 := NB253_244.out
    have hnc38 := NB244_253.out
    have hnb39 := NB253_245.out
    have hnc39 := NB245_253.out
    obtain ⟨hcz40_0, hcz40_1, hcz40_2⟩ := cz3_ BK253.out
    obtain ⟨hfz40_0, hfz40_1, hfz40_2⟩ := fz3_ BK253.out
    obtain ⟨Ao41, co41, eo41⟩ := Kd.R_slice HO_8.out
    subst eo41
    try go_wp2_with (first | ((with_reducible refine gate_callee (f := 20) rfl ?_); refine goesL_ (some 38) rfl rfl Tryd.func20 (by kernel_rfl) rfl #[.agg #[.string x254000_1, .int .i64 x254001_1, .bool false], .slice Ao41 x8_1.length co41] rfl (by (try simp only [List.map_toArray, List.map_cons, List.map_nil]); first | done | rfl | (simp only [List.length_drop, List.length_take]; rfl)) ?_; (with_reducible refine (computusref25_Word.calls k1 x254000_1 x254001_1 false _ _ x8_1 t268 t269 t270 t271 _ ?side1 ?side2 A34.out).mono ?_); (case side1 => exact ck_ (Kd.R_reads' HO_8.out).2.2); (case side2 => exact (Kd.R_reads' HO_8.out).2.1); rintro e w42 ⟨rfl, hb⟩; refine ⟨_, rfl, ?_⟩; replace HO_8 := am_ (Kd.R_below (rk_ HO_8.out) hb); replace HO_246001 := am_ (Kd.R_below (rk_ HO_246001.out) hb); replace HO_246002 := am_ (Kd.R_below (rk_ HO_246002.out) hb); replace BK244 := bw_ BK244 hb; replace BK245 := bw_ BK245 hb; replace BK253 := bw_ BK253 hb; replace HB := bt_ hb; (try clear hb); obtain ⟨hcz43_0, hcz43_1, hcz43_2⟩ := cz3_ BK253.out; obtain ⟨hfz43_0, hfz43_1, hfz43_2⟩ := fz3_ BK253.out) | ((with_reducible refine gate_callee (f := 22) rfl ?_); refine goesL_ (some 44) rfl rfl Tryd.func22 (by kernel_rfl) rfl #[.agg #[.string t268, .int .i64 t269, .bool t270]] rfl (by (try simp only [List.map_toArray, List.map_cons, List.map_nil]); first | done | rfl | (simp only [List.length_drop, List.length_take]; rfl)) ?_; (with_reducible refine (computusref25_End.calls t268 t269 t270 t272 t273 true _ A36.out).mono ?_); rintro e w44 ⟨rfl, hb⟩; refine ⟨_, rfl, ?_⟩; replace HO_8 := am_ (Kd.R_below (fa_ HO_8 BK253) hb); replace HO_246001 := am_ (Kd.R_below (fa_ HO_246001 BK253) hb); replace HO_246002 := am_ (Kd.R_below (fa_ HO_246002 BK253) hb); replace BK244 := am_ (blk_below (g := gb244) (o := .cells #[.int .i64 0, .slice none 0 0, .slice none 0 0] 26 (0, 0)) (by refine bp_ ?_; refine blk_far ?_ NB244_253.out _; refine bp_ ?_; refine blk_far ?_ NB244_253.out _; refine bp_ ?_; refine blk_far ?_ NB244_253.out _; exact bk_ BK244.out) hb); replace BK245 := am_ (blk_below (g := gb245) (o := .cells #[.int .i64 t257, u246001, u246002] 26 (0, 0)) (by refine bp_ ?_; refine blk_far ?_ NB245_253.out _; refine bp_ ?_; refine blk_far ?_ NB245_253.out _; refine bp_ ?_; refine blk_far ?_ NB245_253.out _; exact bk_ BK245.out) hb); replace BK253 := am_ (blk_below (g := gb253) (o := .cells #[.string t268, .int .i64 t269, .bool t270] 52 (0, 0)) (by refine bp_ ?_; refine blk_put (cs := #[.string t268, .int .i64 t269, .bool false]) ?_ 2 _ rfl; refine bp_ ?_; refine blk_put (cs := #[.string t268, .int .i64 x254001_1, .bool false]) ?_ 1 _ rfl; refine bp_ ?_; refine blk_put (cs := #[.string x254000_1, .int .i64 x254001_1, .bool false]) ?_ 0 _ rfl; exact bk_ BK253.out) hb); replace HB := bt_ hb; (try clear hb); obtain ⟨hcz45_0, hcz45_1, hcz45_2⟩ := cz3_ BK253.out; obtain ⟨hfz45_0, hfz45_1, hfz45_2⟩ := fz3_ BK253.out))
    have n0_ : Aside0 (Kd.R Kd.string 9 (((w44.setCell ⟨gb253, 0, none⟩ (.string t272)).setCell ⟨gb253, 1, none⟩ (.int .i64 t273)).setCell ⟨gb253, 2, none⟩ (.bool true)) w.heap.size (fun _ => True) (.slice Ao41 x8_1.length co41) x8_1) := ⟨fa_ HO_8 BK253⟩
    have n1_ : Aside0 (Kd.R k41 41 (((w44.setCell ⟨gb253, 0, none⟩ (.string t272)).setCell ⟨gb253, 1, none⟩ (.int .i64 t273)).setCell ⟨gb253, 2, none⟩ (.bool true)) w.heap.size (fun _ => True) u246001 x246001_1) := ⟨fa_ HO_246001 BK253⟩
    have n2_ : Aside0 (Kd.R k43 43 (((w44.setCell ⟨gb253, 0, none⟩ (.string t272)).setCell ⟨gb253, 1, none⟩ (.int .i64 t273)).setCell ⟨gb253, 2, none⟩ (.bool true)) w.heap.size (fun _ => True) u246002 x246002_1) := ⟨fa_ HO_246002 BK253⟩
    have n3_ : Aside0 ((((w44.setCell ⟨gb253, 0, none⟩ (.string t272)).setCell ⟨gb253, 1, none⟩ (.int .i64 t273)).setCell ⟨gb253, 2, none⟩ (.bool true)).heap[gb244]? = some (.cells #[.int .i64 0, .slice none 0 0, .slice none 0 0] 26 (0, 0))) := ⟨bf1_ NB244_253 BK244⟩
    have n4_ : Aside0 ((((w44.setCell ⟨gb253, 0, none⟩ (.string t272)).setCell ⟨gb253, 1, none⟩ (.int .i64 t273)).setCell ⟨gb253, 2, none⟩ (.bool true)).heap[gb245]? = some (.cells #[.int .i64 t257, u246001, u246002] 26 (0, 0))) := ⟨bf1_ NB245_253 BK245⟩
    have n5_ : Aside0 ((((w44.setCell ⟨gb253, 0, none⟩ (.string t272)).setCell ⟨gb253, 1, none⟩ (.int .i64 t273)).setCell ⟨gb253, 2, none⟩ (.bool true)).heap[gb253]? = some (.cells #[.string t272, .int .i64 t273, .bool true] 52 (0, 0))) := ⟨by refine bp_ ?_; refine blk_put (cs := #[.string t272, .int .i64 t273, .bool t270]) ?_ 2 _ rfl; refine bp_ ?_; refine blk_put (cs := #[.string t272, .int .i64 t269, .bool t270]) ?_ 1 _ rfl; refine bp_ ?_; refine blk_put (cs := #[.string t268, .int .i64 t269, .bool t270]) ?_ 0 _ rfl; exact bk_ BK253.out⟩
    have n6_ : Aside0 (Below w.heap.size w (((w44.setCell ⟨gb253, 0, none⟩ (.string t272)).setCell ⟨gb253, 1, none⟩ (.int .i64 t273)).setCell ⟨gb253, 2, none⟩ (.bool true))) := ⟨bh_⟩
    (try clear HO_8)
    (try clear HO_246001)
    (try clear HO_246002)
    (try clear BK244)
    (try clear BK245)
    (try clear BK253)
    (try clear HB)
    generalize (((w44.setCell ⟨gb253, 0, none⟩ (.string t272)).setCell ⟨gb253, 1, none⟩ (.int .i64 t273)).setCell ⟨gb253, 2, none⟩ (.bool true)) = w46 at n0_ n1_ n2_ n3_ n4_ n5_ n6_ ⊢
    have HO_8 := n0_
    have HO_246001 := n1_
    have HO_246002 := n2_
    have BK244 := n3_
    have BK245 := n4_
    have BK253 := n5_
    have HB := n6_
    clear n0_ n1_ n2_ n3_ n4_ n5_ n6_
    replace HO_8 := am_ (Kd.R_drew HO_8.out)
    replace HO_246001 := am_ (Kd.R_drew HO_246001.out)
    replace HO_246002 := am_ (Kd.R_drew HO_246002.out)
    replace BK244 := am_ (blk_drew BK244.out)
    replace BK245 := am_ (blk_drew BK245.out)
    replace BK253 := am_ (blk_drew BK253.out)
    replace HB := am_ (below_drew1 HB.out)
    refine start_ (n := 6) (S := fun w' => w'.cell? ⟨gb253, 0, none⟩ = some (.string t272) ∧ w'.cell? ⟨gb253, 1, none⟩ = some (.int .i64 t273) ∧ w'.cell? ⟨gb253, 2, none⟩ = some (.bool true)) (ds := []) (bf_ 6 0) (by kernel_rfl) rfl rfl (cz3_ BK253.out) (fun hHeld => ?_)
    generalize w46.drew = w47 at HO_8 HO_246001 HO_246002 BK244 BK245 BK253 HB hHeld ⊢
    refine pure_ (i := 0) (N := some 117) (v := ?_) (a' := ?_) (bf_ 6 1) rfl rfl (by kernel_rfl) (fun _ _ _ h => h) (Or.inl ⟨by rfl, ?_⟩) ?_ ?_
    rotate_left
    ·intro w'
     go_simp
     with_reducible rfl
    rotate_left
    ·simp only [Act.put, sA_, sZ_, sS_, i64_w, i32_w]
     rfl
    refine pure_ (i := 1) (N := some 118) (v := ?_) (a' := ?_) (bf_ 6 3) rfl rfl (by kernel_rfl) (fun _ _ _ h => h) (Or.inl ⟨by rfl, ?_⟩) ?_ ?_
    rotate_left
    ·intro w'
     go_simp
     with_reducible rfl
    rotate_left
    ·simp only [Act.put, sA_, sZ_, sS_, i64_w, i32_w]
     rfl
    refine take_ (i := 2) (N := some 119) (v := ?_) (a' := ?_) (bf_ 6 7) rfl rfl (by kernel_rfl) (fun _ _ _ h => h) (Or.inl ⟨by rfl, ?_⟩) hHeld ?_ ?_
    rotate_left
    ·rintro w' ⟨s0, s1, s2⟩
     go_simp
     with_reducible rfl
    rotate_left
    ·simp only [Act.put, sA_, sZ_, sS_, i64_w, i32_w]
     rfl
    refine one_ (i := 3) (N := none) (bf_ 6 15) rfl rfl (by kernel_rfl) (by decide) (fun K hK => ?_)
    have hs48 : w47.cell? ⟨gb244, 0, none⟩ = some (.int .i64 0) := (blk_cell BK244.out 0).trans rfl
    have hfs48 := blk_frozen BK244.out 0
    have hns48_1 := NB245_244.out
    have hns48_2 := NB253_244.out
    have hms48_1 := NB244_245.out
    have hms48_2 := NB244_253.out
    have hs49 : w47.cell? ⟨gb244, 1, none⟩ = some (.slice none 0 0) := (blk_cell BK244.out 1).trans rfl
    have hfs49 := blk_frozen BK244.out 1
    have hns49_1 := NB245_244.out
    have hns49_2 := NB253_244.out
    have hms49_1 := NB244_245.out
    have hms49_2 := NB244_253.out
    have hs50 : w47.cell? ⟨gb244, 2, none⟩ = some (.slice none 0 0) := (blk_cell BK244.out 2).trans rfl
    have hfs50 := blk_frozen BK244.out 2
    have hns50_1 := NB245_244.out
    have hns50_2 := NB253_244.out
    have hms50_1 := NB244_245.out
    have hms50_2 := NB244_253.out
    refine skip_ (w1 := ?_) (by rfl) rfl ?_ ?_
    rotate_left
    ·go_simp
     rfl
    refine hK.out _ _ ⟨((cell_far (p := ⟨gb244, _, none⟩) NB253_244.out _).trans (((cell_far (p := ⟨gb244, _, none⟩) NB253_244.out _).trans (((cell_far (p := ⟨gb244, _, none⟩) NB253_244.out _).trans (hHeld.1)))))), ((cell_far (p := ⟨gb244, _, none⟩) NB253_244.out _).trans (((cell_far (p := ⟨gb244, _, none⟩) NB253_244.out _).trans (((cell_far (p := ⟨gb244, _, none⟩) NB253_244.out _).trans (hHeld.2.1)))))), ((cell_far (p := ⟨gb244, _, none⟩) NB253_244.out _).trans (((cell_far (p := ⟨gb244, _, none⟩) NB253_244.out _).trans (((cell_far (p := ⟨gb244, _, none⟩) NB253_244.out _).trans (hHeld.2.2))))))⟩ (fun hHeld => ?_)
    clear hK K
    refine pure_ (i := 4) (N := some 3) (v := ?_) (a' := ?_) (bf_ 6 31) rfl rfl (by kernel_rfl) (fun _ _ _ h => h) (Or.inl ⟨by rfl, ?_⟩) ?_ ?_
    rotate_left
    ·intro w'
     go_simp
     with_reducible rfl
    rotate_left
    ·simp only [Act.put, sA_, sZ_, sS_, i64_w, i32_w]
     rfl
    refine pure_ (i := 5) (N := some 4) (v := ?_) (a' := ?_) (bf_ 6 63) rfl rfl (by kernel_rfl) (fun _ _ _ h => h) (Or.inl ⟨by rfl, ?_⟩) ?_ ?_
    rotate_left
    ·intro w'
     go_simp
     with_reducible rfl
    rotate_left
    ·simp only [Act.put, sA_, sZ_, sS_, i64_w, i32_w]
     rfl
    refine done_ (by kernel_rfl) ?_
    try go_wp2
    refine bodyPost_ret (results_ctt rfl _ _ gb244 26 #[.int .i64 0, .slice none 0 0, .slice none 0 0] (0, 0) _ rfl (by refine bp_ ?_; refine blk_put (cs := #[.int .i64 0, .slice none 0 0, .slice none 0 0]) ?_ 2 _ rfl; refine bp_ ?_; refine blk_put (cs := #[.int .i64 0, .slice none 0 0, .slice none 0 0]) ?_ 1 _ rfl; refine bp_ ?_; refine blk_put (cs := #[.int .i64 0, .slice none 0 0, .slice none 0 0]) ?_ 0 _ rfl; exact bk_ BK244.out) Tryd.underlying26 rfl (by kernel_rfl)) rfl ?_
    exact ⟨_, _, by first | rfl | (simp [errW_none, errW_some] <;> rfl) | (simp [*, errW_none, errW_some] <;> rfl), by first | exact Kd.R_nil _ _ _ _ _ | exact Kd.N_nil _ _ _ _ _ | exact Kd.V_nil _ _ _ _ _ | exact Kd.Q_nil _ _ _ _ _ | exact Kd.S_nil _ _ _ _ _, by first | exact Kd.R_nil _ _ _ _ _ | exact Kd.N_nil _ _ _ _ _ | exact Kd.V_nil _ _ _ _ _ | exact Kd.Q_nil _ _ _ _ _ | exact Kd.S_nil _ _ _ _ _, bh_⟩
   rw [if_neg c35] at H
   have c35b0 : (t271 == 0) = false := beq_eq_false_iff_ne.mpr c35
   have c35b1 : (t271 != 0) = true := bne_iff_ne.mpr c35
   have HC64 := am_ H
   clear H
   have hnb65 := NB253_244.out
   have hnc65 := NB244_253.out
   have hnb66 := NB253_245.out
   have hnc66 := NB245_253.out
   obtain ⟨hcz67_0, hcz67_1, hcz67_2⟩ := cz3_ BK253.out
   obtain ⟨hfz67_0, hfz67_1, hfz67_2⟩ := fz3_ BK253.out
   obtain ⟨Ao68, co68, eo68⟩ := Kd.R_slice HO_8.out
   subst eo68
   go_upto_if 46 with (first | ((with_reducible refine gate_callee (f := 20) rfl ?_); refine goesL_ (some 38) rfl rfl Tryd.func20 (by kernel_rfl) rfl #[.agg #[.string x254000_1, .int .i64 x254001_1, .bool false], .slice Ao68 x8_1.length co68] rfl (by (try simp only [List.map_toArray, List.map_cons, List.map_nil]); first | done | rfl | (simp only [List.length_drop, List.length_take]; rfl)) ?_; (with_reducible refine (computusref25_Word.calls k1 x254000_1 x254001_1 false _ _ x8_1 t268 t269 t270 t271 _ ?side1 ?side2 A34.out).mono ?_); (case side1 => exact ck_ (Kd.R_reads' HO_8.out).2.2); (case side2 => exact (Kd.R_reads' HO_8.out).2.1); rintro e w69 ⟨rfl, hb⟩; refine ⟨_, rfl, ?_⟩; replace HO_8 := am_ (Kd.R_below (rk_ HO_8.out) hb); replace HO_246001 := am_ (Kd.R_below (rk_ HO_246001.out) hb); replace HO_246002 := am_ (Kd.R_below (rk_ HO_246002.out) hb); replace BK244 := bw_ BK244 hb; replace BK245 := bw_ BK245 hb; replace BK253 := bw_ BK253 hb; replace HB := bt_ hb; (try clear hb); obtain ⟨hcz70_0, hcz70_1, hcz70_2⟩ := cz3_ BK253.out; obtain ⟨hfz70_0, hfz70_1, hfz70_2⟩ := fz3_ BK253.out))
   (try simp only [Act.put, sA_, sZ_, sS_])
   go_cut [8] (fun v8 wc => ∃ (kq : Nat) (x8_63 : List ByteArray) (x246002_63 : List (S43)) (x254000_63 : ByteArray) (x254001_63 : Int) (x254002_63 : Bool) (u246002 : Value), Aside0 (computusref26_Parse.j1 kq x8_63 t271 t257 x246001_1 x246002_63 x254000_63 x254001_63 x254002_63 = some (r1, r2, r3, r4, r5)) ∧ Aside0 (kq ≤ k1) ∧ Aside0 (Kd.R Kd.string 9 wc w.heap.size (fun _ => True) v8 x8_63) ∧ Aside0 (Kd.R k41 41 wc w.heap.size (fun _ => True) u246001 x246001_1) ∧ Aside0 (Kd.R k43 43 wc w.heap.size (fun _ => True) u246002 x246002_63) ∧ Aside0 (wc.heap[gb244]? = some (.cells #[.int .i64 0, (.slice none 0 0), (.slice none 0 0)] 26 (0, 0))) ∧ Aside0 (wc.heap[gb245]? = some (.cells #[.int .i64 t257, u246001, u246002] 26 (0, 0))) ∧ Aside0 (wc.heap[gb253]? = some (.cells #[.string x254000_63, .int .i64 x254001_63, .bool x254002_63] 52 (0, 0))) ∧ Aside0 (Below w.heap.size w wc))
   case first =>
    have H := HC64.out
    clear HC64
    by_cases c71 : t271 = 1
    rotate_left
    ·rw [if_neg c71] at H
     have c71b0 : (t271 == 1) = false := beq_eq_false_iff_ne.mpr c71
     have c71b1 : (t271 != 1) = true := bne_iff_ne.mpr c71
     (first | rw [c71b0] | (simp only [i64_w, i32_w]; rw [c71b0]) | skip)
     have H' := am_ H
     clear H
     go_wp2
     go_meet
     case rel => exact ⟨_, (x8_1), (x246002_1), (t268), (t269), (t270), (u246002), H', ⟨by have := HK1.out; first | omega | exact Nat.le_refl _⟩, ⟨fa_ HO_8 BK253⟩, ⟨fa_ HO_246001 BK253⟩, ⟨fa_ HO_246002 BK253⟩, ⟨bf1_ NB244_253 BK244⟩, ⟨bf1_ NB245_253 BK245⟩, ⟨by refine bp_ ?_; refine blk_put (cs := #[.string t268, .int .i64 t269, .bool false]) ?_ 2 _ rfl; refine bp_ ?_; refine blk_put (cs := #[.string t268, .int .i64 x254001_1, .bool false]) ?_ 1 _ rfl; refine bp_ ?_; refine blk_put (cs := #[.string x254000_1, .int .i64 x254001_1, .bool false]) ?_ 0 _ rfl; exact bk_ BK253.out⟩, ⟨bh_⟩⟩
    rw [if_pos c71] at H
    have c71b0 : (t271 == 1) = true := beq_iff_eq.mpr c71
    have c71b1 : (t271 != 1) = false := bne_eq_false_iff_eq.mpr c71
    clear c71
    (first | rw [c71b0] | (simp only [i64_w, i32_w]; rw [c71b0]) | skip)
    obtain ⟨y276, hy276⟩ : ∃ y_ : List ByteArray, y_ = (([(⟨#[101, 110, 100, 10]⟩ : ByteArray), (⟨#[102, 101, 97, 115, 116]⟩ : ByteArray)] : List ByteArray)) := ⟨_, rfl⟩
    replace H : ((computusref26_Identifier.f k1 t268 t269 t270).bind fun bt279 => ((computusref26_Number.f k1 bt279.1 bt279.2.1 bt279.2.2.1).bind fun bt283 => ((computusref26_Choice.f k1 bt283.1 bt283.2.1 bt283.2.2.1 (([(⟨#[116, 114, 97, 110, 115, 102, 101, 114]⟩ : ByteArray), (⟨#[99, 111, 109, 109, 101, 109, 111, 114, 97, 116, 101]⟩ : ByteArray), (⟨#[111, 109, 105, 116]⟩ : ByteArray)] : List ByteArray))).bind fun bt290 => ((computusref26_readAnchor.f k1 bt290.1 bt290.2.1 bt290.2.2.1).bind fun bt294 => (if x246002_1.length < 1759218604441 then (computusref26_Parse.j1 k1 y276 t271 t257 x246001_1 (x246002_1 ++ [(⟨bt279.2.2.2, bt283.2.2.2, wrap64 (bt290.2.2.2 + 1), (⟨bt294.2.2.2.1, bt294.2.2.2.2.1, bt294.2.2.2.2.2.1, bt294.2.2.2.2.2.2.1, bt294.2.2.2.2.2.2.2.1, bt294.2.2.2.2.2.2.2.2⟩ : S39)⟩ : S43)]) bt294.1 bt294.2.1 bt294.2.2.1) else (none)))))) = some (r1, r2, r3, r4, r5) := by first | (rw [hy276]; with_reducible exact H) | (have H2_ := (Option.bind_some _ _).symm.trans H; rw [hy276]; with_reducible exact H2_) | (have H2_ := (Option.bind_some _ _).symm.trans H; with_reducible exact H2_) | with_reducible exact H | (rw [hy276]; exact H) | exact H
    have Ny276 := am_ hy276
    clear hy276
    obtain ⟨⟨t279, t280, t281, t282⟩, A72, H⟩ := bs_ H
    dsimp only at H
    obtain ⟨⟨t283, t284, t285, t286⟩, A73, H⟩ := bs_ H
    dsimp only at H
    obtain ⟨y287, hy287⟩ : ∃ y_ : List ByteArray, y_ = (([(⟨#[116, 114, 97, 110, 115, 102, 101, 114]⟩ : ByteArray), (⟨#[99, 111, 109, 109, 101, 109, 111, 114, 97, 116, 101]⟩ : ByteArray), (⟨#[111, 109, 105, 116]⟩ : ByteArray)] : List ByteArray)) := ⟨_, rfl⟩
    replace H : ((computusref26_Choice.f k1 t283 t284 t285 y287).bind fun bt290 => ((computusref26_readAnchor.f k1 bt290.1 bt290.2.1 bt290.2.2.1).bind fun bt294 => (if x246002_1.length < 1759218604441 then (computusref26_Parse.j1 k1 y276 t271 t257 x246001_1 (x246002_1 ++ [(⟨t282, t286, wrap64 (bt290.2.2.2 + 1), (⟨bt294.2.2.2.1, bt294.2.2.2.2.1, bt294.2.2.2.2.2.1, bt294.2.2.2.2.2.2.1, bt294.2.2.2.2.2.2.2.1, bt294.2.2.2.2.2.2.2.2⟩ : S39)⟩ : S43)]) bt294.1 bt294.2.1 bt294.2.2.1) else (none)))) = some (r1, r2, r3, r4, r5) := by first | (rw [hy287]; with_reducible exact H) | (have H2_ := (Option.bind_some _ _).symm.trans H; rw [hy287]; with_reducible exact H2_) | (have H2_ := (Option.bind_some _ _).symm.trans H; with_reducible exact H2_) | with_reducible exact H | (rw [hy287]; exact H) | exact H
    have Ny287 := am_ hy287
    clear hy287
    obtain ⟨⟨t290, t291, t292, t293⟩, A74, H⟩ := bs_ H
    dsimp only at H
    obtain ⟨⟨t294, t295, t296, t297, t298, t299, t300, t301, t302⟩, A75, H⟩ := bs_ H
    dsimp only at H
    by_cases c76 : x246002_1.length < 1759218604441
    rotate_left
    ·rw [if_neg c76] at H
     exact absurd H (by simp)
    rw [if_pos c76] at H
    have LMc76 := am_ c76
    clear c76
    obtain ⟨y303, hy303⟩ : ∃ y_ : List (S43), y_ = (x246002_1 ++ [(⟨t282, t286, wrap64 (t293 + 1), (⟨t297, t298, t299, t300, t301, t302⟩ : S39)⟩ : S43)]) := ⟨_, rfl⟩
    replace H : (computusref26_Parse.j1 k1 y276 t271 t257 x246001_1 y303 t294 t295 t296) = some (r1, r2, r3, r4, r5) := by first | (rw [hy303]; with_reducible exact H) | (have H2_ := (Option.bind_some _ _).symm.trans H; rw [hy303]; with_reducible exact H2_) | (have H2_ := (Option.bind_some _ _).symm.trans H; with_reducible exact H2_) | with_reducible exact H | (rw [hy303]; exact H) | exact H
    have Ny303 := am_ hy303
    clear hy303
    have H' := am_ H
    clear H
    go_wp2_with (first | ((with_reducible refine gate_dst (N := 10) rfl ?_); refine be_ (N := 10) (cs := #[.string (⟨#[]⟩ : ByteArray), .int .i64 0, .int .i64 0, .int .i64 0, .int .i64 0, .int .i64 0, .int .i64 0, .int .i64 0, .int .i64 0]) (t := 43) ?_; intro gb275 hg w77 hbox hb; replace HO_8 := am_ (Kd.R_below (fa_ HO_8 BK253) hb); replace HO_246001 := am_ (Kd.R_below (fa_ HO_246001 BK253) hb); replace HO_246002 := am_ (Kd.R_below (Kd.R_elderB (fa_ HO_246002 BK253) gb275 (Nat.le_of_eq hg.symm)) hb); have BK275 := am_ (hbox); have GW275 := gw_ (w := w) hg; have GE275 := gw_ (w := w) hg; replace HB := bt_ hb; have NB244_275 := am_ ((by rw [hg]; exact Nat.ne_of_lt (blk_lt (g := gb244) (o := .cells #[.int .i64 0, .slice none 0 0, .slice none 0 0] 26 (0, 0)) (by refine bp_ ?_; refine blk_far ?_ NB244_253.out _; refine bp_ ?_; refine blk_far ?_ NB244_253.out _; refine bp_ ?_; refine blk_far ?_ NB244_253.out _; exact bk_ BK244.out)) : gb244 ≠ gb275)); have NB275_244 := am_ ((by rw [hg]; exact Nat.ne_of_gt (blk_lt (g := gb244) (o := .cells #[.int .i64 0, .slice none 0 0, .slice none 0 0] 26 (0, 0)) (by refine bp_ ?_; refine blk_far ?_ NB244_253.out _; refine bp_ ?_; refine blk_far ?_ NB244_253.out _; refine bp_ ?_; refine blk_far ?_ NB244_253.out _; exact bk_ BK244.out)) : gb275 ≠ gb244)); replace BK244 := am_ (blk_below (g := gb244) (o := .cells #[.int .i64 0, .slice none 0 0, .slice none 0 0] 26 (0, 0)) (by refine bp_ ?_; refine blk_far ?_ NB244_253.out _; refine bp_ ?_; refine blk_far ?_ NB244_253.out _; refine bp_ ?_; refine blk_far ?_ NB244_253.out _; exact bk_ BK244.out) hb); have NB245_275 := am_ ((by rw [hg]; exact Nat.ne_of_lt (blk_lt (g := gb245) (o := .cells #[.int .i64 t257, u246001, u246002] 26 (0, 0)) (by refine bp_ ?_; refine blk_far ?_ NB245_253.out _; refine bp_ ?_; refine blk_far ?_ NB245_253.out _; refine bp_ ?_; refine blk_far ?_ NB245_253.out _; exact bk_ BK245.out)) : gb245 ≠ gb275)); have NB275_245 := am_ ((by rw [hg]; exact Nat.ne_of_gt (blk_lt (g := gb245) (o := .cells #[.int .i64 t257, u246001, u246002] 26 (0, 0)) (by refine bp_ ?_; refine blk_far ?_ NB245_253.out _; refine bp_ ?_; refine blk_far ?_ NB245_253.out _; refine bp_ ?_; refine blk_far ?_ NB245_253.out _; exact bk_ BK245.out)) : gb275 ≠ gb245)); replace BK245 := am_ (blk_below (g := gb245) (o := .cells #[.int .i64 t257, u246001, u246002] 26 (0, 0)) (by refine bp_ ?_; refine blk_far ?_ NB245_253.out _; refine bp_ ?_; refine blk_far ?_ NB245_253.out _; refine bp_ ?_; refine blk_far ?_ NB245_253.out _; exact bk_ BK245.out) hb); have NB253_275 := am_ ((by rw [hg]; exact Nat.ne_of_lt (blk_lt (g := gb253) (o := .cells #[.string t268, .int .i64 t269, .bool t270] 52 (0, 0)) (by refine bp_ ?_; refine blk_put (cs := #[.string t268, .int .i64 t269, .bool false]) ?_ 2 _ rfl; refine bp_ ?_; refine blk_put (cs := #[.string t268, .int .i64 x254001_1, .bool false]) ?_ 1 _ rfl; refine bp_ ?_; refine blk_put (cs := #[.string x254000_1, .int .i64 x254001_1, .bool false]) ?_ 0 _ rfl; exact bk_ BK253.out)) : gb253 ≠ gb275)); have NB275_253 := am_ ((by rw [hg]; exact Nat.ne_of_gt (blk_lt (g := gb253) (o := .cells #[.string t268, .int .i64 t269, .bool t270] 52 (0, 0)) (by refine bp_ ?_; refine blk_put (cs := #[.string t268, .int .i64 t269, .bool false]) ?_ 2 _ rfl; refine bp_ ?_; refine blk_put (cs := #[.string t268, .int .i64 x254001_1, .bool false]) ?_ 1 _ rfl; refine bp_ ?_; refine blk_put (cs := #[.string x254000_1, .int .i64 x254001_1, .bool false]) ?_ 0 _ rfl; exact bk_ BK253.out)) : gb275 ≠ gb253)); replace BK253 := am_ (blk_below (g := gb253) (o := .cells #[.string t268, .int .i64 t269, .bool t270] 52 (0, 0)) (by refine bp_ ?_; refine blk_put (cs := #[.string t268, .int .i64 t269, .bool false]) ?_ 2 _ rfl; refine bp_ ?_; refine blk_put (cs := #[.string t268, .int .i64 x254001_1, .bool false]) ?_ 1 _ rfl; refine bp_ ?_; refine blk_put (cs := #[.string x254000_1, .int .i64 x254001_1, .bool false]) ?_ 0 _ rfl; exact bk_ BK253.out) hb); clear hb hbox hg) | ((with_reducible refine gate_dst (N := 47) rfl ?_); refine Kd.R_lit Kd.string _ 9 ?hg (N := 47) ?hd (xs := ([(⟨#[101, 110, 100, 10]⟩ : ByteArray), (⟨#[102, 101, 97, 115, 116]⟩ : ByteArray)] : List ByteArray)) (inner := [.string (⟨#[101, 110, 100, 10]⟩ : ByteArray), .string (⟨#[102, 101, 97, 115, 116]⟩ : ByteArray)]) (ok := fun _ => True) (okp := fun _ => True) ?hr ?hp (fun _ hk => hk) trivial (Below.refl _ _) (Nat.le_refl _) (by simp) ?_; (case hd => rfl); (case hg => rfl); (case hr => first | (go_simp; done) | (go_simp; rfl)); (case hp => exact (Reps.one (show Kd.M Kd.string _ _ _ (⟨#[101, 110, 100, 10]⟩ : ByteArray) [.string (⟨#[101, 110, 100, 10]⟩ : ByteArray)] from rfl) (Reps.one (show Kd.M Kd.string _ _ _ (⟨#[102, 101, 97, 115, 116]⟩ : ByteArray) [.string (⟨#[102, 101, 97, 115, 116]⟩ : ByteArray)] from rfl) (Reps.none _ _)))); intro v277 w78 ho79 hb hg_ hnew_; clear hg_ hnew_; (first | rw [← Ny276.out] at ho79 | (simp only [Int.reduceToNat] at ho79; rw [← Ny276.out] at ho79)); replace HO_246001 := am_ (Kd.R_below (rk_ HO_246001.out) hb); replace HO_246002 := am_ (Kd.R_below (rk_ HO_246002.out) hb); have HO278 := am_ (Kd.R_lower (Kd.R_new' ho79 (Kd.R_lt (rk_ HO_8.out))) bz_); replace HO_8 := am_ (Kd.R_elder' (rk_ HO_8.out) (Kd.R_base ho79) hb); replace BK244 := bw_ BK244 hb; replace BK245 := bw_ BK245 hb; replace BK253 := bw_ BK253 hb; replace BK275 := bw_ BK275 hb; replace HB := bt_ hb; clear hb ho79; have hnb80 := NB253_244.out; have hnc80 := NB244_253.out; have hnb81 := NB253_245.out; have hnc81 := NB245_253.out; have hnb82 := NB253_275.out; have hnc82 := NB275_253.out; obtain ⟨hcz83_0, hcz83_1, hcz83_2⟩ := cz3_ BK253.out; obtain ⟨hfz83_0, hfz83_1, hfz83_2⟩ := fz3_ BK253.out) | ((with_reducible refine gate_callee (f := 23) rfl ?_); refine goesL_ (some 50) rfl rfl Tryd.func23 (by kernel_rfl) rfl #[.agg #[.string t268, .int .i64 t269, .bool t270]] rfl (by (try simp only [List.map_toArray, List.map_cons, List.map_nil]); first | done | rfl | (simp only [List.length_drop, List.length_take]; rfl)) ?_; (with_reducible refine (computusref26_Identifier.calls k1 t268 t269 t270 t279 t280 t281 t282 _ A72.out).mono ?_); rintro e w84 ⟨rfl, hb⟩; refine ⟨_, rfl, ?_⟩; replace HO_8 := am_ (Kd.R_below (rk_ HO_8.out) hb); replace HO_246001 := am_ (Kd.R_below (rk_ HO_246001.out) hb); replace HO_246002 := am_ (Kd.R_below (rk_ HO_246002.out) hb); replace HO278 := rw_ HO278 hb; replace BK244 := bw_ BK244 hb; replace BK245 := bw_ BK245 hb; replace BK253 := bw_ BK253 hb; replace BK275 := bw_ BK275 hb; replace HB := bt_ hb; (try clear hb); (try clear hk); obtain ⟨hcz85_0, hcz85_1, hcz85_2⟩ := cz3_ BK253.out; obtain ⟨hfz85_0, hfz85_1, hfz85_2⟩ := fz3_ BK253.out; have hnb86 := NB275_244.out; have hnc86 := NB244_275.out; have hnb87 := NB275_245.out; have hnc87 := NB245_275.out; have hcz88_0 : w84.cell? ⟨gb275, 0, none⟩ = some (.string (⟨#[]⟩ : ByteArray)) := (blk_cell BK275.out 0).trans rfl; have hcz88_1 : w84.cell? ⟨gb275, 1, none⟩ = some (.int .i64 0) := (blk_cell BK275.out 1).trans rfl; have hcz88_2 : w84.cell? ⟨gb275, 2, none⟩ = some (.int .i64 0) := (blk_cell BK275.out 2).trans rfl; have hcz88_3 : w84.cell? ⟨gb275, 3, none⟩ = some (.int .i64 0) := (blk_cell BK275.out 3).trans rfl; have hcz88_4 : w84.cell? ⟨gb275, 4, none⟩ = some (.int .i64 0) := (blk_cell BK275.out 4).trans rfl; have hcz88_5 : w84.cell? ⟨gb275, 5, none⟩ = some (.int .i64 0) := (blk_cell BK275.out 5).trans rfl; have hcz88_6 : w84.cell? ⟨gb275, 6, none⟩ = some (.int .i64 0) := (blk_cell BK275.out 6).trans rfl; have hcz88_7 : w84.cell? ⟨gb275, 7, none⟩ = some (.int .i64 0) := (blk_cell BK275.out 7).trans rfl; have hcz88_8 : w84.cell? ⟨gb275, 8, none⟩ = some (.int .i64 0) := (blk_cell BK275.out 8).trans rfl; have hfz88_0 := blk_frozen BK275.out 0; have hfz88_1 := blk_frozen BK275.out 1; have hfz88_2 := blk_frozen BK275.out 2; have hfz88_3 := blk_frozen BK275.out 3; have hfz88_4 := blk_frozen BK275.out 4; have hfz88_5 := blk_frozen BK275.out 5; have hfz88_6 := blk_frozen BK275.out 6; have hfz88_7 := blk_frozen BK275.out 7; have hfz88_8 := blk_frozen BK275.out 8) | ((with_reducible refine gate_callee (f := 21) rfl ?_); refine goesL_ (some 56) rfl rfl Tryd.func21 (by kernel_rfl) rfl #[.agg #[.string t279, .int .i64 t280, .bool t281]] rfl (by (try simp only [List.map_toArray, List.map_cons, List.map_nil]); first | done | rfl | (simp only [List.length_drop, List.length_take]; rfl)) ?_; (with_reducible refine (computusref26_Number.calls k1 t279 t280 t281 t283 t284 t285 t286 _ A73.out).mono ?_); rintro e w89 ⟨rfl, hb⟩; refine ⟨_, rfl, ?_⟩; replace HO_8 := am_ (Kd.R_below (by (with_reducible repeat (first | apply Kd.R_alloc | apply Kd.R_drewN | apply Kd.R_drew)); exact (Kd.R_mono (Kd.R_mono (Kd.R_far (p := ⟨gb275, 0, none⟩) (Kd.R_far (p := ⟨gb253, 2, none⟩) (Kd.R_far (p := ⟨gb253, 1, none⟩) (Kd.R_far (p := ⟨gb253, 0, none⟩) (Kd.R_types (Kd.R_types HO_8.out BK253.out (by decide)) BK275.out (by decide)) (fun _ hk => hk.1.2) (.string t279)) (fun _ hk => hk.1.2) (.int .i64 t280)) (fun _ hk => hk.1.2) (.bool t281)) (fun _ hk => hk.2) (.string t282)) (fun _ h_ => h_.1)) (fun _ h_ => h_.1))) hb); replace HO_246001 := am_ (Kd.R_below (by (with_reducible repeat (first | apply Kd.R_alloc | apply Kd.R_drewN | apply Kd.R_drew)); exact (Kd.R_mono (Kd.R_mono (Kd.R_far (p := ⟨gb275, 0, none⟩) (Kd.R_far (p := ⟨gb253, 2, none⟩) (Kd.R_far (p := ⟨gb253, 1, none⟩) (Kd.R_far (p := ⟨gb253, 0, none⟩) (Kd.R_types (Kd.R_types HO_246001.out BK253.out (by decide)) BK275.out (by decide)) (fun _ hk => hk.1.2) (.string t279)) (fun _ hk => hk.1.2) (.int .i64 t280)) (fun _ hk => hk.1.2) (.bool t281)) (fun _ hk => hk.2) (.string t282)) (fun _ h_ => h_.1)) (fun _ h_ => h_.1))) hb); replace HO_246002 := am_ (Kd.R_below (by (with_reducible repeat (first | apply Kd.R_alloc | apply Kd.R_drewN | apply Kd.R_drew)); exact (Kd.R_mono (Kd.R_mono (Kd.R_far (p := ⟨gb275, 0, none⟩) (Kd.R_far (p := ⟨gb253, 2, none⟩) (Kd.R_far (p := ⟨gb253, 1, none⟩) (Kd.R_far (p := ⟨gb253, 0, none⟩) (Kd.R_mono (Kd.R_types HO_246002.out BK253.out (by decide)) (fun k_ hk => (⟨hk, hk.1.2⟩ : _ ∧ k_ ≠ gb275))) (fun _ hk => hk.1.2) (.string t279)) (fun _ hk => hk.1.2) (.int .i64 t280)) (fun _ hk => hk.1.2) (.bool t281)) (fun _ hk => hk.2) (.string t282)) (fun _ h_ => h_.1)) (fun _ h_ => h_.1))) hb); replace HO278 := am_ (Kd.R_below (by (with_reducible repeat (first | apply Kd.R_alloc | apply Kd.R_drewN | apply Kd.R_drew)); exact (Kd.R_mono (Kd.R_mono (Kd.R_far (p := ⟨gb275, 0, none⟩) (Kd.R_far (p := ⟨gb253, 2, none⟩) (Kd.R_far (p := ⟨gb253, 1, none⟩) (Kd.R_far (p := ⟨gb253, 0, none⟩) (Kd.R_types (Kd.R_types HO278.out BK253.out (by decide)) BK275.out (by decide)) (fun _ hk => hk.1.2) (.string t279)) (fun _ hk => hk.1.2) (.int .i64 t280)) (fun _ hk => hk.1.2) (.bool t281)) (fun _ hk => hk.2) (.string t282)) (fun _ h_ => h_.1)) (fun _ h_ => h_.1))) hb); replace BK244 := am_ (blk_below (g := gb244) (o := .cells #[.int .i64 0, .slice none 0 0, .slice none 0 0] 26 (0, 0)) (by refine bp_ ?_; refine blk_far ?_ NB244_275.out _; refine bp_ ?_; refine blk_far ?_ NB244_253.out _; refine bp_ ?_; refine blk_far ?_ NB244_253.out _; refine bp_ ?_; refine blk_far ?_ NB244_253.out _; exact bk_ BK244.out) hb); replace BK245 := am_ (blk_below (g := gb245) (o := .cells #[.int .i64 t257, u246001, u246002] 26 (0, 0)) (by refine bp_ ?_; refine blk_far ?_ NB245_275.out _; refine bp_ ?_; refine blk_far ?_ NB245_253.out _; refine bp_ ?_; refine blk_far ?_ NB245_253.out _; refine bp_ ?_; refine blk_far ?_ NB245_253.out _; exact bk_ BK245.out) hb); replace BK253 := am_ (blk_below (g := gb253) (o := .cells #[.string t279, .int .i64 t280, .bool t281] 52 (0, 0)) (by refine bp_ ?_; refine blk_far ?_ NB253_275.out _; refine bp_ ?_; refine blk_put (cs := #[.string t279, .int .i64 t280, .bool t270]) ?_ 2 _ rfl; refine bp_ ?_; refine blk_put (cs := #[.string t279, .int .i64 t269, .bool t270]) ?_ 1 _ rfl; refine bp_ ?_; refine blk_put (cs := #[.string t268, .int .i64 t269, .bool t270]) ?_ 0 _ rfl; exact bk_ BK253.out) hb); replace BK275 := am_ (blk_below (g := gb275) (o := .cells #[.string t282, .int .i64 0, .int .i64 0, .int .i64 0, .int .i64 0, .int .i64 0, .int .i64 0, .int .i64 0, .int .i64 0] 43 (0, 0)) (by refine bp_ ?_; refine blk_put (cs := #[.string (⟨#[]⟩ : ByteArray), .int .i64 0, .int .i64 0, .int .i64 0, .int .i64 0, .int .i64 0, .int .i64 0, .int .i64 0, .int .i64 0]) ?_ 0 _ rfl; refine bp_ ?_; refine blk_far ?_ NB275_253.out _; refine bp_ ?_; refine blk_far ?_ NB275_253.out _; refine bp_ ?_; refine blk_far ?_ NB275_253.out _; exact bk_ BK275.out) hb); replace HB := bt_ hb; (try clear hb); (try clear hk); obtain ⟨hcz90_0, hcz90_1, hcz90_2⟩ := cz3_ BK253.out; obtain ⟨hfz90_0, hfz90_1, hfz90_2⟩ := fz3_ BK253.out; have hcz91_0 : w89.cell? ⟨gb275, 0, none⟩ = some (.string t282) := (blk_cell BK275.out 0).trans rfl; have hcz91_1 : w89.cell? ⟨gb275, 1, none⟩ = some (.int .i64 0) := (blk_cell BK275.out 1).trans rfl; have hcz91_2 : w89.cell? ⟨gb275, 2, none⟩ = some (.int .i64 0) := (blk_cell BK275.out 2).trans rfl; have hcz91_3 : w89.cell? ⟨gb275, 3, none⟩ = some (.int .i64 0) := (blk_cell BK275.out 3).trans rfl; have hcz91_4 : w89.cell? ⟨gb275, 4, none⟩ = some (.int .i64 0) := (blk_cell BK275.out 4).trans rfl; have hcz91_5 : w89.cell? ⟨gb275, 5, none⟩ = some (.int .i64 0) := (blk_cell BK275.out 5).trans rfl; have hcz91_6 : w89.cell? ⟨gb275, 6, none⟩ = some (.int .i64 0) := (blk_cell BK275.out 6).trans rfl; have hcz91_7 : w89.cell? ⟨gb275, 7, none⟩ = some (.int .i64 0) := (blk_cell BK275.out 7).trans rfl; have hcz91_8 : w89.cell? ⟨gb275, 8, none⟩ = some (.int .i64 0) := (blk_cell BK275.out 8).trans rfl; have hfz91_0 := blk_frozen BK275.out 0; have hfz91_1 := blk_frozen BK275.out 1; have hfz91_2 := blk_frozen BK275.out 2; have hfz91_3 := blk_frozen BK275.out 3; have hfz91_4 := blk_frozen BK275.out 4; have hfz91_5 := blk_frozen BK275.out 5; have hfz91_6 := blk_frozen BK275.out 6; have hfz91_7 := blk_frozen BK275.out 7; have hfz91_8 := blk_frozen BK275.out 8) | ((with_reducible refine gate_dst (N := 62) rfl ?_); refine Kd.R_lit Kd.string _ 9 ?hg (N := 62) ?hd (xs := ([(⟨#[116, 114, 97, 110, 115, 102, 101, 114]⟩ : ByteArray), (⟨#[99, 111, 109, 109, 101, 109, 111, 114, 97, 116, 101]⟩ : ByteArray), (⟨#[111, 109, 105, 116]⟩ : ByteArray)] : List ByteArray)) (inner := [.string (⟨#[116, 114, 97, 110, 115, 102, 101, 114]⟩ : ByteArray), .string (⟨#[99, 111, 109, 109, 101, 109, 111, 114, 97, 116, 101]⟩ : ByteArray), .string (⟨#[111, 109, 105, 116]⟩ : ByteArray)]) (ok := fun _ => True) (okp := fun _ => True) ?hr ?hp (fun _ hk => hk) trivial (Below.refl _ _) (Nat.le_refl _) (by simp) ?_; (case hd => rfl); (case hg => rfl); (case hr => first | (go_simp; done) | (go_simp; rfl)); (case hp => exact (Reps.one (show Kd.M Kd.string _ _ _ (⟨#[116, 114, 97, 110, 115, 102, 101, 114]⟩ : ByteArray) [.string (⟨#[116, 114, 97, 110, 115, 102, 101, 114]⟩ : ByteArray)] from rfl) (Reps.one (show Kd.M Kd.string _ _ _ (⟨#[99, 111, 109, 109, 101, 109, 111, 114, 97, 116, 101]⟩ : ByteArray) [.string (⟨#[99, 111, 109, 109, 101, 109, 111, 114, 97, 116, 101]⟩ : ByteArray)] from rfl) (Reps.one (show Kd.M Kd.string _ _ _ (⟨#[111, 109, 105, 116]⟩ : ByteArray) [.string (⟨#[111, 109, 105, 116]⟩ : ByteArray)] from rfl) (Reps.none _ _))))); intro v288 w92 ho93 hb hg_ hnew_; clear hg_ hnew_; (first | rw [← Ny287.out] at ho93 | (simp only [Int.reduceToNat] at ho93; rw [← Ny287.out] at ho93)); replace HO_246001 := am_ (Kd.R_below (by (with_reducible repeat (first | apply Kd.R_alloc | apply Kd.R_drewN | apply Kd.R_drew)); exact (Kd.R_mono (Kd.R_mono (Kd.R_far (p := ⟨gb275, 1, none⟩) (Kd.R_far (p := ⟨gb253, 2, none⟩) (Kd.R_far (p := ⟨gb253, 1, none⟩) (Kd.R_far (p := ⟨gb253, 0, none⟩) (Kd.R_types (Kd.R_types HO_246001.out BK253.out (by decide)) BK275.out (by decide)) (fun _ hk => hk.1.2) (.string t283)) (fun _ hk => hk.1.2) (.int .i64 t284)) (fun _ hk => hk.1.2) (.bool t285)) (fun _ hk => hk.2) (.int .i64 t286)) (fun _ h_ => h_.1)) (fun _ h_ => h_.1))) hb); replace HO_246002 := am_ (Kd.R_below (by (with_reducible repeat (first | apply Kd.R_alloc | apply Kd.R_drewN | apply Kd.R_drew)); exact (Kd.R_mono (Kd.R_mono (Kd.R_far (p := ⟨gb275, 1, none⟩) (Kd.R_far (p := ⟨gb253, 2, none⟩) (Kd.R_far (p := ⟨gb253, 1, none⟩) (Kd.R_far (p := ⟨gb253, 0, none⟩) (Kd.R_mono (Kd.R_types HO_246002.out BK253.out (by decide)) (fun k_ hk => (⟨hk, hk.1.2⟩ : _ ∧ k_ ≠ gb275))) (fun _ hk => hk.1.2) (.string t283)) (fun _ hk => hk.1.2) (.int .i64 t284)) (fun _ hk => hk.1.2) (.bool t285)) (fun _ hk => hk.2) (.int .i64 t286)) (fun _ h_ => h_.1)) (fun _ h_ => h_.1))) hb); have HO289 := am_ (Kd.R_lower (Kd.R_new' (Kd.R_new' ho93 (Kd.R_lt (by (with_reducible repeat (first | apply Kd.R_alloc | apply Kd.R_drewN | apply Kd.R_drew)); exact (Kd.R_mono (Kd.R_mono (Kd.R_far (p := ⟨gb275, 1, none⟩) (Kd.R_far (p := ⟨gb253, 2, none⟩) (Kd.R_far (p := ⟨gb253, 1, none⟩) (Kd.R_far (p := ⟨gb253, 0, none⟩) (Kd.R_types (Kd.R_types HO_8.out BK253.out (by decide)) BK275.out (by decide)) (fun _ hk => hk.1.2) (.string t283)) (fun _ hk => hk.1.2) (.int .i64 t284)) (fun _ hk => hk.1.2) (.bool t285)) (fun _ hk => hk.2) (.int .i64 t286)) (fun _ h_ => h_.1)) (fun _ h_ => h_.1))))) (Kd.R_lt (by (with_reducible repeat (first | apply Kd.R_alloc | apply Kd.R_drewN | apply Kd.R_drew)); exact (Kd.R_mono (Kd.R_mono (Kd.R_far (p := ⟨gb275, 1, none⟩) (Kd.R_far (p := ⟨gb253, 2, none⟩) (Kd.R_far (p := ⟨gb253, 1, none⟩) (Kd.R_far (p := ⟨gb253, 0, none⟩) (Kd.R_types (Kd.R_types HO278.out BK253.out (by decide)) BK275.out (by decide)) (fun _ hk => hk.1.2) (.string t283)) (fun _ hk => hk.1.2) (.int .i64 t284)) (fun _ hk => hk.1.2) (.bool t285)) (fun _ hk => hk.2) (.int .i64 t286)) (fun _ h_ => h_.1)) (fun _ h_ => h_.1))))) bz_); replace HO_8 := am_ (Kd.R_elder' (by (with_reducible repeat (first | apply Kd.R_alloc | apply Kd.R_drewN | apply Kd.R_drew)); exact (Kd.R_mono (Kd.R_mono (Kd.R_far (p := ⟨gb275, 1, none⟩) (Kd.R_far (p := ⟨gb253, 2, none⟩) (Kd.R_far (p := ⟨gb253, 1, none⟩) (Kd.R_far (p := ⟨gb253, 0, none⟩) (Kd.R_types (Kd.R_types HO_8.out BK253.out (by decide)) BK275.out (by decide)) (fun _ hk => hk.1.2) (.string t283)) (fun _ hk => hk.1.2) (.int .i64 t284)) (fun _ hk => hk.1.2) (.bool t285)) (fun _ hk => hk.2) (.int .i64 t286)) (fun _ h_ => h_.1)) (fun _ h_ => h_.1))) (Kd.R_base ho93) hb); replace HO278 := am_ (Kd.R_elder' (by (with_reducible repeat (first | apply Kd.R_alloc | apply Kd.R_drewN | apply Kd.R_drew)); exact (Kd.R_mono (Kd.R_mono (Kd.R_far (p := ⟨gb275, 1, none⟩) (Kd.R_far (p := ⟨gb253, 2, none⟩) (Kd.R_far (p := ⟨gb253, 1, none⟩) (Kd.R_far (p := ⟨gb253, 0, none⟩) (Kd.R_types (Kd.R_types HO278.out BK253.out (by decide)) BK275.out (by decide)) (fun _ hk => hk.1.2) (.string t283)) (fun _ hk => hk.1.2) (.int .i64 t284)) (fun _ hk => hk.1.2) (.bool t285)) (fun _ hk => hk.2) (.int .i64 t286)) (fun _ h_ => h_.1)) (fun _ h_ => h_.1))) (Kd.R_base ho93) hb); replace BK244 := am_ (blk_below (g := gb244) (o := .cells #[.int .i64 0, .slice none 0 0, .slice none 0 0] 26 (0, 0)) (by refine bp_ ?_; refine blk_far ?_ NB244_275.out _; refine bp_ ?_; refine blk_far ?_ NB244_253.out _; refine bp_ ?_; refine blk_far ?_ NB244_253.out _; refine bp_ ?_; refine blk_far ?_ NB244_253.out _; exact bk_ BK244.out) hb); replace BK245 := am_ (blk_below (g := gb245) (o := .cells #[.int .i64 t257, u246001, u246002] 26 (0, 0)) (by refine bp_ ?_; refine blk_far ?_ NB245_275.out _; refine bp_ ?_; refine blk_far ?_ NB245_253.out _; refine bp_ ?_; refine blk_far ?_ NB245_253.out _; refine bp_ ?_; refine blk_far ?_ NB245_253.out _; exact bk_ BK245.out) hb); replace BK253 := am_ (blk_below (g := gb253) (o := .cells #[.string t283, .int .i64 t284, .bool t285] 52 (0, 0)) (by refine bp_ ?_; refine blk_far ?_ NB253_275.out _; refine bp_ ?_; refine blk_put (cs := #[.string t283, .int .i64 t284, .bool t281]) ?_ 2 _ rfl; refine bp_ ?_; refine blk_put (cs := #[.string t283, .int .i64 t280, .bool t281]) ?_ 1 _ rfl; refine bp_ ?_; refine blk_put (cs := #[.string t279, .int .i64 t280, .bool t281]) ?_ 0 _ rfl; exact bk_ BK253.out) hb); replace BK275 := am_ (blk_below (g := gb275) (o := .cells #[.string t282, .int .i64 t286, .int .i64 0, .int .i64 0, .int .i64 0, .int .i64 0, .int .i64 0, .int .i64 0, .int .i64 0] 43 (0, 0)) (by refine bp_ ?_; refine blk_put (cs := #[.string t282, .int .i64 0, .int .i64 0, .int .i64 0, .int .i64 0, .int .i64 0, .int .i64 0, .int .i64 0, .int .i64 0]) ?_ 1 _ rfl; refine bp_ ?_; refine blk_far ?_ NB275_253.out _; refine bp_ ?_; refine blk_far ?_ NB275_253.out _; refine bp_ ?_; refine blk_far ?_ NB275_253.out _; exact bk_ BK275.out) hb); replace HB := bt_ hb; clear hb ho93; obtain ⟨Ao94, co94, eo94⟩ := Kd.R_slice HO289.out; subst eo94) | ((with_reducible refine gate_callee (f := 24) rfl ?_); refine goesL_ (some 63) rfl rfl Tryd.func24 (by kernel_rfl) rfl #[.agg #[.string t283, .int .i64 t284, .bool t285], .slice Ao94 y287.length co94] rfl (by (try simp only [List.map_toArray, List.map_cons, List.map_nil]); first | done | rfl | (simp only [List.length_drop, List.length_take]; rfl)) ?_; (with_reducible refine (computusref26_Choice.calls k1 t283 t284 t285 _ _ y287 t290 t291 t292 t293 _ ?side1 ?side2 A74.out).mono ?_); (case side1 => exact ck_ (Kd.R_reads' HO289.out).2.2); (case side2 => exact (Kd.R_reads' HO289.out).2.1); rintro e w95 ⟨rfl, hb⟩; refine ⟨_, rfl, ?_⟩; replace HO_8 := am_ (Kd.R_below (rk_ HO_8.out) hb); replace HO_246001 := am_ (Kd.R_below (rk_ HO_246001.out) hb); replace HO_246002 := am_ (Kd.R_below (rk_ HO_246002.out) hb); replace HO278 := rw_ HO278 hb; replace HO289 := rw_ HO289 hb; replace BK244 := bw_ BK244 hb; replace BK245 := bw_ BK245 hb; replace BK253 := bw_ BK253 hb; replace BK275 := bw_ BK275 hb; replace HB := bt_ hb; (try clear hb); (try clear hk); obtain ⟨hcz96_0, hcz96_1, hcz96_2⟩ := cz3_ BK253.out; obtain ⟨hfz96_0, hfz96_1, hfz96_2⟩ := fz3_ BK253.out; have hcz97_0 : w95.cell? ⟨gb275, 0, none⟩ = some (.string t282) := (blk_cell BK275.out 0).trans rfl; have hcz97_1 : w95.cell? ⟨gb275, 1, none⟩ = some (.int .i64 t286) := (blk_cell BK275.out 1).trans rfl; have hcz97_2 : w95.cell? ⟨gb275, 2, none⟩ = some (.int .i64 0) := (blk_cell BK275.out 2).trans rfl; have hcz97_3 : w95.cell? ⟨gb275, 3, none⟩ = some (.int .i64 0) := (blk_cell BK275.out 3).trans rfl; have hcz97_4 : w95.cell? ⟨gb275, 4, none⟩ = some (.int .i64 0) := (blk_cell BK275.out 4).trans rfl; have hcz97_5 : w95.cell? ⟨gb275, 5, none⟩ = some (.int .i64 0) := (blk_cell BK275.out 5).trans rfl; have hcz97_6 : w95.cell? ⟨gb275, 6, none⟩ = some (.int .i64 0) := (blk_cell BK275.out 6).trans rfl; have hcz97_7 : w95.cell? ⟨gb275, 7, none⟩ = some (.int .i64 0) := (blk_cell BK275.out 7).trans rfl; have hcz97_8 : w95.cell? ⟨gb275, 8, none⟩ = some (.int .i64 0) := (blk_cell BK275.out 8).trans rfl; have hfz97_0 := blk_frozen BK275.out 0; have hfz97_1 := blk_frozen BK275.out 1; have hfz97_2 := blk_frozen BK275.out 2; have hfz97_3 := blk_frozen BK275.out 3; have hfz97_4 := blk_frozen BK275.out 4; have hfz97_5 := blk_frozen BK275.out 5; have hfz97_6 := blk_frozen BK275.out 6; have hfz97_7 := blk_frozen BK275.out 7; have hfz97_8 := blk_frozen BK275.out 8) | ((with_reducible refine gate_callee (f := 25) rfl ?_); refine goesL_ (some 73) rfl rfl Tryd.func25 (by kernel_rfl) rfl #[.agg #[.string t290, .int .i64 t291, .bool t292]] rfl (by (try simp only [List.map_toArray, List.map_cons, List.map_nil]); first | done | rfl | (simp only [List.length_drop, List.length_take]; rfl)) ?_; (with_reducible refine (computusref26_readAnchor.calls k1 t290 t291 t292 t294 t295 t296 t297 t298 t299 t300 t301 t302 _ A75.out).mono ?_); rintro e w98 ⟨rfl, hb⟩; refine ⟨_, rfl, ?_⟩; replace HO_8 := am_ (Kd.R_below (by (with_reducible repeat (first | apply Kd.R_alloc | apply Kd.R_drewN | apply Kd.R_drew)); exact (Kd.R_mono (Kd.R_mono (Kd.R_far (p := ⟨gb275, 2, none⟩) (Kd.R_far (p := ⟨gb275, 2, none⟩) (Kd.R_far (p := ⟨gb253, 2, none⟩) (Kd.R_far (p := ⟨gb253, 1, none⟩) (Kd.R_far (p := ⟨gb253, 0, none⟩) (Kd.R_types (Kd.R_types HO_8.out BK253.out (by decide)) BK275.out (by decide)) (fun _ hk => hk.1.2) (.string t290)) (fun _ hk => hk.1.2) (.int .i64 t291)) (fun _ hk => hk.1.2) (.bool t292)) (fun _ hk => hk.2) (.int .i64 t293)) (fun _ hk => hk.2) (.int .i64 (wrap64 (t293 + 1)))) (fun _ h_ => h_.1)) (fun _ h_ => h_.1))) hb); replace HO_246001 := am_ (Kd.R_below (by (with_reducible repeat (first | apply Kd.R_alloc | apply Kd.R_drewN | apply Kd.R_drew)); exact (Kd.R_mono (Kd.R_mono (Kd.R_far (p := ⟨gb275, 2, none⟩) (Kd.R_far (p := ⟨gb275, 2, none⟩) (Kd.R_far (p := ⟨gb253, 2, none⟩) (Kd.R_far (p := ⟨gb253, 1, none⟩) (Kd.R_far (p := ⟨gb253, 0, none⟩) (Kd.R_types (Kd.R_types HO_246001.out BK253.out (by decide)) BK275.out (by decide)) (fun _ hk => hk.1.2) (.string t290)) (fun _ hk => hk.1.2) (.int .i64 t291)) (fun _ hk => hk.1.2) (.bool t292)) (fun _ hk => hk.2) (.int .i64 t293)) (fun _ hk => hk.2) (.int .i64 (wrap64 (t293 + 1)))) (fun _ h_ => h_.1)) (fun _ h_ => h_.1))) hb); replace HO_246002 := am_ (Kd.R_below (by (with_reducible repeat (first | apply Kd.R_alloc | apply Kd.R_drewN | apply Kd.R_drew)); exact (Kd.R_mono (Kd.R_mono (Kd.R_far (p := ⟨gb275, 2, none⟩) (Kd.R_far (p := ⟨gb275, 2, none⟩) (Kd.R_far (p := ⟨gb253, 2, none⟩) (Kd.R_far (p := ⟨gb253, 1, none⟩) (Kd.R_far (p := ⟨gb253, 0, none⟩) (Kd.R_mono (Kd.R_types HO_246002.out BK253.out (by decide)) (fun k_ hk => (⟨hk, hk.1.2⟩ : _ ∧ k_ ≠ gb275))) (fun _ hk => hk.1.2) (.string t290)) (fun _ hk => hk.1.2) (.int .i64 t291)) (fun _ hk => hk.1.2) (.bool t292)) (fun _ hk => hk.2) (.int .i64 t293)) (fun _ hk => hk.2) (.int .i64 (wrap64 (t293 + 1)))) (fun _ h_ => h_.1)) (fun _ h_ => h_.1))) hb); replace HO278 := am_ (Kd.R_below (by (with_reducible repeat (first | apply Kd.R_alloc | apply Kd.R_drewN | apply Kd.R_drew)); exact (Kd.R_mono (Kd.R_mono (Kd.R_far (p := ⟨gb275, 2, none⟩) (Kd.R_far (p := ⟨gb275, 2, none⟩) (Kd.R_far (p := ⟨gb253, 2, none⟩) (Kd.R_far (p := ⟨gb253, 1, none⟩) (Kd.R_far (p := ⟨gb253, 0, none⟩) (Kd.R_types (Kd.R_types HO278.out BK253.out (by decide)) BK275.out (by decide)) (fun _ hk => hk.1.2) (.string t290)) (fun _ hk => hk.1.2) (.int .i64 t291)) (fun _ hk => hk.1.2) (.bool t292)) (fun _ hk => hk.2) (.int .i64 t293)) (fun _ hk => hk.2) (.int .i64 (wrap64 (t293 + 1)))) (fun _ h_ => h_.1)) (fun _ h_ => h_.1))) hb); replace HO289 := am_ (Kd.R_below (by (with_reducible repeat (first | apply Kd.R_alloc | apply Kd.R_drewN | apply Kd.R_drew)); exact (Kd.R_mono (Kd.R_mono (Kd.R_far (p := ⟨gb275, 2, none⟩) (Kd.R_far (p := ⟨gb275, 2, none⟩) (Kd.R_far (p := ⟨gb253, 2, none⟩) (Kd.R_far (p := ⟨gb253, 1, none⟩) (Kd.R_far (p := ⟨gb253, 0, none⟩) (Kd.R_types (Kd.R_types HO289.out BK253.out (by decide)) BK275.out (by decide)) (fun _ hk => hk.1.2) (.string t290)) (fun _ hk => hk.1.2) (.int .i64 t291)) (fun _ hk => hk.1.2) (.bool t292)) (fun _ hk => hk.2) (.int .i64 t293)) (fun _ hk => hk.2) (.int .i64 (wrap64 (t293 + 1)))) (fun _ h_ => h_.1)) (fun _ h_ => h_.1))) hb); replace BK244 := am_ (blk_below (g := gb244) (o := .cells #[.int .i64 0, .slice none 0 0, .slice none 0 0] 26 (0, 0)) (by refine bp_ ?_; refine blk_far ?_ NB244_275.out _; refine bp_ ?_; refine blk_far ?_ NB244_275.out _; refine bp_ ?_; refine blk_far ?_ NB244_253.out _; refine bp_ ?_; refine blk_far ?_ NB244_253.out _; refine bp_ ?_; refine blk_far ?_ NB244_253.out _; exact bk_ BK244.out) hb); replace BK245 := am_ (blk_below (g := gb245) (o := .cells #[.int .i64 t257, u246001, u246002] 26 (0, 0)) (by refine bp_ ?_; refine blk_far ?_ NB245_275.out _; refine bp_ ?_; refine blk_far ?_ NB245_275.out _; refine bp_ ?_; refine blk_far ?_ NB245_253.out _; refine bp_ ?_; refine blk_far ?_ NB245_253.out _; refine bp_ ?_; refine blk_far ?_ NB245_253.out _; exact bk_ BK245.out) hb); replace BK253 := am_ (blk_below (g := gb253) (o := .cells #[.string t290, .int .i64 t291, .bool t292] 52 (0, 0)) (by refine bp_ ?_; refine blk_far ?_ NB253_275.out _; refine bp_ ?_; refine blk_far ?_ NB253_275.out _; refine bp_ ?_; refine blk_put (cs := #[.string t290, .int .i64 t291, .bool t285]) ?_ 2 _ rfl; refine bp_ ?_; refine blk_put (cs := #[.string t290, .int .i64 t284, .bool t285]) ?_ 1 _ rfl; refine bp_ ?_; refine blk_put (cs := #[.string t283, .int .i64 t284, .bool t285]) ?_ 0 _ rfl; exact bk_ BK253.out) hb); replace BK275 := am_ (blk_below (g := gb275) (o := .cells #[.string t282, .int .i64 t286, .int .i64 (wrap64 (t293 + 1)), .int .i64 0, .int .i64 0, .int .i64 0, .int .i64 0, .int .i64 0, .int .i64 0] 43 (0, 0)) (by refine bp_ ?_; refine blk_put (cs := #[.string t282, .int .i64 t286, .int .i64 t293, .int .i64 0, .int .i64 0, .int .i64 0, .int .i64 0, .int .i64 0, .int .i64 0]) ?_ 2 _ rfl; refine bp_ ?_; refine blk_put (cs := #[.string t282, .int .i64 t286, .int .i64 0, .int .i64 0, .int .i64 0, .int .i64 0, .int .i64 0, .int .i64 0, .int .i64 0]) ?_ 2 _ rfl; refine bp_ ?_; refine blk_far ?_ NB275_253.out _; refine bp_ ?_; refine blk_far ?_ NB275_253.out _; refine bp_ ?_; refine blk_far ?_ NB275_253.out _; exact bk_ BK275.out) hb); replace HB := bt_ hb; (try clear hb); (try clear hk); obtain ⟨hcz99_0, hcz99_1, hcz99_2⟩ := cz3_ BK253.out; obtain ⟨hfz99_0, hfz99_1, hfz99_2⟩ := fz3_ BK253.out; have hcz100_0 : w98.cell? ⟨gb275, 0, none⟩ = some (.string t282) := (blk_cell BK275.out 0).trans rfl; have hcz100_1 : w98.cell? ⟨gb275, 1, none⟩ = some (.int .i64 t286) := (blk_cell BK275.out 1).trans rfl; have hcz100_2 : w98.cell? ⟨gb275, 2, none⟩ = some (.int .i64 (wrap64 (t293 + 1))) := (blk_cell BK275.out 2).trans rfl; have hcz100_3 : w98.cell? ⟨gb275, 3, none⟩ = some (.int .i64 0) := (blk_cell BK275.out 3).trans rfl; have hcz100_4 : w98.cell? ⟨gb275, 4, none⟩ = some (.int .i64 0) := (blk_cell BK275.out 4).trans rfl; have hcz100_5 : w98.cell? ⟨gb275, 5, none⟩ = some (.int .i64 0) := (blk_cell BK275.out 5).trans rfl; have hcz100_6 : w98.cell? ⟨gb275, 6, none⟩ = some (.int .i64 0) := (blk_cell BK275.out 6).trans rfl; have hcz100_7 : w98.cell? ⟨gb275, 7, none⟩ = some (.int .i64 0) := (blk_cell BK275.out 7).trans rfl; have hcz100_8 : w98.cell? ⟨gb275, 8, none⟩ = some (.int .i64 0) := (blk_cell BK275.out 8).trans rfl; have hfz100_0 := blk_frozen BK275.out 0; have hfz100_1 := blk_frozen BK275.out 1; have hfz100_2 := blk_frozen BK275.out 2; have hfz100_3 := blk_frozen BK275.out 3; have hfz100_4 := blk_frozen BK275.out 4; have hfz100_5 := blk_frozen BK275.out 5; have hfz100_6 := blk_frozen BK275.out 6; have hfz100_7 := blk_frozen BK275.out 7; have hfz100_8 := blk_frozen BK275.out 8; have hnb101 := NB245_244.out; have hnc101 := NB244_245.out; obtain ⟨hcz102_0, hcz102_1, hcz102_2⟩ := cz3_ BK245.out; obtain ⟨hfz102_0, hfz102_1, hfz102_2⟩ := fz3_ BK245.out) | ((with_reducible refine gate_builtin (b := .append) (xs := #[.tmp 78, .tmp 80]) rfl ?_); at_builtin; refine Kd.R_append k43 (w0 := w) w.heap.size rfl (.tmp 78) (.tmp 80) 24 43 (.agg #[(.string ⟨#[]⟩), (.int .i64 0), (.int .i64 0), (.int .i64 0), (.int .i64 0), (.int .i64 0), (.int .i64 0), (.int .i64 0), (.int .i64 0)]) 80 rfl Tryd.underlying24 info43 rfl (by decide) (by omega) u246002 x246002_1 (⟨t282, t286, wrap64 (t293 + 1), (⟨t297, t298, t299, t300, t301, t302⟩ : S39)⟩ : S43) [.string t282, .int .i64 t286, .int .i64 (wrap64 (t293 + 1)), .int .i64 t297, .int .i64 t298, .int .i64 t299, .int .i64 t300, .int .i64 t301, .int .i64 t302] (fun k_ => k_ ≠ gb275) (fun _ => False) rfl (by first | (go_simp; done) | (go_simp; rfl)) ?aP (fun _ hk => hk.elim) ?aF ?aO ?aB ?aS ?aL ?_; (case aP => exact k43_mkM _ _ _ (⟨t282, t286, wrap64 (t293 + 1), (⟨t297, t298, t299, t300, t301, t302⟩ : S39)⟩ : S43)); (case aB => exact bh_); (case aF => exact (fun k_ hk => Kd.freshB (g := gb275) (o := .cells #[.string t282, .int .i64 t286, .int .i64 (wrap64 (t293 + 1)), .int .i64 t297, .int .i64 t298, .int .i64 t299, .int .i64 t300, .int .i64 t301, .int .i64 t302] 43 (0, 0)) (by refine bp_ ?_; refine blk_put (cs := #[.string t282, .int .i64 t286, .int .i64 (wrap64 (t293 + 1)), .int .i64 t297, .int .i64 t298, .int .i64 t299, .int .i64 t300, .int .i64 t301, .int .i64 0]) ?_ 8 _ rfl; refine bp_ ?_; refine blk_put (cs := #[.string t282, .int .i64 t286, .int .i64 (wrap64 (t293 + 1)), .int .i64 t297, .int .i64 t298, .int .i64 t299, .int .i64 t300, .int .i64 0, .int .i64 0]) ?_ 7 _ rfl; refine bp_ ?_; refine blk_put (cs := #[.string t282, .int .i64 t286, .int .i64 (wrap64 (t293 + 1)), .int .i64 t297, .int .i64 t298, .int .i64 t299, .int .i64 0, .int .i64 0, .int .i64 0]) ?_ 6 _ rfl; refine bp_ ?_; refine blk_put (cs := #[.string t282, .int .i64 t286, .int .i64 (wrap64 (t293 + 1)), .int .i64 t297, .int .i64 t298, .int .i64 0, .int .i64 0, .int .i64 0, .int .i64 0]) ?_ 5 _ rfl; refine bp_ ?_; refine blk_put (cs := #[.string t282, .int .i64 t286, .int .i64 (wrap64 (t293 + 1)), .int .i64 t297, .int .i64 0, .int .i64 0, .int .i64 0, .int .i64 0, .int .i64 0]) ?_ 4 _ rfl; refine bp_ ?_; refine blk_put (cs := #[.string t282, .int .i64 t286, .int .i64 (wrap64 (t293 + 1)), .int .i64 0, .int .i64 0, .int .i64 0, .int .i64 0, .int .i64 0, .int .i64 0]) ?_ 3 _ rfl; refine bp_ ?_; refine blk_far ?_ NB275_253.out _; refine bp_ ?_; refine blk_far ?_ NB275_253.out _; refine bp_ ?_; refine blk_far ?_ NB275_253.out _; exact bk_ BK275.out) k_ hk)); (case aO => exact (by (with_reducible repeat (first | apply Kd.R_alloc | apply Kd.R_drewN | apply Kd.R_drew)); exact Kd.R_mono (Kd.R_far (p := ⟨gb275, 8, none⟩) (Kd.R_far (p := ⟨gb275, 7, none⟩) (Kd.R_far (p := ⟨gb275, 6, none⟩) (Kd.R_far (p := ⟨gb275, 5, none⟩) (Kd.R_far (p := ⟨gb275, 4, none⟩) (Kd.R_far (p := ⟨gb275, 3, none⟩) (Kd.R_far (p := ⟨gb253, 2, none⟩) (Kd.R_far (p := ⟨gb253, 1, none⟩) (Kd.R_far (p := ⟨gb253, 0, none⟩) (Kd.R_mono (Kd.R_types HO_246002.out BK253.out (by decide)) (fun k_ hk => (⟨hk, hk.1.2⟩ : _ ∧ k_ ≠ gb275))) (fun _ hk => hk.1.2) (.string t294)) (fun _ hk => hk.1.2) (.int .i64 t295)) (fun _ hk => hk.1.2) (.bool t296)) (fun _ hk => hk.2) (.int .i64 t297)) (fun _ hk => hk.2) (.int .i64 t298)) (fun _ hk => hk.2) (.int .i64 t299)) (fun _ hk => hk.2) (.int .i64 t300)) (fun _ hk => hk.2) (.int .i64 t301)) (fun _ hk => hk.2) (.int .i64 t302)) (fun _ hk => hk.1.1.2))); (case aS => exact bz_); (case aL => have := LMc76.out; omega); intro v304 w103 ho hb hg hat; rw [← Ny303.out] at ho; have n0_ := am_ (Kd.R_over' (by (with_reducible repeat (first | apply Kd.R_alloc | apply Kd.R_drewN | apply Kd.R_drew)); exact (Kd.R_mono (Kd.R_mono (Kd.R_far (p := ⟨gb275, 8, none⟩) (Kd.R_far (p := ⟨gb275, 7, none⟩) (Kd.R_far (p := ⟨gb275, 6, none⟩) (Kd.R_far (p := ⟨gb275, 5, none⟩) (Kd.R_far (p := ⟨gb275, 4, none⟩) (Kd.R_far (p := ⟨gb275, 3, none⟩) (Kd.R_far (p := ⟨gb253, 2, none⟩) (Kd.R_far (p := ⟨gb253, 1, none⟩) (Kd.R_far (p := ⟨gb253, 0, none⟩) (Kd.R_types (Kd.R_types HO_8.out BK253.out (by decide)) BK275.out (by decide)) (fun _ hk => hk.1.2) (.string t294)) (fun _ hk => hk.1.2) (.int .i64 t295)) (fun _ hk => hk.1.2) (.bool t296)) (fun _ hk => hk.2) (.int .i64 t297)) (fun _ hk => hk.2) (.int .i64 t298)) (fun _ hk => hk.2) (.int .i64 t299)) (fun _ hk => hk.2) (.int .i64 t300)) (fun _ hk => hk.2) (.int .i64 t301)) (fun _ hk => hk.2) (.int .i64 t302)) (fun _ h_ => h_.1)) (fun _ h_ => h_.1))) (Kd.R_typed (by (with_reducible repeat (first | apply Kd.R_alloc | apply Kd.R_drewN | apply Kd.R_drew)); exact (Kd.R_mono (Kd.R_mono (Kd.R_far (p := ⟨gb275, 8, none⟩) (Kd.R_far (p := ⟨gb275, 7, none⟩) (Kd.R_far (p := ⟨gb275, 6, none⟩) (Kd.R_far (p := ⟨gb275, 5, none⟩) (Kd.R_far (p := ⟨gb275, 4, none⟩) (Kd.R_far (p := ⟨gb275, 3, none⟩) (Kd.R_far (p := ⟨gb253, 2, none⟩) (Kd.R_far (p := ⟨gb253, 1, none⟩) (Kd.R_far (p := ⟨gb253, 0, none⟩) (Kd.R_mono (Kd.R_types HO_246002.out BK253.out (by decide)) (fun k_ hk => (⟨hk, hk.1.2⟩ : _ ∧ k_ ≠ gb275))) (fun _ hk => hk.1.2) (.string t294)) (fun _ hk => hk.1.2) (.int .i64 t295)) (fun _ hk => hk.1.2) (.bool t296)) (fun _ hk => hk.2) (.int .i64 t297)) (fun _ hk => hk.2) (.int .i64 t298)) (fun _ hk => hk.2) (.int .i64 t299)) (fun _ hk => hk.2) (.int .i64 t300)) (fun _ hk => hk.2) (.int .i64 t301)) (fun _ hk => hk.2) (.int .i64 t302)) (fun _ h_ => h_.1)) (fun _ h_ => h_.1)))) (by decide) hg); have n1_ := am_ (Kd.R_over' (by (with_reducible repeat (first | apply Kd.R_alloc | apply Kd.R_drewN | apply Kd.R_drew)); exact (Kd.R_mono (Kd.R_mono (Kd.R_far (p := ⟨gb275, 8, none⟩) (Kd.R_far (p := ⟨gb275, 7, none⟩) (Kd.R_far (p := ⟨gb275, 6, none⟩) (Kd.R_far (p := ⟨gb275, 5, none⟩) (Kd.R_far (p := ⟨gb275, 4, none⟩) (Kd.R_far (p := ⟨gb275, 3, none⟩) (Kd.R_far (p := ⟨gb253, 2, none⟩) (Kd.R_far (p := ⟨gb253, 1, none⟩) (Kd.R_far (p := ⟨gb253, 0, none⟩) (Kd.R_types (Kd.R_types HO_246001.out BK253.out (by decide)) BK275.out (by decide)) (fun _ hk => hk.1.2) (.string t294)) (fun _ hk => hk.1.2) (.int .i64 t295)) (fun _ hk => hk.1.2) (.bool t296)) (fun _ hk => hk.2) (.int .i64 t297)) (fun _ hk => hk.2) (.int .i64 t298)) (fun _ hk => hk.2) (.int .i64 t299)) (fun _ hk => hk.2) (.int .i64 t300)) (fun _ hk => hk.2) (.int .i64 t301)) (fun _ hk => hk.2) (.int .i64 t302)) (fun _ h_ => h_.1)) (fun _ h_ => h_.1))) (Kd.R_typed (by (with_reducible repeat (first | apply Kd.R_alloc | apply Kd.R_drewN | apply Kd.R_drew)); exact (Kd.R_mono (Kd.R_mono (Kd.R_far (p := ⟨gb275, 8, none⟩) (Kd.R_far (p := ⟨gb275, 7, none⟩) (Kd.R_far (p := ⟨gb275, 6, none⟩) (Kd.R_far (p := ⟨gb275, 5, none⟩) (Kd.R_far (p := ⟨gb275, 4, none⟩) (Kd.R_far (p := ⟨gb275, 3, none⟩) (Kd.R_far (p := ⟨gb253, 2, none⟩) (Kd.R_far (p := ⟨gb253, 1, none⟩) (Kd.R_far (p := ⟨gb253, 0, none⟩) (Kd.R_mono (Kd.R_types HO_246002.out BK253.out (by decide)) (fun k_ hk => (⟨hk, hk.1.2⟩ : _ ∧ k_ ≠ gb275))) (fun _ hk => hk.1.2) (.string t294)) (fun _ hk => hk.1.2) (.int .i64 t295)) (fun _ hk => hk.1.2) (.bool t296)) (fun _ hk => hk.2) (.int .i64 t297)) (fun _ hk => hk.2) (.int .i64 t298)) (fun _ hk => hk.2) (.int .i64 t299)) (fun _ hk => hk.2) (.int .i64 t300)) (fun _ hk => hk.2) (.int .i64 t301)) (fun _ hk => hk.2) (.int .i64 t302)) (fun _ h_ => h_.1)) (fun _ h_ => h_.1)))) (by decide) hg); have n2_ := am_ (blk_grown (g := gb244) (o := .cells #[.int .i64 0, .slice none 0 0, .slice none 0 0] 26 (0, 0)) (by refine bp_ ?_; refine blk_far ?_ NB244_275.out _; refine bp_ ?_; refine blk_far ?_ NB244_275.out _; refine bp_ ?_; refine blk_far ?_ NB244_275.out _; refine bp_ ?_; refine blk_far ?_ NB244_275.out _; refine bp_ ?_; refine blk_far ?_ NB244_275.out _; refine bp_ ?_; refine blk_far ?_ NB244_275.out _; refine bp_ ?_; refine blk_far ?_ NB244_253.out _; refine bp_ ?_; refine blk_far ?_ NB244_253.out _; refine bp_ ?_; refine blk_far ?_ NB244_253.out _; exact bk_ BK244.out) hg (Kd.R_ne HO_246002.out BK244.out (by decide))); have n3_ := am_ (blk_grown (g := gb245) (o := .cells #[.int .i64 t257, u246001, u246002] 26 (0, 0)) (by refine bp_ ?_; refine blk_far ?_ NB245_275.out _; refine bp_ ?_; refine blk_far ?_ NB245_275.out _; refine bp_ ?_; refine blk_far ?_ NB245_275.out _; refine bp_ ?_; refine blk_far ?_ NB245_275.out _; refine bp_ ?_; refine blk_far ?_ NB245_275.out _; refine bp_ ?_; refine blk_far ?_ NB245_275.out _; refine bp_ ?_; refine blk_far ?_ NB245_253.out _; refine bp_ ?_; refine blk_far ?_ NB245_253.out _; refine bp_ ?_; refine blk_far ?_ NB245_253.out _; exact bk_ BK245.out) hg (Kd.R_ne HO_246002.out BK245.out (by decide))); have n4_ := am_ (blk_grown (g := gb253) (o := .cells #[.string t294, .int .i64 t295, .bool t296] 52 (0, 0)) (by refine bp_ ?_; refine blk_far ?_ NB253_275.out _; refine bp_ ?_; refine blk_far ?_ NB253_275.out _; refine bp_ ?_; refine blk_far ?_ NB253_275.out _; refine bp_ ?_; refine blk_far ?_ NB253_275.out _; refine bp_ ?_; refine blk_far ?_ NB253_275.out _; refine bp_ ?_; refine blk_far ?_ NB253_275.out _; refine bp_ ?_; refine blk_put (cs := #[.string t294, .int .i64 t295, .bool t292]) ?_ 2 _ rfl; refine bp_ ?_; refine blk_put (cs := #[.string t294, .int .i64 t291, .bool t292]) ?_ 1 _ rfl; refine bp_ ?_; refine blk_put (cs := #[.string t290, .int .i64 t291, .bool t292]) ?_ 0 _ rfl; exact bk_ BK253.out) hg (Kd.R_ne HO_246002.out BK253.out (by decide))); have n5_ := am_ (blk_grown (g := gb275) (o := .cells #[.string t282, .int .i64 t286, .int .i64 (wrap64 (t293 + 1)), .int .i64 t297, .int .i64 t298, .int .i64 t299, .int .i64 t300, .int .i64 t301, .int .i64 t302] 43 (0, 0)) (by refine bp_ ?_; refine blk_put (cs := #[.string t282, .int .i64 t286, .int .i64 (wrap64 (t293 + 1)), .int .i64 t297, .int .i64 t298, .int .i64 t299, .int .i64 t300, .int .i64 t301, .int .i64 0]) ?_ 8 _ rfl; refine bp_ ?_; refine blk_put (cs := #[.string t282, .int .i64 t286, .int .i64 (wrap64 (t293 + 1)), .int .i64 t297, .int .i64 t298, .int .i64 t299, .int .i64 t300, .int .i64 0, .int .i64 0]) ?_ 7 _ rfl; refine bp_ ?_; refine blk_put (cs := #[.string t282, .int .i64 t286, .int .i64 (wrap64 (t293 + 1)), .int .i64 t297, .int .i64 t298, .int .i64 t299, .int .i64 0, .int .i64 0, .int .i64 0]) ?_ 6 _ rfl; refine bp_ ?_; refine blk_put (cs := #[.string t282, .int .i64 t286, .int .i64 (wrap64 (t293 + 1)), .int .i64 t297, .int .i64 t298, .int .i64 0, .int .i64 0, .int .i64 0, .int .i64 0]) ?_ 5 _ rfl; refine bp_ ?_; refine blk_put (cs := #[.string t282, .int .i64 t286, .int .i64 (wrap64 (t293 + 1)), .int .i64 t297, .int .i64 0, .int .i64 0, .int .i64 0, .int .i64 0, .int .i64 0]) ?_ 4 _ rfl; refine bp_ ?_; refine blk_put (cs := #[.string t282, .int .i64 t286, .int .i64 (wrap64 (t293 + 1)), .int .i64 0, .int .i64 0, .int .i64 0, .int .i64 0, .int .i64 0, .int .i64 0]) ?_ 3 _ rfl; refine bp_ ?_; refine blk_far ?_ NB275_253.out _; refine bp_ ?_; refine blk_far ?_ NB275_253.out _; refine bp_ ?_; refine blk_far ?_ NB275_253.out _; exact bk_ BK275.out) hg (Kd.R_away HO_246002.out (fun _ hk => hk.2))); have n6_ := am_ (Kd.R_over' (by (with_reducible repeat (first | apply Kd.R_alloc | apply Kd.R_drewN | apply Kd.R_drew)); exact (Kd.R_mono (Kd.R_mono (Kd.R_far (p := ⟨gb275, 8, none⟩) (Kd.R_far (p := ⟨gb275, 7, none⟩) (Kd.R_far (p := ⟨gb275, 6, none⟩) (Kd.R_far (p := ⟨gb275, 5, none⟩) (Kd.R_far (p := ⟨gb275, 4, none⟩) (Kd.R_far (p := ⟨gb275, 3, none⟩) (Kd.R_far (p := ⟨gb253, 2, none⟩) (Kd.R_far (p := ⟨gb253, 1, none⟩) (Kd.R_far (p := ⟨gb253, 0, none⟩) (Kd.R_types (Kd.R_types HO278.out BK253.out (by decide)) BK275.out (by decide)) (fun _ hk => hk.1.2) (.string t294)) (fun _ hk => hk.1.2) (.int .i64 t295)) (fun _ hk => hk.1.2) (.bool t296)) (fun _ hk => hk.2) (.int .i64 t297)) (fun _ hk => hk.2) (.int .i64 t298)) (fun _ hk => hk.2) (.int .i64 t299)) (fun _ hk => hk.2) (.int .i64 t300)) (fun _ hk => hk.2) (.int .i64 t301)) (fun _ hk => hk.2) (.int .i64 t302)) (fun _ h_ => h_.1)) (fun _ h_ => h_.1))) (Kd.R_typed (by (with_reducible repeat (first | apply Kd.R_alloc | apply Kd.R_drewN | apply Kd.R_drew)); exact (Kd.R_mono (Kd.R_mono (Kd.R_far (p := ⟨gb275, 8, none⟩) (Kd.R_far (p := ⟨gb275, 7, none⟩) (Kd.R_far (p := ⟨gb275, 6, none⟩) (Kd.R_far (p := ⟨gb275, 5, none⟩) (Kd.R_far (p := ⟨gb275, 4, none⟩) (Kd.R_far (p := ⟨gb275, 3, none⟩) (Kd.R_far (p := ⟨gb253, 2, none⟩) (Kd.R_far (p := ⟨gb253, 1, none⟩) (Kd.R_far (p := ⟨gb253, 0, none⟩) (Kd.R_mono (Kd.R_types HO_246002.out BK253.out (by decide)) (fun k_ hk => (⟨hk, hk.1.2⟩ : _ ∧ k_ ≠ gb275))) (fun _ hk => hk.1.2) (.string t294)) (fun _ hk => hk.1.2) (.int .i64 t295)) (fun _ hk => hk.1.2) (.bool t296)) (fun _ hk => hk.2) (.int .i64 t297)) (fun _ hk => hk.2) (.int .i64 t298)) (fun _ hk => hk.2) (.int .i64 t299)) (fun _ hk => hk.2) (.int .i64 t300)) (fun _ hk => hk.2) (.int .i64 t301)) (fun _ hk => hk.2) (.int .i64 t302)) (fun _ h_ => h_.1)) (fun _ h_ => h_.1)))) (by decide) hg); have n7_ := am_ (Kd.R_over' (by (with_reducible repeat (first | apply Kd.R_alloc | apply Kd.R_drewN | apply Kd.R_drew)); exact (Kd.R_mono (Kd.R_mono (Kd.R_far (p := ⟨gb275, 8, none⟩) (Kd.R_far (p := ⟨gb275, 7, none⟩) (Kd.R_far (p := ⟨gb275, 6, none⟩) (Kd.R_far (p := ⟨gb275, 5, none⟩) (Kd.R_far (p := ⟨gb275, 4, none⟩) (Kd.R_far (p := ⟨gb275, 3, none⟩) (Kd.R_far (p := ⟨gb253, 2, none⟩) (Kd.R_far (p := ⟨gb253, 1, none⟩) (Kd.R_far (p := ⟨gb253, 0, none⟩) (Kd.R_types (Kd.R_types HO289.out BK253.out (by decide)) BK275.out (by decide)) (fun _ hk => hk.1.2) (.string t294)) (fun _ hk => hk.1.2) (.int .i64 t295)) (fun _ hk => hk.1.2) (.bool t296)) (fun _ hk => hk.2) (.int .i64 t297)) (fun _ hk => hk.2) (.int .i64 t298)) (fun _ hk => hk.2) (.int .i64 t299)) (fun _ hk => hk.2) (.int .i64 t300)) (fun _ hk => hk.2) (.int .i64 t301)) (fun _ hk => hk.2) (.int .i64 t302)) (fun _ h_ => h_.1)) (fun _ h_ => h_.1))) (Kd.R_typed (by (with_reducible repeat (first | apply Kd.R_alloc | apply Kd.R_drewN | apply Kd.R_drew)); exact (Kd.R_mono (Kd.R_mono (Kd.R_far (p := ⟨gb275, 8, none⟩) (Kd.R_far (p := ⟨gb275, 7, none⟩) (Kd.R_far (p := ⟨gb275, 6, none⟩) (Kd.R_far (p := ⟨gb275, 5, none⟩) (Kd.R_far (p := ⟨gb275, 4, none⟩) (Kd.R_far (p := ⟨gb275, 3, none⟩) (Kd.R_far (p := ⟨gb253, 2, none⟩) (Kd.R_far (p := ⟨gb253, 1, none⟩) (Kd.R_far (p := ⟨gb253, 0, none⟩) (Kd.R_mono (Kd.R_types HO_246002.out BK253.out (by decide)) (fun k_ hk => (⟨hk, hk.1.2⟩ : _ ∧ k_ ≠ gb275))) (fun _ hk => hk.1.2) (.string t294)) (fun _ hk => hk.1.2) (.int .i64 t295)) (fun _ hk => hk.1.2) (.bool t296)) (fun _ hk => hk.2) (.int .i64 t297)) (fun _ hk => hk.2) (.int .i64 t298)) (fun _ hk => hk.2) (.int .i64 t299)) (fun _ hk => hk.2) (.int .i64 t300)) (fun _ hk => hk.2) (.int .i64 t301)) (fun _ hk => hk.2) (.int .i64 t302)) (fun _ h_ => h_.1)) (fun _ h_ => h_.1)))) (by decide) hg); have n8_ := am_ (hb); have n9_ := am_ (ho); clear HO_8; clear HO_246001; clear BK244; clear BK245; clear BK253; clear BK275; clear HO278; clear HO289; clear HB; clear HO_246002; have HO_8 := n0_; have HO_246001 := n1_; have BK244 := n2_; have BK245 := n3_; have BK253 := n4_; have BK275 := n5_; have HO278 := n6_; have HO289 := n7_; have HB := n8_; have HO305 := n9_; clear n0_ n1_ n2_ n3_ n4_ n5_ n6_ n7_ n8_ n9_; clear ho hb hg hat; obtain ⟨Ao104, co104, eo104⟩ := Kd.R_slice HO305.out; subst eo104; obtain ⟨hcz105_0, hcz105_1, hcz105_2⟩ := cz3_ BK245.out; obtain ⟨hfz105_0, hfz105_1, hfz105_2⟩ := fz3_ BK245.out))
    go_meet
    case rel => exact ⟨_, (y276), (y303), (t294), (t295), (t296), (.slice Ao104 y303.length co104), H', ⟨by have := HK1.out; first | omega | exact Nat.le_refl _⟩, ⟨fa_ HO278 BK245⟩, ⟨fa_ HO_246001 BK245⟩, ⟨fa_ HO305 BK245⟩, ⟨bf1_ NB244_245 BK244⟩, ⟨by refine bp_ ?_; refine blk_put (cs := #[.int .i64 t257, u246001, u246002]) ?_ 2 _ rfl; exact bk_ BK245.out⟩, ⟨bf1_ NB253_245 BK253⟩, ⟨bh_⟩⟩
   case rest =>
    clear HC64
    obtain ⟨kq, x8_63, x246002_63, x254000_63, x254001_63, x254002_63, u246002, HA, HJ63, HO_8, HO_246001, HO_246002, BK244, BK245, BK253, HB⟩ := hcut
    cases kq with
    | zero => exact absurd HA.out (by simp [computusref26_Parse.j1])
    | succ kj63 =>
     have H := HA.out
     clear HA
     simp only [computusref26_Parse.j1] at H
     by_cases c106 : t271 = 2
     rotate_left
     ·rw [if_neg c106] at H
      have c106b0 : (t271 == 2) = false := beq_eq_false_iff_ne.mpr c106
      have c106b1 : (t271 != 2) = true := bne_iff_ne.mpr c106
      have H' := am_ H
      clear H
      go_wp2
      go_roundg kj63
      case measure => have := HK1.out; have := HJ63.out; omega
      case rel => exact ⟨(x8_63), (x246001_1), (x246002_63), (x254000_63), (x254001_63), (x254002_63), (u246001), (u246002), H', ⟨by have := HK1.out; have := HJ63.out; omega⟩, ⟨rk_ HO_8.out⟩, ⟨rk_ HO_246001.out⟩, ⟨rk_ HO_246002.out⟩, ⟨bk_ BK244.out⟩, ⟨bk_ BK245.out⟩, ⟨bk_ BK253.out⟩, ⟨bh_⟩⟩
     rw [if_pos c106] at H
     have c106b0 : (t271 == 2) = true := beq_iff_eq.mpr c106
     have c106b1 : (t271 != 2) = false := bne_eq_false_iff_eq.mpr c106
     clear c106
     obtain ⟨⟨t307, t308, t309, t310⟩, A107, H⟩ := bs_ H
     dsimp only at H
     obtain ⟨⟨t311, t312, t313, t314⟩, A108, H⟩ := bs_ H
     dsimp only at H
     obtain ⟨⟨t315, t316, t317, t318⟩, A109, H⟩ := bs_ H
     dsimp only at H
     obtain ⟨⟨t319, t320, t321, t322, t323, t324, t325, t326, t327⟩, A110, H⟩ := bs_ H
     dsimp only at H
     by_cases c111 : x246001_1.length < 1759218604441
     rotate_left
     ·rw [if_neg c111] at H
      exact absurd H (by simp)
     rw [if_pos c111] at H
     have LMc111 := am_ c111
     clear c111
     obtain ⟨y328, hy328⟩ : ∃ y_ : List (S41), y_ = (x246001_1 ++ [(⟨t310, t314, t318, (⟨t322, t323, t324, t325, t326, t327⟩ : S39)⟩ : S41)]) := ⟨_, rfl⟩
     replace H : (computusref26_Parse.l0 kj63 x8_63 t257 y328 x246002_63 t319 t320 t321) = some (r1, r2, r3, r4, r5) := by first | (rw [hy328]; with_reducible exact H) | (have H2_ := (Option.bind_some _ _).symm.trans H; rw [hy328]; with_reducible exact H2_) | (have H2_ := (Option.bind_some _ _).symm.trans H; with_reducible exact H2_) | with_reducible exact H | (rw [hy328]; exact H) | exact H
     have Ny328 := am_ hy328
     clear hy328
     have H' := am_ H
     clear H
     go_wp2_with (first | ((with_reducible refine gate_dst (N := 11) rfl ?_); refine be_ (N := 11) (cs := #[.string (⟨#[]⟩ : ByteArray), .int .i64 0, .int .i64 0, .int .i64 0, .int .i64 0, .int .i64 0, .int .i64 0, .int .i64 0, .int .i64 0]) (t := 41) ?_; intro gb306 hg w112 hbox hb; replace HO_8 := am_ (Kd.R_below (rk_ HO_8.out) hb); replace HO_246001 := am_ (Kd.R_below (Kd.R_elderB (rk_ HO_246001.out) gb306 (Nat.le_of_eq hg.symm)) hb); replace HO_246002 := am_ (Kd.R_below (rk_ HO_246002.out) hb); have BK306 := am_ (hbox); have GW306 := gw_ (w := w) hg; have GE306 := gw_ (w := w) hg; replace HB := bt_ hb; have NB244_306 := ne_ hg BK244; have NB306_244 := nf_ hg BK244; replace BK244 := bw_ BK244 hb; have NB245_306 := ne_ hg BK245; have NB306_245 := nf_ hg BK245; replace BK245 := bw_ BK245 hb; have NB253_306 := ne_ hg BK253; have NB306_253 := nf_ hg BK253; replace BK253 := bw_ BK253 hb; clear hb hbox hg; have hnb113 := NB253_244.out; have hnc113 := NB244_253.out; have hnb114 := NB253_245.out; have hnc114 := NB245_253.out; have hnb115 := NB253_306.out; have hnc115 := NB306_253.out; obtain ⟨hcz116_0, hcz116_1, hcz116_2⟩ := cz3_ BK253.out; obtain ⟨hfz116_0, hfz116_1, hfz116_2⟩ := fz3_ BK253.out) | ((with_reducible refine gate_callee (f := 23) rfl ?_); refine goesL_ (some 87) rfl rfl Tryd.func23 (by kernel_rfl) rfl #[.agg #[.string x254000_63, .int .i64 x254001_63, .bool x254002_63]] rfl (by (try simp only [List.map_toArray, List.map_cons, List.map_nil]); first | done | rfl | (simp only [List.length_drop, List.length_take]; rfl)) ?_; (with_reducible refine (computusref26_Identifier.calls kj63 x254000_63 x254001_63 x254002_63 t307 t308 t309 t310 _ A107.out).mono ?_); rintro e w117 ⟨rfl, hb⟩; refine ⟨_, rfl, ?_⟩; replace HO_8 := am_ (Kd.R_below (rk_ HO_8.out) hb); replace HO_246001 := am_ (Kd.R_below (rk_ HO_246001.out) hb); replace HO_246002 := am_ (Kd.R_below (rk_ HO_246002.out) hb); replace BK244 := bw_ BK244 hb; replace BK245 := bw_ BK245 hb; replace BK253 := bw_ BK253 hb; replace BK306 := bw_ BK306 hb; replace HB := bt_ hb; (try clear hb); obtain ⟨hcz118_0, hcz118_1, hcz118_2⟩ := cz3_ BK253.out; obtain ⟨hfz118_0, hfz118_1, hfz118_2⟩ := fz3_ BK253.out; have hnb119 := NB306_244.out; have hnc119 := NB244_306.out; have hnb120 := NB306_245.out; have hnc120 := NB245_306.out; have hcz121_0 : w117.cell? ⟨gb306, 0, none⟩ = some (.string (⟨#[]⟩ : ByteArray)) := (blk_cell BK306.out 0).trans rfl; have hcz121_1 : w117.cell? ⟨gb306, 1, none⟩ = some (.int .i64 0) := (blk_cell BK306.out 1).trans rfl; have hcz121_2 : w117.cell? ⟨gb306, 2, none⟩ = some (.int .i64 0) := (blk_cell BK306.out 2).trans rfl; have hcz121_3 : w117.cell? ⟨gb306, 3, none⟩ = some (.int .i64 0) := (blk_cell BK306.out 3).trans rfl; have hcz121_4 : w117.cell? ⟨gb306, 4, none⟩ = some (.int .i64 0) := (blk_cell BK306.out 4).trans rfl; have hcz121_5 : w117.cell? ⟨gb306, 5, none⟩ = some (.int .i64 0) := (blk_cell BK306.out 5).trans rfl; have hcz121_6 : w117.cell? ⟨gb306, 6, none⟩ = some (.int .i64 0) := (blk_cell BK306.out 6).trans rfl; have hcz121_7 : w117.cell? ⟨gb306, 7, none⟩ = some (.int .i64 0) := (blk_cell BK306.out 7).trans rfl; have hcz121_8 : w117.cell? ⟨gb306, 8, none⟩ = some (.int .i64 0) := (blk_cell BK306.out 8).trans rfl; have hfz121_0 := blk_frozen BK306.out 0; have hfz121_1 := blk_frozen BK306.out 1; have hfz121_2 := blk_frozen BK306.out 2; have hfz121_3 := blk_frozen BK306.out 3; have hfz121_4 := blk_frozen BK306.out 4; have hfz121_5 := blk_frozen BK306.out 5; have hfz121_6 := blk_frozen BK306.out 6; have hfz121_7 := blk_frozen BK306.out 7; have hfz121_8 := blk_frozen BK306.out 8) | ((with_reducible refine gate_callee (f := 21) rfl ?_); refine goesL_ (some 93) rfl rfl Tryd.func21 (by kernel_rfl) rfl #[.agg #[.string t307, .int .i64 t308, .bool t309]] rfl (by (try simp only [List.map_toArray, List.map_cons, List.map_nil]); first | done | rfl | (simp only [List.length_drop, List.length_take]; rfl)) ?_; (with_reducible refine (computusref26_Number.calls kj63 t307 t308 t309 t311 t312 t313 t314 _ A108.out).mono ?_); rintro e w122 ⟨rfl, hb⟩; refine ⟨_, rfl, ?_⟩; replace HO_8 := am_ (Kd.R_below (by (with_reducible repeat (first | apply Kd.R_alloc | apply Kd.R_drewN | apply Kd.R_drew)); exact (Kd.R_mono (Kd.R_mono (Kd.R_far (p := ⟨gb306, 0, none⟩) (Kd.R_far (p := ⟨gb253, 2, none⟩) (Kd.R_far (p := ⟨gb253, 1, none⟩) (Kd.R_far (p := ⟨gb253, 0, none⟩) (Kd.R_types (Kd.R_types HO_8.out BK253.out (by decide)) BK306.out (by decide)) (fun _ hk => hk.1.2) (.string t307)) (fun _ hk => hk.1.2) (.int .i64 t308)) (fun _ hk => hk.1.2) (.bool t309)) (fun _ hk => hk.2) (.string t310)) (fun _ h_ => h_.1)) (fun _ h_ => h_.1))) hb); replace HO_246001 := am_ (Kd.R_below (by (with_reducible repeat (first | apply Kd.R_alloc | apply Kd.R_drewN | apply Kd.R_drew)); exact (Kd.R_mono (Kd.R_mono (Kd.R_far (p := ⟨gb306, 0, none⟩) (Kd.R_far (p := ⟨gb253, 2, none⟩) (Kd.R_far (p := ⟨gb253, 1, none⟩) (Kd.R_far (p := ⟨gb253, 0, none⟩) (Kd.R_mono (Kd.R_types HO_246001.out BK253.out (by decide)) (fun k_ hk => (⟨hk, hk.1.2⟩ : _ ∧ k_ ≠ gb306))) (fun _ hk => hk.1.2) (.string t307)) (fun _ hk => hk.1.2) (.int .i64 t308)) (fun _ hk => hk.1.2) (.bool t309)) (fun _ hk => hk.2) (.string t310)) (fun _ h_ => h_.1)) (fun _ h_ => h_.1))) hb); replace HO_246002 := am_ (Kd.R_below (by (with_reducible repeat (first | apply Kd.R_alloc | apply Kd.R_drewN | apply Kd.R_drew)); exact (Kd.R_mono (Kd.R_mono (Kd.R_far (p := ⟨gb306, 0, none⟩) (Kd.R_far (p := ⟨gb253, 2, none⟩) (Kd.R_far (p := ⟨gb253, 1, none⟩) (Kd.R_far (p := ⟨gb253, 0, none⟩) (Kd.R_types (Kd.R_types HO_246002.out BK253.out (by decide)) BK306.out (by decide)) (fun _ hk => hk.1.2) (.string t307)) (fun _ hk => hk.1.2) (.int .i64 t308)) (fun _ hk => hk.1.2) (.bool t309)) (fun _ hk => hk.2) (.string t310)) (fun _ h_ => h_.1)) (fun _ h_ => h_.1))) hb); replace BK244 := am_ (blk_below (g := gb244) (o := .cells #[.int .i64 0, .slice none 0 0, .slice none 0 0] 26 (0, 0)) (by refine bp_ ?_; refine blk_far ?_ NB244_306.out _; refine bp_ ?_; refine blk_far ?_ NB244_253.out _; refine bp_ ?_; refine blk_far ?_ NB244_253.out _; refine bp_ ?_; refine blk_far ?_ NB244_253.out _; exact bk_ BK244.out) hb); replace BK245 := am_ (blk_below (g := gb245) (o := .cells #[.int .i64 t257, u246001, u246002] 26 (0, 0)) (by refine bp_ ?_; refine blk_far ?_ NB245_306.out _; refine bp_ ?_; refine blk_far ?_ NB245_253.out _; refine bp_ ?_; refine blk_far ?_ NB245_253.out _; refine bp_ ?_; refine blk_far ?_ NB245_253.out _; exact bk_ BK245.out) hb); replace BK253 := am_ (blk_below (g := gb253) (o := .cells #[.string t307, .int .i64 t308, .bool t309] 52 (0, 0)) (by refine bp_ ?_; refine blk_far ?_ NB253_306.out _; refine bp_ ?_; refine blk_put (cs := #[.string t307, .int .i64 t308, .bool x254002_63]) ?_ 2 _ rfl; refine bp_ ?_; refine blk_put (cs := #[.string t307, .int .i64 x254001_63, .bool x254002_63]) ?_ 1 _ rfl; refine bp_ ?_; refine blk_put (cs := #[.string x254000_63, .int .i64 x254001_63, .bool x254002_63]) ?_ 0 _ rfl; exact bk_ BK253.out) hb); replace BK306 := am_ (blk_below (g := gb306) (o := .cells #[.string t310, .int .i64 0, .int .i64 0, .int .i64 0, .int .i64 0, .int .i64 0, .int .i64 0, .int .i64 0, .int .i64 0] 41 (0, 0)) (by refine bp_ ?_; refine blk_put (cs := #[.string (⟨#[]⟩ : ByteArray), .int .i64 0, .int .i64 0, .int .i64 0, .int .i64 0, .int .i64 0, .int .i64 0, .int .i64 0, .int .i64 0]) ?_ 0 _ rfl; refine bp_ ?_; refine blk_far ?_ NB306_253.out _; refine bp_ ?_; refine blk_far ?_ NB306_253.out _; refine bp_ ?_; refine blk_far ?_ NB306_253.out _; exact bk_ BK306.out) hb); replace HB := bt_ hb; (try clear hb); (try clear hk); obtain ⟨hcz123_0, hcz123_1, hcz123_2⟩ := cz3_ BK253.out; obtain ⟨hfz123_0, hfz123_1, hfz123_2⟩ := fz3_ BK253.out; have hcz124_0 : w122.cell? ⟨gb306, 0, none⟩ = some (.string t310) := (blk_cell BK306.out 0).trans rfl; have hcz124_1 : w122.cell? ⟨gb306, 1, none⟩ = some (.int .i64 0) := (blk_cell BK306.out 1).trans rfl; have hcz124_2 : w122.cell? ⟨gb306, 2, none⟩ = some (.int .i64 0) := (blk_cell BK306.out 2).trans rfl; have hcz124_3 : w122.cell? ⟨gb306, 3, none⟩ = some (.int .i64 0) := (blk_cell BK306.out 3).trans rfl; have hcz124_4 : w122.cell? ⟨gb306, 4, none⟩ = some (.int .i64 0) := (blk_cell BK306.out 4).trans rfl; have hcz124_5 : w122.cell? ⟨gb306, 5, none⟩ = some (.int .i64 0) := (blk_cell BK306.out 5).trans rfl; have hcz124_6 : w122.cell? ⟨gb306, 6, none⟩ = some (.int .i64 0) := (blk_cell BK306.out 6).trans rfl; have hcz124_7 : w122.cell? ⟨gb306, 7, none⟩ = some (.int .i64 0) := (blk_cell BK306.out 7).trans rfl; have hcz124_8 : w122.cell? ⟨gb306, 8, none⟩ = some (.int .i64 0) := (blk_cell BK306.out 8).trans rfl; have hfz124_0 := blk_frozen BK306.out 0; have hfz124_1 := blk_frozen BK306.out 1; have hfz124_2 := blk_frozen BK306.out 2; have hfz124_3 := blk_frozen BK306.out 3; have hfz124_4 := blk_frozen BK306.out 4; have hfz124_5 := blk_frozen BK306.out 5; have hfz124_6 := blk_frozen BK306.out 6; have hfz124_7 := blk_frozen BK306.out 7; have hfz124_8 := blk_frozen BK306.out 8) | ((with_reducible refine gate_callee (f := 21) rfl ?_); refine goesL_ (some 99) rfl rfl Tryd.func21 (by kernel_rfl) rfl #[.agg #[.string t311, .int .i64 t312, .bool t313]] rfl (by (try simp only [List.map_toArray, List.map_cons, List.map_nil]); first | done | rfl | (simp only [List.length_drop, List.length_take]; rfl)) ?_; (with_reducible refine (computusref26_Number.calls kj63 t311 t312 t313 t315 t316 t317 t318 _ A109.out).mono ?_); rintro e w125 ⟨rfl, hb⟩; refine ⟨_, rfl, ?_⟩; replace HO_8 := am_ (Kd.R_below (by (with_reducible repeat (first | apply Kd.R_alloc | apply Kd.R_drewN | apply Kd.R_drew)); exact (Kd.R_mono (Kd.R_mono (Kd.R_far (p := ⟨gb306, 1, none⟩) (Kd.R_far (p := ⟨gb253, 2, none⟩) (Kd.R_far (p := ⟨gb253, 1, none⟩) (Kd.R_far (p := ⟨gb253, 0, none⟩) (Kd.R_types (Kd.R_types HO_8.out BK253.out (by decide)) BK306.out (by decide)) (fun _ hk => hk.1.2) (.string t311)) (fun _ hk => hk.1.2) (.int .i64 t312)) (fun _ hk => hk.1.2) (.bool t313)) (fun _ hk => hk.2) (.int .i64 t314)) (fun _ h_ => h_.1)) (fun _ h_ => h_.1))) hb); replace HO_246001 := am_ (Kd.R_below (by (with_reducible repeat (first | apply Kd.R_alloc | apply Kd.R_drewN | apply Kd.R_drew)); exact (Kd.R_mono (Kd.R_mono (Kd.R_far (p := ⟨gb306, 1, none⟩) (Kd.R_far (p := ⟨gb253, 2, none⟩) (Kd.R_far (p := ⟨gb253, 1, none⟩) (Kd.R_far (p := ⟨gb253, 0, none⟩) (Kd.R_mono (Kd.R_types HO_246001.out BK253.out (by decide)) (fun k_ hk => (⟨hk, hk.1.2⟩ : _ ∧ k_ ≠ gb306))) (fun _ hk => hk.1.2) (.string t311)) (fun _ hk => hk.1.2) (.int .i64 t312)) (fun _ hk => hk.1.2) (.bool t313)) (fun _ hk => hk.2) (.int .i64 t314)) (fun _ h_ => h_.1)) (fun _ h_ => h_.1))) hb); replace HO_246002 := am_ (Kd.R_below (by (with_reducible repeat (first | apply Kd.R_alloc | apply Kd.R_drewN | apply Kd.R_drew)); exact (Kd.R_mono (Kd.R_mono (Kd.R_far (p := ⟨gb306, 1, none⟩) (Kd.R_far (p := ⟨gb253, 2, none⟩) (Kd.R_far (p := ⟨gb253, 1, none⟩) (Kd.R_far (p := ⟨gb253, 0, none⟩) (Kd.R_types (Kd.R_types HO_246002.out BK253.out (by decide)) BK306.out (by decide)) (fun _ hk => hk.1.2) (.string t311)) (fun _ hk => hk.1.2) (.int .i64 t312)) (fun _ hk => hk.1.2) (.bool t313)) (fun _ hk => hk.2) (.int .i64 t314)) (fun _ h_ => h_.1)) (fun _ h_ => h_.1))) hb); replace BK244 := am_ (blk_below (g := gb244) (o := .cells #[.int .i64 0, .slice none 0 0, .slice none 0 0] 26 (0, 0)) (by refine bp_ ?_; refine blk_far ?_ NB244_306.out _; refine bp_ ?_; refine blk_far ?_ NB244_253.out _; refine bp_ ?_; refine blk_far ?_ NB244_253.out _; refine bp_ ?_; refine blk_far ?_ NB244_253.out _; exact bk_ BK244.out) hb); replace BK245 := am_ (blk_below (g := gb245) (o := .cells #[.int .i64 t257, u246001, u246002] 26 (0, 0)) (by refine bp_ ?_; refine blk_far ?_ NB245_306.out _; refine bp_ ?_; refine blk_far ?_ NB245_253.out _; refine bp_ ?_; refine blk_far ?_ NB245_253.out _; refine bp_ ?_; refine blk_far ?_ NB245_253.out _; exact bk_ BK245.out) hb); replace BK253 := am_ (blk_below (g := gb253) (o := .cells #[.string t311, .int .i64 t312, .bool t313] 52 (0, 0)) (by refine bp_ ?_; refine blk_far ?_ NB253_306.out _; refine bp_ ?_; refine blk_put (cs := #[.string t311, .int .i64 t312, .bool t309]) ?_ 2 _ rfl; refine bp_ ?_; refine blk_put (cs := #[.string t311, .int .i64 t308, .bool t309]) ?_ 1 _ rfl; refine bp_ ?_; refine blk_put (cs := #[.string t307, .int .i64 t308, .bool t309]) ?_ 0 _ rfl; exact bk_ BK253.out) hb); replace BK306 := am_ (blk_below (g := gb306) (o := .cells #[.string t310, .int .i64 t314, .int .i64 0, .int .i64 0, .int .i64 0, .int .i64 0, .int .i64 0, .int .i64 0, .int .i64 0] 41 (0, 0)) (by refine bp_ ?_; refine blk_put (cs := #[.string t310, .int .i64 0, .int .i64 0, .int .i64 0, .int .i64 0, .int .i64 0, .int .i64 0, .int .i64 0, .int .i64 0]) ?_ 1 _ rfl; refine bp_ ?_; refine blk_far ?_ NB306_253.out _; refine bp_ ?_; refine blk_far ?_ NB306_253.out _; refine bp_ ?_; refine blk_far ?_ NB306_253.out _; exact bk_ BK306.out) hb); replace HB := bt_ hb; (try clear hb); (try clear hk); obtain ⟨hcz126_0, hcz126_1, hcz126_2⟩ := cz3_ BK253.out; obtain ⟨hfz126_0, hfz126_1, hfz126_2⟩ := fz3_ BK253.out; have hcz127_0 : w125.cell? ⟨gb306, 0, none⟩ = some (.string t310) := (blk_cell BK306.out 0).trans rfl; have hcz127_1 : w125.cell? ⟨gb306, 1, none⟩ = some (.int .i64 t314) := (blk_cell BK306.out 1).trans rfl; have hcz127_2 : w125.cell? ⟨gb306, 2, none⟩ = some (.int .i64 0) := (blk_cell BK306.out 2).trans rfl; have hcz127_3 : w125.cell? ⟨gb306, 3, none⟩ = some (.int .i64 0) := (blk_cell BK306.out 3).trans rfl; have hcz127_4 : w125.cell? ⟨gb306, 4, none⟩ = some (.int .i64 0) := (blk_cell BK306.out 4).trans rfl; have hcz127_5 : w125.cell? ⟨gb306, 5, none⟩ = some (.int .i64 0) := (blk_cell BK306.out 5).trans rfl; have hcz127_6 : w125.cell? ⟨gb306, 6, none⟩ = some (.int .i64 0) := (blk_cell BK306.out 6).trans rfl; have hcz127_7 : w125.cell? ⟨gb306, 7, none⟩ = some (.int .i64 0) := (blk_cell BK306.out 7).trans rfl; have hcz127_8 : w125.cell? ⟨gb306, 8, none⟩ = some (.int .i64 0) := (blk_cell BK306.out 8).trans rfl; have hfz127_0 := blk_frozen BK306.out 0; have hfz127_1 := blk_frozen BK306.out 1; have hfz127_2 := blk_frozen BK306.out 2; have hfz127_3 := blk_frozen BK306.out 3; have hfz127_4 := blk_frozen BK306.out 4; have hfz127_5 := blk_frozen BK306.out 5; have hfz127_6 := blk_frozen BK306.out 6; have hfz127_7 := blk_frozen BK306.out 7; have hfz127_8 := blk_frozen BK306.out 8) | ((with_reducible refine gate_callee (f := 25) rfl ?_); refine goesL_ (some 105) rfl rfl Tryd.func25 (by kernel_rfl) rfl #[.agg #[.string t315, .int .i64 t316, .bool t317]] rfl (by (try simp only [List.map_toArray, List.map_cons, List.map_nil]); first | done | rfl | (simp only [List.length_drop, List.length_take]; rfl)) ?_; (with_reducible refine (computusref26_readAnchor.calls kj63 t315 t316 t317 t319 t320 t321 t322 t323 t324 t325 t326 t327 _ A110.out).mono ?_); rintro e w128 ⟨rfl, hb⟩; refine ⟨_, rfl, ?_⟩; replace HO_8 := am_ (Kd.R_below (by (with_reducible repeat (first | apply Kd.R_alloc | apply Kd.R_drewN | apply Kd.R_drew)); exact (Kd.R_mono (Kd.R_mono (Kd.R_far (p := ⟨gb306, 2, none⟩) (Kd.R_far (p := ⟨gb253, 2, none⟩) (Kd.R_far (p := ⟨gb253, 1, none⟩) (Kd.R_far (p := ⟨gb253, 0, none⟩) (Kd.R_types (Kd.R_types HO_8.out BK253.out (by decide)) BK306.out (by decide)) (fun _ hk => hk.1.2) (.string t315)) (fun _ hk => hk.1.2) (.int .i64 t316)) (fun _ hk => hk.1.2) (.bool t317)) (fun _ hk => hk.2) (.int .i64 t318)) (fun _ h_ => h_.1)) (fun _ h_ => h_.1))) hb); replace HO_246001 := am_ (Kd.R_below (by (with_reducible repeat (first | apply Kd.R_alloc | apply Kd.R_drewN | apply Kd.R_drew)); exact (Kd.R_mono (Kd.R_mono (Kd.R_far (p := ⟨gb306, 2, none⟩) (Kd.R_far (p := ⟨gb253, 2, none⟩) (Kd.R_far (p := ⟨gb253, 1, none⟩) (Kd.R_far (p := ⟨gb253, 0, none⟩) (Kd.R_mono (Kd.R_types HO_246001.out BK253.out (by decide)) (fun k_ hk => (⟨hk, hk.1.2⟩ : _ ∧ k_ ≠ gb306))) (fun _ hk => hk.1.2) (.string t315)) (fun _ hk => hk.1.2) (.int .i64 t316)) (fun _ hk => hk.1.2) (.bool t317)) (fun _ hk => hk.2) (.int .i64 t318)) (fun _ h_ => h_.1)) (fun _ h_ => h_.1))) hb); replace HO_246002 := am_ (Kd.R_below (by (with_reducible repeat (first | apply Kd.R_alloc | apply Kd.R_drewN | apply Kd.R_drew)); exact (Kd.R_mono (Kd.R_mono (Kd.R_far (p := ⟨gb306, 2, none⟩) (Kd.R_far (p := ⟨gb253, 2, none⟩) (Kd.R_far (p := ⟨gb253, 1, none⟩) (Kd.R_far (p := ⟨gb253, 0, none⟩) (Kd.R_types (Kd.R_types HO_246002.out BK253.out (by decide)) BK306.out (by decide)) (fun _ hk => hk.1.2) (.string t315)) (fun _ hk => hk.1.2) (.int .i64 t316)) (fun _ hk => hk.1.2) (.bool t317)) (fun _ hk => hk.2) (.int .i64 t318)) (fun _ h_ => h_.1)) (fun _ h_ => h_.1))) hb); replace BK244 := am_ (blk_below (g := gb244) (o := .cells #[.int .i64 0, .slice none 0 0, .slice none 0 0] 26 (0, 0)) (by refine bp_ ?_; refine blk_far ?_ NB244_306.out _; refine bp_ ?_; refine blk_far ?_ NB244_253.out _; refine bp_ ?_; refine blk_far ?_ NB244_253.out _; refine bp_ ?_; refine blk_far ?_ NB244_253.out _; exact bk_ BK244.out) hb); replace BK245 := am_ (blk_below (g := gb245) (o := .cells #[.int .i64 t257, u246001, u246002] 26 (0, 0)) (by refine bp_ ?_; refine blk_far ?_ NB245_306.out _; refine bp_ ?_; refine blk_far ?_ NB245_253.out _; refine bp_ ?_; refine blk_far ?_ NB245_253.out _; refine bp_ ?_; refine blk_far ?_ NB245_253.out _; exact bk_ BK245.out) hb); replace BK253 := am_ (blk_below (g := gb253) (o := .cells #[.string t315, .int .i64 t316, .bool t317] 52 (0, 0)) (by refine bp_ ?_; refine blk_far ?_ NB253_306.out _; refine bp_ ?_; refine blk_put (cs := #[.string t315, .int .i64 t316, .bool t313]) ?_ 2 _ rfl; refine bp_ ?_; refine blk_put (cs := #[.string t315, .int .i64 t312, .bool t313]) ?_ 1 _ rfl; refine bp_ ?_; refine blk_put (cs := #[.string t311, .int .i64 t312, .bool t313]) ?_ 0 _ rfl; exact bk_ BK253.out) hb); replace BK306 := am_ (blk_below (g := gb306) (o := .cells #[.string t310, .int .i64 t314, .int .i64 t318, .int .i64 0, .int .i64 0, .int .i64 0, .int .i64 0, .int .i64 0, .int .i64 0] 41 (0, 0)) (by refine bp_ ?_; refine blk_put (cs := #[.string t310, .int .i64 t314, .int .i64 0, .int .i64 0, .int .i64 0, .int .i64 0, .int .i64 0, .int .i64 0, .int .i64 0]) ?_ 2 _ rfl; refine bp_ ?_; refine blk_far ?_ NB306_253.out _; refine bp_ ?_; refine blk_far ?_ NB306_253.out _; refine bp_ ?_; refine blk_far ?_ NB306_253.out _; exact bk_ BK306.out) hb); replace HB := bt_ hb; (try clear hb); (try clear hk); obtain ⟨hcz129_0, hcz129_1, hcz129_2⟩ := cz3_ BK253.out; obtain ⟨hfz129_0, hfz129_1, hfz129_2⟩ := fz3_ BK253.out; have hcz130_0 : w128.cell? ⟨gb306, 0, none⟩ = some (.string t310) := (blk_cell BK306.out 0).trans rfl; have hcz130_1 : w128.cell? ⟨gb306, 1, none⟩ = some (.int .i64 t314) := (blk_cell BK306.out 1).trans rfl; have hcz130_2 : w128.cell? ⟨gb306, 2, none⟩ = some (.int .i64 t318) := (blk_cell BK306.out 2).trans rfl; have hcz130_3 : w128.cell? ⟨gb306, 3, none⟩ = some (.int .i64 0) := (blk_cell BK306.out 3).trans rfl; have hcz130_4 : w128.cell? ⟨gb306, 4, none⟩ = some (.int .i64 0) := (blk_cell BK306.out 4).trans rfl; have hcz130_5 : w128.cell? ⟨gb306, 5, none⟩ = some (.int .i64 0) := (blk_cell BK306.out 5).trans rfl; have hcz130_6 : w128.cell? ⟨gb306, 6, none⟩ = some (.int .i64 0) := (blk_cell BK306.out 6).trans rfl; have hcz130_7 : w128.cell? ⟨gb306, 7, none⟩ = some (.int .i64 0) := (blk_cell BK306.out 7).trans rfl; have hcz130_8 : w128.cell? ⟨gb306, 8, none⟩ = some (.int .i64 0) := (blk_cell BK306.out 8).trans rfl; have hfz130_0 := blk_frozen BK306.out 0; have hfz130_1 := blk_frozen BK306.out 1; have hfz130_2 := blk_frozen BK306.out 2; have hfz130_3 := blk_frozen BK306.out 3; have hfz130_4 := blk_frozen BK306.out 4; have hfz130_5 := blk_frozen BK306.out 5; have hfz130_6 := blk_frozen BK306.out 6; have hfz130_7 := blk_frozen BK306.out 7; have hfz130_8 := blk_frozen BK306.out 8; have hnb131 := NB245_244.out; have hnc131 := NB244_245.out; obtain ⟨hcz132_0, hcz132_1, hcz132_2⟩ := cz3_ BK245.out; obtain ⟨hfz132_0, hfz132_1, hfz132_2⟩ := fz3_ BK245.out) | ((with_reducible refine gate_builtin (b := .append) (xs := #[.tmp 110, .tmp 112]) rfl ?_); at_builtin; refine Kd.R_append k41 (w0 := w) w.heap.size rfl (.tmp 110) (.tmp 112) 23 41 (.agg #[(.string ⟨#[]⟩), (.int .i64 0), (.int .i64 0), (.int .i64 0), (.int .i64 0), (.int .i64 0), (.int .i64 0), (.int .i64 0), (.int .i64 0)]) 80 rfl Tryd.underlying23 info41 rfl (by decide) (by omega) u246001 x246001_1 (⟨t310, t314, t318, (⟨t322, t323, t324, t325, t326, t327⟩ : S39)⟩ : S41) [.string t310, .int .i64 t314, .int .i64 t318, .int .i64 t322, .int .i64 t323, .int .i64 t324, .int .i64 t325, .int .i64 t326, .int .i64 t327] (fun k_ => k_ ≠ gb306) (fun _ => False) rfl (by first | (go_simp; done) | (go_simp; rfl)) ?aP (fun _ hk => hk.elim) ?aF ?aO ?aB ?aS ?aL ?_; (case aP => exact k41_mkM _ _ _ (⟨t310, t314, t318, (⟨t322, t323, t324, t325, t326, t327⟩ : S39)⟩ : S41)); (case aB => exact bh_); (case aF => exact (fun k_ hk => Kd.freshB (g := gb306) (o := .cells #[.string t310, .int .i64 t314, .int .i64 t318, .int .i64 t322, .int .i64 t323, .int .i64 t324, .int .i64 t325, .int .i64 t326, .int .i64 t327] 41 (0, 0)) (by refine bp_ ?_; refine blk_put (cs := #[.string t310, .int .i64 t314, .int .i64 t318, .int .i64 t322, .int .i64 t323, .int .i64 t324, .int .i64 t325, .int .i64 t326, .int .i64 0]) ?_ 8 _ rfl; refine bp_ ?_; refine blk_put (cs := #[.string t310, .int .i64 t314, .int .i64 t318, .int .i64 t322, .int .i64 t323, .int .i64 t324, .int .i64 t325, .int .i64 0, .int .i64 0]) ?_ 7 _ rfl; refine bp_ ?_; refine blk_put (cs := #[.string t310, .int .i64 t314, .int .i64 t318, .int .i64 t322, .int .i64 t323, .int .i64 t324, .int .i64 0, .int .i64 0, .int .i64 0]) ?_ 6 _ rfl; refine bp_ ?_; refine blk_put (cs := #[.string t310, .int .i64 t314, .int .i64 t318, .int .i64 t322, .int .i64 t323, .int .i64 0, .int .i64 0, .int .i64 0, .int .i64 0]) ?_ 5 _ rfl; refine bp_ ?_; refine blk_put (cs := #[.string t310, .int .i64 t314, .int .i64 t318, .int .i64 t322, .int .i64 0, .int .i64 0, .int .i64 0, .int .i64 0, .int .i64 0]) ?_ 4 _ rfl; refine bp_ ?_; refine blk_put (cs := #[.string t310, .int .i64 t314, .int .i64 t318, .int .i64 0, .int .i64 0, .int .i64 0, .int .i64 0, .int .i64 0, .int .i64 0]) ?_ 3 _ rfl; refine bp_ ?_; refine blk_far ?_ NB306_253.out _; refine bp_ ?_; refine blk_far ?_ NB306_253.out _; refine bp_ ?_; refine blk_far ?_ NB306_253.out _; exact bk_ BK306.out) k_ hk)); (case aO => exact (by (with_reducible repeat (first | apply Kd.R_alloc | apply Kd.R_drewN | apply Kd.R_drew)); exact Kd.R_mono (Kd.R_far (p := ⟨gb306, 8, none⟩) (Kd.R_far (p := ⟨gb306, 7, none⟩) (Kd.R_far (p := ⟨gb306, 6, none⟩) (Kd.R_far (p := ⟨gb306, 5, none⟩) (Kd.R_far (p := ⟨gb306, 4, none⟩) (Kd.R_far (p := ⟨gb306, 3, none⟩) (Kd.R_far (p := ⟨gb253, 2, none⟩) (Kd.R_far (p := ⟨gb253, 1, none⟩) (Kd.R_far (p := ⟨gb253, 0, none⟩) (Kd.R_mono (Kd.R_types HO_246001.out BK253.out (by decide)) (fun k_ hk => (⟨hk, hk.1.2⟩ : _ ∧ k_ ≠ gb306))) (fun _ hk => hk.1.2) (.string t319)) (fun _ hk => hk.1.2) (.int .i64 t320)) (fun _ hk => hk.1.2) (.bool t321)) (fun _ hk => hk.2) (.int .i64 t322)) (fun _ hk => hk.2) (.int .i64 t323)) (fun _ hk => hk.2) (.int .i64 t324)) (fun _ hk => hk.2) (.int .i64 t325)) (fun _ hk => hk.2) (.int .i64 t326)) (fun _ hk => hk.2) (.int .i64 t327)) (fun _ hk => hk.1.1.2))); (case aS => exact bz_); (case aL => have := LMc111.out; omega); intro v329 w133 ho hb hg hat; rw [← Ny328.out] at ho; have n0_ := am_ (Kd.R_over' (by (with_reducible repeat (first | apply Kd.R_alloc | apply Kd.R_drewN | apply Kd.R_drew)); exact (Kd.R_mono (Kd.R_mono (Kd.R_far (p := ⟨gb306, 8, none⟩) (Kd.R_far (p := ⟨gb306, 7, none⟩) (Kd.R_far (p := ⟨gb306, 6, none⟩) (Kd.R_far (p := ⟨gb306, 5, none⟩) (Kd.R_far (p := ⟨gb306, 4, none⟩) (Kd.R_far (p := ⟨gb306, 3, none⟩) (Kd.R_far (p := ⟨gb253, 2, none⟩) (Kd.R_far (p := ⟨gb253, 1, none⟩) (Kd.R_far (p := ⟨gb253, 0, none⟩) (Kd.R_types (Kd.R_types HO_8.out BK253.out (by decide)) BK306.out (by decide)) (fun _ hk => hk.1.2) (.string t319)) (fun _ hk => hk.1.2) (.int .i64 t320)) (fun _ hk => hk.1.2) (.bool t321)) (fun _ hk => hk.2) (.int .i64 t322)) (fun _ hk => hk.2) (.int .i64 t323)) (fun _ hk => hk.2) (.int .i64 t324)) (fun _ hk => hk.2) (.int .i64 t325)) (fun _ hk => hk.2) (.int .i64 t326)) (fun _ hk => hk.2) (.int .i64 t327)) (fun _ h_ => h_.1)) (fun _ h_ => h_.1))) (Kd.R_typed (by (with_reducible repeat (first | apply Kd.R_alloc | apply Kd.R_drewN | apply Kd.R_drew)); exact (Kd.R_mono (Kd.R_mono (Kd.R_far (p := ⟨gb306, 8, none⟩) (Kd.R_far (p := ⟨gb306, 7, none⟩) (Kd.R_far (p := ⟨gb306, 6, none⟩) (Kd.R_far (p := ⟨gb306, 5, none⟩) (Kd.R_far (p := ⟨gb306, 4, none⟩) (Kd.R_far (p := ⟨gb306, 3, none⟩) (Kd.R_far (p := ⟨gb253, 2, none⟩) (Kd.R_far (p := ⟨gb253, 1, none⟩) (Kd.R_far (p := ⟨gb253, 0, none⟩) (Kd.R_mono (Kd.R_types HO_246001.out BK253.out (by decide)) (fun k_ hk => (⟨hk, hk.1.2⟩ : _ ∧ k_ ≠ gb306))) (fun _ hk => hk.1.2) (.string t319)) (fun _ hk => hk.1.2) (.int .i64 t320)) (fun _ hk => hk.1.2) (.bool t321)) (fun _ hk => hk.2) (.int .i64 t322)) (fun _ hk => hk.2) (.int .i64 t323)) (fun _ hk => hk.2) (.int .i64 t324)) (fun _ hk => hk.2) (.int .i64 t325)) (fun _ hk => hk.2) (.int .i64 t326)) (fun _ hk => hk.2) (.int .i64 t327)) (fun _ h_ => h_.1)) (fun _ h_ => h_.1)))) (by decide) hg); have n1_ := am_ (Kd.R_over' (by (with_reducible repeat (first | apply Kd.R_alloc | apply Kd.R_drewN | apply Kd.R_drew)); exact (Kd.R_mono (Kd.R_mono (Kd.R_far (p := ⟨gb306, 8, none⟩) (Kd.R_far (p := ⟨gb306, 7, none⟩) (Kd.R_far (p := ⟨gb306, 6, none⟩) (Kd.R_far (p := ⟨gb306, 5, none⟩) (Kd.R_far (p := ⟨gb306, 4, none⟩) (Kd.R_far (p := ⟨gb306, 3, none⟩) (Kd.R_far (p := ⟨gb253, 2, none⟩) (Kd.R_far (p := ⟨gb253, 1, none⟩) (Kd.R_far (p := ⟨gb253, 0, none⟩) (Kd.R_types (Kd.R_types HO_246002.out BK253.out (by decide)) BK306.out (by decide)) (fun _ hk => hk.1.2) (.string t319)) (fun _ hk => hk.1.2) (.int .i64 t320)) (fun _ hk => hk.1.2) (.bool t321)) (fun _ hk => hk.2) (.int .i64 t322)) (fun _ hk => hk.2) (.int .i64 t323)) (fun _ hk => hk.2) (.int .i64 t324)) (fun _ hk => hk.2) (.int .i64 t325)) (fun _ hk => hk.2) (.int .i64 t326)) (fun _ hk => hk.2) (.int .i64 t327)) (fun _ h_ => h_.1)) (fun _ h_ => h_.1))) (Kd.R_typed (by (with_reducible repeat (first | apply Kd.R_alloc | apply Kd.R_drewN | apply Kd.R_drew)); exact (Kd.R_mono (Kd.R_mono (Kd.R_far (p := ⟨gb306, 8, none⟩) (Kd.R_far (p := ⟨gb306, 7, none⟩) (Kd.R_far (p := ⟨gb306, 6, none⟩) (Kd.R_far (p := ⟨gb306, 5, none⟩) (Kd.R_far (p := ⟨gb306, 4, none⟩) (Kd.R_far (p := ⟨gb306, 3, none⟩) (Kd.R_far (p := ⟨gb253, 2, none⟩) (Kd.R_far (p := ⟨gb253, 1, none⟩) (Kd.R_far (p := ⟨gb253, 0, none⟩) (Kd.R_mono (Kd.R_types HO_246001.out BK253.out (by decide)) (fun k_ hk => (⟨hk, hk.1.2⟩ : _ ∧ k_ ≠ gb306))) (fun _ hk => hk.1.2) (.string t319)) (fun _ hk => hk.1.2) (.int .i64 t320)) (fun _ hk => hk.1.2) (.bool t321)) (fun _ hk => hk.2) (.int .i64 t322)) (fun _ hk => hk.2) (.int .i64 t323)) (fun _ hk => hk.2) (.int .i64 t324)) (fun _ hk => hk.2) (.int .i64 t325)) (fun _ hk => hk.2) (.int .i64 t326)) (fun _ hk => hk.2) (.int .i64 t327)) (fun _ h_ => h_.1)) (fun _ h_ => h_.1)))) (by decide) hg); have n2_ := am_ (blk_grown (g := gb244) (o := .cells #[.int .i64 0, .slice none 0 0, .slice none 0 0] 26 (0, 0)) (by refine bp_ ?_; refine blk_far ?_ NB244_306.out _; refine bp_ ?_; refine blk_far ?_ NB244_306.out _; refine bp_ ?_; refine blk_far ?_ NB244_306.out _; refine bp_ ?_; refine blk_far ?_ NB244_306.out _; refine bp_ ?_; refine blk_far ?_ NB244_306.out _; refine bp_ ?_; refine blk_far ?_ NB244_306.out _; refine bp_ ?_; refine blk_far ?_ NB244_253.out _; refine bp_ ?_; refine blk_far ?_ NB244_253.out _; refine bp_ ?_; refine blk_far ?_ NB244_253.out _; exact bk_ BK244.out) hg (Kd.R_ne HO_246001.out BK244.out (by decide))); have n3_ := am_ (blk_grown (g := gb245) (o := .cells #[.int .i64 t257, u246001, u246002] 26 (0, 0)) (by refine bp_ ?_; refine blk_far ?_ NB245_306.out _; refine bp_ ?_; refine blk_far ?_ NB245_306.out _; refine bp_ ?_; refine blk_far ?_ NB245_306.out _; refine bp_ ?_; refine blk_far ?_ NB245_306.out _; refine bp_ ?_; refine blk_far ?_ NB245_306.out _; refine bp_ ?_; refine blk_far ?_ NB245_306.out _; refine bp_ ?_; refine blk_far ?_ NB245_253.out _; refine bp_ ?_; refine blk_far ?_ NB245_253.out _; refine bp_ ?_; refine blk_far ?_ NB245_253.out _; exact bk_ BK245.out) hg (Kd.R_ne HO_246001.out BK245.out (by decide))); have n4_ := am_ (blk_grown (g := gb253) (o := .cells #[.string t319, .int .i64 t320, .bool t321] 52 (0, 0)) (by refine bp_ ?_; refine blk_far ?_ NB253_306.out _; refine bp_ ?_; refine blk_far ?_ NB253_306.out _; refine bp_ ?_; refine blk_far ?_ NB253_306.out _; refine bp_ ?_; refine blk_far ?_ NB253_306.out _; refine bp_ ?_; refine blk_far ?_ NB253_306.out _; refine bp_ ?_; refine blk_far ?_ NB253_306.out _; refine bp_ ?_; refine blk_put (cs := #[.string t319, .int .i64 t320, .bool t317]) ?_ 2 _ rfl; refine bp_ ?_; refine blk_put (cs := #[.string t319, .int .i64 t316, .bool t317]) ?_ 1 _ rfl; refine bp_ ?_; refine blk_put (cs := #[.string t315, .int .i64 t316, .bool t317]) ?_ 0 _ rfl; exact bk_ BK253.out) hg (Kd.R_ne HO_246001.out BK253.out (by decide))); have n5_ := am_ (blk_grown (g := gb306) (o := .cells #[.string t310, .int .i64 t314, .int .i64 t318, .int .i64 t322, .int .i64 t323, .int .i64 t324, .int .i64 t325, .int .i64 t326, .int .i64 t327] 41 (0, 0)) (by refine bp_ ?_; refine blk_put (cs := #[.string t310, .int .i64 t314, .int .i64 t318, .int .i64 t322, .int .i64 t323, .int .i64 t324, .int .i64 t325, .int .i64 t326, .int .i64 0]) ?_ 8 _ rfl; refine bp_ ?_; refine blk_put (cs := #[.string t310, .int .i64 t314, .int .i64 t318, .int .i64 t322, .int .i64 t323, .int .i64 t324, .int .i64 t325, .int .i64 0, .int .i64 0]) ?_ 7 _ rfl; refine bp_ ?_; refine blk_put (cs := #[.string t310, .int .i64 t314, .int .i64 t318, .int .i64 t322, .int .i64 t323, .int .i64 t324, .int .i64 0, .int .i64 0, .int .i64 0]) ?_ 6 _ rfl; refine bp_ ?_; refine blk_put (cs := #[.string t310, .int .i64 t314, .int .i64 t318, .int .i64 t322, .int .i64 t323, .int .i64 0, .int .i64 0, .int .i64 0, .int .i64 0]) ?_ 5 _ rfl; refine bp_ ?_; refine blk_put (cs := #[.string t310, .int .i64 t314, .int .i64 t318, .int .i64 t322, .int .i64 0, .int .i64 0, .int .i64 0, .int .i64 0, .int .i64 0]) ?_ 4 _ rfl; refine bp_ ?_; refine blk_put (cs := #[.string t310, .int .i64 t314, .int .i64 t318, .int .i64 0, .int .i64 0, .int .i64 0, .int .i64 0, .int .i64 0, .int .i64 0]) ?_ 3 _ rfl; refine bp_ ?_; refine blk_far ?_ NB306_253.out _; refine bp_ ?_; refine blk_far ?_ NB306_253.out _; refine bp_ ?_; refine blk_far ?_ NB306_253.out _; exact bk_ BK306.out) hg (Kd.R_away HO_246001.out (fun _ hk => hk.2))); have n6_ := am_ (hb); have n7_ := am_ (ho); clear HO_8; clear HO_246002; clear BK244; clear BK245; clear BK253; clear BK306; clear HB; clear HO_246001; have HO_8 := n0_; have HO_246002 := n1_; have BK244 := n2_; have BK245 := n3_; have BK253 := n4_; have BK306 := n5_; have HB := n6_; have HO330 := n7_; clear n0_ n1_ n2_ n3_ n4_ n5_ n6_ n7_; clear ho hb hg hat; obtain ⟨Ao134, co134, eo134⟩ := Kd.R_slice HO330.out; subst eo134; obtain ⟨hcz135_0, hcz135_1, hcz135_2⟩ := cz3_ BK245.out; obtain ⟨hfz135_0, hfz135_1, hfz135_2⟩ := fz3_ BK245.out))
     go_roundg kj63
     case measure => have := HK1.out; have := HJ63.out; omega
     case rel => exact ⟨(x8_63), (y328), (x246002_63), (t319), (t320), (t321), (.slice Ao134 y328.length co134), (u246002), H', ⟨by have := HK1.out; have := HJ63.out; omega⟩, ⟨fa_ HO_8 BK245⟩, ⟨fa_ HO330 BK245⟩, ⟨fa_ HO_246002 BK245⟩, ⟨bf1_ NB244_245 BK244⟩, ⟨by refine bp_ ?_; refine blk_put (cs := #[.int .i64 t257, u246001, u246002]) ?_ 1 _ rfl; exact bk_ BK245.out⟩, ⟨bf1_ NB253_245 BK253⟩, ⟨bh_⟩⟩
end Go.Proofs.YtlfokdbnbmebiaaDoor.Q
end
